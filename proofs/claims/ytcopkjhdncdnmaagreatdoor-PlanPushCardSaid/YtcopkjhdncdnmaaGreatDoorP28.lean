/- Lemmas. -/
import Derived.Test.YtcopkjhdncdnmaaGreatDoorP26
import Derived.Test.YtcopkjhdncdnmaaGreatDoorP27
set_option linter.unusedVariables false
set_option linter.unusedSimpArgs false
set_option maxRecDepth 100000
set_option maxHeartbeats 4000000
namespace Go.Civ
open Go.Proofs
theorem Zns {G : GH} {w : World} (hG : G.In w) (l : List Cond) (pf : Cond → Bool) (vl : Value) (hvl : Sl CndE 96 G vl l) (fid : Nat) (fcap : Array Value) (hf : FnB Tryz.prog (Is CndE) fid fcap G (fun x=>x ∈ l) pf) : CL Tryz.prog (nat_lit 226) #[vl, .func (.func fid) #[] fcap] [] w G fun _ _ r=>r = U (YP pf l):=by
 refine Zo ft [] Tryz.func226 V V ?_
 have hS:=St.start (X:=[]) hG
 have V1:=hvl.bound
 refine Zl hvl Y2 V V ?_
 refine LP.go ft [] (fun m ρ1 w1=>∃ (k1 : Nat),∃ (G1 : GH),m = l.length - k1 ∧ G.le G1 ∧ St w [] G G1 [] w1 ∧ FR ρ1 [(0,vl),(1, .func (.func fid) #[] fcap),(7,U (l.length : Int)),(8,U (k1 : Int))] ∧ k1 ≤ l.length ∧ ∀ j,j < k1 → ∀ x,l[j]? = some x → pf x = false) _ ⟨0,G,V,(G.le_refl),hS,(Yt V),(by omega),(by intro j hj; omega)⟩ ?_
 rintro m ρ1 w1 ⟨k1,G1,rfl,L1,S1,F9,f1,f2⟩
 refine F9.set ?_
 clear F9
 refine Z1 (k1 : Int) (l.length : Int) V V V (fun h1=>?_) (fun h1=>?_)
 ·refine WL.indexAddr (hvl.mono L1) k1 (by omega) Y2 Z5 V V V V (fun p1 x1 U1 E1=>?_)
  obtain ⟨D1,C1,R1⟩:=E1
  obtain ⟨v1,rfl,B1,B2,B3,B4,B5,B6,A1⟩:=ZO R1
  refine Zc S1 C1 [U x1.kind,Zb x1.col,Zb x1.oth,U x1.v.k,U x1.v.n,Zb x1.v.s,v1] Z5 V V V V V ?_
  refine Zw S1 hf.body V V V (hf.call _ _ (.agg #[U x1.kind,Zb x1.col,Zb x1.oth,U x1.v.k,U x1.v.n,Zb x1.v.s,v1]) x1 L1 S1.imm (List.mem_of_getElem? U1) ⟨_,V,(ZJ x1 B1 B2 B3 B4 B5 B6 A1)⟩) (fun w2 G2 S2 L2=>?_)
  refine WL.split (fun (h2 : (pf x1) = true)=>?_) (fun (h2 : (pf x1) = false)=>?_)
  ·exact RI S2 V (by exact (Za2 _ ‹_› ‹_› ‹_›).symm)
  refine ZC k1 (by have:=Zm; omega) V V V ?_
  exact BK.mk' _ ⟨k1 + 1,G2,V,(L1.trans L2),S2,(Yt V),(by omega),(by exact Yz ‹_› ‹_› ‹_›)⟩ (show l.length - (k1 + 1) < l.length - k1 by omega)
 exact RI S1 V (by exact (QO ‹_› (by omega)).symm)
theorem ZjW {G : GH} {w : World} (hG : G.In w) (l : List Cond) (pf : Cond → Bool) (vl : Value) (hvl : Sl CndE 96 G vl l) (fid : Nat) (fcap : Array Value) (hf : FnB Tryz.prog (Is CndE) fid fcap G (fun x=>x ∈ l) pf) : CL Tryz.prog (nat_lit 131) #[vl, .func (.func fid) #[] fcap] [] w G fun _ _ r=>r = .bool (l.any pf):=by
 refine Zo ft [] Tryz.func131 V V ?_
 have hS:=St.start (X:=[]) hG
 refine Zw hS ZcB V V V (Zns hS.imm l pf _ hvl fid fcap (hf.up (G.le_refl))) (fun w1 G1 S1 L1=>?_)
 refine YK .geq V .i64 (YP pf l) 0 V V V ?_
 exact RB S1 V (by exact ZbM _ _)
theorem ZjX {G : GH} {w : World} (hG : G.In w) (n : Nat) (c : Cond) (l : List Col) (cc : List Value) (hcc : CndE.rep G c cc) (vl : Value) (hvl : Sl ColE 24 G vl l) (hn : Xn c n) : CL Tryz.prog (nat_lit 122) #[.agg cc.toArray,vl] [] w G fun _ _ r=>r = U (Xq n c l):=by
 exact Zqc hG n c l cc (Zgc hn hcc) vl hvl
theorem Znt {G : GH} {w : World} (hG : G.In w) (n : Nat) (c : Cond) (l : List Col) (cc : List Value) (hcc : CndE.rep G c cc) (vl : Value) (hvl : Sl ColE 24 G vl l) (hn : Xn c n) : CL Tryz.prog (nat_lit 212) #[.agg cc.toArray,vl] [] w G fun _ _ r=>r = U (Xq n c l):=by
 exact ZlU hG n c l cc (Zgc hn hcc) vl hvl
theorem ZlV {G : GH} {w : World} (hG : G.In w) (n : Nat) (c : Cond) (cc : List Value) (hcc : CndE.rep G c cc) (hn : Xn c n) : CL Tryz.prog (nat_lit 289) #[.agg cc.toArray] [] w G fun _ _ r=>r = .bool (decide (Ya n c 1 ≤ 60)):=by
 exact Zi2 hG n c cc (Zgc hn hcc)
def Zrx (n : Nat) : Prop:=∀ {G : GH} {w : World} (hG : G.In w) (c : Cond) (hg : Glob G) (cc : List Value) (hcc : CndE.rep G c cc) (hn : Xn c n),CL Tryz.prog (nat_lit 341) #[.agg cc.toArray] [] w G fun _ _ r=>r = .bool (qfF n c)
theorem ZlW {G : GH} {w : World} (hG : G.In w) (n : Nat) (x : Cond) (hN : Zrx n) (hg : Glob G) (cx : List Value) (hcx : CndE.rep G x cx) (hn : Xn x n) : CL Tryz.prog (nat_lit 397) #[.agg cx.toArray] [] w G fun _ _ r=>r = .bool (!qfF n x):=by
 refine Zo ft [] Tryz.func397 V V ?_
 have hS:=St.start (X:=[]) hG
 obtain ⟨v1,rfl,B1,B2,B3,B4,B5,B6,A1⟩:=ZO hcx
 refine ZL [U x.kind,Zb x.col,Zb x.oth,U x.v.k,U x.v.n,Zb x.v.s,v1] _ hS V V V (fun p1 w1 G1 L1 M1 C1 S1=>?_)
 refine Zc S1 C1 [U x.kind,Zb x.col,Zb x.oth,U x.v.k,U x.v.n,Zb x.v.s,v1] Z5 V V V V V ?_
 refine Zw S1 ZcI V V V (hN S1.imm x (hg.mono L1) _ (ZJ x B1 B2 B3 B4 B5 B6 (A1.mono L1)) ‹_›) (fun w2 G2 S2 L2=>?_)
 exact RB S2 V (by rfl)
theorem Znu (n : Nat) : ∀ {G : GH} {w : World} (hG : G.In w) (c : Cond) (hg : Glob G) (cc : List Value) (hcc : CndE.rep G c cc) (hn : Xn c n),CL Tryz.prog (nat_lit 341) #[.agg cc.toArray] [] w G fun _ _ r=>r = .bool (qfF n c):=by
 induction n
 ·intro G w hG c hg cc hcc hn; exact (XC hn).elim
 rename_i n ih
 intro G w hG c hg cc hcc hn
 refine Zo ft [] Tryz.func341 V V ?_
 have hS:=St.start (X:=[]) hG
 obtain ⟨v1,rfl,B1,B2,B3,B4,B5,B6,A1⟩:=ZO hcc
 refine ZL [U c.kind,Zb c.col,Zb c.oth,U c.v.k,U c.v.n,Zb c.v.s,v1] _ hS V V V (fun p1 w1 G1 L1 M1 C1 S1=>?_)
 refine Za S1 (YC.drop 0 C1) Z3 V V V ?_
 refine Zj c.kind 1 V V V (fun h1=>?_) (fun h1=>?_)
 ·refine Za S1 (YC.drop 1 C1) Zy V V V ?_
  refine Zw S1 Zat V V V (ZbR S1.imm c.col (hg.mono L1)) (fun w2 G2 S2 L2=>?_)
  refine WL.split (fun (h2 : (YB c.col) = true)=>?_) (fun (h2 : (YB c.col) = false)=>?_)
  ·refine Za S2 (YC.drop 2 (C1.mono L2)) Zy V V V <| Zn .eql V c.oth [] V V V ?_
   refine WL.split (fun h0=>?_) (fun h0=>?_)
   ·have h3 : c.oth = []:=by simpa [SCmp.b] using h0
    clear h0
    exact RB S2 V (by exact Zrq (by first | exact .inl ‹_› | exact .inr ‹_›) ‹_› ‹_›)
   have h3 : c.oth ≠ []:=by simpa [SCmp.b] using h0
   clear h0
   refine Za S2 (YC.drop 2 (C1.mono L2)) Zy V V V ?_
   refine Zw S2 Zat V V V (ZbR S2.imm c.oth (hg.mono (L1.trans L2))) (fun w3 G3 S3 L3=>?_)
   exact RB S3 V (by exact Zrr (by first | exact .inl ‹_› | exact .inr ‹_›) ‹_› ‹_›)
  exact RB S2 V (by exact Zrp (by first | exact .inl ‹_› | exact .inr ‹_›) ‹_›)
 refine Za S1 (YC.drop 0 C1) Z3 V V V ?_
 refine Zj c.kind 2 V V V (fun h4=>?_) (fun h4=>?_)
 ·refine Za S1 (YC.drop 1 C1) Zy V V V ?_
  refine Zw S1 Zat V V V (ZbR S1.imm c.col (hg.mono L1)) (fun w4 G4 S4 L4=>?_)
  refine WL.split (fun (h5 : (YB c.col) = true)=>?_) (fun (h5 : (YB c.col) = false)=>?_)
  ·refine Za S4 (YC.drop 2 (C1.mono L4)) Zy V V V <| Zn .eql V c.oth [] V V V ?_
   refine WL.split (fun h0=>?_) (fun h0=>?_)
   ·have h6 : c.oth = []:=by simpa [SCmp.b] using h0
    clear h0
    exact RB S4 V (by exact Zrq (by first | exact .inl ‹_› | exact .inr ‹_›) ‹_› ‹_›)
   have h6 : c.oth ≠ []:=by simpa [SCmp.b] using h0
   clear h0
   refine Za S4 (YC.drop 2 (C1.mono L4)) Zy V V V ?_
   refine Zw S4 Zat V V V (ZbR S4.imm c.oth (hg.mono (L1.trans L4))) (fun w5 G5 S5 L5=>?_)
   exact RB S5 V (by exact Zrr (by first | exact .inl ‹_› | exact .inr ‹_›) ‹_› ‹_›)
  exact RB S4 V (by exact Zrp (by first | exact .inl ‹_› | exact .inr ‹_›) ‹_›)
 refine Za S1 (YC.drop 6 C1) Y0 V V V ?_
 refine Zw S1 ZbD V V V (ZjW S1.imm c.l (fun x8=>!qfF n x8) _ (A1.mono L1) 397 #[] ⟨Zdx,fun G8 w8 v8 x8 L8 hG8 hon8 hA8=>by obtain ⟨cs_x8,rfl,hr_x8⟩:=hA8; exact ZlW hG8 n x8 ih ((hg.mono L1).mono L8) cs_x8 hr_x8 (YR hn hon8)⟩) (fun w6 G6 S6 L6=>?_)
 exact RB S6 V (by exact Ztl ‹_› ‹_›)
theorem ZoA (n : Nat) : ∀ {G : GH} {w : World} (hG : G.In w) (c : Cond) (cc : List Value) (hcc : CndE.rep G c cc) (hn : Xn c n),CL Tryz.prog (nat_lit 311) #[.agg cc.toArray] [] w G fun _ _ r=>r = .bool (Qc n c):=by
 induction n
 ·intro G w hG c cc hcc hn; exact (XC hn).elim
 rename_i n ih
 intro G w hG c cc hcc hn
 refine Zo ft [] Tryz.func311 V V ?_
 have hS:=St.start (X:=[]) hG
 obtain ⟨v1,rfl,B1,B2,B3,B4,B5,B6,A1⟩:=ZO hcc
 refine ZL [U c.kind,Zb c.col,Zb c.oth,U c.v.k,U c.v.n,Zb c.v.s,v1] _ hS V V V (fun p1 w1 G1 L1 M1 C1 S1=>?_)
 refine Za S1 (YC.drop 0 C1) Z3 V V V ?_
 refine Zj c.kind 1 V V V (fun h1=>?_) (fun h1=>?_)
 ·refine Za S1 (YC.drop 1 C1) Zy V V V ?_
  refine Zw S1 QC V V V (Zaf S1.imm c.col) (fun w2 G2 S2 L2=>?_)
  refine WL.split (fun (h2 : (YB c.col) = true)=>?_) (fun (h2 : (YB c.col) = false)=>?_)
  ·refine Za S2 (YC.drop 2 (C1.mono L2)) Zy V V V <| Zn .neq V c.oth [] V V V ?_
   refine WL.split (fun h0=>?_) (fun h0=>?_)
   ·have h3 : c.oth ≠ []:=by simpa [SCmp.b] using h0
    clear h0
    refine Za S2 (YC.drop 2 (C1.mono L2)) Zy V V V ?_
    refine Zw S2 QC V V V (Zaf S2.imm c.oth) (fun w3 G3 S3 L3=>?_)
    refine WL.split (fun (h4 : (YB c.oth) = true)=>?_) (fun (h4 : (YB c.oth) = false)=>?_)
    ·refine LP.go ft [] (fun m ρ1 w1=>∃ (k1 : Nat),∃ (G4 : GH),m = c.l.length - k1 ∧ G3.le G4 ∧ St w [] G G4 [] w1 ∧ FR ρ1 [(1,Zu p1),(3,U (k1 : Int))] ∧ k1 ≤ c.l.length ∧ ∀ j,j < k1 → ∀ x,c.l[j]? = some x → Qc n x = true) _ ⟨0,G3,V,(G3.le_refl),S3,⟨V,V,trivial⟩,(by omega),(by intro j hj; omega)⟩ ?_
     rintro m ρ1 w4 ⟨k1,G4,rfl,L4,S4,F9,f1,f2⟩
     refine F9.set ?_
     clear F9
     have j1:=((L2.trans L3).trans L4)
     refine Za S4 (YC.drop 6 (C1.mono j1)) Y0 V V V ?_
     have V1:=A1.bound
     have j2:=(((L1.trans L2).trans L3).trans L4)
     refine Zl (A1.mono j2) Y2 V V ?_
     refine Z1 (k1 : Int) (c.l.length : Int) V V V (fun h5=>?_) (fun h5=>?_)
     ·refine Za S4 (YC.drop 6 (C1.mono j1)) Y0 V V V ?_
      refine WL.indexAddr (A1.mono j2) k1 (by omega) Y2 Z5 V V V V (fun p2 x1 U1 E1=>?_)
      obtain ⟨D1,C2,R1⟩:=E1
      obtain ⟨v2,rfl,B7,ZK,hb9,Z9,Z7,Z6,A2⟩:=ZO R1
      refine Zc S4 C2 [U x1.kind,Zb x1.col,Zb x1.oth,U x1.v.k,U x1.v.n,Zb x1.v.s,v2] Z5 V V V V V ?_
      refine Zw S4 Zba V V V (ih S4.imm x1 _ (ZJ x1 B7 ZK hb9 Z9 Z7 Z6 A2) (YR hn (List.mem_of_getElem? ‹_›))) (fun w5 G5 S5 L5=>?_)
      refine WL.split (fun (h6 : (Qc n x1) = true)=>?_) (fun (h6 : (Qc n x1) = false)=>?_)
      ·refine ZC k1 (by have:=Zm; omega) V V V ?_
       exact BK.mk' _ ⟨k1 + 1,G5,V,(L4.trans L5),S5,⟨V,V,trivial⟩,(by omega),(by exact Yz ‹_› ‹_› ‹_›)⟩ (show c.l.length - (k1 + 1) < c.l.length - k1 by omega)
      exact RB S5 V (by exact ZjO ‹_› ‹_›)
     exact RB S4 V (by exact ZjP (by first | exact ZjQ ‹_› ‹_› | exact ZjR ‹_› ‹_› | exact ZjS ‹_› ‹_›) ‹_› (by omega))
    exact RB S3 V (by exact Zru (by first | exact .inl ‹_› | exact .inr ‹_›) ‹_› ‹_›)
   have h3 : c.oth = []:=by simpa [SCmp.b] using h0
   clear h0
   refine LP.go ft [] (fun m ρ1 w1=>∃ (k1 : Nat),∃ (G6 : GH),m = c.l.length - k1 ∧ G2.le G6 ∧ St w [] G G6 [] w1 ∧ FR ρ1 [(1,Zu p1),(3,U (k1 : Int))] ∧ k1 ≤ c.l.length ∧ ∀ j,j < k1 → ∀ x,c.l[j]? = some x → Qc n x = true) _ ⟨0,G2,V,(G2.le_refl),S2,⟨V,V,trivial⟩,(by omega),(by intro j hj; omega)⟩ ?_
   rintro m ρ1 w6 ⟨k1,G6,rfl,L6,S6,F9,f3,f4⟩
   refine F9.set ?_
   clear F9
   refine Za S6 (YC.drop 6 (C1.mono (L2.trans L6))) Y0 V V V ?_
   have V2:=A1.bound
   have j3:=((L1.trans L2).trans L6)
   refine Zl (A1.mono j3) Y2 V V ?_
   refine Z1 (k1 : Int) (c.l.length : Int) V V V (fun h7=>?_) (fun h7=>?_)
   ·refine Za S6 (YC.drop 6 (C1.mono (L2.trans L6))) Y0 V V V ?_
    refine WL.indexAddr (A1.mono j3) k1 (by omega) Y2 Z5 V V V V (fun p3 x2 U2 E2=>?_)
    obtain ⟨D2,C3,R2⟩:=E2
    obtain ⟨v3,rfl,ZV,Ye,Yd,B16,B17,Yf,A3⟩:=ZO R2
    refine Zc S6 C3 [U x2.kind,Zb x2.col,Zb x2.oth,U x2.v.k,U x2.v.n,Zb x2.v.s,v3] Z5 V V V V V ?_
    refine Zw S6 Zba V V V (ih S6.imm x2 _ (ZJ x2 ZV Ye Yd B16 B17 Yf A3) (YR hn (List.mem_of_getElem? ‹_›))) (fun w7 G7 S7 L7=>?_)
    refine WL.split (fun (h8 : (Qc n x2) = true)=>?_) (fun (h8 : (Qc n x2) = false)=>?_)
    ·refine ZC k1 (by have:=Zm; omega) V V V ?_
     exact BK.mk' _ ⟨k1 + 1,G7,V,(L6.trans L7),S7,⟨V,V,trivial⟩,(by omega),(by exact Yz ‹_› ‹_› ‹_›)⟩ (show c.l.length - (k1 + 1) < c.l.length - k1 by omega)
    exact RB S7 V (by exact ZjO ‹_› ‹_›)
   exact RB S6 V (by exact ZjP (by first | exact ZjQ ‹_› ‹_› | exact ZjR ‹_› ‹_› | exact ZjS ‹_› ‹_›) ‹_› (by omega))
  exact RB S2 V (by exact Zrt (by first | exact .inl ‹_› | exact .inr ‹_›) ‹_›)
 refine Za S1 (YC.drop 0 C1) Z3 V V V ?_
 refine Zj c.kind 2 V V V (fun h9=>?_) (fun h9=>?_)
 ·refine Za S1 (YC.drop 1 C1) Zy V V V ?_
  refine Zw S1 QC V V V (Zaf S1.imm c.col) (fun w9 G9 S8 L9=>?_)
  refine WL.split (fun (h10 : (YB c.col) = true)=>?_) (fun (h10 : (YB c.col) = false)=>?_)
  ·refine Za S8 (YC.drop 2 (C1.mono L9)) Zy V V V <| Zn .neq V c.oth [] V V V ?_
   refine WL.split (fun h0=>?_) (fun h0=>?_)
   ·have h11 : c.oth ≠ []:=by simpa [SCmp.b] using h0
    clear h0
    refine Za S8 (YC.drop 2 (C1.mono L9)) Zy V V V ?_
    refine Zw S8 QC V V V (Zaf S8.imm c.oth) (fun w10 G10 S9 L10=>?_)
    refine WL.split (fun (h12 : (YB c.oth) = true)=>?_) (fun (h12 : (YB c.oth) = false)=>?_)
    ·refine LP.go ft [] (fun m ρ1 w1=>∃ (k1 : Nat),∃ (G11 : GH),m = c.l.length - k1 ∧ G10.le G11 ∧ St w [] G G11 [] w1 ∧ FR ρ1 [(1,Zu p1),(3,U (k1 : Int))] ∧ k1 ≤ c.l.length ∧ ∀ j,j < k1 → ∀ x,c.l[j]? = some x → Qc n x = true) _ ⟨0,G10,V,(G10.le_refl),S9,⟨V,V,trivial⟩,(by omega),(by intro j hj; omega)⟩ ?_
     rintro m ρ1 w11 ⟨k1,G11,rfl,L11,S10,F9,f5,f6⟩
     refine F9.set ?_
     clear F9
     refine Za S10 (YC.drop 6 (C1.mono ((L9.trans L10).trans L11))) Y0 V V V ?_
     have V3:=A1.bound
     refine Zl (A1.mono (((L1.trans L9).trans L10).trans L11)) Y2 V V ?_
     refine Z1 (k1 : Int) (c.l.length : Int) V V V (fun h13=>?_) (fun h13=>?_)
     ·refine Za S10 (YC.drop 6 (C1.mono ((L9.trans L10).trans L11))) Y0 V V V ?_
      refine WL.indexAddr (A1.mono (((L1.trans L9).trans L10).trans L11)) k1 (by omega) Y2 Z5 V V V V (fun p4 x3 U3 E3=>?_)
      obtain ⟨D3,C4,R3⟩:=E3
      obtain ⟨v4,rfl,B19,B20,B21,B22,B23,B24,A4⟩:=ZO R3
      refine Zc S10 C4 [U x3.kind,Zb x3.col,Zb x3.oth,U x3.v.k,U x3.v.n,Zb x3.v.s,v4] Z5 V V V V V ?_
      refine Zw S10 Zba V V V (ih S10.imm x3 _ (ZJ x3 B19 B20 B21 B22 B23 B24 A4) (YR hn (List.mem_of_getElem? ‹_›))) (fun w12 G12 S11 L12=>?_)
      refine WL.split (fun (h14 : (Qc n x3) = true)=>?_) (fun (h14 : (Qc n x3) = false)=>?_)
      ·refine ZC k1 (by have:=Zm; omega) V V V ?_
       exact BK.mk' _ ⟨k1 + 1,G12,V,(L11.trans L12),S11,⟨V,V,trivial⟩,(by omega),(by exact Yz ‹_› ‹_› ‹_›)⟩ (show c.l.length - (k1 + 1) < c.l.length - k1 by omega)
      exact RB S11 V (by exact ZjO ‹_› ‹_›)
     exact RB S10 V (by exact ZjP (by first | exact ZjQ ‹_› ‹_› | exact ZjR ‹_› ‹_› | exact ZjS ‹_› ‹_›) ‹_› (by omega))
    exact RB S9 V (by exact Zru (by first | exact .inl ‹_› | exact .inr ‹_›) ‹_› ‹_›)
   have h11 : c.oth = []:=by simpa [SCmp.b] using h0
   clear h0
   refine LP.go ft [] (fun m ρ1 w1=>∃ (k1 : Nat),∃ (G13 : GH),m = c.l.length - k1 ∧ G9.le G13 ∧ St w [] G G13 [] w1 ∧ FR ρ1 [(1,Zu p1),(3,U (k1 : Int))] ∧ k1 ≤ c.l.length ∧ ∀ j,j < k1 → ∀ x,c.l[j]? = some x → Qc n x = true) _ ⟨0,G9,V,(G9.le_refl),S8,⟨V,V,trivial⟩,(by omega),(by intro j hj; omega)⟩ ?_
   rintro m ρ1 w13 ⟨k1,G13,rfl,L13,S12,F9,f7,f8⟩
   refine F9.set ?_
   clear F9
   refine Za S12 (YC.drop 6 (C1.mono (L9.trans L13))) Y0 V V V ?_
   have V4:=A1.bound
   refine Zl (A1.mono ((L1.trans L9).trans L13)) Y2 V V ?_
   refine Z1 (k1 : Int) (c.l.length : Int) V V V (fun h15=>?_) (fun h15=>?_)
   ·refine Za S12 (YC.drop 6 (C1.mono (L9.trans L13))) Y0 V V V ?_
    refine WL.indexAddr (A1.mono ((L1.trans L9).trans L13)) k1 (by omega) Y2 Z5 V V V V (fun p5 x4 U4 E4=>?_)
    obtain ⟨D4,C5,R4⟩:=E4
    obtain ⟨v5,rfl,X6,B26,B27,B28,B29,B30,A5⟩:=ZO R4
    refine Zc S12 C5 [U x4.kind,Zb x4.col,Zb x4.oth,U x4.v.k,U x4.v.n,Zb x4.v.s,v5] Z5 V V V V V ?_
    refine Zw S12 Zba V V V (ih S12.imm x4 _ (ZJ x4 X6 B26 B27 B28 B29 B30 A5) (YR hn (List.mem_of_getElem? ‹_›))) (fun w14 G14 S13 L14=>?_)
    refine WL.split (fun (h16 : (Qc n x4) = true)=>?_) (fun (h16 : (Qc n x4) = false)=>?_)
    ·refine ZC k1 (by have:=Zm; omega) V V V ?_
     exact BK.mk' _ ⟨k1 + 1,G14,V,(L13.trans L14),S13,⟨V,V,trivial⟩,(by omega),(by exact Yz ‹_› ‹_› ‹_›)⟩ (show c.l.length - (k1 + 1) < c.l.length - k1 by omega)
    exact RB S13 V (by exact ZjO ‹_› ‹_›)
   exact RB S12 V (by exact ZjP (by first | exact ZjQ ‹_› ‹_› | exact ZjR ‹_› ‹_› | exact ZjS ‹_› ‹_›) ‹_› (by omega))
  exact RB S8 V (by exact Zrt (by first | exact .inl ‹_› | exact .inr ‹_›) ‹_›)
 refine LP.go ft [] (fun m ρ1 w1=>∃ (k1 : Nat),∃ (G15 : GH),m = c.l.length - k1 ∧ G1.le G15 ∧ St w [] G G15 [] w1 ∧ FR ρ1 [(1,Zu p1),(3,U (k1 : Int))] ∧ k1 ≤ c.l.length ∧ ∀ j,j < k1 → ∀ x,c.l[j]? = some x → Qc n x = true) _ ⟨0,G1,V,(G1.le_refl),S1,⟨V,V,trivial⟩,(by omega),(by intro j hj; omega)⟩ ?_
 rintro m ρ1 w15 ⟨k1,G15,rfl,L15,S14,F9,f9,f10⟩
 refine F9.set ?_
 clear F9
 refine Za S14 (YC.drop 6 (C1.mono L15)) Y0 V V V ?_
 have V5:=A1.bound
 have j4:=(L1.trans L15)
 refine Zl (A1.mono j4) Y2 V V ?_
 refine Z1 (k1 : Int) (c.l.length : Int) V V V (fun h17=>?_) (fun h17=>?_)
 ·refine Za S14 (YC.drop 6 (C1.mono L15)) Y0 V V V ?_
  refine WL.indexAddr (A1.mono j4) k1 (by omega) Y2 Z5 V V V V (fun p6 x5 U5 E5=>?_)
  obtain ⟨D5,C6,R5⟩:=E5
  obtain ⟨v6,rfl,B31,B32,B33,XM,B35,B36,A6⟩:=ZO R5
  refine Zc S14 C6 [U x5.kind,Zb x5.col,Zb x5.oth,U x5.v.k,U x5.v.n,Zb x5.v.s,v6] Z5 V V V V V ?_
  refine Zw S14 Zba V V V (ih S14.imm x5 _ (ZJ x5 B31 B32 B33 XM B35 B36 A6) (YR hn (List.mem_of_getElem? ‹_›))) (fun w16 G16 S15 L16=>?_)
  refine WL.split (fun (h18 : (Qc n x5) = true)=>?_) (fun (h18 : (Qc n x5) = false)=>?_)
  ·refine ZC k1 (by have:=Zm; omega) V V V ?_
   exact BK.mk' _ ⟨k1 + 1,G16,V,(L15.trans L16),S15,⟨V,V,trivial⟩,(by omega),(by exact Yz ‹_› ‹_› ‹_›)⟩ (show c.l.length - (k1 + 1) < c.l.length - k1 by omega)
  exact RB S15 V (by exact ZjO ‹_› ‹_›)
 exact RB S14 V (by exact ZjP (by first | exact ZjQ ‹_› ‹_› | exact ZjR ‹_› ‹_› | exact ZjS ‹_› ‹_›) ‹_› (by omega))
theorem ZjY {G : GH} {w : World} (hG : G.In w) (n : Nat) (c : Cond) (hg : Glob G) (cc : List Value) (hcc : CndE.rep G c cc) (hn : Xn c n) : CL Tryz.prog (nat_lit 283) #[.agg cc.toArray] [] w G fun _ _ r=>r = .bool (ZaW n c):=by
 refine Zo ft [] Tryz.func283 V V ?_
 have hS:=St.start (X:=[]) hG
 obtain ⟨v1,rfl,B1,B2,B3,B4,B5,B6,A1⟩:=ZO hcc
 refine ZL [U c.kind,Zb c.col,Zb c.oth,U c.v.k,U c.v.n,Zb c.v.s,v1] _ hS V V V (fun p1 w1 G1 L1 M1 C1 S1=>?_)
 refine Zc S1 C1 [U c.kind,Zb c.col,Zb c.oth,U c.v.k,U c.v.n,Zb c.v.s,v1] Z5 V V V V V ?_
 refine Zw S1 Zap V V V (ZjX S1.imm n c [] _ (ZJ c B1 B2 B3 B4 B5 B6 (A1.mono L1)) _ (Sl.nil ColE 24 G1) ‹_›) (fun w2 G2 S2 L2=>?_)
 refine Z8 (Xq n c []) 1 V V V (fun h1=>?_) (fun h1=>?_)
 ·refine Zc S2 (C1.mono L2) [U c.kind,Zb c.col,Zb c.oth,U c.v.k,U c.v.n,Zb c.v.s,v1] Z5 V V V V V ?_
  refine Zw S2 ZcI V V V (Znu n S2.imm c (hg.mono (L1.trans L2)) _ (ZJ c B1 B2 B3 B4 B5 B6 (A1.mono (L1.trans L2))) ‹_›) (fun w3 G3 S3 L3=>?_)
  exact RB S3 V (by exact Zsx ‹_›)
 exact RB S2 V (by exact Zsw ‹_›)
theorem ZjZ {G : GH} {w : World} (hG : G.In w) (n : Nat) (c : Cond) (cc : List Value) (hcc : CndE.rep G c cc) (hn : Xn c n) : CL Tryz.prog (nat_lit 242) #[.agg cc.toArray] [] w G fun _ _ r=>r = .bool (ZaW n c):=by
 refine Zo ft [] Tryz.func242 V V ?_
 have hS:=St.start (X:=[]) hG
 obtain ⟨v1,rfl,B1,B2,B3,B4,B5,B6,A1⟩:=ZO hcc
 refine ZL [U c.kind,Zb c.col,Zb c.oth,U c.v.k,U c.v.n,Zb c.v.s,v1] _ hS V V V (fun p1 w1 G1 L1 M1 C1 S1=>?_)
 refine Zc S1 C1 [U c.kind,Zb c.col,Zb c.oth,U c.v.k,U c.v.n,Zb c.v.s,v1] Z5 V V V V V ?_
 refine Zw S1 ZcE V V V (ZlV S1.imm n c _ (ZJ c B1 B2 B3 B4 B5 B6 (A1.mono L1)) ‹_›) (fun w2 G2 S2 L2=>?_)
 refine WL.split (fun (h1 : (decide (Ya n c 1 ≤ 60)) = true)=>?_) (fun (h1 : (decide (Ya n c 1 ≤ 60)) = false)=>?_)
 ·refine Zc S2 (C1.mono L2) [U c.kind,Zb c.col,Zb c.oth,U c.v.k,U c.v.n,Zb c.v.s,v1] Z5 V V V V V ?_
  refine Zw S2 Zba V V V (ZoA n S2.imm c _ (ZJ c B1 B2 B3 B4 B5 B6 (A1.mono (L1.trans L2))) ‹_›) (fun w3 G3 S3 L3=>?_)
  exact RB S3 V (by exact Ztn (by first | assumption | exact of_decide_eq_true ‹_› | omega))
 exact RB S2 V (by exact Ztm (by first | assumption | exact of_decide_eq_false ‹_› | omega))
theorem Qx {G : GH} {w : World} (hG : G.In w) (c : Cond) (cc : List Value) (hcc : CndE.rep G c cc) : CL Tryz.prog (nat_lit 240) #[.agg cc.toArray] [] w G fun _ _ r=>r = .bool (YO c):=by
 refine Zo ft [] Tryz.func240 V V ?_
 have hS:=St.start (X:=[]) hG
 obtain ⟨v1,rfl,B1,B2,B3,B4,B5,B6,A1⟩:=ZO hcc
 refine ZL [U c.kind,Zb c.col,Zb c.oth,U c.v.k,U c.v.n,Zb c.v.s,v1] _ hS V V V (fun p1 w1 G1 L1 M1 C1 S1=>?_)
 refine Za S1 (YC.drop 0 C1) Z3 V V V ?_
 refine Zj c.kind 0 V V V (fun h1=>?_) (fun h1=>?_)
 ·refine Za S1 (YC.drop 1 C1) Zy V V V <| Zn .eql V c.col [] V V V ?_
  refine WL.split (fun h0=>?_) (fun h0=>?_)
  ·have h2 : c.col = []:=by simpa [SCmp.b] using h0
   clear h0
   refine Za S1 (YC.drop 2 C1) Zy V V V <| Zn .eql V c.oth [] V V V ?_
   refine WL.split (fun h0=>?_) (fun h0=>?_)
   ·have h3 : c.oth = []:=by simpa [SCmp.b] using h0
    clear h0
    refine Za S1 (YC.drop 0 (YC.drop 3 C1)) Z3 V V V ?_
    refine Zj c.v.k 0 V V V (fun h4=>?_) (fun h4=>?_)
    ·refine Za S1 (YC.drop 1 (YC.drop 3 C1)) Z3 V V V ?_
     refine Zj c.v.n 0 V V V (fun h5=>?_) (fun h5=>?_)
     ·refine Za S1 (YC.drop 2 (YC.drop 3 C1)) Zy V V V <| Zn .eql V c.v.s [] V V V ?_
      refine WL.split (fun h0=>?_) (fun h0=>?_)
      ·have h6 : c.v.s = []:=by simpa [SCmp.b] using h0
       clear h0
       refine Za S1 (YC.drop 6 C1) Y0 V V V ?_
       have V1:=A1.bound
       refine Zl (A1.mono L1) Y2 V V <| YK .eql V .i64 (c.l.length : Int) 0 V V V ?_
       exact RB S1 V (by unfold YO; simp_all [Cmp.b,SCmp.b,ZaX] <;> ((rw [Bool.eq_iff_iff]; simp <;> omega)))
      have h6 : c.v.s ≠ []:=by simpa [SCmp.b] using h0
      clear h0
      exact RB S1 V (by unfold YO; simp_all [Cmp.b,SCmp.b,ZaX] <;> (first | omega | (intros; omega) | (rw [Bool.eq_iff_iff]; simp <;> omega) | (rw [Bool.eq_iff_iff]; simp_all <;> omega)))
     exact RB S1 V (by unfold YO; simp_all [Cmp.b,SCmp.b,ZaX] <;> (first | omega | (intros; omega) | (rw [Bool.eq_iff_iff]; simp <;> omega) | (rw [Bool.eq_iff_iff]; simp_all <;> omega)))
    exact RB S1 V (by unfold YO; simp_all [Cmp.b,SCmp.b,ZaX] <;> (first | omega | (intros; omega) | (rw [Bool.eq_iff_iff]; simp <;> omega) | (rw [Bool.eq_iff_iff]; simp_all <;> omega)))
   have h3 : c.oth ≠ []:=by simpa [SCmp.b] using h0
   clear h0
   exact RB S1 V (by unfold YO; simp_all [Cmp.b,SCmp.b,ZaX] <;> (first | omega | (intros; omega) | (rw [Bool.eq_iff_iff]; simp <;> omega) | (rw [Bool.eq_iff_iff]; simp_all <;> omega)))
  have h2 : c.col ≠ []:=by simpa [SCmp.b] using h0
  clear h0
  exact RB S1 V (by unfold YO; simp_all [Cmp.b,SCmp.b,ZaX] <;> (first | omega | (intros; omega) | (rw [Bool.eq_iff_iff]; simp <;> omega) | (rw [Bool.eq_iff_iff]; simp_all <;> omega)))
 exact RB S1 V (by unfold YO; simp_all [Cmp.b,SCmp.b,ZaX] <;> (first | omega | (intros; omega) | (rw [Bool.eq_iff_iff]; simp <;> omega) | (rw [Bool.eq_iff_iff]; simp_all <;> omega)))
theorem Q6 {G : GH} {w : World} (hG : G.In w) (q : Query) (cq : List Value) (hcq : QryE.rep G q cq) : CL Tryz.prog (nat_lit 287) #[.agg cq.toArray] [] w G fun _ _ r=>r = .bool (Z4 q):=by
 refine Zo ft [] Tryz.func287 V V ?_
 have hS:=St.start (X:=[]) hG
 obtain ⟨v1,v2,v3,v4,rfl,B1,B2,A1,A2,B3,B4,B5,B6,B7,ZK,A3,hb9,Z9,Z7,Z6,A4⟩:=Ze hcq
 refine ZL [U q.kind,Zb q.table,v1,v2,U q.cond.kind,Zb q.cond.col,Zb q.cond.oth,U q.cond.v.k,U q.cond.v.n,Zb q.cond.v.s,v3,U q.rel,U q.fn,U q.span.a,U q.span.b,v4] _ hS V V V (fun p1 w1 G1 L1 M1 C1 S1=>?_)
 refine Zc S1 (YC.drop 4 C1) [U q.cond.kind,Zb q.cond.col,Zb q.cond.oth,U q.cond.v.k,U q.cond.v.n,Zb q.cond.v.s,v3] Z5 V V V V V ?_
 refine WL.alloc S1 Z5 V V (fun b1 w2 N1 S2=>?_)
 refine ZY S2 0 [U q.cond.kind,Zb q.cond.col,Zb q.cond.oth,U q.cond.v.k,U q.cond.v.n,Zb q.cond.v.s,v3] V V Z5 V V (by simp only [ZW,(A3.mono L1).oneC] <;> rfl) V V V (fun w3 S3=>?_)
 obtain ⟨G2,L2,C2,S4⟩:=S3.shutB N1
 refine Za S4 (YC.drop 1 (C1.mono L2)) Zy V V V <| Zn .eql V q.table [] V V V ?_
 refine WL.split (fun h0=>?_) (fun h0=>?_)
 ·have h1 : q.table = []:=by simpa [SCmp.b] using h0
  clear h0
  refine Za S4 (YC.drop 2 (C1.mono L2)) ZU V V V ?_
  have V1:=A1.bound
  have j1:=(L1.trans L2)
  refine Zl (A1.mono j1) Yo V V ?_
  refine Zj (q.cols.length : Int) 0 V V V (fun h2=>?_) (fun h2=>?_)
  ·refine Za S4 (YC.drop 3 (C1.mono L2)) ZU V V V ?_
   have V2:=A2.bound
   refine Zl (A2.mono j1) Yo V V ?_
   refine Zj (q.names.length : Int) 0 V V V (fun h3=>?_) (fun h3=>?_)
   ·refine Za S4 (YC.drop 0 C2) Z3 V V V ?_
    refine Zj q.cond.kind 0 V V V (fun h4=>?_) (fun h4=>?_)
    ·refine Za S4 (YC.drop 1 C2) Zy V V V <| Zn .eql V q.cond.col [] V V V ?_
     refine WL.split (fun h0=>?_) (fun h0=>?_)
     ·have h5 : q.cond.col = []:=by simpa [SCmp.b] using h0
      clear h0
      refine Za S4 (YC.drop 2 C2) Zy V V V <| Zn .eql V q.cond.oth [] V V V ?_
      refine WL.split (fun h0=>?_) (fun h0=>?_)
      ·have h6 : q.cond.oth = []:=by simpa [SCmp.b] using h0
       clear h0
       refine Zc S4 (YC.drop 3 C2) [U q.cond.v.k,U q.cond.v.n,Zb q.cond.v.s] X5 V V V V V <| WL.build _ [] [U 0,U 0,Zb []] X5 V ZlP V V V V <| Zfd (ZaQ q.cond.v (Val.mk 0 0 [])) ZcK V V V ?_
       refine WL.split (fun (h7 : (decide (q.cond.v = (Val.mk 0 0 []))) = true)=>?_) (fun (h7 : (decide (q.cond.v = (Val.mk 0 0 []))) = false)=>?_)
       ·refine Za S4 (YC.drop 6 C2) Y0 V V V ?_
        have V3:=A3.bound
        refine Zl (A3.mono j1) Y2 V V ?_
        refine Zj (q.cond.l.length : Int) 0 V V V (fun h8=>?_) (fun h8=>?_)
        ·refine Za S4 (YC.drop 11 (C1.mono L2)) Z3 V V V ?_
         refine Zj q.rel 0 V V V (fun h9=>?_) (fun h9=>?_)
         ·refine Za S4 (YC.drop 12 (C1.mono L2)) Z3 V V V ?_
          refine Zj q.fn 0 V V V (fun h10=>?_) (fun h10=>?_)
          ·refine Zc S4 (YC.drop 13 (C1.mono L2)) [U q.span.a,U q.span.b] Y7 V V V V V <| WL.build _ [] [U 0,U 0] Y7 V ZeH V V V V <| Zfd (ZgH q.span (Span.mk 0 0)) ZlR V V V ?_
           exact RB S4 V (by unfold Z4 YO; simp_all [Cmp.b,SCmp.b,ZaX,Yg] <;> (first | omega | (intros; omega) | (rw [Bool.eq_iff_iff]; simp <;> omega) | (rw [Bool.eq_iff_iff]; simp_all <;> omega)))
          exact RB S4 V (by unfold Z4 YO; simp_all [Cmp.b,SCmp.b,ZaX,Yg] <;> (first | omega | (intros; omega) | (rw [Bool.eq_iff_iff]; simp <;> omega) | (rw [Bool.eq_iff_iff]; simp_all <;> omega)))
         exact RB S4 V (by unfold Z4 YO; simp_all [Cmp.b,SCmp.b,ZaX,Yg] <;> (first | omega | (intros; omega) | (rw [Bool.eq_iff_iff]; simp <;> omega) | (rw [Bool.eq_iff_iff]; simp_all <;> omega)))
        exact RB S4 V (by unfold Z4 YO; simp_all [Cmp.b,SCmp.b,ZaX,Yg] <;> (first | omega | (intros; omega) | (rw [Bool.eq_iff_iff]; simp <;> omega) | (rw [Bool.eq_iff_iff]; simp_all <;> omega)))
       exact RB S4 V (by unfold Z4 YO; simp_all [Cmp.b,SCmp.b,ZaX,Yg] <;> (first | omega | (intros; omega) | (rw [Bool.eq_iff_iff]; simp <;> omega) | (rw [Bool.eq_iff_iff]; simp_all <;> omega)))
      have h6 : q.cond.oth ≠ []:=by simpa [SCmp.b] using h0
      clear h0
      exact RB S4 V (by unfold Z4 YO; simp_all [Cmp.b,SCmp.b,ZaX,Yg] <;> (first | omega | (intros; omega) | (rw [Bool.eq_iff_iff]; simp <;> omega) | (rw [Bool.eq_iff_iff]; simp_all <;> omega)))
     have h5 : q.cond.col ≠ []:=by simpa [SCmp.b] using h0
     clear h0
     exact RB S4 V (by unfold Z4 YO; simp_all [Cmp.b,SCmp.b,ZaX,Yg] <;> (first | omega | (intros; omega) | (rw [Bool.eq_iff_iff]; simp <;> omega) | (rw [Bool.eq_iff_iff]; simp_all <;> omega)))
    exact RB S4 V (by unfold Z4 YO; simp_all [Cmp.b,SCmp.b,ZaX,Yg] <;> (first | omega | (intros; omega) | (rw [Bool.eq_iff_iff]; simp <;> omega) | (rw [Bool.eq_iff_iff]; simp_all <;> omega)))
   exact RB S4 V (by unfold Z4 YO; simp_all [Cmp.b,SCmp.b,ZaX,Yg] <;> (first | omega | (intros; omega) | (rw [Bool.eq_iff_iff]; simp <;> omega) | (rw [Bool.eq_iff_iff]; simp_all <;> omega)))
  exact RB S4 V (by unfold Z4 YO; simp_all [Cmp.b,SCmp.b,ZaX,Yg] <;> (first | omega | (intros; omega) | (rw [Bool.eq_iff_iff]; simp <;> omega) | (rw [Bool.eq_iff_iff]; simp_all <;> omega)))
 have h1 : q.table ≠ []:=by simpa [SCmp.b] using h0
 clear h0
 exact RB S4 V (by unfold Z4 YO; simp_all [Cmp.b,SCmp.b,ZaX,Yg] <;> (first | omega | (intros; omega) | (rw [Bool.eq_iff_iff]; simp <;> omega) | (rw [Bool.eq_iff_iff]; simp_all <;> omega)))
end Go.Civ
