/- Lemmas. -/
import Derived.Test.YtecneejegecmhaaGreatDoorK22
set_option linter.unusedVariables false
set_option linter.unusedSimpArgs false
set_option linter.unnecessarySimpa false
set_option linter.unusedVariables false
set_option linter.unusedSimpArgs false
set_option maxRecDepth 100000
set_option maxHeartbeats 4000000
namespace Go.Civ
open Go.Proofs
theorem ZpZ {G : GH} {w : World} (hG : G.In w) (l : List Cond) (pf : Cond → Bool) (vl : Value) (hvl : Sl CndE 96 G vl l) (fid : Nat) (fcap : Array Value) (hf : FnB Tryz.prog (Is CndE) fid fcap G (fun x=>x ∈ l) pf) : CL Tryz.prog (nat_lit 80) #[vl, .func (.func fid) #[] fcap] [] w G fun _ _ r=>r = U (Qi pf l):=by
 refine Zg ft [] Tryz.func80 V V ?_
 have hS:=St.start (X:=[]) hG
 have V1:=hvl.bound
 refine Zm hvl Xr V V ?_
 refine LP.go ft [] (fun m ρ1 w1=>∃ (k1 : Nat),∃ (G1 : GH),m = l.length - k1 ∧ G.le G1 ∧ St w [] G G1 [] w1 ∧ FR ρ1 [(0,vl),(1, .func (.func fid) #[] fcap),(7,U (l.length : Int)),(8,U (k1 : Int))] ∧ k1 ≤ l.length ∧ ∀ j,j < k1 → ∀ x,l[j]? = some x → pf x = false) _ ⟨0,G,V,(G.le_refl),hS,(ZS V),(by omega),(by intro j hj; omega)⟩ ?_
 rintro m ρ1 w1 ⟨k1,G1,rfl,L1,S1,F9,f1,f2⟩
 refine F9.set ?_
 clear F9
 refine Zp (k1 : Int) (l.length : Int) V V V (fun h1=>?_) (fun h1=>?_)
 ·refine WL.indexAddr (hvl.mono L1) k1 (by omega) Xr ZY V V V V (fun p1 x1 U1 E1=>?_)
  obtain ⟨D1,C1,R1⟩:=E1
  obtain ⟨v1,rfl,B1,B2,Z7,Z5,ZD,hb6,A1⟩:=Yl R1
  refine Zc S1 C1 [U x1.kind,Za x1.col,Za x1.oth,U x1.v.k,U x1.v.n,Za x1.v.s,v1] ZY V V V V V ?_
  refine Zl S1 hf.body V V V (hf.call _ _ (.agg #[U x1.kind,Za x1.col,Za x1.oth,U x1.v.k,U x1.v.n,Za x1.v.s,v1]) x1 L1 S1.imm (List.mem_of_getElem? U1) ⟨_,V,(ZR x1 B1 B2 Z7 Z5 ZD hb6 A1)⟩) (fun w2 G2 S2 L2=>?_)
  refine WL.split (fun (h2 : (pf x1) = true)=>?_) (fun (h2 : (pf x1) = false)=>?_)
  ·exact RI S2 V (by exact (ZaY _ ‹_› ‹_› ‹_›).symm)
  refine Zq k1 (by have:=Zb; omega) V V V ?_
  exact BK.mk' _ ⟨k1 + 1,G2,V,(L1.trans L2),S2,(ZS V),(by omega),(by exact Ys ‹_› ‹_› ‹_›)⟩ (show l.length - (k1 + 1) < l.length - k1 by omega)
 exact RI S1 V (by exact (ZaB ‹_› (by omega)).symm)
theorem ZlM {G : GH} {w : World} (hG : G.In w) (l : List Cond) (pf : Cond → Bool) (vl : Value) (hvl : Sl CndE 96 G vl l) (fid : Nat) (fcap : Array Value) (hf : FnB Tryz.prog (Is CndE) fid fcap G (fun x=>x ∈ l) pf) : CL Tryz.prog (nat_lit 41) #[vl, .func (.func fid) #[] fcap] [] w G fun _ _ r=>r = .bool (l.any pf):=by
 refine Zg ft [] Tryz.func41 V V ?_
 have hS:=St.start (X:=[]) hG
 refine Zl hS Zep V V V (ZpZ hS.imm l pf _ hvl fid fcap (hf.up (G.le_refl))) (fun w1 G1 S1 L1=>?_)
 refine Yd .geq V .i64 (Qi pf l) 0 V V V ?_
 exact RB S1 V (by exact Zcu _ _)
theorem ZlN {G : GH} {w : World} (hG : G.In w) (n : Nat) (c : Cond) (l : List Col) (cc : List Value) (hcc : CndE.rep G c cc) (vl : Value) (hvl : Sl ColE 24 G vl l) (hn : Qd c n) : CL Tryz.prog (nat_lit 113) #[.agg cc.toArray,vl] [] w G fun _ _ r=>r = U (Q3 n c l):=by
 exact ZuL hG n c l cc (Zi4 hn hcc) vl hvl
theorem Zoc {G : GH} {w : World} (hG : G.In w) (n : Nat) (c : Cond) (cc : List Value) (hcc : CndE.rep G c cc) (hn : Qd c n) : CL Tryz.prog (nat_lit 145) #[.agg cc.toArray] [] w G fun _ _ r=>r = .bool (decide (Yi n c 1 ≤ 60)):=by
 exact ZpY hG n c cc (Zi4 hn hcc)
def Zx6 (n : Nat) : Prop:=∀ {G : GH} {w : World} (hG : G.In w) (c : Cond) (hg : Glob G) (cc : List Value) (hcc : CndE.rep G c cc) (hn : Qd c n),CL Tryz.prog (nat_lit 204) #[.agg cc.toArray] [] w G fun _ _ r=>r = .bool (qfF n c)
theorem Zod {G : GH} {w : World} (hG : G.In w) (n : Nat) (x : Cond) (hN : Zx6 n) (hg : Glob G) (cx : List Value) (hcx : CndE.rep G x cx) (hn : Qd x n) : CL Tryz.prog (nat_lit 226) #[.agg cx.toArray] [] w G fun _ _ r=>r = .bool (!qfF n x):=by
 refine Zg ft [] Tryz.func226 V V ?_
 have hS:=St.start (X:=[]) hG
 obtain ⟨v1,rfl,B1,B2,Z7,Z5,ZD,hb6,A1⟩:=Yl hcx
 refine Z4 [U x.kind,Za x.col,Za x.oth,U x.v.k,U x.v.n,Za x.v.s,v1] _ hS V V V (fun p1 w1 G1 L1 M1 C1 S1=>?_)
 refine Zc S1 C1 [U x.kind,Za x.col,Za x.oth,U x.v.k,U x.v.n,Za x.v.s,v1] ZY V V V V V ?_
 refine Zl S1 Ztx V V V (hN S1.imm x (hg.mono L1) _ (ZR x B1 B2 Z7 Z5 ZD hb6 (A1.mono L1)) ‹_›) (fun w2 G2 S2 L2=>?_)
 exact RB S2 V (by rfl)
theorem Zqa (n : Nat) : ∀ {G : GH} {w : World} (hG : G.In w) (c : Cond) (hg : Glob G) (cc : List Value) (hcc : CndE.rep G c cc) (hn : Qd c n),CL Tryz.prog (nat_lit 204) #[.agg cc.toArray] [] w G fun _ _ r=>r = .bool (qfF n c):=by
 induction n
 ·intro G w hG c hg cc hcc hn; exact (ZaU hn).elim
 rename_i n ih
 intro G w hG c hg cc hcc hn
 refine Zg ft [] Tryz.func204 V V ?_
 have hS:=St.start (X:=[]) hG
 obtain ⟨v1,rfl,B1,B2,Z7,Z5,ZD,hb6,A1⟩:=Yl hcc
 refine Z4 [U c.kind,Za c.col,Za c.oth,U c.v.k,U c.v.n,Za c.v.s,v1] _ hS V V V (fun p1 w1 G1 L1 M1 C1 S1=>?_)
 refine Z S1 (Xh.drop 0 C1) Zk V V V ?_
 refine Ze c.kind 1 V V V (fun h1=>?_) (fun h1=>?_)
 ·refine Z S1 (Xh.drop 1 C1) Zv V V V ?_
  refine Zl S1 ZdX V V V (ZbW S1.imm c.col (hg.mono L1)) (fun w2 G2 S2 L2=>?_)
  refine WL.split (fun (h2 : (YB c.col) = true)=>?_) (fun (h2 : (YB c.col) = false)=>?_)
  ·refine Z S2 (Xh.drop 2 (C1.mono L2)) Zv V V V <| Zn .eql V c.oth [] V V V ?_
   refine WL.split (fun h0=>?_) (fun h0=>?_)
   ·have h3 : c.oth = []:=by simpa [SCmp.b] using h0
    clear h0
    exact RB S2 V (by exact Zv8 (by exact .inl ‹_›) ‹_› ‹_›)
   have h3 : c.oth ≠ []:=by simpa [SCmp.b] using h0
   clear h0
   refine Z S2 (Xh.drop 2 (C1.mono L2)) Zv V V V ?_
   refine Zl S2 ZdX V V V (ZbW S2.imm c.oth (hg.mono (L1.trans L2))) (fun w3 G3 S3 L3=>?_)
   exact RB S3 V (by exact Zv9 (by exact .inl ‹_›) ‹_› ‹_›)
  exact RB S2 V (by exact Zv7 (by exact .inl ‹_›) ‹_›)
 refine Z S1 (Xh.drop 0 C1) Zk V V V ?_
 refine Ze c.kind 2 V V V (fun h4=>?_) (fun h4=>?_)
 ·refine Z S1 (Xh.drop 1 C1) Zv V V V ?_
  refine Zl S1 ZdX V V V (ZbW S1.imm c.col (hg.mono L1)) (fun w4 G4 S4 L4=>?_)
  refine WL.split (fun (h5 : (YB c.col) = true)=>?_) (fun (h5 : (YB c.col) = false)=>?_)
  ·refine Z S4 (Xh.drop 2 (C1.mono L4)) Zv V V V <| Zn .eql V c.oth [] V V V ?_
   refine WL.split (fun h0=>?_) (fun h0=>?_)
   ·have h6 : c.oth = []:=by simpa [SCmp.b] using h0
    clear h0
    exact RB S4 V (by exact Zv8 (by exact .inr ‹_›) ‹_› ‹_›)
   have h6 : c.oth ≠ []:=by simpa [SCmp.b] using h0
   clear h0
   refine Z S4 (Xh.drop 2 (C1.mono L4)) Zv V V V ?_
   refine Zl S4 ZdX V V V (ZbW S4.imm c.oth (hg.mono (L1.trans L4))) (fun w5 G5 S5 L5=>?_)
   exact RB S5 V (by exact Zv9 (by exact .inr ‹_›) ‹_› ‹_›)
  exact RB S4 V (by exact Zv7 (by exact .inr ‹_›) ‹_›)
 refine Z S1 (Xh.drop 6 C1) XD V V V ?_
 refine Zl S1 Zb0 V V V (ZlM S1.imm c.l (fun x8=>!qfF n x8) _ (A1.mono L1) 226 #[] ⟨ZzJ,fun G8 w8 v8 x8 L8 hG8 hon8 hA8=>by obtain ⟨cs_x8,rfl,hr_x8⟩:=hA8; exact Zod hG8 n x8 ih ((hg.mono L1).mono L8) cs_x8 hr_x8 (Xb hn hon8)⟩) (fun w6 G6 S6 L6=>?_)
 exact RB S6 V (by exact Z04 ‹_› ‹_›)
theorem ZrH (n : Nat) : ∀ {G : GH} {w : World} (hG : G.In w) (c : Cond) (cc : List Value) (hcc : CndE.rep G c cc) (hn : Qd c n),CL Tryz.prog (nat_lit 146) #[.agg cc.toArray] [] w G fun _ _ r=>r = .bool (QA n c):=by
 induction n
 ·intro G w hG c cc hcc hn; exact (ZaU hn).elim
 rename_i n ih
 intro G w hG c cc hcc hn
 refine Zg ft [] Tryz.func146 V V ?_
 have hS:=St.start (X:=[]) hG
 obtain ⟨v1,rfl,B1,B2,Z7,Z5,ZD,hb6,A1⟩:=Yl hcc
 refine Z4 [U c.kind,Za c.col,Za c.oth,U c.v.k,U c.v.n,Za c.v.s,v1] _ hS V V V (fun p1 w1 G1 L1 M1 C1 S1=>?_)
 refine Z S1 (Xh.drop 0 C1) Zk V V V ?_
 refine Ze c.kind 1 V V V (fun h1=>?_) (fun h1=>?_)
 ·refine Z S1 (Xh.drop 1 C1) Zv V V V ?_
  refine Zl S1 Zb4 V V V (Zau S1.imm c.col) (fun w2 G2 S2 L2=>?_)
  refine WL.split (fun (h2 : (YB c.col) = true)=>?_) (fun (h2 : (YB c.col) = false)=>?_)
  ·refine Z S2 (Xh.drop 2 (C1.mono L2)) Zv V V V <| Zn .neq V c.oth [] V V V ?_
   refine WL.split (fun h0=>?_) (fun h0=>?_)
   ·have h3 : c.oth ≠ []:=by simpa [SCmp.b] using h0
    clear h0
    refine Z S2 (Xh.drop 2 (C1.mono L2)) Zv V V V ?_
    refine Zl S2 Zb4 V V V (Zau S2.imm c.oth) (fun w3 G3 S3 L3=>?_)
    refine WL.split (fun (h4 : (YB c.oth) = true)=>?_) (fun (h4 : (YB c.oth) = false)=>?_)
    ·refine LP.go ft [] (fun m ρ1 w1=>∃ (k1 : Nat),∃ (G4 : GH),m = c.l.length - k1 ∧ G3.le G4 ∧ St w [] G G4 [] w1 ∧ FR ρ1 [(1,ZP p1),(3,U (k1 : Int))] ∧ k1 ≤ c.l.length ∧ ∀ j,j < k1 → ∀ x,c.l[j]? = some x → QA n x = true) _ ⟨0,G3,V,(G3.le_refl),S3,⟨V,V,trivial⟩,(by omega),(by intro j hj; omega)⟩ ?_
     rintro m ρ1 w4 ⟨k1,G4,rfl,L4,S4,F9,f1,f2⟩
     refine F9.set ?_
     clear F9
     have j1:=((L2.trans L3).trans L4)
     refine Z S4 (Xh.drop 6 (C1.mono j1)) XD V V V ?_
     have V1:=A1.bound
     have j2:=(((L1.trans L2).trans L3).trans L4)
     refine Zm (A1.mono j2) Xr V V ?_
     refine Zp (k1 : Int) (c.l.length : Int) V V V (fun h5=>?_) (fun h5=>?_)
     ·refine Z S4 (Xh.drop 6 (C1.mono j1)) XD V V V ?_
      refine WL.indexAddr (A1.mono j2) k1 (by omega) Xr ZY V V V V (fun p2 x1 U1 E1=>?_)
      obtain ⟨D1,C2,R1⟩:=E1
      obtain ⟨v2,rfl,hb7,ZV,hb9,ZI,ZJ,ZL,A2⟩:=Yl R1
      refine Zc S4 C2 [U x1.kind,Za x1.col,Za x1.oth,U x1.v.k,U x1.v.n,Za x1.v.s,v2] ZY V V V V V ?_
      refine Zl S4 Zg8 V V V (ih S4.imm x1 _ (ZR x1 hb7 ZV hb9 ZI ZJ ZL A2) (Xb hn (List.mem_of_getElem? ‹_›))) (fun w5 G5 S5 L5=>?_)
      refine WL.split (fun (h6 : (QA n x1) = true)=>?_) (fun (h6 : (QA n x1) = false)=>?_)
      ·refine Zq k1 (by have:=Zb; omega) V V V ?_
       exact BK.mk' _ ⟨k1 + 1,G5,V,(L4.trans L5),S5,⟨V,V,trivial⟩,(by omega),(by exact Ys ‹_› ‹_› ‹_›)⟩ (show c.l.length - (k1 + 1) < c.l.length - k1 by omega)
      exact RB S5 V (by exact ZkQ ‹_› ‹_›)
     exact RB S4 V (by exact ZkR (by exact ZvE ‹_› ‹_›) ‹_› (by omega))
    exact RB S3 V (by exact ZvC (by exact .inl ‹_›) ‹_› ‹_›)
   have h3 : c.oth = []:=by simpa [SCmp.b] using h0
   clear h0
   refine LP.go ft [] (fun m ρ1 w1=>∃ (k1 : Nat),∃ (G6 : GH),m = c.l.length - k1 ∧ G2.le G6 ∧ St w [] G G6 [] w1 ∧ FR ρ1 [(1,ZP p1),(3,U (k1 : Int))] ∧ k1 ≤ c.l.length ∧ ∀ j,j < k1 → ∀ x,c.l[j]? = some x → QA n x = true) _ ⟨0,G2,V,(G2.le_refl),S2,⟨V,V,trivial⟩,(by omega),(by intro j hj; omega)⟩ ?_
   rintro m ρ1 w6 ⟨k1,G6,rfl,L6,S6,F9,f3,f4⟩
   refine F9.set ?_
   clear F9
   refine Z S6 (Xh.drop 6 (C1.mono (L2.trans L6))) XD V V V ?_
   have V2:=A1.bound
   have j3:=((L1.trans L2).trans L6)
   refine Zm (A1.mono j3) Xr V V ?_
   refine Zp (k1 : Int) (c.l.length : Int) V V V (fun h7=>?_) (fun h7=>?_)
   ·refine Z S6 (Xh.drop 6 (C1.mono (L2.trans L6))) XD V V V ?_
    refine WL.indexAddr (A1.mono j3) k1 (by omega) Xr ZY V V V V (fun p3 x2 U2 E2=>?_)
    obtain ⟨D2,C3,R2⟩:=E2
    obtain ⟨v3,rfl,Y0,Y6,YA,Y9,Yr,YH,A3⟩:=Yl R2
    refine Zc S6 C3 [U x2.kind,Za x2.col,Za x2.oth,U x2.v.k,U x2.v.n,Za x2.v.s,v3] ZY V V V V V ?_
    refine Zl S6 Zg8 V V V (ih S6.imm x2 _ (ZR x2 Y0 Y6 YA Y9 Yr YH A3) (Xb hn (List.mem_of_getElem? ‹_›))) (fun w7 G7 S7 L7=>?_)
    refine WL.split (fun (h8 : (QA n x2) = true)=>?_) (fun (h8 : (QA n x2) = false)=>?_)
    ·refine Zq k1 (by have:=Zb; omega) V V V ?_
     exact BK.mk' _ ⟨k1 + 1,G7,V,(L6.trans L7),S7,⟨V,V,trivial⟩,(by omega),(by exact Ys ‹_› ‹_› ‹_›)⟩ (show c.l.length - (k1 + 1) < c.l.length - k1 by omega)
    exact RB S7 V (by exact ZkQ ‹_› ‹_›)
   exact RB S6 V (by exact ZkR (by exact ZvD ‹_› ‹_›) ‹_› (by omega))
  exact RB S2 V (by exact ZvB (by exact .inl ‹_›) ‹_›)
 refine Z S1 (Xh.drop 0 C1) Zk V V V ?_
 refine Ze c.kind 2 V V V (fun h9=>?_) (fun h9=>?_)
 ·refine Z S1 (Xh.drop 1 C1) Zv V V V ?_
  refine Zl S1 Zb4 V V V (Zau S1.imm c.col) (fun w9 G9 S8 L9=>?_)
  refine WL.split (fun (h10 : (YB c.col) = true)=>?_) (fun (h10 : (YB c.col) = false)=>?_)
  ·refine Z S8 (Xh.drop 2 (C1.mono L9)) Zv V V V <| Zn .neq V c.oth [] V V V ?_
   refine WL.split (fun h0=>?_) (fun h0=>?_)
   ·have h11 : c.oth ≠ []:=by simpa [SCmp.b] using h0
    clear h0
    refine Z S8 (Xh.drop 2 (C1.mono L9)) Zv V V V ?_
    refine Zl S8 Zb4 V V V (Zau S8.imm c.oth) (fun w10 G10 S9 L10=>?_)
    refine WL.split (fun (h12 : (YB c.oth) = true)=>?_) (fun (h12 : (YB c.oth) = false)=>?_)
    ·refine LP.go ft [] (fun m ρ1 w1=>∃ (k1 : Nat),∃ (G11 : GH),m = c.l.length - k1 ∧ G10.le G11 ∧ St w [] G G11 [] w1 ∧ FR ρ1 [(1,ZP p1),(3,U (k1 : Int))] ∧ k1 ≤ c.l.length ∧ ∀ j,j < k1 → ∀ x,c.l[j]? = some x → QA n x = true) _ ⟨0,G10,V,(G10.le_refl),S9,⟨V,V,trivial⟩,(by omega),(by intro j hj; omega)⟩ ?_
     rintro m ρ1 w11 ⟨k1,G11,rfl,L11,S10,F9,f5,f6⟩
     refine F9.set ?_
     clear F9
     refine Z S10 (Xh.drop 6 (C1.mono ((L9.trans L10).trans L11))) XD V V V ?_
     have V3:=A1.bound
     refine Zm (A1.mono (((L1.trans L9).trans L10).trans L11)) Xr V V ?_
     refine Zp (k1 : Int) (c.l.length : Int) V V V (fun h13=>?_) (fun h13=>?_)
     ·refine Z S10 (Xh.drop 6 (C1.mono ((L9.trans L10).trans L11))) XD V V V ?_
      refine WL.indexAddr (A1.mono (((L1.trans L9).trans L10).trans L11)) k1 (by omega) Xr ZY V V V V (fun p4 x3 U3 E3=>?_)
      obtain ⟨D3,C4,R3⟩:=E3
      obtain ⟨v4,rfl,YJ,YO,Xf,Xg,YK,Xc,A4⟩:=Yl R3
      refine Zc S10 C4 [U x3.kind,Za x3.col,Za x3.oth,U x3.v.k,U x3.v.n,Za x3.v.s,v4] ZY V V V V V ?_
      refine Zl S10 Zg8 V V V (ih S10.imm x3 _ (ZR x3 YJ YO Xf Xg YK Xc A4) (Xb hn (List.mem_of_getElem? ‹_›))) (fun w12 G12 S11 L12=>?_)
      refine WL.split (fun (h14 : (QA n x3) = true)=>?_) (fun (h14 : (QA n x3) = false)=>?_)
      ·refine Zq k1 (by have:=Zb; omega) V V V ?_
       exact BK.mk' _ ⟨k1 + 1,G12,V,(L11.trans L12),S11,⟨V,V,trivial⟩,(by omega),(by exact Ys ‹_› ‹_› ‹_›)⟩ (show c.l.length - (k1 + 1) < c.l.length - k1 by omega)
      exact RB S11 V (by exact ZkQ ‹_› ‹_›)
     exact RB S10 V (by exact ZkR (by exact ZvE ‹_› ‹_›) ‹_› (by omega))
    exact RB S9 V (by exact ZvC (by exact .inr ‹_›) ‹_› ‹_›)
   have h11 : c.oth = []:=by simpa [SCmp.b] using h0
   clear h0
   refine LP.go ft [] (fun m ρ1 w1=>∃ (k1 : Nat),∃ (G13 : GH),m = c.l.length - k1 ∧ G9.le G13 ∧ St w [] G G13 [] w1 ∧ FR ρ1 [(1,ZP p1),(3,U (k1 : Int))] ∧ k1 ≤ c.l.length ∧ ∀ j,j < k1 → ∀ x,c.l[j]? = some x → QA n x = true) _ ⟨0,G9,V,(G9.le_refl),S8,⟨V,V,trivial⟩,(by omega),(by intro j hj; omega)⟩ ?_
   rintro m ρ1 w13 ⟨k1,G13,rfl,L13,S12,F9,f7,f8⟩
   refine F9.set ?_
   clear F9
   refine Z S12 (Xh.drop 6 (C1.mono (L9.trans L13))) XD V V V ?_
   have V4:=A1.bound
   refine Zm (A1.mono ((L1.trans L9).trans L13)) Xr V V ?_
   refine Zp (k1 : Int) (c.l.length : Int) V V V (fun h15=>?_) (fun h15=>?_)
   ·refine Z S12 (Xh.drop 6 (C1.mono (L9.trans L13))) XD V V V ?_
    refine WL.indexAddr (A1.mono ((L1.trans L9).trans L13)) k1 (by omega) Xr ZY V V V V (fun p5 x4 U4 E4=>?_)
    obtain ⟨D4,C5,R4⟩:=E4
    obtain ⟨v5,rfl,XR,Qa,Qh,Q0,Qs,Q1,A5⟩:=Yl R4
    refine Zc S12 C5 [U x4.kind,Za x4.col,Za x4.oth,U x4.v.k,U x4.v.n,Za x4.v.s,v5] ZY V V V V V ?_
    refine Zl S12 Zg8 V V V (ih S12.imm x4 _ (ZR x4 XR Qa Qh Q0 Qs Q1 A5) (Xb hn (List.mem_of_getElem? ‹_›))) (fun w14 G14 S13 L14=>?_)
    refine WL.split (fun (h16 : (QA n x4) = true)=>?_) (fun (h16 : (QA n x4) = false)=>?_)
    ·refine Zq k1 (by have:=Zb; omega) V V V ?_
     exact BK.mk' _ ⟨k1 + 1,G14,V,(L13.trans L14),S13,⟨V,V,trivial⟩,(by omega),(by exact Ys ‹_› ‹_› ‹_›)⟩ (show c.l.length - (k1 + 1) < c.l.length - k1 by omega)
    exact RB S13 V (by exact ZkQ ‹_› ‹_›)
   exact RB S12 V (by exact ZkR (by exact ZvD ‹_› ‹_›) ‹_› (by omega))
  exact RB S8 V (by exact ZvB (by exact .inr ‹_›) ‹_›)
 refine LP.go ft [] (fun m ρ1 w1=>∃ (k1 : Nat),∃ (G15 : GH),m = c.l.length - k1 ∧ G1.le G15 ∧ St w [] G G15 [] w1 ∧ FR ρ1 [(1,ZP p1),(3,U (k1 : Int))] ∧ k1 ≤ c.l.length ∧ ∀ j,j < k1 → ∀ x,c.l[j]? = some x → QA n x = true) _ ⟨0,G1,V,(G1.le_refl),S1,⟨V,V,trivial⟩,(by omega),(by intro j hj; omega)⟩ ?_
 rintro m ρ1 w15 ⟨k1,G15,rfl,L15,S14,F9,f9,f10⟩
 refine F9.set ?_
 clear F9
 refine Z S14 (Xh.drop 6 (C1.mono L15)) XD V V V ?_
 have V5:=A1.bound
 have j4:=(L1.trans L15)
 refine Zm (A1.mono j4) Xr V V ?_
 refine Zp (k1 : Int) (c.l.length : Int) V V V (fun h17=>?_) (fun h17=>?_)
 ·refine Z S14 (Xh.drop 6 (C1.mono L15)) XD V V V ?_
  refine WL.indexAddr (A1.mono j4) k1 (by omega) Xr ZY V V V V (fun p6 x5 U5 E5=>?_)
  obtain ⟨D5,C6,R5⟩:=E5
  obtain ⟨v6,rfl,Qb,Xw,Qt,XS,Qc,Qu,A6⟩:=Yl R5
  refine Zc S14 C6 [U x5.kind,Za x5.col,Za x5.oth,U x5.v.k,U x5.v.n,Za x5.v.s,v6] ZY V V V V V ?_
  refine Zl S14 Zg8 V V V (ih S14.imm x5 _ (ZR x5 Qb Xw Qt XS Qc Qu A6) (Xb hn (List.mem_of_getElem? ‹_›))) (fun w16 G16 S15 L16=>?_)
  refine WL.split (fun (h18 : (QA n x5) = true)=>?_) (fun (h18 : (QA n x5) = false)=>?_)
  ·refine Zq k1 (by have:=Zb; omega) V V V ?_
   exact BK.mk' _ ⟨k1 + 1,G16,V,(L15.trans L16),S15,⟨V,V,trivial⟩,(by omega),(by exact Ys ‹_› ‹_› ‹_›)⟩ (show c.l.length - (k1 + 1) < c.l.length - k1 by omega)
  exact RB S15 V (by exact ZkQ ‹_› ‹_›)
 exact RB S14 V (by exact ZkR (by exact Z05 ‹_› ‹_›) ‹_› (by omega))
theorem ZlO {G : GH} {w : World} (hG : G.In w) (n : Nat) (c : Cond) (hg : Glob G) (cc : List Value) (hcc : CndE.rep G c cc) (hn : Qd c n) : CL Tryz.prog (nat_lit 162) #[.agg cc.toArray] [] w G fun _ _ r=>r = .bool (ZaI n c):=by
 refine Zg ft [] Tryz.func162 V V ?_
 have hS:=St.start (X:=[]) hG
 obtain ⟨v1,rfl,B1,B2,Z7,Z5,ZD,hb6,A1⟩:=Yl hcc
 refine Z4 [U c.kind,Za c.col,Za c.oth,U c.v.k,U c.v.n,Za c.v.s,v1] _ hS V V V (fun p1 w1 G1 L1 M1 C1 S1=>?_)
 refine Zc S1 C1 [U c.kind,Za c.col,Za c.oth,U c.v.k,U c.v.n,Za c.v.s,v1] ZY V V V V V ?_
 refine Zl S1 ZdV V V V (ZlN S1.imm n c [] _ (ZR c B1 B2 Z7 Z5 ZD hb6 (A1.mono L1)) _ (Sl.nil ColE 24 G1) ‹_›) (fun w2 G2 S2 L2=>?_)
 refine Zz (Q3 n c []) 1 V V V (fun h1=>?_) (fun h1=>?_)
 ·refine Zc S2 (C1.mono L2) [U c.kind,Za c.col,Za c.oth,U c.v.k,U c.v.n,Za c.v.s,v1] ZY V V V V V ?_
  refine Zl S2 Ztx V V V (Zqa n S2.imm c (hg.mono (L1.trans L2)) _ (ZR c B1 B2 Z7 Z5 ZD hb6 (A1.mono (L1.trans L2))) ‹_›) (fun w3 G3 S3 L3=>?_)
  exact RB S3 V (by exact ZxX ‹_›)
 exact RB S2 V (by exact ZxW ‹_›)
theorem ZlP {G : GH} {w : World} (hG : G.In w) (n : Nat) (c : Cond) (cc : List Value) (hcc : CndE.rep G c cc) (hn : Qd c n) : CL Tryz.prog (nat_lit 99) #[.agg cc.toArray] [] w G fun _ _ r=>r = .bool (ZaI n c):=by
 refine Zg ft [] Tryz.func99 V V ?_
 have hS:=St.start (X:=[]) hG
 obtain ⟨v1,rfl,B1,B2,Z7,Z5,ZD,hb6,A1⟩:=Yl hcc
 refine Z4 [U c.kind,Za c.col,Za c.oth,U c.v.k,U c.v.n,Za c.v.s,v1] _ hS V V V (fun p1 w1 G1 L1 M1 C1 S1=>?_)
 refine Zc S1 C1 [U c.kind,Za c.col,Za c.oth,U c.v.k,U c.v.n,Za c.v.s,v1] ZY V V V V V ?_
 refine Zl S1 Zzk V V V (Zoc S1.imm n c _ (ZR c B1 B2 Z7 Z5 ZD hb6 (A1.mono L1)) ‹_›) (fun w2 G2 S2 L2=>?_)
 refine WL.split (fun (h1 : (decide (Yi n c 1 ≤ 60)) = true)=>?_) (fun (h1 : (decide (Yi n c 1 ≤ 60)) = false)=>?_)
 ·refine Zc S2 (C1.mono L2) [U c.kind,Za c.col,Za c.oth,U c.v.k,U c.v.n,Za c.v.s,v1] ZY V V V V V ?_
  refine Zl S2 Zg8 V V V (ZrH n S2.imm c _ (ZR c B1 B2 Z7 Z5 ZD hb6 (A1.mono (L1.trans L2))) ‹_›) (fun w3 G3 S3 L3=>?_)
  exact RB S3 V (by exact Z07 (by exact of_decide_eq_true ‹_›))
 exact RB S2 V (by exact Z06 (by exact of_decide_eq_false ‹_›))
theorem QY {G : GH} {w : World} (hG : G.In w) (c : Cond) (cc : List Value) (hcc : CndE.rep G c cc) : CL Tryz.prog (nat_lit 97) #[.agg cc.toArray] [] w G fun _ _ r=>r = .bool (YU c):=by
 refine Zg ft [] Tryz.func97 V V ?_
 have hS:=St.start (X:=[]) hG
 obtain ⟨v1,rfl,B1,B2,Z7,Z5,ZD,hb6,A1⟩:=Yl hcc
 refine Z4 [U c.kind,Za c.col,Za c.oth,U c.v.k,U c.v.n,Za c.v.s,v1] _ hS V V V (fun p1 w1 G1 L1 M1 C1 S1=>?_)
 refine Z S1 (Xh.drop 0 C1) Zk V V V ?_
 refine Ze c.kind 0 V V V (fun h1=>?_) (fun h1=>?_)
 ·refine Z S1 (Xh.drop 1 C1) Zv V V V <| Zn .eql V c.col [] V V V ?_
  refine WL.split (fun h0=>?_) (fun h0=>?_)
  ·have h2 : c.col = []:=by simpa [SCmp.b] using h0
   clear h0
   refine Z S1 (Xh.drop 2 C1) Zv V V V <| Zn .eql V c.oth [] V V V ?_
   refine WL.split (fun h0=>?_) (fun h0=>?_)
   ·have h3 : c.oth = []:=by simpa [SCmp.b] using h0
    clear h0
    refine Z S1 (Xh.drop 0 (Xh.drop 3 C1)) Zk V V V ?_
    refine Ze c.v.k 0 V V V (fun h4=>?_) (fun h4=>?_)
    ·refine Z S1 (Xh.drop 1 (Xh.drop 3 C1)) Zk V V V ?_
     refine Ze c.v.n 0 V V V (fun h5=>?_) (fun h5=>?_)
     ·refine Z S1 (Xh.drop 2 (Xh.drop 3 C1)) Zv V V V <| Zn .eql V c.v.s [] V V V ?_
      refine WL.split (fun h0=>?_) (fun h0=>?_)
      ·have h6 : c.v.s = []:=by simpa [SCmp.b] using h0
       clear h0
       refine Z S1 (Xh.drop 6 C1) XD V V V ?_
       have V1:=A1.bound
       refine Zm (A1.mono L1) Xr V V <| Yd .eql V .i64 (c.l.length : Int) 0 V V V ?_
       exact RB S1 V (by unfold YU; simp_all [Cmp.b,SCmp.b,ZaR] <;> ((rw [Bool.eq_iff_iff]; simp <;> omega)))
      have h6 : c.v.s ≠ []:=by simpa [SCmp.b] using h0
      clear h0
      exact RB S1 V (by unfold YU; simp_all [Cmp.b,SCmp.b,ZaR])
     exact RB S1 V (by unfold YU; simp_all [Cmp.b,SCmp.b,ZaR])
    exact RB S1 V (by unfold YU; simp_all [Cmp.b,SCmp.b,ZaR])
   have h3 : c.oth ≠ []:=by simpa [SCmp.b] using h0
   clear h0
   exact RB S1 V (by unfold YU; simp_all [Cmp.b,SCmp.b,ZaR])
  have h2 : c.col ≠ []:=by simpa [SCmp.b] using h0
  clear h0
  exact RB S1 V (by unfold YU; simp_all [Cmp.b,SCmp.b,ZaR])
 exact RB S1 V (by unfold YU; simp_all [Cmp.b,SCmp.b,ZaR])
theorem Zae {G : GH} {w : World} (hG : G.In w) (q : Query) (cq : List Value) (hcq : QryE.rep G q cq) : CL Tryz.prog (nat_lit 166) #[.agg cq.toArray] [] w G fun _ _ r=>r = .bool (Zx q):=by
 refine Zg ft [] Tryz.func166 V V ?_
 have hS:=St.start (X:=[]) hG
 obtain ⟨v1,v2,v3,v4,rfl,B1,B2,A1,A2,Z7,Z5,ZD,hb6,hb7,ZV,A3,hb9,ZI,ZJ,ZL,A4⟩:=Zs hcq
 refine Z4 [U q.kind,Za q.table,v1,v2,U q.cond.kind,Za q.cond.col,Za q.cond.oth,U q.cond.v.k,U q.cond.v.n,Za q.cond.v.s,v3,U q.rel,U q.fn,U q.span.a,U q.span.b,v4] _ hS V V V (fun p1 w1 G1 L1 M1 C1 S1=>?_)
 refine Zc S1 (Xh.drop 4 C1) [U q.cond.kind,Za q.cond.col,Za q.cond.oth,U q.cond.v.k,U q.cond.v.n,Za q.cond.v.s,v3] ZY V V V V V ?_
 refine WL.alloc S1 ZY V V (fun b1 w2 N1 S2=>?_)
 refine Z9 S2 0 [U q.cond.kind,Za q.cond.col,Za q.cond.oth,U q.cond.v.k,U q.cond.v.n,Za q.cond.v.s,v3] V V ZY V V (by simp only [YE,(A3.mono L1).oneC] <;> rfl) V V V (fun w3 S3=>?_)
 obtain ⟨G2,L2,C2,S4⟩:=S3.shutB N1
 refine Z S4 (Xh.drop 1 (C1.mono L2)) Zv V V V <| Zn .eql V q.table [] V V V ?_
 refine WL.split (fun h0=>?_) (fun h0=>?_)
 ·have h1 : q.table = []:=by simpa [SCmp.b] using h0
  clear h0
  refine Z S4 (Xh.drop 2 (C1.mono L2)) ZH V V V ?_
  have V1:=A1.bound
  have j1:=(L1.trans L2)
  refine Zm (A1.mono j1) Yb V V ?_
  refine Ze (q.cols.length : Int) 0 V V V (fun h2=>?_) (fun h2=>?_)
  ·refine Z S4 (Xh.drop 3 (C1.mono L2)) ZH V V V ?_
   have V2:=A2.bound
   refine Zm (A2.mono j1) Yb V V ?_
   refine Ze (q.names.length : Int) 0 V V V (fun h3=>?_) (fun h3=>?_)
   ·refine Z S4 (Xh.drop 0 C2) Zk V V V ?_
    refine Ze q.cond.kind 0 V V V (fun h4=>?_) (fun h4=>?_)
    ·refine Z S4 (Xh.drop 1 C2) Zv V V V <| Zn .eql V q.cond.col [] V V V ?_
     refine WL.split (fun h0=>?_) (fun h0=>?_)
     ·have h5 : q.cond.col = []:=by simpa [SCmp.b] using h0
      clear h0
      refine Z S4 (Xh.drop 2 C2) Zv V V V <| Zn .eql V q.cond.oth [] V V V ?_
      refine WL.split (fun h0=>?_) (fun h0=>?_)
      ·have h6 : q.cond.oth = []:=by simpa [SCmp.b] using h0
       clear h0
       refine Zc S4 (Xh.drop 3 C2) [U q.cond.v.k,U q.cond.v.n,Za q.cond.v.s] Xv V V V V V <| WL.build _ [] [U 0,U 0,Za []] Xv V ZiI V V V V <| ZaC (ZaO q.cond.v (Val.mk 0 0 [])) ZcB V V V ?_
       refine WL.split (fun (h7 : (decide (q.cond.v = (Val.mk 0 0 []))) = true)=>?_) (fun (h7 : (decide (q.cond.v = (Val.mk 0 0 []))) = false)=>?_)
       ·refine Z S4 (Xh.drop 6 C2) XD V V V ?_
        have V3:=A3.bound
        refine Zm (A3.mono j1) Xr V V ?_
        refine Ze (q.cond.l.length : Int) 0 V V V (fun h8=>?_) (fun h8=>?_)
        ·refine Z S4 (Xh.drop 11 (C1.mono L2)) Zk V V V ?_
         refine Ze q.rel 0 V V V (fun h9=>?_) (fun h9=>?_)
         ·refine Z S4 (Xh.drop 12 (C1.mono L2)) Zk V V V ?_
          refine Ze q.fn 0 V V V (fun h10=>?_) (fun h10=>?_)
          ·refine Zc S4 (Xh.drop 13 (C1.mono L2)) [U q.span.a,U q.span.b] Y5 V V V V V <| WL.build _ [] [U 0,U 0] Y5 V ZbL V V V V <| ZaC (QT q.span (Span.mk 0 0)) ZbG V V V ?_
           exact RB S4 V (by unfold Zx YU; simp_all [Cmp.b,SCmp.b,ZaR,ZO])
          exact RB S4 V (by unfold Zx YU; simp_all [Cmp.b,SCmp.b,ZaR,ZO])
         exact RB S4 V (by unfold Zx YU; simp_all [Cmp.b,SCmp.b,ZaR,ZO])
        exact RB S4 V (by unfold Zx YU; simp_all [Cmp.b,SCmp.b,ZaR,ZO])
       exact RB S4 V (by unfold Zx YU; simp_all [Cmp.b,SCmp.b,ZaR,ZO])
      have h6 : q.cond.oth ≠ []:=by simpa [SCmp.b] using h0
      clear h0
      exact RB S4 V (by unfold Zx YU; simp_all [Cmp.b,SCmp.b,ZaR,ZO])
     have h5 : q.cond.col ≠ []:=by simpa [SCmp.b] using h0
     clear h0
     exact RB S4 V (by unfold Zx YU; simp_all [Cmp.b,SCmp.b,ZaR,ZO])
    exact RB S4 V (by unfold Zx YU; simp_all [Cmp.b,SCmp.b,ZaR,ZO])
   exact RB S4 V (by unfold Zx YU; simp_all [Cmp.b,SCmp.b,ZaR,ZO])
  exact RB S4 V (by unfold Zx YU; simp_all [Cmp.b,SCmp.b,ZaR,ZO])
 have h1 : q.table ≠ []:=by simpa [SCmp.b] using h0
 clear h0
 exact RB S4 V (by unfold Zx YU; simp_all [Cmp.b,SCmp.b,ZaR,ZO])
end Go.Civ
