/- Lemmas. -/
import Derived.Test.YtecneejegecmhaaGreatDoorK23
set_option linter.unusedVariables false
set_option linter.unusedSimpArgs false
set_option linter.unnecessarySimpa false
set_option linter.unusedVariables false
set_option linter.unusedSimpArgs false
set_option maxRecDepth 100000
set_option maxHeartbeats 4000000
namespace Go.Civ
open Go.Proofs
theorem Zoe {G : GH} {w : World} (hG : G.In w) (l : List (List UInt8)) (pf : (List UInt8) → Bool) (vl : Value) (hvl : Sl Enc.str 16 G vl l) (fid : Nat) (fcap : Array Value) (hf : FnB Tryz.prog Zv6 fid fcap G (fun x=>x ∈ l) pf) : CL Tryz.prog (nat_lit 43) #[vl, .func (.func fid) #[] fcap] [] w G fun _ _ r=>r = U (Qi pf l):=by
 refine Zg ft [] Tryz.func43 V V ?_
 have hS:=St.start (X:=[]) hG
 have V1:=hvl.bound
 refine Zm hvl Yb V V ?_
 refine LP.go ft [] (fun m ρ1 w1=>∃ (k1 : Nat),∃ (G1 : GH),m = l.length - k1 ∧ G.le G1 ∧ St w [] G G1 [] w1 ∧ FR ρ1 [(0,vl),(1, .func (.func fid) #[] fcap),(7,U (l.length : Int)),(8,U (k1 : Int))] ∧ k1 ≤ l.length ∧ ∀ j,j < k1 → ∀ x,l[j]? = some x → pf x = false) _ ⟨0,G,V,(G.le_refl),hS,(ZS V),(by omega),(by intro j hj; omega)⟩ ?_
 rintro m ρ1 w1 ⟨k1,G1,rfl,L1,S1,F9,f1,f2⟩
 refine F9.set ?_
 clear F9
 refine Zp (k1 : Int) (l.length : Int) V V V (fun h1=>?_) (fun h1=>?_)
 ·refine WL.indexAddr (hvl.mono L1) k1 (by omega) Yb Zv V V V V (fun p1 x1 U1 E1=>?_)
  obtain ⟨D1,C1,R1⟩:=E1
  obtain ⟨rfl,B1⟩:=R1
  refine Z S1 C1 Zv V V V ?_
  refine Zl S1 hf.body V V V (hf.call _ _ (Za x1) x1 L1 S1.imm (List.mem_of_getElem? U1) ⟨V,B1⟩) (fun w2 G2 S2 L2=>?_)
  refine WL.split (fun (h2 : (pf x1) = true)=>?_) (fun (h2 : (pf x1) = false)=>?_)
  ·exact RI S2 V (by exact (ZaY _ ‹_› ‹_› ‹_›).symm)
  refine Zq k1 (by have:=Zb; omega) V V V ?_
  exact BK.mk' _ ⟨k1 + 1,G2,V,(L1.trans L2),S2,(ZS V),(by omega),(by exact Ys ‹_› ‹_› ‹_›)⟩ (show l.length - (k1 + 1) < l.length - k1 by omega)
 exact RI S1 V (by exact (ZaB ‹_› (by omega)).symm)
theorem ZbH {G : GH} {w : World} (hG : G.In w) (l : List (List UInt8)) (pf : (List UInt8) → Bool) (vl : Value) (hvl : Sl Enc.str 16 G vl l) (fid : Nat) (fcap : Array Value) (hf : FnB Tryz.prog Zv6 fid fcap G (fun x=>x ∈ l) pf) : CL Tryz.prog (nat_lit 17) #[vl, .func (.func fid) #[] fcap] [] w G fun _ _ r=>r = .bool (l.any pf):=by
 refine Zg ft [] Tryz.func17 V V ?_
 have hS:=St.start (X:=[]) hG
 refine Zl hS Zb2 V V V (Zoe hS.imm l pf _ hvl fid fcap (hf.up (G.le_refl))) (fun w1 G1 S1 L1=>?_)
 refine Yd .geq V .i64 (Qi pf l) 0 V V V ?_
 exact RB S1 V (by exact Zcu _ _)
theorem Zqb {G : GH} {w : World} (hG : G.In w) (s : List UInt8) (hg : Glob G) : CL Tryz.prog (nat_lit 164) #[Za s] [] w G fun _ _ r=>r = .bool (!YB s):=by
 refine Zg ft [] Tryz.func164 V V ?_
 have hS:=St.start (X:=[]) hG
 refine Zl hS ZdX V V V (ZbW hS.imm s hg) (fun w1 G1 S1 L1=>?_)
 exact RB S1 V (by rfl)
theorem Zj1 {G : GH} {w : World} (hG : G.In w) (s : List UInt8) (hg : Glob G) : CL Tryz.prog (nat_lit 165) #[Za s] [] w G fun _ _ r=>r = .bool (!YB s):=by
 refine Zg ft [] Tryz.func165 V V ?_
 have hS:=St.start (X:=[]) hG
 refine Zl hS ZdX V V V (ZbW hS.imm s hg) (fun w1 G1 S1 L1=>?_)
 exact RB S1 V (by rfl)
theorem ZrI {G : GH} {w : World} (hG : G.In w) (n : Nat) (q : Query) (hg : Glob G) (cq : List Value) (hcq : QryE.rep G q cq) (hn : Xx q n) : CL Tryz.prog (nat_lit 126) #[.agg cq.toArray] [] w G fun _ _ r=>r = .bool (Xd n q):=by
 refine Zg ft [] Tryz.func126 V V ?_
 have hS:=St.start (X:=[]) hG
 obtain ⟨v1,v2,v3,v4,rfl,B1,B2,A1,A2,Z7,Z5,ZD,hb6,hb7,ZV,A3,hb9,ZI,ZJ,ZL,A4⟩:=Zs hcq
 refine Z4 (QV q v1 v2 v3 v4) _ hS V V V (fun p1 w1 G1 L1 M1 C1 S1=>?_)
 refine Zc S1 C1 (QV q v1 v2 v3 v4) Zt V V V V V ?_
 refine WL.alloc S1 Zt V V (fun b1 w2 N1 S2=>?_)
 refine WL.store S2 0 _ _ _ 0 _ (QV q v1 v2 v3 v4) (QV q v1 v2 v3 v4) _ V V Zt V (ZZ V) (by simp only [YE,(A1.mono L1).oneC,(A2.mono L1).oneC,(A3.mono L1).oneC,(A4.mono L1).oneC] <;> rfl) V V V V V (fun w3 S3=>?_)
 refine WL.store S3 0 _ _ _ 0 _ [U 0] (QW 0 q v1 v2 v3 v4) _ V V Zk V (ZZ V) V V V V V V (fun w4 S4=>?_)
 refine WL.store S4 0 _ _ _ 15 _ [Zf] (QW 0 q v1 v2 v3 (Zf)) _ V V Yu V (ZZ V) V V V V V V (fun w5 S5=>?_)
 refine Z S5 (Xh.drop 0 C1) Zk V V V ?_
 refine Ze q.kind 1 V V V (fun h1=>?_) (fun h1=>?_)
 ·refine Z S5 (Xh.drop 1 C1) Zv V V V ?_
  refine Zl S5 ZdX V V V (ZbW S5.imm q.table (hg.mono L1)) (fun w6 G2 S6 L2=>?_)
  refine WL.split (fun (h2 : (YB q.table) = true)=>?_) (fun (h2 : (YB q.table) = false)=>?_)
  ·refine WL.store S6 0 _ _ _ 1 _ [Za []] [U 0,Za [],v1,v2,U q.cond.kind,Za q.cond.col,Za q.cond.oth,U q.cond.v.k,U q.cond.v.n,Za q.cond.v.s,v3,U q.rel,U q.fn,U q.span.a,U q.span.b,Zf] _ V V Zv V (ZZ V) V V V V V V (fun w7 S7=>?_)
   refine Z S7 (Xh.drop 15 (C1.mono L2)) Yu V V V ?_
   have V1:=A4.bound
   have j1:=(L1.trans L2)
   refine Zm (A4.mono j1) Y1 V V ?_
   refine Ze (q.l.length : Int) 0 V V V (fun h3=>?_) (fun h3=>?_)
   ·refine Yp S7 0 _ _ _ 0 [U 0,Za [],v1,v2,U q.cond.kind,Za q.cond.col,Za q.cond.oth,U q.cond.v.k,U q.cond.v.n,Za q.cond.v.s,v3,U q.rel,U q.fn,U q.span.a,U q.span.b,Zf] V V V Zt V V V ?_
    refine Zl S7 Zco V V V (Zae S7.imm (Query.mk 0 [] q.cols q.names q.cond q.rel q.fn q.span []) _ (Zr (Query.mk 0 [] q.cols q.names q.cond q.rel q.fn q.span []) (show Zj 0 from by constructor <;> decide) (by simp [reach]) (A1.mono j1) (A2.mono j1) Z7 Z5 ZD hb6 hb7 ZV (A3.mono j1) hb9 ZI ZJ ZL (Sl.nil QryE 224 G2))) (fun w9 G3 S8 L3=>?_)
    exact RB S8 V (by (rw [Zgs ‹_›]; simp_all [Zx,Cmp.b,SCmp.b,ZO,Z6,Z3,ZF]))
   exact RB S7 V (by (rw [Zgs ‹_›]; simp_all [Zx,Cmp.b,SCmp.b,ZO,Z6,Z3,ZF]))
  refine WL.store S6 0 _ _ _ 1 _ [Za []] [U 0,Za [],v1,v2,U q.cond.kind,Za q.cond.col,Za q.cond.oth,U q.cond.v.k,U q.cond.v.n,Za q.cond.v.s,v3,U q.rel,U q.fn,U q.span.a,U q.span.b,Zf] _ V V Zv V (ZZ V) V V V V V V (fun w10 S9=>?_)
  exact RB S9 V (by (rw [Zgs ‹_›]; simp_all [Zx,Cmp.b,SCmp.b,ZO,Z6,Z3,ZF]))
 refine Ze q.kind 2 V V V (fun h4=>?_) (fun h4=>?_)
 ·refine Zc S5 (Xh.drop 4 C1) [U q.cond.kind,Za q.cond.col,Za q.cond.oth,U q.cond.v.k,U q.cond.v.n,Za q.cond.v.s,v3] ZY V V V V V ?_
  refine Zl S5 Zzp V V V (ZlO S5.imm n q.cond (hg.mono L1) _ (ZR q.cond Z7 Z5 ZD hb6 hb7 ZV (A3.mono L1)) (Zaz hn)) (fun w11 G4 S10 L4=>?_)
  refine WL.split (fun (h5 : (ZaI n q.cond) = true)=>?_) (fun (h5 : (ZaI n q.cond) = false)=>?_)
  ·refine WL.build _ [] [U 0,Za [],Za [],U 0,U 0,Za [],Zf] ZY V Zr4 V V V V ?_
   refine WL.store S10 0 _ _ _ 4 _ [U 0,Za [],Za [],U 0,U 0,Za [],Zf] [U 0,Za q.table,v1,v2,U 0,Za [],Za [],U 0,U 0,Za [],Zf,U q.rel,U q.fn,U q.span.a,U q.span.b,Zf] _ V V ZY V (ZZ V) V V V V V V (fun w12 S11=>?_)
   refine Z S11 (Xh.drop 15 (C1.mono L4)) Yu V V V ?_
   have V2:=A4.bound
   have j2:=(L1.trans L4)
   refine Zm (A4.mono j2) Y1 V V ?_
   refine Ze (q.l.length : Int) 1 V V V (fun h6=>?_) (fun h6=>?_)
   ·refine Yp S11 0 _ _ _ 0 [U 0,Za q.table,v1,v2,U 0,Za [],Za [],U 0,U 0,Za [],Zf,U q.rel,U q.fn,U q.span.a,U q.span.b,Zf] V V V Zt V V V ?_
    refine Zl S11 Zco V V V (Zae S11.imm (Query.mk 0 q.table q.cols q.names (Cond.mk 0 [] [] (Val.mk 0 0 []) []) q.rel q.fn q.span []) _ (Zr (Query.mk 0 q.table q.cols q.names (Cond.mk 0 [] [] (Val.mk 0 0 []) []) q.rel q.fn q.span []) (show Zj 0 from by constructor <;> decide) B2 (A1.mono j2) (A2.mono j2) Yf (by simp [reach]) (by simp [reach]) Yf Yf (by simp [reach]) (Sl.nil CndE 96 G4) hb9 ZI ZJ ZL (Sl.nil QryE 224 G4))) (fun w13 G5 S12 L5=>?_)
    exact RB S12 V (by (rw [ZeR ‹_›]; simp_all [Zx,Cmp.b,SCmp.b,ZO,Z6,Z3,ZF]))
   exact RB S11 V (by (rw [ZeR ‹_›]; simp_all [Zx,Cmp.b,SCmp.b,ZO,Z6,Z3,ZF]))
  refine WL.build _ [] [U 0,Za [],Za [],U 0,U 0,Za [],Zf] ZY V Zr4 V V V V ?_
  refine WL.store S10 0 _ _ _ 4 _ [U 0,Za [],Za [],U 0,U 0,Za [],Zf] [U 0,Za q.table,v1,v2,U 0,Za [],Za [],U 0,U 0,Za [],Zf,U q.rel,U q.fn,U q.span.a,U q.span.b,Zf] _ V V ZY V (ZZ V) V V V V V V (fun w14 S13=>?_)
  exact RB S13 V (by (rw [ZeR ‹_›]; simp_all [Zx,Cmp.b,SCmp.b,ZO,Z6,Z3,ZF]))
 refine Ze q.kind 3 V V V (fun h7=>?_) (fun h7=>?_)
 ·refine Z S5 (Xh.drop 2 C1) ZH V V V ?_
  have V3:=A1.bound
  refine Zm (A1.mono L1) Yb V V ?_
  refine Z1 (q.cols.length : Int) 0 V V V (fun h8=>?_) (fun h8=>?_)
  ·refine Z S5 (Xh.drop 2 C1) ZH V V V ?_
   refine Zl S5 Zki V V V (Zft S5.imm q.cols (hg.mono L1) _ (A1.mono L1)) (fun w15 G6 S14 L6=>?_)
   refine WL.split (fun (h9 : (QF q.cols) = true)=>?_) (fun (h9 : (QF q.cols) = false)=>?_)
   ·refine WL.store S14 0 _ _ _ 2 _ [Zf] (QW 0 q (Zf) v2 v3 (Zf)) _ V V ZH V (ZZ V) V V V V V V (fun w16 S15=>?_)
    refine Z S15 (Xh.drop 15 (C1.mono L6)) Yu V V V ?_
    have V4:=A4.bound
    have j3:=(L1.trans L6)
    refine Zm (A4.mono j3) Y1 V V ?_
    refine Ze (q.l.length : Int) 1 V V V (fun h10=>?_) (fun h10=>?_)
    ·refine Yp S15 0 _ _ _ 0 (QW 0 q (Zf) v2 v3 (Zf)) V V V Zt V V V ?_
     refine Zl S15 Zco V V V (Zae S15.imm (Query.mk 0 q.table [] q.names q.cond q.rel q.fn q.span []) _ (Zr (Query.mk 0 q.table [] q.names q.cond q.rel q.fn q.span []) (show Zj 0 from by constructor <;> decide) B2 (Sl.nil Enc.str 16 G6) (A2.mono j3) Z7 Z5 ZD hb6 hb7 ZV (A3.mono j3) hb9 ZI ZJ ZL (Sl.nil QryE 224 G6))) (fun w17 G7 S16 L7=>?_)
     exact RB S16 V (by (rw [ZdK ‹_›]; simp_all [Zx,Cmp.b,SCmp.b,ZO,Z6,Z3,ZF]))
    exact RB S15 V (by (rw [ZdK ‹_›]; simp_all [Zx,Cmp.b,SCmp.b,ZO,Z6,Z3,ZF]))
   refine WL.store S14 0 _ _ _ 2 _ [Zf] (QW 0 q (Zf) v2 v3 (Zf)) _ V V ZH V (ZZ V) V V V V V V (fun w18 S17=>?_)
   exact RB S17 V (by (rw [ZdK ‹_›]; simp_all [Zx,Cmp.b,SCmp.b,ZO,Z6,Z3,ZF]))
  refine WL.store S5 0 _ _ _ 2 _ [Zf] (QW 0 q (Zf) v2 v3 (Zf)) _ V V ZH V (ZZ V) V V V V V V (fun w19 S18=>?_)
  exact RB S18 V (by (rw [ZdK ‹_›]; simp_all [Zx,Cmp.b,SCmp.b,ZO,Z6,Z3,ZF]))
 refine Ze q.kind 4 V V V (fun h11=>?_) (fun h11=>?_)
 ·refine Z S5 (Xh.drop 2 C1) ZH V V V ?_
  have V5:=A1.bound
  refine Zm (A1.mono L1) Yb V V ?_
  refine Z1 (q.cols.length : Int) 0 V V V (fun h12=>?_) (fun h12=>?_)
  ·refine Z S5 (Xh.drop 2 C1) ZH V V V ?_
   refine Zl S5 Zki V V V (Zft S5.imm q.cols (hg.mono L1) _ (A1.mono L1)) (fun w20 G9 S19 L9=>?_)
   refine WL.split (fun (h13 : (QF q.cols) = true)=>?_) (fun (h13 : (QF q.cols) = false)=>?_)
   ·refine Z S19 (Xh.drop 3 (C1.mono L9)) ZH V V V ?_
    have V6:=A2.bound
    refine Zm (A2.mono (L1.trans L9)) Yb V V <| Z S19 (Xh.drop 2 (C1.mono L9)) ZH V V V ?_
    have V7:=A1.bound
    refine Zm (A1.mono (L1.trans L9)) Yb V V ?_
    refine Ze (q.names.length : Int) (q.cols.length : Int) V V V (fun h14=>?_) (fun h14=>?_)
    ·refine Z S19 (Xh.drop 3 (C1.mono L9)) ZH V V V ?_
     refine Zl S19 Yr V V V (ZbH S19.imm q.names (fun x8=>!YB x8) _ (A2.mono (L1.trans L9)) 164 #[] ⟨Zzq,fun G8 w8 v8 x8 L8 hG8 hon8 hA8=>by obtain ⟨rfl,hi_x8⟩:=hA8; exact Zqb hG8 x8 ((hg.mono (L1.trans L9)).mono L8)⟩) (fun w21 G10 S20 L10=>?_)
     refine WL.split (fun (h15 : (q.names.any (fun x8=>!YB x8)) = true)=>?_) (fun (h15 : (q.names.any (fun x8=>!YB x8)) = false)=>?_)
     ·refine WL.store S20 0 _ _ _ 2 _ [Zf] (QW 0 q (Zf) v2 v3 (Zf)) _ V V ZH V (ZZ V) V V V V V V (fun w22 S21=>?_)
      refine WL.store S21 0 _ _ _ 3 _ [Zf] (QW 0 q (Zf) (Zf) v3 (Zf)) _ V V ZH V (ZZ V) V V V V V V (fun w23 S22=>?_)
      exact RB S22 V (by (rw [ZaV ‹_›,ZkU ‹_›]; simp))
     refine WL.store S20 0 _ _ _ 2 _ [Zf] (QW 0 q (Zf) v2 v3 (Zf)) _ V V ZH V (ZZ V) V V V V V V (fun w24 S23=>?_)
     refine WL.store S23 0 _ _ _ 3 _ [Zf] (QW 0 q (Zf) (Zf) v3 (Zf)) _ V V ZH V (ZZ V) V V V V V V (fun w25 S24=>?_)
     refine Z S24 (Xh.drop 15 (C1.mono (L9.trans L10))) Yu V V V ?_
     have V8:=A4.bound
     refine Zm (A4.mono ((L1.trans L9).trans L10)) Y1 V V ?_
     refine Ze (q.l.length : Int) 1 V V V (fun h16=>?_) (fun h16=>?_)
     ·refine Yp S24 0 _ _ _ 0 (QW 0 q (Zf) (Zf) v3 (Zf)) V V V Zt V V V ?_
      refine Zl S24 Zco V V V (Zae S24.imm (Query.mk 0 q.table [] [] q.cond q.rel q.fn q.span []) _ (Zr (Query.mk 0 q.table [] [] q.cond q.rel q.fn q.span []) (show Zj 0 from by constructor <;> decide) B2 (Sl.nil Enc.str 16 G10) (Sl.nil Enc.str 16 G10) Z7 Z5 ZD hb6 hb7 ZV (A3.mono ((L1.trans L9).trans L10)) hb9 ZI ZJ ZL (Sl.nil QryE 224 G10))) (fun w26 G11 S25 L11=>?_)
      exact RB S25 V (by (rw [ZaV ‹_›]; simp_all [Zx,Cmp.b,SCmp.b,ZO,Z6,Z3,ZF]))
     exact RB S24 V (by (rw [ZaV ‹_›]; simp_all [Zx,Cmp.b,SCmp.b,ZO,Z6,Z3,ZF]))
    refine WL.store S19 0 _ _ _ 2 _ [Zf] (QW 0 q (Zf) v2 v3 (Zf)) _ V V ZH V (ZZ V) V V V V V V (fun w27 S26=>?_)
    refine WL.store S26 0 _ _ _ 3 _ [Zf] (QW 0 q (Zf) (Zf) v3 (Zf)) _ V V ZH V (ZZ V) V V V V V V (fun w28 S27=>?_)
    exact RB S27 V (by (rw [ZaV ‹_›]; simp_all [Zx,Cmp.b,SCmp.b,ZO,Z6,Z3,ZF]))
   refine WL.store S19 0 _ _ _ 2 _ [Zf] (QW 0 q (Zf) v2 v3 (Zf)) _ V V ZH V (ZZ V) V V V V V V (fun w29 S28=>?_)
   refine WL.store S28 0 _ _ _ 3 _ [Zf] (QW 0 q (Zf) (Zf) v3 (Zf)) _ V V ZH V (ZZ V) V V V V V V (fun w30 S29=>?_)
   exact RB S29 V (by (rw [ZaV ‹_›]; simp_all [Zx,Cmp.b,SCmp.b,ZO,Z6,Z3,ZF]))
  refine WL.store S5 0 _ _ _ 2 _ [Zf] (QW 0 q (Zf) v2 v3 (Zf)) _ V V ZH V (ZZ V) V V V V V V (fun w31 S30=>?_)
  refine WL.store S30 0 _ _ _ 3 _ [Zf] (QW 0 q (Zf) (Zf) v3 (Zf)) _ V V ZH V (ZZ V) V V V V V V (fun w32 S31=>?_)
  exact RB S31 V (by (rw [ZaV ‹_›]; simp_all [Zx,Cmp.b,SCmp.b,ZO,Z6,Z3,ZF]))
 refine Ze q.kind 5 V V V (fun h17=>?_) (fun h17=>?_)
 ·refine Z S5 (Xh.drop 15 C1) Yu V V V ?_
  have V9:=A4.bound
  refine Zm (A4.mono L1) Y1 V V ?_
  refine Ze (q.l.length : Int) 2 V V V (fun h18=>?_) (fun h18=>?_)
  ·refine Yp S5 0 _ _ _ 0 (QW 0 q v1 v2 v3 (Zf)) V V V Zt V V V ?_
   refine Zl S5 Zco V V V (Zae S5.imm (Query.mk 0 q.table q.cols q.names q.cond q.rel q.fn q.span []) _ (Zr (Query.mk 0 q.table q.cols q.names q.cond q.rel q.fn q.span []) (show Zj 0 from by constructor <;> decide) B2 (A1.mono L1) (A2.mono L1) Z7 Z5 ZD hb6 hb7 ZV (A3.mono L1) hb9 ZI ZJ ZL (Sl.nil QryE 224 G1))) (fun w33 G12 S32 L12=>?_)
   exact RB S32 V (by (rw [ZaJ (by exact .inl ‹_›)]; simp_all [Zx,Cmp.b,SCmp.b,ZO,Z6,Z3,ZF]))
  exact RB S5 V (by (rw [ZaJ (by exact .inl ‹_›)]; simp_all [Zx,Cmp.b,SCmp.b,ZO,Z6,Z3,ZF]))
 refine Ze q.kind 6 V V V (fun h19=>?_) (fun h19=>?_)
 ·refine Z S5 (Xh.drop 15 C1) Yu V V V ?_
  have V10:=A4.bound
  refine Zm (A4.mono L1) Y1 V V ?_
  refine Ze (q.l.length : Int) 2 V V V (fun h20=>?_) (fun h20=>?_)
  ·refine Yp S5 0 _ _ _ 0 (QW 0 q v1 v2 v3 (Zf)) V V V Zt V V V ?_
   refine Zl S5 Zco V V V (Zae S5.imm (Query.mk 0 q.table q.cols q.names q.cond q.rel q.fn q.span []) _ (Zr (Query.mk 0 q.table q.cols q.names q.cond q.rel q.fn q.span []) (show Zj 0 from by constructor <;> decide) B2 (A1.mono L1) (A2.mono L1) Z7 Z5 ZD hb6 hb7 ZV (A3.mono L1) hb9 ZI ZJ ZL (Sl.nil QryE 224 G1))) (fun w34 G13 S33 L13=>?_)
   exact RB S33 V (by (rw [ZaJ (by exact .inr (.inl ‹_›))]; simp_all [Zx,Cmp.b,SCmp.b,ZO,Z6,Z3,ZF]))
  exact RB S5 V (by (rw [ZaJ (by exact .inr (.inl ‹_›))]; simp_all [Zx,Cmp.b,SCmp.b,ZO,Z6,Z3,ZF]))
 refine Ze q.kind 7 V V V (fun h21=>?_) (fun h21=>?_)
 ·refine Z S5 (Xh.drop 15 C1) Yu V V V ?_
  have V11:=A4.bound
  refine Zm (A4.mono L1) Y1 V V ?_
  refine Ze (q.l.length : Int) 2 V V V (fun h22=>?_) (fun h22=>?_)
  ·refine Yp S5 0 _ _ _ 0 (QW 0 q v1 v2 v3 (Zf)) V V V Zt V V V ?_
   refine Zl S5 Zco V V V (Zae S5.imm (Query.mk 0 q.table q.cols q.names q.cond q.rel q.fn q.span []) _ (Zr (Query.mk 0 q.table q.cols q.names q.cond q.rel q.fn q.span []) (show Zj 0 from by constructor <;> decide) B2 (A1.mono L1) (A2.mono L1) Z7 Z5 ZD hb6 hb7 ZV (A3.mono L1) hb9 ZI ZJ ZL (Sl.nil QryE 224 G1))) (fun w35 G14 S34 L14=>?_)
   exact RB S34 V (by (rw [ZaJ (by exact .inr (.inr ‹_›))]; simp_all [Zx,Cmp.b,SCmp.b,ZO,Z6,Z3,ZF]))
  exact RB S5 V (by (rw [ZaJ (by exact .inr (.inr ‹_›))]; simp_all [Zx,Cmp.b,SCmp.b,ZO,Z6,Z3,ZF]))
 refine Ze q.kind 8 V V V (fun h23=>?_) (fun h23=>?_)
 ·refine Z S5 (Xh.drop 0 (Xh.drop 13 C1)) Zk V V V ?_
  refine ZM q.span.a (-62135596800) V V V (fun h24=>?_) (fun h24=>?_)
  ·refine Z S5 (Xh.drop 0 (Xh.drop 13 C1)) Zk V V V <| Z S5 (Xh.drop 1 (Xh.drop 13 C1)) Zk V V V ?_
   refine Zp q.span.a q.span.b V V V (fun h25=>?_) (fun h25=>?_)
   ·refine Z S5 (Xh.drop 1 (Xh.drop 13 C1)) Zk V V V ?_
    refine X2 q.span.b 253402300800 V V V (fun h26=>?_) (fun h26=>?_)
    ·refine WL.build _ [] [U 0,U 0] Y5 V ZbL V V V V ?_
     refine WL.store S5 0 _ _ _ 13 _ [U 0,U 0] [U 0,Za q.table,v1,v2,U q.cond.kind,Za q.cond.col,Za q.cond.oth,U q.cond.v.k,U q.cond.v.n,Za q.cond.v.s,v3,U q.rel,U q.fn,U 0,U 0,Zf] _ V V Y5 V (ZZ V) V V V V V V (fun w36 S35=>?_)
     refine Z S35 (Xh.drop 15 C1) Yu V V V ?_
     have V12:=A4.bound
     refine Zm (A4.mono L1) Y1 V V ?_
     refine Ze (q.l.length : Int) 1 V V V (fun h27=>?_) (fun h27=>?_)
     ·refine Yp S35 0 _ _ _ 0 [U 0,Za q.table,v1,v2,U q.cond.kind,Za q.cond.col,Za q.cond.oth,U q.cond.v.k,U q.cond.v.n,Za q.cond.v.s,v3,U q.rel,U q.fn,U 0,U 0,Zf] V V V Zt V V V ?_
      refine Zl S35 Zco V V V (Zae S35.imm (Query.mk 0 q.table q.cols q.names q.cond q.rel q.fn (Span.mk 0 0) []) _ (Zr (Query.mk 0 q.table q.cols q.names q.cond q.rel q.fn (Span.mk 0 0) []) (show Zj 0 from by constructor <;> decide) B2 (A1.mono L1) (A2.mono L1) Z7 Z5 ZD hb6 hb7 ZV (A3.mono L1) hb9 ZI Yf Yf (Sl.nil QryE 224 G1))) (fun w37 G15 S36 L15=>?_)
      exact RB S36 V (by (rw [Zcd ‹_›]; simp_all [Zx,Cmp.b,SCmp.b,ZO,Z6,Z3,ZF]))
     exact RB S35 V (by (rw [Zcd ‹_›]; simp_all [Zx,Cmp.b,SCmp.b,ZO,Z6,Z3,ZF]))
    refine WL.build _ [] [U 0,U 0] Y5 V ZbL V V V V ?_
    refine WL.store S5 0 _ _ _ 13 _ [U 0,U 0] [U 0,Za q.table,v1,v2,U q.cond.kind,Za q.cond.col,Za q.cond.oth,U q.cond.v.k,U q.cond.v.n,Za q.cond.v.s,v3,U q.rel,U q.fn,U 0,U 0,Zf] _ V V Y5 V (ZZ V) V V V V V V (fun w38 S37=>?_)
    exact RB S37 V (by (rw [Zcd ‹_›]; simp_all [Zx,Cmp.b,SCmp.b,ZO,Z6,Z3,ZF] <;> (omega)))
   refine WL.build _ [] [U 0,U 0] Y5 V ZbL V V V V ?_
   refine WL.store S5 0 _ _ _ 13 _ [U 0,U 0] [U 0,Za q.table,v1,v2,U q.cond.kind,Za q.cond.col,Za q.cond.oth,U q.cond.v.k,U q.cond.v.n,Za q.cond.v.s,v3,U q.rel,U q.fn,U 0,U 0,Zf] _ V V Y5 V (ZZ V) V V V V V V (fun w39 S38=>?_)
   exact RB S38 V (by (rw [Zcd ‹_›]; simp_all [Zx,Cmp.b,SCmp.b,ZO,Z6,Z3,ZF] <;> (omega)))
  refine WL.build _ [] [U 0,U 0] Y5 V ZbL V V V V ?_
  refine WL.store S5 0 _ _ _ 13 _ [U 0,U 0] [U 0,Za q.table,v1,v2,U q.cond.kind,Za q.cond.col,Za q.cond.oth,U q.cond.v.k,U q.cond.v.n,Za q.cond.v.s,v3,U q.rel,U q.fn,U 0,U 0,Zf] _ V V Y5 V (ZZ V) V V V V V V (fun w40 S39=>?_)
  exact RB S39 V (by (rw [Zcd ‹_›]; simp_all [Zx,Cmp.b,SCmp.b,ZO,Z6,Z3,ZF] <;> (omega)))
 refine Ze q.kind 9 V V V (fun h28=>?_) (fun h28=>?_)
 ·refine Z S5 (Xh.drop 12 C1) Zk V V V ?_
  refine Ze q.fn 1 V V V (fun h29=>?_) (fun h29=>?_)
  ·refine Z S5 (Xh.drop 2 C1) ZH V V V ?_
   refine Zl S5 Zki V V V (Zft S5.imm q.cols (hg.mono L1) _ (A1.mono L1)) (fun w41 G16 S40 L16=>?_)
   refine WL.split (fun (h30 : (QF q.cols) = true)=>?_) (fun (h30 : (QF q.cols) = false)=>?_)
   ·refine Z S40 (Xh.drop 12 (C1.mono L16)) Zk V V V ?_
    refine ZM q.fn 1 V V V (fun h31=>?_) (fun h31=>?_)
    ·refine Z S40 (Xh.drop 12 (C1.mono L16)) Zk V V V ?_
     refine X2 q.fn 4 V V V (fun h32=>?_) (fun h32=>?_)
     ·refine Z S40 (Xh.drop 3 (C1.mono L16)) ZH V V V ?_
      have V13:=A2.bound
      have j4:=(L1.trans L16)
      refine Zm (A2.mono j4) Yb V V ?_
      refine Ze (q.names.length : Int) 1 V V V (fun h33=>?_) (fun h33=>?_)
      ·refine Z S40 (Xh.drop 3 (C1.mono L16)) ZH V V V ?_
       refine Zl S40 Yr V V V (ZbH S40.imm q.names (fun x8=>!YB x8) _ (A2.mono j4) 165 #[] ⟨Zts,fun G8 w8 v8 x8 L8 hG8 hon8 hA8=>by obtain ⟨rfl,hi_x8⟩:=hA8; exact Zj1 hG8 x8 ((hg.mono j4).mono L8)⟩) (fun w42 G17 S41 L17=>?_)
       refine WL.split (fun (h34 : (q.names.any (fun x8=>!YB x8)) = true)=>?_) (fun (h34 : (q.names.any (fun x8=>!YB x8)) = false)=>?_)
       ·refine WL.store S41 0 _ _ _ 2 _ [Zf] (QW 0 q (Zf) v2 v3 (Zf)) _ V V ZH V (ZZ V) V V V V V V (fun w43 S42=>?_)
        refine WL.store S42 0 _ _ _ 3 _ [Zf] (QW 0 q (Zf) (Zf) v3 (Zf)) _ V V ZH V (ZZ V) V V V V V V (fun w44 S43=>?_)
        refine WL.store S43 0 _ _ _ 12 _ [U 0] [U 0,Za q.table,Zf,Zf,U q.cond.kind,Za q.cond.col,Za q.cond.oth,U q.cond.v.k,U q.cond.v.n,Za q.cond.v.s,v3,U q.rel,U 0,U q.span.a,U q.span.b,Zf] _ V V Zk V (ZZ V) V V V V V V (fun w45 S44=>?_)
        exact RB S44 V (by (rw [Qo ‹_›,ZkU ‹_›]; simp))
       refine WL.store S41 0 _ _ _ 2 _ [Zf] (QW 0 q (Zf) v2 v3 (Zf)) _ V V ZH V (ZZ V) V V V V V V (fun w46 S45=>?_)
       refine WL.store S45 0 _ _ _ 3 _ [Zf] (QW 0 q (Zf) (Zf) v3 (Zf)) _ V V ZH V (ZZ V) V V V V V V (fun w47 S46=>?_)
       refine WL.store S46 0 _ _ _ 12 _ [U 0] [U 0,Za q.table,Zf,Zf,U q.cond.kind,Za q.cond.col,Za q.cond.oth,U q.cond.v.k,U q.cond.v.n,Za q.cond.v.s,v3,U q.rel,U 0,U q.span.a,U q.span.b,Zf] _ V V Zk V (ZZ V) V V V V V V (fun w48 S47=>?_)
       refine Z S47 (Xh.drop 15 (C1.mono (L16.trans L17))) Yu V V V ?_
       have V14:=A4.bound
       refine Zm (A4.mono (j4.trans L17)) Y1 V V ?_
       refine Ze (q.l.length : Int) 1 V V V (fun h35=>?_) (fun h35=>?_)
       ·refine Yp S47 0 _ _ _ 0 [U 0,Za q.table,Zf,Zf,U q.cond.kind,Za q.cond.col,Za q.cond.oth,U q.cond.v.k,U q.cond.v.n,Za q.cond.v.s,v3,U q.rel,U 0,U q.span.a,U q.span.b,Zf] V V V Zt V V V ?_
        refine Zl S47 Zco V V V (Zae S47.imm (Query.mk 0 q.table [] [] q.cond q.rel 0 q.span []) _ (Zr (Query.mk 0 q.table [] [] q.cond q.rel 0 q.span []) (show Zj 0 from by constructor <;> decide) B2 (Sl.nil Enc.str 16 G17) (Sl.nil Enc.str 16 G17) Z7 Z5 ZD hb6 hb7 ZV (A3.mono (j4.trans L17)) hb9 (show Zj 0 from by constructor <;> decide) ZJ ZL (Sl.nil QryE 224 G17))) (fun w49 G18 S48 L18=>?_)
        exact RB S48 V (by (rw [Qo ‹_›]; simp_all [Zx,Cmp.b,SCmp.b,ZO,Z6,Z3,ZF]))
       exact RB S47 V (by (rw [Qo ‹_›]; simp_all [Zx,Cmp.b,SCmp.b,ZO,Z6,Z3,ZF]))
      refine WL.store S40 0 _ _ _ 2 _ [Zf] (QW 0 q (Zf) v2 v3 (Zf)) _ V V ZH V (ZZ V) V V V V V V (fun w50 S49=>?_)
      refine WL.store S49 0 _ _ _ 3 _ [Zf] (QW 0 q (Zf) (Zf) v3 (Zf)) _ V V ZH V (ZZ V) V V V V V V (fun w51 S50=>?_)
      refine WL.store S50 0 _ _ _ 12 _ [U 0] [U 0,Za q.table,Zf,Zf,U q.cond.kind,Za q.cond.col,Za q.cond.oth,U q.cond.v.k,U q.cond.v.n,Za q.cond.v.s,v3,U q.rel,U 0,U q.span.a,U q.span.b,Zf] _ V V Zk V (ZZ V) V V V V V V (fun w52 S51=>?_)
      exact RB S51 V (by (rw [Qo ‹_›]; simp_all [Zx,Cmp.b,SCmp.b,ZO,Z6,Z3,ZF]))
     refine WL.store S40 0 _ _ _ 2 _ [Zf] (QW 0 q (Zf) v2 v3 (Zf)) _ V V ZH V (ZZ V) V V V V V V (fun w53 S52=>?_)
     refine WL.store S52 0 _ _ _ 3 _ [Zf] (QW 0 q (Zf) (Zf) v3 (Zf)) _ V V ZH V (ZZ V) V V V V V V (fun w54 S53=>?_)
     refine WL.store S53 0 _ _ _ 12 _ [U 0] [U 0,Za q.table,Zf,Zf,U q.cond.kind,Za q.cond.col,Za q.cond.oth,U q.cond.v.k,U q.cond.v.n,Za q.cond.v.s,v3,U q.rel,U 0,U q.span.a,U q.span.b,Zf] _ V V Zk V (ZZ V) V V V V V V (fun w55 S54=>?_)
     exact RB S54 V (by (rw [Qo ‹_›]; simp_all [Zx,Cmp.b,SCmp.b,ZO,Z6,Z3,ZF]))
    refine WL.store S40 0 _ _ _ 2 _ [Zf] (QW 0 q (Zf) v2 v3 (Zf)) _ V V ZH V (ZZ V) V V V V V V (fun w56 S55=>?_)
    refine WL.store S55 0 _ _ _ 3 _ [Zf] (QW 0 q (Zf) (Zf) v3 (Zf)) _ V V ZH V (ZZ V) V V V V V V (fun w57 S56=>?_)
    refine WL.store S56 0 _ _ _ 12 _ [U 0] [U 0,Za q.table,Zf,Zf,U q.cond.kind,Za q.cond.col,Za q.cond.oth,U q.cond.v.k,U q.cond.v.n,Za q.cond.v.s,v3,U q.rel,U 0,U q.span.a,U q.span.b,Zf] _ V V Zk V (ZZ V) V V V V V V (fun w58 S57=>?_)
    exact RB S57 V (by (rw [Qo ‹_›]; simp_all [Zx,Cmp.b,SCmp.b,ZO,Z6,Z3,ZF]))
   refine WL.store S40 0 _ _ _ 2 _ [Zf] (QW 0 q (Zf) v2 v3 (Zf)) _ V V ZH V (ZZ V) V V V V V V (fun w59 S58=>?_)
   refine WL.store S58 0 _ _ _ 3 _ [Zf] (QW 0 q (Zf) (Zf) v3 (Zf)) _ V V ZH V (ZZ V) V V V V V V (fun w60 S59=>?_)
   refine WL.store S59 0 _ _ _ 12 _ [U 0] [U 0,Za q.table,Zf,Zf,U q.cond.kind,Za q.cond.col,Za q.cond.oth,U q.cond.v.k,U q.cond.v.n,Za q.cond.v.s,v3,U q.rel,U 0,U q.span.a,U q.span.b,Zf] _ V V Zk V (ZZ V) V V V V V V (fun w61 S60=>?_)
   exact RB S60 V (by (rw [Qo ‹_›]; simp_all [Zx,Cmp.b,SCmp.b,ZO,Z6,Z3,ZF]))
  refine Z S5 (Xh.drop 2 C1) ZH V V V ?_
  refine Zl S5 Zki V V V (Zft S5.imm q.cols (hg.mono L1) _ (A1.mono L1)) (fun w62 G19 S61 L19=>?_)
  refine WL.split (fun (h36 : (QF q.cols) = true)=>?_) (fun (h36 : (QF q.cols) = false)=>?_)
  ·refine Z S61 (Xh.drop 12 (C1.mono L19)) Zk V V V ?_
   refine ZM q.fn 1 V V V (fun h37=>?_) (fun h37=>?_)
   ·refine Z S61 (Xh.drop 12 (C1.mono L19)) Zk V V V ?_
    refine X2 q.fn 4 V V V (fun h38=>?_) (fun h38=>?_)
    ·refine Z S61 (Xh.drop 3 (C1.mono L19)) ZH V V V ?_
     have V15:=A2.bound
     have j5:=(L1.trans L19)
     refine Zm (A2.mono j5) Yb V V ?_
     refine Ze (q.names.length : Int) 2 V V V (fun h39=>?_) (fun h39=>?_)
     ·refine Z S61 (Xh.drop 3 (C1.mono L19)) ZH V V V ?_
      refine Zl S61 Yr V V V (ZbH S61.imm q.names (fun x8=>!YB x8) _ (A2.mono j5) 165 #[] ⟨Zts,fun G8 w8 v8 x8 L8 hG8 hon8 hA8=>by obtain ⟨rfl,hi_x8⟩:=hA8; exact Zj1 hG8 x8 ((hg.mono j5).mono L8)⟩) (fun w63 G20 S62 L20=>?_)
      refine WL.split (fun (h40 : (q.names.any (fun x8=>!YB x8)) = true)=>?_) (fun (h40 : (q.names.any (fun x8=>!YB x8)) = false)=>?_)
      ·refine WL.store S62 0 _ _ _ 2 _ [Zf] (QW 0 q (Zf) v2 v3 (Zf)) _ V V ZH V (ZZ V) V V V V V V (fun w64 S63=>?_)
       refine WL.store S63 0 _ _ _ 3 _ [Zf] (QW 0 q (Zf) (Zf) v3 (Zf)) _ V V ZH V (ZZ V) V V V V V V (fun w65 S64=>?_)
       refine WL.store S64 0 _ _ _ 12 _ [U 0] [U 0,Za q.table,Zf,Zf,U q.cond.kind,Za q.cond.col,Za q.cond.oth,U q.cond.v.k,U q.cond.v.n,Za q.cond.v.s,v3,U q.rel,U 0,U q.span.a,U q.span.b,Zf] _ V V Zk V (ZZ V) V V V V V V (fun w66 S65=>?_)
       exact RB S65 V (by (rw [Qo ‹_›,ZkU ‹_›]; simp))
      refine WL.store S62 0 _ _ _ 2 _ [Zf] (QW 0 q (Zf) v2 v3 (Zf)) _ V V ZH V (ZZ V) V V V V V V (fun w67 S66=>?_)
      refine WL.store S66 0 _ _ _ 3 _ [Zf] (QW 0 q (Zf) (Zf) v3 (Zf)) _ V V ZH V (ZZ V) V V V V V V (fun w68 S67=>?_)
      refine WL.store S67 0 _ _ _ 12 _ [U 0] [U 0,Za q.table,Zf,Zf,U q.cond.kind,Za q.cond.col,Za q.cond.oth,U q.cond.v.k,U q.cond.v.n,Za q.cond.v.s,v3,U q.rel,U 0,U q.span.a,U q.span.b,Zf] _ V V Zk V (ZZ V) V V V V V V (fun w69 S68=>?_)
      refine Z S68 (Xh.drop 15 (C1.mono (L19.trans L20))) Yu V V V ?_
      have V16:=A4.bound
      refine Zm (A4.mono (j5.trans L20)) Y1 V V ?_
      refine Ze (q.l.length : Int) 1 V V V (fun h41=>?_) (fun h41=>?_)
      ·refine Yp S68 0 _ _ _ 0 [U 0,Za q.table,Zf,Zf,U q.cond.kind,Za q.cond.col,Za q.cond.oth,U q.cond.v.k,U q.cond.v.n,Za q.cond.v.s,v3,U q.rel,U 0,U q.span.a,U q.span.b,Zf] V V V Zt V V V ?_
       refine Zl S68 Zco V V V (Zae S68.imm (Query.mk 0 q.table [] [] q.cond q.rel 0 q.span []) _ (Zr (Query.mk 0 q.table [] [] q.cond q.rel 0 q.span []) (show Zj 0 from by constructor <;> decide) B2 (Sl.nil Enc.str 16 G20) (Sl.nil Enc.str 16 G20) Z7 Z5 ZD hb6 hb7 ZV (A3.mono (j5.trans L20)) hb9 (show Zj 0 from by constructor <;> decide) ZJ ZL (Sl.nil QryE 224 G20))) (fun w70 G21 S69 L21=>?_)
       exact RB S69 V (by (rw [Qo ‹_›]; simp_all [Zx,Cmp.b,SCmp.b,ZO,Z6,Z3,ZF]))
      exact RB S68 V (by (rw [Qo ‹_›]; simp_all [Zx,Cmp.b,SCmp.b,ZO,Z6,Z3,ZF]))
     refine WL.store S61 0 _ _ _ 2 _ [Zf] (QW 0 q (Zf) v2 v3 (Zf)) _ V V ZH V (ZZ V) V V V V V V (fun w71 S70=>?_)
     refine WL.store S70 0 _ _ _ 3 _ [Zf] (QW 0 q (Zf) (Zf) v3 (Zf)) _ V V ZH V (ZZ V) V V V V V V (fun w72 S71=>?_)
     refine WL.store S71 0 _ _ _ 12 _ [U 0] [U 0,Za q.table,Zf,Zf,U q.cond.kind,Za q.cond.col,Za q.cond.oth,U q.cond.v.k,U q.cond.v.n,Za q.cond.v.s,v3,U q.rel,U 0,U q.span.a,U q.span.b,Zf] _ V V Zk V (ZZ V) V V V V V V (fun w73 S72=>?_)
     exact RB S72 V (by (rw [Qo ‹_›]; simp_all [Zx,Cmp.b,SCmp.b,ZO,Z6,Z3,ZF]))
    refine WL.store S61 0 _ _ _ 2 _ [Zf] (QW 0 q (Zf) v2 v3 (Zf)) _ V V ZH V (ZZ V) V V V V V V (fun w74 S73=>?_)
    refine WL.store S73 0 _ _ _ 3 _ [Zf] (QW 0 q (Zf) (Zf) v3 (Zf)) _ V V ZH V (ZZ V) V V V V V V (fun w75 S74=>?_)
    refine WL.store S74 0 _ _ _ 12 _ [U 0] [U 0,Za q.table,Zf,Zf,U q.cond.kind,Za q.cond.col,Za q.cond.oth,U q.cond.v.k,U q.cond.v.n,Za q.cond.v.s,v3,U q.rel,U 0,U q.span.a,U q.span.b,Zf] _ V V Zk V (ZZ V) V V V V V V (fun w76 S75=>?_)
    exact RB S75 V (by (rw [Qo ‹_›]; simp_all [Zx,Cmp.b,SCmp.b,ZO,Z6,Z3,ZF] <;> (omega)))
   refine WL.store S61 0 _ _ _ 2 _ [Zf] (QW 0 q (Zf) v2 v3 (Zf)) _ V V ZH V (ZZ V) V V V V V V (fun w77 S76=>?_)
   refine WL.store S76 0 _ _ _ 3 _ [Zf] (QW 0 q (Zf) (Zf) v3 (Zf)) _ V V ZH V (ZZ V) V V V V V V (fun w78 S77=>?_)
   refine WL.store S77 0 _ _ _ 12 _ [U 0] [U 0,Za q.table,Zf,Zf,U q.cond.kind,Za q.cond.col,Za q.cond.oth,U q.cond.v.k,U q.cond.v.n,Za q.cond.v.s,v3,U q.rel,U 0,U q.span.a,U q.span.b,Zf] _ V V Zk V (ZZ V) V V V V V V (fun w79 S78=>?_)
   exact RB S78 V (by (rw [Qo ‹_›]; simp_all [Zx,Cmp.b,SCmp.b,ZO,Z6,Z3,ZF] <;> (omega)))
  refine WL.store S61 0 _ _ _ 2 _ [Zf] (QW 0 q (Zf) v2 v3 (Zf)) _ V V ZH V (ZZ V) V V V V V V (fun w80 S79=>?_)
  refine WL.store S79 0 _ _ _ 3 _ [Zf] (QW 0 q (Zf) (Zf) v3 (Zf)) _ V V ZH V (ZZ V) V V V V V V (fun w81 S80=>?_)
  refine WL.store S80 0 _ _ _ 12 _ [U 0] [U 0,Za q.table,Zf,Zf,U q.cond.kind,Za q.cond.col,Za q.cond.oth,U q.cond.v.k,U q.cond.v.n,Za q.cond.v.s,v3,U q.rel,U 0,U q.span.a,U q.span.b,Zf] _ V V Zk V (ZZ V) V V V V V V (fun w82 S81=>?_)
  exact RB S81 V (by (rw [Qo ‹_›]; simp_all [Zx,Cmp.b,SCmp.b,ZO,Z6,Z3,ZF]))
 refine Ze q.kind 10 V V V (fun h42=>?_) (fun h42=>?_)
 ·refine Z S5 (Xh.drop 11 C1) Zk V V V ?_
  refine ZM q.rel 1 V V V (fun h43=>?_) (fun h43=>?_)
  ·refine Z S5 (Xh.drop 11 C1) Zk V V V ?_
   refine X2 q.rel 8191 V V V (fun h44=>?_) (fun h44=>?_)
   ·refine WL.store S5 0 _ _ _ 11 _ [U 0] [U 0,Za q.table,v1,v2,U q.cond.kind,Za q.cond.col,Za q.cond.oth,U q.cond.v.k,U q.cond.v.n,Za q.cond.v.s,v3,U 0,U q.fn,U q.span.a,U q.span.b,Zf] _ V V Zk V (ZZ V) V V V V V V (fun w83 S82=>?_)
    refine Z S82 (Xh.drop 15 C1) Yu V V V ?_
    have V17:=A4.bound
    refine Zm (A4.mono L1) Y1 V V ?_
    refine Ze (q.l.length : Int) 2 V V V (fun h45=>?_) (fun h45=>?_)
    ·refine Yp S82 0 _ _ _ 0 [U 0,Za q.table,v1,v2,U q.cond.kind,Za q.cond.col,Za q.cond.oth,U q.cond.v.k,U q.cond.v.n,Za q.cond.v.s,v3,U 0,U q.fn,U q.span.a,U q.span.b,Zf] V V V Zt V V V ?_
     refine Zl S82 Zco V V V (Zae S82.imm (Query.mk 0 q.table q.cols q.names q.cond 0 q.fn q.span []) _ (Zr (Query.mk 0 q.table q.cols q.names q.cond 0 q.fn q.span []) (show Zj 0 from by constructor <;> decide) B2 (A1.mono L1) (A2.mono L1) Z7 Z5 ZD hb6 hb7 ZV (A3.mono L1) (show Zj 0 from by constructor <;> decide) ZI ZJ ZL (Sl.nil QryE 224 G1))) (fun w84 G22 S83 L22=>?_)
     exact RB S83 V (by (rw [Zce ‹_›]; simp_all [Zx,Cmp.b,SCmp.b,ZO,Z6,Z3,ZF]))
    exact RB S82 V (by (rw [Zce ‹_›]; simp_all [Zx,Cmp.b,SCmp.b,ZO,Z6,Z3,ZF]))
   refine WL.store S5 0 _ _ _ 11 _ [U 0] [U 0,Za q.table,v1,v2,U q.cond.kind,Za q.cond.col,Za q.cond.oth,U q.cond.v.k,U q.cond.v.n,Za q.cond.v.s,v3,U 0,U q.fn,U q.span.a,U q.span.b,Zf] _ V V Zk V (ZZ V) V V V V V V (fun w85 S84=>?_)
   exact RB S84 V (by (rw [Zce ‹_›]; simp_all [Zx,Cmp.b,SCmp.b,ZO,Z6,Z3,ZF] <;> (omega)))
  refine WL.store S5 0 _ _ _ 11 _ [U 0] [U 0,Za q.table,v1,v2,U q.cond.kind,Za q.cond.col,Za q.cond.oth,U q.cond.v.k,U q.cond.v.n,Za q.cond.v.s,v3,U 0,U q.fn,U q.span.a,U q.span.b,Zf] _ V V Zk V (ZZ V) V V V V V V (fun w86 S85=>?_)
  exact RB S85 V (by (rw [Zce ‹_›]; simp_all [Zx,Cmp.b,SCmp.b,ZO,Z6,Z3,ZF] <;> (omega)))
 exact RB S5 V (by exact (Zgt ‹_› ‹_› ‹_› ‹_› ‹_› ‹_› ‹_› ‹_› ‹_› ‹_›).symm)
theorem ZrJ {G : GH} {w : World} (hG : G.In w) (n : Nat) (q : Query) (cq : List Value) (hcq : QryE.rep G q cq) (hn : Xx q n) : CL Tryz.prog (nat_lit 60) #[.agg cq.toArray] [] w G fun _ _ r=>r = .bool (Xd n q):=by
 refine Zg ft [] Tryz.func60 V V ?_
 have hS:=St.start (X:=[]) hG
 have T1:=Zs hcq
 obtain ⟨v1,v2,v3,v4,rfl,B1,B2,A1,A2,Z7,Z5,ZD,hb6,hb7,ZV,A3,hb9,ZI,ZJ,ZL,A4⟩:=T1
 refine Z4 (QV q v1 v2 v3 v4) _ hS V V V (fun p1 w1 G1 L1 M1 C1 S1=>?_)
 refine Z S1 (Xh.drop 0 C1) Zk V V V ?_
 refine Ze q.kind 1 V V V (fun h1=>?_) (fun h1=>?_)
 ·refine Z S1 (Xh.drop 15 C1) Yu V V V ?_
  have V1:=A4.bound
  refine Zm (A4.mono L1) Y1 V V ?_
  refine Zz (q.l.length : Int) 0 V V V (fun h2=>?_) (fun h2=>?_)
  ·exact RB S1 V (by (rw [Zgs ‹_›]; simp_all [Zx,Cmp.b,SCmp.b,ZO,Z6,Z3,ZF]))
  refine Z S1 (Xh.drop 2 C1) ZH V V V ?_
  have V2:=A1.bound
  refine Zm (A1.mono L1) Yb V V ?_
  refine Z1 (q.cols.length : Int) 0 V V V (fun h3=>?_) (fun h3=>?_)
  ·exact RB S1 V (by exact ZeT (by omega) ‹_›)
  refine Z S1 (Xh.drop 3 C1) ZH V V V ?_
  have V3:=A2.bound
  refine Zm (A2.mono L1) Yb V V ?_
  refine Z1 (q.names.length : Int) 0 V V V (fun h4=>?_) (fun h4=>?_)
  ·exact RB S1 V (by exact ZdL (by omega) ‹_›)
  refine Zc S1 (Xh.drop 4 C1) [U q.cond.kind,Za q.cond.col,Za q.cond.oth,U q.cond.v.k,U q.cond.v.n,Za q.cond.v.s,v3] ZY V V V V V ?_
  refine Zl S1 ZbM V V V (QY S1.imm q.cond _ (ZR q.cond Z7 Z5 ZD hb6 hb7 ZV (A3.mono L1))) (fun w2 G2 S2 L2=>?_)
  refine WL.split (fun (h5 : (YU q.cond) = true)=>?_) (fun (h5 : (YU q.cond) = false)=>?_)
  ·refine Z S2 (Xh.drop 11 (C1.mono L2)) Zk V V V ?_
   refine Zz q.rel 0 V V V (fun h6=>?_) (fun h6=>?_)
   ·exact RB S2 V (by exact ZcY (by omega) ‹_›)
   refine Z S2 (Xh.drop 12 (C1.mono L2)) Zk V V V ?_
   refine Zz q.fn 0 V V V (fun h7=>?_) (fun h7=>?_)
   ·exact RB S2 V (by exact ZcZ (by omega) ‹_›)
   refine Z S2 (Xh.drop 0 (Xh.drop 13 (C1.mono L2))) Zk V V V ?_
   refine Zz q.span.a 0 V V V (fun h8=>?_) (fun h8=>?_)
   ·exact RB S2 V (by exact Zag (by omega) (.inl ‹_›))
   refine Z S2 (Xh.drop 1 (Xh.drop 13 (C1.mono L2))) Zk V V V ?_
   refine Zz q.span.b 0 V V V (fun h9=>?_) (fun h9=>?_)
   ·exact RB S2 V (by exact Zag (by omega) (.inr ‹_›))
   refine Z S2 (Xh.drop 0 (C1.mono L2)) Zk V V V ?_
   refine Ze q.kind 1 V V V (fun h10=>?_) (fun h10=>?_)
   ·refine Z S2 (Xh.drop 1 (C1.mono L2)) Zv V V V ?_
    refine Zl S2 Zb4 V V V (Zau S2.imm q.table) (fun w3 G3 S3 L3=>?_)
    exact RB S3 V (by (rw [Zgs ‹_›]; simp_all [Zx,Cmp.b,SCmp.b,ZO,Z6,Z3,ZF]))
   omega
  exact RB S2 V (by exact ZcX (by omega) ‹_›)
 refine Ze q.kind 2 V V V (fun h11=>?_) (fun h11=>?_)
 ·refine Z S1 (Xh.drop 15 C1) Yu V V V ?_
  have V4:=A4.bound
  refine Zm (A4.mono L1) Y1 V V ?_
  refine Zz (q.l.length : Int) 1 V V V (fun h12=>?_) (fun h12=>?_)
  ·exact RB S1 V (by (rw [ZeR ‹_›]; simp_all [Zx,Cmp.b,SCmp.b,ZO,Z6,Z3,ZF]))
  refine Z S1 (Xh.drop 1 C1) Zv V V V <| Zn .neq V q.table [] V V V ?_
  refine WL.split (fun h0=>?_) (fun h0=>?_)
  ·have h13 : q.table ≠ []:=by simpa [SCmp.b] using h0
   clear h0
   exact RB S1 V (by exact ZcW (by omega) ‹_›)
  have h13 : q.table = []:=by simpa [SCmp.b] using h0
  clear h0
  refine Z S1 (Xh.drop 2 C1) ZH V V V ?_
  have V5:=A1.bound
  refine Zm (A1.mono L1) Yb V V ?_
  refine Z1 (q.cols.length : Int) 0 V V V (fun h14=>?_) (fun h14=>?_)
  ·exact RB S1 V (by exact ZeT (by omega) ‹_›)
  refine Z S1 (Xh.drop 3 C1) ZH V V V ?_
  have V6:=A2.bound
  refine Zm (A2.mono L1) Yb V V ?_
  refine Z1 (q.names.length : Int) 0 V V V (fun h15=>?_) (fun h15=>?_)
  ·exact RB S1 V (by exact ZdL (by omega) ‹_›)
  refine Z S1 (Xh.drop 11 C1) Zk V V V ?_
  refine Zz q.rel 0 V V V (fun h16=>?_) (fun h16=>?_)
  ·exact RB S1 V (by exact ZcY (by omega) ‹_›)
  refine Z S1 (Xh.drop 12 C1) Zk V V V ?_
  refine Zz q.fn 0 V V V (fun h17=>?_) (fun h17=>?_)
  ·exact RB S1 V (by exact ZcZ (by omega) ‹_›)
  refine Z S1 (Xh.drop 0 (Xh.drop 13 C1)) Zk V V V ?_
  refine Zz q.span.a 0 V V V (fun h18=>?_) (fun h18=>?_)
  ·exact RB S1 V (by exact Zag (by omega) (.inl ‹_›))
  refine Z S1 (Xh.drop 1 (Xh.drop 13 C1)) Zk V V V ?_
  refine Zz q.span.b 0 V V V (fun h19=>?_) (fun h19=>?_)
  ·exact RB S1 V (by exact Zag (by omega) (.inr ‹_›))
  refine Z S1 (Xh.drop 0 C1) Zk V V V ?_
  refine Ze q.kind 1 V V V (fun h20=>?_) (fun h20=>?_)
  ·omega
  refine Ze q.kind 2 V V V (fun h21=>?_) (fun h21=>?_)
  ·refine Zc S1 (Xh.drop 4 C1) [U q.cond.kind,Za q.cond.col,Za q.cond.oth,U q.cond.v.k,U q.cond.v.n,Za q.cond.v.s,v3] ZY V V V V V ?_
   refine Zl S1 Zhv V V V (ZlP S1.imm n q.cond _ (ZR q.cond Z7 Z5 ZD hb6 hb7 ZV (A3.mono L1)) (Zaz hn)) (fun w4 G4 S4 L4=>?_)
   exact RB S4 V (by (rw [ZeR ‹_›]; simp_all [Zx,Cmp.b,SCmp.b,ZO,Z6,Z3,ZF]))
  omega
 refine Ze q.kind 3 V V V (fun h22=>?_) (fun h22=>?_)
 ·refine Z S1 (Xh.drop 15 C1) Yu V V V ?_
  have V7:=A4.bound
  refine Zm (A4.mono L1) Y1 V V ?_
  refine Zz (q.l.length : Int) 1 V V V (fun h23=>?_) (fun h23=>?_)
  ·exact RB S1 V (by (rw [ZdK ‹_›]; simp_all [Zx,Cmp.b,SCmp.b,ZO,Z6,Z3,ZF]))
  refine Z S1 (Xh.drop 1 C1) Zv V V V <| Zn .neq V q.table [] V V V ?_
  refine WL.split (fun h0=>?_) (fun h0=>?_)
  ·have h24 : q.table ≠ []:=by simpa [SCmp.b] using h0
   clear h0
   exact RB S1 V (by exact ZcW (by omega) ‹_›)
  have h24 : q.table = []:=by simpa [SCmp.b] using h0
  clear h0
  refine Z S1 (Xh.drop 3 C1) ZH V V V ?_
  have V8:=A2.bound
  refine Zm (A2.mono L1) Yb V V ?_
  refine Z1 (q.names.length : Int) 0 V V V (fun h25=>?_) (fun h25=>?_)
  ·exact RB S1 V (by exact ZdL (by omega) ‹_›)
  refine Zc S1 (Xh.drop 4 C1) [U q.cond.kind,Za q.cond.col,Za q.cond.oth,U q.cond.v.k,U q.cond.v.n,Za q.cond.v.s,v3] ZY V V V V V ?_
  refine Zl S1 ZbM V V V (QY S1.imm q.cond _ (ZR q.cond Z7 Z5 ZD hb6 hb7 ZV (A3.mono L1))) (fun w5 G5 S5 L5=>?_)
  refine WL.split (fun (h26 : (YU q.cond) = true)=>?_) (fun (h26 : (YU q.cond) = false)=>?_)
  ·refine Z S5 (Xh.drop 11 (C1.mono L5)) Zk V V V ?_
   refine Zz q.rel 0 V V V (fun h27=>?_) (fun h27=>?_)
   ·exact RB S5 V (by exact ZcY (by omega) ‹_›)
   refine Z S5 (Xh.drop 12 (C1.mono L5)) Zk V V V ?_
   refine Zz q.fn 0 V V V (fun h28=>?_) (fun h28=>?_)
   ·exact RB S5 V (by exact ZcZ (by omega) ‹_›)
   refine Z S5 (Xh.drop 0 (Xh.drop 13 (C1.mono L5))) Zk V V V ?_
   refine Zz q.span.a 0 V V V (fun h29=>?_) (fun h29=>?_)
   ·exact RB S5 V (by exact Zag (by omega) (.inl ‹_›))
   refine Z S5 (Xh.drop 1 (Xh.drop 13 (C1.mono L5))) Zk V V V ?_
   refine Zz q.span.b 0 V V V (fun h30=>?_) (fun h30=>?_)
   ·exact RB S5 V (by exact Zag (by omega) (.inr ‹_›))
   refine Z S5 (Xh.drop 0 (C1.mono L5)) Zk V V V ?_
   refine Ze q.kind 1 V V V (fun h31=>?_) (fun h31=>?_)
   ·omega
   refine Ze q.kind 2 V V V (fun h32=>?_) (fun h32=>?_)
   ·omega
   refine Ze q.kind 3 V V V (fun h33=>?_) (fun h33=>?_)
   ·refine Z S5 (Xh.drop 2 (C1.mono L5)) ZH V V V ?_
    have V9:=A1.bound
    refine Zm (A1.mono (L1.trans L5)) Yb V V ?_
    refine Z1 (q.cols.length : Int) 0 V V V (fun h34=>?_) (fun h34=>?_)
    ·refine Z S5 (Xh.drop 2 (C1.mono L5)) ZH V V V ?_
     refine Zl S5 Zdf V V V (Zgh S5.imm q.cols _ (A1.mono (L1.trans L5))) (fun w6 G6 S6 L6=>?_)
     exact RB S6 V (by (rw [ZdK ‹_›]; simp_all [Zx,Cmp.b,SCmp.b,ZO,Z6,Z3,ZF]))
    exact RB S5 V (by (rw [ZdK ‹_›]; simp_all [Zx,Cmp.b,SCmp.b,ZO,Z6,Z3,ZF]))
   omega
  exact RB S5 V (by exact ZcX (by omega) ‹_›)
 refine Ze q.kind 4 V V V (fun h35=>?_) (fun h35=>?_)
 ·refine Z S1 (Xh.drop 15 C1) Yu V V V ?_
  have V10:=A4.bound
  refine Zm (A4.mono L1) Y1 V V ?_
  refine Zz (q.l.length : Int) 1 V V V (fun h36=>?_) (fun h36=>?_)
  ·exact RB S1 V (by (rw [ZaV ‹_›]; simp_all [Zx,Cmp.b,SCmp.b,ZO,Z6,Z3,ZF]))
  refine Z S1 (Xh.drop 1 C1) Zv V V V <| Zn .neq V q.table [] V V V ?_
  refine WL.split (fun h0=>?_) (fun h0=>?_)
  ·have h37 : q.table ≠ []:=by simpa [SCmp.b] using h0
   clear h0
   exact RB S1 V (by exact ZcW (by omega) ‹_›)
  have h37 : q.table = []:=by simpa [SCmp.b] using h0
  clear h0
  refine Zc S1 (Xh.drop 4 C1) [U q.cond.kind,Za q.cond.col,Za q.cond.oth,U q.cond.v.k,U q.cond.v.n,Za q.cond.v.s,v3] ZY V V V V V ?_
  refine Zl S1 ZbM V V V (QY S1.imm q.cond _ (ZR q.cond Z7 Z5 ZD hb6 hb7 ZV (A3.mono L1))) (fun w7 G7 S7 L7=>?_)
  refine WL.split (fun (h38 : (YU q.cond) = true)=>?_) (fun (h38 : (YU q.cond) = false)=>?_)
  ·refine Z S7 (Xh.drop 11 (C1.mono L7)) Zk V V V ?_
   refine Zz q.rel 0 V V V (fun h39=>?_) (fun h39=>?_)
   ·exact RB S7 V (by exact ZcY (by omega) ‹_›)
   refine Z S7 (Xh.drop 12 (C1.mono L7)) Zk V V V ?_
   refine Zz q.fn 0 V V V (fun h40=>?_) (fun h40=>?_)
   ·exact RB S7 V (by exact ZcZ (by omega) ‹_›)
   refine Z S7 (Xh.drop 0 (Xh.drop 13 (C1.mono L7))) Zk V V V ?_
   refine Zz q.span.a 0 V V V (fun h41=>?_) (fun h41=>?_)
   ·exact RB S7 V (by exact Zag (by omega) (.inl ‹_›))
   refine Z S7 (Xh.drop 1 (Xh.drop 13 (C1.mono L7))) Zk V V V ?_
   refine Zz q.span.b 0 V V V (fun h42=>?_) (fun h42=>?_)
   ·exact RB S7 V (by exact Zag (by omega) (.inr ‹_›))
   refine Z S7 (Xh.drop 0 (C1.mono L7)) Zk V V V ?_
   refine Ze q.kind 1 V V V (fun h43=>?_) (fun h43=>?_)
   ·omega
   refine Ze q.kind 2 V V V (fun h44=>?_) (fun h44=>?_)
   ·omega
   refine Ze q.kind 3 V V V (fun h45=>?_) (fun h45=>?_)
   ·omega
   refine Ze q.kind 4 V V V (fun h46=>?_) (fun h46=>?_)
   ·refine Z S7 (Xh.drop 2 (C1.mono L7)) ZH V V V ?_
    have V11:=A1.bound
    have j1:=(L1.trans L7)
    refine Zm (A1.mono j1) Yb V V ?_
    refine Ze (q.cols.length : Int) 0 V V V (fun h47=>?_) (fun h47=>?_)
    ·exact RB S7 V (by (rw [ZaV ‹_›]; simp_all [Zx,Cmp.b,SCmp.b,ZO,Z6,Z3,ZF]))
    refine Z S7 (Xh.drop 3 (C1.mono L7)) ZH V V V ?_
    have V12:=A2.bound
    refine Zm (A2.mono j1) Yb V V <| Z S7 (Xh.drop 2 (C1.mono L7)) ZH V V V ?_
    have V13:=A1.bound
    refine Zm (A1.mono j1) Yb V V ?_
    refine Zz (q.names.length : Int) (q.cols.length : Int) V V V (fun h48=>?_) (fun h48=>?_)
    ·exact RB S7 V (by (rw [ZaV ‹_›]; simp_all [Zx,Cmp.b,SCmp.b,ZO,Z6,Z3,ZF]))
    refine Z S7 (Xh.drop 2 (C1.mono L7)) ZH V V V ?_
    refine Zl S7 Zdf V V V (Zgh S7.imm q.cols _ (A1.mono j1)) (fun w9 G9 S8 L9=>?_)
    refine WL.split (fun (h49 : (QF q.cols) = true)=>?_) (fun (h49 : (QF q.cols) = false)=>?_)
    ·refine LP.go ft [] (fun m ρ1 w1=>∃ (k1 : Nat),∃ (G10 : GH),m = q.names.length - k1 ∧ G9.le G10 ∧ St w [] G G10 [] w1 ∧ FR ρ1 [(1,ZP p1),(11,U (k1 : Int))] ∧ k1 ≤ q.names.length ∧ ∀ j,j < k1 → ∀ x,q.names[j]? = some x → YB x = true) _ ⟨0,G9,V,(G9.le_refl),S8,⟨V,V,trivial⟩,(by omega),(by intro j hj; omega)⟩ ?_
     rintro m ρ1 w10 ⟨k1,G10,rfl,L10,S9,F9,f1,f2⟩
     refine F9.set ?_
     clear F9
     refine Z S9 (Xh.drop 3 (C1.mono ((L7.trans L9).trans L10))) ZH V V V ?_
     have V14:=A2.bound
     refine Zm (A2.mono (((L1.trans L7).trans L9).trans L10)) Yb V V ?_
     refine Zp (k1 : Int) (q.names.length : Int) V V V (fun h50=>?_) (fun h50=>?_)
     ·refine Z S9 (Xh.drop 3 (C1.mono ((L7.trans L9).trans L10))) ZH V V V ?_
      refine WL.indexAddr (A2.mono (((L1.trans L7).trans L9).trans L10)) k1 (by omega) Yb Zv V V V V (fun p2 x1 U1 E1=>?_)
      obtain ⟨D1,C2,R1⟩:=E1
      obtain ⟨rfl,Y0⟩:=R1
      refine Z S9 C2 Zv V V V ?_
      refine Zl S9 Zb4 V V V (Zau S9.imm x1) (fun w11 G11 S10 L11=>?_)
      refine WL.split (fun (h51 : (YB x1) = true)=>?_) (fun (h51 : (YB x1) = false)=>?_)
      ·refine Zq k1 (by have:=Zb; omega) V V V ?_
       exact BK.mk' _ ⟨k1 + 1,G11,V,(L10.trans L11),S10,⟨V,V,trivial⟩,(by omega),(by exact Ys ‹_› ‹_› ‹_›)⟩ (show q.names.length - (k1 + 1) < q.names.length - k1 by omega)
      exact RB S10 V (by (rw [ZaV ‹_›,Zsc ‹_› ‹_›]; simp))
     have hnm9:=ZvF (by assumption : ∀ j,j < k1 → ∀ x,q.names[j]? = some x → YB x = true) (by omega)
     exact RB S9 V (by exact ZxY ‹_› ‹_› ‹_› ‹_› ‹_› ‹_› ‹_› ‹_› ‹_› ‹_› ‹_› hnm9)
    exact RB S8 V (by (rw [ZaV ‹_›]; simp_all [Zx,Cmp.b,SCmp.b,ZO,Z6,Z3,ZF]))
   omega
  exact RB S7 V (by exact ZcX (by omega) ‹_›)
 refine Ze q.kind 5 V V V (fun h52=>?_) (fun h52=>?_)
 ·refine Z S1 (Xh.drop 15 C1) Yu V V V ?_
  have V15:=A4.bound
  refine Zm (A4.mono L1) Y1 V V ?_
  refine Zz (q.l.length : Int) 2 V V V (fun h53=>?_) (fun h53=>?_)
  ·exact RB S1 V (by (rw [ZaJ (by exact .inl ‹_›)]; simp_all [Zx,Cmp.b,SCmp.b,ZO,Z6,Z3,ZF]))
  refine Z S1 (Xh.drop 1 C1) Zv V V V <| Zn .neq V q.table [] V V V ?_
  refine WL.split (fun h0=>?_) (fun h0=>?_)
  ·have h54 : q.table ≠ []:=by simpa [SCmp.b] using h0
   clear h0
   exact RB S1 V (by exact ZcW (by omega) ‹_›)
  have h54 : q.table = []:=by simpa [SCmp.b] using h0
  clear h0
  refine Z S1 (Xh.drop 2 C1) ZH V V V ?_
  have V16:=A1.bound
  refine Zm (A1.mono L1) Yb V V ?_
  refine Z1 (q.cols.length : Int) 0 V V V (fun h55=>?_) (fun h55=>?_)
  ·exact RB S1 V (by exact ZeT (by omega) ‹_›)
  refine Z S1 (Xh.drop 3 C1) ZH V V V ?_
  have V17:=A2.bound
  refine Zm (A2.mono L1) Yb V V ?_
  refine Z1 (q.names.length : Int) 0 V V V (fun h56=>?_) (fun h56=>?_)
  ·exact RB S1 V (by exact ZdL (by omega) ‹_›)
  refine Zc S1 (Xh.drop 4 C1) [U q.cond.kind,Za q.cond.col,Za q.cond.oth,U q.cond.v.k,U q.cond.v.n,Za q.cond.v.s,v3] ZY V V V V V ?_
  refine Zl S1 ZbM V V V (QY S1.imm q.cond _ (ZR q.cond Z7 Z5 ZD hb6 hb7 ZV (A3.mono L1))) (fun w12 G12 S11 L12=>?_)
  refine WL.split (fun (h57 : (YU q.cond) = true)=>?_) (fun (h57 : (YU q.cond) = false)=>?_)
  ·refine Z S11 (Xh.drop 11 (C1.mono L12)) Zk V V V ?_
   refine Zz q.rel 0 V V V (fun h58=>?_) (fun h58=>?_)
   ·exact RB S11 V (by exact ZcY (by omega) ‹_›)
   refine Z S11 (Xh.drop 12 (C1.mono L12)) Zk V V V ?_
   refine Zz q.fn 0 V V V (fun h59=>?_) (fun h59=>?_)
   ·exact RB S11 V (by exact ZcZ (by omega) ‹_›)
   refine Z S11 (Xh.drop 0 (Xh.drop 13 (C1.mono L12))) Zk V V V ?_
   refine Zz q.span.a 0 V V V (fun h60=>?_) (fun h60=>?_)
   ·exact RB S11 V (by exact Zag (by omega) (.inl ‹_›))
   refine Z S11 (Xh.drop 1 (Xh.drop 13 (C1.mono L12))) Zk V V V ?_
   refine Zz q.span.b 0 V V V (fun h61=>?_) (fun h61=>?_)
   ·exact RB S11 V (by exact Zag (by omega) (.inr ‹_›))
   refine Z S11 (Xh.drop 0 (C1.mono L12)) Zk V V V ?_
   refine Ze q.kind 1 V V V (fun h62=>?_) (fun h62=>?_)
   ·omega
   refine Ze q.kind 2 V V V (fun h63=>?_) (fun h63=>?_)
   ·omega
   refine Ze q.kind 3 V V V (fun h64=>?_) (fun h64=>?_)
   ·omega
   refine Ze q.kind 4 V V V (fun h65=>?_) (fun h65=>?_)
   ·omega
   refine Ze q.kind 8 V V V (fun h66=>?_) (fun h66=>?_)
   ·omega
   refine Ze q.kind 9 V V V (fun h67=>?_) (fun h67=>?_)
   ·omega
   refine Ze q.kind 10 V V V (fun h68=>?_) (fun h68=>?_)
   ·omega
   exact RB S11 V (by (rw [ZaJ (by exact .inl ‹_›)]; simp_all [Zx,Cmp.b,SCmp.b,ZO,Z6,Z3,ZF]))
  exact RB S11 V (by exact ZcX (by omega) ‹_›)
 refine Ze q.kind 6 V V V (fun h69=>?_) (fun h69=>?_)
 ·refine Z S1 (Xh.drop 15 C1) Yu V V V ?_
  have V18:=A4.bound
  refine Zm (A4.mono L1) Y1 V V ?_
  refine Zz (q.l.length : Int) 2 V V V (fun h70=>?_) (fun h70=>?_)
  ·exact RB S1 V (by (rw [ZaJ (by exact .inr (.inl ‹_›))]; simp_all [Zx,Cmp.b,SCmp.b,ZO,Z6,Z3,ZF]))
  refine Z S1 (Xh.drop 1 C1) Zv V V V <| Zn .neq V q.table [] V V V ?_
  refine WL.split (fun h0=>?_) (fun h0=>?_)
  ·have h71 : q.table ≠ []:=by simpa [SCmp.b] using h0
   clear h0
   exact RB S1 V (by exact ZcW (by omega) ‹_›)
  have h71 : q.table = []:=by simpa [SCmp.b] using h0
  clear h0
  refine Z S1 (Xh.drop 2 C1) ZH V V V ?_
  have V19:=A1.bound
  refine Zm (A1.mono L1) Yb V V ?_
  refine Z1 (q.cols.length : Int) 0 V V V (fun h72=>?_) (fun h72=>?_)
  ·exact RB S1 V (by exact ZeT (by omega) ‹_›)
  refine Z S1 (Xh.drop 3 C1) ZH V V V ?_
  have V20:=A2.bound
  refine Zm (A2.mono L1) Yb V V ?_
  refine Z1 (q.names.length : Int) 0 V V V (fun h73=>?_) (fun h73=>?_)
  ·exact RB S1 V (by exact ZdL (by omega) ‹_›)
  refine Zc S1 (Xh.drop 4 C1) [U q.cond.kind,Za q.cond.col,Za q.cond.oth,U q.cond.v.k,U q.cond.v.n,Za q.cond.v.s,v3] ZY V V V V V ?_
  refine Zl S1 ZbM V V V (QY S1.imm q.cond _ (ZR q.cond Z7 Z5 ZD hb6 hb7 ZV (A3.mono L1))) (fun w13 G13 S12 L13=>?_)
  refine WL.split (fun (h74 : (YU q.cond) = true)=>?_) (fun (h74 : (YU q.cond) = false)=>?_)
  ·refine Z S12 (Xh.drop 11 (C1.mono L13)) Zk V V V ?_
   refine Zz q.rel 0 V V V (fun h75=>?_) (fun h75=>?_)
   ·exact RB S12 V (by exact ZcY (by omega) ‹_›)
   refine Z S12 (Xh.drop 12 (C1.mono L13)) Zk V V V ?_
   refine Zz q.fn 0 V V V (fun h76=>?_) (fun h76=>?_)
   ·exact RB S12 V (by exact ZcZ (by omega) ‹_›)
   refine Z S12 (Xh.drop 0 (Xh.drop 13 (C1.mono L13))) Zk V V V ?_
   refine Zz q.span.a 0 V V V (fun h77=>?_) (fun h77=>?_)
   ·exact RB S12 V (by exact Zag (by omega) (.inl ‹_›))
   refine Z S12 (Xh.drop 1 (Xh.drop 13 (C1.mono L13))) Zk V V V ?_
   refine Zz q.span.b 0 V V V (fun h78=>?_) (fun h78=>?_)
   ·exact RB S12 V (by exact Zag (by omega) (.inr ‹_›))
   refine Z S12 (Xh.drop 0 (C1.mono L13)) Zk V V V ?_
   refine Ze q.kind 1 V V V (fun h79=>?_) (fun h79=>?_)
   ·omega
   refine Ze q.kind 2 V V V (fun h80=>?_) (fun h80=>?_)
   ·omega
   refine Ze q.kind 3 V V V (fun h81=>?_) (fun h81=>?_)
   ·omega
   refine Ze q.kind 4 V V V (fun h82=>?_) (fun h82=>?_)
   ·omega
   refine Ze q.kind 8 V V V (fun h83=>?_) (fun h83=>?_)
   ·omega
   refine Ze q.kind 9 V V V (fun h84=>?_) (fun h84=>?_)
   ·omega
   refine Ze q.kind 10 V V V (fun h85=>?_) (fun h85=>?_)
   ·omega
   exact RB S12 V (by (rw [ZaJ (by exact .inr (.inl ‹_›))]; simp_all [Zx,Cmp.b,SCmp.b,ZO,Z6,Z3,ZF]))
  exact RB S12 V (by exact ZcX (by omega) ‹_›)
 refine Ze q.kind 7 V V V (fun h86=>?_) (fun h86=>?_)
 ·refine Z S1 (Xh.drop 15 C1) Yu V V V ?_
  have V21:=A4.bound
  refine Zm (A4.mono L1) Y1 V V ?_
  refine Zz (q.l.length : Int) 2 V V V (fun h87=>?_) (fun h87=>?_)
  ·exact RB S1 V (by (rw [ZaJ (by exact .inr (.inr ‹_›))]; simp_all [Zx,Cmp.b,SCmp.b,ZO,Z6,Z3,ZF]))
  refine Z S1 (Xh.drop 1 C1) Zv V V V <| Zn .neq V q.table [] V V V ?_
  refine WL.split (fun h0=>?_) (fun h0=>?_)
  ·have h88 : q.table ≠ []:=by simpa [SCmp.b] using h0
   clear h0
   exact RB S1 V (by exact ZcW (by omega) ‹_›)
  have h88 : q.table = []:=by simpa [SCmp.b] using h0
  clear h0
  refine Z S1 (Xh.drop 2 C1) ZH V V V ?_
  have V22:=A1.bound
  refine Zm (A1.mono L1) Yb V V ?_
  refine Z1 (q.cols.length : Int) 0 V V V (fun h89=>?_) (fun h89=>?_)
  ·exact RB S1 V (by exact ZeT (by omega) ‹_›)
  refine Z S1 (Xh.drop 3 C1) ZH V V V ?_
  have V23:=A2.bound
  refine Zm (A2.mono L1) Yb V V ?_
  refine Z1 (q.names.length : Int) 0 V V V (fun h90=>?_) (fun h90=>?_)
  ·exact RB S1 V (by exact ZdL (by omega) ‹_›)
  refine Zc S1 (Xh.drop 4 C1) [U q.cond.kind,Za q.cond.col,Za q.cond.oth,U q.cond.v.k,U q.cond.v.n,Za q.cond.v.s,v3] ZY V V V V V ?_
  refine Zl S1 ZbM V V V (QY S1.imm q.cond _ (ZR q.cond Z7 Z5 ZD hb6 hb7 ZV (A3.mono L1))) (fun w14 G14 S13 L14=>?_)
  refine WL.split (fun (h91 : (YU q.cond) = true)=>?_) (fun (h91 : (YU q.cond) = false)=>?_)
  ·refine Z S13 (Xh.drop 11 (C1.mono L14)) Zk V V V ?_
   refine Zz q.rel 0 V V V (fun h92=>?_) (fun h92=>?_)
   ·exact RB S13 V (by exact ZcY (by omega) ‹_›)
   refine Z S13 (Xh.drop 12 (C1.mono L14)) Zk V V V ?_
   refine Zz q.fn 0 V V V (fun h93=>?_) (fun h93=>?_)
   ·exact RB S13 V (by exact ZcZ (by omega) ‹_›)
   refine Z S13 (Xh.drop 0 (Xh.drop 13 (C1.mono L14))) Zk V V V ?_
   refine Zz q.span.a 0 V V V (fun h94=>?_) (fun h94=>?_)
   ·exact RB S13 V (by exact Zag (by omega) (.inl ‹_›))
   refine Z S13 (Xh.drop 1 (Xh.drop 13 (C1.mono L14))) Zk V V V ?_
   refine Zz q.span.b 0 V V V (fun h95=>?_) (fun h95=>?_)
   ·exact RB S13 V (by exact Zag (by omega) (.inr ‹_›))
   refine Z S13 (Xh.drop 0 (C1.mono L14)) Zk V V V ?_
   refine Ze q.kind 1 V V V (fun h96=>?_) (fun h96=>?_)
   ·omega
   refine Ze q.kind 2 V V V (fun h97=>?_) (fun h97=>?_)
   ·omega
   refine Ze q.kind 3 V V V (fun h98=>?_) (fun h98=>?_)
   ·omega
   refine Ze q.kind 4 V V V (fun h99=>?_) (fun h99=>?_)
   ·omega
   refine Ze q.kind 8 V V V (fun h100=>?_) (fun h100=>?_)
   ·omega
   refine Ze q.kind 9 V V V (fun h101=>?_) (fun h101=>?_)
   ·omega
   refine Ze q.kind 10 V V V (fun h102=>?_) (fun h102=>?_)
   ·omega
   exact RB S13 V (by (rw [ZaJ (by exact .inr (.inr ‹_›))]; simp_all [Zx,Cmp.b,SCmp.b,ZO,Z6,Z3,ZF]))
  exact RB S13 V (by exact ZcX (by omega) ‹_›)
 refine Ze q.kind 8 V V V (fun h103=>?_) (fun h103=>?_)
 ·refine Z S1 (Xh.drop 15 C1) Yu V V V ?_
  have V24:=A4.bound
  refine Zm (A4.mono L1) Y1 V V ?_
  refine Zz (q.l.length : Int) 1 V V V (fun h104=>?_) (fun h104=>?_)
  ·exact RB S1 V (by (rw [Zcd ‹_›]; simp_all [Zx,Cmp.b,SCmp.b,ZO,Z6,Z3,ZF]))
  refine Z S1 (Xh.drop 1 C1) Zv V V V <| Zn .neq V q.table [] V V V ?_
  refine WL.split (fun h0=>?_) (fun h0=>?_)
  ·have h105 : q.table ≠ []:=by simpa [SCmp.b] using h0
   clear h0
   exact RB S1 V (by exact ZcW (by omega) ‹_›)
  have h105 : q.table = []:=by simpa [SCmp.b] using h0
  clear h0
  refine Z S1 (Xh.drop 2 C1) ZH V V V ?_
  have V25:=A1.bound
  refine Zm (A1.mono L1) Yb V V ?_
  refine Z1 (q.cols.length : Int) 0 V V V (fun h106=>?_) (fun h106=>?_)
  ·exact RB S1 V (by exact ZeT (by omega) ‹_›)
  refine Z S1 (Xh.drop 3 C1) ZH V V V ?_
  have V26:=A2.bound
  refine Zm (A2.mono L1) Yb V V ?_
  refine Z1 (q.names.length : Int) 0 V V V (fun h107=>?_) (fun h107=>?_)
  ·exact RB S1 V (by exact ZdL (by omega) ‹_›)
  refine Zc S1 (Xh.drop 4 C1) [U q.cond.kind,Za q.cond.col,Za q.cond.oth,U q.cond.v.k,U q.cond.v.n,Za q.cond.v.s,v3] ZY V V V V V ?_
  refine Zl S1 ZbM V V V (QY S1.imm q.cond _ (ZR q.cond Z7 Z5 ZD hb6 hb7 ZV (A3.mono L1))) (fun w15 G15 S14 L15=>?_)
  refine WL.split (fun (h108 : (YU q.cond) = true)=>?_) (fun (h108 : (YU q.cond) = false)=>?_)
  ·refine Z S14 (Xh.drop 11 (C1.mono L15)) Zk V V V ?_
   refine Zz q.rel 0 V V V (fun h109=>?_) (fun h109=>?_)
   ·exact RB S14 V (by exact ZcY (by omega) ‹_›)
   refine Z S14 (Xh.drop 12 (C1.mono L15)) Zk V V V ?_
   refine Zz q.fn 0 V V V (fun h110=>?_) (fun h110=>?_)
   ·exact RB S14 V (by exact ZcZ (by omega) ‹_›)
   refine Z S14 (Xh.drop 0 (C1.mono L15)) Zk V V V ?_
   refine Ze q.kind 1 V V V (fun h111=>?_) (fun h111=>?_)
   ·omega
   refine Ze q.kind 2 V V V (fun h112=>?_) (fun h112=>?_)
   ·omega
   refine Ze q.kind 3 V V V (fun h113=>?_) (fun h113=>?_)
   ·omega
   refine Ze q.kind 4 V V V (fun h114=>?_) (fun h114=>?_)
   ·omega
   refine Ze q.kind 8 V V V (fun h115=>?_) (fun h115=>?_)
   ·refine Z S14 (Xh.drop 0 (Xh.drop 13 (C1.mono L15))) Zk V V V ?_
    refine ZM q.span.a (-62135596800) V V V (fun h116=>?_) (fun h116=>?_)
    ·refine Z S14 (Xh.drop 0 (Xh.drop 13 (C1.mono L15))) Zk V V V <| Z S14 (Xh.drop 1 (Xh.drop 13 (C1.mono L15))) Zk V V V ?_
     refine Zp q.span.a q.span.b V V V (fun h117=>?_) (fun h117=>?_)
     ·refine Z S14 (Xh.drop 1 (Xh.drop 13 (C1.mono L15))) Zk V V V <| Yd .leq V .i64 q.span.b 253402300800 V V V ?_
      exact RB S14 V (by (rw [Zcd ‹_›]; simp_all [Zx,Cmp.b,SCmp.b,ZO,Z6,Z3,ZF]))
     exact RB S14 V (by (rw [Zcd ‹_›]; simp_all [Zx,Cmp.b,SCmp.b,ZO,Z6,Z3,ZF] <;> (omega)))
    exact RB S14 V (by (rw [Zcd ‹_›]; simp_all [Zx,Cmp.b,SCmp.b,ZO,Z6,Z3,ZF] <;> (omega)))
   omega
  exact RB S14 V (by exact ZcX (by omega) ‹_›)
 refine Ze q.kind 9 V V V (fun h118=>?_) (fun h118=>?_)
 ·refine Z S1 (Xh.drop 15 C1) Yu V V V ?_
  have V27:=A4.bound
  refine Zm (A4.mono L1) Y1 V V ?_
  refine Zz (q.l.length : Int) 1 V V V (fun h119=>?_) (fun h119=>?_)
  ·exact RB S1 V (by (rw [Qo ‹_›]; simp_all [Zx,Cmp.b,SCmp.b,ZO,Z6,Z3,ZF]))
  refine Z S1 (Xh.drop 1 C1) Zv V V V <| Zn .neq V q.table [] V V V ?_
  refine WL.split (fun h0=>?_) (fun h0=>?_)
  ·have h120 : q.table ≠ []:=by simpa [SCmp.b] using h0
   clear h0
   exact RB S1 V (by exact ZcW (by omega) ‹_›)
  have h120 : q.table = []:=by simpa [SCmp.b] using h0
  clear h0
  refine Zc S1 (Xh.drop 4 C1) [U q.cond.kind,Za q.cond.col,Za q.cond.oth,U q.cond.v.k,U q.cond.v.n,Za q.cond.v.s,v3] ZY V V V V V ?_
  refine Zl S1 ZbM V V V (QY S1.imm q.cond _ (ZR q.cond Z7 Z5 ZD hb6 hb7 ZV (A3.mono L1))) (fun w16 G16 S15 L16=>?_)
  refine WL.split (fun (h121 : (YU q.cond) = true)=>?_) (fun (h121 : (YU q.cond) = false)=>?_)
  ·refine Z S15 (Xh.drop 11 (C1.mono L16)) Zk V V V ?_
   refine Zz q.rel 0 V V V (fun h122=>?_) (fun h122=>?_)
   ·exact RB S15 V (by exact ZcY (by omega) ‹_›)
   refine Z S15 (Xh.drop 0 (Xh.drop 13 (C1.mono L16))) Zk V V V ?_
   refine Zz q.span.a 0 V V V (fun h123=>?_) (fun h123=>?_)
   ·exact RB S15 V (by exact Zag (by omega) (.inl ‹_›))
   refine Z S15 (Xh.drop 1 (Xh.drop 13 (C1.mono L16))) Zk V V V ?_
   refine Zz q.span.b 0 V V V (fun h124=>?_) (fun h124=>?_)
   ·exact RB S15 V (by exact Zag (by omega) (.inr ‹_›))
   refine Z S15 (Xh.drop 0 (C1.mono L16)) Zk V V V ?_
   refine Ze q.kind 1 V V V (fun h125=>?_) (fun h125=>?_)
   ·omega
   refine Ze q.kind 2 V V V (fun h126=>?_) (fun h126=>?_)
   ·omega
   refine Ze q.kind 3 V V V (fun h127=>?_) (fun h127=>?_)
   ·omega
   refine Ze q.kind 4 V V V (fun h128=>?_) (fun h128=>?_)
   ·omega
   refine Ze q.kind 8 V V V (fun h129=>?_) (fun h129=>?_)
   ·omega
   refine Ze q.kind 9 V V V (fun h130=>?_) (fun h130=>?_)
   ·refine Z S15 (Xh.drop 2 (C1.mono L16)) ZH V V V ?_
    have j2:=(L1.trans L16)
    refine Zl S15 Zdf V V V (Zgh S15.imm q.cols _ (A1.mono j2)) (fun w17 G17 S16 L17=>?_)
    refine WL.split (fun (h131 : (QF q.cols) = true)=>?_) (fun (h131 : (QF q.cols) = false)=>?_)
    ·have j3:=(L16.trans L17)
     refine Z S16 (Xh.drop 12 (C1.mono j3)) Zk V V V ?_
     refine Zp q.fn 1 V V V (fun h132=>?_) (fun h132=>?_)
     ·exact RB S16 V (by (rw [Qo ‹_›]; simp_all [Zx,Cmp.b,SCmp.b,ZO,Z6,Z3,ZF] <;> (omega)))
     refine Z S16 (Xh.drop 12 (C1.mono j3)) Zk V V V ?_
     refine Z1 q.fn 4 V V V (fun h133=>?_) (fun h133=>?_)
     ·exact RB S16 V (by (rw [Qo ‹_›]; simp_all [Zx,Cmp.b,SCmp.b,ZO,Z6,Z3,ZF] <;> (omega)))
     refine Z S16 (Xh.drop 12 (C1.mono j3)) Zk V V V ?_
     refine Ze q.fn 1 V V V (fun h134=>?_) (fun h134=>?_)
     ·refine Z S16 (Xh.drop 3 (C1.mono j3)) ZH V V V ?_
      have V28:=A2.bound
      refine Zm (A2.mono (j2.trans L17)) Yb V V ?_
      refine Ze (q.names.length : Int) 1 V V V (fun h135=>?_) (fun h135=>?_)
      ·refine Z S16 (Xh.drop 3 (C1.mono j3)) ZH V V V ?_
       refine WL.indexAddr (A2.mono (j2.trans L17)) 0 (by omega) Yb Zv V V V V (fun p3 x2 U2 E2=>?_)
       obtain ⟨D2,C3,R2⟩:=E2
       obtain ⟨rfl,Y6⟩:=R2
       refine Z S16 C3 Zv V V V ?_
       refine Zl S16 Zb4 V V V (Zau S16.imm x2) (fun w18 G18 S17 L18=>?_)
       exact RB S17 V (by (rw [Qo ‹_›,Z08 ‹_› ‹_›]; simp_all [Zx,Cmp.b,SCmp.b,ZO,Z6,Z3,ZF]))
      exact RB S16 V (by (rw [Qo ‹_›]; simp_all [Zx,Cmp.b,SCmp.b,ZO,Z6,Z3,ZF]))
     refine Z S16 (Xh.drop 3 (C1.mono j3)) ZH V V V ?_
     have V29:=A2.bound
     have j4:=(j2.trans L17)
     refine Zm (A2.mono j4) Yb V V ?_
     refine Ze (q.names.length : Int) 2 V V V (fun h136=>?_) (fun h136=>?_)
     ·refine Z S16 (Xh.drop 3 (C1.mono j3)) ZH V V V ?_
      refine WL.indexAddr (A2.mono j4) 0 (by omega) Yb Zv V V V V (fun p4 x3 U3 E3=>?_)
      obtain ⟨D3,C4,R3⟩:=E3
      obtain ⟨rfl,YA⟩:=R3
      refine Z S16 C4 Zv V V V ?_
      refine Zl S16 Zb4 V V V (Zau S16.imm x3) (fun w19 G19 S18 L19=>?_)
      refine WL.split (fun (h137 : (YB x3) = true)=>?_) (fun (h137 : (YB x3) = false)=>?_)
      ·refine Z S18 (Xh.drop 3 (C1.mono (j3.trans L19))) ZH V V V ?_
       refine WL.indexAddr (A2.mono (j4.trans L19)) 1 (by omega) Yb Zv V V V V (fun p5 x4 U4 E4=>?_)
       obtain ⟨D4,C5,R4⟩:=E4
       obtain ⟨rfl,Y9⟩:=R4
       refine Z S18 C5 Zv V V V ?_
       refine Zl S18 Zb4 V V V (Zau S18.imm x4) (fun w20 G20 S19 L20=>?_)
       exact RB S19 V (by (rw [Qo ‹_›,Z09 (by assumption : q.names[0]? = some _) (by assumption : q.names[1]? = some _) ‹_›]; simp_all [Zx,Cmp.b,SCmp.b,ZO,Z6,Z3,ZF]))
      exact RB S18 V (by (rw [Qo ‹_›,Zsc ‹_› ‹_›]; simp))
     exact RB S16 V (by (rw [Qo ‹_›]; simp_all [Zx,Cmp.b,SCmp.b,ZO,Z6,Z3,ZF]))
    exact RB S16 V (by (rw [Qo ‹_›]; simp_all [Zx,Cmp.b,SCmp.b,ZO,Z6,Z3,ZF]))
   omega
  exact RB S15 V (by exact ZcX (by omega) ‹_›)
 refine Ze q.kind 10 V V V (fun h138=>?_) (fun h138=>?_)
 ·refine Z S1 (Xh.drop 15 C1) Yu V V V ?_
  have V30:=A4.bound
  refine Zm (A4.mono L1) Y1 V V ?_
  refine Zz (q.l.length : Int) 2 V V V (fun h139=>?_) (fun h139=>?_)
  ·exact RB S1 V (by (rw [Zce ‹_›]; simp_all [Zx,Cmp.b,SCmp.b,ZO,Z6,Z3,ZF]))
  refine Z S1 (Xh.drop 1 C1) Zv V V V <| Zn .neq V q.table [] V V V ?_
  refine WL.split (fun h0=>?_) (fun h0=>?_)
  ·have h140 : q.table ≠ []:=by simpa [SCmp.b] using h0
   clear h0
   exact RB S1 V (by exact ZcW (by omega) ‹_›)
  have h140 : q.table = []:=by simpa [SCmp.b] using h0
  clear h0
  refine Z S1 (Xh.drop 2 C1) ZH V V V ?_
  have V31:=A1.bound
  refine Zm (A1.mono L1) Yb V V ?_
  refine Z1 (q.cols.length : Int) 0 V V V (fun h141=>?_) (fun h141=>?_)
  ·exact RB S1 V (by exact ZeT (by omega) ‹_›)
  refine Z S1 (Xh.drop 3 C1) ZH V V V ?_
  have V32:=A2.bound
  refine Zm (A2.mono L1) Yb V V ?_
  refine Z1 (q.names.length : Int) 0 V V V (fun h142=>?_) (fun h142=>?_)
  ·exact RB S1 V (by exact ZdL (by omega) ‹_›)
  refine Zc S1 (Xh.drop 4 C1) [U q.cond.kind,Za q.cond.col,Za q.cond.oth,U q.cond.v.k,U q.cond.v.n,Za q.cond.v.s,v3] ZY V V V V V ?_
  refine Zl S1 ZbM V V V (QY S1.imm q.cond _ (ZR q.cond Z7 Z5 ZD hb6 hb7 ZV (A3.mono L1))) (fun w21 G21 S20 L21=>?_)
  refine WL.split (fun (h143 : (YU q.cond) = true)=>?_) (fun (h143 : (YU q.cond) = false)=>?_)
  ·refine Z S20 (Xh.drop 12 (C1.mono L21)) Zk V V V ?_
   refine Zz q.fn 0 V V V (fun h144=>?_) (fun h144=>?_)
   ·exact RB S20 V (by exact ZcZ (by omega) ‹_›)
   refine Z S20 (Xh.drop 0 (Xh.drop 13 (C1.mono L21))) Zk V V V ?_
   refine Zz q.span.a 0 V V V (fun h145=>?_) (fun h145=>?_)
   ·exact RB S20 V (by exact Zag (by omega) (.inl ‹_›))
   refine Z S20 (Xh.drop 1 (Xh.drop 13 (C1.mono L21))) Zk V V V ?_
   refine Zz q.span.b 0 V V V (fun h146=>?_) (fun h146=>?_)
   ·exact RB S20 V (by exact Zag (by omega) (.inr ‹_›))
   refine Z S20 (Xh.drop 0 (C1.mono L21)) Zk V V V ?_
   refine Ze q.kind 1 V V V (fun h147=>?_) (fun h147=>?_)
   ·omega
   refine Ze q.kind 2 V V V (fun h148=>?_) (fun h148=>?_)
   ·omega
   refine Ze q.kind 3 V V V (fun h149=>?_) (fun h149=>?_)
   ·omega
   refine Ze q.kind 4 V V V (fun h150=>?_) (fun h150=>?_)
   ·omega
   refine Ze q.kind 8 V V V (fun h151=>?_) (fun h151=>?_)
   ·omega
   refine Ze q.kind 9 V V V (fun h152=>?_) (fun h152=>?_)
   ·omega
   refine Ze q.kind 10 V V V (fun h153=>?_) (fun h153=>?_)
   ·refine Z S20 (Xh.drop 11 (C1.mono L21)) Zk V V V ?_
    refine ZM q.rel 1 V V V (fun h154=>?_) (fun h154=>?_)
    ·refine Z S20 (Xh.drop 11 (C1.mono L21)) Zk V V V <| Yd .leq V .i64 q.rel 8191 V V V ?_
     exact RB S20 V (by (rw [Zce ‹_›]; simp_all [Zx,Cmp.b,SCmp.b,ZO,Z6,Z3,ZF]))
    exact RB S20 V (by (rw [Zce ‹_›]; simp_all [Zx,Cmp.b,SCmp.b,ZO,Z6,Z3,ZF] <;> (omega)))
   omega
  exact RB S20 V (by exact ZcX (by omega) ‹_›)
 exact RB S1 V (by exact (Zgt ‹_› ‹_› ‹_› ‹_› ‹_› ‹_› ‹_› ‹_› ‹_› ‹_›).symm)
end Go.Civ
