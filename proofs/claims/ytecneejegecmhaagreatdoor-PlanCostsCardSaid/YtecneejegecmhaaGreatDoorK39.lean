/- Lemmas. -/
import Derived.Test.YtecneejegecmhaaGreatDoorK38
set_option linter.unusedVariables false
set_option linter.unusedSimpArgs false
set_option linter.unusedVariables false
set_option linter.unusedSimpArgs false
set_option maxRecDepth 100000
set_option maxHeartbeats 4000000
namespace Go.Civ
open Go.Proofs
theorem ZuX {G : GH} {w : World} (hG : G.In w) (q : Query) (hg : Glob G) (cq : List Value) (hcq : QryE.rep G q cq) (hv : X8 (Y7 (Ye q)) (Ye q) = true) (hx : TxQ (Y7 (Ye q)) (Ye q)) (hb : (Z0 (Ye q)).length ≤ 300000) : CL Tryz.prog (nat_lit 25) #[.agg cq.toArray] [] w G fun _ _ r=>r = Za (Ya q):=by
 refine Zg ft [] Tryz.func25 V V ?_
 have hkd:=Zih hv
 have hob:=@Zbq q.kind
 have hS:=St.start (X:=[]) hG
 obtain ⟨v1,v2,v3,v4,rfl,B1,B2,A1,A2,Z7,Z5,ZD,hb6,hb7,ZV,A3,hb9,ZI,ZJ,ZL,A4⟩:=Zs hcq
 refine Z4 (QV q v1 v2 v3 v4) _ hS V V V (fun p1 w1 G1 L1 M1 C1 S1=>?_)
 refine Zc S1 C1 (QV q v1 v2 v3 v4) Zt V V V V V ?_
 refine Yq S1 Zei V V V (ZmW S1.imm q _ (Zr q B1 B2 (A1.mono L1) (A2.mono L1) Z7 Z5 ZD hb6 hb7 ZV (A3.mono L1) hb9 ZI ZJ ZL (A4.mono L1))) (fun w2 G2 r1 P1 S2 L2=>?_)
 obtain ⟨D1,rfl,R1⟩:=P1
 obtain ⟨v5,v6,v7,v9,rfl,Y0,Y6,A5,A6,YA,Y9,Yr,YH,YJ,YO,A7,Xf,Xg,YK,Xc,A8⟩:=Zs R1
 refine Yq S2 Zfc V V V (ZuN S2.imm (Y7 (Ye q)) (Ye q) (hg.mono (L1.trans L2)) _ (Zr (Ye q) Y0 Y6 A5 A6 YA Y9 Yr YH YJ YO A7 Xf Xg YK Xc A8) (QI _) hx hb hv) ?_
 rintro w3 G3 _ ⟨_,_,rfl,rfl,rfl⟩ S3 L3
 refine WL.buildSlice _ [(0,[Za []]),(1,[Za [32,111,102,32,115,99,97,110,32,116]]),(2,[Za [32,40,115,99,97,110,32,116,44,32,115,99,97,110,32,116,41]])] [Za [],Za [32,111,102,32,115,99,97,110,32,116],Za [32,40,115,99,97,110,32,116,44,32,115,99,97,110,32,116,41]] S3 XI V V V V (fun z hz=>by match z,hz with | [z0,z1,z2],_=>rfl) (fun b1 w4 N1 S4=>?_)
 refine Z S4 (Xh.drop 0 (C1.mono (L2.trans L3))) Zk V V V ?_
 refine Zl S4 Zc3 V V V (Zeu S4.imm q.kind) (fun w5 G4 S5 L4=>?_)
 obtain ⟨G5,L5,A9,S6⟩:=St.sealSl (E:=Enc.str) (by_:=16) (l:=([[],[32,111,102,32,115,99,97,110,32,116],[32,40,115,99,97,110,32,116,44,32,115,99,97,110,32,116,41]] : List (List UInt8))) S5 N1 ⟨[Za []],_,V,⟨V,(by simp [reach])⟩,⟨[Za [32,111,102,32,115,99,97,110,32,116]],_,V,⟨V,(by simp [reach])⟩,⟨[Za [32,40,115,99,97,110,32,116,44,32,115,99,97,110,32,116,41]],_,V,⟨V,(by simp [reach])⟩,V⟩⟩⟩ V (by simp [reach]) (by simp [reach])
 refine WL.indexAddr A9 (((ZT q.kind)).toNat) (by (simp only [List.length_cons,List.length_nil]; omega)) Yb Zv V V V (congrArg (Value.int .i64) (Int.toNat_of_nonneg (by omega)).symm) (fun p2 x1 U1 E1=>?_)
 obtain ⟨D2,C2,R2⟩:=E1
 obtain ⟨rfl,XR⟩:=R2
 refine Z S6 C2 Zv V V V ?_
 refine Zl S6 Zfd V V V (ZuF S6.imm (Z0 (Ye q)) x1 (Ya q) (txw hkd ‹_›) (Nat.le_trans hb (by decide))) (fun w6 G6 S7 L6=>?_)
 exact RT S7 V (congrArg Za (by rfl))
theorem ZuY {G : GH} {w : World} (hG : G.In w) (x : Stp) (hg : Glob G) (cx : List Value) (hcx : StpE.rep G x cx) : CL Tryz.prog (nat_lit 48) #[.agg cx.toArray] [] w G fun _ _ r=>r = .bool (Qg x):=by
 refine Zg ft [] Tryz.func48 V V ?_
 have hS:=St.start (X:=[]) hG
 have T1:=Q8 hcx
 obtain ⟨v1,v2,v3,v4,v5,rfl,B1,B2,A1,A2,Z7,Z5,ZD,hb6,hb7,ZV,A3,hb9,ZI,ZJ,ZL,A4,Y0,Y6,A5,YA,Y9⟩:=T1
 refine Z4 (SV x.q v1 v2 v3 v4 (U x.a) (U x.b) v5 (U x.span.a) (U x.span.b)) _ hS V V V (fun p1 w1 G1 L1 M1 C1 S1=>?_)
 refine Z S1 (Xh.drop 15 (Xh.drop 0 C1)) Yu V V V ?_
 have V1:=A4.bound
 refine Zm (A4.mono L1) Y1 V V ?_
 refine Z1 (x.q.l.length : Int) 0 V V V (fun h1=>?_) (fun h1=>?_)
 ·exact RB S1 V (by exact ZcQ (by omega))
 refine Zc S1 (Xh.drop 0 C1) (QV x.q v1 v2 v3 v4) Zt V V V V V ?_
 refine Yq S1 Zei V V V (ZmW S1.imm x.q _ (Zr x.q B1 B2 (A1.mono L1) (A2.mono L1) Z7 Z5 ZD hb6 hb7 ZV (A3.mono L1) hb9 ZI ZJ ZL (A4.mono L1))) (fun w2 G2 r1 P1 S2 L2=>?_)
 obtain ⟨D1,rfl,R1⟩:=P1
 have T2:=Zs R1
 obtain ⟨v6,v7,v9,v10,rfl,Yr,YH,A6,A7,YJ,YO,Xf,Xg,YK,Xc,A8,XR,Qa,Qh,Q0,A9⟩:=T2
 have j1:=(L1.trans L2)
 refine Zl S2 Zbd V V V (Zfu S2.imm (Y7 (Ye x.q)) (Ye x.q) (hg.mono j1) _ (Zr (Ye x.q) Yr YH A6 A7 YJ YO Xf Xg YK Xc A8 XR Qa Qh Q0 A9) (QI _)) (fun w3 G3 S3 L3=>?_)
 refine WL.split (fun (h2 : (X8 (Y7 (Ye x.q)) (Ye x.q)) = true)=>?_) (fun (h2 : (X8 (Y7 (Ye x.q)) (Ye x.q)) = false)=>?_)
 ·have j2:=(L2.trans L3)
  refine Z S3 (Xh.drop 18 (C1.mono j2)) QX V V V ?_
  have V2:=A5.bound
  have j3:=(j1.trans L3)
  refine Zm (A5.mono j3) QM V V ?_
  refine Z1 (x.keys.length : Int) 8 V V V (fun h3=>?_) (fun h3=>?_)
  ·exact RB S3 V (by exact ZwC (by omega))
  refine Z S3 (Xh.drop 18 (C1.mono j2)) QX V V V ?_
  have V3:=A5.bound
  refine Zm (A5.mono j3) QM V V ?_
  refine Z1 (x.keys.length : Int) 0 V V V (fun h4=>?_) (fun h4=>?_)
  ·refine Z S3 (Xh.drop 0 (Xh.drop 0 (C1.mono j2))) Zk V V V ?_
   refine Zz x.q.kind 5 V V V (fun h5=>?_) (fun h5=>?_)
   ·exact RB S3 V (by exact ZwD (by omega) ‹_›)
   refine Z S3 (Xh.drop 18 (C1.mono j2)) QX V V V ?_
   have V4:=A5.bound
   refine Zm (A5.mono j3) QM V V ?_
   refine LP.go ft [] (fun m ρ1 w1=>∃ (k1 : Nat),∃ (G4 : GH),m = x.keys.length - k1 ∧ G3.le G4 ∧ St w [] G G4 [] w1 ∧ FR ρ1 [(1,ZP p1),(36,v5),(37,U (x.keys.length : Int)),(38,U (k1 : Int))] ∧ k1 ≤ x.keys.length ∧ ∀ j,j < k1 → ∀ y,x.keys[j]? = some y → kyB y = true) _ ⟨0,G3,V,(G3.le_refl),S3,(ZS V),(by omega),(by intro j hj; omega)⟩ ?_
   rintro m ρ1 w4 ⟨k1,G4,rfl,L4,S4,F9,f1,f2⟩
   refine F9.set ?_
   clear F9
   refine Zp (k1 : Int) (x.keys.length : Int) V V V (fun h6=>?_) (fun h6=>?_)
   ·refine WL.indexAddr (A5.mono (j3.trans L4)) k1 (by omega) QM QO V V V V (fun p2 x1 U1 E1=>?_)
    obtain ⟨D2,C2,R2⟩:=E1
    have T3:=XK R2
    obtain ⟨rfl,Qs,Q1⟩:=T3
    refine Zc S4 C2 [U x1.1,U x1.2] QO V V V V V ?_
    refine WL.alloc S4 QO V V (fun b1 w5 N1 S5=>?_)
    refine Z9 S5 0 [U x1.1,U x1.2] V V QO V V V V V V (fun w6 S6=>?_)
    have T4:=S6.shutB N1
    obtain ⟨G5,L5,C3,S7⟩:=T4
    refine Yy _ 2 0 V QP Zk V V V <| Z S7 (Xh.drop 0 C3) Zk V V V <| Yy _ 2 1 V QP Zk V V V <| Z S7 (Xh.drop 1 C3) Zk V V V <| YR x1.1 x1.2 V V V ?_
    refine Zp (min x1.1 x1.2) 0 V V V (fun h7=>?_) (fun h7=>?_)
    ·exact RB S7 V (by exact ZiE ‹_› (by omega))
    refine Yy _ 2 0 V QP Zk V V V <| Z S7 (Xh.drop 0 C3) Zk V V V <| Yy _ 2 1 V QP Zk V V V <| Z S7 (Xh.drop 1 C3) Zk V V V <| ZbN x1.1 x1.2 V V V ?_
    refine ZM (max x1.1 x1.2) 8 V V V (fun h8=>?_) (fun h8=>?_)
    ·exact RB S7 V (by exact ZiE ‹_› (by omega))
    refine Zq k1 (by have:=Zb; omega) V V V ?_
    exact BK.mk' _ ⟨k1 + 1,G5,V,(L4.trans L5),S7,(ZS V),(by omega),(by exact Ys ‹_› ‹_› (Zl1 (by omega)))⟩ (show x.keys.length - (k1 + 1) < x.keys.length - k1 by omega)
   refine Zc S4 (Xh.drop 19 (C1.mono (j2.trans L4))) [U x.span.a,U x.span.b] Y5 V V V V V <| WL.build _ [] [U 0,U 0] Y5 V ZbL V V V V <| ZaC (QT x.span (Span.mk 0 0)) ZbG V V V ?_
   refine WL.split (fun (h9 : (decide (x.span = (Span.mk 0 0))) = true)=>?_) (fun (h9 : (decide (x.span = (Span.mk 0 0))) = false)=>?_)
   ·exact RB S4 V (by (rw [← ZfV (by omega) ‹_› (by omega) (by first | exact .inl (by omega) | exact .inr ‹_›) ‹_› (by omega)]; first | exact Zch (of_decide_eq_true ‹_›) | exact Zch ‹_› | (rw [← Zhm (of_decide_eq_false ‹_›)]; unfold ZF; simp_all [Cmp.b] <;> (first | omega | (intros; omega) | (rw [Bool.eq_iff_iff]; simp <;> omega) | (rw [Bool.eq_iff_iff]; simp_all <;> omega)))))
   refine Z S4 (Xh.drop 0 (Xh.drop 0 (C1.mono (j2.trans L4)))) Zk V V V ?_
   refine Ze x.q.kind 1 V V V (fun h10=>?_) (fun h10=>?_)
   ·omega
   exact RB S4 V (by (rw [← ZfV (by omega) ‹_› (by omega) (by first | exact .inl (by omega) | exact .inr ‹_›) ‹_› (by omega)]; first | exact Zch (of_decide_eq_true ‹_›) | exact Zch ‹_› | (rw [← Zhm (of_decide_eq_false ‹_›)]; unfold ZF; simp_all [Cmp.b] <;> (first | omega | (intros; omega) | (rw [Bool.eq_iff_iff]; simp <;> omega) | (rw [Bool.eq_iff_iff]; simp_all <;> omega)))))
  refine Z S3 (Xh.drop 18 (C1.mono j2)) QX V V V ?_
  have V5:=A5.bound
  refine Zm (A5.mono j3) QM V V ?_
  refine LP.go ft [] (fun m ρ1 w1=>∃ (k1 : Nat),∃ (G6 : GH),m = x.keys.length - k1 ∧ G3.le G6 ∧ St w [] G G6 [] w1 ∧ FR ρ1 [(1,ZP p1),(36,v5),(37,U (x.keys.length : Int)),(38,U (k1 : Int))] ∧ k1 ≤ x.keys.length ∧ ∀ j,j < k1 → ∀ y,x.keys[j]? = some y → kyB y = true) _ ⟨0,G3,V,(G3.le_refl),S3,(ZS V),(by omega),(by intro j hj; omega)⟩ ?_
  rintro m ρ1 w7 ⟨k1,G6,rfl,L6,S8,F9,f3,f4⟩
  refine F9.set ?_
  clear F9
  refine Zp (k1 : Int) (x.keys.length : Int) V V V (fun h11=>?_) (fun h11=>?_)
  ·refine WL.indexAddr (A5.mono (j3.trans L6)) k1 (by omega) QM QO V V V V (fun p3 x2 U2 E2=>?_)
   obtain ⟨D3,C4,R3⟩:=E2
   have T5:=XK R3
   obtain ⟨rfl,Qb,Xw⟩:=T5
   refine Zc S8 C4 [U x2.1,U x2.2] QO V V V V V ?_
   refine WL.alloc S8 QO V V (fun b2 w9 N2 S9=>?_)
   refine Z9 S9 0 [U x2.1,U x2.2] V V QO V V V V V V (fun w10 S10=>?_)
   have T6:=S10.shutB N2
   obtain ⟨G7,L7,C5,S11⟩:=T6
   refine Yy _ 2 0 V QP Zk V V V <| Z S11 (Xh.drop 0 C5) Zk V V V <| Yy _ 2 1 V QP Zk V V V <| Z S11 (Xh.drop 1 C5) Zk V V V <| YR x2.1 x2.2 V V V ?_
   refine Zp (min x2.1 x2.2) 0 V V V (fun h12=>?_) (fun h12=>?_)
   ·exact RB S11 V (by exact ZcQ (by omega))
   refine Yy _ 2 0 V QP Zk V V V <| Z S11 (Xh.drop 0 C5) Zk V V V <| Yy _ 2 1 V QP Zk V V V <| Z S11 (Xh.drop 1 C5) Zk V V V <| ZbN x2.1 x2.2 V V V ?_
   refine ZM (max x2.1 x2.2) 8 V V V (fun h13=>?_) (fun h13=>?_)
   ·exact RB S11 V (by exact ZcQ (by omega))
   refine Zq k1 (by have:=Zb; omega) V V V ?_
   exact BK.mk' _ ⟨k1 + 1,G7,V,(L6.trans L7),S11,(ZS V),(by omega),(by exact Ys ‹_› ‹_› (Zl1 (by omega)))⟩ (show x.keys.length - (k1 + 1) < x.keys.length - k1 by omega)
  have j4:=(j2.trans L6)
  refine Zc S8 (Xh.drop 19 (C1.mono j4)) [U x.span.a,U x.span.b] Y5 V V V V V <| WL.build _ [] [U 0,U 0] Y5 V ZbL V V V V <| ZaC (QT x.span (Span.mk 0 0)) ZbG V V V ?_
  refine WL.split (fun (h14 : (decide (x.span = (Span.mk 0 0))) = true)=>?_) (fun (h14 : (decide (x.span = (Span.mk 0 0))) = false)=>?_)
  ·exact RB S8 V (by (rw [← ZfV (by omega) ‹_› (by omega) (by first | exact .inl (by omega) | exact .inr ‹_›) ‹_› (by omega)]; first | exact Zch (of_decide_eq_true ‹_›) | exact Zch ‹_› | (rw [← Zhm (of_decide_eq_false ‹_›)]; unfold ZF; simp_all [Cmp.b] <;> (first | omega | (intros; omega) | (rw [Bool.eq_iff_iff]; simp <;> omega) | (rw [Bool.eq_iff_iff]; simp_all <;> omega)))))
  refine Z S8 (Xh.drop 0 (Xh.drop 0 (C1.mono j4))) Zk V V V ?_
  refine Ze x.q.kind 1 V V V (fun h15=>?_) (fun h15=>?_)
  ·refine Z S8 (Xh.drop 0 (Xh.drop 19 (C1.mono j4))) Zk V V V ?_
   refine ZM x.span.a (-62135596800) V V V (fun h16=>?_) (fun h16=>?_)
   ·refine Z S8 (Xh.drop 0 (Xh.drop 19 (C1.mono j4))) Zk V V V <| Z S8 (Xh.drop 1 (Xh.drop 19 (C1.mono j4))) Zk V V V ?_
    refine Zp x.span.a x.span.b V V V (fun h17=>?_) (fun h17=>?_)
    ·refine Z S8 (Xh.drop 1 (Xh.drop 19 (C1.mono j4))) Zk V V V <| Yd .leq V .i64 x.span.b 253402300800 V V V ?_
     exact RB S8 V (by (rw [← ZfV (by omega) ‹_› (by omega) (by first | exact .inl (by omega) | exact .inr ‹_›) ‹_› (by omega)]; first | exact Zch (of_decide_eq_true ‹_›) | exact Zch ‹_› | (rw [← Zhm (of_decide_eq_false ‹_›)]; unfold ZF; simp_all [Cmp.b] <;> (first | omega | (intros; omega) | (rw [Bool.eq_iff_iff]; simp <;> omega) | (rw [Bool.eq_iff_iff]; simp_all <;> omega)))))
    exact RB S8 V (by (rw [← ZfV (by omega) ‹_› (by omega) (by first | exact .inl (by omega) | exact .inr ‹_›) ‹_› (by omega)]; first | exact Zch (of_decide_eq_true ‹_›) | exact Zch ‹_› | (rw [← Zhm (of_decide_eq_false ‹_›)]; unfold ZF; simp_all [Cmp.b] <;> (first | omega | (intros; omega) | (rw [Bool.eq_iff_iff]; simp <;> omega) | (rw [Bool.eq_iff_iff]; simp_all <;> omega)))))
   exact RB S8 V (by (rw [← ZfV (by omega) ‹_› (by omega) (by first | exact .inl (by omega) | exact .inr ‹_›) ‹_› (by omega)]; first | exact Zch (of_decide_eq_true ‹_›) | exact Zch ‹_› | (rw [← Zhm (of_decide_eq_false ‹_›)]; unfold ZF; simp_all [Cmp.b] <;> (first | omega | (intros; omega) | (rw [Bool.eq_iff_iff]; simp <;> omega) | (rw [Bool.eq_iff_iff]; simp_all <;> omega)))))
  exact RB S8 V (by (rw [← ZfV (by omega) ‹_› (by omega) (by first | exact .inl (by omega) | exact .inr ‹_›) ‹_› (by omega)]; first | exact Zch (of_decide_eq_true ‹_›) | exact Zch ‹_› | (rw [← Zhm (of_decide_eq_false ‹_›)]; unfold ZF; simp_all [Cmp.b] <;> (first | omega | (intros; omega) | (rw [Bool.eq_iff_iff]; simp <;> omega) | (rw [Bool.eq_iff_iff]; simp_all <;> omega)))))
 exact RB S3 V (by exact ZwB ‹_›)
end Go.Civ
set_option linter.unusedVariables false
set_option linter.unusedSimpArgs false
set_option maxRecDepth 100000
set_option maxHeartbeats 4000000
namespace Go.Civ
open Go.Proofs
theorem Zme {G : GH} {w : World} (hG : G.In w) (l : List Col) (pf : Col → Bool) (vl : Value) (hvl : Sl ColE 24 G vl l) (fid : Nat) (fcap : Array Value) (hf : FnB Tryz.prog (Is ColE) fid fcap G (fun x=>x ∈ l) pf) : CL Tryz.prog (nat_lit 46) #[vl, .func (.func fid) #[] fcap] [] w G fun _ _ r=>r = .bool (l.any pf):=by
 refine Zg ft [] Tryz.func46 V V ?_
 have hS:=St.start (X:=[]) hG
 refine Zl hS Zgd V V V (ZlL hS.imm l pf _ hvl fid fcap (hf.up (G.le_refl))) (fun w1 G1 S1 L1=>?_)
 refine Yd .geq V .i64 (Qi pf l) 0 V V V ?_
 exact RB S1 V (by exact Zcu _ _)
theorem Zon {G : GH} {w : World} (hG : G.In w) (l : List Int) (pf : Int → Bool) (vl : Value) (hvl : Sl Enc.int 8 G vl l) (fid : Nat) (fcap : Array Value) (hf : FnB Tryz.prog Zvd fid fcap G (fun x=>x ∈ l) pf) : CL Tryz.prog (nat_lit 84) #[vl, .func (.func fid) #[] fcap] [] w G fun _ _ r=>r = U (Qi pf l):=by
 refine Zg ft [] Tryz.func84 V V ?_
 have hS:=St.start (X:=[]) hG
 have V1:=hvl.bound
 refine Zm hvl Xz V V ?_
 refine LP.go ft [] (fun m ρ1 w1=>∃ (k1 : Nat),∃ (G1 : GH),m = l.length - k1 ∧ G.le G1 ∧ St w [] G G1 [] w1 ∧ FR ρ1 [(0,vl),(1, .func (.func fid) #[] fcap),(7,U (l.length : Int)),(8,U (k1 : Int))] ∧ k1 ≤ l.length ∧ ∀ j,j < k1 → ∀ x,l[j]? = some x → pf x = false) _ ⟨0,G,V,(G.le_refl),hS,(ZS V),(by omega),(by intro j hj; omega)⟩ ?_
 rintro m ρ1 w1 ⟨k1,G1,rfl,L1,S1,F9,f1,f2⟩
 refine F9.set ?_
 clear F9
 refine Zp (k1 : Int) (l.length : Int) V V V (fun h1=>?_) (fun h1=>?_)
 ·refine WL.indexAddr (hvl.mono L1) k1 (by omega) Xz Zk V V V V (fun p1 x1 U1 E1=>?_)
  obtain ⟨D1,C1,R1⟩:=E1
  obtain ⟨rfl,B1⟩:=R1
  refine Z S1 C1 Zk V V V ?_
  refine Zl S1 hf.body V V V (hf.call _ _ (U x1) x1 L1 S1.imm (List.mem_of_getElem? U1) ⟨V,B1⟩) (fun w2 G2 S2 L2=>?_)
  refine WL.split (fun (h2 : (pf x1) = true)=>?_) (fun (h2 : (pf x1) = false)=>?_)
  ·exact RI S2 V (by exact (ZaY _ ‹_› ‹_› ‹_›).symm)
  refine Zq k1 (by have:=Zb; omega) V V V ?_
  exact BK.mk' _ ⟨k1 + 1,G2,V,(L1.trans L2),S2,(ZS V),(by omega),(by exact Ys ‹_› ‹_› ‹_›)⟩ (show l.length - (k1 + 1) < l.length - k1 by omega)
 exact RI S1 V (by exact (ZaB ‹_› (by omega)).symm)
theorem Zj8 {G : GH} {w : World} (hG : G.In w) (l : List Int) (pf : Int → Bool) (vl : Value) (hvl : Sl Enc.int 8 G vl l) (fid : Nat) (fcap : Array Value) (hf : FnB Tryz.prog Zvd fid fcap G (fun x=>x ∈ l) pf) : CL Tryz.prog (nat_lit 50) #[vl, .func (.func fid) #[] fcap] [] w G fun _ _ r=>r = .bool (l.any pf):=by
 refine Zg ft [] Tryz.func50 V V ?_
 have hS:=St.start (X:=[]) hG
 refine Zl hS Zhq V V V (Zon hS.imm l pf _ hvl fid fcap (hf.up (G.le_refl))) (fun w1 G1 S1 L1=>?_)
 refine Yd .geq V .i64 (Qi pf l) 0 V V V ?_
 exact RB S1 V (by exact Zcu _ _)
theorem Zqr {G : GH} {w : World} (hG : G.In w) (x : Col) (nm : List UInt8) (z1 : Int) (cx : List Value) (hcx : ColE.rep G x cx) (pc : Addr) (hpc : Xh G pc [Za nm,U z1]) : CL Tryz.prog (nat_lit 47) #[.agg cx.toArray,ZP pc] [] w G fun _ _ r=>r = .bool (decide (x.name = nm)):=by
 refine Zg ft [] Tryz.func47 V V ?_
 have hS:=St.start (X:=[]) hG
 obtain ⟨rfl,B1,B2⟩:=XU hcx
 refine Z4 [Za x.name,U x.kind] _ hS V V V (fun p1 w1 G1 L1 M1 C1 S1=>?_)
 refine Z S1 (Xh.drop 0 C1) Zv V V V <| Z S1 (Xh.drop 0 (hpc.mono L1)) Zv V V V <| Zn .eql V x.name nm V V V ?_
 exact RB S1 V (by simp [SCmp.b])
theorem Zqs {G : GH} {w : World} (hG : G.In w) (x : Int) : CL Tryz.prog (nat_lit 51) #[U x] [] w G fun _ _ r=>r = .bool (!decide (x = 1)):=by
 refine Zg ft [] Tryz.func51 V V ?_
 have hS:=St.start (X:=[]) hG
 refine Yd .neq V .i64 x 1 V V V ?_
 exact RB hS V (by (rw [Bool.eq_iff_iff]; simp [Cmp.b]))
theorem ZlT {G : GH} {w : World} (hG : G.In w) (p : Pln) (hg : Glob G) (cp : List Value) (hcp : PlnE.rep G p cp) : CL Tryz.prog (nat_lit 22) #[.agg cp.toArray] [] w G fun _ _ r=>r = .bool (XC p):=by
 refine Zg ft [] Tryz.func22 V V ?_
 have hS:=St.start (X:=[]) hG
 have T1:=Za8 hcp
 obtain ⟨v1,v2,rfl,A1,A2⟩:=T1
 refine Z4 [v1,v2] _ hS V V V (fun p1 w1 G1 L1 M1 C1 S1=>?_)
 refine Z S1 (Xh.drop 0 C1) QG V V V ?_
 have V1:=A1.bound
 refine Zm (A1.mono L1) QS V V ?_
 refine Zp (p.steps.length : Int) 1 V V V (fun h1=>?_) (fun h1=>?_)
 ·exact RB S1 V (by exact Zfb (by omega))
 refine Z1 (p.steps.length : Int) 60 V V V (fun h2=>?_) (fun h2=>?_)
 ·exact RB S1 V (by exact Zfb (by omega))
 refine Z S1 (Xh.drop 1 C1) QR V V V ?_
 have V2:=A2.bound
 refine Zm (A2.mono L1) Q6 V V ?_
 refine Zp (p.cols.length : Int) 1 V V V (fun h3=>?_) (fun h3=>?_)
 ·exact RB S1 V (by exact Zfb (by omega))
 refine Z S1 (Xh.drop 1 C1) QR V V V ?_
 have V3:=A2.bound
 refine Zm (A2.mono L1) Q6 V V ?_
 refine Z1 (p.cols.length : Int) 8 V V V (fun h4=>?_) (fun h4=>?_)
 ·exact RB S1 V (by exact Zfb (by omega))
 refine Z S1 (Xh.drop 1 C1) QR V V V ?_
 have V4:=A2.bound
 refine Zm (A2.mono L1) Q6 V V ?_
 refine LP.go ft [] (fun m ρ1 w1=>∃ (k1 : Nat),∃ (G2 : GH),m = p.cols.length - k1 ∧ G1.le G2 ∧ St w [] G G2 [] w1 ∧ FR ρ1 [(1,ZP p1),(3,U (p.steps.length : Int)),(34,v2),(35,U (p.cols.length : Int)),(36,U (k1 : Int))] ∧ k1 ≤ p.cols.length ∧ ∀ j,j < k1 → ∀ c,p.cols[j]? = some c → Zbx p.cols j c = true) _ ⟨0,G1,V,(G1.le_refl),S1,(ZS V),(by omega),(by intro j hj; omega)⟩ ?_
 rintro m ρ1 w2 ⟨k1,G2,rfl,L2,S2,F9,f1,f2⟩
 refine F9.set ?_
 clear F9
 refine Zp (k1 : Int) (p.cols.length : Int) V V V (fun h5=>?_) (fun h5=>?_)
 ·refine WL.indexAddr (A2.mono (L1.trans L2)) k1 (by omega) Q6 Q9 V V V V (fun p2 x1 U1 E1=>?_)
  obtain ⟨D1,C2,R1⟩:=E1
  have T2:=XU R1
  obtain ⟨rfl,B1,B2⟩:=T2
  refine Zc S2 C2 [Za x1.name,U x1.kind] Q9 V V V V V ?_
  refine WL.alloc S2 Q9 V V (fun b1 w3 N1 S3=>?_)
  refine Z9 S3 0 [Za x1.name,U x1.kind] V V Q9 V V V V V V (fun w4 S4=>?_)
  have T3:=S4.shutB N1
  obtain ⟨G3,L3,C3,S5⟩:=T3
  refine Z S5 (Xh.drop 0 C3) Zv V V V ?_
  refine Zl S5 Zbe V V V (Zis S5.imm x1.name) (fun w5 G4 S6 L4=>?_)
  refine WL.split (fun (h6 : (X5 x1.name) = true)=>?_) (fun (h6 : (X5 x1.name) = false)=>?_)
  ·refine Z S6 (Xh.drop 1 (C1.mono ((L2.trans L3).trans L4))) QR V V V ?_
   refine Zbn (A2.mono (((L1.trans L2).trans L3).trans L4)) k1 (by omega) Q6 Q9 V V V V (fun v3 A3=>?_)
   refine Zl S6 Zcl V V V (Zme S6.imm (p.cols.take k1) (fun x8=>decide (x8.name = x1.name)) _ A3 47 #[.pointer (some (⟨b1,0,none⟩ : Addr))] ⟨Zcm,fun G8 w8 v8 x8 L8 hG8 hon8 hA8=>by obtain ⟨cs_x8,rfl,hr_x8⟩:=hA8; exact Zqr hG8 x8 x1.name x1.kind cs_x8 hr_x8 (⟨b1,0,none⟩ : Addr) ((C3.mono L4).mono L8)⟩) (fun w6 G5 S7 L5=>?_)
   refine WL.split (fun (h7 : ((p.cols.take k1).any (fun x8=>decide (x8.name = x1.name))) = true)=>?_) (fun (h7 : ((p.cols.take k1).any (fun x8=>decide (x8.name = x1.name))) = false)=>?_)
   ·exact RB S7 V (by exact ZnI (ZjS ‹_› (ZwG ‹_›)))
   refine Zq k1 (by have:=Zb; omega) V V V ?_
   exact BK.mk' _ ⟨k1 + 1,G5,V,(L2.trans ((L3.trans L4).trans L5)),S7,(ZS V),(by omega),(by exact QQ (P:=fun j c=>Zbx p.cols j c = true) ‹_› ‹_› (ZwH ‹_› ‹_›))⟩ (show p.cols.length - (k1 + 1) < p.cols.length - k1 by omega)
  exact RB S6 V (by exact ZnI (ZjS ‹_› (ZwF ‹_›)))
 have hcl:=Zp7 (by assumption : ∀ j,j < k1 → ∀ c,p.cols[j]? = some c → Zbx p.cols j c = true) (by omega)
 refine Zeh Qr V V V p.steps.length (by omega) S2 V V V (fun v4 o1 w7 R2 S8=>?_)
 refine Z S8 (Xh.drop 0 (C1.mono L2)) QG V V V ?_
 have V5:=A1.bound
 have j1:=(L1.trans L2)
 refine Zm (A1.mono j1) QS V V ?_
 refine LP.go ft [] (fun m ρ1 w1=>∃ (k2 : Nat),∃ (v5 : Value) (o2 : OB),∃ (G6 : GH),m = p.steps.length - k2 ∧ G2.le G6 ∧ St w [] G G6 [o2] w1 ∧ YX Enc.int 8 3 G6 v5 (Ql p.steps.length (p.steps.take k2)) o2 ∧ FR ρ1 [(3,U (p.steps.length : Int)),(6,v5),(57,v1),(58,U (p.steps.length : Int)),(59,U (k2 : Int))] ∧ k2 ≤ p.steps.length ∧ ∀ j,j < k2 → ∀ s,p.steps[j]? = some s → Xu s (j : Int) = true) _ ⟨0,v4,o1,G2,V,(G2.le_refl),S8,(YX.cast R2 (by rfl)),(ZS V),(by omega),(by intro j hj; omega)⟩ ?_
 rintro m ρ1 w9 ⟨k2,v5,o2,G6,rfl,L6,S9,R3,F9,f3,f4⟩
 refine F9.set ?_
 clear F9
 have hul2:=Zic (n:=p.steps.length) (l:=p.steps.take k2)
 have hsu2:=ZjR (n:=p.steps.length) (l:=p.steps) k2
 refine Zp (k2 : Int) (p.steps.length : Int) V V V (fun h8=>?_) (fun h8=>?_)
 ·refine WL.indexAddr (A1.mono (j1.trans L6)) k2 (by omega) QS XQ V V V V (fun p3 x2 U2 E2=>?_)
  obtain ⟨D2,C4,R4⟩:=E2
  have T4:=Q8 R4
  obtain ⟨v6,v7,v9,v10,v11,rfl,Z7,Z5,A4,A5,ZD,hb6,hb7,ZV,hb9,ZI,A6,ZJ,ZL,Y0,Y6,A7,YA,Y9,A8,Yr,YH⟩:=T4
  refine Zc S9 C4 (SV x2.q v6 v7 v9 v10 (U x2.a) (U x2.b) v11 (U x2.span.a) (U x2.span.b)) XQ V V V V V ?_
  refine WL.alloc S9 XQ V V (fun b2 w10 N2 S10=>?_)
  refine WL.store S10 0 _ _ _ 0 _ (SV x2.q v6 v7 v9 v10 (U x2.a) (U x2.b) v11 (U x2.span.a) (U x2.span.b)) (SV x2.q v6 v7 v9 v10 (U x2.a) (U x2.b) v11 (U x2.span.a) (U x2.span.b)) _ V V XQ V (ZZ V) (by simp only [YE,A4.oneC,A5.oneC,A6.oneC,A7.oneC,A8.oneC] <;> rfl) V V V V V (fun w11 S11=>?_)
  have T5:=S11.shutB N2
  obtain ⟨G7,L7,C5,S12⟩:=T5
  refine Zc S12 C5 (SV x2.q v6 v7 v9 v10 (U x2.a) (U x2.b) v11 (U x2.span.a) (U x2.span.b)) XQ V V V V V ?_
  refine Zl S12 Zc2 V V V (ZuY S12.imm x2 (hg.mono ((j1.trans L6).trans L7)) _ (Zdn x2 Z7 Z5 (A4.mono L7) (A5.mono L7) ZD hb6 hb7 ZV hb9 ZI (A6.mono L7) ZJ ZL Y0 Y6 (A7.mono L7) YA Y9 (A8.mono L7) Yr YH)) (fun w12 G9 S13 L9=>?_)
  refine WL.split (fun (h9 : (Qg x2) = true)=>?_) (fun (h9 : (Qg x2) = false)=>?_)
  ·refine Z S13 (Xh.drop 16 (C5.mono L9)) Zk V V V <| Z S13 (Xh.drop 17 (C5.mono L9)) Zk V V V ?_
   refine WL.buildSlice _ [(0,[U x2.a]),(1,[U x2.b])] [U x2.a,U x2.b] S13 Qr V V V V (fun z hz=>by match z,hz with | [z0,z1],_=>rfl) (fun b3 w13 N3 S14=>?_)
   refine Zgm (some ⟨b3,0,none⟩) 2 2 Xz V V ?_
   have T6:=St.sealSl (E:=Enc.int) (by_:=8) (l:=([x2.a,x2.b] : List Int)) S14 N3 ⟨[U x2.a],_,V,⟨V,YA⟩,⟨[U x2.b],_,V,⟨V,Y9⟩,V⟩⟩ V (by simp [reach]) (by simp [reach])
   obtain ⟨G10,L10,A9,S15⟩:=T6
   refine LP.go ft [] (fun m ρ1 w1=>∃ (k3 : Nat),∃ (v12 : Value) (o3 : OB),∃ (G11 : GH),m = 2 - k3 ∧ G10.le G11 ∧ St w [] G G11 [o3] w1 ∧ YX Enc.int 8 3 G11 v12 (stU (Ql p.steps.length (p.steps.take k2)) x2 k3) o3 ∧ FR ρ1 [(3,U (p.steps.length : Int)),(6,v12),(7,U (k2 : Int)),(8, .pointer (some (⟨b2,0,none⟩ : Addr))),(57,v1),(58,U (p.steps.length : Int)),(59,U (k2 : Int)),(71, .slice (some ⟨b3,0,none⟩) 2 2),(72,U ((2 : Nat) : Int)),(73,U (k3 : Int))] ∧ k3 ≤ 2 ∧ okU x2 (k2 : Int) k3) _ ⟨0,v5,o2,G10,V,(G10.le_refl),S15,(YX.cast (R3.mono ((L7.trans L9).trans L10)) (by rfl)),(ZS V),(by omega),(by exact Zy8)⟩ ?_
   rintro m ρ1 w14 ⟨k3,v12,o3,G11,rfl,L11,S16,R5,F9,f5,f6⟩
   refine F9.set ?_
   clear F9
   have hul3:=Zy5 (s:=x2) (u:=Ql p.steps.length (p.steps.take k2)) (k:=k3)
   have hsu3:=ZwK (s:=x2) (k:=k3) hsu2 (by omega)
   refine Zp (k3 : Int) ((2 : Nat) : Int) V V V (fun h10=>?_) (fun h10=>?_)
   ·refine WL.indexAddr (A9.mono L11) k3 (by (show _ < (2 : Nat); omega)) Xz Zk V V V V (fun p4 x3 U3 E3=>?_)
    obtain ⟨D3,C6,R6⟩:=E3
    obtain ⟨rfl,YJ⟩:=R6
    refine Z S16 C6 Zk V V V <| Z S16 (Xh.drop 0 (Xh.drop 0 (C5.mono ((L9.trans L10).trans L11)))) Zk V V V ?_
    refine Zl S16 Zc3 V V V (Zeu S16.imm x2.q.kind) (fun w15 G12 S17 L12=>?_)
    refine Zp (k3 : Int) (ZT x2.q.kind) V V V (fun h11=>?_) (fun h11=>?_)
    ·refine Zp x3 0 V V V (fun h12=>?_) (fun h12=>?_)
     ·exact RB S17 V (by exact Zl4 (Zie (by assumption : p.steps[k2]? = some _) (ZpA ‹_› (by omega) (by omega))))
     refine ZM x3 (k2 : Int) V V V (fun h13=>?_) (fun h13=>?_)
     ·exact RB S17 V (by exact Zl4 (Zie (by assumption : p.steps[k2]? = some _) (ZpA ‹_› (by omega) (by omega))))
     refine Yh (R5.mono L12) ((x3).toNat) (by omega) Xz Zk V V V (congrArg (Value.int .i64) (Int.toNat_of_nonneg (by omega)).symm) (fun p5 x4 ec1 U4 R7 ra1=>?_)
     obtain ⟨rfl,YO⟩:=R7
     refine X4 ra1 S17 0 V _ V Zk V V V ?_
     have hi1 : Zj (x4 + 1):=by have hsa9:=ZfX hsu3 ‹_›; have:=YO.1; have:=YO.2; constructor <;> omega
     refine WL.ar .add V x4 1 V V V hi1 ?_
     refine Yh (R5.mono L12) ((x3).toNat) (by omega) Xz Zk V V V (congrArg (Value.int .i64) (Int.toNat_of_nonneg (by omega)).symm) (fun p6 x5 ec2 U5 R8 ra2=>?_)
     have T7 : x4 = x5:=Option.some.inj (U4.symm.trans U5)
     obtain rfl:=T7
     obtain ⟨rfl,Xf⟩:=R8
     refine XJ (R5.mono L12) ra2 S17 0 V (by omega) V 0 _ [U (x4 + 1)] (x4 + 1) [U (x4 + 1)] V Zk V (ZZ V) V V ⟨V,hi1⟩ V V V V (fun o4 w16 R9 S18=>?_)
     refine Zq k3 (by have:=Zb; omega) V V V ?_
     exact BK.mk' _ ⟨k3 + 1,v12,o4,G12,V,(L11.trans L12),S18,(YX.cast R9 (by (exact Zy7 ‹_› (by omega) ‹_›))),(ZS V),(by omega),(by exact Zy9 ‹_› ‹_› (by omega) (by omega))⟩ (show 2 - (k3 + 1) < 2 - k3 by omega)
    refine Zz x3 (-1) V V V (fun h14=>?_) (fun h14=>?_)
    ·exact RB S17 V (by exact Zl4 (Zie (by assumption : p.steps[k2]? = some _) (ZwL ‹_› (by omega) (by omega))))
    refine Zq k3 (by have:=Zb; omega) V V V ?_
    exact BK.mk' _ ⟨k3 + 1,v12,o3,G12,V,(L11.trans L12),S17,(YX.cast (R5.mono L12) (by (exact Zy6 ‹_› (by omega)))),(ZS V),(by omega),(by exact ZyA ‹_› ‹_› (by omega) (by omega))⟩ (show 2 - (k3 + 1) < 2 - k3 by omega)
   refine Zq k2 (by have:=Zb; omega) V V V ?_
   exact BK.mk' _ ⟨k2 + 1,v12,o3,G11,V,(L6.trans (((L7.trans L9).trans L10).trans L11)),S16,(YX.cast R5 (by (exact ZyC ‹_› (by omega)))),(ZS V),(by omega),(by exact QQ (P:=fun j s=>Xu s (j : Int) = true) ‹_› ‹_› (ZyB ‹_› ‹_› (by omega)))⟩ (show p.steps.length - (k2 + 1) < p.steps.length - k2 by omega)
  exact RB S13 V (by exact Zl4 (Zie ‹_› (ZwE ‹_›)))
 have hrr:=YX.cast (l':=Ql p.steps.length p.steps) R3 (by rw [List.take_of_length_le (by omega)])
 have T8:=YX.freeze hrr S9 0 V
 obtain ⟨G13,L13,A10,S19⟩:=T8
 have hul:=Zic (n:=p.steps.length) (l:=p.steps)
 have hss:=Zp8 ‹_› (by omega : p.steps.length ≤ k2)
 have hcc:=hcl
 refine XW p.steps.length (by omega) (by have:=Zb; omega) V V V ?_
 refine WL.indexAddr A10 (p.steps.length - 1) (by omega) Xz Zk V V V V (fun p7 x6 U6 E4=>?_)
 obtain ⟨D4,C7,R10⟩:=E4
 obtain ⟨rfl,Xg⟩:=R10
 refine Z S19 C7 Zk V V V ?_
 refine Ze x6 0 V V V (fun h15=>?_) (fun h15=>?_)
 ·refine XW p.steps.length (by omega) (by have:=Zb; omega) V V V ?_
  refine Zbn A10 (p.steps.length - 1) (by omega) Xz Zk V V V V (fun v13 A11=>?_)
  refine Zl S19 Zd0 V V V (Zj8 S19.imm ((Ql p.steps.length p.steps).take (p.steps.length - 1)) (fun x8=>!decide (x8 = 1)) _ A11 51 #[] ⟨Zd1,fun G8 w8 v8 x8 L8 hG8 hon8 hA8=>by obtain ⟨rfl,hi_x8⟩:=hA8; exact Zqs hG8 x8⟩) (fun w17 G14 S20 L14=>?_)
  exact RB S20 V (by (rw [← Zru (by omega) hcl hss,← Zp9 hul ‹_›,decide_eq_true ‹_›]; simp))
 exact RB S19 V (by (rw [← Zru (by omega) hcl hss]; exact ZwI hul ‹_› ‹_›))
theorem Ziy {G : GH} {w : World} (hG : G.In w) (a b : Int) (ha : Xs a) (hb : Xs b) : CL Tryz.prog (nat_lit 30) #[U a,U b] [] w G fun _ _ r=>r = U (Yv a b):=by
 refine Zg ft [] Tryz.func30 V V ?_
 have ha64:=Zde ha
 have hb64:=Zde hb
 have hap:=ha.1
 have hbp:=hb.1
 have hS:=St.start (X:=[]) hG
 refine Z1 a 0 V V V (fun h1=>?_) (fun h1=>?_)
 ·refine YZ 4398046511104 a (by omega) (by omega) (show Zj 4398046511104 from by constructor <;> decide) V V V ?_
  refine Z1 b (4398046511104 / a) V V V (fun h2=>?_) (fun h2=>?_)
  ·exact RI hS V (by exact Zuy ‹_› ‹_›)
  have hi1 : Zj (a * b):=by have hml:=Zl8 hap hbp (by exact .inr (by omega)); have:=ha64.1; have:=ha64.2; have:=hb64.1; have:=hb64.2; constructor <;> omega
  refine WL.ar .mul V a b V V V hi1 ?_
  exact RI hS V (by exact ZmQ hap hbp (by exact .inr (by omega)))
 have hi2 : Zj (a * b):=by have hml:=Zl8 hap hbp (by exact .inl (by omega)); have:=ha64.1; have:=ha64.2; have:=hb64.1; have:=hb64.2; constructor <;> omega
 refine WL.ar .mul V a b V V V hi2 ?_
 exact RI hS V (by exact ZmQ hap hbp (by exact .inl (by omega)))
end Go.Civ
