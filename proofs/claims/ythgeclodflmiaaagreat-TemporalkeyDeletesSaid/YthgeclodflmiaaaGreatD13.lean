/- Lemmas. -/
import Derived.Test.YthgeclodflmiaaaGreatD06
import Derived.Test.YthgeclodflmiaaaGreatD08
import Derived.Test.YthgeclodflmiaaaGreatD10
import Derived.Test.YthgeclodflmiaaaGreatD11
import Derived.Test.YthgeclodflmiaaaGreatProg
import Derived.KernelRfl
import Derived.WalkKit
import Derived.Maps.Own
import Derived.Laws.StructEq
set_option linter.unusedVariables false
set_option linter.unusedSimpArgs false
set_option maxRecDepth 100000
set_option maxHeartbeats 4000000
namespace Go.Civ
open Go.Proofs
theorem ZoT {G : GH} {w : World} (hG : G.In w) (a b : List Val) (va : Value) (hva : Sl ValE 32 G va a) (vb : Value) (hvb : Sl ValE 32 G vb b) : CL Tryz.prog (nat_lit 88) #[va,vb] [] w G fun _ _ r=>r = .bool (decide (a = b)):=by
 refine Zh ft [] Tryz.func88 U U ?_
 have hS:=St.start (X:=[]) hG
 have V1:=hva.bound
 refine Zl hva Yv U U ?_
 have V2:=hvb.bound
 refine Zl hvb Yv U U ?_
 refine Yr (a.length : Int) (b.length : Int) U U U (fun h1=>?_) (fun h1=>?_)
 ·exact RB hS U (by rw [← XE]; exact (Qa (by omega)).symm)
 have V3:=hva.bound
 refine Zl hva Yv U U ?_
 refine LP.go ft [] (fun m ρ1 w1=>∃ (k1 : Nat),∃ (G1 : GH),m = a.length - k1 ∧ G.le G1 ∧ St w [] G G1 [] w1 ∧ FR ρ1 [(0,va),(1,vb),(12,S (a.length : Int)),(13,S (k1 : Int))] ∧ k1 ≤ a.length ∧ ∀ j,j < k1 → ∀ x y,a[j]? = some x → b[j]? = some y → decide (x = y) = true) _ ⟨0,G,U,(G.le_refl),hS,(Zq U),(by omega),(by intro j hj; omega)⟩ ?_
 rintro m ρ1 w1 ⟨k1,G1,rfl,L1,S1,F9,f1,f2⟩
 refine F9.set ?_
 clear F9
 refine Zp (k1 : Int) (a.length : Int) U U U (fun h2=>?_) (fun h2=>?_)
 ·obtain ⟨p1,x1,U1,E1,W1⟩:=Sl.at (hva.mono L1) k1 (by omega)
  obtain ⟨D1,C1,R1⟩:=E1
  obtain ⟨rfl,B1,B2,B3⟩:=Yj R1
  obtain ⟨p2,x2,U2,E2,W2⟩:=Sl.at (hvb.mono L1) k1 (by omega)
  obtain ⟨D2,C2,R2⟩:=E2
  obtain ⟨rfl,B4,B5,B6⟩:=Yj R2
  rcases Classical.em (x1 = x2) with h3 | h3
  ·refine dr [] [(18,Zs p1),(19, .agg #[S x1.k,S x1.n,Za x1.s]),(22,Zs p2),(23, .agg #[S x2.k,S x2.n,Za x2.s]),(24, .bool false)] S1 ⟨fun _=>Zg k1 W1 Yv Z6 U U U U <| nu U U,fun _ hSw=>Zb hSw C1 [S x1.k,S x1.n,Za x1.s] Z6 U U U U U <| nu U U,fun _=>Zg k1 W2 Yv Z6 U U U U <| nu U U,fun _ hSw=>Zb hSw C2 [S x2.k,S x2.n,Za x2.s] Z6 U U U U U <| nu U U,fun _=>XV false (QC x1 x2) Zbf (by simp [h3]) U U U <| nu U U,trivial⟩ (fun w2 S2=>?_)
   refine Zj k1 (by have:=Zc; omega) U U U ?_
   exact BK.mk' _ ⟨k1 + 1,G1,U,L1,S2,(Zq U),(by omega),(by exact QT ‹_› ‹_› ‹_› (decide_eq_true (by simp_all)))⟩ (show a.length - (k1 + 1) < a.length - k1 by omega)
  refine dr [] [(18,Zs p1),(19, .agg #[S x1.k,S x1.n,Za x1.s]),(22,Zs p2),(23, .agg #[S x2.k,S x2.n,Za x2.s]),(24, .bool true)] S1 ⟨fun _=>Zg k1 W1 Yv Z6 U U U U <| nu U U,fun _ hSw=>Zb hSw C1 [S x1.k,S x1.n,Za x1.s] Z6 U U U U U <| nu U U,fun _=>Zg k1 W2 Yv Z6 U U U U <| nu U U,fun _ hSw=>Zb hSw C2 [S x2.k,S x2.n,Za x2.s] Z6 U U U U U <| nu U U,fun _=>XV true (QC x1 x2) Zbf (by simp [h3]) U U U <| nu U U,trivial⟩ (fun w3 S3=>?_)
  exact RB S3 U (by rw [← XE]; exact (Q6 (f:=fun (x y : Val)=>decide (x = y)) ‹_› ‹_› (decide_eq_false (by simp_all))).symm)
 exact RB S1 U (by rw [← XE]; exact (Qr (by omega) ‹_› (by omega)).symm)
theorem ZoU {G : GH} {w : World} (hG : G.In w) (a b : List Val) (pf : Val → Val → Int) (va : Value) (hva : Sl ValE 32 G va a) (vb : Value) (hvb : Sl ValE 32 G vb b) (fid : Nat) (fcap : Array Value) (hf : FnI2 Tryz.prog (Is ValE) (Is ValE) fid fcap G (fun x y=>x ∈ a ∧ y ∈ b) pf) : CL Tryz.prog (nat_lit 164) #[va,vb, .func (.func fid) #[] fcap] [] w G fun _ _ r=>r = S (ZL pf a b):=by
 refine Zh ft [] Tryz.func164 U U ?_
 have hS:=St.start (X:=[]) hG
 have V1:=hva.bound
 refine Zl hva Yv U U ?_
 refine LP.go ft [] (fun m ρ1 w1=>∃ (k1 : Nat),∃ (G1 : GH),m = a.length - k1 ∧ G.le G1 ∧ St w [] G G1 [] w1 ∧ FR ρ1 [(0,va),(1,vb),(2, .func (.func fid) #[] fcap),(11,va),(12,S (a.length : Int)),(13,S (k1 : Int))] ∧ k1 ≤ a.length ∧ k1 ≤ b.length ∧ ∀ j,j < k1 → ∀ x y,a[j]? = some x → b[j]? = some y → pf x y = 0) _ ⟨0,G,U,(G.le_refl),hS,(Zq U),(by omega),(by omega),(by intro j hj; omega)⟩ ?_
 rintro m ρ1 w1 ⟨k1,G1,rfl,L1,S1,F9,f1,f2,f3⟩
 refine F9.set ?_
 clear F9
 refine Zp (k1 : Int) (a.length : Int) U U U (fun h1=>?_) (fun h1=>?_)
 ·refine WL.indexAddr (hva.mono L1) k1 (by omega) Yv Z6 U U U U (fun p1 x1 U1 E1=>?_)
  obtain ⟨D1,C1,R1⟩:=E1
  obtain ⟨rfl,B1,B2,B3⟩:=Yj R1
  refine Zb S1 C1 [S x1.k,S x1.n,Za x1.s] Z6 U U U U U ?_
  refine WL.alloc S1 Z6 U U (fun b1 w2 N1 S2=>?_)
  refine Zi S2 0 [S x1.k,S x1.n,Za x1.s] U U Z6 U U U U U U (fun w3 S3=>?_)
  obtain ⟨G2,L2,C2,S4⟩:=S3.shutB N1
  have V2:=hvb.bound
  have j1:=(L1.trans L2)
  refine Zl (hvb.mono j1) Yv U U ?_
  refine QB (k1 : Int) (b.length : Int) U U U (fun h2=>?_) (fun h2=>?_)
  ·exact RI S4 U (by exact (ZpW ‹_› (by omega) (by omega)).symm)
  refine WL.indexAddr (hvb.mono j1) k1 (by omega) Yv Z6 U U U U (fun p2 x2 U2 E2=>?_)
  obtain ⟨D2,C3,R2⟩:=E2
  obtain ⟨rfl,B4,B5,B6⟩:=Yj R2
  refine Zb S4 C3 [S x2.k,S x2.n,Za x2.s] Z6 U U U U U ?_
  refine WL.alloc S4 Z6 U U (fun b2 w4 N2 S5=>?_)
  refine Zi S5 0 [S x2.k,S x2.n,Za x2.s] U U Z6 U U U U U U (fun w5 S6=>?_)
  obtain ⟨G3,L3,C4,S7⟩:=S6.shutB N2
  refine Zb S7 (C2.mono L3) [S x1.k,S x1.n,Za x1.s] Z6 U U U U U <| Zb S7 C4 [S x2.k,S x2.n,Za x2.s] Z6 U U U U U ?_
  refine Zr S7 hf.body U U U (hf.call _ _ (.agg #[S x1.k,S x1.n,Za x1.s]) (.agg #[S x2.k,S x2.n,Za x2.s]) x1 x2 (j1.trans L3) S7.imm ⟨(List.mem_of_getElem? U1),(List.mem_of_getElem? U2)⟩ ⟨_,U,(YP x1 B1 B2 B3)⟩ ⟨_,U,(YP x2 B4 B5 B6)⟩) (fun w6 G4 S8 L4=>?_)
  refine Yr (pf x1 x2) 0 U U U (fun h3=>?_) (fun h3=>?_)
  ·exact RI S8 U (by exact (Zjj ‹_› ‹_› ‹_› ‹_›).symm)
  refine Zj k1 (by have:=Zc; omega) U U U ?_
  exact BK.mk' _ ⟨k1 + 1,G4,U,(L1.trans ((L2.trans L3).trans L4)),S8,(Zq U),(by omega),(by omega),(by exact QT ‹_› ‹_› ‹_› ‹_›)⟩ (show a.length - (k1 + 1) < a.length - k1 by omega)
 have V3:=hva.bound
 refine Zl (hva.mono L1) Yv U U ?_
 have V4:=hvb.bound
 refine Zl (hvb.mono L1) Yv U U ?_
 refine Zp (a.length : Int) (b.length : Int) U U U (fun h4=>?_) (fun h4=>?_)
 ·exact RI S1 U (by exact (Zoz ‹_› (by omega) (by omega)).symm)
 exact RI S1 U (by exact (ZpX ‹_› (by omega) (by omega) (by omega)).symm)
theorem Zqj {G : GH} {w : World} (hG : G.In w) (x : Int) : CL Tryz.prog (nat_lit 153) #[S x] [] w G fun _ _ r=>r = .bool (ZbW x):=by
 refine Zh ft [] Tryz.func153 U U ?_
 have hS:=St.start (X:=[]) hG
 refine QB x (-4398046511104) U U U (fun h1=>?_) (fun h1=>?_)
 ·refine Yf .leq U .i64 x 4398046511104 U U U ?_
  exact RB hS U (by unfold ZbW; simp [Cmp.b] <;> omega)
 exact RB hS U (by unfold ZbW; simp [Cmp.b] <;> omega)
theorem ZdO {G : GH} {w : World} (hG : G.In w) (x : Span) (cx : List Value) (hcx : SpanE.rep G x cx) : CL Tryz.prog (nat_lit 99) #[.agg cx.toArray] [] w G fun _ _ r=>r = .bool (XD x):=by
 refine Zh ft [] Tryz.func99 U U ?_
 have hS:=St.start (X:=[]) hG
 obtain ⟨rfl,B1,B2⟩:=ZI hcx
 refine Zw [S x.a,S x.b] _ hS U U U (fun p1 w1 G1 L1 M1 C1 S1=>?_)
 refine Z S1 (XC.drop 0 C1) Zt U U U ?_
 refine Zr S1 Zu8 U U U (Zqj S1.imm x.a) (fun w2 G2 S2 L2=>?_)
 refine WL.split (fun (h1 : (ZbW x.a) = true)=>?_) (fun (h1 : (ZbW x.a) = false)=>?_)
 ·refine Z S2 (XC.drop 1 (C1.mono L2)) Zt U U U ?_
  refine Zr S2 Zu8 U U U (Zqj S2.imm x.b) (fun w3 G3 S3 L3=>?_)
  refine WL.split (fun (h2 : (ZbW x.b) = true)=>?_) (fun (h2 : (ZbW x.b) = false)=>?_)
  ·refine Z S3 (XC.drop 0 (C1.mono (L2.trans L3))) Zt U U U <| Z S3 (XC.drop 1 (C1.mono (L2.trans L3))) Zt U U U <| Yf .lss U .i64 x.a x.b U U U ?_
   exact RB S3 U (by unfold XD; simp_all [Cmp.b] <;> (first | omega | (intros; omega) | (rw [Bool.eq_iff_iff]; simp <;> omega) | (rw [Bool.eq_iff_iff]; simp_all <;> omega)))
  exact RB S3 U (by unfold XD; simp_all [Cmp.b] <;> (first | omega | (intros; omega) | (rw [Bool.eq_iff_iff]; simp <;> omega) | (rw [Bool.eq_iff_iff]; simp_all <;> omega)))
 exact RB S2 U (by unfold XD; simp_all [Cmp.b] <;> (first | omega | (intros; omega) | (rw [Bool.eq_iff_iff]; simp <;> omega) | (rw [Bool.eq_iff_iff]; simp_all <;> omega)))
theorem QV {G : GH} {w : World} (hG : G.In w) (x : Val) (cx : List Value) (hcx : ValE.rep G x cx) : CL Tryz.prog (nat_lit 124) #[.agg cx.toArray] [] w G fun _ _ r=>r = .bool (Z4 x):=by
 refine Zh ft [] Tryz.func124 U U ?_
 have hS:=St.start (X:=[]) hG
 obtain ⟨rfl,B1,B2,B3⟩:=Yj hcx
 refine Zw [S x.k,S x.n,Za x.s] _ hS U U U (fun p1 w1 G1 L1 M1 C1 S1=>?_)
 refine Z S1 (XC.drop 0 C1) Zt U U U ?_
 refine ZC x.k 1 U U U (fun h1=>?_) (fun h1=>?_)
 ·refine Z S1 (XC.drop 2 C1) ZF U U U <| ZJ .eql U x.s [] U U U ?_
  exact RB S1 U (by unfold Z4; simp_all [Cmp.b,SCmp.b] <;> (first | omega | (intros; omega) | (rw [Bool.eq_iff_iff]; simp <;> omega) | (rw [Bool.eq_iff_iff]; simp_all <;> omega)))
 refine ZC x.k 2 U U U (fun h2=>?_) (fun h2=>?_)
 ·refine Z S1 (XC.drop 1 C1) Zt U U U ?_
  refine ZC x.n 0 U U U (fun h3=>?_) (fun h3=>?_)
  ·refine Z S1 (XC.drop 2 C1) ZF U U U <| QN x.s ul9 U U ?_
   refine QS (x.s.length : Int) 30 U U U (fun h4=>?_) (fun h4=>?_)
   ·refine Z S1 (XC.drop 2 C1) ZF U U U ?_
    refine Zr S1 ZyZ U U U (Znt S1.imm x.s) (fun w2 G2 S2 L2=>?_)
    exact RB S2 U (by unfold Z4; simp_all [Cmp.b,SCmp.b] <;> (omega))
   exact RB S1 U (by unfold Z4; simp_all [Cmp.b,SCmp.b] <;> (omega))
  exact RB S1 U (by unfold Z4; simp_all [Cmp.b,SCmp.b] <;> (first | omega | (intros; omega) | (rw [Bool.eq_iff_iff]; simp <;> omega) | (rw [Bool.eq_iff_iff]; simp_all <;> omega)))
 refine ZC x.k 3 U U U (fun h5=>?_) (fun h5=>?_)
 ·refine Z S1 (XC.drop 2 C1) ZF U U U <| ZJ .eql U x.s [] U U U ?_
  refine WL.split (fun h0=>?_) (fun h0=>?_)
  ·have h6 : x.s = []:=by simpa [SCmp.b] using h0
   clear h0
   refine Z S1 (XC.drop 1 C1) Zt U U U ?_
   refine ZC x.n 0 U U U (fun h7=>?_) (fun h7=>?_)
   ·exact RB S1 U (by unfold Z4; simp_all [Cmp.b,SCmp.b] <;> (first | omega | (intros; omega) | (rw [Bool.eq_iff_iff]; simp <;> omega) | (rw [Bool.eq_iff_iff]; simp_all <;> omega)))
   refine Z S1 (XC.drop 1 C1) Zt U U U <| Yf .eql U .i64 x.n 1 U U U ?_
   exact RB S1 U (by unfold Z4; simp_all [Cmp.b,SCmp.b] <;> ((rw [Bool.eq_iff_iff]; simp <;> omega)))
  have h6 : x.s ≠ []:=by simpa [SCmp.b] using h0
  clear h0
  exact RB S1 U (by unfold Z4; simp_all [Cmp.b,SCmp.b] <;> (first | omega | (intros; omega) | (rw [Bool.eq_iff_iff]; simp <;> omega) | (rw [Bool.eq_iff_iff]; simp_all <;> omega)))
 refine ZC x.k 4 U U U (fun h8=>?_) (fun h8=>?_)
 ·refine Z S1 (XC.drop 2 C1) ZF U U U <| ZJ .eql U x.s [] U U U ?_
  refine WL.split (fun h0=>?_) (fun h0=>?_)
  ·have h9 : x.s = []:=by simpa [SCmp.b] using h0
   clear h0
   refine Z S1 (XC.drop 1 C1) Zt U U U ?_
   refine QB x.n (-62135596800) U U U (fun h10=>?_) (fun h10=>?_)
   ·refine Z S1 (XC.drop 1 C1) Zt U U U <| Yf .leq U .i64 x.n 253402300800 U U U ?_
    exact RB S1 U (by unfold Z4; simp_all [Cmp.b,SCmp.b] <;> (first | omega | (intros; omega) | (rw [Bool.eq_iff_iff]; simp <;> omega) | (rw [Bool.eq_iff_iff]; simp_all <;> omega)))
   exact RB S1 U (by unfold Z4; simp_all [Cmp.b,SCmp.b] <;> (omega))
  have h9 : x.s ≠ []:=by simpa [SCmp.b] using h0
  clear h0
  exact RB S1 U (by unfold Z4; simp_all [Cmp.b,SCmp.b] <;> (first | omega | (intros; omega) | (rw [Bool.eq_iff_iff]; simp <;> omega) | (rw [Bool.eq_iff_iff]; simp_all <;> omega)))
 exact RB S1 U (by unfold Z4; simp_all [Cmp.b,SCmp.b] <;> (first | omega | (intros; omega) | (rw [Bool.eq_iff_iff]; simp <;> omega) | (rw [Bool.eq_iff_iff]; simp_all <;> omega)))
theorem Zxm {G : GH} {w : World} (hG : G.In w) (x : Val) (cx : List Value) (hcx : ValE.rep G x cx) : CL Tryz.prog (nat_lit 198) #[.agg cx.toArray] [] w G fun _ _ r=>r = .bool (!Z4 x):=by
 refine Zh ft [] Tryz.func198 U U ?_
 have hS:=St.start (X:=[]) hG
 obtain ⟨rfl,B1,B2,B3⟩:=Yj hcx
 refine Zw [S x.k,S x.n,Za x.s] _ hS U U U (fun p1 w1 G1 L1 M1 C1 S1=>?_)
 refine Zb S1 C1 [S x.k,S x.n,Za x.s] Z6 U U U U U ?_
 refine Zr S1 Zcx U U U (QV S1.imm x _ (YP x B1 B2 B3)) (fun w2 G2 S2 L2=>?_)
 exact RB S2 U (by rfl)
theorem Zlc {G : GH} {w : World} (hG : G.In w) (l : List Val) (vl : Value) (hvl : Sl ValE 32 G vl l) : CL Tryz.prog (nat_lit 163) #[vl] [] w G fun _ _ r=>r = .bool (l.all Z4):=by
 refine Zh ft [] Tryz.func163 U U ?_
 have hS:=St.start (X:=[]) hG
 refine Zr hS ZoR U U U (Ze4 hS.imm l (fun x8=>!Z4 x8) _ hvl 198 #[] ⟨Zzj,fun G8 w8 v8 x8 L8 hG8 hon8 hA8=>by obtain ⟨cs_x8,rfl,hr_x8⟩:=hA8; exact Zxm hG8 x8 cs_x8 hr_x8⟩) (fun w1 G1 S1 L1=>?_)
 exact RB S1 U (by exact Zn7 _ _)
theorem ZgJ {G : GH} {w : World} (hG : G.In w) (a b : List Val) (va : Value) (hva : Sl ValE 32 G va a) (vb : Value) (hvb : Sl ValE 32 G vb b) : CL Tryz.prog (nat_lit 115) #[va,vb] [] w G fun _ _ r=>r = S (XL a b):=by
 refine Zh ft [] Tryz.func115 U U ?_
 have hS:=St.start (X:=[]) hG
 refine Zr hS ZkZ U U U (Zlc hS.imm a _ hva) (fun w1 G1 S1 L1=>?_)
 refine WL.split (fun (h1 : (a.all Z4) = true)=>?_) (fun (h1 : (a.all Z4) = false)=>?_)
 ·refine Zr S1 ZkZ U U U (Zlc S1.imm b _ (hvb.mono L1)) (fun w2 G2 S2 L2=>?_)
  refine WL.split (fun (h2 : (b.all Z4) = true)=>?_) (fun (h2 : (b.all Z4) = false)=>?_)
  ·refine Zr S2 ZyU U U U (ZoU S2.imm a b (fun x8 y8=>cmpV x8 y8) _ (hva.mono (L1.trans L2)) _ (hvb.mono (L1.trans L2)) 165 #[] ⟨Zi1,fun G8 w8 v8 u8 x8 y8 L8 hG8 hon8 hA8 hB8=>by obtain ⟨cs_x8,rfl,hr_x8⟩:=hA8; obtain ⟨cs_y8,rfl,hr_y8⟩:=hB8; exact ZeN hG8 x8 y8 cs_x8 hr_x8 cs_y8 hr_y8⟩) (fun w3 G3 S3 L3=>?_)
   exact RI S3 U (by unfold XL; generalize a.all Z4 = p at *; generalize b.all Z4 = q at *; cases p <;> cases q <;> simp_all)
  exact RI S2 U (by unfold XL; generalize a.all Z4 = p at *; generalize b.all Z4 = q at *; cases p <;> cases q <;> simp_all)
 exact RI S1 U (by unfold XL; generalize a.all Z4 = p at *; generalize b.all Z4 = q at *; cases p <;> cases q <;> simp_all)
theorem ZcL {G : GH} {w : World} (hG : G.In w) (a b : List Val) (va : Value) (hva : Sl ValE 32 G va a) (vb : Value) (hvb : Sl ValE 32 G vb b) : CL Tryz.prog (nat_lit 24) #[va,vb] [] w G fun _ _ r=>r = .bool (decide (a = b)):=by
 refine Zh ft [] Tryz.func24 U U ?_
 have hS:=St.start (X:=[]) hG
 refine Zr hS ZzX U U U (ZoT hS.imm a b _ hva _ hvb) (fun w1 G1 S1 L1=>?_)
 exact RB S1 U (by rfl)
theorem ZgK {G : GH} {w : World} (hG : G.In w) (x : Span) (cx : List Value) (hcx : SpanE.rep G x cx) : CL Tryz.prog (nat_lit 77) #[.agg cx.toArray] [] w G fun _ _ r=>r = .bool (ZN x):=by
 refine Zh ft [] Tryz.func77 U U ?_
 have hS:=St.start (X:=[]) hG
 obtain ⟨rfl,B1,B2⟩:=ZI hcx
 refine Zw [S x.a,S x.b] _ hS U U U (fun p1 w1 G1 L1 M1 C1 S1=>?_)
 refine Z S1 (XC.drop 0 C1) Zt U U U ?_
 refine QB x.a (-62135596800) U U U (fun h1=>?_) (fun h1=>?_)
 ·refine Z S1 (XC.drop 0 C1) Zt U U U <| Z S1 (XC.drop 1 C1) Zt U U U ?_
  refine Zp x.a x.b U U U (fun h2=>?_) (fun h2=>?_)
  ·refine Z S1 (XC.drop 1 C1) Zt U U U <| Yf .leq U .i64 x.b 253402300800 U U U ?_
   exact RB S1 U (by unfold ZN; simp_all [Cmp.b] <;> (first | omega | (intros; omega) | (rw [Bool.eq_iff_iff]; simp <;> omega) | (rw [Bool.eq_iff_iff]; simp_all <;> omega)))
  exact RB S1 U (by unfold ZN; simp_all [Cmp.b] <;> (omega))
 exact RB S1 U (by unfold ZN; simp_all [Cmp.b] <;> (omega))
theorem ZdP {G : GH} {w : World} (hG : G.In w) (a b : Int) : CL Tryz.prog (nat_lit 214) #[S a,S b] [] w G fun _ _ r=>r = S (Y5 a b):=by
 refine Zh ft [] Tryz.func214 U U ?_
 have hS:=St.start (X:=[]) hG
 refine Zp a b U U U (fun h1=>?_) (fun h1=>?_)
 ·exact RI hS U (by unfold Y5; split <;> (try split) <;> rfl)
 refine Xd a b U U U (fun h2=>?_) (fun h2=>?_)
 ·exact RI hS U (by unfold Y5; split <;> (try split) <;> omega)
 exact RI hS U (by unfold Y5; split <;> (try split) <;> omega)
theorem Zma {G : GH} {w : World} (hG : G.In w) (a b : List Val) (va : Value) (hva : Sl ValE 32 G va a) (vb : Value) (hvb : Sl ValE 32 G vb b) : CL Tryz.prog (nat_lit 82) #[va,vb] [] w G fun _ _ r=>r = .bool (decide (a = b)):=by
 refine Zh ft [] Tryz.func82 U U ?_
 have hS:=St.start (X:=[]) hG
 have V1:=hva.bound
 refine Zl hva Yv U U ?_
 have V2:=hvb.bound
 refine Zl hvb Yv U U ?_
 refine Yr (a.length : Int) (b.length : Int) U U U (fun h1=>?_) (fun h1=>?_)
 ·exact RB hS U (by rw [← XE]; exact (Qa (by omega)).symm)
 refine LP.go ft [] (fun m ρ1 w1=>∃ (k1 : Nat),∃ (G1 : GH),m = a.length - k1 ∧ G.le G1 ∧ St w [] G G1 [] w1 ∧ FR ρ1 [(0,va),(1,vb),(5,S (k1 : Int))] ∧ k1 ≤ a.length ∧ ∀ j,j < k1 → ∀ x y,a[j]? = some x → b[j]? = some y → decide (x = y) = true) _ ⟨0,G,U,(G.le_refl),hS,⟨U,U,U,trivial⟩,(by omega),(by intro j hj; omega)⟩ ?_
 rintro m ρ1 w1 ⟨k1,G1,rfl,L1,S1,F9,f1,f2⟩
 refine F9.set ?_
 clear F9
 have V3:=hva.bound
 refine Zl (hva.mono L1) Yv U U ?_
 refine Zp (k1 : Int) (a.length : Int) U U U (fun h2=>?_) (fun h2=>?_)
 ·obtain ⟨p1,x1,U1,E1,W1⟩:=Sl.at (hva.mono L1) k1 (by omega)
  obtain ⟨D1,C1,R1⟩:=E1
  obtain ⟨rfl,B1,B2,B3⟩:=Yj R1
  obtain ⟨p2,x2,U2,E2,W2⟩:=Sl.at (hvb.mono L1) k1 (by omega)
  obtain ⟨D2,C2,R2⟩:=E2
  obtain ⟨rfl,B4,B5,B6⟩:=Yj R2
  rcases Classical.em (x1 = x2) with h3 | h3
  ·refine dr [] [(19,Zs p1),(20, .agg #[S x1.k,S x1.n,Za x1.s]),(23,Zs p2),(24, .agg #[S x2.k,S x2.n,Za x2.s]),(25, .bool false)] S1 ⟨fun _=>Zg k1 W1 Yv Z6 U U U U <| nu U U,fun _ hSw=>Zb hSw C1 [S x1.k,S x1.n,Za x1.s] Z6 U U U U U <| nu U U,fun _=>Zg k1 W2 Yv Z6 U U U U <| nu U U,fun _ hSw=>Zb hSw C2 [S x2.k,S x2.n,Za x2.s] Z6 U U U U U <| nu U U,fun _=>XV false (QC x1 x2) Zbf (by simp [h3]) U U U <| nu U U,trivial⟩ (fun w2 S2=>?_)
   refine Zj k1 (by have:=Zc; omega) U U U ?_
   exact BK.mk' _ ⟨k1 + 1,G1,U,L1,S2,⟨U,U,U,trivial⟩,(by omega),(by exact QT ‹_› ‹_› ‹_› (decide_eq_true (by simp_all)))⟩ (show a.length - (k1 + 1) < a.length - k1 by omega)
  refine dr [] [(19,Zs p1),(20, .agg #[S x1.k,S x1.n,Za x1.s]),(23,Zs p2),(24, .agg #[S x2.k,S x2.n,Za x2.s]),(25, .bool true)] S1 ⟨fun _=>Zg k1 W1 Yv Z6 U U U U <| nu U U,fun _ hSw=>Zb hSw C1 [S x1.k,S x1.n,Za x1.s] Z6 U U U U U <| nu U U,fun _=>Zg k1 W2 Yv Z6 U U U U <| nu U U,fun _ hSw=>Zb hSw C2 [S x2.k,S x2.n,Za x2.s] Z6 U U U U U <| nu U U,fun _=>XV true (QC x1 x2) Zbf (by simp [h3]) U U U <| nu U U,trivial⟩ (fun w3 S3=>?_)
  exact RB S3 U (by rw [← XE]; exact (Q6 (f:=fun (x y : Val)=>decide (x = y)) ‹_› ‹_› (decide_eq_false (by simp_all))).symm)
 exact RB S1 U (by rw [← XE]; exact (Qr (by omega) ‹_› (by omega)).symm)
end Go.Civ
namespace Go.Civ
open Go.RowKit Go.Maps
set_option linter.unusedVariables false
structure Apart (w0 : World) (G : GH) (L : Own) (b : Nat) : Prop where
 new : w0.heap.size ≤ b
 gh : G b = none
 own : ∀ (i : Nat) p,L[i]? = some (some p) → p.1 ≠ b
section
variable {P : Program} {N : Nat} {Q : Exit → Env → World → Prop} {ρ : Env} {w w0 : World} {ops : Array Oper} {rest : List Oper} {K KK : Env → World → Prop} {d : Nat} {ty : TypeId} {pos : String} {af : Array Edge} {g : Option (Nat × Bool)}
variable {X : List Nat} {G0 G : GH} {L : Own} {b : Nat}
theorem ZeU {H : Type} {R : Value → Option (DataW H × List MemPlace)} {kt t e : TypeId} {n : Nat} {D : DataW H} (h : w.ownsMap P kt R b n D) (K : Keyed P kt) (ht : P.underlying t = some (.map kt e)) (hn : n < maxLen) {key val : Value} {kl : Lit} {dd : DataW H} {ps : List MemPlace}
  (hkey : keyOf P kt key = some kl) (hv : R val = some (dd,ps)) : ∃ w',(Instr.mapUpdate t (.map (some b)) key val).run P w = .ok () w' ∧ w'.ownsMap P kt R b (n + 1) (D.put kl dd) ∧ w.grownBy w' (some b) ∧ w.drawn ≤ w'.drawn:=by
 obtain ⟨w',h1,h2,h3⟩:=World.ownsMap.update h K ht hn hkey hv
 obtain ⟨es,clock,hb,F,hs,rfl⟩:=h
 obtain ⟨es',clock',hrun,_⟩:=Maps.fit_store (R':=R) K ht hb F (Nat.lt_of_le_of_lt hs hn) (fun _ _ _ _ hz=>hz) hkey hv
 refine ⟨w',h1,h2,h3,?_⟩
 rw [hrun] at h1
 injection h1 with _ e
 subst e
 exact Nat.le_refl _
theorem St.grown (h : St w0 X G0 G L w) (ha : Apart w0 G L b) {w' : World} (hg : w.grownBy w' (some b)) (hd : w.drawn ≤ w'.drawn) : St w0 X G0 G L w':=by
 have QU : ∀ k,k < w.heap.size → k ≠ b → w'.heap[k]? = w.heap[k]? :=fun k hk hne=>hg.block k hk (fun e=>hne (Option.some.inj e))
 refine ⟨⟨hg.os.trans h.kept.os,hg.tape.trans h.kept.tape,hg.output.trans h.kept.output,Nat.le_trans h.kept.drawn hd,Nat.le_trans h.kept.size hg.size,fun k hk hX=>?_⟩,h.le,h.new,fun k o hk=>?_,fun i p hp=>?_,h.sep,h.nd⟩
 ·rw [QU k (Nat.lt_of_lt_of_le hk h.kept.size) (by have:=ha.new; omega)]; exact h.kept.block k hk hX
 ·have hne : k ≠ b:=fun e=>by subst e; rw [ha.gh] at hk; cases hk
  rw [QU k (h.imm.lt hk) hne]; exact h.imm k o hk
 ·rw [QU p.1 (h.ownLt hp) (ha.own i p hp)]; exact h.own i p hp
abbrev Zpb (P : Program) (K E : TypeId) (w : World) (b n : Nat) (D : DataW Unit) : Prop:=w.ownsMap P K (plainElem P E) b n D
theorem ZbR {t : TypeId} (K E : TypeId) (hS : St w0 X G0 G L w) (hw : Region.wanted ⟨some d, .makeMap t none,ty,pos,af,g⟩ (Zv ops ρ) = true)
  (k : ∀ b w',Zpb P K E w' b 0 (.map []) → Apart w0 G L b → St w0 X G0 G L w' → KK (ZB ρ d (.map (some b))) w') : OW P ops ⟨some d, .makeMap t none,ty,pos,af,g⟩ ρ w KK:=by
 refine WL.val (v:= .map (some w.heap.size)) (w':=w.alloc (.map #[] 0)) hw ?_ rfl (k _ _ (World.ownsMap_made w P K _) ⟨h1,hS.imm.fresh (Nat.le_refl _),fun i p hp e=>?_⟩ ?_)
 ·simp [execOp,run_makeMap,Result.andThen]
 ·have:=hS.ownLt hp; omega
 ·exact hS.call (Res.alloc hS.imm _)
where h1:=hS.kept.size
theorem XW {t K E : TypeId} {m x y : Operand} {n : Nat} {D : DataW Unit} (ki vi : Int) (hS : St w0 X G0 G L w) (ho : Zpb P K E w b n D) (ha : Apart w0 G L b) (ht : P.underlying t = some (.map K E)) (uK : P.underlying K = some (.int .i64)) (uE : P.underlying E = some (.int .i64))
  (hk : Z0 ki) (hv : Z0 vi) (hn : n < 1000) (hw : Region.wanted ⟨none, .insert t m x y,ty,pos,af,g⟩ (Zv ops ρ) = true) (hm : ev ρ m = .map (some b)) (hx : ev ρ x = .int .i64 ki) (hy : ev ρ y = .int .i64 vi)
  (k : ∀ w',Zpb P K E w' b (n + 1) (D.put (.int .i64 ki) (.lit (.int .i64 vi))) → St w0 X G0 G L w' → KK ρ w') : OW P ops ⟨none, .insert t m x y,ty,pos,af,g⟩ ρ w KK:=by
 have wf : ∀ {z : Int},Z0 z → (Lit.int .i64 z).wf = true:=fun {z} h=>by
  simp [Lit.wf,IntKind.min,IntKind.max,IntKind.signed,IntKind.bits]; exact ⟨h.1,by have:=h.2; omega⟩
 have hkey : keyOf P K (.int .i64 ki) = some (.int .i64 ki):=by unfold keyOf; rw [uK]; simp [mapKey,uK,wf hk]
 obtain ⟨w',hrun,ho',hg,hdr⟩:=ZeU ho (int_keyed uK) ht (by simp [maxLen]; omega) hkey (plainElem_int uE (wf hv))
 have:=k w' ho' (hS.grown ha hg hdr)
 exact Zlq (w':=w') hw (by simp [execOp,hm,hx,hy,hrun,Result.andThen]) rfl this
theorem Zd5 {t K E : TypeId} {m x : Operand} {n : Nat} {D : DataW Unit} (ki : Int) (ho : Zpb P K E w b n D) (ht : P.underlying t = some (.map K E)) (uK : P.underlying K = some (.int .i64)) (uE : P.underlying E = some (.int .i64))
  (hk : Z0 ki) (hz : (zeroValue E).run P w = .ok (.int .i64 0) w) (hw : Region.wanted ⟨some d, .lookup t m x false,ty,pos,af,g⟩ (Zv ops ρ) = true) (hm : ev ρ m = .map (some b)) (hx : ev ρ x = .int .i64 ki)
  (k : ∀ c,D.atKey (.int .i64 ki) (.lit (.int .i64 0)) = .lit (.int .i64 c) → KK (ZB ρ d (.int .i64 c)) w) : OW P ops ⟨some d, .lookup t m x false,ty,pos,af,g⟩ ρ w KK:=by
 have wf : (Lit.int .i64 ki).wf = true:=by
  simp [Lit.wf,IntKind.min,IntKind.max,IntKind.signed,IntKind.bits]; exact ⟨hk.1,by have:=hk.2; omega⟩
 have hkey : keyOf P K (.int .i64 ki) = some (.int .i64 ki):=by unfold keyOf; rw [uK]; simp [mapKey,uK,wf]
 obtain ⟨c,hrun,hat,_⟩:=World.ownsMap.lookup_int ho (int_keyed uK) ht uE hz hkey
 refine WL.val hw ?_ rfl (k c hat)
 simp [execOp,hm,hx,hrun,Result.andThen]
end
theorem Zen {c : Cond} (hk : c.kind = 1 ∨ c.kind = 2) (h : (SCmp.b .eql c.oth [] != Z4 c.v) = true) : ZU c = false:=by
 have h1 : Yu c = true:=by unfold Yu; rcases hk with h | h <;> rw [h] <;> rfl
 unfold ZU
 rw [h1]
 simp only [SCmp.b] at h
 by_cases g : c.oth = []
 ·rw [decide_eq_true g] at h ⊢
  cases hv : Z4 c.v with
  | true=>rw [hv] at h; cases h
  | false=>simp
 ·rw [decide_eq_false g] at h ⊢
  have hv : Z4 c.v = true:=by cases hv : Z4 c.v with | true=>rfl | false=>rw [hv] at h; cases h
  have hz : c.v ≠ zeroV:=fun e=>by rw [e] at hv; exact absurd hv (by decide)
  rw [decide_eq_false hz]; simp
theorem ZnJ {c : Cond} (hk : c.kind = 1 ∨ c.kind = 2) (hc : c.col ≠ []) (ho : c.oth = []) (hb : (SCmp.b .eql c.oth [] != Z4 c.v) = false) : ZU c = decide ((c.l.length : Int) = 0):=by
 have h1 : Yu c = true:=by unfold Yu; rcases hk with h | h <;> rw [h] <;> rfl
 simp only [SCmp.b] at hb
 rw [decide_eq_true ho] at hb
 have hv : Z4 c.v = true:=by cases hv : Z4 c.v with | true=>rfl | false=>rw [hv] at hb; cases hb
 unfold ZU; rw [h1,decide_eq_false hc,decide_eq_true ho,hv]
 rw [Bool.eq_iff_iff]; simp
theorem ZnK {c : Cond} (hk : c.kind = 1 ∨ c.kind = 2) (hc : c.col ≠ []) (ho : c.oth ≠ []) (hv : c.v = zeroV) : ZU c = decide ((c.l.length : Int) = 0):=by
 have h1 : Yu c = true:=by unfold Yu; rcases hk with h | h <;> rw [h] <;> rfl
 unfold ZU; rw [h1,decide_eq_false hc,decide_eq_false ho,decide_eq_true hv]
 rw [Bool.eq_iff_iff]; simp
theorem ZgQ {c : Cond} {op : Int} (hk : c.kind = 3 ∨ c.kind = 4 ∨ c.kind = 5 ∨ c.kind = 6) (h1 : c.col = []) (h2 : c.oth = []) (h3 : c.v = zeroV) (h : op = (Y9 c.kind : Int)) : ZU c = decide ((c.l.length : Int) = op):=by
 have g1 : Yu c = false:=by unfold Yu; rw [decide_eq_false (by omega),decide_eq_false (by omega)]; rfl
 have g2 : X5 c = true:=by unfold X5; rcases hk with h | h | h | h <;> rw [h] <;> rfl
 unfold ZU; rw [g1,g2,decide_eq_true h1,decide_eq_true h2,decide_eq_true h3,h]
 rw [Bool.eq_iff_iff]; simp; omega
def Zeo : DataW Unit:=(((DataW.map []).put (.int .i64 4) (.lit (.int .i64 1))).put (.int .i64 5) (.lit (.int .i64 2))).put (.int .i64 6) (.lit (.int .i64 2))
theorem Zxz {k c : Int} (h : k = 3) (hat : Zeo.atKey (.int .i64 k) (.lit (.int .i64 0)) = .lit (.int .i64 c)) : c = (Y9 k : Int):=by
 subst h
 have e : Zeo.atKey (.int .i64 3) (.lit (.int .i64 0)) = .lit (.int .i64 0):=by rfl
 rw [e] at hat; injection hat with h1; injection h1 with _ h2; rw [← h2]; rfl
theorem Zx0 {k c : Int} (h : k = 4) (hat : Zeo.atKey (.int .i64 k) (.lit (.int .i64 0)) = .lit (.int .i64 c)) : c = (Y9 k : Int):=by
 subst h
 have e : Zeo.atKey (.int .i64 4) (.lit (.int .i64 0)) = .lit (.int .i64 1):=by rfl
 rw [e] at hat; injection hat with h1; injection h1 with _ h2; rw [← h2]; rfl
theorem Zx1 {k c : Int} (h : k = 5) (hat : Zeo.atKey (.int .i64 k) (.lit (.int .i64 0)) = .lit (.int .i64 c)) : c = (Y9 k : Int):=by
 subst h
 have e : Zeo.atKey (.int .i64 5) (.lit (.int .i64 0)) = .lit (.int .i64 2):=by rfl
 rw [e] at hat; injection hat with h1; injection h1 with _ h2; rw [← h2]; rfl
theorem Zx2 {k c : Int} (h : k = 6) (hat : Zeo.atKey (.int .i64 k) (.lit (.int .i64 0)) = .lit (.int .i64 c)) : c = (Y9 k : Int):=by
 subst h
 have e : Zeo.atKey (.int .i64 6) (.lit (.int .i64 0)) = .lit (.int .i64 2):=by rfl
 rw [e] at hat; injection hat with h1; injection h1 with _ h2; rw [← h2]; rfl
end Go.Civ
set_option linter.unusedVariables false
namespace Go.Civ
open Go.Proofs Go.Shelf Go.RowKit Go.Lib Go.Sort
abbrev BSpan:={ s : Span // -4398046511104 ≤ s.a ∧ s.a ≤ 4398046511104 }
instance : Inhabited BSpan:=⟨⟨⟨0,0⟩,by decide⟩⟩
def Zc5 (x : BSpan) : List Value:=[.int .i64 x.1.a, .int .i64 x.1.b]
def cfB (x y : BSpan) : Int:=x.1.a - y.1.a
set_option maxHeartbeats 1000000 in
theorem Zpk (x y : BSpan) (W : World) : Calls Tryz.prog 190 #[.agg #[.int .i64 x.1.a, .int .i64 x.1.b], .agg #[.int .i64 y.1.a, .int .i64 y.1.b]] W fun e w'=>e = .returned (.int .i64 (cfB x y)) ∧ ∃ q os',w' = grow (W.drewN q) os':=by
 obtain ⟨⟨xa,xb⟩,hx⟩:=x
 obtain ⟨⟨ya,yb⟩,hy⟩:=y
 simp only [cfB]
 have hw : IntKind.wrap .i64 (xa - ya) = xa - ya:=ZeH ⟨by simp at hx hy; omega,by simp at hx hy; omega⟩
 go_enter Tryz.func190,Tryz.ntmps190
 go_wp2
 go_ret
 exact ⟨rfl,0,_,by rw [alloc_eq_grow,alloc_eq_grow,grow_grow]; rfl⟩
theorem Z0f : SWO (ltOf cfB) where
 irrefl x:=decide_eq_false (show ¬ x.1.a - x.1.a < 0 by omega)
 trans x y z h1 h2:=by
  have h1' : x.1.a - y.1.a < 0:=of_decide_eq_true h1
  have h2' : y.1.a - z.1.a < 0:=of_decide_eq_true h2
  exact decide_eq_true (show x.1.a - z.1.a < 0 by omega)
 ntrans x y z h1 h2:=by
  have h1' : ¬ x.1.a - y.1.a < 0:=of_decide_eq_false h1
  have h2' : ¬ y.1.a - z.1.a < 0:=of_decide_eq_false h2
  exact decide_eq_false (show ¬ x.1.a - z.1.a < 0 by omega)
theorem Zmw {α : Type} (enc : α → List Value) (h2 : ∀ x,(enc x).length = 2) : ∀ (l : List α) (t : Nat),(l.flatMap enc)[t]? = (l[t / 2]?).bind fun x=>(enc x)[t % 2]?
 | [],t=>by simp
 | x :: l,t=>by
  rw [List.flatMap_cons,List.getElem?_append]
  by_cases ht : t < 2
  ·rw [if_pos (by rw [h2]; exact ht),show t / 2 = 0 by omega,Nat.mod_eq_of_lt ht]; rfl
  ·rw [if_neg (by rw [h2]; exact ht),h2,Zmw enc h2 l (t - 2),show (t - 2) / 2 = t / 2 - 1 by omega,show (t - 2) % 2 = t % 2 by omega]
   obtain ⟨m,hm⟩ : ∃ m,t / 2 = m + 1:=⟨t / 2 - 1,by omega⟩
   rw [hm]; simp
theorem Zmx {α : Type} [Inhabited α] (enc : α → List Value) (h2 : ∀ x,(enc x).length = 2) (d : Array α) (t : Nat) (ht : t < d.size * 2) : (d.toList.flatMap enc)[t]? = some ((flatK enc 2 d)[t]!):=by
 rw [Zmw enc h2,get_flatK enc 2 d t ht]
 have hd : t / 2 < d.size:=by omega
 have e : d.toList[t / 2]? = some d[t / 2]! :=by
  rw [getElem!_pos d (t / 2) hd,Array.getElem?_toList,Array.getElem?_eq_getElem hd]
 rw [e]
 simp only [Option.bind_some]
 have hl : t % 2 < (enc d[t / 2]!).length:=by rw [h2]; omega
 rw [List.getElem?_eq_getElem hl,getElem!_pos (enc d[t / 2]!) (t % 2) hl]
theorem ZhJ {G : GH} : ∀ (l : List BSpan),(∀ x ∈ l,Z0 x.1.b) → XA SpanE G (l.map (·.1)) (l.flatMap Zc5)
 | [],_=>rfl
 | x :: l,h=>⟨Zc5 x,l.flatMap Zc5,rfl,Z1 x.1 ⟨by have:=x.2; omega,by have:=x.2; omega⟩ (h x (by simp)),ZhJ l fun y hy=>h y (by simp [hy])⟩
theorem ZiG {G : GH} : ∀ (l : List BSpan) (xs : List Value),XA SpanE G (l.map (·.1)) xs → xs = l.flatMap Zc5 ∧ ∀ x ∈ l,Z0 x.1.b
 | [],xs,h=>⟨h,by simp⟩
 | x :: l,xs,⟨c,r,h1,h2,h3⟩=>by
  obtain ⟨rfl,_,hb⟩:=ZI h2
  obtain ⟨rfl,h4⟩:=ZiG l r h3
  refine ⟨h1,fun y hy=>?_⟩
  rcases List.mem_cons.1 hy with rfl | hy
  ·exact hb
  ·exact h4 y hy
theorem Zhu : ∀ (l : List Span),(∀ s ∈ l, -4398046511104 ≤ s.a ∧ s.a ≤ 4398046511104) → ∃ d : List BSpan,d.map (·.1) = l
 | [],_=>⟨[],rfl⟩
 | s :: l,h=>by
  obtain ⟨d,hd⟩:=Zhu l fun x hx=>h x (by simp [hx])
  exact ⟨⟨s,h s (by simp)⟩ :: d,by simp [hd]⟩
set_option maxHeartbeats 1000000 in
theorem ZvQ {G : GH} {w : World} (hG : G.In w) (l : List Span) (vd : Value) (od : OB) (hvd : ZS SpanE 16 (nat_lit 33) G vd l od) (hod : XP w G od) (hB : ∀ s ∈ l, -4398046511104 ≤ s.a ∧ s.a ≤ 4398046511104) :
  Calls Tryz.prog (nat_lit 189) #[vd, .func (.func 190) #[] #[]] w fun e w'=>∃ r G',e = .returned r ∧ Res (QU od) w G w' G' ∧ r = .tuple #[] ∧ ∃ (l' : List Span) (o' : OB),ZS SpanE 16 (nat_lit 33) G' vd l' o' ∧ XP w' G' o' ∧ (l'.Perm l ∧ Zsq l'):=by
 rcases hvd with ⟨rfl,rfl,rfl⟩ | ⟨b,cs,cap,xs,rfl,rfl,h3,h4,h5,h6,h7,h8,h9⟩
 ·exact (AnyF.slices_SortFunc_none (P:=Tryz.prog) (ρ:=Tryz.sortSp_ren) { Tryz.sortSp with } none 0 (.func (.func 190) #[] #[]) w).mono fun e w' ⟨he,hw⟩=>by
   subst hw
   exact ⟨_,G,he,Res.refl hG,rfl,[],none, .inl ⟨rfl,rfl,rfl⟩,fun p hp=>(by cases hp),List.Perm.refl _,List.Pairwise.nil⟩
 ·obtain ⟨hb1,hb2⟩:=hod _ rfl
  obtain ⟨dl,rfl⟩:=Zhu l hB
  obtain ⟨rfl,hI⟩:=ZiG dl xs h6
  have hsz : dl.toArray.size = (dl.map (·.1)).length:=by simp
  have hcell : ∀ t,t < dl.toArray.size * 2 → cs[t]? = some ((flatK Zc5 2 dl.toArray)[t]!):=fun t ht=>by
   rw [← Zmx Zc5 (fun _=>rfl) dl.toArray t ht]
   rw [← h7,List.getElem?_take,if_pos (by rw [← hsz]; exact ht)]
  have hH : HoldsK Zc5 2 w b 0 dl.toArray:=fun t ht=>by
   rw [size_flatK] at ht
   refine ⟨?_,?_⟩
   ·rw [Nat.zero_add]
    simp only [World.cell?,hb1,Zbb]
    have:=hcell t ht
    simpa using this
   ·simp [World.frozen?,hb1,Zbb]
  have hcon:=AnyQ.slices_SortFunc Tryz.sortSp 2 Tryz.isAgg33 Tryz.sizeOf33 Zc5 (fun _=>rfl) (fun x v hv=>by simp [Zc5] at hv; rcases hv with rfl | rfl <;> rfl) cfB Z0f 190 #[] b 0 cap dl.toArray w
   (enters_of Tryz.func190 (by kernel_rfl) rfl) (fun _ _ _ _ x y=>Zpk x y _) hH (Array.getElem?_eq_some_iff.1 hb1).1 (by rw [hsz]; unfold reach at h9; omega)
  rw [hsz] at hcon
  refine hcon.mono fun e w' ⟨he,d',n,os,hp,hs,hw⟩=>?_
  obtain ⟨hp1,hp2,hp3⟩:=hp
  have hd' : d'.size = dl.length:=by simpa using hp1
  have hperm : d'.toList.Perm dl:=by
   have e1 : d'.extract 0 dl.toArray.size = d':=by rw [← hp1]; simp
   have e2 : dl.toArray.extract 0 dl.toArray.size = dl.toArray:=by simp
   rw [hsz.symm,e1,e2] at hp3; simpa using hp3
  have hbl : b < w.heap.size:=(Array.getElem?_eq_some_iff.1 hb1).1
  subst hw
  obtain ⟨cs',hcs'⟩ : ∃ cs' : List Value,cs' = (putCells id 0 (flatK Zc5 2 d') cs.toArray).toList:=⟨_,rfl⟩
  have hget : ∀ k,(sortWorldK Zc5 2 w b 0 n d' os).heap[k]? = if k < w.heap.size then (if b = k then some (.cells cs'.toArray (nat_lit 33) (0,0)) else w.heap[k]?) else os[k - w.heap.size]? :=fun k=>by
   have hah : (Go.Sort.ahead w n).heap = w.heap:=rfl
   simp only [sortWorldK,putRowK,putRow,mapBlock,grow,hah]
   rw [Array.getElem?_append]
   simp only [Array.size_modify]
   by_cases hk : k < w.heap.size
   ·rw [if_pos hk,if_pos hk,Array.getElem?_modify]
    by_cases hkb : b = k
    ·subst hkb
     rw [if_pos rfl,if_pos rfl,hb1]
     simp [Zbb,onCells,hcs']
    ·rw [if_neg hkb,if_neg hkb]
   ·rw [if_neg hk,if_neg hk]
  have hres : Res [b] w G (sortWorldK Zc5 2 w b 0 n d' os) G:=by
   refine ⟨⟨rfl,rfl,rfl,Nat.le_add_right _ _,?_,fun k hk hkb=>?_⟩,G.le_refl,fun _ _=>rfl,fun k o hk=>?_⟩
   ·have hah : (Go.Sort.ahead w n).heap = w.heap:=rfl
    simp [sortWorldK,putRowK,putRow,mapBlock,grow]
    try simp [hah]
   ·rw [hget,if_pos hk,if_neg (by simpa [eq_comm] using hkb)]
   ·have hk1:=hG.lt hk
    have hkb : b ≠ k:=fun e=>by subst e; simp only at hb2; rw [hb2] at hk; cases hk
    rw [hget,if_pos hk1,if_neg hkb]; exact hG k o hk
  have hI' : ∀ x ∈ d'.toList,Z0 x.1.b:=fun x hx=>hI x (hperm.mem_iff.1 hx)
  have hlen : (d'.toList.map (·.1)).length = (dl.map (·.1)).length:=by simp [hd']
  have hln : (dl.map (·.1)).length = dl.length:=by simp
  refine ⟨_,G,he,hres,rfl,d'.toList.map (·.1),some (b,nat_lit 33,cs'), .inr ⟨b,cs',cap,d'.toList.flatMap Zc5,rfl,by rw [hlen],by rw [hlen]; exact h3,h4,?_,ZhJ _ hI',?_,by rw [hlen]; exact h8,by rw [hlen]; exact h9⟩,fun p hp=>?_,?_,?_⟩
  ·subst hcs'; simpa [putCells] using h5
  ·
   have h5' : cs.length = cap * 2:=h5
   apply List.ext_getElem?
   intro t
   rw [List.getElem?_take]
   have hn2 : (d'.toList.map (·.1)).length * SpanE.n = d'.size * 2:=by simp; rfl
   rw [hn2]
   by_cases ht : t < d'.size * 2
   ·have htc : t < cs.length:=by rw [h5']; rw [hln] at h3; omega
    rw [if_pos ht,Zmx Zc5 (fun _=>rfl) d' t ht,hcs']
    simp only [putCells,Array.getElem?_toList,Array.getElem?_mapIdx,size_flatK]
    simp only [List.getElem?_toArray]
    rw [List.getElem?_eq_getElem htc]
    simp [ht]
   ·rw [if_neg ht,List.getElem?_eq_none]
    have:=XA.len (ZhJ (G:=G) d'.toList hI')
    omega
  ·obtain rfl:=Option.some.inj hp
   exact ⟨by rw [hget,if_pos hbl,if_pos rfl]; rfl,hb2⟩
  ·exact hperm.map _
  ·unfold Zsq
   rw [List.pairwise_map,List.pairwise_iff_getElem]
   intro i j hi hj hij
   have h:=hs i j (by omega) hij (by rw [← hsz,← hp1]; simpa using hj)
   have hi' : i < d'.size:=by simpa using hi
   have hj' : j < d'.size:=by simpa using hj
   rw [getElem!_pos d' i hi',getElem!_pos d' j hj'] at h
   have:=of_decide_eq_false h
   simp only [cfB] at this
   simp only [Array.getElem_toList]
   omega
end Go.Civ
