/- Lemmas. -/
import Derived.Test.YthgeclodflmiaaaGreatD19
import Derived.Test.YthgeclodflmiaaaGreatD22
import Derived.Test.YthgeclodflmiaaaGreatD26
import Derived.Test.YthgeclodflmiaaaGreatD30
import Derived.Test.YthgeclodflmiaaaGreatD34
import Derived.Test.YthgeclodflmiaaaGreatD35
import Derived.Test.YthgeclodflmiaaaGreatD36
import Derived.Test.YthgeclodflmiaaaGreatProg
import Derived.KernelRfl
import Derived.WalkKit
set_option linter.unusedVariables false
set_option linter.unusedSimpArgs false
set_option maxRecDepth 100000
set_option maxHeartbeats 4000000
namespace Go.Civ
open Go.Proofs
theorem ZtR {G : GH} {w : World} (hG : G.In w) (a b : List HRow) (va : Value) (hva : Sl HRowE 56 G va a) (vb : Value) (hvb : Sl HRowE 56 G vb b) : CL Tryz.prog (nat_lit 21) #[va,vb] [] w G fun _ _ r=>r = .bool (decide (a = b)):=by
 refine Zh ft [7] Tryz.func21 U U ?_
 have hS:=St.start (X:=[]) hG
 have V1:=hva.bound
 refine Zl hva Yn U U ?_
 have V2:=hvb.bound
 refine Zl hvb Yn U U ?_
 refine Yr (a.length : Int) (b.length : Int) U U U (fun h1=>?_) (fun h1=>?_)
 ·exact RB hS U (by rw [← XE]; first | exact (Qa (by omega)).symm | exact (Q6 (f:=fun (x y : HRow)=>decide (x = y)) ‹_› ‹_› (decide_eq_false (by rintro rfl; first | exact absurd U ‹_› | simp_all))).symm | exact (Qr (by omega) ‹_› (by omega)).symm)
 refine LP.go ft [7] (fun m ρ1 w1=>∃ (k1 : Nat),∃ (G1 : GH),m = a.length - k1 ∧ G.le G1 ∧ St w [] G G1 [] w1 ∧ FR ρ1 [(0,va),(1,vb),(5,S (k1 : Int))] ∧ k1 ≤ a.length ∧ ∀ j,j < k1 → ∀ x y,a[j]? = some x → b[j]? = some y → decide (x = y) = true) _ ⟨0,G,U,(G.le_refl),hS,⟨U,U,U,trivial⟩,(by omega),(by intro j hj; omega)⟩ ?_
 rintro m ρ1 w1 ⟨k1,G1,rfl,L1,S1,F9,f1,f2⟩
 refine F9.set ?_
 clear F9
 have V3:=hva.bound
 refine Zl (hva.mono L1) Yn U U ?_
 refine Zp (k1 : Int) (a.length : Int) U U U (fun h2=>?_) (fun h2=>?_)
 ·refine JN.go ft [7] (fun ρ1 w1=>∃ (x9 : HRow),∃ (y9 : HRow),∃ (q6 : Addr),∃ (q7 : Addr),∃ (u6 : Value),∃ (u7 : Value),∃ (G2 : GH),G1.le G2 ∧ St w [] G G2 [] w1 ∧ FR ρ1 [(0,va),(1,vb),(5,S (k1 : Int)),(6,Zs q6),(7,Zs q7)] ∧ a[k1]? = some x9 ∧ b[k1]? = some y9 ∧ XC G2 q6 [u6,S x9.r.d.a,S x9.r.d.b,S x9.r.x.a,S x9.r.x.b] ∧ Sl ValE 32 G2 u6 x9.v ∧ XC G2 q7 [u7,S y9.r.d.a,S y9.r.d.b,S y9.r.x.a,S y9.r.x.b] ∧ Sl ValE 32 G2 u7 y9.v) ?_ ?_
  ·obtain ⟨p1,x1,U1,E1,W1⟩:=Sl.at (hva.mono L1) k1 (by omega)
   obtain ⟨D1,C1,R1⟩:=E1
   obtain ⟨v1,rfl,A1,B1,B2,B3,B4⟩:=Z7 R1
   obtain ⟨p2,x2,U2,E2,W2⟩:=Sl.at (hvb.mono L1) k1 (by omega)
   obtain ⟨D2,C2,R2⟩:=E2
   obtain ⟨v2,rfl,A2,B5,B6,B7,B8⟩:=Z7 R2
   refine drT [8,9,10,11] [(21,Zs p1),(22, .agg #[v1,S x1.r.d.a,S x1.r.d.b,S x1.r.x.a,S x1.r.x.b]),(25,Zs p2),(26, .agg #[v2,S x2.r.d.a,S x2.r.d.b,S x2.r.x.a,S x2.r.x.b])] S1 ⟨fun _=>Zg k1 W1 Yn Zz U U U U <| nu U U,fun _ hSw=>Zb hSw C1 [v1,S x1.r.d.a,S x1.r.d.b,S x1.r.x.a,S x1.r.x.b] Zz U U U U U <| nu U U,fun _=>Zg k1 W2 Yn Zz U U U U <| nu U U,fun _ hSw=>Zb hSw C2 [v2,S x2.r.d.a,S x2.r.d.b,S x2.r.x.a,S x2.r.x.b] Zz U U U U U <| nu U U,trivial⟩ (fun w3 S3=>?_)
   refine TG.fork 3 [8,9,10,11] [8,9] U U (by decide) (by decide) (TA.cons U ?_ (TA.cons U ?_ TA.nil))
   ·refine WL.alloc S3 Zz U U (fun b1 w4 N1 S4=>?_)
    refine ⟨fun _=>S4.tail.down S3.le (G1.le_refl),?_⟩
    refine TG.fork 2 [9,10,11] [9] U U (by decide) (by decide) (TA.cons U ?_ TA.nil)
    refine WL.alloc S4 Zz U U (fun b2 w5 N2 S5=>?_)
    refine ⟨fun _=>S5.tail.tail.down S3.le (G1.le_refl),?_⟩
    refine TG.fork 1 [10,11] [10] U U (by decide) (by decide) (TA.cons U ?_ TA.nil)
    refine Zi S5 1 [v1,S x1.r.d.a,S x1.r.d.b,S x1.r.x.a,S x1.r.x.b] U U Zz U U (by simp only [ZA,A1.oneC] <;> rfl) U U U (fun w6 S6=>?_)
    obtain ⟨G3,L3,C3,S7⟩:=S6.sealAt 1 U N1
    refine ⟨fun _=>S7.tail.tail.down S3.le L3,?_⟩
    refine TG.fork 0 [11] [11] U U (by decide) (by decide) (TA.cons U ?_ TA.nil)
    refine Zi S7 0 [v2,S x2.r.d.a,S x2.r.d.b,S x2.r.x.a,S x2.r.x.b] U U Zz U U (by simp only [ZA,(A2.mono L3).oneC] <;> rfl) U U U (fun w7 S8=>?_)
    obtain ⟨G4,L4,C4,S9⟩:=S8.shutB N2
    refine ⟨fun h=>absurd h (by decide),?_⟩
    refine TG.fin U ?_
    have S10:=S9.tail
    have j1:=(L3.trans L4)
    exact ⟨x1,x2,(⟨b1,0,none⟩ : Addr),(⟨b2,0,none⟩ : Addr),v1,v2,G4,j1,S10,(Zq U),(U1),(U2),((C3.mono L4)),((A1.mono j1)),(C4),((A2.mono j1))⟩
   refine WL.alloc S3 Zz U U (fun b3 w9 N3 S11=>?_)
   refine ⟨fun _=>S11.tail.down S3.le (G1.le_refl),?_⟩
   refine TG.fork 2 [8,10,11] [8] U U (by decide) (by decide) (TA.cons U ?_ TA.nil)
   refine WL.alloc S11 Zz U U (fun b4 w10 N4 S12=>?_)
   refine ⟨fun _=>S12.tail.tail.down S3.le (G1.le_refl),?_⟩
   refine TG.fork 1 [10,11] [10] U U (by decide) (by decide) (TA.cons U ?_ TA.nil)
   refine Zi S12 0 [v1,S x1.r.d.a,S x1.r.d.b,S x1.r.x.a,S x1.r.x.b] U U Zz U U (by simp only [ZA,A1.oneC] <;> rfl) U U U (fun w11 S13=>?_)
   obtain ⟨G5,L5,C5,S14⟩:=S13.shutB N4
   refine ⟨fun _=>S14.tail.down S3.le L5,?_⟩
   refine TG.fork 0 [11] [11] U U (by decide) (by decide) (TA.cons U ?_ TA.nil)
   refine Zi S14 0 [v2,S x2.r.d.a,S x2.r.d.b,S x2.r.x.a,S x2.r.x.b] U U Zz U U (by simp only [ZA,(A2.mono L5).oneC] <;> rfl) U U U (fun w12 S15=>?_)
   obtain ⟨G6,L6,C6,S16⟩:=S15.shutB N3
   refine ⟨fun h=>absurd h (by decide),?_⟩
   refine TG.fin U ?_
   have j2:=(L5.trans L6)
   exact ⟨x1,x2,(⟨b4,0,none⟩ : Addr),(⟨b3,0,none⟩ : Addr),v1,v2,G6,j2,S16,(Zq U),(U1),(U2),((C5.mono L6)),((A1.mono j2)),(C6),((A2.mono j2))⟩
  rintro ρ1 w2 ⟨x9,y9,q6,q7,u6,u7,G2,L2,S2,F9,f3,f4,f5,f6,f7,f8⟩
  refine F9.set ?_
  refine Z S2 (XC.drop 0 f5) ZK U U U <| Z S2 (XC.drop 0 f7) ZK U U U ?_
  refine Zr S2 ZsF U U U (Zma S2.imm x9.v y9.v _ f6 _ f8) (fun w13 G7 S17 L7=>?_)
  refine WL.split (fun (h3 : (decide (x9.v = y9.v)) = true)=>?_) (fun (h3 : (decide (x9.v = y9.v)) = false)=>?_)
  ·refine Z S17 (XC.drop 0 (XC.drop 0 (XC.drop 1 (f5.mono L7)))) Zt U U U <| Z S17 (XC.drop 0 (XC.drop 0 (XC.drop 1 (f7.mono L7)))) Zt U U U ?_
   refine Yr x9.r.d.a y9.r.d.a U U U (fun h4=>?_) (fun h4=>?_)
   ·exact RB S17 U (by rw [← XE]; first | exact (Qa (by omega)).symm | exact (Q6 (f:=fun (x y : HRow)=>decide (x = y)) ‹_› ‹_› (decide_eq_false (by rintro rfl; first | exact absurd U ‹_› | simp_all))).symm | exact (Qr (by omega) ‹_› (by omega)).symm)
   refine Z S17 (XC.drop 1 (XC.drop 0 (XC.drop 1 (f5.mono L7)))) Zt U U U <| Z S17 (XC.drop 1 (XC.drop 0 (XC.drop 1 (f7.mono L7)))) Zt U U U ?_
   refine Yr x9.r.d.b y9.r.d.b U U U (fun h5=>?_) (fun h5=>?_)
   ·exact RB S17 U (by rw [← XE]; first | exact (Qa (by omega)).symm | exact (Q6 (f:=fun (x y : HRow)=>decide (x = y)) ‹_› ‹_› (decide_eq_false (by rintro rfl; first | exact absurd U ‹_› | simp_all))).symm | exact (Qr (by omega) ‹_› (by omega)).symm)
   refine Z S17 (XC.drop 0 (XC.drop 2 (XC.drop 1 (f5.mono L7)))) Zt U U U <| Z S17 (XC.drop 0 (XC.drop 2 (XC.drop 1 (f7.mono L7)))) Zt U U U ?_
   refine Yr x9.r.x.a y9.r.x.a U U U (fun h6=>?_) (fun h6=>?_)
   ·exact RB S17 U (by rw [← XE]; first | exact (Qa (by omega)).symm | exact (Q6 (f:=fun (x y : HRow)=>decide (x = y)) ‹_› ‹_› (decide_eq_false (by rintro rfl; first | exact absurd U ‹_› | simp_all))).symm | exact (Qr (by omega) ‹_› (by omega)).symm)
   refine Z S17 (XC.drop 1 (XC.drop 2 (XC.drop 1 (f5.mono L7)))) Zt U U U <| Z S17 (XC.drop 1 (XC.drop 2 (XC.drop 1 (f7.mono L7)))) Zt U U U ?_
   refine Yr x9.r.x.b y9.r.x.b U U U (fun h7=>?_) (fun h7=>?_)
   ·exact RB S17 U (by rw [← XE]; first | exact (Qa (by omega)).symm | exact (Q6 (f:=fun (x y : HRow)=>decide (x = y)) ‹_› ‹_› (decide_eq_false (by rintro rfl; first | exact absurd U ‹_› | simp_all))).symm | exact (Qr (by omega) ‹_› (by omega)).symm)
   refine Zj k1 (by have:=Zc; omega) U U U ?_
   exact BK.mk' _ ⟨k1 + 1,G7,U,(L1.trans (L2.trans L7)),S17,⟨U,U,U,trivial⟩,(by omega),(by exact QT ‹_› ‹_› ‹_› (decide_eq_true (Ztv ‹_› ‹_› ‹_› ‹_› ‹_›)))⟩ (show a.length - (k1 + 1) < a.length - k1 by omega)
  exact RB S17 U (by rw [← XE]; first | exact (Qa (by omega)).symm | exact (Q6 (f:=fun (x y : HRow)=>decide (x = y)) ‹_› ‹_› (decide_eq_false (by rintro rfl; first | exact absurd U ‹_› | simp_all))).symm | exact (Qr (by omega) ‹_› (by omega)).symm)
 exact RB S1 U (by rw [← XE]; first | exact (Qa (by omega)).symm | exact (Q6 (f:=fun (x y : HRow)=>decide (x = y)) ‹_› ‹_› (decide_eq_false (by rintro rfl; first | exact absurd U ‹_› | simp_all))).symm | exact (Qr (by omega) ‹_› (by omega)).symm)
end Go.Civ
set_option linter.unusedVariables false
set_option linter.unusedSimpArgs false
set_option maxRecDepth 100000
set_option maxHeartbeats 4000000
namespace Go.Civ
open Go.Proofs
theorem ZtS {G : GH} {w : World} (hG : G.In w) (x : HRow) (cx : List Value) (hcx : HRowE.rep G x cx) : CL Tryz.prog (nat_lit 59) #[.agg cx.toArray] [] w G fun _ _ r=>r = .bool (ZmU x):=by
 refine Zh ft [] Tryz.func59 U U ?_
 have hS:=St.start (X:=[]) hG
 obtain ⟨v1,rfl,A1,B1,B2,B3,B4⟩:=Z7 hcx
 refine Zw [v1,S x.r.d.a,S x.r.d.b,S x.r.x.a,S x.r.x.b] _ hS U U U (fun p1 w1 G1 L1 M1 C1 S1=>?_)
 refine Z S1 (XC.drop 0 C1) ZK U U U ?_
 have V1:=A1.bound
 refine Zl (A1.mono L1) Yv U U <| Yf .gtr U .i64 (x.v.length : Int) 20 U U U ?_
 exact RB S1 U (by rfl)
theorem Zob {G : GH} {w : World} (hG : G.In w) (t : Table) (ct : List Value) (hct : TableE.rep G t ct) : CL Tryz.prog (nat_lit 12) #[.agg ct.toArray] [] w G fun _ _ r=>r = .bool (Zbx t):=by
 refine Zh ft [] Tryz.func12 U U ?_
 have hS:=St.start (X:=[]) hG
 obtain ⟨v1,v2,v3,rfl,B1,A1,B2,A2,A3,B3⟩:=Zy hct
 refine Zw [Za t.s.name,v1,S t.s.key,v2,v3,S t.last] _ hS U U U (fun p1 w1 G1 L1 M1 C1 S1=>?_)
 refine Z S1 (XC.drop 4 C1) YK U U U ?_
 have V1:=A3.bound
 refine Zl (A3.mono L1) Yn U U ?_
 refine QS (t.rows.length : Int) 24 U U U (fun h1=>?_) (fun h1=>?_)
 ·refine Z S1 (XC.drop 1 (XC.drop 0 C1)) ZaY U U U ?_
  have V2:=A1.bound
  refine Zl (A1.mono L1) Qk U U ?_
  refine QS (t.s.cols.length : Int) 10 U U U (fun h2=>?_) (fun h2=>?_)
  ·refine Z S1 (XC.drop 3 (XC.drop 0 C1)) ZcK U U U ?_
   have V3:=A2.bound
   refine Zl (A2.mono L1) ZaZ U U ?_
   refine QS (t.s.fks.length : Int) 10 U U U (fun h3=>?_) (fun h3=>?_)
   ·refine Z S1 (XC.drop 4 C1) YK U U U ?_
    refine Zr S1 ZwZ U U U (Zhx S1.imm t.rows (fun x8=>ZmU x8) _ (A3.mono L1) 59 #[] ⟨ZzR,fun G8 w8 v8 x8 L8 hG8 hon8 hA8=>by obtain ⟨cs_x8,rfl,hr_x8⟩:=hA8; exact ZtS hG8 x8 cs_x8 hr_x8⟩) (fun w2 G2 S2 L2=>?_)
    exact RB S2 U (by unfold Zbx; simp_all [Cmp.b] <;> (first | omega | (intros; omega) | (rw [Bool.eq_iff_iff]; simp <;> omega) | (rw [Bool.eq_iff_iff]; simp_all <;> omega)))
   exact RB S1 U (by unfold Zbx; simp_all [Cmp.b] <;> (omega))
  exact RB S1 U (by unfold Zbx; simp_all [Cmp.b] <;> (omega))
 exact RB S1 U (by unfold Zbx; simp_all [Cmp.b] <;> (omega))
theorem Zb9 {G : GH} {w : World} (hG : G.In w) (t : Table) (ct : List Value) (hct : TableE.rep G t ct) : CL Tryz.prog (nat_lit 19) #[.agg ct.toArray] [] w G fun _ _ r=>r = .bool (ZaU t):=by
 refine Zh ft [] Tryz.func19 U U ?_
 have hS:=St.start (X:=[]) hG
 obtain ⟨v1,v2,v3,rfl,B1,A1,B2,A2,A3,B3⟩:=Zy hct
 refine Zw [Za t.s.name,v1,S t.s.key,v2,v3,S t.last] _ hS U U U (fun p1 w1 G1 L1 M1 C1 S1=>?_)
 refine Z S1 (XC.drop 0 (XC.drop 0 C1)) ZF U U U <| ZJ .eql U t.s.name [] U U U ?_
 refine WL.split (fun h0=>?_) (fun h0=>?_)
 ·have h1 : t.s.name = []:=by simpa [SCmp.b] using h0
  clear h0
  refine Z S1 (XC.drop 4 C1) YK U U U ?_
  have V1:=A3.bound
  refine Zl (A3.mono L1) Yn U U ?_
  refine ZC (t.rows.length : Int) 0 U U U (fun h2=>?_) (fun h2=>?_)
  ·refine Z S1 (XC.drop 5 C1) Zt U U U <| Yf .eql U .i64 t.last 0 U U U ?_
   exact RB S1 U (by unfold ZaU; simp_all [Cmp.b,SCmp.b] <;> ((rw [Bool.eq_iff_iff]; simp <;> omega)))
  exact RB S1 U (by unfold ZaU; simp_all [Cmp.b,SCmp.b] <;> (first | omega | (intros; omega) | (rw [Bool.eq_iff_iff]; simp <;> omega) | (rw [Bool.eq_iff_iff]; simp_all <;> omega)))
 have h1 : t.s.name ≠ []:=by simpa [SCmp.b] using h0
 clear h0
 exact RB S1 U (by unfold ZaU; simp_all [Cmp.b,SCmp.b] <;> (first | omega | (intros; omega) | (rw [Bool.eq_iff_iff]; simp <;> omega) | (rw [Bool.eq_iff_iff]; simp_all <;> omega)))
theorem Zoc {G : GH} {w : World} (hG : G.In w) (a b : Table) (ca : List Value) (hca : TableE.rep G a ca) (cb : List Value) (hcb : TableE.rep G b cb) : CL Tryz.prog (nat_lit 51) #[.agg ca.toArray, .agg cb.toArray] [] w G fun _ _ r=>r = .bool (ZfE a b):=by
 refine Zh ft [] Tryz.func51 U U ?_
 have hS:=St.start (X:=[]) hG
 obtain ⟨v1,v2,v3,rfl,B1,A1,B2,A2,A3,B3⟩:=Zy hca
 obtain ⟨v4,v5,v6,rfl,B4,A4,B5,A5,A6,B6⟩:=Zy hcb
 refine Zw [Za a.s.name,v1,S a.s.key,v2,v3,S a.last] _ hS U U U (fun p1 w1 G1 L1 M1 C1 S1=>?_)
 refine Zw [Za b.s.name,v4,S b.s.key,v5,v6,S b.last] _ S1 U U U (fun p2 w2 G2 L2 M2 C2 S2=>?_)
 refine Z S2 (XC.drop 0 (XC.drop 0 (C1.mono L2))) ZF U U U <| Z S2 (XC.drop 0 (XC.drop 0 C2)) ZF U U U <| ZJ .eql U a.s.name b.s.name U U U ?_
 refine WL.split (fun h0=>?_) (fun h0=>?_)
 ·have h1 : a.s.name = b.s.name:=by simpa [SCmp.b] using h0
  clear h0
  refine Z S2 (XC.drop 5 (C1.mono L2)) Zt U U U <| Z S2 (XC.drop 5 C2) Zt U U U ?_
  refine ZC a.last b.last U U U (fun h2=>?_) (fun h2=>?_)
  ·refine Z S2 (XC.drop 4 (C1.mono L2)) YK U U U <| Z S2 (XC.drop 4 C2) YK U U U ?_
   refine Zr S2 ZaJ U U U (ZtR S2.imm a.rows b.rows _ (A3.mono (L1.trans L2)) _ (A6.mono (L1.trans L2))) (fun w3 G3 S3 L3=>?_)
   exact RB S3 U (by unfold ZfE; simp_all [Cmp.b,SCmp.b] <;> (first | omega | (intros; omega) | (rw [Bool.eq_iff_iff]; simp <;> omega) | (rw [Bool.eq_iff_iff]; simp_all <;> omega)))
  exact RB S2 U (by unfold ZfE; simp_all [Cmp.b,SCmp.b] <;> (first | omega | (intros; omega) | (rw [Bool.eq_iff_iff]; simp <;> omega) | (rw [Bool.eq_iff_iff]; simp_all <;> omega)))
 have h1 : a.s.name ≠ b.s.name:=by simpa [SCmp.b] using h0
 clear h0
 exact RB S2 U (by unfold ZfE; simp_all [Cmp.b,SCmp.b] <;> (first | omega | (intros; omega) | (rw [Bool.eq_iff_iff]; simp <;> omega) | (rw [Bool.eq_iff_iff]; simp_all <;> omega)))
end Go.Civ
set_option linter.unusedVariables false
set_option linter.unusedSimpArgs false
set_option maxRecDepth 100000
set_option maxHeartbeats 4000000
namespace Go.Civ
open Go.Proofs
theorem Zuo {G : GH} {w : World} (hG : G.In w) (l : List Table) (vl : Value) (hvl : Sl TableE 104 G vl l) : CL Tryz.prog (nat_lit 110) #[vl] [] w G fun G' w' r=>∃ o,ZS TableE 104 (nat_lit 28) G' r l o ∧ Zff w w' G' o:=by
 refine Zh ft [] Tryz.func110 U U ?_
 have hS:=St.start (X:=[]) hG
 refine Zfg hvl Qw U U U (fun h1=>?_) ?_
 ·exact RT hS U ⟨none,ZS.cast (ZS.nil _ _ _ _) (by first | rfl | exact Eq.symm ‹_› | simp),fun _ h=>by cases h⟩
 refine WL.buildSlice _ [] [] hS Zfk U U U U (fun z hz=>by match z,hz with | [],_=>rfl) (fun b1 w1 N1 S1=>?_)
 have R1:=ZS.empty TableE 104 28 G b1
 refine YN Zfk U U U R1 S1 0 U hvl (by have:=Zc; have:=hvl.bytes; have:=hvl.bound; simp only [List.length_nil,Nat.zero_add]; omega) (by have:=Zc; have:=hvl.bytes; have:=hvl.bound; simp only [List.length_nil,Nat.zero_add]; omega) U U U (fun v1 o1 w2 R2 S2=>?_)
 exact RT S2 U ⟨_,ZS.cast R2 (by first | rfl | exact Eq.symm ‹_› | simp),S2.freshAt 0 U⟩
theorem Zse {G : GH} {w : World} (hG : G.In w) (l : List Table) (pf : Table → Bool) (vl : Value) (ol : OB) (hvl : ZS TableE 104 (nat_lit 28) G vl l ol) (hol : XP w G ol) (fid : Nat) (fcap : Array Value) (hf : FnB Tryz.prog (Is TableE) fid fcap G (fun x=>x ∈ l) pf) : CL Tryz.prog (nat_lit 45) #[vl, .func (.func fid) #[] fcap] (QU ol) w G fun G' w' r=>r = S (Qi pf l) ∧ ZS TableE 104 (nat_lit 28) G' vl l ol ∧ XP w' G' ol:=by
 refine Zh ft [] Tryz.func45 U U ?_
 have hS:=St.lentO hG hol
 have V1:=hvl.bound
 refine XH hvl Qw U U ?_
 refine LP.go ft [] (fun m ρ1 w1=>∃ (k1 : Nat),∃ (G1 : GH),m = l.length - k1 ∧ G.le G1 ∧ St w (QU ol) G G1 [ol] w1 ∧ FR ρ1 [(0,vl),(1, .func (.func fid) #[] fcap),(7,S (l.length : Int)),(8,S (k1 : Int))] ∧ k1 ≤ l.length ∧ ∀ j,j < k1 → ∀ x,l[j]? = some x → pf x = false) _ ⟨0,G,U,(G.le_refl),hS,(Zq U),(by omega),(by intro j hj; omega)⟩ ?_
 rintro m ρ1 w1 ⟨k1,G1,rfl,L1,S1,F9,f1,f2⟩
 refine F9.set ?_
 clear F9
 refine Zp (k1 : Int) (l.length : Int) U U U (fun h1=>?_) (fun h1=>?_)
 ·refine YW (hvl.mono L1) k1 (by omega) Qw Zm U U U U (fun p1 x1 ec1 U1 R1 ra1=>?_)
  obtain ⟨v1,v2,v3,rfl,B1,A1,B2,A2,A3,B3⟩:=Zy R1
  refine Zah ra1 S1 0 U Zm U U U U ?_
  refine Zr S1 hf.body U U U (hf.call _ _ (.agg #[Za x1.s.name,v1,S x1.s.key,v2,v3,S x1.last]) x1 L1 S1.imm (List.mem_of_getElem? ‹_›) ⟨_,U,(Zo x1 B1 A1 B2 A2 A3 B3)⟩) (fun w2 G2 S2 L2=>?_)
  refine WL.split (fun (h2 : (pf x1) = true)=>?_) (fun (h2 : (pf x1) = false)=>?_)
  ·exact RT S2 U ⟨congrArg (Value.int .i64) (by first | exact (QO _ ‹_› ‹_› ‹_›).symm | exact (Q2 ‹_› (by omega)).symm),(hvl.mono (L1.trans L2)),S2.lentAt 0 U⟩
  refine Zj k1 (by have:=Zc; omega) U U U ?_
  exact BK.mk' _ ⟨k1 + 1,G2,U,(L1.trans L2),S2,(Zq U),(by omega),(by exact ZW ‹_› ‹_› ‹_›)⟩ (show l.length - (k1 + 1) < l.length - k1 by omega)
 exact RT S1 U ⟨congrArg (Value.int .i64) (by first | exact (QO _ ‹_› ‹_› ‹_›).symm | exact (Q2 ‹_› (by omega)).symm),(hvl.mono L1),S1.lentAt 0 U⟩
theorem Zsf {G : GH} {w : World} (hG : G.In w) (l : List Table) (pf : Table → Bool) (vl : Value) (ol : OB) (hvl : ZS TableE 104 (nat_lit 28) G vl l ol) (hol : XP w G ol) (fid : Nat) (fcap : Array Value) (hf : FnB Tryz.prog (Is TableE) fid fcap G (fun x=>x ∈ l) pf) : CL Tryz.prog (nat_lit 109) #[vl, .func (.func fid) #[] fcap] (QU ol) w G fun G' w' r=>∃ (o' : OB),ZS TableE 104 (nat_lit 28) G' r (l.filter fun x=>!pf x) o' ∧ Zmk w w' G' ol o':=by
 refine Zh ft [] Tryz.func109 U U ?_
 have hS:=St.lentO hG hol
 refine Qe Zjm U U U (Zse hS.imm l pf _ _ hvl (hS.lentAt 0 U) fid fcap (hf.up (G.le_refl))) (fun w1 G1 r1 hres1 P1=>?_)
 have L1:=hres1.le
 obtain ⟨rfl,R1,hf1⟩:=P1
 have S2:=hS.callRow 0 U hres1 hvl R1 hf1
 refine ZC (Qi pf l) (-1) U U U (fun h1=>?_) (fun h1=>?_)
 ·exact RT S2 U ⟨_,ZS.cast R1 (by first | exact Znn ‹_› | (rw [(by assumption : i1 = (dS pf l n0 k1).2)]; exact Zsa hy0 hp0 hq0 ‹_› ‹_› (by omega))),S2.rowOut 0 U⟩
 obtain ⟨n0,N0,y0,hy0,hp0,hq0⟩:=Zwz (by assumption : Qi pf l ≠ -1)
 have hnl0:=(List.getElem?_eq_some_iff.1 hy0).1
 have hbd0:=hvl.bound
 refine Zsh (d:=5) (congrArg (Value.int .i64) N0) ?_
 refine Zj n0 (by have:=Zc; omega) U U U ?_
 refine LP.go ft [] (fun m ρ1 w1=>∃ (k1 : Nat),∃ (i1 : Nat),∃ (v1 : Value) (o1 : OB),∃ (G2 : GH),m = l.length - k1 ∧ G1.le G2 ∧ St w (QU ol) G G2 [o1] w1 ∧ ZS TableE 104 28 G2 v1 ((dS pf l n0 k1).1) o1 ∧ FR ρ1 [(0,v1),(1, .func (.func fid) #[] fcap),(5,S (i1 : Int)),(6,S (k1 : Int))] ∧ k1 ≤ l.length ∧ n0 + 1 ≤ k1 ∧ i1 = (dS pf l n0 k1).2) _ ⟨n0 + 1,n0,vl,ol,G1,U,(G1.le_refl),S2,(ZS.cast R1 (by (rw [ZjD]))),(Zq U),(by omega),(by omega),(by rw [ZjD])⟩ ?_
 rintro m ρ1 w2 ⟨k1,i1,v1,o1,G2,rfl,L2,S3,R2,F9,f1,f2,f3⟩
 refine F9.set ?_
 clear F9
 have hI9:=Znm hy0 hp0 hq0 k1 ‹_› ‹_›
 have hI1:=hI9.len
 have hI2:=hI9.lt
 have V1:=R2.bound
 refine XH R2 Qw U U ?_
 refine Zp (k1 : Int) ((((dS pf l n0 k1).1).length : Nat) : Int) U U U (fun h2=>?_) (fun h2=>?_)
 ·refine YW R2 k1 (by first | omega | (simp only [List.length_append,List.length_take,List.length_replicate]; omega)) Qw Zm U U U U (fun p1 x1 ec1 U1 R3 ra1=>?_)
  obtain ⟨v2,v3,v4,rfl,B1,A1,B2,A2,A3,B3⟩:=Zy R3
  refine Zah ra1 S3 0 U Zm U U U U ?_
  refine WL.alloc S3 Zm U U (fun b1 w3 N1 S4=>?_)
  refine Zi S4 0 [Za x1.s.name,v2,S x1.s.key,v3,v4,S x1.last] U U Zm U U (by simp only [ZA,A1.oneC,A2.oneC,A3.oneC] <;> rfl) U U U (fun w4 S5=>?_)
  obtain ⟨G3,L3,C1,S6⟩:=S5.shutB N1
  have hlk9:=Zyl hy0 hp0 hq0 (by assumption : n0 + 1 ≤ k1) (by omega) (by assumption : (dS pf l n0 k1).1[k1]? = some _)
  refine Zb S6 C1 [Za x1.s.name,v2,S x1.s.key,v3,v4,S x1.last] Zm U U U U U ?_
  refine Zr S6 hf.body U U U (hf.call _ _ (.agg #[Za x1.s.name,v2,S x1.s.key,v3,v4,S x1.last]) x1 ((L1.trans L2).trans L3) S6.imm (List.mem_of_getElem? hlk9) ⟨_,U,(Zo x1 B1 (A1.mono L3) B2 (A2.mono L3) (A3.mono L3) B3)⟩) (fun w5 G4 S7 L4=>?_)
  refine WL.split (fun (h3 : (pf x1) = true)=>?_) (fun (h3 : (pf x1) = false)=>?_)
  ·refine Zj k1 (by have:=Zc; omega) U U U ?_
   exact BK.mk' _ ⟨k1 + 1,i1,v1,o1,G4,U,(L2.trans (L3.trans L4)),S7,(ZS.cast (R2.mono (L3.trans L4)) (by (first | rw [Zjc (n:=n0) (k:=k1) ‹_› hlk9 ‹_›] | rw [Zlk (n:=n0) (k:=k1) ‹_› hlk9 ‹_›,(by assumption : i1 = (dS pf l n0 k1).2)]))),(Zq U),(by omega),(by omega),(by first | (rw [Zjc (n:=n0) (k:=k1) ‹_› hlk9 ‹_›]; assumption) | (rw [Zlk (n:=n0) (k:=k1) ‹_› hlk9 ‹_›,(by assumption : i1 = (dS pf l n0 k1).2)]))⟩ (show l.length - (k1 + 1) < l.length - k1 by omega)
  refine Zb S7 (C1.mono L4) [Za x1.s.name,v2,S x1.s.key,v3,v4,S x1.last] Zm U U U U U ?_
  have j1:=(L3.trans L4)
  refine YW (R2.mono j1) i1 (by first | omega | (simp only [List.length_append,List.length_take,List.length_replicate]; omega)) Qw Zm U U U U (fun p2 x2 ec2 U2 R4 ra2=>?_)
  obtain ⟨v5,v6,v7,rfl,B4,A4,B5,A5,A6,B6⟩:=Zy R4
  refine Zox (R2.mono j1) ra2 S7 0 U (by omega) U 0 _ [Za x1.s.name,v2,S x1.s.key,v3,v4,S x1.last] x1 [Za x1.s.name,v2,S x1.s.key,v3,v4,S x1.last] U Zm U (leT U) (by simp only [ZA,(A1.mono j1).oneC,(A2.mono j1).oneC,(A3.mono j1).oneC] <;> rfl) U (Zo x1 B1 (A1.mono j1) B2 (A2.mono j1) (A3.mono j1) B3) U U U U (fun o2 w6 R5 S8=>?_)
  refine Zj i1 (by have:=Zc; omega) U U U ?_
  refine Zj k1 (by have:=Zc; omega) U U U ?_
  exact BK.mk' _ ⟨k1 + 1,i1 + 1,v1,o2,G4,U,(L2.trans j1),S8,(ZS.cast R5 (by (first | rw [Zjc (n:=n0) (k:=k1) ‹_› hlk9 ‹_›] | rw [Zlk (n:=n0) (k:=k1) ‹_› hlk9 ‹_›,(by assumption : i1 = (dS pf l n0 k1).2)]))),(Zq U),(by omega),(by omega),(by first | (rw [Zjc (n:=n0) (k:=k1) ‹_› hlk9 ‹_›]; assumption) | (rw [Zlk (n:=n0) (k:=k1) ‹_› hlk9 ‹_›,(by assumption : i1 = (dS pf l n0 k1).2)]))⟩ (show l.length - (k1 + 1) < l.length - k1 by omega)
 refine ZkR R2 i1 (by first | omega | (simp only [List.length_append,List.length_take,List.length_replicate]; omega)) Qw Zm U U U U (fun v9 R6=>?_)
 refine ZkS R2 R6 S3 0 U (.agg #[Za [],Ze,S 0,Ze,Ze,S 0]) [Za [],Ze,S 0,Ze,Ze,S 0] Qs Qw Zm U U U Zw0 U U (fun o3 w7 R7 S9=>?_)
 refine Znl R7 i1 (by first | omega | (simp only [List.length_append,List.length_take,List.length_replicate]; omega)) Qw Zm U U U U (fun v10 R8=>?_)
 exact RT S9 U ⟨_,ZS.cast R8 (by first | exact Znn ‹_› | (rw [(by assumption : i1 = (dS pf l n0 k1).2)]; exact Zsa hy0 hp0 hq0 ‹_› ‹_› (by omega))),S9.rowOut 0 U⟩
theorem Zw3 {G : GH} {w : World} (hG : G.In w) (y : Table) (nm : List UInt8) (cols : List Col) (key : Int) (fks : List Foreign) (rows : List HRow) (last : Int) (cy : List Value) (hcy : TableE.rep G y cy) (vcl : Value) (hvcl : Sl ColE 24 G vcl cols) (vf : Value) (hvf : Sl ForeignE 40 G vf fks) (vr : Value) (hvr : Sl HRowE 56 G vr rows) (pt : Addr) (hpt : XC G pt [Za nm,vcl,S key,vf,vr,S last]) (hnm : nm.length ≤ reach) (hkey : Z0 key) (hlast : Z0 last) : CL Tryz.prog (nat_lit 111) #[.agg cy.toArray,Zs pt] [] w G fun _ _ r=>r = .bool (decide (y.s.name = nm)):=by
 refine Zh ft [] Tryz.func111 U U ?_
 have hS:=St.start (X:=[]) hG
 obtain ⟨v1,v2,v3,rfl,B1,A1,B2,A2,A3,B3⟩:=Zy hcy
 refine Zw [Za y.s.name,v1,S y.s.key,v2,v3,S y.last] _ hS U U U (fun p1 w1 G1 L1 M1 C1 S1=>?_)
 refine Z S1 (XC.drop 0 (XC.drop 0 C1)) ZF U U U <| Z S1 (XC.drop 0 (XC.drop 0 (hpt.mono L1))) ZF U U U <| ZJ .eql U y.s.name nm U U U ?_
 exact RB S1 U (by simp [SCmp.b])
end Go.Civ
