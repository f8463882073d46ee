/- Walks, printed by specs38.py. -/
import Derived.Test.YtapjalhjfblonaaProg
import Derived.KernelRfl
import Derived.WalkKit
import Derived.Test.YtapjalhjfblonaaWk
import Derived.Test.YtapjalhjfblonaaCiv31
set_option linter.unusedVariables false
set_option linter.unusedSimpArgs false
set_option maxRecDepth 100000
set_option maxHeartbeats 4000000
namespace Go.Civ
open Go.Proofs


theorem c_has1 (G : GH) (w : World) (hG : G.In w) (x v : List Val) (vx : Value) (hvx : Sl ValE 32 G vx x) (vv : Value) (hvv : Sl ValE 32 G vv v) (pv : Addr) (hpv : Cells G pv [vv])  : Calls Try.prog (nat_lit 31) #[vx, .pointer (some pv)] w fun e w' => ∃ r G', e = .returned r ∧ Res [] w G w' G' ∧ r = .bool (decide (x = v)) := by
  refine calls_of_WC (N := 7) Try.func31 rfl rfl rfl ?_
  have hS := St.start (X := []) hG
  refine WC.seq <| WC.region rfl <| WL.assign rfl <| WL.nil <| WC.seq <| WC.region rfl <| WL.move rfl ?_
  refine WL.loadG1 hS hpv ti32 rfl rfl rfl ?_
  refine WL.callF [vx, vv] #[] hF32 rfl rfl rfl ((c_Same _ _ hS.imm x v _ hvx _ hvv ).mono ?_)
  rintro e w1 ⟨r1, G1, rfl, hres1, hpost1⟩
  refine ⟨_, rfl, ?_⟩
  have hS1 := hS.call hres1
  have hle1 := hres1.le
  subst hpost1
  refine WL.assign rfl <| WL.nil ?_
  refine WC.ret ?_
  exact ⟨.bool (decide (x = v)), rfl, .bool (decide (x = v)), _, rfl, hS1.res, (congrArg Value.bool (by rfl))⟩

theorem c_has (G : GH) (w : World) (hG : G.In w) (l : List (List Val)) (v : List Val) (vl : Value) (hvl : Sl (ValE.slice 32) 24 G vl l) (vv : Value) (hvv : Sl ValE 32 G vv v)  : Calls Try.prog (nat_lit 10) #[vl, vv] w fun e w' => ∃ r G', e = .returned r ∧ Res [] w G w' G' ∧ r = .bool (l.any fun q => decide (q = v)) := by
  refine calls_of_WC (N := 8) Try.func10 rfl rfl rfl ?_
  have hS := St.start (X := []) hG
  refine WC.seq <| WC.region rfl ?_
  refine WL.boxG [vv] _ hS rfl rfl hvv.cells1 (fun p1 w1 G1 hle1 hsp1 hc1 hS1 => ?_)
  refine WL.assign rfl <| WL.nil <| WC.seq <| WC.region rfl <| WL.move rfl ?_
  refine WL.makeFunc _ rfl rfl ?_
  refine WL.callF [vl, .func (.func 31) #[] #[.pointer (some p1)]] #[] hF30 rfl rfl rfl ((c_ContainsVV _ _ hS1.imm l (fun x8 => decide (x8 = v)) _ (hvl.mono hle1) 31 #[.pointer (some p1)] ⟨hF31, fun G8 w8 v8 x8 hle8 hG8 hon8 hA8 => by exact c_has1 G8 w8 hG8 x8 v v8 hA8 vv ((hvv.mono hle1).mono hle8) p1 (hc1.mono hle8) ⟩ ).mono ?_)
  rintro e w2 ⟨r1, G2, rfl, hres1, hpost1⟩
  refine ⟨_, rfl, ?_⟩
  have hS2 := hS1.call hres1
  have hle2 := hres1.le
  subst hpost1
  refine WL.assign rfl <| WL.nil ?_
  refine WC.ret ?_
  exact ⟨.bool (l.any (fun x8 => decide (x8 = v))), rfl, .bool (l.any (fun x8 => decide (x8 = v))), _, rfl, hS2.res, (congrArg Value.bool (by rfl))⟩

theorem c_AlgebraPairs (G : GH) (w : World) (hG : G.In w) (a b : List Fact) (on : List (Int × Int)) (t : Int) (va : Value) (hva : Sl FactE 40 G va a) (vb : Value) (hvb : Sl FactE 40 G vb b) (vo : Value) (hvo : Sl PairE 16 G vo on)  : Calls Try.prog (nat_lit 3) #[va, vb, vo, .int .i64 t] w fun e w' => ∃ r G', e = .returned r ∧ Res [] w G w' G' ∧ r = .bool true := by
  refine calls_of_WC (N := 137) Try.func3 rfl rfl rfl ?_
  have hS := St.start (X := []) hG
  refine WC.seq <| WC.region rfl <| WL.assign rfl <| WL.nil <| WC.seq <| WC.seq <| WC.region rfl ?_
  refine WL.callF [] #[] hF4 rfl rfl rfl ((c_awake _ _ hS.imm   ).mono ?_)
  rintro e w1 ⟨r1, G1, rfl, hres1, hpost1⟩
  refine ⟨_, rfl, ?_⟩
  have hS1 := hS.call hres1
  have hle1 := hres1.le
  subst hpost1
  refine WL.not true rfl rfl ?_
  refine WL.nil <| WC.condF rfl <| WC.skip <| WC.seq <| WC.seq <| WC.region rfl <| WL.move rfl <| WL.move rfl ?_
  refine WL.buildSlice _ [(0, [va]), (1, [vb])] [va, vb] hS1 sl46 rfl rfl rfl (by show [(0, (va : Value).cells.toList), (1, (vb : Value).cells.toList)] = _; simp only [(hva.mono hle1).cells1, (hvb.mono hle1).cells1] <;> rfl) (fun z hz => by match z, hz with | [z0, z1], _ => rfl) (fun b1 w2 hn1 hS2 => ?_)
  obtain ⟨G2, hle2, hs1, hS3⟩ := St.sealSl (E := (FactE.slice 40)) (by_ := 24) (l := ([a, b] : List (List Fact))) hS2 hn1 ⟨[va], _, rfl, ⟨_, rfl, (hva.mono hle1)⟩, ⟨[vb], _, rfl, ⟨_, rfl, (hvb.mono hle1)⟩, rfl⟩⟩ rfl (by simp [reach]) (by simp [reach])
  refine WL.callF [.slice (some ⟨b1, 0, none⟩) 2 2] #[] hF5 rfl rfl rfl ((c_great _ _ hS3.imm [a, b] _ hs1 ).mono ?_)
  rintro e w3 ⟨r2, G3, rfl, hres2, hpost2⟩
  refine ⟨_, rfl, ?_⟩
  have hS4 := hS3.call hres2
  have hle3 := hres2.le
  subst hpost2
  refine WL.split (fun (h1 : ([a, b].any greatB) = true) => ?_) (fun (h1 : ([a, b].any greatB) = false) => ?_)
  · refine WL.move rfl <| WL.no rfl rfl <| WL.no rfl rfl <| WL.no rfl rfl <| WL.pickT rfl rfl <| WL.move rfl <| WL.no rfl rfl <| WL.no rfl rfl <| WL.no rfl rfl <| WL.pickT rfl rfl <| WL.move rfl <| WL.no rfl rfl <| WL.no rfl rfl <| WL.no rfl rfl <| WL.pickT rfl rfl <| WL.nil <| WC.condT rfl <| WC.seq <| WC.region rfl <| WL.assign rfl <| WL.nil ?_
    refine WC.ret ?_
    exact ⟨.bool true, rfl, .bool true, _, rfl, hS4.res, (congrArg Value.bool (by first | rfl | exact decide_eq_true (join_err (by assumption)) | (simp [Cmp.b, join_err (by assumption)]; done) | (have hq9 := pairs_has hva9 hvb9 (by assumption) hx9 hy9 (by rw [fitsV_all (by assumption) (by omega)]; assumption); rw [restV_all (by omega)] at *; simp_all; done) | (rw [pairN_full (by omega)] at *; have hq9 := hnow.2; simp [Cmp.b]; omega)))⟩
  refine WL.move rfl <| WL.move rfl ?_
  have bd1 := hvo.bound
  refine WL.lenSl (hvo.mono ((hle1.trans hle2).trans hle3)) ul23 rfl rfl ?_
  refine WL.gtrS (on.length : Int) 10 rfl rfl rfl (fun h2 => ?_) (fun h2 => ?_)
  · refine WL.pickF rfl rfl <| WL.move rfl <| WL.no rfl rfl <| WL.no rfl rfl <| WL.no rfl rfl <| WL.pickT rfl rfl <| WL.move rfl <| WL.no rfl rfl <| WL.no rfl rfl <| WL.no rfl rfl <| WL.pickT rfl rfl <| WL.nil <| WC.condT rfl <| WC.seq <| WC.region rfl <| WL.assign rfl <| WL.nil ?_
    refine WC.ret ?_
    exact ⟨.bool true, rfl, .bool true, _, rfl, hS4.res, (congrArg Value.bool (by first | rfl | exact decide_eq_true (join_err (by assumption)) | (simp [Cmp.b, join_err (by assumption)]; done) | (have hq9 := pairs_has hva9 hvb9 (by assumption) hx9 hy9 (by rw [fitsV_all (by assumption) (by omega)]; assumption); rw [restV_all (by omega)] at *; simp_all; done) | (rw [pairN_full (by omega)] at *; have hq9 := hnow.2; simp [Cmp.b]; omega)))⟩
  refine WL.pickF rfl rfl <| WL.move rfl <| WL.move rfl ?_
  refine WL.callF [va] #[] hF6 rfl rfl rfl ((c_rfValid _ _ hS4.imm a _ (hva.mono ((hle1.trans hle2).trans hle3)) ).mono ?_)
  rintro e w4 ⟨r3, G4, rfl, hres3, hpost3⟩
  refine ⟨_, rfl, ?_⟩
  have hS5 := hS4.call hres3
  have hle4 := hres3.le
  subst hpost3
  refine WL.split (fun (h3 : (rvalidB a) = true) => ?_) (fun (h3 : (rvalidB a) = false) => ?_)
  · refine WL.not true rfl rfl ?_
    refine WL.pickF rfl rfl <| WL.move rfl <| WL.move rfl ?_
    refine WL.callF [vb] #[] hF6 rfl rfl rfl ((c_rfValid _ _ hS5.imm b _ (hvb.mono (((hle1.trans hle2).trans hle3).trans hle4)) ).mono ?_)
    rintro e w5 ⟨r4, G5, rfl, hres4, hpost4⟩
    refine ⟨_, rfl, ?_⟩
    have hS6 := hS5.call hres4
    have hle5 := hres4.le
    subst hpost4
    refine WL.split (fun (h4 : (rvalidB b) = true) => ?_) (fun (h4 : (rvalidB b) = false) => ?_)
    · refine WL.not true rfl rfl ?_
      refine WL.pickF rfl rfl <| WL.nil <| WC.condF rfl <| WC.skip <| WC.seq ?_
      have h20 := great_le2 (by assumption)
      have hal := h20.1
      have hbl := h20.2
      have hva9 : validB a = true := by rw [← rvalid_valid]; assumption
      have hvb9 : validB b = true := by rw [← rvalid_valid]; assumption
      have hXl := at_len9 (l := a) (t := t) hal
      have hYl := at_len9 (l := b) (t := t) hbl
      refine WC.region rfl <| WL.move rfl <| WL.move rfl <| WL.move rfl ?_
      refine WL.callF [va, vb, vo] #[] hF7 rfl rfl rfl ((c_Join _ _ hS6.imm a b on _ (hva.mono ((((hle1.trans hle2).trans hle3).trans hle4).trans hle5)) _ (hvb.mono ((((hle1.trans hle2).trans hle3).trans hle4).trans hle5)) _ (hvo.mono ((((hle1.trans hle2).trans hle3).trans hle4).trans hle5)) ).mono ?_)
      rintro e w6 ⟨r5, G6, rfl, hres5, hpost5⟩
      refine ⟨_, rfl, ?_⟩
      have hS7 := hS6.call hres5
      have hle6 := hres5.le
      obtain ⟨r6, r7, rfl, hs2, rfl⟩ := hpost5
      refine WL.move rfl ?_
      refine WL.extract _ _ rfl rfl rfl ?_
      refine WL.extract _ _ rfl rfl rfl ?_
      refine WL.assign rfl <| WL.assign rfl <| WL.nil <| WC.seq <| WC.seq <| WC.region rfl <| WL.move rfl ?_
      refine WL.neqS (joinE a b on) 0 rfl rfl rfl (fun h5 => ?_) (fun h5 => ?_)
      · refine WL.nil <| WC.condT rfl <| WC.seq <| WC.region rfl <| WL.move rfl ?_
        have bd2 := hs2.bound
        refine WL.lenSl hs2 ul22 rfl rfl ?_
        refine WL.cmp .eql rfl .i64 (((joinL a b on).length : Nat) : Int) 0 rfl rfl rfl ?_
        refine WL.assign rfl <| WL.nil ?_
        refine WC.ret ?_
        exact ⟨.bool (Cmp.b .eql (((joinL a b on).length : Nat) : Int) 0), rfl, .bool (Cmp.b .eql (((joinL a b on).length : Nat) : Int) 0), _, rfl, hS7.res, (congrArg Value.bool (by first | rfl | exact decide_eq_true (join_err (by assumption)) | (simp [Cmp.b, join_err (by assumption)]; done) | (have hq9 := pairs_has hva9 hvb9 (by assumption) hx9 hy9 (by rw [fitsV_all (by assumption) (by omega)]; assumption); rw [restV_all (by omega)] at *; simp_all; done) | (rw [pairN_full (by omega)] at *; have hq9 := hnow.2; simp [Cmp.b]; omega)))⟩
      refine WL.nil <| WC.condF rfl <| WC.skip <| WC.seq ?_
      have hnow := join_now (on := on) (t := t) hva9 hvb9 (by assumption)
      refine WC.region rfl <| WL.move rfl <| WL.move rfl ?_
      refine WL.callF [r6, .int .i64 t] #[] hF8 rfl rfl rfl ((c_At _ _ hS7.imm (joinL a b on) t _ hs2 ).mono ?_)
      rintro e w7 ⟨r8, G7, rfl, hres6, hpost6⟩
      refine ⟨_, rfl, ?_⟩
      have hS8 := hS7.call hres6
      have hle7 := hres6.le
      refine WL.assign rfl <| WL.nil <| WC.seq <| WC.region rfl <| WL.assign rfl <| WL.nil <| WC.seq <| WC.seq <| WC.region rfl <| WL.move rfl <| WL.move rfl ?_
      refine WL.callF [va, .int .i64 t] #[] hF8 rfl rfl rfl ((c_At _ _ hS8.imm a t _ (hva.mono ((((((hle1.trans hle2).trans hle3).trans hle4).trans hle5).trans hle6).trans hle7)) ).mono ?_)
      rintro e w8 ⟨r9, G8, rfl, hres7, hpost7⟩
      refine ⟨_, rfl, ?_⟩
      have hS9 := hS8.call hres7
      have hle8 := hres7.le
      have bd3 := hpost7.bound
      refine WL.lenSl hpost7 ul30 rfl rfl ?_
      refine WL.move rfl <| WL.nil <| WC.block ?_
      refine WC.loop (γ := Nat) (fun m ρ1 w1 => ∃ (k1 : Nat), ∃ (n : Nat), ∃ (G9 : GH), m = (atL a t).length - k1 ∧ G8.le G9 ∧ St w [] G G9 [] w1 ∧ ρ1 1 = vb ∧ ρ1 2 = vo ∧ ρ1 3 = .int .i64 t ∧ ρ1 11 = r8 ∧ ρ1 12 = .int .i64 (n : Int) ∧ ρ1 62 = r9 ∧ ρ1 63 = .int .i64 (((atL a t).length : Nat) : Int) ∧ ρ1 64 = .int .i64 (k1 : Int) ∧ k1 ≤ (atL a t).length ∧ n = pairN on ((atL a t).take k1) (atL b t)) (fun m => m) _ ⟨0, 0, G8, rfl, (G8.le_refl), hS9, rfl, rfl, rfl, rfl, rfl, rfl, rfl, rfl, (by omega), (by simp [pairN])⟩ ?_
      rintro m ρ1 w9 ⟨k1, n, G9, rfl, hle9, hS10, e1, e2, e3, e4, e5, e6, e7, e8, f1, f2⟩
      refine WC.set (d := 1) e1 ?_
      refine WC.set (d := 2) e2 ?_
      refine WC.set (d := 3) e3 ?_
      refine WC.set (d := 11) e4 ?_
      refine WC.set (d := 12) e5 ?_
      refine WC.set (d := 62) e6 ?_
      refine WC.set (d := 63) e7 ?_
      refine WC.set (d := 64) e8 ?_
      refine WC.seq <| WC.region rfl ?_
      refine WL.lssS (k1 : Int) (((atL a t).length : Nat) : Int) rfl rfl rfl (fun h6 => ?_) (fun h6 => ?_)
      · refine WL.nil <| WC.seq <| WC.condT rfl <| WC.skip <| WC.seq <| WC.block <| WC.seq ?_
        obtain ⟨x9, hx9⟩ : ∃ f, (atL a t)[k1]? = some f := ⟨_, List.getElem?_eq_getElem (by omega)⟩
        have hx9l := at_vlen9 hva9 hx9
        refine WC.region rfl ?_
        refine WL.indexAddr (hpost7.mono hle9) k1 (by omega) ul30 ti32 rfl rfl rfl rfl (fun p1 x1 hx1 he1 => ?_)
        obtain rfl : x9 = x1 := Option.some.inj (hx9.symm.trans hx1)
        obtain ⟨cs1, hc1, hr1⟩ := he1
        obtain ⟨v1, rfl, hs3⟩ := hr1
        refine WL.loadG1 hS10 hc1 ti32 rfl rfl rfl ?_
        refine WL.assign rfl <| WL.nil <| WC.seq <| WC.region rfl <| WL.move rfl <| WL.move rfl ?_
        refine WL.callF [vb, .int .i64 t] #[] hF8 rfl rfl rfl ((c_At _ _ hS10.imm b t _ (hvb.mono ((((((((hle1.trans hle2).trans hle3).trans hle4).trans hle5).trans hle6).trans hle7).trans hle8).trans hle9)) ).mono ?_)
        rintro e w10 ⟨r10, G10, rfl, hres8, hpost8⟩
        refine ⟨_, rfl, ?_⟩
        have hS11 := hS10.call hres8
        have hle10 := hres8.le
        have bd4 := hpost8.bound
        refine WL.lenSl hpost8 ul30 rfl rfl ?_
        refine WL.move rfl <| WL.nil <| WC.block ?_
        refine WC.loop (γ := Nat) (fun m ρ1 w1 => ∃ (k2 : Nat), ∃ (n2 : Nat), ∃ (G11 : GH), m = (atL b t).length - k2 ∧ G10.le G11 ∧ St w [] G G11 [] w1 ∧ ρ1 1 = vb ∧ ρ1 2 = vo ∧ ρ1 3 = .int .i64 t ∧ ρ1 11 = r8 ∧ ρ1 12 = .int .i64 (n2 : Int) ∧ ρ1 14 = v1 ∧ ρ1 62 = r9 ∧ ρ1 63 = .int .i64 (((atL a t).length : Nat) : Int) ∧ ρ1 64 = .int .i64 (k1 : Int) ∧ ρ1 70 = r10 ∧ ρ1 71 = .int .i64 (((atL b t).length : Nat) : Int) ∧ ρ1 72 = .int .i64 (k2 : Int) ∧ k2 ≤ (atL b t).length ∧ n2 = pairN on ((atL a t).take k1) (atL b t) + pairG on x9 ((atL b t).take k2)) (fun m => m) _ ⟨0, n, G10, rfl, (G10.le_refl), hS11, rfl, rfl, rfl, rfl, rfl, rfl, rfl, rfl, rfl, rfl, rfl, rfl, (by omega), (by simpa [pairG] using (by assumption : n = pairN on ((atL a t).take k1) (atL b t)))⟩ ?_
        rintro m ρ1 w11 ⟨k2, n2, G11, rfl, hle11, hS12, e9, e10, e11, e12, e13, e14, e15, e16, e17, e18, e19, e20, f3, f4⟩
        refine WC.set (d := 1) e9 ?_
        refine WC.set (d := 2) e10 ?_
        refine WC.set (d := 3) e11 ?_
        refine WC.set (d := 11) e12 ?_
        refine WC.set (d := 12) e13 ?_
        refine WC.set (d := 14) e14 ?_
        refine WC.set (d := 62) e15 ?_
        refine WC.set (d := 63) e16 ?_
        refine WC.set (d := 64) e17 ?_
        refine WC.set (d := 70) e18 ?_
        refine WC.set (d := 71) e19 ?_
        refine WC.set (d := 72) e20 ?_
        have hpb9 := pair_bd (on := on) (x := x9) (k := k1) (k2 := k2) hXl hYl
        refine WC.seq <| WC.region rfl ?_
        refine WL.lssS (k2 : Int) (((atL b t).length : Nat) : Int) rfl rfl rfl (fun h7 => ?_) (fun h7 => ?_)
        · refine WL.nil <| WC.seq <| WC.condT rfl <| WC.skip <| WC.seq <| WC.block <| WC.seq ?_
          obtain ⟨y9, hy9⟩ : ∃ f, (atL b t)[k2]? = some f := ⟨_, List.getElem?_eq_getElem (by omega)⟩
          have hy9l := at_vlen9 hvb9 hy9
          refine WC.region rfl ?_
          refine WL.indexAddr (hpost8.mono hle11) k2 (by omega) ul30 ti32 rfl rfl rfl rfl (fun p2 x2 hx2 he2 => ?_)
          obtain rfl : y9 = x2 := Option.some.inj (hy9.symm.trans hx2)
          obtain ⟨cs2, hc2, hr2⟩ := he2
          obtain ⟨v2, rfl, hs4⟩ := hr2
          refine WL.loadG1 hS12 hc2 ti32 rfl rfl rfl ?_
          refine WL.assign rfl <| WL.nil <| WC.seq <| WC.region rfl <| WL.move rfl ?_
          refine WL.callF [v1] #[] hF9 rfl rfl rfl ((c_CloneV _ _ hS12.imm x9 _ (hs3.mono (hle10.trans hle11)) ).mono ?_)
          rintro e w12 ⟨r11, G12, rfl, hres9, hpost9⟩
          refine ⟨_, rfl, ?_⟩
          have hS13 := hS12.call hres9
          have hle12 := hres9.le
          obtain ⟨o1, hr3, hf1⟩ := hpost9
          have hS14 := hS12.adoptO hres9 hf1
          refine WL.assign rfl <| WL.nil <| WC.seq <| WC.region rfl <| WL.assign rfl <| WL.nil <| WC.seq <| WC.seq <| WC.region rfl <| WL.move rfl ?_
          have bd5 := hs4.bound
          refine WL.lenSl (hs4.mono hle12) ul32 rfl rfl ?_
          refine WL.move rfl <| WL.nil <| WC.block ?_
          refine WC.loop (γ := Nat) (fun m ρ1 w1 => ∃ (k3 : Nat), ∃ (fi : Bool), ∃ (v3 : Value) (o2 : OB), ∃ (G13 : GH), m = y9.length - k3 ∧ G12.le G13 ∧ St w [] G G13 [o2] w1 ∧ Row ValE 32 35 G13 v3 (x9 ++ restV on (y9.take k3)) o2 ∧ ρ1 1 = vb ∧ ρ1 2 = vo ∧ ρ1 3 = .int .i64 t ∧ ρ1 11 = r8 ∧ ρ1 12 = .int .i64 (n2 : Int) ∧ ρ1 14 = v1 ∧ ρ1 17 = v3 ∧ ρ1 18 = .bool fi ∧ ρ1 62 = r9 ∧ ρ1 63 = .int .i64 (((atL a t).length : Nat) : Int) ∧ ρ1 64 = .int .i64 (k1 : Int) ∧ ρ1 70 = r10 ∧ ρ1 71 = .int .i64 (((atL b t).length : Nat) : Int) ∧ ρ1 72 = .int .i64 (k2 : Int) ∧ ρ1 78 = v2 ∧ ρ1 79 = .int .i64 (y9.length : Int) ∧ ρ1 80 = .int .i64 (k3 : Int) ∧ k3 ≤ y9.length ∧ fi = fitsV on x9 (y9.take k3)) (fun m => m) _ ⟨0, true, r11, o1, G12, rfl, (G12.le_refl), hS14, (Row.cast hr3 (by simp [restV])), rfl, rfl, rfl, rfl, rfl, rfl, rfl, rfl, rfl, rfl, rfl, rfl, rfl, rfl, rfl, rfl, rfl, (by omega), (by simp [fitsV])⟩ ?_
          rintro m ρ1 w13 ⟨k3, fi, v3, o2, G13, rfl, hle13, hS15, hr4, e21, e22, e23, e24, e25, e26, e27, e28, e29, e30, e31, e32, e33, e34, e35, e36, e37, f5, f6⟩
          refine WC.set (d := 1) e21 ?_
          refine WC.set (d := 2) e22 ?_
          refine WC.set (d := 3) e23 ?_
          refine WC.set (d := 11) e24 ?_
          refine WC.set (d := 12) e25 ?_
          refine WC.set (d := 14) e26 ?_
          refine WC.set (d := 17) e27 ?_
          refine WC.set (d := 18) e28 ?_
          refine WC.set (d := 62) e29 ?_
          refine WC.set (d := 63) e30 ?_
          refine WC.set (d := 64) e31 ?_
          refine WC.set (d := 70) e32 ?_
          refine WC.set (d := 71) e33 ?_
          refine WC.set (d := 72) e34 ?_
          refine WC.set (d := 78) e35 ?_
          refine WC.set (d := 79) e36 ?_
          refine WC.set (d := 80) e37 ?_
          have hrl9 := restV_len on (y9.take k3)
          have hrt9 := List.length_take_le' k3 y9
          refine WC.seq <| WC.region rfl ?_
          refine WL.lssS (k3 : Int) (y9.length : Int) rfl rfl rfl (fun h8 => ?_) (fun h8 => ?_)
          · refine WL.nil <| WC.seq <| WC.condT rfl <| WC.skip <| WC.seq <| WC.block <| WC.seq ?_
            obtain ⟨z9, hz9⟩ : ∃ f, y9[k3]? = some f := ⟨_, List.getElem?_eq_getElem (by omega)⟩
            refine WC.region rfl <| WL.move rfl ?_
            refine WL.indexAddr (hs4.mono (hle12.trans hle13)) k3 (by omega) ul32 ti35 rfl rfl rfl rfl (fun p3 x3 hx3 he3 => ?_)
            obtain rfl : z9 = x3 := Option.some.inj (hz9.symm.trans hx3)
            obtain ⟨cs3, hc3, hr5⟩ := he3
            obtain ⟨rfl, hb1, hb2, hb3⟩ := ValE_open hr5
            refine WL.loadGAt hS15 hc3 [.int .i64 z9.k, .int .i64 z9.n, strV z9.s] ti35 rfl rfl rfl rfl rfl ?_
            refine WL.alloc hS15 ti35 rfl rfl (fun b2 w14 hn2 hS16 => ?_)
            refine WL.assign rfl ?_
            refine WL.store hS16 0 _ _ _ 0 _ [.int .i64 z9.k, .int .i64 z9.n, strV z9.s] [.int .i64 z9.k, .int .i64 z9.n, strV z9.s] _ rfl rfl ti35 rfl (Nat.le_of_ble_eq_true rfl) rfl rfl rfl rfl rfl rfl (fun w15 hS17 => ?_)
            obtain ⟨G14, hle14, hc4, hS18⟩ := hS17.shutB hn2
            refine WL.nil <| WC.seq <| WC.region rfl <| WL.assign rfl <| WL.nil <| WC.seq <| WC.seq <| WC.region rfl <| WL.move rfl ?_
            have bd6 := hvo.bound
            refine WL.lenSl (hvo.mono (((((((((((((hle1.trans hle2).trans hle3).trans hle4).trans hle5).trans hle6).trans hle7).trans hle8).trans hle9).trans hle10).trans hle11).trans hle12).trans hle13).trans hle14)) ul23 rfl rfl ?_
            refine WL.move rfl <| WL.nil <| WC.block ?_
            refine WC.loop (γ := Nat) (fun m ρ1 w1 => ∃ (k4 : Nat), ∃ (fi2 : Bool), ∃ (fr : Bool), ∃ (G15 : GH), m = on.length - k4 ∧ G14.le G15 ∧ St w [] G G15 [o2] w1 ∧ ρ1 1 = vb ∧ ρ1 2 = vo ∧ ρ1 3 = .int .i64 t ∧ ρ1 11 = r8 ∧ ρ1 12 = .int .i64 (n2 : Int) ∧ ρ1 14 = v1 ∧ ρ1 17 = v3 ∧ ρ1 18 = .bool fi2 ∧ ρ1 19 = .int .i64 (k3 : Int) ∧ ρ1 20 = .pointer (some (⟨b2, 0, none⟩ : Addr)) ∧ ρ1 21 = .bool fr ∧ ρ1 62 = r9 ∧ ρ1 63 = .int .i64 (((atL a t).length : Nat) : Int) ∧ ρ1 64 = .int .i64 (k1 : Int) ∧ ρ1 70 = r10 ∧ ρ1 71 = .int .i64 (((atL b t).length : Nat) : Int) ∧ ρ1 72 = .int .i64 (k2 : Int) ∧ ρ1 78 = v2 ∧ ρ1 79 = .int .i64 (y9.length : Int) ∧ ρ1 80 = .int .i64 (k3 : Int) ∧ ρ1 85 = vo ∧ ρ1 86 = .int .i64 (on.length : Int) ∧ ρ1 87 = .int .i64 (k4 : Int) ∧ k4 ≤ on.length ∧ fr = !((on.take k4).any fun p => decide (p.2 = (k3 : Int))) ∧ fi2 = (fi && (on.take k4).all (fitP x9 z9 k3))) (fun m => m) _ ⟨0, fi, true, G14, rfl, (G14.le_refl), hS18, rfl, rfl, rfl, rfl, rfl, rfl, rfl, rfl, rfl, rfl, rfl, rfl, rfl, rfl, rfl, rfl, rfl, rfl, rfl, rfl, rfl, rfl, rfl, (by omega), (by simp), (by simp)⟩ ?_
            rintro m ρ1 w16 ⟨k4, fi2, fr, G15, rfl, hle15, hS19, e38, e39, e40, e41, e42, e43, e44, e45, e46, e47, e48, e49, e50, e51, e52, e53, e54, e55, e56, e57, e58, e59, e60, f7, f8, f9⟩
            refine WC.set (d := 1) e38 ?_
            refine WC.set (d := 2) e39 ?_
            refine WC.set (d := 3) e40 ?_
            refine WC.set (d := 11) e41 ?_
            refine WC.set (d := 12) e42 ?_
            refine WC.set (d := 14) e43 ?_
            refine WC.set (d := 17) e44 ?_
            refine WC.set (d := 18) e45 ?_
            refine WC.set (d := 19) e46 ?_
            refine WC.set (d := 20) e47 ?_
            refine WC.set (d := 21) e48 ?_
            refine WC.set (d := 62) e49 ?_
            refine WC.set (d := 63) e50 ?_
            refine WC.set (d := 64) e51 ?_
            refine WC.set (d := 70) e52 ?_
            refine WC.set (d := 71) e53 ?_
            refine WC.set (d := 72) e54 ?_
            refine WC.set (d := 78) e55 ?_
            refine WC.set (d := 79) e56 ?_
            refine WC.set (d := 80) e57 ?_
            refine WC.set (d := 85) e58 ?_
            refine WC.set (d := 86) e59 ?_
            refine WC.set (d := 87) e60 ?_
            refine WC.seq <| WC.region rfl ?_
            refine WL.lssS (k4 : Int) (on.length : Int) rfl rfl rfl (fun h9 => ?_) (fun h9 => ?_)
            · refine WL.nil <| WC.seq <| WC.condT rfl <| WC.skip <| WC.seq <| WC.block <| WC.seq <| WC.region rfl ?_
              refine WL.indexAddr (hvo.mono ((((((((((((((hle1.trans hle2).trans hle3).trans hle4).trans hle5).trans hle6).trans hle7).trans hle8).trans hle9).trans hle10).trans hle11).trans hle12).trans hle13).trans hle14).trans hle15)) k4 (by omega) ul23 ti36 rfl rfl rfl rfl (fun p4 x4 hx4 he4 => ?_)
              obtain ⟨cs4, hc5, hr6⟩ := he4
              obtain ⟨rfl, hb4, hb5⟩ := PairE_open hr6
              refine WL.loadGAt hS19 hc5 [.int .i64 x4.1, .int .i64 x4.2] ti36 rfl rfl rfl rfl rfl ?_
              refine WL.alloc hS19 ti36 rfl rfl (fun b3 w17 hn3 hS20 => ?_)
              refine WL.store hS20 0 _ _ _ 0 _ [.int .i64 x4.1, .int .i64 x4.2] [.int .i64 x4.1, .int .i64 x4.2] _ rfl rfl ti36 rfl (Nat.le_of_ble_eq_true rfl) rfl rfl rfl rfl rfl rfl (fun w18 hS21 => ?_)
              obtain ⟨G16, hle16, hc6, hS22⟩ := hS21.shutB hn3
              refine WL.nil <| WC.seq <| WC.region rfl ?_
              refine WL.indexAddrA _ 2 1 rfl ul36 ti3 rfl rfl rfl ?_
              refine WL.loadG1 hS22 (Cells.drop 1 hc6) ti3 rfl rfl rfl ?_
              refine WL.move rfl ?_
              refine WL.eqlS x4.2 (k3 : Int) rfl rfl rfl (fun h10 => ?_) (fun h10 => ?_)
              · refine WL.nil <| WC.condT rfl <| WC.seq <| WC.region rfl <| WL.assign rfl <| WL.nil ?_
                rcases Bool.eq_false_or_eq_true fi2 with h11 | h11
                · rcases Cmp.dec .geq x4.1 0 with ⟨hb6, q1⟩ | ⟨hb6, q1⟩
                  · have h12 : 0 ≤ x4.1 := q1
                    clear q1
                    have bd7 := hs3.bound
                    rcases Cmp.dec .lss x4.1 (x9.length : Int) with ⟨hb7, q2⟩ | ⟨hb7, q2⟩
                    · have h13 : x4.1 < (x9.length : Int) := q2
                      clear q2
                      obtain ⟨p5, x5, hx5, he5, ep1⟩ := Sl.at (hs3.mono ((((((hle10.trans hle11).trans hle12).trans hle13).trans hle14).trans hle15).trans hle16)) ((x4.1).toNat) (by omega)
                      obtain ⟨cs5, hc7, hr7⟩ := he5
                      obtain ⟨rfl, hb8, hb9, hb10⟩ := ValE_open hr7
                      rcases Classical.em (x5 = z9) with h14 | h14
                      · refine dr ⟨[0, 1, 3, 7, 15, 31, 63, 127, 255, 127, 639, 2047, 4095, 8191, 16383, 16383, 49151, 131071, 262143, 16383, 1048575, 2097151, 4194303], [0, 1, 2, 4, 5, 6, 7, 9, 10, 11, 12, 13, 14, 15, 17, 20, 21], [3, 8, 16, 18, 19], [], [22]⟩ [(95, .bool true), (96, .bool true), (97, .pointer (some ((⟨b3, 0, none⟩ : Addr).add 0))), (99, .bool true), (100, .bool true), (101, .bool true), (102, .pointer (some ((⟨b3, 0, none⟩ : Addr).add 0))), (104, v1), (105, .int .i64 (x9.length : Int)), (106, .bool true), (107, .bool true), (108, .bool true), (109, v1), (110, .pointer (some ((⟨b3, 0, none⟩ : Addr).add 0))), (112, .pointer (some p5)), (115, .bool true), (116, .bool true), (98, .int .i64 x4.1), (103, .int .i64 x4.1), (111, .int .i64 x4.1), (113, .agg #[.int .i64 x5.k, .int .i64 x5.n, strV x5.s]), (114, .agg #[.int .i64 z9.k, .int .i64 z9.n, strV z9.s])] [o2] hS22 ?_ ?_ trivial (fun w8 hS23 => ?_)
                        · exact ⟨fun _ _ => WL.move rfl (WL.nu (congrArg Value.bool h11.symm)), fun _ _ => WL.move rfl <| WL.nu rfl, fun _ _ => WL.indexAddrA _ 2 0 rfl ul36 ti3 rfl rfl rfl <| WL.nu rfl, fun _ _ => WL.cmpV .geq rfl .i64 x4.1 0 _ hb6 rfl rfl rfl <| WL.nu rfl, fun _ _ => WL.pickT rfl rfl <| WL.nu rfl, fun _ _ => WL.move rfl <| WL.nu rfl, fun _ _ => WL.indexAddrA _ 2 0 rfl ul36 ti3 rfl rfl rfl <| WL.nu rfl, fun _ _ => WL.move rfl <| WL.nu rfl, fun _ _ => WL.lenSl (hs3.mono ((((((hle10.trans hle11).trans hle12).trans hle13).trans hle14).trans hle15).trans hle16)) ul32 rfl rfl <| WL.nu rfl, fun _ _ => WL.cmpV .lss rfl .i64 x4.1 (x9.length : Int) _ hb7 rfl rfl rfl <| WL.nu rfl, fun _ _ => WL.pickT rfl rfl <| WL.nu rfl, fun _ _ => WL.move rfl <| WL.nu rfl, fun _ _ => WL.move rfl <| WL.nu rfl, fun _ _ => WL.indexAddrA _ 2 0 rfl ul36 ti3 rfl rfl rfl <| WL.nu rfl, fun _ _ => WL.indexAddrP ((x4.1).toNat) ep1 ul32 ti35 rfl rfl rfl (congrArg (Value.int .i64) (Int.toNat_of_nonneg (by omega)).symm) <| WL.nu rfl, fun _ _ => WL.aggEqV true (ValEq35 x5 z9) eqg35 (by simp [h14]) rfl rfl rfl <| WL.nu rfl, fun _ _ => WL.pickT rfl rfl <| WL.nu rfl, trivial⟩
                        · exact ⟨fun _ hSw => WL.loadG1 hSw (Cells.drop 0 hc6) ti3 rfl rfl rfl <| WL.nu rfl, fun _ hSw => WL.loadG1 hSw (Cells.drop 0 hc6) ti3 rfl rfl rfl <| WL.nu rfl, fun _ hSw => WL.loadG1 hSw (Cells.drop 0 hc6) ti3 rfl rfl rfl <| WL.nu rfl, fun _ hSw => WL.loadGAt hSw hc7 [.int .i64 x5.k, .int .i64 x5.n, strV x5.s] ti35 rfl rfl rfl rfl rfl <| WL.nu rfl, fun _ hSw => WL.loadGAt hSw (hc4.mono (hle15.trans hle16)) [.int .i64 z9.k, .int .i64 z9.n, strV z9.s] ti35 rfl rfl rfl rfl rfl <| WL.nu rfl, trivial⟩
                        refine TL.step rfl ?_
                        refine WL.assign rfl ?_
                        refine WL.nil ⟨fun h => absurd h (by decide), ?_⟩
                        refine WC.region rfl ?_
                        refine WL.incr k4 (by have hreach : reach = 140737488355328 := rfl; omega) rfl rfl rfl ?_
                        refine WL.move rfl <| WL.nil ?_
                        exact ⟨_, ⟨k4 + 1, true, false, G16, rfl, (hle15.trans hle16), hS23, rfl, rfl, rfl, rfl, rfl, rfl, rfl, rfl, rfl, rfl, rfl, rfl, rfl, rfl, rfl, rfl, rfl, rfl, rfl, rfl, rfl, rfl, rfl, (by omega), (by first | exact frS_no (by assumption) (by assumption) (by assumption) | exact frS_yes (by assumption) (by assumption) (by assumption)), ((by first |  exact fiS (by assumption) (by assumption) (by rw [fitP_ne (by assumption), Bool.and_true]) | exact fiS (by assumption) (by assumption) (by rw [(by assumption : fi2 = false)]; rfl) | exact fiS (by assumption) (by assumption) (by rw [fitP_lo (by assumption) (by assumption)]; exact (Bool.and_false _).symm) | exact fiS (by assumption) (by assumption) (by rw [fitP_hi (by assumption) (by assumption)]; exact (Bool.and_false _).symm) | exact fiS (by assumption) (by assumption) (by rw [(by assumption : fi2 = true), fitP_yes (by assumption) (by assumption) (by assumption) (by assumption)]; rfl) | exact fiS (by assumption) (by assumption) (by rw [fitP_no (by assumption) (by assumption) (by assumption)]; exact (Bool.and_false _).symm) | exact fiS (by assumption) (by assumption) (by rw [(by assumption : fi2 = true), fitP_dec (by assumption) (by assumption) (by assumption) (by assumption)]; rfl)))⟩, (show on.length - (k4 + 1) < on.length - k4 by omega)⟩
                      refine dr ⟨[0, 1, 3, 7, 15, 31, 63, 127, 255, 127, 639, 2047, 4095, 8191, 16383, 16383, 49151, 131071, 262143, 16383, 1048575, 2097151, 4194303], [0, 1, 2, 4, 5, 6, 7, 9, 10, 11, 12, 13, 14, 15, 17, 20, 21], [3, 8, 16, 18, 19], [], [22]⟩ [(95, .bool true), (96, .bool true), (97, .pointer (some ((⟨b3, 0, none⟩ : Addr).add 0))), (99, .bool true), (100, .bool true), (101, .bool true), (102, .pointer (some ((⟨b3, 0, none⟩ : Addr).add 0))), (104, v1), (105, .int .i64 (x9.length : Int)), (106, .bool true), (107, .bool true), (108, .bool true), (109, v1), (110, .pointer (some ((⟨b3, 0, none⟩ : Addr).add 0))), (112, .pointer (some p5)), (115, .bool false), (116, .bool false), (98, .int .i64 x4.1), (103, .int .i64 x4.1), (111, .int .i64 x4.1), (113, .agg #[.int .i64 x5.k, .int .i64 x5.n, strV x5.s]), (114, .agg #[.int .i64 z9.k, .int .i64 z9.n, strV z9.s])] [o2] hS22 ?_ ?_ trivial (fun w8 hS24 => ?_)
                      · exact ⟨fun _ _ => WL.move rfl (WL.nu (congrArg Value.bool h11.symm)), fun _ _ => WL.move rfl <| WL.nu rfl, fun _ _ => WL.indexAddrA _ 2 0 rfl ul36 ti3 rfl rfl rfl <| WL.nu rfl, fun _ _ => WL.cmpV .geq rfl .i64 x4.1 0 _ hb6 rfl rfl rfl <| WL.nu rfl, fun _ _ => WL.pickT rfl rfl <| WL.nu rfl, fun _ _ => WL.move rfl <| WL.nu rfl, fun _ _ => WL.indexAddrA _ 2 0 rfl ul36 ti3 rfl rfl rfl <| WL.nu rfl, fun _ _ => WL.move rfl <| WL.nu rfl, fun _ _ => WL.lenSl (hs3.mono ((((((hle10.trans hle11).trans hle12).trans hle13).trans hle14).trans hle15).trans hle16)) ul32 rfl rfl <| WL.nu rfl, fun _ _ => WL.cmpV .lss rfl .i64 x4.1 (x9.length : Int) _ hb7 rfl rfl rfl <| WL.nu rfl, fun _ _ => WL.pickT rfl rfl <| WL.nu rfl, fun _ _ => WL.move rfl <| WL.nu rfl, fun _ _ => WL.move rfl <| WL.nu rfl, fun _ _ => WL.indexAddrA _ 2 0 rfl ul36 ti3 rfl rfl rfl <| WL.nu rfl, fun _ _ => WL.indexAddrP ((x4.1).toNat) ep1 ul32 ti35 rfl rfl rfl (congrArg (Value.int .i64) (Int.toNat_of_nonneg (by omega)).symm) <| WL.nu rfl, fun _ _ => WL.aggEqV false (ValEq35 x5 z9) eqg35 (by simp [h14]) rfl rfl rfl <| WL.nu rfl, fun _ _ => WL.pickT rfl rfl <| WL.nu rfl, trivial⟩
                      · exact ⟨fun _ hSw => WL.loadG1 hSw (Cells.drop 0 hc6) ti3 rfl rfl rfl <| WL.nu rfl, fun _ hSw => WL.loadG1 hSw (Cells.drop 0 hc6) ti3 rfl rfl rfl <| WL.nu rfl, fun _ hSw => WL.loadG1 hSw (Cells.drop 0 hc6) ti3 rfl rfl rfl <| WL.nu rfl, fun _ hSw => WL.loadGAt hSw hc7 [.int .i64 x5.k, .int .i64 x5.n, strV x5.s] ti35 rfl rfl rfl rfl rfl <| WL.nu rfl, fun _ hSw => WL.loadGAt hSw (hc4.mono (hle15.trans hle16)) [.int .i64 z9.k, .int .i64 z9.n, strV z9.s] ti35 rfl rfl rfl rfl rfl <| WL.nu rfl, trivial⟩
                      refine TL.step rfl ?_
                      refine WL.assign rfl ?_
                      refine WL.nil ⟨fun h => absurd h (by decide), ?_⟩
                      refine WC.region rfl ?_
                      refine WL.incr k4 (by have hreach : reach = 140737488355328 := rfl; omega) rfl rfl rfl ?_
                      refine WL.move rfl <| WL.nil ?_
                      exact ⟨_, ⟨k4 + 1, false, false, G16, rfl, (hle15.trans hle16), hS24, rfl, rfl, rfl, rfl, rfl, rfl, rfl, rfl, rfl, rfl, rfl, rfl, rfl, rfl, rfl, rfl, rfl, rfl, rfl, rfl, rfl, rfl, rfl, (by omega), (by first | exact frS_no (by assumption) (by assumption) (by assumption) | exact frS_yes (by assumption) (by assumption) (by assumption)), ((by first |  exact fiS (by assumption) (by assumption) (by rw [fitP_ne (by assumption), Bool.and_true]) | exact fiS (by assumption) (by assumption) (by rw [(by assumption : fi2 = false)]; rfl) | exact fiS (by assumption) (by assumption) (by rw [fitP_lo (by assumption) (by assumption)]; exact (Bool.and_false _).symm) | exact fiS (by assumption) (by assumption) (by rw [fitP_hi (by assumption) (by assumption)]; exact (Bool.and_false _).symm) | exact fiS (by assumption) (by assumption) (by rw [(by assumption : fi2 = true), fitP_yes (by assumption) (by assumption) (by assumption) (by assumption)]; rfl) | exact fiS (by assumption) (by assumption) (by rw [fitP_no (by assumption) (by assumption) (by assumption)]; exact (Bool.and_false _).symm) | exact fiS (by assumption) (by assumption) (by rw [(by assumption : fi2 = true), fitP_dec (by assumption) (by assumption) (by assumption) (by assumption)]; rfl)))⟩, (show on.length - (k4 + 1) < on.length - k4 by omega)⟩
                    have h13 : (x9.length : Int) ≤ x4.1 := q2
                    clear q2
                    refine dr ⟨[0, 1, 3, 7, 15, 31, 63, 127, 255, 127, 639, 2047, 4095, 8191, 16383, 16383, 49151, 131071, 262143, 16383, 1048575, 2097151, 4194303], [0, 1, 2, 4, 5, 6, 7, 9, 10, 11, 12, 13, 14, 15, 17, 20, 21], [3, 8, 16, 18, 19], [], [22]⟩ [(95, .bool true), (96, .bool true), (97, .pointer (some ((⟨b3, 0, none⟩ : Addr).add 0))), (99, .bool true), (100, .bool true), (101, .bool true), (102, .pointer (some ((⟨b3, 0, none⟩ : Addr).add 0))), (104, v1), (105, .int .i64 (x9.length : Int)), (106, .bool false), (107, .bool false), (108, .bool false), (109, undef), (110, undef), (112, undef), (115, undef), (116, .bool false), (98, .int .i64 x4.1), (103, .int .i64 x4.1), (111, undef), (113, undef), (114, undef)] [o2] hS22 ?_ ?_ trivial (fun w8 hS25 => ?_)
                    · exact ⟨fun _ _ => WL.move rfl (WL.nu (congrArg Value.bool h11.symm)), fun _ _ => WL.move rfl <| WL.nu rfl, fun _ _ => WL.indexAddrA _ 2 0 rfl ul36 ti3 rfl rfl rfl <| WL.nu rfl, fun _ _ => WL.cmpV .geq rfl .i64 x4.1 0 _ hb6 rfl rfl rfl <| WL.nu rfl, fun _ _ => WL.pickT rfl rfl <| WL.nu rfl, fun _ _ => WL.move rfl <| WL.nu rfl, fun _ _ => WL.indexAddrA _ 2 0 rfl ul36 ti3 rfl rfl rfl <| WL.nu rfl, fun _ _ => WL.move rfl <| WL.nu rfl, fun _ _ => WL.lenSl (hs3.mono ((((((hle10.trans hle11).trans hle12).trans hle13).trans hle14).trans hle15).trans hle16)) ul32 rfl rfl <| WL.nu rfl, fun _ _ => WL.cmpV .lss rfl .i64 x4.1 (x9.length : Int) _ hb7 rfl rfl rfl <| WL.nu rfl, fun _ _ => WL.pickT rfl rfl <| WL.nu rfl, fun _ _ => WL.move rfl <| WL.nu rfl, fun _ _ => WL.no rfl rfl <| WL.nu rfl, fun _ _ => WL.no rfl rfl <| WL.nu rfl, fun _ _ => WL.no rfl rfl <| WL.nu rfl, fun _ _ => WL.no rfl rfl <| WL.nu rfl, fun _ _ => WL.pickF rfl rfl <| WL.nu rfl, trivial⟩
                    · exact ⟨fun _ hSw => WL.loadG1 hSw (Cells.drop 0 hc6) ti3 rfl rfl rfl <| WL.nu rfl, fun _ hSw => WL.loadG1 hSw (Cells.drop 0 hc6) ti3 rfl rfl rfl <| WL.nu rfl, fun _ _ => WL.no rfl rfl <| WL.nu rfl, fun _ _ => WL.no rfl rfl <| WL.nu rfl, fun _ _ => WL.no rfl rfl <| WL.nu rfl, trivial⟩
                    refine TL.step rfl ?_
                    refine WL.assign rfl ?_
                    refine WL.nil ⟨fun h => absurd h (by decide), ?_⟩
                    refine WC.region rfl ?_
                    refine WL.incr k4 (by have hreach : reach = 140737488355328 := rfl; omega) rfl rfl rfl ?_
                    refine WL.move rfl <| WL.nil ?_
                    exact ⟨_, ⟨k4 + 1, false, false, G16, rfl, (hle15.trans hle16), hS25, rfl, rfl, rfl, rfl, rfl, rfl, rfl, rfl, rfl, rfl, rfl, rfl, rfl, rfl, rfl, rfl, rfl, rfl, rfl, rfl, rfl, rfl, rfl, (by omega), (by first | exact frS_no (by assumption) (by assumption) (by assumption) | exact frS_yes (by assumption) (by assumption) (by assumption)), ((by first |  exact fiS (by assumption) (by assumption) (by rw [fitP_ne (by assumption), Bool.and_true]) | exact fiS (by assumption) (by assumption) (by rw [(by assumption : fi2 = false)]; rfl) | exact fiS (by assumption) (by assumption) (by rw [fitP_lo (by assumption) (by assumption)]; exact (Bool.and_false _).symm) | exact fiS (by assumption) (by assumption) (by rw [fitP_hi (by assumption) (by assumption)]; exact (Bool.and_false _).symm) | exact fiS (by assumption) (by assumption) (by rw [(by assumption : fi2 = true), fitP_yes (by assumption) (by assumption) (by assumption) (by assumption)]; rfl) | exact fiS (by assumption) (by assumption) (by rw [fitP_no (by assumption) (by assumption) (by assumption)]; exact (Bool.and_false _).symm) | exact fiS (by assumption) (by assumption) (by rw [(by assumption : fi2 = true), fitP_dec (by assumption) (by assumption) (by assumption) (by assumption)]; rfl)))⟩, (show on.length - (k4 + 1) < on.length - k4 by omega)⟩
                  have h12 : x4.1 < 0 := q1
                  clear q1
                  refine dr ⟨[0, 1, 3, 7, 15, 31, 63, 127, 255, 127, 639, 2047, 4095, 8191, 16383, 16383, 49151, 131071, 262143, 16383, 1048575, 2097151, 4194303], [0, 1, 2, 4, 5, 6, 7, 9, 10, 11, 12, 13, 14, 15, 17, 20, 21], [3, 8, 16, 18, 19], [], [22]⟩ [(95, .bool true), (96, .bool true), (97, .pointer (some ((⟨b3, 0, none⟩ : Addr).add 0))), (99, .bool false), (100, .bool false), (101, .bool false), (102, undef), (104, undef), (105, undef), (106, undef), (107, .bool false), (108, .bool false), (109, undef), (110, undef), (112, undef), (115, undef), (116, .bool false), (98, .int .i64 x4.1), (103, undef), (111, undef), (113, undef), (114, undef)] [o2] hS22 ?_ ?_ trivial (fun w8 hS26 => ?_)
                  · exact ⟨fun _ _ => WL.move rfl (WL.nu (congrArg Value.bool h11.symm)), fun _ _ => WL.move rfl <| WL.nu rfl, fun _ _ => WL.indexAddrA _ 2 0 rfl ul36 ti3 rfl rfl rfl <| WL.nu rfl, fun _ _ => WL.cmpV .geq rfl .i64 x4.1 0 _ hb6 rfl rfl rfl <| WL.nu rfl, fun _ _ => WL.pickT rfl rfl <| WL.nu rfl, fun _ _ => WL.move rfl <| WL.nu rfl, fun _ _ => WL.no rfl rfl <| WL.nu rfl, fun _ _ => WL.no rfl rfl <| WL.nu rfl, fun _ _ => WL.no rfl rfl <| WL.nu rfl, fun _ _ => WL.no rfl rfl <| WL.nu rfl, fun _ _ => WL.pickF rfl rfl <| WL.nu rfl, fun _ _ => WL.move rfl <| WL.nu rfl, fun _ _ => WL.no rfl rfl <| WL.nu rfl, fun _ _ => WL.no rfl rfl <| WL.nu rfl, fun _ _ => WL.no rfl rfl <| WL.nu rfl, fun _ _ => WL.no rfl rfl <| WL.nu rfl, fun _ _ => WL.pickF rfl rfl <| WL.nu rfl, trivial⟩
                  · exact ⟨fun _ hSw => WL.loadG1 hSw (Cells.drop 0 hc6) ti3 rfl rfl rfl <| WL.nu rfl, fun _ _ => WL.no rfl rfl <| WL.nu rfl, fun _ _ => WL.no rfl rfl <| WL.nu rfl, fun _ _ => WL.no rfl rfl <| WL.nu rfl, fun _ _ => WL.no rfl rfl <| WL.nu rfl, trivial⟩
                  refine TL.step rfl ?_
                  refine WL.assign rfl ?_
                  refine WL.nil ⟨fun h => absurd h (by decide), ?_⟩
                  refine WC.region rfl ?_
                  refine WL.incr k4 (by have hreach : reach = 140737488355328 := rfl; omega) rfl rfl rfl ?_
                  refine WL.move rfl <| WL.nil ?_
                  exact ⟨_, ⟨k4 + 1, false, false, G16, rfl, (hle15.trans hle16), hS26, rfl, rfl, rfl, rfl, rfl, rfl, rfl, rfl, rfl, rfl, rfl, rfl, rfl, rfl, rfl, rfl, rfl, rfl, rfl, rfl, rfl, rfl, rfl, (by omega), (by first | exact frS_no (by assumption) (by assumption) (by assumption) | exact frS_yes (by assumption) (by assumption) (by assumption)), ((by first |  exact fiS (by assumption) (by assumption) (by rw [fitP_ne (by assumption), Bool.and_true]) | exact fiS (by assumption) (by assumption) (by rw [(by assumption : fi2 = false)]; rfl) | exact fiS (by assumption) (by assumption) (by rw [fitP_lo (by assumption) (by assumption)]; exact (Bool.and_false _).symm) | exact fiS (by assumption) (by assumption) (by rw [fitP_hi (by assumption) (by assumption)]; exact (Bool.and_false _).symm) | exact fiS (by assumption) (by assumption) (by rw [(by assumption : fi2 = true), fitP_yes (by assumption) (by assumption) (by assumption) (by assumption)]; rfl) | exact fiS (by assumption) (by assumption) (by rw [fitP_no (by assumption) (by assumption) (by assumption)]; exact (Bool.and_false _).symm) | exact fiS (by assumption) (by assumption) (by rw [(by assumption : fi2 = true), fitP_dec (by assumption) (by assumption) (by assumption) (by assumption)]; rfl)))⟩, (show on.length - (k4 + 1) < on.length - k4 by omega)⟩
                refine dr ⟨[0, 1, 3, 7, 15, 31, 63, 127, 255, 127, 639, 2047, 4095, 8191, 16383, 16383, 49151, 131071, 262143, 16383, 1048575, 2097151, 4194303], [0, 1, 2, 4, 5, 6, 7, 9, 10, 11, 12, 13, 14, 15, 17, 20, 21], [3, 8, 16, 18, 19], [], [22]⟩ [(95, .bool false), (96, .bool false), (97, undef), (99, undef), (100, .bool false), (101, .bool false), (102, undef), (104, undef), (105, undef), (106, undef), (107, .bool false), (108, .bool false), (109, undef), (110, undef), (112, undef), (115, undef), (116, .bool false), (98, undef), (103, undef), (111, undef), (113, undef), (114, undef)] [o2] hS22 ?_ ?_ trivial (fun w8 hS27 => ?_)
                · exact ⟨fun _ _ => WL.move rfl (WL.nu (congrArg Value.bool h11.symm)), fun _ _ => WL.move rfl <| WL.nu rfl, fun _ _ => WL.no rfl rfl <| WL.nu rfl, fun _ _ => WL.no rfl rfl <| WL.nu rfl, fun _ _ => WL.pickF rfl rfl <| WL.nu rfl, fun _ _ => WL.move rfl <| WL.nu rfl, fun _ _ => WL.no rfl rfl <| WL.nu rfl, fun _ _ => WL.no rfl rfl <| WL.nu rfl, fun _ _ => WL.no rfl rfl <| WL.nu rfl, fun _ _ => WL.no rfl rfl <| WL.nu rfl, fun _ _ => WL.pickF rfl rfl <| WL.nu rfl, fun _ _ => WL.move rfl <| WL.nu rfl, fun _ _ => WL.no rfl rfl <| WL.nu rfl, fun _ _ => WL.no rfl rfl <| WL.nu rfl, fun _ _ => WL.no rfl rfl <| WL.nu rfl, fun _ _ => WL.no rfl rfl <| WL.nu rfl, fun _ _ => WL.pickF rfl rfl <| WL.nu rfl, trivial⟩
                · exact ⟨fun _ _ => WL.no rfl rfl <| WL.nu rfl, fun _ _ => WL.no rfl rfl <| WL.nu rfl, fun _ _ => WL.no rfl rfl <| WL.nu rfl, fun _ _ => WL.no rfl rfl <| WL.nu rfl, fun _ _ => WL.no rfl rfl <| WL.nu rfl, trivial⟩
                refine TL.step rfl ?_
                refine WL.assign rfl ?_
                refine WL.nil ⟨fun h => absurd h (by decide), ?_⟩
                refine WC.region rfl ?_
                refine WL.incr k4 (by have hreach : reach = 140737488355328 := rfl; omega) rfl rfl rfl ?_
                refine WL.move rfl <| WL.nil ?_
                exact ⟨_, ⟨k4 + 1, false, false, G16, rfl, (hle15.trans hle16), hS27, rfl, rfl, rfl, rfl, rfl, rfl, rfl, rfl, rfl, rfl, rfl, rfl, rfl, rfl, rfl, rfl, rfl, rfl, rfl, rfl, rfl, rfl, rfl, (by omega), (by first | exact frS_no (by assumption) (by assumption) (by assumption) | exact frS_yes (by assumption) (by assumption) (by assumption)), ((by first |  exact fiS (by assumption) (by assumption) (by rw [fitP_ne (by assumption), Bool.and_true]) | exact fiS (by assumption) (by assumption) (by rw [(by assumption : fi2 = false)]; rfl) | exact fiS (by assumption) (by assumption) (by rw [fitP_lo (by assumption) (by assumption)]; exact (Bool.and_false _).symm) | exact fiS (by assumption) (by assumption) (by rw [fitP_hi (by assumption) (by assumption)]; exact (Bool.and_false _).symm) | exact fiS (by assumption) (by assumption) (by rw [(by assumption : fi2 = true), fitP_yes (by assumption) (by assumption) (by assumption) (by assumption)]; rfl) | exact fiS (by assumption) (by assumption) (by rw [fitP_no (by assumption) (by assumption) (by assumption)]; exact (Bool.and_false _).symm) | exact fiS (by assumption) (by assumption) (by rw [(by assumption : fi2 = true), fitP_dec (by assumption) (by assumption) (by assumption) (by assumption)]; rfl)))⟩, (show on.length - (k4 + 1) < on.length - k4 by omega)⟩
              refine WL.nil <| WC.condF rfl <| WC.skip <| WC.region rfl ?_
              refine WL.incr k4 (by have hreach : reach = 140737488355328 := rfl; omega) rfl rfl rfl ?_
              refine WL.move rfl <| WL.nil ?_
              exact ⟨_, ⟨k4 + 1, fi2, fr, G16, rfl, (hle15.trans hle16), hS22, rfl, rfl, rfl, rfl, rfl, rfl, rfl, rfl, rfl, rfl, rfl, rfl, rfl, rfl, rfl, rfl, rfl, rfl, rfl, rfl, rfl, rfl, rfl, (by omega), (by first | exact frS_no (by assumption) (by assumption) (by assumption) | exact frS_yes (by assumption) (by assumption) (by assumption)), ((by first |  exact fiS (by assumption) (by assumption) (by rw [fitP_ne (by assumption), Bool.and_true]) | exact fiS (by assumption) (by assumption) (by rw [(by assumption : fi2 = false)]; rfl) | exact fiS (by assumption) (by assumption) (by rw [fitP_lo (by assumption) (by assumption)]; exact (Bool.and_false _).symm) | exact fiS (by assumption) (by assumption) (by rw [fitP_hi (by assumption) (by assumption)]; exact (Bool.and_false _).symm) | exact fiS (by assumption) (by assumption) (by rw [(by assumption : fi2 = true), fitP_yes (by assumption) (by assumption) (by assumption) (by assumption)]; rfl) | exact fiS (by assumption) (by assumption) (by rw [fitP_no (by assumption) (by assumption) (by assumption)]; exact (Bool.and_false _).symm) | exact fiS (by assumption) (by assumption) (by rw [(by assumption : fi2 = true), fitP_dec (by assumption) (by assumption) (by assumption) (by assumption)]; rfl)))⟩, (show on.length - (k4 + 1) < on.length - k4 by omega)⟩
            refine WL.nil <| WC.seq <| WC.condF rfl <| WC.exit <| WC.seq <| WC.region rfl <| WL.move rfl ?_
            refine WL.split (fun (h15 : fr = true) => ?_) (fun (h15 : fr = false) => ?_)
            · refine WL.nil <| WC.condT rfl <| WC.region rfl <| WL.move rfl ?_
              refine WL.loadGAt hS19 (hc4.mono hle15) [.int .i64 z9.k, .int .i64 z9.n, strV z9.s] ti35 rfl rfl rfl rfl rfl ?_
              refine WL.buildSlice _ [(0, [.int .i64 z9.k, .int .i64 z9.n, strV z9.s])] [.int .i64 z9.k, .int .i64 z9.n, strV z9.s] hS19 sl32 rfl rfl rfl rfl (fun z hz => by match z, hz with | [z0, z1, z2], _ => rfl) (fun b4 w24 hn4 hS28 => ?_)
              refine WL.push (m := ([z9] : List Val)) sl32 rfl rfl rfl (hr4.mono (hle14.trans hle15)) hS28 1 rfl 0 _ _ _ _ _ rfl ⟨[.int .i64 z9.k, .int .i64 z9.n, strV z9.s], _, rfl, (ValE_mk z9 hb1 hb2 hb3), rfl⟩ rfl (by have hreach : reach = 140737488355328 := rfl; simp only [List.length_append, List.length_cons, List.length_nil]; omega) (by have hreach : reach = 140737488355328 := rfl; simp only [List.length_append, List.length_cons, List.length_nil]; omega) rfl rfl rfl (fun v4 o3 w25 hr8 hS29 => ?_)
              have hS30 := hS29.tail
              refine WL.assign rfl <| WL.nil <| WC.region rfl ?_
              refine WL.incr k3 (by have hreach : reach = 140737488355328 := rfl; omega) rfl rfl rfl ?_
              refine WL.move rfl <| WL.nil ?_
              exact ⟨_, ⟨k3 + 1, fi2, v4, o3, G15, rfl, (hle13.trans (hle14.trans hle15)), hS30, (Row.cast hr8 (by (first | exact (restV_stepT hz9 (by assumption : fr = _) (by omega) (by assumption)).symm | exact (restV_stepF hz9 (by assumption : fr = _) (by omega) (by assumption)).symm))), rfl, rfl, rfl, rfl, rfl, rfl, rfl, rfl, rfl, rfl, rfl, rfl, rfl, rfl, rfl, rfl, rfl, (by omega), (by exact fiV hz9 (by assumption) (by assumption) (by omega))⟩, (show y9.length - (k3 + 1) < y9.length - k3 by omega)⟩
            refine WL.nil <| WC.condF rfl <| WC.skip <| WC.region rfl ?_
            refine WL.incr k3 (by have hreach : reach = 140737488355328 := rfl; omega) rfl rfl rfl ?_
            refine WL.move rfl <| WL.nil ?_
            exact ⟨_, ⟨k3 + 1, fi2, v3, o2, G15, rfl, (hle13.trans (hle14.trans hle15)), hS19, (Row.cast (hr4.mono (hle14.trans hle15)) (by (first | exact (restV_stepT hz9 (by assumption : fr = _) (by omega) (by assumption)).symm | exact (restV_stepF hz9 (by assumption : fr = _) (by omega) (by assumption)).symm))), rfl, rfl, rfl, rfl, rfl, rfl, rfl, rfl, rfl, rfl, rfl, rfl, rfl, rfl, rfl, rfl, rfl, (by omega), (by exact fiV hz9 (by assumption) (by assumption) (by omega))⟩, (show y9.length - (k3 + 1) < y9.length - k3 by omega)⟩
          refine WL.nil <| WC.seq <| WC.condF rfl <| WC.exit <| WC.seq <| WC.region rfl <| WL.move rfl ?_
          refine WL.split (fun (h16 : fi = true) => ?_) (fun (h16 : fi = false) => ?_)
          · refine WL.nil <| WC.condT rfl <| WC.seq <| WC.region rfl <| WL.move rfl ?_
            refine WL.incr n2 (by have hreach : reach = 140737488355328 := rfl; omega) rfl rfl rfl ?_
            refine WL.assign rfl <| WL.nil <| WC.seq <| WC.region rfl <| WL.move rfl <| WL.move rfl ?_
            obtain ⟨G17, hle17, hs5, hS31⟩ := Row.freeze hr4 hS15 0 rfl
            refine WL.callF [r8, v3] #[] hF10 rfl rfl rfl ((c_has _ _ hS31.imm (atL (joinL a b on) t) (x9 ++ restV on (y9.take k3)) _ (hpost6.mono ((((((hle8.trans hle9).trans hle10).trans hle11).trans hle12).trans hle13).trans hle17)) _ hs5 ).mono ?_)
            rintro e w26 ⟨r12, G18, rfl, hres10, hpost10⟩
            refine ⟨_, rfl, ?_⟩
            have hS32 := hS31.call hres10
            have hle18 := hres10.le
            subst hpost10
            refine WL.split (fun (h17 : ((atL (joinL a b on) t).any fun q => decide (q = (x9 ++ restV on (y9.take k3)))) = true) => ?_) (fun (h17 : ((atL (joinL a b on) t).any fun q => decide (q = (x9 ++ restV on (y9.take k3)))) = false) => ?_)
            · refine WL.not true rfl rfl ?_
              refine WL.nil <| WC.condF rfl <| WC.skip <| WC.region rfl ?_
              refine WL.incr k2 (by have hreach : reach = 140737488355328 := rfl; omega) rfl rfl rfl ?_
              refine WL.move rfl <| WL.nil ?_
              have hS33 := hS32.tail
              exact ⟨_, ⟨k2 + 1, n2 + 1, G18, rfl, (hle11.trans (((hle12.trans hle13).trans hle17).trans hle18)), hS33, rfl, rfl, rfl, rfl, rfl, rfl, rfl, rfl, rfl, rfl, rfl, rfl, (by omega), (by rw [pairG_take hy9, fitsV_all (by assumption) (by omega)]; first | (rw [if_pos (by assumption : fi = true)]; omega) | (rw [if_neg (Bool.eq_false_iff.1 (by assumption : fi = false))]; omega))⟩, (show (atL b t).length - (k2 + 1) < (atL b t).length - k2 by omega)⟩
            refine WL.not false rfl rfl ?_
            refine WL.nil <| WC.condT rfl <| WC.seq <| WC.region rfl <| WL.assign rfl <| WL.nil ?_
            refine WC.ret ?_
            exact ⟨.bool false, rfl, .bool false, _, rfl, hS32.res, (congrArg Value.bool (by first | rfl | exact decide_eq_true (join_err (by assumption)) | (simp [Cmp.b, join_err (by assumption)]; done) | (have hq9 := pairs_has hva9 hvb9 (by assumption) hx9 hy9 (by rw [fitsV_all (by assumption) (by omega)]; assumption); rw [restV_all (by omega)] at *; simp_all; done) | (rw [pairN_full (by omega)] at *; have hq9 := hnow.2; simp [Cmp.b]; omega)))⟩
          refine WL.nil <| WC.condF rfl <| WC.skip <| WC.region rfl ?_
          refine WL.incr k2 (by have hreach : reach = 140737488355328 := rfl; omega) rfl rfl rfl ?_
          refine WL.move rfl <| WL.nil ?_
          have hS34 := hS15.tail
          exact ⟨_, ⟨k2 + 1, n2, G13, rfl, (hle11.trans (hle12.trans hle13)), hS34, rfl, rfl, rfl, rfl, rfl, rfl, rfl, rfl, rfl, rfl, rfl, rfl, (by omega), (by rw [pairG_take hy9, fitsV_all (by assumption) (by omega)]; first | (rw [if_pos (by assumption : fi = true)]; omega) | (rw [if_neg (Bool.eq_false_iff.1 (by assumption : fi = false))]; omega))⟩, (show (atL b t).length - (k2 + 1) < (atL b t).length - k2 by omega)⟩
        refine WL.nil <| WC.seq <| WC.condF rfl <| WC.exit <| WC.region rfl ?_
        refine WL.incr k1 (by have hreach : reach = 140737488355328 := rfl; omega) rfl rfl rfl ?_
        refine WL.move rfl <| WL.nil ?_
        exact ⟨_, ⟨k1 + 1, n2, G11, rfl, (hle9.trans (hle10.trans hle11)), hS12, rfl, rfl, rfl, rfl, rfl, rfl, rfl, rfl, (by omega), (by exact pairN_step (k2 := k2) hx9 (by omega) (by assumption))⟩, (show (atL a t).length - (k1 + 1) < (atL a t).length - k1 by omega)⟩
      refine WL.nil <| WC.seq <| WC.condF rfl <| WC.exit <| WC.seq <| WC.region rfl <| WL.move rfl ?_
      have bd8 := hpost6.bound
      refine WL.lenSl (hpost6.mono (hle8.trans hle9)) ul30 rfl rfl ?_
      refine WL.move rfl ?_
      refine WL.cmp .eql rfl .i64 (((atL (joinL a b on) t).length : Nat) : Int) (n : Int) rfl rfl rfl ?_
      refine WL.assign rfl <| WL.nil ?_
      refine WC.ret ?_
      exact ⟨.bool (Cmp.b .eql (((atL (joinL a b on) t).length : Nat) : Int) (n : Int)), rfl, .bool (Cmp.b .eql (((atL (joinL a b on) t).length : Nat) : Int) (n : Int)), _, rfl, hS10.res, (congrArg Value.bool (by first | rfl | exact decide_eq_true (join_err (by assumption)) | (simp [Cmp.b, join_err (by assumption)]; done) | (have hq9 := pairs_has hva9 hvb9 (by assumption) hx9 hy9 (by rw [fitsV_all (by assumption) (by omega)]; assumption); rw [restV_all (by omega)] at *; simp_all; done) | (rw [pairN_full (by omega)] at *; have hq9 := hnow.2; simp [Cmp.b]; omega)))⟩
    refine WL.not false rfl rfl ?_
    refine WL.pickF rfl rfl <| WL.nil <| WC.condT rfl <| WC.seq <| WC.region rfl <| WL.assign rfl <| WL.nil ?_
    refine WC.ret ?_
    exact ⟨.bool true, rfl, .bool true, _, rfl, hS6.res, (congrArg Value.bool (by first | rfl | exact decide_eq_true (join_err (by assumption)) | (simp [Cmp.b, join_err (by assumption)]; done) | (have hq9 := pairs_has hva9 hvb9 (by assumption) hx9 hy9 (by rw [fitsV_all (by assumption) (by omega)]; assumption); rw [restV_all (by omega)] at *; simp_all; done) | (rw [pairN_full (by omega)] at *; have hq9 := hnow.2; simp [Cmp.b]; omega)))⟩
  refine WL.not false rfl rfl ?_
  refine WL.pickF rfl rfl <| WL.move rfl <| WL.no rfl rfl <| WL.no rfl rfl <| WL.no rfl rfl <| WL.pickT rfl rfl <| WL.nil <| WC.condT rfl <| WC.seq <| WC.region rfl <| WL.assign rfl <| WL.nil ?_
  refine WC.ret ?_
  exact ⟨.bool true, rfl, .bool true, _, rfl, hS5.res, (congrArg Value.bool (by first | rfl | exact decide_eq_true (join_err (by assumption)) | (simp [Cmp.b, join_err (by assumption)]; done) | (have hq9 := pairs_has hva9 hvb9 (by assumption) hx9 hy9 (by rw [fitsV_all (by assumption) (by omega)]; assumption); rw [restV_all (by omega)] at *; simp_all; done) | (rw [pairN_full (by omega)] at *; have hq9 := hnow.2; simp [Cmp.b]; omega)))⟩
end Go.Civ
