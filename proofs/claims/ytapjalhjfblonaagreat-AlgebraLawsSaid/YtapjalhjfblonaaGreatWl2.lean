/- Walks, printed by specs38.py. -/
import Derived.Test.YtapjalhjfblonaaGreatProg
import Derived.KernelRfl
import Derived.WalkKit
import Derived.Test.YtapjalhjfblonaaGreatWi
import Derived.Test.YtapjalhjfblonaaGreatCiv24
set_option linter.unusedVariables false
set_option linter.unusedSimpArgs false
set_option maxRecDepth 100000
set_option maxHeartbeats 4000000
namespace Go.Civ
open Go.Proofs


theorem c_SlEqualV (G : GH) (w : World) (hG : G.In w) (a b : List Val) (va : Value) (hva : Sl ValE 32 G va a) (vb : Value) (hvb : Sl ValE 32 G vb b)  : Calls Tryz.prog (nat_lit 144) #[va, vb] w fun e w' => ∃ r G', e = .returned r ∧ Res [] w G w' G' ∧ r = .bool (decide (a = b)) := by
  refine calls_of_WC (N := 26) Tryz.func144 rfl rfl rfl ?_
  have hS := St.start (X := []) hG
  refine WC.seq <| WC.region rfl <| WL.assign rfl <| WL.nil <| WC.seq <| WC.seq <| WC.region rfl <| WL.move rfl ?_
  have bd1 := hva.bound
  refine WL.lenSl hva ul61 rfl rfl ?_
  refine WL.move rfl ?_
  have bd2 := hvb.bound
  refine WL.lenSl hvb ul61 rfl rfl ?_
  refine WL.neqS (a.length : Int) (b.length : Int) rfl rfl rfl (fun h1 => ?_) (fun h1 => ?_)
  · refine WL.nil <| WC.condT rfl <| WC.seq <| WC.region rfl <| WL.assign rfl <| WL.nil ?_
    refine WC.ret ?_
    exact ⟨.bool false, rfl, .bool false, _, rfl, hS.res, (congrArg Value.bool (by rw [← eqF_eq]; exact (eqF_len (by omega)).symm))⟩
  refine WL.nil <| WC.condF rfl <| WC.skip <| WC.seq <| WC.seq <| WC.region rfl <| WL.move rfl ?_
  have bd3 := hva.bound
  refine WL.lenSl hva ul61 rfl rfl ?_
  refine WL.move rfl <| WL.nil <| WC.block ?_
  refine WC.loop (γ := Nat) (fun m ρ1 w1 => ∃ (k1 : Nat), ∃ (G1 : GH), m = a.length - k1 ∧ G.le G1 ∧ St w [] G G1 [] w1 ∧ ρ1 0 = va ∧ ρ1 1 = vb ∧ ρ1 12 = .int .i64 (a.length : Int) ∧ ρ1 13 = .int .i64 (k1 : Int) ∧ k1 ≤ a.length ∧ ∀ j, j < k1 → ∀ x y, a[j]? = some x → b[j]? = some y → decide (x = y) = true) (fun m => m) _ ⟨0, G, rfl, (G.le_refl), hS, rfl, rfl, rfl, rfl, (by omega), (by intro j hj; omega)⟩ ?_
  rintro m ρ1 w1 ⟨k1, G1, rfl, hle1, hS1, e1, e2, e3, e4, f1, f2⟩
  refine WC.set (d := 0) e1 ?_
  refine WC.set (d := 1) e2 ?_
  refine WC.set (d := 12) e3 ?_
  refine WC.set (d := 13) e4 ?_
  refine WC.seq <| WC.region rfl ?_
  refine WL.lssS (k1 : Int) (a.length : Int) rfl rfl rfl (fun h2 => ?_) (fun h2 => ?_)
  · refine WL.nil <| WC.seq <| WC.condT rfl <| WC.skip <| WC.seq <| WC.block <| WC.seq <| WC.region rfl <| WL.move rfl <| WL.assign rfl <| WL.nil <| WC.seq ?_
    obtain ⟨p1, x1, hx1, he1, ep1⟩ := Sl.at (hva.mono hle1) k1 (by omega)
    obtain ⟨cs1, hc1, hr1⟩ := he1
    obtain ⟨rfl, hb1, hb2, hb3⟩ := ValE_open hr1
    obtain ⟨p2, x2, hx2, he2, ep2⟩ := Sl.at (hvb.mono hle1) k1 (by omega)
    obtain ⟨cs2, hc2, hr2⟩ := he2
    obtain ⟨rfl, hb4, hb5, hb6⟩ := ValE_open hr2
    rcases Classical.em (x1 = x2) with h3 | h3
    · refine dr ⟨[0, 0, 3, 7, 0, 0, 48, 112, 255], [0, 1, 2, 4, 5, 6, 8], [3, 7], [], []⟩ [(16, va), (17, .int .i64 (k1 : Int)), (18, .pointer (some p1)), (20, vb), (21, .int .i64 (k1 : Int)), (22, .pointer (some p2)), (24, .bool false), (19, .agg #[.int .i64 x1.k, .int .i64 x1.n, strV x1.s]), (23, .agg #[.int .i64 x2.k, .int .i64 x2.n, strV x2.s])] [] hS1 ?_ ?_ trivial (fun w8 hS2 => ?_)
      · exact ⟨fun _ _ => WL.move rfl <| WL.nu rfl, fun _ _ => WL.move rfl <| WL.nu rfl, fun _ _ => WL.indexAddrP k1 ep1 ul61 ti34 rfl rfl rfl rfl <| WL.nu rfl, fun _ _ => WL.move rfl <| WL.nu rfl, fun _ _ => WL.move rfl <| WL.nu rfl, fun _ _ => WL.indexAddrP k1 ep2 ul61 ti34 rfl rfl rfl rfl <| WL.nu rfl, fun _ _ => WL.aggEqNV false (ValEq34 x1 x2) eqg34 (by simp [h3]) rfl rfl rfl <| WL.nu rfl, trivial⟩
      · exact ⟨fun _ hSw => WL.loadGAt hSw hc1 [.int .i64 x1.k, .int .i64 x1.n, strV x1.s] ti34 rfl rfl rfl rfl rfl <| WL.nu rfl, fun _ hSw => WL.loadGAt hSw hc2 [.int .i64 x2.k, .int .i64 x2.n, strV x2.s] ti34 rfl rfl rfl rfl rfl <| WL.nu rfl, trivial⟩
      refine WC.condF rfl <| WC.skip <| WC.region rfl ?_
      refine WL.incr k1 (by have hreach : reach = 140737488355328 := rfl; omega) rfl rfl rfl ?_
      refine WL.move rfl <| WL.nil ?_
      exact ⟨_, ⟨k1 + 1, G1, rfl, hle1, hS2, rfl, rfl, rfl, rfl, (by omega), (by exact lt_step2 (by assumption) (by assumption) (by assumption) (decide_eq_true (by simp_all)))⟩, (show a.length - (k1 + 1) < a.length - k1 by omega)⟩
    refine dr ⟨[0, 0, 3, 7, 0, 0, 48, 112, 255], [0, 1, 2, 4, 5, 6, 8], [3, 7], [], []⟩ [(16, va), (17, .int .i64 (k1 : Int)), (18, .pointer (some p1)), (20, vb), (21, .int .i64 (k1 : Int)), (22, .pointer (some p2)), (24, .bool true), (19, .agg #[.int .i64 x1.k, .int .i64 x1.n, strV x1.s]), (23, .agg #[.int .i64 x2.k, .int .i64 x2.n, strV x2.s])] [] hS1 ?_ ?_ trivial (fun w8 hS3 => ?_)
    · exact ⟨fun _ _ => WL.move rfl <| WL.nu rfl, fun _ _ => WL.move rfl <| WL.nu rfl, fun _ _ => WL.indexAddrP k1 ep1 ul61 ti34 rfl rfl rfl rfl <| WL.nu rfl, fun _ _ => WL.move rfl <| WL.nu rfl, fun _ _ => WL.move rfl <| WL.nu rfl, fun _ _ => WL.indexAddrP k1 ep2 ul61 ti34 rfl rfl rfl rfl <| WL.nu rfl, fun _ _ => WL.aggEqNV true (ValEq34 x1 x2) eqg34 (by simp [h3]) rfl rfl rfl <| WL.nu rfl, trivial⟩
    · exact ⟨fun _ hSw => WL.loadGAt hSw hc1 [.int .i64 x1.k, .int .i64 x1.n, strV x1.s] ti34 rfl rfl rfl rfl rfl <| WL.nu rfl, fun _ hSw => WL.loadGAt hSw hc2 [.int .i64 x2.k, .int .i64 x2.n, strV x2.s] ti34 rfl rfl rfl rfl rfl <| WL.nu rfl, trivial⟩
    refine WC.condT rfl <| WC.seq <| WC.region rfl <| WL.assign rfl <| WL.nil ?_
    refine WC.ret ?_
    exact ⟨.bool false, rfl, .bool false, _, rfl, hS3.res, (congrArg Value.bool (by rw [← eqF_eq]; exact (eqF_no (f := fun (x y : Val) => decide (x = y)) (by assumption) (by assumption) (decide_eq_false (by simp_all))).symm))⟩
  refine WL.nil <| WC.seq <| WC.condF rfl <| WC.exit <| WC.seq <| WC.region rfl <| WL.assign rfl <| WL.nil ?_
  refine WC.ret ?_
  exact ⟨.bool true, rfl, .bool true, _, rfl, hS1.res, (congrArg Value.bool (by rw [← eqF_eq]; exact (eqF_yes (by omega) (by assumption) (by omega)).symm))⟩

theorem c_SlEqualI (G : GH) (w : World) (hG : G.In w) (a b : List Int) (va : Value) (hva : Sl Enc.int 8 G va a) (vb : Value) (hvb : Sl Enc.int 8 G vb b)  : Calls Tryz.prog (nat_lit 49) #[va, vb] w fun e w' => ∃ r G', e = .returned r ∧ Res [] w G w' G' ∧ r = .bool (decide (a = b)) := by
  refine calls_of_WC (N := 26) Tryz.func49 rfl rfl rfl ?_
  have hS := St.start (X := []) hG
  refine WC.seq <| WC.region rfl <| WL.assign rfl <| WL.nil <| WC.seq <| WC.seq <| WC.region rfl <| WL.move rfl ?_
  have bd1 := hva.bound
  refine WL.lenSl hva ul38 rfl rfl ?_
  refine WL.move rfl ?_
  have bd2 := hvb.bound
  refine WL.lenSl hvb ul38 rfl rfl ?_
  refine WL.neqS (a.length : Int) (b.length : Int) rfl rfl rfl (fun h1 => ?_) (fun h1 => ?_)
  · refine WL.nil <| WC.condT rfl <| WC.seq <| WC.region rfl <| WL.assign rfl <| WL.nil ?_
    refine WC.ret ?_
    exact ⟨.bool false, rfl, .bool false, _, rfl, hS.res, (congrArg Value.bool (by rw [← eqF_eq]; exact (eqF_len (by omega)).symm))⟩
  refine WL.nil <| WC.condF rfl <| WC.skip <| WC.seq <| WC.seq <| WC.region rfl <| WL.move rfl ?_
  have bd3 := hva.bound
  refine WL.lenSl hva ul38 rfl rfl ?_
  refine WL.move rfl <| WL.nil <| WC.block ?_
  refine WC.loop (γ := Nat) (fun m ρ1 w1 => ∃ (k1 : Nat), ∃ (G1 : GH), m = a.length - k1 ∧ G.le G1 ∧ St w [] G G1 [] w1 ∧ ρ1 0 = va ∧ ρ1 1 = vb ∧ ρ1 12 = .int .i64 (a.length : Int) ∧ ρ1 13 = .int .i64 (k1 : Int) ∧ k1 ≤ a.length ∧ ∀ j, j < k1 → ∀ x y, a[j]? = some x → b[j]? = some y → decide (x = y) = true) (fun m => m) _ ⟨0, G, rfl, (G.le_refl), hS, rfl, rfl, rfl, rfl, (by omega), (by intro j hj; omega)⟩ ?_
  rintro m ρ1 w1 ⟨k1, G1, rfl, hle1, hS1, e1, e2, e3, e4, f1, f2⟩
  refine WC.set (d := 0) e1 ?_
  refine WC.set (d := 1) e2 ?_
  refine WC.set (d := 12) e3 ?_
  refine WC.set (d := 13) e4 ?_
  refine WC.seq <| WC.region rfl ?_
  refine WL.lssS (k1 : Int) (a.length : Int) rfl rfl rfl (fun h2 => ?_) (fun h2 => ?_)
  · refine WL.nil <| WC.seq <| WC.condT rfl <| WC.skip <| WC.seq <| WC.block <| WC.seq <| WC.region rfl <| WL.move rfl <| WL.assign rfl <| WL.nil <| WC.seq ?_
    obtain ⟨p1, x1, hx1, he1, ep1⟩ := Sl.at (hva.mono hle1) k1 (by omega)
    obtain ⟨cs1, hc1, hr1⟩ := he1
    obtain ⟨rfl, hb1⟩ := hr1
    obtain ⟨p2, x2, hx2, he2, ep2⟩ := Sl.at (hvb.mono hle1) k1 (by omega)
    obtain ⟨cs2, hc2, hr2⟩ := he2
    obtain ⟨rfl, hb2⟩ := hr2
    rcases Cmp.dec .neq x1 x2 with ⟨hb3, q1⟩ | ⟨hb3, q1⟩
    · have h3 : x1 ≠ x2 := q1
      clear q1
      refine dr ⟨[0, 0, 3, 7, 0, 0, 48, 112, 255], [0, 1, 2, 4, 5, 6, 8], [3, 7], [], []⟩ [(16, va), (17, .int .i64 (k1 : Int)), (18, .pointer (some p1)), (20, vb), (21, .int .i64 (k1 : Int)), (22, .pointer (some p2)), (24, .bool true), (19, .int .i64 x1), (23, .int .i64 x2)] [] hS1 ?_ ?_ trivial (fun w8 hS2 => ?_)
      · exact ⟨fun _ _ => WL.move rfl <| WL.nu rfl, fun _ _ => WL.move rfl <| WL.nu rfl, fun _ _ => WL.indexAddrP k1 ep1 ul38 ti3 rfl rfl rfl rfl <| WL.nu rfl, fun _ _ => WL.move rfl <| WL.nu rfl, fun _ _ => WL.move rfl <| WL.nu rfl, fun _ _ => WL.indexAddrP k1 ep2 ul38 ti3 rfl rfl rfl rfl <| WL.nu rfl, fun _ _ => WL.cmpV .neq rfl .i64 x1 x2 _ hb3 rfl rfl rfl <| WL.nu rfl, trivial⟩
      · exact ⟨fun _ hSw => WL.loadG1 hSw hc1 ti3 rfl rfl rfl <| WL.nu rfl, fun _ hSw => WL.loadG1 hSw hc2 ti3 rfl rfl rfl <| WL.nu rfl, trivial⟩
      refine WC.condT rfl <| WC.seq <| WC.region rfl <| WL.assign rfl <| WL.nil ?_
      refine WC.ret ?_
      exact ⟨.bool false, rfl, .bool false, _, rfl, hS2.res, (congrArg Value.bool (by rw [← eqF_eq]; exact (eqF_no (f := fun (x y : Int) => decide (x = y)) (by assumption) (by assumption) (decide_eq_false (by simp_all))).symm))⟩
    have h3 : x1 = x2 := q1
    clear q1
    refine dr ⟨[0, 0, 3, 7, 0, 0, 48, 112, 255], [0, 1, 2, 4, 5, 6, 8], [3, 7], [], []⟩ [(16, va), (17, .int .i64 (k1 : Int)), (18, .pointer (some p1)), (20, vb), (21, .int .i64 (k1 : Int)), (22, .pointer (some p2)), (24, .bool false), (19, .int .i64 x1), (23, .int .i64 x2)] [] hS1 ?_ ?_ trivial (fun w8 hS3 => ?_)
    · exact ⟨fun _ _ => WL.move rfl <| WL.nu rfl, fun _ _ => WL.move rfl <| WL.nu rfl, fun _ _ => WL.indexAddrP k1 ep1 ul38 ti3 rfl rfl rfl rfl <| WL.nu rfl, fun _ _ => WL.move rfl <| WL.nu rfl, fun _ _ => WL.move rfl <| WL.nu rfl, fun _ _ => WL.indexAddrP k1 ep2 ul38 ti3 rfl rfl rfl rfl <| WL.nu rfl, fun _ _ => WL.cmpV .neq rfl .i64 x1 x2 _ hb3 rfl rfl rfl <| WL.nu rfl, trivial⟩
    · exact ⟨fun _ hSw => WL.loadG1 hSw hc1 ti3 rfl rfl rfl <| WL.nu rfl, fun _ hSw => WL.loadG1 hSw hc2 ti3 rfl rfl rfl <| WL.nu rfl, trivial⟩
    refine WC.condF rfl <| WC.skip <| WC.region rfl ?_
    refine WL.incr k1 (by have hreach : reach = 140737488355328 := rfl; omega) rfl rfl rfl ?_
    refine WL.move rfl <| WL.nil ?_
    exact ⟨_, ⟨k1 + 1, G1, rfl, hle1, hS3, rfl, rfl, rfl, rfl, (by omega), (by exact lt_step2 (by assumption) (by assumption) (by assumption) (decide_eq_true (by simp_all)))⟩, (show a.length - (k1 + 1) < a.length - k1 by omega)⟩
  refine WL.nil <| WC.seq <| WC.condF rfl <| WC.exit <| WC.seq <| WC.region rfl <| WL.assign rfl <| WL.nil ?_
  refine WC.ret ?_
  exact ⟨.bool true, rfl, .bool true, _, rfl, hS1.res, (congrArg Value.bool (by rw [← eqF_eq]; exact (eqF_yes (by omega) (by assumption) (by omega)).symm))⟩

theorem c_vSame (G : GH) (w : World) (hG : G.In w) (a b : List Val) (va : Value) (hva : Sl ValE 32 G va a) (vb : Value) (hvb : Sl ValE 32 G vb b)  : Calls Tryz.prog (nat_lit 91) #[va, vb] w fun e w' => ∃ r G', e = .returned r ∧ Res [] w G w' G' ∧ r = .bool (decide (a = b)) := by
  refine calls_of_WC (N := 8) Tryz.func91 rfl rfl rfl ?_
  have hS := St.start (X := []) hG
  refine WC.seq <| WC.region rfl <| WL.assign rfl <| WL.nil <| WC.seq <| WC.region rfl <| WL.move rfl <| WL.move rfl ?_
  refine WL.callF [va, vb] #[] hb144 rfl rfl rfl ((c_SlEqualV _ _ hS.imm a b _ hva _ hvb ).mono ?_)
  rintro e w1 ⟨r1, G1, rfl, hres1, hpost1⟩
  refine ⟨_, rfl, ?_⟩
  have hS1 := hS.call hres1
  have hle1 := hres1.le
  subst hpost1
  refine WL.assign rfl <| WL.nil ?_
  refine WC.ret ?_
  exact ⟨.bool (decide (a = b)), rfl, .bool (decide (a = b)), _, rfl, hS1.res, (congrArg Value.bool (by rfl))⟩

theorem c_Equal1 (G : GH) (w : World) (hG : G.In w) (x y : Fact) (cx : List Value) (hcx : FactE.rep G x cx) (cy : List Value) (hcy : FactE.rep G y cy)  : Calls Tryz.prog (nat_lit 90) #[.agg cx.toArray, .agg cy.toArray] w fun e w' => ∃ r G', e = .returned r ∧ Res [] w G w' G' ∧ r = .bool (decide (x = y)) := by
  refine calls_of_WC (N := 17) Tryz.func90 rfl rfl rfl ?_
  have hS := St.start (X := []) hG
  obtain ⟨v1, rfl, hs1, hb1, hb2⟩ := FactE_open hcx
  obtain ⟨v2, rfl, hs2, hb3, hb4⟩ := FactE_open hcy
  refine WC.seq <| WC.region rfl ?_
  refine WL.boxG [v1, .int .i64 x.t.a, .int .i64 x.t.b] _ hS rfl rfl rfl (fun p1 w1 G1 hle1 hsp1 hc1 hS1 => ?_)
  refine WL.boxG [v2, .int .i64 y.t.a, .int .i64 y.t.b] _ hS1 rfl rfl rfl (fun p2 w2 G2 hle2 hsp2 hc2 hS2 => ?_)
  refine WL.assign rfl <| WL.nil <| WC.seq <| WC.region rfl ?_
  refine WL.fieldAddr _ 1 _ fl63 rfl rfl rfl ?_
  refine WL.loadGAt hS2 (Cells.drop 1 (hc1.mono hle2)) [.int .i64 x.t.a, .int .i64 x.t.b] ti46 rfl rfl rfl rfl rfl ?_
  refine WL.fieldAddr _ 1 _ fl63 rfl rfl rfl ?_
  refine WL.loadGAt hS2 (Cells.drop 1 hc2) [.int .i64 y.t.a, .int .i64 y.t.b] ti46 rfl rfl rfl rfl rfl ?_
  refine WL.aggEq (SpanEq46 x.t y.t) eqg46 rfl rfl rfl ?_
  refine WL.split (fun (h1 : (decide (x.t = y.t)) = true) => ?_) (fun (h1 : (decide (x.t = y.t)) = false) => ?_)
  · refine WL.move rfl ?_
    refine WL.fieldAddr _ 0 _ fl63 rfl rfl rfl ?_
    refine WL.loadG1 hS2 (Cells.drop 0 (hc1.mono hle2)) ti61 rfl rfl rfl ?_
    refine WL.fieldAddr _ 0 _ fl63 rfl rfl rfl ?_
    refine WL.loadG1 hS2 (Cells.drop 0 hc2) ti61 rfl rfl rfl ?_
    refine WL.callF [v1, v2] #[] hb91 rfl rfl rfl ((c_vSame _ _ hS2.imm x.v y.v _ (hs1.mono (hle1.trans hle2)) _ (hs2.mono (hle1.trans hle2)) ).mono ?_)
    rintro e w3 ⟨r1, G3, rfl, hres1, hpost1⟩
    refine ⟨_, rfl, ?_⟩
    have hS3 := hS2.call hres1
    have hle3 := hres1.le
    subst hpost1
    refine WL.pickT rfl rfl <| WL.assign rfl <| WL.nil ?_
    refine WC.ret ?_
    exact ⟨.bool (decide (x.v = y.v)), rfl, .bool (decide (x.v = y.v)), _, rfl, hS3.res, (congrArg Value.bool (by exact fact_dec1 (of_decide_eq_true (by assumption))))⟩
  refine WL.move rfl <| WL.no rfl rfl <| WL.no rfl rfl <| WL.no rfl rfl <| WL.no rfl rfl <| WL.no rfl rfl <| WL.pickF rfl rfl <| WL.assign rfl <| WL.nil ?_
  refine WC.ret ?_
  exact ⟨.bool false, rfl, .bool false, _, rfl, hS2.res, (congrArg Value.bool (by exact fact_dec2 (of_decide_eq_false (by assumption))))⟩

theorem c_EqualF (G : GH) (w : World) (hG : G.In w) (a b : List Fact) (pf : Fact → Fact → Bool) (va : Value) (hva : Sl FactE 40 G va a) (vb : Value) (hvb : Sl FactE 40 G vb b) (fid : Nat) (fcap : Array Value) (hf : FnB2 Tryz.prog (Is FactE) (Is FactE) fid fcap G (fun x y => x ∈ a ∧ y ∈ b) pf)  : Calls Tryz.prog (nat_lit 89) #[va, vb, .func (.func fid) #[] fcap] w fun e w' => ∃ r G', e = .returned r ∧ Res [] w G w' G' ∧ r = .bool (eqF pf a b) := by
  refine calls_of_WC (N := 32) Tryz.func89 rfl rfl rfl ?_
  have hS := St.start (X := []) hG
  refine WC.seq <| WC.region rfl <| WL.assign rfl <| WL.nil <| WC.seq <| WC.seq <| WC.region rfl <| WL.move rfl ?_
  have bd1 := hva.bound
  refine WL.lenSl hva ul22 rfl rfl ?_
  refine WL.move rfl ?_
  have bd2 := hvb.bound
  refine WL.lenSl hvb ul22 rfl rfl ?_
  refine WL.neqS (a.length : Int) (b.length : Int) rfl rfl rfl (fun h1 => ?_) (fun h1 => ?_)
  · refine WL.nil <| WC.condT rfl <| WC.seq <| WC.region rfl <| WL.assign rfl <| WL.nil ?_
    refine WC.ret ?_
    exact ⟨.bool false, rfl, .bool false, _, rfl, hS.res, (congrArg Value.bool (by exact (eqF_len (by omega)).symm))⟩
  refine WL.nil <| WC.condF rfl <| WC.skip <| WC.seq <| WC.seq <| WC.region rfl <| WL.move rfl ?_
  have bd3 := hva.bound
  refine WL.lenSl hva ul22 rfl rfl ?_
  refine WL.move rfl <| WL.nil <| WC.block ?_
  refine WC.loop (γ := Nat) (fun m ρ1 w1 => ∃ (k1 : Nat), ∃ (G1 : GH), m = a.length - k1 ∧ G.le G1 ∧ St w [] G G1 [] w1 ∧ ρ1 1 = vb ∧ ρ1 2 = .func (.func fid) #[] fcap ∧ ρ1 15 = va ∧ ρ1 16 = .int .i64 (a.length : Int) ∧ ρ1 17 = .int .i64 (k1 : Int) ∧ k1 ≤ a.length ∧ ∀ j, j < k1 → ∀ x y, a[j]? = some x → b[j]? = some y → pf x y = true) (fun m => m) _ ⟨0, G, rfl, (G.le_refl), hS, rfl, rfl, rfl, rfl, rfl, (by omega), (by intro j hj; omega)⟩ ?_
  rintro m ρ1 w1 ⟨k1, G1, rfl, hle1, hS1, e1, e2, e3, e4, e5, f1, f2⟩
  refine WC.set (d := 1) e1 ?_
  refine WC.set (d := 2) e2 ?_
  refine WC.set (d := 15) e3 ?_
  refine WC.set (d := 16) e4 ?_
  refine WC.set (d := 17) e5 ?_
  refine WC.seq <| WC.region rfl ?_
  refine WL.lssS (k1 : Int) (a.length : Int) rfl rfl rfl (fun h2 => ?_) (fun h2 => ?_)
  · refine WL.nil <| WC.seq <| WC.condT rfl <| WC.skip <| WC.seq <| WC.block <| WC.seq <| WC.region rfl <| WL.move rfl ?_
    refine WL.indexAddr (hva.mono hle1) k1 (by omega) ul22 ti63 rfl rfl rfl rfl (fun p1 x1 hx1 he1 => ?_)
    obtain ⟨cs1, hc1, hr1⟩ := he1
    obtain ⟨v1, rfl, hs1, hb1, hb2⟩ := FactE_open hr1
    refine WL.loadGAt hS1 hc1 [v1, .int .i64 x1.t.a, .int .i64 x1.t.b] ti63 rfl rfl rfl rfl rfl ?_
    refine WL.alloc hS1 ti63 rfl rfl (fun b1 w2 hn1 hS2 => ?_)
    refine WL.assign rfl ?_
    refine WL.store hS2 0 _ _ _ 0 _ [v1, .int .i64 x1.t.a, .int .i64 x1.t.b] [v1, .int .i64 x1.t.a, .int .i64 x1.t.b] _ rfl rfl ti63 rfl (Nat.le_of_ble_eq_true rfl) (by simp only [List.all_cons, List.all_nil, hs1.oneC, Bool.true_and] <;> rfl) rfl rfl rfl rfl rfl (fun w3 hS3 => ?_)
    obtain ⟨G2, hle2, hc2, hS4⟩ := hS3.shutB hn1
    refine WL.nil <| WC.seq <| WC.region rfl <| WL.move rfl <| WL.move rfl ?_
    refine WL.indexAddr (hvb.mono (hle1.trans hle2)) k1 (by omega) ul22 ti63 rfl rfl rfl rfl (fun p2 x2 hx2 he2 => ?_)
    obtain ⟨cs2, hc3, hr2⟩ := he2
    obtain ⟨v2, rfl, hs2, hb3, hb4⟩ := FactE_open hr2
    refine WL.loadGAt hS4 hc3 [v2, .int .i64 x2.t.a, .int .i64 x2.t.b] ti63 rfl rfl rfl rfl rfl ?_
    refine WL.alloc hS4 ti63 rfl rfl (fun b2 w4 hn2 hS5 => ?_)
    refine WL.store hS5 0 _ _ _ 0 _ [v2, .int .i64 x2.t.a, .int .i64 x2.t.b] [v2, .int .i64 x2.t.a, .int .i64 x2.t.b] _ rfl rfl ti63 rfl (Nat.le_of_ble_eq_true rfl) (by simp only [List.all_cons, List.all_nil, hs2.oneC, Bool.true_and] <;> rfl) rfl rfl rfl rfl rfl (fun w5 hS6 => ?_)
    obtain ⟨G3, hle3, hc4, hS7⟩ := hS6.shutB hn2
    refine WL.nil <| WC.seq <| WC.region rfl <| WL.move rfl ?_
    refine WL.loadGAt hS7 (hc2.mono hle3) [v1, .int .i64 x1.t.a, .int .i64 x1.t.b] ti63 rfl rfl rfl rfl rfl ?_
    refine WL.loadGAt hS7 hc4 [v2, .int .i64 x2.t.a, .int .i64 x2.t.b] ti63 rfl rfl rfl rfl rfl ?_
    have hcc1 := hf.call _ _ (.agg #[v1, .int .i64 x1.t.a, .int .i64 x1.t.b]) (.agg #[v2, .int .i64 x2.t.a, .int .i64 x2.t.b]) x1 x2 ((hle1.trans hle2).trans hle3) hS7.imm ⟨(List.mem_of_getElem? hx1), (List.mem_of_getElem? hx2)⟩ ⟨_, rfl, (FactE_mk x1 (hs1.mono (hle2.trans hle3)) hb1 hb2)⟩ ⟨_, rfl, (FactE_mk x2 (hs2.mono hle3) hb3 hb4)⟩
    refine WL.callF _ fcap hf.body rfl rfl rfl (hcc1.mono ?_)
    rintro e w6 ⟨r1, G4, rfl, hres1, hpost1⟩
    refine ⟨_, rfl, ?_⟩
    have hS8 := hS7.call hres1
    have hle4 := hres1.le
    subst hpost1
    refine WL.split (fun (h3 : (pf x1 x2) = true) => ?_) (fun (h3 : (pf x1 x2) = false) => ?_)
    · refine WL.not true rfl rfl ?_
      refine WL.nil <| WC.condF rfl <| WC.skip <| WC.region rfl ?_
      refine WL.incr k1 (by have hreach : reach = 140737488355328 := rfl; omega) rfl rfl rfl ?_
      refine WL.move rfl <| WL.nil ?_
      exact ⟨_, ⟨k1 + 1, G4, rfl, (hle1.trans ((hle2.trans hle3).trans hle4)), hS8, rfl, rfl, rfl, rfl, rfl, (by omega), (by exact lt_step2 (by assumption) (by assumption) (by assumption) (by simp_all))⟩, (show a.length - (k1 + 1) < a.length - k1 by omega)⟩
    refine WL.not false rfl rfl ?_
    refine WL.nil <| WC.condT rfl <| WC.seq <| WC.region rfl <| WL.assign rfl <| WL.nil ?_
    refine WC.ret ?_
    exact ⟨.bool false, rfl, .bool false, _, rfl, hS8.res, (congrArg Value.bool (by exact (eqF_no (by assumption) (by assumption) (by simp_all)).symm))⟩
  refine WL.nil <| WC.seq <| WC.condF rfl <| WC.exit <| WC.seq <| WC.region rfl <| WL.assign rfl <| WL.nil ?_
  refine WC.ret ?_
  exact ⟨.bool true, rfl, .bool true, _, rfl, hS1.res, (congrArg Value.bool (by exact (eqF_yes (by omega) (by assumption) (by omega)).symm))⟩

theorem c_Equal (G : GH) (w : World) (hG : G.In w) (a b : List Fact) (va : Value) (hva : Sl FactE 40 G va a) (vb : Value) (hvb : Sl FactE 40 G vb b)  : Calls Tryz.prog (nat_lit 31) #[va, vb] w fun e w' => ∃ r G', e = .returned r ∧ Res [] w G w' G' ∧ r = .bool (equalB a b) := by
  refine calls_of_WC (N := 30) Tryz.func31 rfl rfl rfl ?_
  have hS := St.start (X := []) hG
  refine WC.seq <| WC.region rfl <| WL.assign rfl <| WL.nil <| WC.seq <| WC.region rfl <| WL.move rfl ?_
  refine WL.callF [va] #[] hb32 rfl rfl rfl ((c_Normal _ _ hS.imm a _ hva ).mono ?_)
  rintro e w1 ⟨r1, G1, rfl, hres1, hpost1⟩
  refine ⟨_, rfl, ?_⟩
  have hS1 := hS.call hres1
  have hle1 := hres1.le
  obtain ⟨r2, r3, rfl, hs1, rfl⟩ := hpost1
  refine WL.move rfl ?_
  refine WL.extract _ _ rfl rfl rfl ?_
  refine WL.extract _ _ rfl rfl rfl ?_
  refine WL.assign rfl <| WL.assign rfl <| WL.nil <| WC.seq <| WC.region rfl <| WL.move rfl ?_
  refine WL.callF [vb] #[] hb32 rfl rfl rfl ((c_Normal _ _ hS1.imm b _ (hvb.mono hle1) ).mono ?_)
  rintro e w2 ⟨r4, G2, rfl, hres2, hpost2⟩
  refine ⟨_, rfl, ?_⟩
  have hS2 := hS1.call hres2
  have hle2 := hres2.le
  obtain ⟨r5, r6, rfl, hs2, rfl⟩ := hpost2
  refine WL.move rfl ?_
  refine WL.extract _ _ rfl rfl rfl ?_
  refine WL.extract _ _ rfl rfl rfl ?_
  refine WL.assign rfl <| WL.assign rfl <| WL.nil <| WC.seq <| WC.region rfl <| WL.move rfl ?_
  refine WL.eqlS (normE a) 0 rfl rfl rfl (fun h1 => ?_) (fun h1 => ?_)
  · refine WL.move rfl <| WL.move rfl ?_
    refine WL.eqlS (normE b) 0 rfl rfl rfl (fun h2 => ?_) (fun h2 => ?_)
    · refine WL.pickT rfl rfl <| WL.move rfl <| WL.move rfl <| WL.move rfl ?_
      refine WL.callF [r2, r5, .func (.func 90) #[] #[]] #[] hb89 rfl rfl rfl ((c_EqualF _ _ hS2.imm (normL a) (normL b) (fun x8 y8 => decide (x8 = y8)) _ (hs1.mono hle2) _ hs2 90 #[] ⟨hb90, fun G8 w8 v8 u8 x8 y8 hle8 hG8 hon8 hA8 hB8 => by obtain ⟨cs_x8, rfl, hr_x8⟩ := hA8; obtain ⟨cs_y8, rfl, hr_y8⟩ := hB8; exact c_Equal1 G8 w8 hG8 x8 y8 cs_x8 hr_x8 cs_y8 hr_y8 ⟩ ).mono ?_)
      rintro e w3 ⟨r7, G3, rfl, hres3, hpost3⟩
      refine ⟨_, rfl, ?_⟩
      have hS3 := hS2.call hres3
      have hle3 := hres3.le
      subst hpost3
      refine WL.pickT rfl rfl <| WL.assign rfl <| WL.nil ?_
      refine WC.ret ?_
      exact ⟨.bool (eqF (fun x8 y8 => decide (x8 = y8)) (normL a) (normL b)), rfl, .bool (eqF (fun x8 y8 => decide (x8 = y8)) (normL a) (normL b)), _, rfl, hS3.res, (congrArg Value.bool (by exact (equal_3 (by assumption) (by assumption)).symm))⟩
    refine WL.pickT rfl rfl <| WL.move rfl <| WL.no rfl rfl <| WL.no rfl rfl <| WL.no rfl rfl <| WL.pickF rfl rfl <| WL.assign rfl <| WL.nil ?_
    refine WC.ret ?_
    exact ⟨.bool false, rfl, .bool false, _, rfl, hS2.res, (congrArg Value.bool (by exact (equal_2 (by assumption)).symm))⟩
  refine WL.move rfl <| WL.no rfl rfl <| WL.no rfl rfl <| WL.pickF rfl rfl <| WL.move rfl <| WL.no rfl rfl <| WL.no rfl rfl <| WL.no rfl rfl <| WL.pickF rfl rfl <| WL.assign rfl <| WL.nil ?_
  refine WC.ret ?_
  exact ⟨.bool false, rfl, .bool false, _, rfl, hS2.res, (congrArg Value.bool (by exact (equal_1 (by assumption)).symm))⟩
end Go.Civ
