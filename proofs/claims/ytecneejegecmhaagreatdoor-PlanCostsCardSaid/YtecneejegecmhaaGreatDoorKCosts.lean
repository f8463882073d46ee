/- PlanCosts returns true for every input and leaves its arguments as they were. -/
import Derived.Test.YtecneejegecmhaaGreatDoorK43
import Derived.Test.YtecneejegecmhaaGreatDoorKCostsF
import Derived.ProofKit
import Derived.ShutString
import Derived.ChangeOld
import Derived.Lay
import Derived.Stop.Joined
set_option linter.unusedVariables false
set_option linter.unusedSimpArgs false
set_option linter.unnecessarySimpa false
namespace Go.Proofs.YtecneejegecmhaaGreatDoor
open Go.ChangeShapes Go.WideShapes Go.ChangeAt Go.RowKit Go.Civ
open Go.ChangeMaps (open_string shut_string)
set_option linter.unusedVariables false

set_option maxRecDepth 100000 in
theorem planCostsLifted (os : Os) (started : os.Started) (H : Type) (enc : TypeId × Value → H) :
    ReturnsInHanded {} Tryz.checked os 3 .any (fun w args => (Rows.planCostsSpec.pre enc Tryz.prog Tryz.f3 Rows.planCostsRow.domain false w args ∧ laidMetH Tryz.prog Zil w) ∧ sizedMet enc Tryz.prog Tryz.f3 (OpenSpec.ofChange Rows.planCostsSpec) false w args)
      (Rows.planCostsSpec.post enc Tryz.prog Tryz.f3 false true false false) := by
  refine ZlC (C := Tryz.checked) (X := fun w _ => laidMetH Tryz.prog Zil w) (fun _ _ _ hh h => h.of_heap hh) Z1o started (by kernel_rfl) Tryz.func3
    (ChangeSpec.witness_shaped (enc := enc) (C := Tryz.checked) (os := os) (X := fun w _ => laidMetH Tryz.prog Zil w) false (World.laidAll Tryz.prog os Zil) #[.agg #[.slice none 0 0, .slice none 0 0], .map none] 12 (World.laidAll_os _ _ _)
      (World.shaped_of_ZipB (by kernel_rfl) (by kernel_rfl)) (by kernel_rfl) (by kernel_rfl) (by kernel_rfl)
      (by rw [MakeChecks.laidMetH_plain _ _ _ (by kernel_rfl)]; exact laidMet_laidAll _ (by kernel_rfl) (by kernel_rfl))) ?_
  intro W base args ds gs before hval0 hW hcnd hsz0 hL hsh _
  have hval : ∀ (j : Nat) t v, Tryz.f3.params[j]? = some t → args[j]? = some v → Value.okWide Tryz.prog W .any base t v := hval0
  have hsz : (DataW.weightsEach Tryz.prog (Tryz.f3.params.toList ++ Rows.planCostsSpec.plain.varTypes Tryz.prog) (ds ++ gs)).all (fun x => decide (x ≤ reachBytes)) = true := hsz0
  have hW' := hW
  obtain ⟨p, q, hA0, hV, rfl, hfz, hnd⟩ := hW
  have hA : DataW.TrodAll enc Tryz.prog W 0 (fun _ => true) true Tryz.f3.params.toList args.toList ds p := hA0
  rw [Tryz.params3] at hA hval hsz
  obtain ⟨v0, vs0, d0, ds0, p0, q0, hargs, rfl, rfl, h0, r0⟩ := trodAll_cons hA
  obtain ⟨v1, vs1, d1, ds1, p1, q1, rfl, rfl, rfl, h1, r1⟩ := trodAll_cons r0
  obtain ⟨rfl, rfl, rfl⟩ := trodAll_nil r1
  obtain rfl : args = #[v0, v1] := by cases args; simp_all
  obtain ⟨rfl, rfl⟩ := trodVars_none hV
  have s0 := Zh5 hsz
  have s1 := Zh5 s0.2
  have lt0 : ∀ x ∈ p0, x.block < W.heap.size := by obtain ⟨m, hm⟩ := h0; exact DataW.trod_lt m _ _ _ hm
  have lt1 : ∀ x ∈ p1, x.block < W.heap.size := by obtain ⟨m, hm⟩ := h1; exact DataW.trod_lt m _ _ _ hm
  obtain ⟨a0, cs0, rfl, hl0⟩ := Zni Zxn (by obtain ⟨cs, h, _⟩ := okWide_struct Tryz.underlying25 (hval 0 25 v0 rfl rfl); exact ⟨cs, h⟩) h0 s0.1
  obtain ⟨a1, hl1, hm1⟩ := Zxi Tryz.underlying26 Tryz.underlying9 Tryz.underlying3 ZyY (okWide_map Tryz.underlying26 (hval 1 26 v1 rfl rfl)) h1
  refine (Zmf (ZxD W) a0 a1 (Zu5 hL hsh) _ hl0 _ hl1 hm1).mono fun e W' ⟨r, G', he, hres, hr⟩ => ?_
  subst he
  subst hr
  have bel : Below W.heap.size W W' := hres.kept.below
  exact ⟨_, rfl, _, _, _, [], _, [], hW', trodAll_mk1 (shut_bool Tryz.underlying4 _), (trodAll_cons_mk (Below.trod ZlD (by kernel_rfl) (of_decide_eq_true (by kernel_rfl)) h0 bel lt0) (trodAll_cons_mk (Below.trod ZlD (by kernel_rfl) (of_decide_eq_true (by kernel_rfl)) h1 bel lt1) trodAll_mk0)), rfl, bel.frame _, fun h => by cases h⟩

set_option maxRecDepth 100000 in
theorem planCosts_row : Rows.PlanCostsSaid :=
  OpenClaim.holds_of_wide 3 Tryz.f3 rfl rfl rfl rfl rfl rfl rfl ⟨rfl, rfl, rfl, rfl, rfl⟩ rfl rfl rfl rfl rfl planCosts_N Tryz.func3 (Zvp planCosts_A planCosts_B planCosts_C planCosts_D planCosts_1 planCosts_2 planCosts_3 planCosts_4) planCosts_I planCosts_W
    (fun os started H enc _ => planCostsLifted os started H enc)
theorem planCosts_holds : Rows.PlanCostsCardSaid :=
  Claim7.holds_tied_plain_at .later [] [.data, .data, .data, .data, .widerDeep, .data, .pinned] true (true, "394860371e8c8650126034bcb1642cf9caad4ac3d8da901c0f61cbac0187922e") false
    planCosts_row (fun _ h => by cases h) planCosts_V (fun _ h => by cases h) planCosts_row_tie rfl ⟨rfl, rfl⟩ planCosts_M rfl
    (fun f fn hf hfn => by
      obtain rfl : f = 3 := Option.some.inj (planCosts_N.symm.trans hf) |>.symm
      obtain rfl : fn = Tryz.f3 := (Option.some.inj (Tryz.func3.symm.trans hfn)).symm
      exact ⟨planCosts_L, fun j t ht => by
        rw [Tryz.params3] at ht
        rcases j with _ | _ | j
        · obtain rfl : 25 = t := by simpa using ht
          exact planCosts_s25
        · obtain rfl : 26 = t := by simpa using ht
          exact planCosts_s26
        · simp at ht⟩)
    planCosts_G
#print axioms planCosts_holds
end Go.Proofs.YtecneejegecmhaaGreatDoor

