/- PlanPush returns true for every input and leaves its arguments as they were. -/
import Derived.Test.YtcopkjhdncdnmaaGreatDoorP49
import Derived.Test.YtcopkjhdncdnmaaGreatDoorPPushF
import Derived.ProofKit
import Derived.ShutString
import Derived.ChangeOld
import Derived.Lay
import Derived.Stop.Joined
set_option linter.unusedSimpArgs false
namespace Go.Proofs.YtcopkjhdncdnmaaGreatDoor
open Go.ChangeShapes Go.WideShapes Go.ChangeAt Go.RowKit Go.Civ
open Go.ChangeMaps (open_string shut_string)
set_option linter.unusedVariables false

set_option maxRecDepth 100000 in
theorem planPushLifted (os : Os) (started : os.Started) (H : Type) (enc : TypeId × Value → H) :
    ReturnsInHanded {} Tryz.checked os 3 .any (fun w args => (Rows.planPushSpec.pre enc Tryz.prog Tryz.f3 Rows.planPushRow.domain false w args ∧ laidMetH Tryz.prog Zhw w) ∧ sizedMet enc Tryz.prog Tryz.f3 (OpenSpec.ofChange Rows.planPushSpec) false w args)
      (Rows.planPushSpec.post enc Tryz.prog Tryz.f3 false true false false) := by
  refine returnsInHanded_of_change_and (C := Tryz.checked) (X := fun w _ => laidMetH Tryz.prog Zhw w) (fun _ _ _ hh h => h.of_heap hh) Ztf started (by kernel_rfl) Tryz.func3
    (ChangeSpec.witness_shaped (enc := enc) (C := Tryz.checked) (os := os) (X := fun w _ => laidMetH Tryz.prog Zhw w) false (World.laidAll Tryz.prog os Zhw) #[.agg #[.int .i64 0, Zb [], .slice none 0 0, .slice none 0 0, .int .i64 0, Zb [], Zb [], .int .i64 0, .int .i64 0, Zb [], .slice none 0 0, .int .i64 0, .int .i64 0, .int .i64 0, .int .i64 0, .slice none 0 0], .slice none 0 0] 12 (World.laidAll_os _ _ _)
      (World.shaped_of_ZipB (by kernel_rfl) (by kernel_rfl)) (by kernel_rfl) (by kernel_rfl) (by kernel_rfl)
      (by rw [MakeChecks.laidMetH_plain _ _ _ (by kernel_rfl)]; exact laidMet_laidAll _ (by kernel_rfl) (by kernel_rfl))) ?_
  intro W base args ds gs before hval0 hW hcnd hsz0 hL _
  have hval : ∀ (j : Nat) t v, Tryz.f3.params[j]? = some t → args[j]? = some v → Value.okWide Tryz.prog W .any base t v := hval0
  have hsz : (DataW.weightsEach Tryz.prog (Tryz.f3.params.toList ++ Rows.planPushSpec.plain.varTypes Tryz.prog) (ds ++ gs)).all (fun x => decide (x ≤ reachBytes)) = true := hsz0
  have hW' := hW
  obtain ⟨p, q, hA0, hV, rfl, hfz, hnd⟩ := hW
  have hA : DataW.TrodAll enc Tryz.prog W 0 (fun _ => true) true Tryz.f3.params.toList args.toList ds p := hA0
  rw [Tryz.params3] at hA hval hsz
  obtain ⟨v0, vs0, d0, ds0, p0, q0, hargs, rfl, rfl, h0, r0⟩ := trodAll_cons hA
  obtain ⟨v1, vs1, d1, ds1, p1, q1, rfl, rfl, rfl, h1, r1⟩ := trodAll_cons r0
  obtain ⟨rfl, rfl, rfl⟩ := trodAll_nil r1
  obtain rfl : args = #[v0, v1] := by cases args; simp_all
  obtain ⟨rfl, rfl⟩ := trodVars_none hV
  have s0 := Zhe hsz
  have s1 := Zhe s0.2
  have lt0 : ∀ x ∈ p0, x.block < W.heap.size := by obtain ⟨m, hm⟩ := h0; exact DataW.trod_lt m _ _ _ hm
  have lt1 : ∀ x ∈ p1, x.block < W.heap.size := by obtain ⟨m, hm⟩ := h1; exact DataW.trod_lt m _ _ _ hm
  obtain ⟨a0, cs0, rfl, hl0⟩ := Znc ZpR (by obtain ⟨cs, h, _⟩ := okWide_struct Tryz.underlying32 (hval 0 32 v0 rfl rfl); exact ⟨cs, h⟩) h0 s0.1
  obtain ⟨a1, hl1⟩ := ZmJ Znj (okWide_slice Tryz.underlying33 (hval 1 33 v1 rfl rfl)) h1 s1.1
  refine (Zm6 (Zsd W) a0 a1 (ZpS hL) _ hl0 _ hl1 ).mono fun e W' ⟨r, G', he, hres, hr⟩ => ?_
  subst he
  subst hr
  have bel : Below W.heap.size W W' := hres.kept.below
  exact ⟨_, rfl, _, _, _, [], _, [], hW', trodAll_mk1 (shut_bool Tryz.underlying4 _), (trodAll_cons_mk (Below.trod ZjE (by kernel_rfl) (of_decide_eq_true (by kernel_rfl)) h0 bel lt0) (trodAll_cons_mk (Below.trod ZjE (by kernel_rfl) (of_decide_eq_true (by kernel_rfl)) h1 bel lt1) trodAll_mk0)), rfl, bel.frame _, fun h => by cases h⟩

set_option maxRecDepth 100000 in
theorem planPush_row : Rows.PlanPushSaid :=
  OpenClaim.holds_of_wide 3 Tryz.f3 rfl rfl rfl rfl rfl rfl rfl ⟨rfl, rfl, rfl, rfl, rfl⟩ rfl rfl rfl rfl rfl planPush_N Tryz.func3 (ZqQ planPush_A planPush_B planPush_C planPush_D planPush_1 planPush_2 planPush_3 planPush_4) planPush_I planPush_W
    (fun os started H enc _ => planPushLifted os started H enc)
theorem planPush_holds : Rows.PlanPushCardSaid :=
  Claim7.holds_tied_plain_at .later [] [.widerDeep, .data] true (true, "7b2524b20cb2e5f5c389adcd86396f314b5e8d15c0350b55bd525bed69b6786f") false
    planPush_row (fun _ h => by cases h) planPush_V (fun _ h => by cases h) planPush_row_tie rfl ⟨rfl, rfl⟩ planPush_M rfl
    (fun f fn hf hfn => by
      obtain rfl : f = 3 := Option.some.inj (planPush_N.symm.trans hf) |>.symm
      obtain rfl : fn = Tryz.f3 := (Option.some.inj (Tryz.func3.symm.trans hfn)).symm
      exact ⟨planPush_L, fun j t ht => by
        rw [Tryz.params3] at ht
        rcases j with _ | _ | j
        · obtain rfl : 32 = t := by simpa using ht
          exact planPush_s32
        · obtain rfl : 33 = t := by simpa using ht
          exact planPush_s33
        · simp at ht⟩)
    planPush_G
#print axioms planPush_holds
end Go.Proofs.YtcopkjhdncdnmaaGreatDoor

