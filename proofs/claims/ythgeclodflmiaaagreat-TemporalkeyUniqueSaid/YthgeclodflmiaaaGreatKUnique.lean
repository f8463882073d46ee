/- TemporalkeyUnique returns true for every input and leaves its arguments as they were. -/
import Derived.Test.YthgeclodflmiaaaGreatK22
import Derived.Test.YthgeclodflmiaaaGreatK44
import Derived.WalkKit
import Derived.ProofKit
import Derived.OpenShut
import Derived.ShutString
import Derived.ChangeOld
import Derived.Below
namespace Go.Proofs.YthgeclodflmiaaaGreat
open Go.ChangeShapes Go.WideShapes Go.ChangeAt Go.RowKit Go.Civ
open Go.ChangeMaps (open_string shut_string)
set_option linter.unusedVariables false

set_option maxRecDepth 100000 in
theorem temporalkeyUniqueLifted (os : Os) (started : os.Started) (H : Type) (enc : TypeId × Value → H) :
    ReturnsInHanded {} Tryz.checked os 3 .any (Rows.temporalkeyUniqueSpec.pre6 enc Tryz.prog Tryz.f3 Rows.temporalkeyUniqueRow.domain false) (Rows.temporalkeyUniqueSpec.post enc Tryz.prog Tryz.f3 false true false false) := by
  refine returnsInHanded_of_change_sized (C := Tryz.checked) ownT started (by kernel_rfl) Tryz.func3
    (ChangeSpec.witness6 (enc := enc) (C := Tryz.checked) false ⟨#[], #[.agg #[strV [], .slice none 0 0, .int .i64 0, .slice none 0 0, .slice none 0 0, .int .i64 0]], []⟩ 8 (by kernel_rfl) (by kernel_rfl) (by kernel_rfl) (by kernel_rfl)) ?_
  intro W base args ds gs before hval0 hW hcnd hsz0 _
  have hval : ∀ (j : Nat) t v, Tryz.f3.params[j]? = some t → args[j]? = some v → Value.okWide Tryz.prog W .any base t v := hval0
  have hsz : (DataW.weightsEach Tryz.prog (Tryz.f3.params.toList ++ Rows.temporalkeyUniqueSpec.plain.varTypes Tryz.prog) (ds ++ gs)).all (fun x => decide (x ≤ reachBytes)) = true := hsz0
  have hW' := hW
  obtain ⟨p, q, hA0, hV, rfl, hfz, hnd⟩ := hW
  have hA : DataW.TrodAll enc Tryz.prog W 0 (fun _ => true) true Tryz.f3.params.toList args.toList ds p := hA0
  rw [Tryz.params3] at hA hval hsz
  obtain ⟨v0, vs0, d0, ds0, p0, q0, hargs, rfl, rfl, h0, r0⟩ := trodAll_cons hA
  obtain ⟨rfl, rfl, rfl⟩ := trodAll_nil r0
  obtain rfl : args = #[v0] := by cases args; simp_all
  obtain ⟨rfl, rfl⟩ := trodVars_none hV
  have s0 := light_each hsz
  have lt0 : ∀ x ∈ p0, x.block < W.heap.size := by obtain ⟨m, hm⟩ := h0; exact DataW.trod_lt m _ _ _ hm
  obtain ⟨a0, cs0, rfl, hl0⟩ := arg_struct opTable (by obtain ⟨cs, h, _⟩ := okWide_struct Tryz.underlying28 (hval 0 28 v0 rfl rfl); exact ⟨cs, h⟩) h0 s0.1
  refine (c_TemporalkeyUnique (GW_in W) a0 _ hl0 ).mono fun e W' ⟨r, G', he, hres, hr⟩ => ?_
  subst he
  subst hr
  have bel : Below W.heap.size W W' := hres.kept.below
  exact ⟨_, rfl, _, _, _, [], _, [], hW', trodAll_mk1 (shut_bool Tryz.underlying4 _), (trodAll_cons_mk (Below.trod laidOutT (by kernel_rfl) (of_decide_eq_true (by kernel_rfl)) h0 bel lt0) trodAll_mk0), rfl, bel.frame _, fun h => by cases h⟩

theorem temporalkeyUnique_A : joinFA Tryz.pinned.checked.prog 3 Rows.temporalkeyUniqueRow = true := by kernel_rfl
theorem temporalkeyUnique_B : joinFB Tryz.pinned.checked.prog 3 Rows.temporalkeyUniqueRow = true := by kernel_rfl
theorem temporalkeyUnique_C : joinFC Tryz.pinned.checked.prog 3 Rows.temporalkeyUniqueRow = true := by kernel_rfl
theorem temporalkeyUnique_D : joinFD Tryz.pinned.checked.prog 3 Rows.temporalkeyUniqueRow = true := by kernel_rfl
set_option maxRecDepth 100000 in
theorem temporalkeyUnique_over : Rows.temporalkeyUniqueRow.holds Tryz.pinned (OpenSpec.ofChange Rows.temporalkeyUniqueSpec) :=
  OpenClaim.holds_of_wide 3 Tryz.f3 rfl rfl rfl rfl rfl rfl rfl ⟨rfl, rfl, rfl, rfl, rfl⟩ rfl rfl rfl rfl rfl (by kernel_rfl) Tryz.func3 (facts_of temporalkeyUnique_A temporalkeyUnique_B temporalkeyUnique_C temporalkeyUnique_D (by kernel_rfl) (by kernel_rfl) (by kernel_rfl) (by kernel_rfl))
    (of_decide_eq_true (by kernel_rfl)) (by unfold Func.isWrapper; first | (rw [if_pos (by decide +kernel)]; kernel_rfl) | (rw [if_neg (by decide +kernel)]; exact ⟨rfl, rfl⟩))
    (fun os started H enc _ => temporalkeyUniqueLifted os started H enc)

theorem temporalkeyUnique_holds : Rows.TemporalkeyUniqueSaid := temporalkeyUnique_over
#print axioms temporalkeyUnique_holds
end Go.Proofs.YthgeclodflmiaaaGreat

