/- TemporalkeyChecks returns true for every input and leaves its arguments as they were. -/
import Derived.Test.YthgeclodflmiaaaGreatC21
import Derived.Test.YthgeclodflmiaaaGreatC44
import Derived.WalkKit
import Derived.ProofKit
import Derived.OpenShut
import Derived.ShutString
import Derived.ChangeOld
import Derived.Below
namespace Go.Proofs.YthgeclodflmiaaaGreat
open Go.ChangeShapes Go.WideShapes Go.ChangeAt Go.RowKit Go.Civ
open Go.ChangeMaps (open_string shut_string)
set_option linter.unusedVariables false

set_option maxRecDepth 100000 in
theorem temporalkeyChecksLifted (os : Os) (started : os.Started) (H : Type) (enc : TypeId × Value → H) :
    ReturnsInHanded {} Tryz.checked os 8 .any (Rows.temporalkeyChecksSpec.pre6 enc Tryz.prog Tryz.f8 Rows.temporalkeyChecksRow.domain false) (Rows.temporalkeyChecksSpec.post enc Tryz.prog Tryz.f8 false true false false) := by
  refine returnsInHanded_of_change_sized (C := Tryz.checked) Zve started (by kernel_rfl) Tryz.func8
    (ChangeSpec.witness6 (enc := enc) (C := Tryz.checked) false ⟨#[], #[.slice none 0 0], []⟩ 8 (by kernel_rfl) (by kernel_rfl) (by kernel_rfl) (by kernel_rfl)) ?_
  intro W base args ds gs before hval0 hW hcnd hsz0 _
  have hval : ∀ (j : Nat) t v, Tryz.f8.params[j]? = some t → args[j]? = some v → Value.okWide Tryz.prog W .any base t v := hval0
  have hsz : (DataW.weightsEach Tryz.prog (Tryz.f8.params.toList ++ Rows.temporalkeyChecksSpec.plain.varTypes Tryz.prog) (ds ++ gs)).all (fun x => decide (x ≤ reachBytes)) = true := hsz0
  have hW' := hW
  obtain ⟨p, q, hA0, hV, rfl, hfz, hnd⟩ := hW
  have hA : DataW.TrodAll enc Tryz.prog W 0 (fun _ => true) true Tryz.f8.params.toList args.toList ds p := hA0
  rw [Tryz.params8] at hA hval hsz
  obtain ⟨v0, vs0, d0, ds0, p0, q0, hargs, rfl, rfl, h0, r0⟩ := trodAll_cons hA
  obtain ⟨rfl, rfl, rfl⟩ := trodAll_nil r0
  obtain rfl : args = #[v0] := by cases args; simp_all
  obtain ⟨rfl, rfl⟩ := trodVars_none hV
  have s0 := ZlB hsz
  have lt0 : ∀ x ∈ p0, x.block < W.heap.size := by obtain ⟨m, hm⟩ := h0; exact DataW.trod_lt m _ _ _ hm
  obtain ⟨a0, hl0⟩ := ZmS ZoZ (okWide_slice Tryz.underlying77 (hval 0 77 v0 rfl rfl)) h0 s0.1
  refine (Ze4 (ZtS W) a0 _ hl0 ).mono fun e W' ⟨r, G', he, hres, hr⟩ => ?_
  subst he
  subst hr
  have bel : Below W.heap.size W W' := hres.kept.below
  exact ⟨_, rfl, _, _, _, [], _, [], hW', trodAll_mk1 (shut_bool Tryz.underlying4 _), (trodAll_cons_mk (Below.trod Zpa (by kernel_rfl) (of_decide_eq_true (by kernel_rfl)) h0 bel lt0) trodAll_mk0), rfl, bel.frame _, fun h => by cases h⟩

theorem temporalkeyChecks_A : Zjs Tryz.pinned.checked.prog 8 Rows.temporalkeyChecksRow = true := by kernel_rfl
theorem temporalkeyChecks_B : Zjt Tryz.pinned.checked.prog 8 Rows.temporalkeyChecksRow = true := by kernel_rfl
theorem temporalkeyChecks_C : Zju Tryz.pinned.checked.prog 8 Rows.temporalkeyChecksRow = true := by kernel_rfl
theorem temporalkeyChecks_D : Zjv Tryz.pinned.checked.prog 8 Rows.temporalkeyChecksRow = true := by kernel_rfl
set_option maxRecDepth 100000 in
theorem temporalkeyChecks_over : Rows.temporalkeyChecksRow.holds Tryz.pinned (OpenSpec.ofChange Rows.temporalkeyChecksSpec) :=
  OpenClaim.holds_of_wide 8 Tryz.f8 rfl rfl rfl rfl rfl rfl rfl ⟨rfl, rfl, rfl, rfl, rfl⟩ rfl rfl rfl rfl rfl (by kernel_rfl) Tryz.func8 (ZoX temporalkeyChecks_A temporalkeyChecks_B temporalkeyChecks_C temporalkeyChecks_D (by kernel_rfl) (by kernel_rfl) (by kernel_rfl) (by kernel_rfl))
    (of_decide_eq_true (by kernel_rfl)) (by unfold Func.isWrapper; first | (rw [if_pos (by decide +kernel)]; kernel_rfl) | (rw [if_neg (by decide +kernel)]; exact ⟨rfl, rfl⟩))
    (fun os started H enc _ => temporalkeyChecksLifted os started H enc)

theorem temporalkeyChecks_holds : Rows.TemporalkeyChecksSaid := temporalkeyChecks_over
#print axioms temporalkeyChecks_holds
end Go.Proofs.YthgeclodflmiaaaGreat

