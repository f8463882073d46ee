/- AlgebraPairs returns true for every input and leaves its arguments as they were. -/
import Derived.Test.YtapjalhjfblonaaOp
import Derived.Test.YtapjalhjfblonaaWy
import Derived.WalkKit
import Derived.ProofKit
import Derived.OpenShut
import Derived.ShutString
import Derived.ChangeOld
import Derived.Below
namespace Go.Proofs.Ytapjalhjfblonaa
open Go.ChangeShapes Go.WideShapes Go.ChangeAt Go.RowKit Go.Civ
open Go.ChangeMaps (open_string shut_string)
set_option linter.unusedVariables false

theorem opPairs {H : Type} {enc : TypeId × Value → H} {w : World} : Opens enc Try.prog w 23 (PairE.slice 16) := opens_slice Try.underlying23 (by kernel_rfl) (by decide) (by kernel_rfl) (by decide) (opens_arr2 Try.underlying36 (by kernel_rfl) (by kernel_rfl) (opens_int Try.underlying3))
set_option maxRecDepth 100000 in
theorem algebraPairsLifted (os : Os) (started : os.Started) (H : Type) (enc : TypeId × Value → H) :
    ReturnsInHanded {} Try.checked os 3 .any (Rows.algebraPairsSpec.pre6 enc Try.prog Try.f3 Rows.algebraPairsRow.domain false) (Rows.algebraPairsSpec.post enc Try.prog Try.f3 false true false false) := by
  refine returnsInHanded_of_change_sized (C := Try.checked) ownT started (by kernel_rfl) Try.func3
    (ChangeSpec.witness6 (enc := enc) (C := Try.checked) false ⟨#[], #[.slice none 0 0, .slice none 0 0, .slice none 0 0, .int .i64 0], []⟩ 8 (by kernel_rfl) (by kernel_rfl) (by kernel_rfl) (by kernel_rfl)) ?_
  intro W base args ds gs before hval0 hW hcnd hsz0 _
  have hval : ∀ (j : Nat) t v, Try.f3.params[j]? = some t → args[j]? = some v → Value.okWide Try.prog W .any base t v := hval0
  have hsz : (DataW.weightsEach Try.prog (Try.f3.params.toList ++ Rows.algebraPairsSpec.plain.varTypes Try.prog) (ds ++ gs)).all (fun x => decide (x ≤ reachBytes)) = true := hsz0
  have hW' := hW
  obtain ⟨p, q, hA0, hV, rfl, hfz, hnd⟩ := hW
  have hA : DataW.TrodAll enc Try.prog W 0 (fun _ => true) true Try.f3.params.toList args.toList ds p := hA0
  rw [Try.params3] at hA hval hsz
  obtain ⟨v0, vs0, d0, ds0, p0, q0, hargs, rfl, rfl, h0, r0⟩ := trodAll_cons hA
  obtain ⟨v1, vs1, d1, ds1, p1, q1, rfl, rfl, rfl, h1, r1⟩ := trodAll_cons r0
  obtain ⟨v2, vs2, d2, ds2, p2, q2, rfl, rfl, rfl, h2, r2⟩ := trodAll_cons r1
  obtain ⟨v3, vs3, d3, ds3, p3, q3, rfl, rfl, rfl, h3, r3⟩ := trodAll_cons r2
  obtain ⟨rfl, rfl, rfl⟩ := trodAll_nil r3
  obtain rfl : args = #[v0, v1, v2, v3] := by cases args; simp_all
  obtain ⟨rfl, rfl⟩ := trodVars_none hV
  have s0 := light_each hsz
  have s1 := light_each s0.2
  have s2 := light_each s1.2
  have lt0 : ∀ x ∈ p0, x.block < W.heap.size := by obtain ⟨m, hm⟩ := h0; exact DataW.trod_lt m _ _ _ hm
  have lt1 : ∀ x ∈ p1, x.block < W.heap.size := by obtain ⟨m, hm⟩ := h1; exact DataW.trod_lt m _ _ _ hm
  have lt2 : ∀ x ∈ p2, x.block < W.heap.size := by obtain ⟨m, hm⟩ := h2; exact DataW.trod_lt m _ _ _ hm
  obtain ⟨a0, hl0⟩ := arg_slice opFacts (okWide_slice Try.underlying22 (hval 0 22 v0 rfl rfl)) h0 s0.1
  obtain ⟨a1, hl1⟩ := arg_slice opFacts (okWide_slice Try.underlying22 (hval 1 22 v1 rfl rfl)) h1 s1.1
  obtain ⟨a2, hl2⟩ := arg_slice opPairs (okWide_slice Try.underlying23 (hval 2 23 v2 rfl rfl)) h2 s2.1
  obtain ⟨a3, rfl, rfl, rfl, w3⟩ := open_int Try.underlying3 (hval 3 3 v3 rfl rfl) h3
  refine (c_AlgebraPairs (GW W) W (GW_in W) a0 a1 a2 a3 _ hl0 _ hl1 _ hl2 ).mono fun e W' ⟨r, G', he, hres, hr⟩ => ?_
  subst he
  subst hr
  have bel : Below W.heap.size W W' := hres.kept.below
  exact ⟨_, rfl, _, _, _, [], _, [], hW', trodAll_mk1 (shut_bool Try.underlying4 _), (trodAll_cons_mk (Below.trod laidOutT (by kernel_rfl) (of_decide_eq_true (by kernel_rfl)) h0 bel lt0) (trodAll_cons_mk (Below.trod laidOutT (by kernel_rfl) (of_decide_eq_true (by kernel_rfl)) h1 bel lt1) (trodAll_cons_mk (Below.trod laidOutT (by kernel_rfl) (of_decide_eq_true (by kernel_rfl)) h2 bel lt2) (trodAll_cons_mk (shut_int Try.underlying3 w3) trodAll_mk0)))), rfl, bel.frame _, fun h => by cases h⟩

theorem algebraPairs_over : Rows.algebraPairsRow.holds Try.pinned (OpenSpec.ofChange Rows.algebraPairsSpec) :=
  OpenClaim.holds_of_wide 3 Try.f3 rfl rfl rfl rfl rfl rfl rfl ⟨rfl, rfl, rfl, rfl, rfl⟩ rfl rfl rfl rfl rfl (by kernel_rfl) Try.func3 (by kernel_rfl)
    (of_decide_eq_true (by kernel_rfl)) (by unfold Func.isWrapper; first | (rw [if_pos (by decide +kernel)]; kernel_rfl) | (rw [if_neg (by decide +kernel)]; exact ⟨rfl, rfl⟩))
    (fun os started H enc _ => algebraPairsLifted os started H enc)

theorem algebraPairs_holds : Rows.AlgebraPairsSaid := algebraPairs_over
#print axioms algebraPairs_holds
end Go.Proofs.Ytapjalhjfblonaa
