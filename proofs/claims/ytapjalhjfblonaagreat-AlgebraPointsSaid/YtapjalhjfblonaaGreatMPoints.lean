/- AlgebraPoints returns true for every input and leaves its arguments as they were. -/
import Derived.Test.YtapjalhjfblonaaGreatMOp
import Derived.Test.YtapjalhjfblonaaGreatMWpt
import Derived.WalkKit
import Derived.ProofKit
import Derived.OpenShut
import Derived.ShutString
import Derived.ChangeOld
import Derived.Below
namespace Go.Proofs.YtapjalhjfblonaaGreat
open Go.ChangeShapes Go.WideShapes Go.ChangeAt Go.RowKit Go.Civ
open Go.ChangeMaps (open_string shut_string)
set_option linter.unusedVariables false

theorem opCol {H : Type} {enc : TypeId × Value → H} {w : World} : Opens enc Tryz.prog w 71 ColE := opens_pair (g := fun p => ⟨p.1, p.2⟩) (fun _ => rfl) Tryz.underlying71 rfl (by kernel_rfl) rfl (by kernel_rfl) (by kernel_rfl) (opens_str Tryz.underlying9) (opens_int Tryz.underlying3)
theorem opCols {H : Type} {enc : TypeId × Value → H} {w : World} : Opens enc Tryz.prog w 32 (ColE.slice 24) := opens_slice Tryz.underlying32 (by kernel_rfl) (by decide) (by kernel_rfl) (by decide) opCol
--
theorem opCond {H : Type} {enc : TypeId × Value → H} {w : World} : ∀ N, OpensP (fun d => SizeOf.sizeOf d ≤ N) enc Tryz.prog w 37 (CondE N) :=
  opens_cond Tryz.underlying37 ⟨rfl, rfl, rfl, rfl, rfl⟩ Tryz.underlying3 Tryz.underlying9 Tryz.underlying9 opVal Tryz.underlying35 ⟨by kernel_rfl, by kernel_rfl, by kernel_rfl, by kernel_rfl, by kernel_rfl⟩ (by kernel_rfl) (by kernel_rfl)
set_option maxRecDepth 100000 in
theorem algebraPointsLifted (os : Os) (started : os.Started) (H : Type) (enc : TypeId × Value → H) :
    ReturnsInHanded {} Tryz.checked os 8 .any (Rows.algebraPointsSpec.pre6 enc Tryz.prog Tryz.f8 Rows.algebraPointsRow.domain false) (Rows.algebraPointsSpec.post enc Tryz.prog Tryz.f8 false true false false) := by
  refine returnsInHanded_of_change_sized (C := Tryz.checked) ownT started (by kernel_rfl) Tryz.func8
    (ChangeSpec.witness6 (enc := enc) (C := Tryz.checked) false ⟨#[], #[.slice none 0 0, .slice none 0 0, .slice none 0 0, .agg #[.int .i64 0, strV [], strV [], .int .i64 0, .int .i64 0, strV [], .slice none 0 0], .agg #[.int .i64 0, .int .i64 0], .int .i64 0], []⟩ 8 (by kernel_rfl) (by kernel_rfl) (by kernel_rfl) (by kernel_rfl)) ?_
  intro W base args ds gs before hval0 hW hcnd hsz0 _
  have hval : ∀ (j : Nat) t v, Tryz.f8.params[j]? = some t → args[j]? = some v → Value.okWide Tryz.prog W .any base t v := hval0
  have hsz : (DataW.weightsEach Tryz.prog (Tryz.f8.params.toList ++ Rows.algebraPointsSpec.plain.varTypes Tryz.prog) (ds ++ gs)).all (fun x => decide (x ≤ reachBytes)) = true := hsz0
  have hW' := hW
  obtain ⟨p, q, hA0, hV, rfl, hfz, hnd⟩ := hW
  have hA : DataW.TrodAll enc Tryz.prog W 0 (fun _ => true) true Tryz.f8.params.toList args.toList ds p := hA0
  rw [Tryz.params8] at hA hval hsz
  obtain ⟨v0, vs0, d0, ds0, p0, q0, hargs, rfl, rfl, h0, r0⟩ := trodAll_cons hA
  obtain ⟨v1, vs1, d1, ds1, p1, q1, rfl, rfl, rfl, h1, r1⟩ := trodAll_cons r0
  obtain ⟨v2, vs2, d2, ds2, p2, q2, rfl, rfl, rfl, h2, r2⟩ := trodAll_cons r1
  obtain ⟨v3, vs3, d3, ds3, p3, q3, rfl, rfl, rfl, h3, r3⟩ := trodAll_cons r2
  obtain ⟨v4, vs4, d4, ds4, p4, q4, rfl, rfl, rfl, h4, r4⟩ := trodAll_cons r3
  obtain ⟨v5, vs5, d5, ds5, p5, q5, rfl, rfl, rfl, h5, r5⟩ := trodAll_cons r4
  obtain ⟨rfl, rfl, rfl⟩ := trodAll_nil r5
  obtain rfl : args = #[v0, v1, v2, v3, v4, v5] := by cases args; simp_all
  obtain ⟨rfl, rfl⟩ := trodVars_none hV
  have s0 := light_each hsz
  have s1 := light_each s0.2
  have s2 := light_each s1.2
  have s3 := light_each s2.2
  have s4 := light_each s3.2
  have lt0 : ∀ x ∈ p0, x.block < W.heap.size := by obtain ⟨m, hm⟩ := h0; exact DataW.trod_lt m _ _ _ hm
  have lt1 : ∀ x ∈ p1, x.block < W.heap.size := by obtain ⟨m, hm⟩ := h1; exact DataW.trod_lt m _ _ _ hm
  have lt2 : ∀ x ∈ p2, x.block < W.heap.size := by obtain ⟨m, hm⟩ := h2; exact DataW.trod_lt m _ _ _ hm
  have lt3 : ∀ x ∈ p3, x.block < W.heap.size := by obtain ⟨m, hm⟩ := h3; exact DataW.trod_lt m _ _ _ hm
  have lt4 : ∀ x ∈ p4, x.block < W.heap.size := by obtain ⟨m, hm⟩ := h4; exact DataW.trod_lt m _ _ _ hm
  obtain ⟨a0, hl0⟩ := arg_slice opFacts (okWide_slice Tryz.underlying22 (hval 0 22 v0 rfl rfl)) h0 s0.1
  obtain ⟨a1, hl1⟩ := arg_slice opFacts (okWide_slice Tryz.underlying22 (hval 1 22 v1 rfl rfl)) h1 s1.1
  obtain ⟨a2, hl2⟩ := arg_slice opCols (okWide_slice Tryz.underlying32 (hval 2 32 v2 rfl rfl)) h2 s2.1
  obtain ⟨N3, a3, cs3, rfl, hl3⟩ := arg_cond opCond (by obtain ⟨cs, h, _⟩ := okWide_struct Tryz.underlying37 (hval 3 37 v3 rfl rfl); exact ⟨cs, h⟩) h3 s3.1
  obtain ⟨a4, cs4, rfl, hl4⟩ := arg_struct opSpan (by obtain ⟨cs, h, _⟩ := okWide_struct Tryz.underlying46 (hval 4 46 v4 rfl rfl); exact ⟨cs, h⟩) h4 s4.1
  obtain ⟨a5, rfl, rfl, rfl, w5⟩ := open_int Tryz.underlying3 (hval 5 3 v5 rfl rfl) h5
  refine (c_AlgebraPoints (GW_in W) N3 a0 a1 a2 a3 a4 a5 _ hl0 _ hl1 _ hl2 _ hl3 _ hl4 ).mono fun e W' ⟨r, G', he, hres, hr⟩ => ?_
  subst he
  subst hr
  have bel : Below W.heap.size W W' := hres.kept.below
  exact ⟨_, rfl, _, _, _, [], _, [], hW', trodAll_mk1 (shut_bool Tryz.underlying4 _), (trodAll_cons_mk (Below.trod laidOutT (by kernel_rfl) (of_decide_eq_true (by kernel_rfl)) h0 bel lt0) (trodAll_cons_mk (Below.trod laidOutT (by kernel_rfl) (of_decide_eq_true (by kernel_rfl)) h1 bel lt1) (trodAll_cons_mk (Below.trod laidOutT (by kernel_rfl) (of_decide_eq_true (by kernel_rfl)) h2 bel lt2) (trodAll_cons_mk (Below.trod laidOutT (by kernel_rfl) (of_decide_eq_true (by kernel_rfl)) h3 bel lt3) (trodAll_cons_mk (Below.trod laidOutT (by kernel_rfl) (of_decide_eq_true (by kernel_rfl)) h4 bel lt4) (trodAll_cons_mk (shut_int Tryz.underlying3 w5) trodAll_mk0)))))), rfl, bel.frame _, fun h => by cases h⟩

theorem algebraPoints_over : Rows.algebraPointsRow.holds Tryz.pinned (OpenSpec.ofChange Rows.algebraPointsSpec) :=
  OpenClaim.holds_of_wide 8 Tryz.f8 rfl rfl rfl rfl rfl rfl rfl ⟨rfl, rfl, rfl, rfl, rfl⟩ rfl rfl rfl rfl rfl (by kernel_rfl) Tryz.func8 (by kernel_rfl)
    (of_decide_eq_true (by kernel_rfl)) (by unfold Func.isWrapper; first | (rw [if_pos (by decide +kernel)]; kernel_rfl) | (rw [if_neg (by decide +kernel)]; exact ⟨rfl, rfl⟩))
    (fun os started H enc _ => algebraPointsLifted os started H enc)

theorem algebraPoints_holds : Rows.AlgebraPointsSaid := algebraPoints_over
#print axioms algebraPoints_holds
end Go.Proofs.YtapjalhjfblonaaGreat
