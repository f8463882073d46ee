/- TemporalkeyMerges returns true for every input and leaves its arguments as they were. -/
import Derived.Test.YthgeclodflmiaaaGreatN19
import Derived.Test.YthgeclodflmiaaaGreatN44
import Derived.WalkKit
import Derived.ProofKit
import Derived.OpenShut
import Derived.ShutString
import Derived.ChangeOld
import Derived.Below
namespace Go.Proofs.YthgeclodflmiaaaGreat
open Go.ChangeShapes Go.WideShapes Go.ChangeAt Go.RowKit Go.Civ
open Go.ChangeMaps (open_string shut_string)
set_option linter.unusedVariables false

set_option maxRecDepth 100000 in
theorem temporalkeyMergesLifted (os : Os) (started : os.Started) (H : Type) (enc : TypeId × Value → H) :
    ReturnsInHanded {} Tryz.checked os 4 .any (Rows.temporalkeyMergesSpec.pre6 enc Tryz.prog Tryz.f4 Rows.temporalkeyMergesRow.domain false) (Rows.temporalkeyMergesSpec.post enc Tryz.prog Tryz.f4 false true false false) := by
  refine returnsInHanded_of_change_sized (C := Tryz.checked) Zwi started (by kernel_rfl) Tryz.func4
    (ChangeSpec.witness6 (enc := enc) (C := Tryz.checked) false ⟨#[], #[.agg #[Zb [], .slice none 0 0, .int .i64 0, .slice none 0 0, .slice none 0 0, .int .i64 0], .int .i64 0, .slice none 0 0, .agg #[.int .i64 0, .int .i64 0]], []⟩ 8 (by kernel_rfl) (by kernel_rfl) (by kernel_rfl) (by kernel_rfl)) ?_
  intro W base args ds gs before hval0 hW hcnd hsz0 _
  have hval : ∀ (j : Nat) t v, Tryz.f4.params[j]? = some t → args[j]? = some v → Value.okWide Tryz.prog W .any base t v := hval0
  have hsz : (DataW.weightsEach Tryz.prog (Tryz.f4.params.toList ++ Rows.temporalkeyMergesSpec.plain.varTypes Tryz.prog) (ds ++ gs)).all (fun x => decide (x ≤ reachBytes)) = true := hsz0
  have hW' := hW
  obtain ⟨p, q, hA0, hV, rfl, hfz, hnd⟩ := hW
  have hA : DataW.TrodAll enc Tryz.prog W 0 (fun _ => true) true Tryz.f4.params.toList args.toList ds p := hA0
  rw [Tryz.params4] at hA hval hsz
  obtain ⟨v0, vs0, d0, ds0, p0, q0, hargs, rfl, rfl, h0, r0⟩ := trodAll_cons hA
  obtain ⟨v1, vs1, d1, ds1, p1, q1, rfl, rfl, rfl, h1, r1⟩ := trodAll_cons r0
  obtain ⟨v2, vs2, d2, ds2, p2, q2, rfl, rfl, rfl, h2, r2⟩ := trodAll_cons r1
  obtain ⟨v3, vs3, d3, ds3, p3, q3, rfl, rfl, rfl, h3, r3⟩ := trodAll_cons r2
  obtain ⟨rfl, rfl, rfl⟩ := trodAll_nil r3
  obtain rfl : args = #[v0, v1, v2, v3] := by cases args; simp_all
  obtain ⟨rfl, rfl⟩ := trodVars_none hV
  have s0 := Zc2 hsz
  have s1 := Zc2 s0.2
  have s2 := Zc2 s1.2
  have s3 := Zc2 s2.2
  have lt0 : ∀ x ∈ p0, x.block < W.heap.size := by obtain ⟨m, hm⟩ := h0; exact DataW.trod_lt m _ _ _ hm
  have lt2 : ∀ x ∈ p2, x.block < W.heap.size := by obtain ⟨m, hm⟩ := h2; exact DataW.trod_lt m _ _ _ hm
  have lt3 : ∀ x ∈ p3, x.block < W.heap.size := by obtain ⟨m, hm⟩ := h3; exact DataW.trod_lt m _ _ _ hm
  obtain ⟨a0, cs0, rfl, hl0⟩ := ZgR Zs9 (by obtain ⟨cs, h, _⟩ := okWide_struct Tryz.underlying28 (hval 0 28 v0 rfl rfl); exact ⟨cs, h⟩) h0 s0.1
  obtain ⟨a1, rfl, rfl, rfl, w1⟩ := open_int Tryz.underlying3 (hval 1 3 v1 rfl rfl) h1
  obtain ⟨a2, hl2⟩ := ZnW Zoi (okWide_slice Tryz.underlying31 (hval 2 31 v2 rfl rfl)) h2 s2.1
  obtain ⟨a3, cs3, rfl, hl3⟩ := ZgR Zki (by obtain ⟨cs, h, _⟩ := okWide_struct Tryz.underlying33 (hval 3 33 v3 rfl rfl); exact ⟨cs, h⟩) h3 s3.1
  refine (ZeZ (ZuT W) a0 a1 a2 a3 _ hl0 _ hl2 _ hl3 (bounds_i64 w1)).mono fun e W' ⟨r, G', he, hres, hr⟩ => ?_
  subst he
  subst hr
  have bel : Below W.heap.size W W' := hres.kept.below
  exact ⟨_, rfl, _, _, _, [], _, [], hW', trodAll_mk1 (shut_bool Tryz.underlying4 _), (trodAll_cons_mk (Below.trod Zgs (by kernel_rfl) (of_decide_eq_true (by kernel_rfl)) h0 bel lt0) (trodAll_cons_mk (shut_int Tryz.underlying3 w1) (trodAll_cons_mk (Below.trod Zgs (by kernel_rfl) (of_decide_eq_true (by kernel_rfl)) h2 bel lt2) (trodAll_cons_mk (Below.trod Zgs (by kernel_rfl) (of_decide_eq_true (by kernel_rfl)) h3 bel lt3) trodAll_mk0)))), rfl, bel.frame _, fun h => by cases h⟩

theorem temporalkeyMerges_A : Zke Tryz.pinned.checked.prog 4 Rows.temporalkeyMergesRow = true := by kernel_rfl
theorem temporalkeyMerges_B : Zkf Tryz.pinned.checked.prog 4 Rows.temporalkeyMergesRow = true := by kernel_rfl
theorem temporalkeyMerges_C : Zkg Tryz.pinned.checked.prog 4 Rows.temporalkeyMergesRow = true := by kernel_rfl
theorem temporalkeyMerges_D : Zkh Tryz.pinned.checked.prog 4 Rows.temporalkeyMergesRow = true := by kernel_rfl
set_option maxRecDepth 100000 in
theorem temporalkeyMerges_over : Rows.temporalkeyMergesRow.holds Tryz.pinned (OpenSpec.ofChange Rows.temporalkeyMergesSpec) :=
  OpenClaim.holds_of_wide 4 Tryz.f4 rfl rfl rfl rfl rfl rfl rfl ⟨rfl, rfl, rfl, rfl, rfl⟩ rfl rfl rfl rfl rfl (by kernel_rfl) Tryz.func4 (Zqh temporalkeyMerges_A temporalkeyMerges_B temporalkeyMerges_C temporalkeyMerges_D (by kernel_rfl) (by kernel_rfl) (by kernel_rfl) (by kernel_rfl))
    (of_decide_eq_true (by kernel_rfl)) (by unfold Func.isWrapper; first | (rw [if_pos (by decide +kernel)]; kernel_rfl) | (rw [if_neg (by decide +kernel)]; exact ⟨rfl, rfl⟩))
    (fun os started H enc _ => temporalkeyMergesLifted os started H enc)

theorem temporalkeyMerges_holds : Rows.TemporalkeyMergesSaid := temporalkeyMerges_over
#print axioms temporalkeyMerges_holds
end Go.Proofs.YthgeclodflmiaaaGreat

