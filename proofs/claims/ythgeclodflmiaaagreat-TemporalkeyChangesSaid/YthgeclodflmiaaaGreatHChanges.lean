/- TemporalkeyChanges returns true for every input and leaves its arguments as they were. -/
import Derived.Test.YthgeclodflmiaaaGreatH14
import Derived.Test.YthgeclodflmiaaaGreatH44
import Derived.WalkKit
import Derived.ProofKit
import Derived.OpenShut
import Derived.ShutString
import Derived.ChangeOld
import Derived.Below
namespace Go.Proofs.YthgeclodflmiaaaGreat
open Go.ChangeShapes Go.WideShapes Go.ChangeAt Go.RowKit Go.Civ
open Go.ChangeMaps (open_string shut_string)
set_option linter.unusedVariables false

set_option maxRecDepth 100000 in
theorem temporalkeyChangesLifted (os : Os) (started : os.Started) (H : Type) (enc : TypeId × Value → H) :
    ReturnsInHanded {} Tryz.checked os 9 .any (Rows.temporalkeyChangesSpec.pre6 enc Tryz.prog Tryz.f9 Rows.temporalkeyChangesRow.domain false) (Rows.temporalkeyChangesSpec.post enc Tryz.prog Tryz.f9 false true false false) := by
  refine returnsInHanded_of_change_sized (C := Tryz.checked) Zw6 started (by kernel_rfl) Tryz.func9
    (ChangeSpec.witness6 (enc := enc) (C := Tryz.checked) false ⟨#[], #[.agg #[Zb [], .slice none 0 0, .int .i64 0, .slice none 0 0, .slice none 0 0, .int .i64 0], .bool false, .int .i64 0, .slice none 0 0, .agg #[.int .i64 0, Zb [], Zb [], .int .i64 0, .int .i64 0, Zb [], .slice none 0 0], .slice none 0 0, .agg #[.int .i64 0, .int .i64 0]], []⟩ 8 (by kernel_rfl) (by kernel_rfl) (by kernel_rfl) (by kernel_rfl)) ?_
  intro W base args ds gs before hval0 hW hcnd hsz0 _
  have hval : ∀ (j : Nat) t v, Tryz.f9.params[j]? = some t → args[j]? = some v → Value.okWide Tryz.prog W .any base t v := hval0
  have hsz : (DataW.weightsEach Tryz.prog (Tryz.f9.params.toList ++ Rows.temporalkeyChangesSpec.plain.varTypes Tryz.prog) (ds ++ gs)).all (fun x => decide (x ≤ reachBytes)) = true := hsz0
  have hW' := hW
  obtain ⟨p, q, hA0, hV, rfl, hfz, hnd⟩ := hW
  have hA : DataW.TrodAll enc Tryz.prog W 0 (fun _ => true) true Tryz.f9.params.toList args.toList ds p := hA0
  rw [Tryz.params9] at hA hval hsz
  obtain ⟨v0, vs0, d0, ds0, p0, q0, hargs, rfl, rfl, h0, r0⟩ := trodAll_cons hA
  obtain ⟨v1, vs1, d1, ds1, p1, q1, rfl, rfl, rfl, h1, r1⟩ := trodAll_cons r0
  obtain ⟨v2, vs2, d2, ds2, p2, q2, rfl, rfl, rfl, h2, r2⟩ := trodAll_cons r1
  obtain ⟨v3, vs3, d3, ds3, p3, q3, rfl, rfl, rfl, h3, r3⟩ := trodAll_cons r2
  obtain ⟨v4, vs4, d4, ds4, p4, q4, rfl, rfl, rfl, h4, r4⟩ := trodAll_cons r3
  obtain ⟨v5, vs5, d5, ds5, p5, q5, rfl, rfl, rfl, h5, r5⟩ := trodAll_cons r4
  obtain ⟨v6, vs6, d6, ds6, p6, q6, rfl, rfl, rfl, h6, r6⟩ := trodAll_cons r5
  obtain ⟨rfl, rfl, rfl⟩ := trodAll_nil r6
  obtain rfl : args = #[v0, v1, v2, v3, v4, v5, v6] := by cases args; simp_all
  obtain ⟨rfl, rfl⟩ := trodVars_none hV
  have s0 := Zad hsz
  have s1 := Zad s0.2
  have s2 := Zad s1.2
  have s3 := Zad s2.2
  have s4 := Zad s3.2
  have s5 := Zad s4.2
  have s6 := Zad s5.2
  have lt0 : ∀ x ∈ p0, x.block < W.heap.size := by obtain ⟨m, hm⟩ := h0; exact DataW.trod_lt m _ _ _ hm
  have lt3 : ∀ x ∈ p3, x.block < W.heap.size := by obtain ⟨m, hm⟩ := h3; exact DataW.trod_lt m _ _ _ hm
  have lt4 : ∀ x ∈ p4, x.block < W.heap.size := by obtain ⟨m, hm⟩ := h4; exact DataW.trod_lt m _ _ _ hm
  have lt5 : ∀ x ∈ p5, x.block < W.heap.size := by obtain ⟨m, hm⟩ := h5; exact DataW.trod_lt m _ _ _ hm
  have lt6 : ∀ x ∈ p6, x.block < W.heap.size := by obtain ⟨m, hm⟩ := h6; exact DataW.trod_lt m _ _ _ hm
  obtain ⟨a0, cs0, rfl, hl0⟩ := Zhg ZsK (by obtain ⟨cs, h, _⟩ := okWide_struct Tryz.underlying28 (hval 0 28 v0 rfl rfl); exact ⟨cs, h⟩) h0 s0.1
  obtain ⟨a1, rfl, rfl, rfl⟩ := open_bool Tryz.underlying4 (hval 1 4 v1 rfl rfl) h1
  obtain ⟨a2, rfl, rfl, rfl, w2⟩ := open_int Tryz.underlying3 (hval 2 3 v2 rfl rfl) h2
  obtain ⟨a3, hl3⟩ := Zi7 Zoq (okWide_slice Tryz.underlying31 (hval 3 31 v3 rfl rfl)) h3 s3.1
  obtain ⟨N4, a4, cs4, rfl, hl4⟩ := ZpZ Zug (by obtain ⟨cs, h, _⟩ := okWide_struct Tryz.underlying87 (hval 4 87 v4 rfl rfl); exact ⟨cs, h⟩) h4 s4.1
  obtain ⟨a5, hl5⟩ := Zi7 ZsL (okWide_slice Tryz.underlying88 (hval 5 88 v5 rfl rfl)) h5 s5.1
  obtain ⟨a6, cs6, rfl, hl6⟩ := Zhg Zk2 (by obtain ⟨cs, h, _⟩ := okWide_struct Tryz.underlying33 (hval 6 33 v6 rfl rfl); exact ⟨cs, h⟩) h6 s6.1
  refine (ZeZ (Zvu W) N4 a0 a1 a2 a3 a4 a5 a6 _ hl0 _ hl3 _ hl4 _ hl5 _ hl6 (bounds_i64 w2)).mono fun e W' ⟨r, G', he, hres, hr⟩ => ?_
  subst he
  subst hr
  have bel : Below W.heap.size W W' := hres.kept.below
  exact ⟨_, rfl, _, _, _, [], _, [], hW', trodAll_mk1 (shut_bool Tryz.underlying4 _), (trodAll_cons_mk (Below.trod Zdb (by kernel_rfl) (of_decide_eq_true (by kernel_rfl)) h0 bel lt0) (trodAll_cons_mk (shut_bool Tryz.underlying4 a1) (trodAll_cons_mk (shut_int Tryz.underlying3 w2) (trodAll_cons_mk (Below.trod Zdb (by kernel_rfl) (of_decide_eq_true (by kernel_rfl)) h3 bel lt3) (trodAll_cons_mk (Below.trod Zdb (by kernel_rfl) (of_decide_eq_true (by kernel_rfl)) h4 bel lt4) (trodAll_cons_mk (Below.trod Zdb (by kernel_rfl) (of_decide_eq_true (by kernel_rfl)) h5 bel lt5) (trodAll_cons_mk (Below.trod Zdb (by kernel_rfl) (of_decide_eq_true (by kernel_rfl)) h6 bel lt6) trodAll_mk0))))))), rfl, bel.frame _, fun h => by cases h⟩

theorem temporalkeyChanges_A : Zky Tryz.pinned.checked.prog 9 Rows.temporalkeyChangesRow = true := by kernel_rfl
theorem temporalkeyChanges_B : Zkz Tryz.pinned.checked.prog 9 Rows.temporalkeyChangesRow = true := by kernel_rfl
theorem temporalkeyChanges_C : Zk0 Tryz.pinned.checked.prog 9 Rows.temporalkeyChangesRow = true := by kernel_rfl
theorem temporalkeyChanges_D : Zk1 Tryz.pinned.checked.prog 9 Rows.temporalkeyChangesRow = true := by kernel_rfl
set_option maxRecDepth 100000 in
theorem temporalkeyChanges_over : Rows.temporalkeyChangesRow.holds Tryz.pinned (OpenSpec.ofChange Rows.temporalkeyChangesSpec) :=
  OpenClaim.holds_of_wide 9 Tryz.f9 rfl rfl rfl rfl rfl rfl rfl ⟨rfl, rfl, rfl, rfl, rfl⟩ rfl rfl rfl rfl rfl (by kernel_rfl) Tryz.func9 (Zqg temporalkeyChanges_A temporalkeyChanges_B temporalkeyChanges_C temporalkeyChanges_D (by kernel_rfl) (by kernel_rfl) (by kernel_rfl) (by kernel_rfl))
    (of_decide_eq_true (by kernel_rfl)) (by unfold Func.isWrapper; first | (rw [if_pos (by decide +kernel)]; kernel_rfl) | (rw [if_neg (by decide +kernel)]; exact ⟨rfl, rfl⟩))
    (fun os started H enc _ => temporalkeyChangesLifted os started H enc)

theorem temporalkeyChanges_holds : Rows.TemporalkeyChangesSaid := temporalkeyChanges_over
#print axioms temporalkeyChanges_holds
end Go.Proofs.YthgeclodflmiaaaGreat

