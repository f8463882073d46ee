/- TemporalkeyDeletes returns true for every input and leaves its arguments as they were. -/
import Derived.Test.YthgeclodflmiaaaGreatD15
import Derived.Test.YthgeclodflmiaaaGreatD44
import Derived.WalkKit
import Derived.ProofKit
import Derived.OpenShut
import Derived.ShutString
import Derived.ChangeOld
import Derived.Below
namespace Go.Proofs.YthgeclodflmiaaaGreat
open Go.ChangeShapes Go.WideShapes Go.ChangeAt Go.RowKit Go.Civ
open Go.ChangeMaps (open_string shut_string)
set_option linter.unusedVariables false

set_option maxRecDepth 100000 in
theorem temporalkeyDeletesLifted (os : Os) (started : os.Started) (H : Type) (enc : TypeId × Value → H) :
    ReturnsInHanded {} Tryz.checked os 10 .any (Rows.temporalkeyDeletesSpec.pre6 enc Tryz.prog Tryz.f10 Rows.temporalkeyDeletesRow.domain false) (Rows.temporalkeyDeletesSpec.post enc Tryz.prog Tryz.f10 false true false false) := by
  refine returnsInHanded_of_change_sized (C := Tryz.checked) ZzM started (by kernel_rfl) Tryz.func10
    (ChangeSpec.witness6 (enc := enc) (C := Tryz.checked) false ⟨#[], #[.agg #[Za [], .slice none 0 0, .int .i64 0, .slice none 0 0, .slice none 0 0, .int .i64 0], .int .i64 0, .agg #[.int .i64 0, Za [], Za [], .int .i64 0, .int .i64 0, Za [], .slice none 0 0], .agg #[.int .i64 0, .int .i64 0], .slice none 0 0], []⟩ 8 (by kernel_rfl) (by kernel_rfl) (by kernel_rfl) (by kernel_rfl)) ?_
  intro W base args ds gs before hval0 hW hcnd hsz0 _
  have hval : ∀ (j : Nat) t v, Tryz.f10.params[j]? = some t → args[j]? = some v → Value.okWide Tryz.prog W .any base t v := hval0
  have hsz : (DataW.weightsEach Tryz.prog (Tryz.f10.params.toList ++ Rows.temporalkeyDeletesSpec.plain.varTypes Tryz.prog) (ds ++ gs)).all (fun x => decide (x ≤ reachBytes)) = true := hsz0
  have hW' := hW
  obtain ⟨p, q, hA0, hV, rfl, hfz, hnd⟩ := hW
  have hA : DataW.TrodAll enc Tryz.prog W 0 (fun _ => true) true Tryz.f10.params.toList args.toList ds p := hA0
  rw [Tryz.params10] at hA hval hsz
  obtain ⟨v0, vs0, d0, ds0, p0, q0, hargs, rfl, rfl, h0, r0⟩ := trodAll_cons hA
  obtain ⟨v1, vs1, d1, ds1, p1, q1, rfl, rfl, rfl, h1, r1⟩ := trodAll_cons r0
  obtain ⟨v2, vs2, d2, ds2, p2, q2, rfl, rfl, rfl, h2, r2⟩ := trodAll_cons r1
  obtain ⟨v3, vs3, d3, ds3, p3, q3, rfl, rfl, rfl, h3, r3⟩ := trodAll_cons r2
  obtain ⟨v4, vs4, d4, ds4, p4, q4, rfl, rfl, rfl, h4, r4⟩ := trodAll_cons r3
  obtain ⟨rfl, rfl, rfl⟩ := trodAll_nil r4
  obtain rfl : args = #[v0, v1, v2, v3, v4] := by cases args; simp_all
  obtain ⟨rfl, rfl⟩ := trodVars_none hV
  have s0 := Zco hsz
  have s1 := Zco s0.2
  have s2 := Zco s1.2
  have s3 := Zco s2.2
  have s4 := Zco s3.2
  have lt0 : ∀ x ∈ p0, x.block < W.heap.size := by obtain ⟨m, hm⟩ := h0; exact DataW.trod_lt m _ _ _ hm
  have lt2 : ∀ x ∈ p2, x.block < W.heap.size := by obtain ⟨m, hm⟩ := h2; exact DataW.trod_lt m _ _ _ hm
  have lt3 : ∀ x ∈ p3, x.block < W.heap.size := by obtain ⟨m, hm⟩ := h3; exact DataW.trod_lt m _ _ _ hm
  have lt4 : ∀ x ∈ p4, x.block < W.heap.size := by obtain ⟨m, hm⟩ := h4; exact DataW.trod_lt m _ _ _ hm
  obtain ⟨a0, cs0, rfl, hl0⟩ := Zik ZnB (by obtain ⟨cs, h, _⟩ := okWide_struct Tryz.underlying28 (hval 0 28 v0 rfl rfl); exact ⟨cs, h⟩) h0 s0.1
  obtain ⟨a1, rfl, rfl, rfl, w1⟩ := open_int Tryz.underlying3 (hval 1 3 v1 rfl rfl) h1
  obtain ⟨N2, a2, cs2, rfl, hl2⟩ := Zsp ZwP (by obtain ⟨cs, h, _⟩ := okWide_struct Tryz.underlying87 (hval 2 87 v2 rfl rfl); exact ⟨cs, h⟩) h2 s2.1
  obtain ⟨a3, cs3, rfl, hl3⟩ := Zik ZlS (by obtain ⟨cs, h, _⟩ := okWide_struct Tryz.underlying33 (hval 3 33 v3 rfl rfl); exact ⟨cs, h⟩) h3 s3.1
  obtain ⟨a4, hl4⟩ := ZpU Zsy (okWide_slice Tryz.underlying77 (hval 4 77 v4 rfl rfl)) h4 s4.1
  refine (ZfL (Zyu W) N2 a0 a1 a2 a3 a4 _ hl0 _ hl2 _ hl3 _ hl4 (bounds_i64 w1)).mono fun e W' ⟨r, G', he, hres, hr⟩ => ?_
  subst he
  subst hr
  have bel : Below W.heap.size W W' := hres.kept.below
  exact ⟨_, rfl, _, _, _, [], _, [], hW', trodAll_mk1 (shut_bool Tryz.underlying4 _), (trodAll_cons_mk (Below.trod Zfi (by kernel_rfl) (of_decide_eq_true (by kernel_rfl)) h0 bel lt0) (trodAll_cons_mk (shut_int Tryz.underlying3 w1) (trodAll_cons_mk (Below.trod Zfi (by kernel_rfl) (of_decide_eq_true (by kernel_rfl)) h2 bel lt2) (trodAll_cons_mk (Below.trod Zfi (by kernel_rfl) (of_decide_eq_true (by kernel_rfl)) h3 bel lt3) (trodAll_cons_mk (Below.trod Zfi (by kernel_rfl) (of_decide_eq_true (by kernel_rfl)) h4 bel lt4) trodAll_mk0))))), rfl, bel.frame _, fun h => by cases h⟩

theorem temporalkeyDeletes_A : ZlO Tryz.pinned.checked.prog 10 Rows.temporalkeyDeletesRow = true := by kernel_rfl
theorem temporalkeyDeletes_B : ZlP Tryz.pinned.checked.prog 10 Rows.temporalkeyDeletesRow = true := by kernel_rfl
theorem temporalkeyDeletes_C : ZlQ Tryz.pinned.checked.prog 10 Rows.temporalkeyDeletesRow = true := by kernel_rfl
theorem temporalkeyDeletes_D : ZlR Tryz.pinned.checked.prog 10 Rows.temporalkeyDeletesRow = true := by kernel_rfl
set_option maxRecDepth 100000 in
theorem temporalkeyDeletes_over : Rows.temporalkeyDeletesRow.holds Tryz.pinned (OpenSpec.ofChange Rows.temporalkeyDeletesSpec) :=
  OpenClaim.holds_of_wide 10 Tryz.f10 rfl rfl rfl rfl rfl rfl rfl ⟨rfl, rfl, rfl, rfl, rfl⟩ rfl rfl rfl rfl rfl (by kernel_rfl) Tryz.func10 (Zsw temporalkeyDeletes_A temporalkeyDeletes_B temporalkeyDeletes_C temporalkeyDeletes_D (by kernel_rfl) (by kernel_rfl) (by kernel_rfl) (by kernel_rfl))
    (of_decide_eq_true (by kernel_rfl)) (by unfold Func.isWrapper; first | (rw [if_pos (by decide +kernel)]; kernel_rfl) | (rw [if_neg (by decide +kernel)]; exact ⟨rfl, rfl⟩))
    (fun os started H enc _ => temporalkeyDeletesLifted os started H enc)

theorem temporalkeyDeletes_holds : Rows.TemporalkeyDeletesSaid := temporalkeyDeletes_over
#print axioms temporalkeyDeletes_holds
end Go.Proofs.YthgeclodflmiaaaGreat

