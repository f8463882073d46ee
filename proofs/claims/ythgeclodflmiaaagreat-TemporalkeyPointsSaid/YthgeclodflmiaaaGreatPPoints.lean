/- TemporalkeyPoints returns true for every input and leaves its arguments as they were. -/
import Derived.Test.YthgeclodflmiaaaGreatP20
import Derived.Test.YthgeclodflmiaaaGreatP45
import Derived.WalkKit
import Derived.ProofKit
import Derived.OpenShut
import Derived.ShutString
import Derived.ChangeOld
import Derived.Below
namespace Go.Proofs.YthgeclodflmiaaaGreat
open Go.ChangeShapes Go.WideShapes Go.ChangeAt Go.RowKit Go.Civ
open Go.ChangeMaps (open_string shut_string)
set_option linter.unusedVariables false

set_option maxRecDepth 100000 in
theorem temporalkeyPointsLifted (os : Os) (started : os.Started) (H : Type) (enc : TypeId × Value → H) :
    ReturnsInHanded {} Tryz.checked os 5 .any (Rows.temporalkeyPointsSpec.pre6 enc Tryz.prog Tryz.f5 Rows.temporalkeyPointsRow.domain false) (Rows.temporalkeyPointsSpec.post enc Tryz.prog Tryz.f5 false true false false) := by
  refine returnsInHanded_of_change_sized (C := Tryz.checked) Zrv started (by kernel_rfl) Tryz.func5
    (ChangeSpec.witness6 (enc := enc) (C := Tryz.checked) false ⟨#[], #[.agg #[Zd [], .slice none 0 0, .int .i64 0, .slice none 0 0, .slice none 0 0, .int .i64 0], .agg #[Zd [], .slice none 0 0, .int .i64 0, .slice none 0 0, .slice none 0 0, .int .i64 0], .agg #[.slice none 0 0, Zd []]], []⟩ 8 (by kernel_rfl) (by kernel_rfl) (by kernel_rfl) (by kernel_rfl)) ?_
  intro W base args ds gs before hval0 hW hcnd hsz0 _
  have hval : ∀ (j : Nat) t v, Tryz.f5.params[j]? = some t → args[j]? = some v → Value.okWide Tryz.prog W .any base t v := hval0
  have hsz : (DataW.weightsEach Tryz.prog (Tryz.f5.params.toList ++ Rows.temporalkeyPointsSpec.plain.varTypes Tryz.prog) (ds ++ gs)).all (fun x => decide (x ≤ reachBytes)) = true := hsz0
  have hW' := hW
  obtain ⟨p, q, hA0, hV, rfl, hfz, hnd⟩ := hW
  have hA : DataW.TrodAll enc Tryz.prog W 0 (fun _ => true) true Tryz.f5.params.toList args.toList ds p := hA0
  rw [Tryz.params5] at hA hval hsz
  obtain ⟨v0, vs0, d0, ds0, p0, q0, hargs, rfl, rfl, h0, r0⟩ := trodAll_cons hA
  obtain ⟨v1, vs1, d1, ds1, p1, q1, rfl, rfl, rfl, h1, r1⟩ := trodAll_cons r0
  obtain ⟨v2, vs2, d2, ds2, p2, q2, rfl, rfl, rfl, h2, r2⟩ := trodAll_cons r1
  obtain ⟨rfl, rfl, rfl⟩ := trodAll_nil r2
  obtain rfl : args = #[v0, v1, v2] := by cases args; simp_all
  obtain ⟨rfl, rfl⟩ := trodVars_none hV
  have s0 := Zaf hsz
  have s1 := Zaf s0.2
  have s2 := Zaf s1.2
  have lt0 : ∀ x ∈ p0, x.block < W.heap.size := by obtain ⟨m, hm⟩ := h0; exact DataW.trod_lt m _ _ _ hm
  have lt1 : ∀ x ∈ p1, x.block < W.heap.size := by obtain ⟨m, hm⟩ := h1; exact DataW.trod_lt m _ _ _ hm
  have lt2 : ∀ x ∈ p2, x.block < W.heap.size := by obtain ⟨m, hm⟩ := h2; exact DataW.trod_lt m _ _ _ hm
  obtain ⟨a0, cs0, rfl, hl0⟩ := Zae ZeR (by obtain ⟨cs, h, _⟩ := okWide_struct Tryz.underlying28 (hval 0 28 v0 rfl rfl); exact ⟨cs, h⟩) h0 s0.1
  obtain ⟨a1, cs1, rfl, hl1⟩ := Zae ZeR (by obtain ⟨cs, h, _⟩ := okWide_struct Tryz.underlying28 (hval 1 28 v1 rfl rfl); exact ⟨cs, h⟩) h1 s1.1
  obtain ⟨a2, cs2, rfl, hl2⟩ := Zae Zef (by obtain ⟨cs, h, _⟩ := okWide_struct Tryz.underlying50 (hval 2 50 v2 rfl rfl); exact ⟨cs, h⟩) h2 s2.1
  refine (ZdY (Zp0 W) a0 a1 a2 _ hl0 _ hl1 _ hl2 ).mono fun e W' ⟨r, G', he, hres, hr⟩ => ?_
  subst he
  subst hr
  have bel : Below W.heap.size W W' := hres.kept.below
  exact ⟨_, rfl, _, _, _, [], _, [], hW', trodAll_mk1 (shut_bool Tryz.underlying4 _), (trodAll_cons_mk (Below.trod Zbi (by kernel_rfl) (of_decide_eq_true (by kernel_rfl)) h0 bel lt0) (trodAll_cons_mk (Below.trod Zbi (by kernel_rfl) (of_decide_eq_true (by kernel_rfl)) h1 bel lt1) (trodAll_cons_mk (Below.trod Zbi (by kernel_rfl) (of_decide_eq_true (by kernel_rfl)) h2 bel lt2) trodAll_mk0))), rfl, bel.frame _, fun h => by cases h⟩

theorem temporalkeyPoints_A : Zgd Tryz.pinned.checked.prog 5 Rows.temporalkeyPointsRow = true := by kernel_rfl
theorem temporalkeyPoints_B : Zge Tryz.pinned.checked.prog 5 Rows.temporalkeyPointsRow = true := by kernel_rfl
theorem temporalkeyPoints_C : Zgf Tryz.pinned.checked.prog 5 Rows.temporalkeyPointsRow = true := by kernel_rfl
theorem temporalkeyPoints_D : Zgg Tryz.pinned.checked.prog 5 Rows.temporalkeyPointsRow = true := by kernel_rfl
set_option maxRecDepth 100000 in
theorem temporalkeyPoints_over : Rows.temporalkeyPointsRow.holds Tryz.pinned (OpenSpec.ofChange Rows.temporalkeyPointsSpec) :=
  OpenClaim.holds_of_wide 5 Tryz.f5 rfl rfl rfl rfl rfl rfl rfl ⟨rfl, rfl, rfl, rfl, rfl⟩ rfl rfl rfl rfl rfl (by kernel_rfl) Tryz.func5 (ZiM temporalkeyPoints_A temporalkeyPoints_B temporalkeyPoints_C temporalkeyPoints_D (by kernel_rfl) (by kernel_rfl) (by kernel_rfl) (by kernel_rfl))
    (of_decide_eq_true (by kernel_rfl)) (by unfold Func.isWrapper; first | (rw [if_pos (by decide +kernel)]; kernel_rfl) | (rw [if_neg (by decide +kernel)]; exact ⟨rfl, rfl⟩))
    (fun os started H enc _ => temporalkeyPointsLifted os started H enc)

theorem temporalkeyPoints_holds : Rows.TemporalkeyPointsSaid := temporalkeyPoints_over
#print axioms temporalkeyPoints_holds
end Go.Proofs.YthgeclodflmiaaaGreat

