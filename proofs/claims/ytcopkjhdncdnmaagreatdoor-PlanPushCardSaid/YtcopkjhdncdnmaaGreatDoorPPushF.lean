/- PlanPush: the row's and the card's closed facts. -/
import Derived.Test.YtcopkjhdncdnmaaGreatDoorP36
import Derived.Test.YtcopkjhdncdnmaaGreatDoorCards
import Derived.Test.YtcopkjhdncdnmaaGreatDoorTie
import Derived.SevenTiedAt
set_option linter.unusedVariables false
set_option linter.unusedSimpArgs false
namespace Go.Proofs.YtcopkjhdncdnmaaGreatDoor
open Go.Civ
set_option maxRecDepth 100000
theorem planPush_A : Zhp Tryz.pinned.checked.prog 3 Rows.planPushRow = true := by kernel_rfl
theorem planPush_B : Zhq Tryz.pinned.checked.prog 3 Rows.planPushRow = true := by kernel_rfl
theorem planPush_C : Zhr Tryz.pinned.checked.prog 3 Rows.planPushRow = true := by kernel_rfl
theorem planPush_D : Zhs Tryz.pinned.checked.prog 3 Rows.planPushRow = true := by kernel_rfl
theorem planPush_1 : Zne Tryz.pinned.checked.prog Tryz.f3 Rows.planPushSpec Rows.planPushRow = true := by kernel_rfl
theorem planPush_2 : Znf Tryz.pinned.checked.prog Tryz.f3 Rows.planPushSpec Rows.planPushRow = true := by kernel_rfl
theorem planPush_3 : Zng Tryz.pinned.checked.prog Tryz.f3 Rows.planPushSpec Rows.planPushRow = true := by kernel_rfl
theorem planPush_4 : Znh Tryz.pinned.checked.prog Tryz.f3 Rows.planPushSpec Rows.planPushRow = true := by kernel_rfl
theorem planPush_N : Tryz.pinned.checked.prog.funcNamed Rows.planPushRow.func = some 3 := by kernel_rfl
theorem planPush_I : Tryz.f3.isInstance Tryz.pinned.checked.prog Rows.planPushRow.origin Rows.planPushRow.targs := of_decide_eq_true (by kernel_rfl)
theorem planPush_W : Tryz.f3.isWrapper Tryz.pinned.checked.prog Rows.planPushRow.wrapper Rows.planPushRow.mainSum := by unfold Func.isWrapper; first | (rw [if_pos (by decide +kernel)]; kernel_rfl) | (rw [if_neg (by decide +kernel)]; exact ⟨rfl, rfl⟩)
theorem planPush_V : Rows.planPushRow.wfByText (OpenSpec.ofChange Rows.planPushSpec) = true := by kernel_rfl
theorem planPush_M : Tryz.pinned.checked.prog.mainIs = some (true, "7b2524b20cb2e5f5c389adcd86396f314b5e8d15c0350b55bd525bed69b6786f".toList) := by kernel_rfl
theorem planPush_G : false = Rows.planPushRow.goesBy Tryz.pinned.checked.prog := by kernel_rfl
theorem planPush_L : false = Tryz.pinned.checked.prog.looks [] := by kernel_rfl
theorem planPush_s32 : Tryz.prog.wantsStandIn 32 = false := by kernel_rfl
theorem planPush_s33 : Tryz.prog.wantsStandIn 33 = false := by kernel_rfl
end Go.Proofs.YtcopkjhdncdnmaaGreatDoor

