/- PlanCosts: the row's and the card's closed facts. -/
import Derived.Test.YtecneejegecmhaaGreatDoorK34
import Derived.Test.YtecneejegecmhaaGreatDoorCards
import Derived.Test.YtecneejegecmhaaGreatDoorTie
import Derived.SevenTiedAt
set_option linter.unusedVariables false
set_option linter.unusedSimpArgs false
namespace Go.Proofs.YtecneejegecmhaaGreatDoor
open Go.Civ
set_option maxRecDepth 100000
theorem planCosts_A : ZhF Tryz.pinned.checked.prog 3 Rows.planCostsRow = true := by kernel_rfl
theorem planCosts_B : ZhG Tryz.pinned.checked.prog 3 Rows.planCostsRow = true := by kernel_rfl
theorem planCosts_C : ZhH Tryz.pinned.checked.prog 3 Rows.planCostsRow = true := by kernel_rfl
theorem planCosts_D : ZhI Tryz.pinned.checked.prog 3 Rows.planCostsRow = true := by kernel_rfl
theorem planCosts_1 : ZoN Tryz.pinned.checked.prog Tryz.f3 Rows.planCostsSpec Rows.planCostsRow = true := by kernel_rfl
theorem planCosts_2 : ZoO Tryz.pinned.checked.prog Tryz.f3 Rows.planCostsSpec Rows.planCostsRow = true := by kernel_rfl
theorem planCosts_3 : ZoP Tryz.pinned.checked.prog Tryz.f3 Rows.planCostsSpec Rows.planCostsRow = true := by kernel_rfl
theorem planCosts_4 : ZoQ Tryz.pinned.checked.prog Tryz.f3 Rows.planCostsSpec Rows.planCostsRow = true := by kernel_rfl
theorem planCosts_N : Tryz.pinned.checked.prog.funcNamed Rows.planCostsRow.func = some 3 := by kernel_rfl
theorem planCosts_I : Tryz.f3.isInstance Tryz.pinned.checked.prog Rows.planCostsRow.origin Rows.planCostsRow.targs := of_decide_eq_true (by kernel_rfl)
theorem planCosts_W : Tryz.f3.isWrapper Tryz.pinned.checked.prog Rows.planCostsRow.wrapper Rows.planCostsRow.mainSum := by unfold Func.isWrapper; first | (rw [if_pos (by decide +kernel)]; kernel_rfl) | (rw [if_neg (by decide +kernel)]; exact ⟨rfl, rfl⟩)
theorem planCosts_V : Rows.planCostsRow.wfByText (OpenSpec.ofChange Rows.planCostsSpec) = true := by kernel_rfl
theorem planCosts_M : Tryz.pinned.checked.prog.mainIs = some (true, "394860371e8c8650126034bcb1642cf9caad4ac3d8da901c0f61cbac0187922e".toList) := by kernel_rfl
theorem planCosts_G : false = Rows.planCostsRow.goesBy Tryz.pinned.checked.prog := by kernel_rfl
theorem planCosts_L : false = Tryz.pinned.checked.prog.looks [] := by kernel_rfl
theorem planCosts_s25 : Tryz.prog.wantsStandIn 25 = false := by kernel_rfl
theorem planCosts_s26 : Tryz.prog.wantsStandIn 26 = false := by kernel_rfl
end Go.Proofs.YtecneejegecmhaaGreatDoor

