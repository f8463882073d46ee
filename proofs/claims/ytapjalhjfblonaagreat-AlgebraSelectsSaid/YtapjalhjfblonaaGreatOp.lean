/- The types of this dump: how their data come in. -/
import Derived.Test.YtapjalhjfblonaaGreatRows
import Derived.Test.YtapjalhjfblonaaGreatCiv21
set_option linter.unusedVariables false
namespace Go.Civ
open Go.Proofs
section
variable {H : Type} {enc : TypeId × Value → H} {w : World}
theorem opSpan : Opens enc Tryz.prog w 46 SpanE := opens_pair (g := fun p => ⟨p.1, p.2⟩) (fun _ => rfl) Tryz.underlying46 rfl (by kernel_rfl) rfl (by kernel_rfl) (by kernel_rfl) (opens_int Tryz.underlying3) (opens_int Tryz.underlying3)
theorem opVal : Opens enc Tryz.prog w 34 ValE := opens_three (g := fun p => ⟨p.1, p.2.1, p.2.2⟩) (fun _ => rfl) Tryz.underlying34 rfl (by kernel_rfl) rfl (by kernel_rfl) rfl (by kernel_rfl) (by kernel_rfl) (opens_int Tryz.underlying3) (opens_int Tryz.underlying3) (opens_str Tryz.underlying9)
theorem opVals : Opens enc Tryz.prog w 61 (ValE.slice 32) := opens_slice Tryz.underlying61 (by kernel_rfl) (by decide) (by kernel_rfl) (by decide) opVal
theorem opFact : Opens enc Tryz.prog w 63 FactE := opens_pair (g := fun p => ⟨p.1, p.2⟩) (fun _ => rfl) Tryz.underlying63 rfl (by kernel_rfl) rfl (by kernel_rfl) (by kernel_rfl) opVals opSpan
theorem opFacts : Opens enc Tryz.prog w 22 (FactE.slice 40) := opens_slice Tryz.underlying22 (by kernel_rfl) (by decide) (by kernel_rfl) (by decide) opFact
end
theorem ownT : ownKnob Tryz.prog.godebug = none := by kernel_rfl
theorem laidOutT : laidOutB Tryz.prog = true := by kernel_rfl
end Go.Civ
