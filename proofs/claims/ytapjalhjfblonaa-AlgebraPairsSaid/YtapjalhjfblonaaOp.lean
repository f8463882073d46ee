/- The types of this dump: how their data come in. -/
import Derived.Test.YtapjalhjfblonaaRows
import Derived.Test.YtapjalhjfblonaaCiv21
set_option linter.unusedVariables false
namespace Go.Civ
open Go.Proofs
section
variable {H : Type} {enc : TypeId × Value → H} {w : World}
theorem opSpan : Opens enc Try.prog w 41 SpanE := opens_pair (g := fun p => ⟨p.1, p.2⟩) (fun _ => rfl) Try.underlying41 rfl (by kernel_rfl) rfl (by kernel_rfl) (by kernel_rfl) (opens_int Try.underlying3) (opens_int Try.underlying3)
theorem opVal : Opens enc Try.prog w 35 ValE := opens_three (g := fun p => ⟨p.1, p.2.1, p.2.2⟩) (fun _ => rfl) Try.underlying35 rfl (by kernel_rfl) rfl (by kernel_rfl) rfl (by kernel_rfl) (by kernel_rfl) (opens_int Try.underlying3) (opens_int Try.underlying3) (opens_str Try.underlying9)
theorem opVals : Opens enc Try.prog w 32 (ValE.slice 32) := opens_slice Try.underlying32 (by kernel_rfl) (by decide) (by kernel_rfl) (by decide) opVal
theorem opFact : Opens enc Try.prog w 43 FactE := opens_pair (g := fun p => ⟨p.1, p.2⟩) (fun _ => rfl) Try.underlying43 rfl (by kernel_rfl) rfl (by kernel_rfl) (by kernel_rfl) opVals opSpan
theorem opFacts : Opens enc Try.prog w 22 (FactE.slice 40) := opens_slice Try.underlying22 (by kernel_rfl) (by decide) (by kernel_rfl) (by decide) opFact
end
theorem ownT : ownKnob Try.prog.godebug = none := by kernel_rfl
theorem laidOutT : laidOutB Try.prog = true := by kernel_rfl
end Go.Civ
