/-
  DERIVED. GIVEN WITH THE SEED: THE CARDS: each row of YtecneejegecmhaaGreatDoorRows.lean that lists a variable, with what it lists TIED to the program's text (the seventh form; the later family's looks); each row that meets fmt, with fmt's text TOLD by the authors' own Lean function (tested against real Go, not proved from fmt's source: count such statements apart). THE CARD IS WHAT COUNTS. Prove the row's statement (the work); the ties are given (YtecneejegecmhaaGreatDoorTie.lean); close each card by the builder's one call (the guide's Derived/Test/ToyasCard.lean, 'card_holds'). Laid BY PROGRAM, IN A SANDBOX (cutbox-door.mjs). By AI agents, Wed Nov 11 2026. No macro, syntax, notation, axiom, sorry.
-/
import Derived.Test.YtecneejegecmhaaGreatDoorRows
import GoSem.ClaimSeven
namespace Go.Proofs.YtecneejegecmhaaGreatDoor
namespace Rows

/-- THE TIED CARD OF 'civiltimelaw41.PlanCosts'. -/
def planCostsCard : Claim7 := { stood := { row := planCostsRow, standIns := [], harness := (true, "394860371e8c8650126034bcb1642cf9caad4ac3d8da901c0f61cbac0187922e"), looks := false }, kinds := [], alts := [], laidByText := true, laidKinds := [.data, .data, .data, .data, .widerDeep, .data, .pinned], laidTests := true, laidLooks := .later }
def PlanCostsCardSaid : Prop := Claim7.holds Tryz.pinned (.plain (OpenSpec.ofChange planCostsSpec)) planCostsCard

/-- THE SECOND FORM's CARD OF 'civiltimelaw41.PlanCosts'. -/
def planCostsUptoCard : Claim7 := { stood := { row := planCostsUptoRow, standIns := [], harness := (true, "394860371e8c8650126034bcb1642cf9caad4ac3d8da901c0f61cbac0187922e"), looks := false }, kinds := [], alts := [], laidByText := true, laidKinds := [.data, .data, .data, .data, .widerDeep, .data, .pinned], laidTests := true, laidLooks := .later }
def PlanCostsUptoCardSaid : Prop := Claim7.holds Tryz.pinned (.plain (OpenSpec.upto planCostsSpec)) planCostsUptoCard
end Rows
end Go.Proofs.YtecneejegecmhaaGreatDoor
