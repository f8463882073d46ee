/-
  DERIVED. GIVEN WITH THE SEED: THE CARDS: each row of YtcopkjhdncdnmaaGreatDoorRows.lean that lists a variable, with what it lists TIED to the program's text (the seventh form; the later family's looks); each row that meets fmt, with fmt's text TOLD by the authors' own Lean function (tested against real Go, not proved from fmt's source: count such statements apart). THE CARD IS WHAT COUNTS. Prove the row's statement (the work); the ties are given (YtcopkjhdncdnmaaGreatDoorTie.lean); close each card by the builder's one call (the guide's Derived/Test/ToyasCard.lean, 'card_holds'). Laid BY PROGRAM, IN A SANDBOX (cutbox-door.mjs). By AI agents, Wed Nov 11 2026. No macro, syntax, notation, axiom, sorry.
-/
import Derived.Test.YtcopkjhdncdnmaaGreatDoorRows
import GoSem.ClaimSeven
namespace Go.Proofs.YtcopkjhdncdnmaaGreatDoor
namespace Rows

/-- THE TIED CARD OF 'civiltimelaw41.PlanPush'. -/
def planPushCard : Claim7 := { stood := { row := planPushRow, standIns := [], harness := (true, "7b2524b20cb2e5f5c389adcd86396f314b5e8d15c0350b55bd525bed69b6786f"), looks := false }, kinds := [], alts := [], laidByText := true, laidKinds := [.widerDeep, .data], laidTests := true, laidLooks := .later }
def PlanPushCardSaid : Prop := Claim7.holds Tryz.pinned (.plain (OpenSpec.ofChange planPushSpec)) planPushCard

/-- THE TIED CARD OF 'civiltimelaw41.PlanCosts'. -/
def planCostsCard : Claim7 := { stood := { row := planCostsRow, standIns := [], harness := (true, "7b2524b20cb2e5f5c389adcd86396f314b5e8d15c0350b55bd525bed69b6786f"), looks := false }, kinds := [], alts := [], laidByText := true, laidKinds := [.data, .data, .data, .data, .widerDeep, .data, .pinned], laidTests := true, laidLooks := .later }
def PlanCostsCardSaid : Prop := Claim7.holds Tryz.pinned (.plain (OpenSpec.ofChange planCostsSpec)) planCostsCard

/-- THE TIED CARD OF 'civiltimelaw41.PlanNeeds'. -/
def planNeedsCard : Claim7 := { stood := { row := planNeedsRow, standIns := [], harness := (true, "7b2524b20cb2e5f5c389adcd86396f314b5e8d15c0350b55bd525bed69b6786f"), looks := false }, kinds := [], alts := [], laidByText := true, laidKinds := [.widerDeep, .data], laidTests := true, laidLooks := .later }
def PlanNeedsCardSaid : Prop := Claim7.holds Tryz.pinned (.plain (OpenSpec.ofChange planNeedsSpec)) planNeedsCard

/-- THE TIED CARD OF 'civiltimelaw41.PlanNarrow'. -/
def planNarrowCard : Claim7 := { stood := { row := planNarrowRow, standIns := [], harness := (true, "7b2524b20cb2e5f5c389adcd86396f314b5e8d15c0350b55bd525bed69b6786f"), looks := false }, kinds := [], alts := [], laidByText := true, laidKinds := [.widerDeep, .data], laidTests := true, laidLooks := .later }
def PlanNarrowCardSaid : Prop := Claim7.holds Tryz.pinned (.plain (OpenSpec.ofChange planNarrowSpec)) planNarrowCard

/-- THE TIED CARD OF 'civiltimelaw41.PlanEquivalent'. -/
def planEquivalentCard : Claim7 := { stood := { row := planEquivalentRow, standIns := [], harness := (true, "7b2524b20cb2e5f5c389adcd86396f314b5e8d15c0350b55bd525bed69b6786f"), looks := false }, kinds := [], alts := [], laidByText := true, laidKinds := [.widerDeep, .data], laidTests := true, laidLooks := .later }
def PlanEquivalentCardSaid : Prop := Claim7.holds Tryz.pinned (.plain (OpenSpec.ofChange planEquivalentSpec)) planEquivalentCard

/-- THE SECOND FORM's CARD OF 'civiltimelaw41.PlanPush'. -/
def planPushUptoCard : Claim7 := { stood := { row := planPushUptoRow, standIns := [], harness := (true, "7b2524b20cb2e5f5c389adcd86396f314b5e8d15c0350b55bd525bed69b6786f"), looks := false }, kinds := [], alts := [], laidByText := true, laidKinds := [.widerDeep, .data], laidTests := true, laidLooks := .later }
def PlanPushUptoCardSaid : Prop := Claim7.holds Tryz.pinned (.plain (OpenSpec.upto planPushSpec)) planPushUptoCard

/-- THE SECOND FORM's CARD OF 'civiltimelaw41.PlanCosts'. -/
def planCostsUptoCard : Claim7 := { stood := { row := planCostsUptoRow, standIns := [], harness := (true, "7b2524b20cb2e5f5c389adcd86396f314b5e8d15c0350b55bd525bed69b6786f"), looks := false }, kinds := [], alts := [], laidByText := true, laidKinds := [.data, .data, .data, .data, .widerDeep, .data, .pinned], laidTests := true, laidLooks := .later }
def PlanCostsUptoCardSaid : Prop := Claim7.holds Tryz.pinned (.plain (OpenSpec.upto planCostsSpec)) planCostsUptoCard

/-- THE SECOND FORM's CARD OF 'civiltimelaw41.PlanNeeds'. -/
def planNeedsUptoCard : Claim7 := { stood := { row := planNeedsUptoRow, standIns := [], harness := (true, "7b2524b20cb2e5f5c389adcd86396f314b5e8d15c0350b55bd525bed69b6786f"), looks := false }, kinds := [], alts := [], laidByText := true, laidKinds := [.widerDeep, .data], laidTests := true, laidLooks := .later }
def PlanNeedsUptoCardSaid : Prop := Claim7.holds Tryz.pinned (.plain (OpenSpec.upto planNeedsSpec)) planNeedsUptoCard

/-- THE SECOND FORM's CARD OF 'civiltimelaw41.PlanNarrow'. -/
def planNarrowUptoCard : Claim7 := { stood := { row := planNarrowUptoRow, standIns := [], harness := (true, "7b2524b20cb2e5f5c389adcd86396f314b5e8d15c0350b55bd525bed69b6786f"), looks := false }, kinds := [], alts := [], laidByText := true, laidKinds := [.widerDeep, .data], laidTests := true, laidLooks := .later }
def PlanNarrowUptoCardSaid : Prop := Claim7.holds Tryz.pinned (.plain (OpenSpec.upto planNarrowSpec)) planNarrowUptoCard

/-- THE SECOND FORM's CARD OF 'civiltimelaw41.PlanEquivalent'. -/
def planEquivalentUptoCard : Claim7 := { stood := { row := planEquivalentUptoRow, standIns := [], harness := (true, "7b2524b20cb2e5f5c389adcd86396f314b5e8d15c0350b55bd525bed69b6786f"), looks := false }, kinds := [], alts := [], laidByText := true, laidKinds := [.widerDeep, .data], laidTests := true, laidLooks := .later }
def PlanEquivalentUptoCardSaid : Prop := Claim7.holds Tryz.pinned (.plain (OpenSpec.upto planEquivalentSpec)) planEquivalentUptoCard
end Rows
end Go.Proofs.YtcopkjhdncdnmaaGreatDoor
