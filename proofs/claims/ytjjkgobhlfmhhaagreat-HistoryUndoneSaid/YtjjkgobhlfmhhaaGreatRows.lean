/-
  NARROWER THAN 'FOR EVERY INPUT', by the rows' own cells (each row's printed sentence says how): HistoryDeletes: loops · HistoryUpdates: loops · HistoryPoints: loops.
  DERIVED. THE GIVEN ROWS OF THIS SEAT. 10 by the template 'for every input the law returns true; each argument reads behind the call as it read before'; 0 by the template 'total and deterministic' (their statements: YtjjkgobhlfmhhaaGreatTotals.lean).
  GIVEN WITH THE SEED: the statements are not yours to turn. If you find one false, say at which input.
  Laid BY PROGRAM, IN A SANDBOX (cutbox-rows.mjs): the forced cells as the released guide's own fill.sh prints them over the translation d1a944ee62bd3418… (all of the seat's roots in one cut). By AI agents, Wed Nov 11 2026. No macro, syntax, notation, axiom, sorry.
-/
import Derived.Test.YtjjkgobhlfmhhaaGreatChecked
import GoSem.Claim
import GoSem.ClaimJoined
import GoSem.ClaimMapViews
import Derived.JoinedTies
import Derived.KernelRfl
namespace Go.Proofs.YtjjkgobhlfmhhaaGreat
/- THE CELL 'sum', in the pinned program and in every row, IS THE sha256 OF THE DUMP (.gsa) THAT YtjjkgobhlfmhhaaGreatProg.lean LOADS. Nothing in Lean hashes anything: it is a label: what it is worth is what the hold of that sum in a sandbox is worth. -/
noncomputable def Tryz.pinned : Pinned := { name := "ytjjkgobhlfmhhaagreat", sum := "d1a944ee62bd3418a37a66ce55782c8d6ef555c3bb2d2695bc4422c933e8af82", checked := Tryz.checked }
namespace Rows
def none {H : Type} : Left H := { results := [], args := [] }

/-- 'civiltimelaw36.HistoryValid': WHATEVER THE INPUT: true; the input reads as it did. -/
def historyValidSpec : ChangeSpec := { name := "historyValid", fn := fun _ => fun
  | [d] => { results := [.lit (.bool true)], args := [d] }
  | _ => none }
def historyValidRow : OpenClaim := { program := "ytjjkgobhlfmhhaagreat", sum := "d1a944ee62bd3418a37a66ce55782c8d6ef555c3bb2d2695bc4422c933e8af82", func := "civiltime/civiltimelaw36.HistoryValid", spec := "historyValid", inPlace := ["internal/bytealg.IndexByteString"], unfollowed := true, recurses := true, apart := false }
def HistoryValidSaid : Prop := historyValidRow.holds Tryz.pinned (OpenSpec.ofChange historyValidSpec)

/-- ITS FALSE NEIGHBOUR: 'it returns false'. Refute it at one input. -/
def historyValidWrong : ChangeSpec := { name := "historyValid", fn := fun _ => fun
  | [d] => { results := [.lit (.bool false)], args := [d] }
  | _ => none }
def HistoryValidWrongFalsely : Prop := historyValidRow.holds Tryz.pinned (OpenSpec.ofChange historyValidWrong)

/-- 'civiltimelaw36.HistoryInserts': WHATEVER THE INPUT: true; the input reads as it did. -/
def historyInsertsSpec : ChangeSpec := { name := "historyInserts", fn := fun _ => fun
  | [d1, d2, d3, d4] => { results := [.lit (.bool true)], args := [d1, d2, d3, d4] }
  | _ => none }
def historyInsertsRow : OpenClaim := { program := "ytjjkgobhlfmhhaagreat", sum := "d1a944ee62bd3418a37a66ce55782c8d6ef555c3bb2d2695bc4422c933e8af82", func := "civiltime/civiltimelaw36.HistoryInserts", spec := "historyInserts", inPlace := ["internal/bytealg.IndexByteString"], unfollowed := true, recurses := true, apart := false }
def HistoryInsertsSaid : Prop := historyInsertsRow.holds Tryz.pinned (OpenSpec.ofChange historyInsertsSpec)

/-- ITS FALSE NEIGHBOUR: 'it returns false'. Refute it at one input. -/
def historyInsertsWrong : ChangeSpec := { name := "historyInserts", fn := fun _ => fun
  | [d1, d2, d3, d4] => { results := [.lit (.bool false)], args := [d1, d2, d3, d4] }
  | _ => none }
def HistoryInsertsWrongFalsely : Prop := historyInsertsRow.holds Tryz.pinned (OpenSpec.ofChange historyInsertsWrong)

/-- 'civiltimelaw36.HistoryDeletes': WHATEVER THE INPUT: true; the input reads as it did. -/
def historyDeletesSpec : ChangeSpec := { name := "historyDeletes", fn := fun _ => fun
  | [d1, d2, d3, d4] => { results := [.lit (.bool true)], args := [d1, d2, d3, d4] }
  | _ => none }
def historyDeletesRow : OpenClaim := { program := "ytjjkgobhlfmhhaagreat", sum := "d1a944ee62bd3418a37a66ce55782c8d6ef555c3bb2d2695bc4422c933e8af82", func := "civiltime/civiltimelaw36.HistoryDeletes", spec := "historyDeletes", inPlace := ["internal/bytealg.IndexByteString"], unfollowed := true, recurses := true, loops := true, apart := false }
def HistoryDeletesSaid : Prop := historyDeletesRow.holds Tryz.pinned (OpenSpec.ofChange historyDeletesSpec)

/-- ITS FALSE NEIGHBOUR: 'it returns false'. Refute it at one input. -/
def historyDeletesWrong : ChangeSpec := { name := "historyDeletes", fn := fun _ => fun
  | [d1, d2, d3, d4] => { results := [.lit (.bool false)], args := [d1, d2, d3, d4] }
  | _ => none }
def HistoryDeletesWrongFalsely : Prop := historyDeletesRow.holds Tryz.pinned (OpenSpec.ofChange historyDeletesWrong)

/-- 'civiltimelaw36.HistoryFacts': WHATEVER THE INPUT: true; the input reads as it did. -/
def historyFactsSpec : ChangeSpec := { name := "historyFacts", fn := fun _ => fun
  | [d1, d2, d3] => { results := [.lit (.bool true)], args := [d1, d2, d3] }
  | _ => none }
def historyFactsRow : OpenClaim := { program := "ytjjkgobhlfmhhaagreat", sum := "d1a944ee62bd3418a37a66ce55782c8d6ef555c3bb2d2695bc4422c933e8af82", func := "civiltime/civiltimelaw36.HistoryFacts", spec := "historyFacts", inPlace := ["internal/bytealg.IndexByteString"], unfollowed := true, recurses := true, apart := false }
def HistoryFactsSaid : Prop := historyFactsRow.holds Tryz.pinned (OpenSpec.ofChange historyFactsSpec)

/-- ITS FALSE NEIGHBOUR: 'it returns false'. Refute it at one input. -/
def historyFactsWrong : ChangeSpec := { name := "historyFacts", fn := fun _ => fun
  | [d1, d2, d3] => { results := [.lit (.bool false)], args := [d1, d2, d3] }
  | _ => none }
def HistoryFactsWrongFalsely : Prop := historyFactsRow.holds Tryz.pinned (OpenSpec.ofChange historyFactsWrong)

/-- 'civiltimelaw36.HistoryNormal': WHATEVER THE INPUT: true; the input reads as it did. -/
def historyNormalSpec : ChangeSpec := { name := "historyNormal", fn := fun _ => fun
  | [d] => { results := [.lit (.bool true)], args := [d] }
  | _ => none }
def historyNormalRow : OpenClaim := { program := "ytjjkgobhlfmhhaagreat", sum := "d1a944ee62bd3418a37a66ce55782c8d6ef555c3bb2d2695bc4422c933e8af82", func := "civiltime/civiltimelaw36.HistoryNormal", spec := "historyNormal", inPlace := ["internal/bytealg.IndexByteString"], unfollowed := true, recurses := true, apart := false }
def HistoryNormalSaid : Prop := historyNormalRow.holds Tryz.pinned (OpenSpec.ofChange historyNormalSpec)

/-- ITS FALSE NEIGHBOUR: 'it returns false'. Refute it at one input. -/
def historyNormalWrong : ChangeSpec := { name := "historyNormal", fn := fun _ => fun
  | [d] => { results := [.lit (.bool false)], args := [d] }
  | _ => none }
def HistoryNormalWrongFalsely : Prop := historyNormalRow.holds Tryz.pinned (OpenSpec.ofChange historyNormalWrong)

/-- 'civiltimelaw36.HistorySnapshots': WHATEVER THE INPUT: true; the input reads as it did. -/
def historySnapshotsSpec : ChangeSpec := { name := "historySnapshots", fn := fun _ => fun
  | [d1, d2, d3, d4] => { results := [.lit (.bool true)], args := [d1, d2, d3, d4] }
  | _ => none }
def historySnapshotsRow : OpenClaim := { program := "ytjjkgobhlfmhhaagreat", sum := "d1a944ee62bd3418a37a66ce55782c8d6ef555c3bb2d2695bc4422c933e8af82", func := "civiltime/civiltimelaw36.HistorySnapshots", spec := "historySnapshots", inPlace := ["internal/bytealg.IndexByteString"], unfollowed := true, recurses := true, apart := false }
def HistorySnapshotsSaid : Prop := historySnapshotsRow.holds Tryz.pinned (OpenSpec.ofChange historySnapshotsSpec)

/-- ITS FALSE NEIGHBOUR: 'it returns false'. Refute it at one input. -/
def historySnapshotsWrong : ChangeSpec := { name := "historySnapshots", fn := fun _ => fun
  | [d1, d2, d3, d4] => { results := [.lit (.bool false)], args := [d1, d2, d3, d4] }
  | _ => none }
def HistorySnapshotsWrongFalsely : Prop := historySnapshotsRow.holds Tryz.pinned (OpenSpec.ofChange historySnapshotsWrong)

/-- 'civiltimelaw36.HistoryChanges': WHATEVER THE INPUT: true; the input reads as it did. -/
def historyChangesSpec : ChangeSpec := { name := "historyChanges", fn := fun _ => fun
  | [d1, d2, d3] => { results := [.lit (.bool true)], args := [d1, d2, d3] }
  | _ => none }
def historyChangesRow : OpenClaim := { program := "ytjjkgobhlfmhhaagreat", sum := "d1a944ee62bd3418a37a66ce55782c8d6ef555c3bb2d2695bc4422c933e8af82", func := "civiltime/civiltimelaw36.HistoryChanges", spec := "historyChanges", inPlace := ["internal/bytealg.IndexByteString"], unfollowed := true, recurses := true, apart := false }
def HistoryChangesSaid : Prop := historyChangesRow.holds Tryz.pinned (OpenSpec.ofChange historyChangesSpec)

/-- ITS FALSE NEIGHBOUR: 'it returns false'. Refute it at one input. -/
def historyChangesWrong : ChangeSpec := { name := "historyChanges", fn := fun _ => fun
  | [d1, d2, d3] => { results := [.lit (.bool false)], args := [d1, d2, d3] }
  | _ => none }
def HistoryChangesWrongFalsely : Prop := historyChangesRow.holds Tryz.pinned (OpenSpec.ofChange historyChangesWrong)

/-- 'civiltimelaw36.HistoryUpdates': WHATEVER THE INPUT: true; the input reads as it did. -/
def historyUpdatesSpec : ChangeSpec := { name := "historyUpdates", fn := fun _ => fun
  | [d1, d2, d3, d4, d5, d6] => { results := [.lit (.bool true)], args := [d1, d2, d3, d4, d5, d6] }
  | _ => none }
def historyUpdatesRow : OpenClaim := { program := "ytjjkgobhlfmhhaagreat", sum := "d1a944ee62bd3418a37a66ce55782c8d6ef555c3bb2d2695bc4422c933e8af82", func := "civiltime/civiltimelaw36.HistoryUpdates", spec := "historyUpdates", inPlace := ["internal/bytealg.IndexByteString"], unfollowed := true, recurses := true, loops := true, apart := false }
def HistoryUpdatesSaid : Prop := historyUpdatesRow.holds Tryz.pinned (OpenSpec.ofChange historyUpdatesSpec)

/-- ITS FALSE NEIGHBOUR: 'it returns false'. Refute it at one input. -/
def historyUpdatesWrong : ChangeSpec := { name := "historyUpdates", fn := fun _ => fun
  | [d1, d2, d3, d4, d5, d6] => { results := [.lit (.bool false)], args := [d1, d2, d3, d4, d5, d6] }
  | _ => none }
def HistoryUpdatesWrongFalsely : Prop := historyUpdatesRow.holds Tryz.pinned (OpenSpec.ofChange historyUpdatesWrong)

/-- 'civiltimelaw36.HistoryPoints': WHATEVER THE INPUT: true; the input reads as it did. -/
def historyPointsSpec : ChangeSpec := { name := "historyPoints", fn := fun _ => fun
  | [d1, d2, d3, d4, d5, d6, d7, d8, d9, d10] => { results := [.lit (.bool true)], args := [d1, d2, d3, d4, d5, d6, d7, d8, d9, d10] }
  | _ => none }
def historyPointsRow : OpenClaim := { program := "ytjjkgobhlfmhhaagreat", sum := "d1a944ee62bd3418a37a66ce55782c8d6ef555c3bb2d2695bc4422c933e8af82", func := "civiltime/civiltimelaw36.HistoryPoints", spec := "historyPoints", inPlace := ["internal/bytealg.IndexByteString"], unfollowed := true, recurses := true, loops := true, apart := false }
def HistoryPointsSaid : Prop := historyPointsRow.holds Tryz.pinned (OpenSpec.ofChange historyPointsSpec)

/-- ITS FALSE NEIGHBOUR: 'it returns false'. Refute it at one input. -/
def historyPointsWrong : ChangeSpec := { name := "historyPoints", fn := fun _ => fun
  | [d1, d2, d3, d4, d5, d6, d7, d8, d9, d10] => { results := [.lit (.bool false)], args := [d1, d2, d3, d4, d5, d6, d7, d8, d9, d10] }
  | _ => none }
def HistoryPointsWrongFalsely : Prop := historyPointsRow.holds Tryz.pinned (OpenSpec.ofChange historyPointsWrong)

/-- 'civiltimelaw36.HistoryUndone': WHATEVER THE INPUT: true; the input reads as it did. -/
def historyUndoneSpec : ChangeSpec := { name := "historyUndone", fn := fun _ => fun
  | [d1, d2, d3, d4, d5] => { results := [.lit (.bool true)], args := [d1, d2, d3, d4, d5] }
  | _ => none }
def historyUndoneRow : OpenClaim := { program := "ytjjkgobhlfmhhaagreat", sum := "d1a944ee62bd3418a37a66ce55782c8d6ef555c3bb2d2695bc4422c933e8af82", func := "civiltime/civiltimelaw36.HistoryUndone", spec := "historyUndone", inPlace := ["internal/bytealg.IndexByteString"], unfollowed := true, recurses := true, apart := false }
def HistoryUndoneSaid : Prop := historyUndoneRow.holds Tryz.pinned (OpenSpec.ofChange historyUndoneSpec)

/-- ITS FALSE NEIGHBOUR: 'it returns false'. Refute it at one input. -/
def historyUndoneWrong : ChangeSpec := { name := "historyUndone", fn := fun _ => fun
  | [d1, d2, d3, d4, d5] => { results := [.lit (.bool false)], args := [d1, d2, d3, d4, d5] }
  | _ => none }
def HistoryUndoneWrongFalsely : Prop := historyUndoneRow.holds Tryz.pinned (OpenSpec.ofChange historyUndoneWrong)

/- THE SECOND FORM. 'bulk': how many values and letters a reading holds, each counted each time it is reached (what is shared counts as often as it is met; a slice's spare places count too). A statement '..UptoSaid' is the law's where the arguments, and the package variables that the reading takes, are together of bulk at most 1048576: NARROWER than '..Said'. Prove '..Said' where nothing that the law and all that it calls make is longer than what came in: it says more and counts as full. Else prove '..UptoSaid'. A law counts once. -/
mutual
def uptoBulk {H : Type} : DataW H → Nat
  | .lit (.string bytes) => bytes.length + 1
  | .lit _ => 1
  | .nil => 1
  | .ptr d => uptoBulk d + 1
  | .slice elems spare => uptoBulkAll elems + uptoBulkAll spare + 1
  | .agg parts => uptoBulkAll parts + 1
  | .iface _ d => uptoBulk d + 1
  | .map entries => uptoBulkEntries entries + 1
  | .held _ => 1
def uptoBulkAll {H : Type} : List (DataW H) → Nat
  | [] => 0
  | d :: r => uptoBulk d + uptoBulkAll r
def uptoBulkEntries {H : Type} : List (Lit × DataW H) → Nat
  | [] => 0
  | x :: r => uptoBulkEntry x + uptoBulkEntries r
def uptoBulkEntry {H : Type} : Lit × DataW H → Nat
  | (.string bytes, d) => bytes.length + uptoBulk d + 1
  | (_, d) => uptoBulk d + 1
 end
def uptoSmall : (H : Type) → List (DataW H) → Bool := fun _ ds => decide (uptoBulkAll ds ≤ 1048576)
def OpenSpec.upto (s : _root_.Go.ChangeSpec) : _root_.Go.OpenSpec := { _root_.Go.OpenSpec.ofChange s with cond := some uptoSmall }

/-- 'civiltimelaw36.HistoryValid', WHERE WHAT IT READS IS OF BULK AT MOST 1048576: true; the input reads as it did. -/
def historyValidUptoRow : OpenClaim := { program := "ytjjkgobhlfmhhaagreat", sum := "d1a944ee62bd3418a37a66ce55782c8d6ef555c3bb2d2695bc4422c933e8af82", func := "civiltime/civiltimelaw36.HistoryValid", spec := "historyValid", inPlace := ["internal/bytealg.IndexByteString"], unfollowed := true, recurses := true, apart := false, narrowed := true }
def HistoryValidUptoSaid : Prop := historyValidUptoRow.holds Tryz.pinned (OpenSpec.upto historyValidSpec)

/-- 'civiltimelaw36.HistoryInserts', WHERE WHAT IT READS IS OF BULK AT MOST 1048576: true; the input reads as it did. -/
def historyInsertsUptoRow : OpenClaim := { program := "ytjjkgobhlfmhhaagreat", sum := "d1a944ee62bd3418a37a66ce55782c8d6ef555c3bb2d2695bc4422c933e8af82", func := "civiltime/civiltimelaw36.HistoryInserts", spec := "historyInserts", inPlace := ["internal/bytealg.IndexByteString"], unfollowed := true, recurses := true, apart := false, narrowed := true }
def HistoryInsertsUptoSaid : Prop := historyInsertsUptoRow.holds Tryz.pinned (OpenSpec.upto historyInsertsSpec)

/-- 'civiltimelaw36.HistoryDeletes', WHERE WHAT IT READS IS OF BULK AT MOST 1048576: true; the input reads as it did. -/
def historyDeletesUptoRow : OpenClaim := { program := "ytjjkgobhlfmhhaagreat", sum := "d1a944ee62bd3418a37a66ce55782c8d6ef555c3bb2d2695bc4422c933e8af82", func := "civiltime/civiltimelaw36.HistoryDeletes", spec := "historyDeletes", inPlace := ["internal/bytealg.IndexByteString"], unfollowed := true, recurses := true, loops := true, apart := false, narrowed := true }
def HistoryDeletesUptoSaid : Prop := historyDeletesUptoRow.holds Tryz.pinned (OpenSpec.upto historyDeletesSpec)

/-- 'civiltimelaw36.HistoryFacts', WHERE WHAT IT READS IS OF BULK AT MOST 1048576: true; the input reads as it did. -/
def historyFactsUptoRow : OpenClaim := { program := "ytjjkgobhlfmhhaagreat", sum := "d1a944ee62bd3418a37a66ce55782c8d6ef555c3bb2d2695bc4422c933e8af82", func := "civiltime/civiltimelaw36.HistoryFacts", spec := "historyFacts", inPlace := ["internal/bytealg.IndexByteString"], unfollowed := true, recurses := true, apart := false, narrowed := true }
def HistoryFactsUptoSaid : Prop := historyFactsUptoRow.holds Tryz.pinned (OpenSpec.upto historyFactsSpec)

/-- 'civiltimelaw36.HistoryNormal', WHERE WHAT IT READS IS OF BULK AT MOST 1048576: true; the input reads as it did. -/
def historyNormalUptoRow : OpenClaim := { program := "ytjjkgobhlfmhhaagreat", sum := "d1a944ee62bd3418a37a66ce55782c8d6ef555c3bb2d2695bc4422c933e8af82", func := "civiltime/civiltimelaw36.HistoryNormal", spec := "historyNormal", inPlace := ["internal/bytealg.IndexByteString"], unfollowed := true, recurses := true, apart := false, narrowed := true }
def HistoryNormalUptoSaid : Prop := historyNormalUptoRow.holds Tryz.pinned (OpenSpec.upto historyNormalSpec)

/-- 'civiltimelaw36.HistorySnapshots', WHERE WHAT IT READS IS OF BULK AT MOST 1048576: true; the input reads as it did. -/
def historySnapshotsUptoRow : OpenClaim := { program := "ytjjkgobhlfmhhaagreat", sum := "d1a944ee62bd3418a37a66ce55782c8d6ef555c3bb2d2695bc4422c933e8af82", func := "civiltime/civiltimelaw36.HistorySnapshots", spec := "historySnapshots", inPlace := ["internal/bytealg.IndexByteString"], unfollowed := true, recurses := true, apart := false, narrowed := true }
def HistorySnapshotsUptoSaid : Prop := historySnapshotsUptoRow.holds Tryz.pinned (OpenSpec.upto historySnapshotsSpec)

/-- 'civiltimelaw36.HistoryChanges', WHERE WHAT IT READS IS OF BULK AT MOST 1048576: true; the input reads as it did. -/
def historyChangesUptoRow : OpenClaim := { program := "ytjjkgobhlfmhhaagreat", sum := "d1a944ee62bd3418a37a66ce55782c8d6ef555c3bb2d2695bc4422c933e8af82", func := "civiltime/civiltimelaw36.HistoryChanges", spec := "historyChanges", inPlace := ["internal/bytealg.IndexByteString"], unfollowed := true, recurses := true, apart := false, narrowed := true }
def HistoryChangesUptoSaid : Prop := historyChangesUptoRow.holds Tryz.pinned (OpenSpec.upto historyChangesSpec)

/-- 'civiltimelaw36.HistoryUpdates', WHERE WHAT IT READS IS OF BULK AT MOST 1048576: true; the input reads as it did. -/
def historyUpdatesUptoRow : OpenClaim := { program := "ytjjkgobhlfmhhaagreat", sum := "d1a944ee62bd3418a37a66ce55782c8d6ef555c3bb2d2695bc4422c933e8af82", func := "civiltime/civiltimelaw36.HistoryUpdates", spec := "historyUpdates", inPlace := ["internal/bytealg.IndexByteString"], unfollowed := true, recurses := true, loops := true, apart := false, narrowed := true }
def HistoryUpdatesUptoSaid : Prop := historyUpdatesUptoRow.holds Tryz.pinned (OpenSpec.upto historyUpdatesSpec)

/-- 'civiltimelaw36.HistoryPoints', WHERE WHAT IT READS IS OF BULK AT MOST 1048576: true; the input reads as it did. -/
def historyPointsUptoRow : OpenClaim := { program := "ytjjkgobhlfmhhaagreat", sum := "d1a944ee62bd3418a37a66ce55782c8d6ef555c3bb2d2695bc4422c933e8af82", func := "civiltime/civiltimelaw36.HistoryPoints", spec := "historyPoints", inPlace := ["internal/bytealg.IndexByteString"], unfollowed := true, recurses := true, loops := true, apart := false, narrowed := true }
def HistoryPointsUptoSaid : Prop := historyPointsUptoRow.holds Tryz.pinned (OpenSpec.upto historyPointsSpec)

/-- 'civiltimelaw36.HistoryUndone', WHERE WHAT IT READS IS OF BULK AT MOST 1048576: true; the input reads as it did. -/
def historyUndoneUptoRow : OpenClaim := { program := "ytjjkgobhlfmhhaagreat", sum := "d1a944ee62bd3418a37a66ce55782c8d6ef555c3bb2d2695bc4422c933e8af82", func := "civiltime/civiltimelaw36.HistoryUndone", spec := "historyUndone", inPlace := ["internal/bytealg.IndexByteString"], unfollowed := true, recurses := true, apart := false, narrowed := true }
def HistoryUndoneUptoSaid : Prop := historyUndoneUptoRow.holds Tryz.pinned (OpenSpec.upto historyUndoneSpec)

end Rows
end Go.Proofs.YtjjkgobhlfmhhaaGreat
