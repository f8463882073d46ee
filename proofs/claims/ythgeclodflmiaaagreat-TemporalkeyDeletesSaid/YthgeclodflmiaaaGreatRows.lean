/-
  NARROWER THAN 'FOR EVERY INPUT', by the rows' own cells (each row's printed sentence says how): TemporalkeyChanges: loops · TemporalkeyDeletes: loops.
  DERIVED. THE GIVEN ROWS OF THIS SEAT. 8 by the template 'for every input the law returns true; each argument reads behind the call as it read before'; 0 by the template 'total and deterministic' (their statements: YthgeclodflmiaaaGreatTotals.lean).
  GIVEN WITH THE SEED: the statements are not yours to turn. If you find one false, say at which input.
  Laid BY PROGRAM, IN A SANDBOX (cutbox-rows.mjs): the forced cells as the released guide's own fill.sh prints them over the translation ac49ccf33b643a21… (all of the seat's roots in one cut). By AI agents, Wed Nov 11 2026. No macro, syntax, notation, axiom, sorry.
-/
import Derived.Test.YthgeclodflmiaaaGreatChecked
import GoSem.Claim
import GoSem.ClaimJoined
import GoSem.ClaimMapViews
import Derived.JoinedTies
import Derived.KernelRfl
namespace Go.Proofs.YthgeclodflmiaaaGreat
/- THE CELL 'sum', in the pinned program and in every row, IS THE sha256 OF THE DUMP (.gsa) THAT YthgeclodflmiaaaGreatProg.lean LOADS. Nothing in Lean hashes anything: it is a label: what it is worth is what the hold of that sum in a sandbox is worth. -/
noncomputable def Tryz.pinned : Pinned := { name := "ythgeclodflmiaaagreat", sum := "ac49ccf33b643a21a366bf5627640d081a9c266d438d406c6466d21a252f6a4d", checked := Tryz.checked }
namespace Rows
def none {H : Type} : Left H := { results := [], args := [] }

/-- 'civiltimelaw37.TemporalkeyUnique': WHATEVER THE INPUT: true; the input reads as it did. -/
def temporalkeyUniqueSpec : ChangeSpec := { name := "temporalkeyUnique", fn := fun _ => fun
  | [d] => { results := [.lit (.bool true)], args := [d] }
  | _ => none }
def temporalkeyUniqueRow : OpenClaim := { program := "ythgeclodflmiaaagreat", sum := "ac49ccf33b643a21a366bf5627640d081a9c266d438d406c6466d21a252f6a4d", func := "civiltime/civiltimelaw37.TemporalkeyUnique", spec := "temporalkeyUnique", inPlace := ["internal/bytealg.IndexByteString"], unfollowed := true, recurses := true, apart := false }
def TemporalkeyUniqueSaid : Prop := temporalkeyUniqueRow.holds Tryz.pinned (OpenSpec.ofChange temporalkeyUniqueSpec)

/-- ITS FALSE NEIGHBOUR: 'it returns false'. Refute it at one input. -/
def temporalkeyUniqueWrong : ChangeSpec := { name := "temporalkeyUnique", fn := fun _ => fun
  | [d] => { results := [.lit (.bool false)], args := [d] }
  | _ => none }
def TemporalkeyUniqueWrongFalsely : Prop := temporalkeyUniqueRow.holds Tryz.pinned (OpenSpec.ofChange temporalkeyUniqueWrong)

/-- 'civiltimelaw37.TemporalkeyMerges': WHATEVER THE INPUT: true; the input reads as it did. -/
def temporalkeyMergesSpec : ChangeSpec := { name := "temporalkeyMerges", fn := fun _ => fun
  | [d1, d2, d3, d4] => { results := [.lit (.bool true)], args := [d1, d2, d3, d4] }
  | _ => none }
def temporalkeyMergesRow : OpenClaim := { program := "ythgeclodflmiaaagreat", sum := "ac49ccf33b643a21a366bf5627640d081a9c266d438d406c6466d21a252f6a4d", func := "civiltime/civiltimelaw37.TemporalkeyMerges", spec := "temporalkeyMerges", inPlace := ["internal/bytealg.IndexByteString"], unfollowed := true, recurses := true, apart := false }
def TemporalkeyMergesSaid : Prop := temporalkeyMergesRow.holds Tryz.pinned (OpenSpec.ofChange temporalkeyMergesSpec)

/-- ITS FALSE NEIGHBOUR: 'it returns false'. Refute it at one input. -/
def temporalkeyMergesWrong : ChangeSpec := { name := "temporalkeyMerges", fn := fun _ => fun
  | [d1, d2, d3, d4] => { results := [.lit (.bool false)], args := [d1, d2, d3, d4] }
  | _ => none }
def TemporalkeyMergesWrongFalsely : Prop := temporalkeyMergesRow.holds Tryz.pinned (OpenSpec.ofChange temporalkeyMergesWrong)

/-- 'civiltimelaw37.TemporalkeyPoints': WHATEVER THE INPUT: true; the input reads as it did. -/
def temporalkeyPointsSpec : ChangeSpec := { name := "temporalkeyPoints", fn := fun _ => fun
  | [d1, d2, d3] => { results := [.lit (.bool true)], args := [d1, d2, d3] }
  | _ => none }
def temporalkeyPointsRow : OpenClaim := { program := "ythgeclodflmiaaagreat", sum := "ac49ccf33b643a21a366bf5627640d081a9c266d438d406c6466d21a252f6a4d", func := "civiltime/civiltimelaw37.TemporalkeyPoints", spec := "temporalkeyPoints", inPlace := ["internal/bytealg.IndexByteString"], unfollowed := true, recurses := true, apart := false }
def TemporalkeyPointsSaid : Prop := temporalkeyPointsRow.holds Tryz.pinned (OpenSpec.ofChange temporalkeyPointsSpec)

/-- ITS FALSE NEIGHBOUR: 'it returns false'. Refute it at one input. -/
def temporalkeyPointsWrong : ChangeSpec := { name := "temporalkeyPoints", fn := fun _ => fun
  | [d1, d2, d3] => { results := [.lit (.bool false)], args := [d1, d2, d3] }
  | _ => none }
def TemporalkeyPointsWrongFalsely : Prop := temporalkeyPointsRow.holds Tryz.pinned (OpenSpec.ofChange temporalkeyPointsWrong)

/-- 'civiltimelaw37.TemporalkeyCovers': WHATEVER THE INPUT: true; the input reads as it did. -/
def temporalkeyCoversSpec : ChangeSpec := { name := "temporalkeyCovers", fn := fun _ => fun
  | [d1, d2, d3, d4] => { results := [.lit (.bool true)], args := [d1, d2, d3, d4] }
  | _ => none }
def temporalkeyCoversRow : OpenClaim := { program := "ythgeclodflmiaaagreat", sum := "ac49ccf33b643a21a366bf5627640d081a9c266d438d406c6466d21a252f6a4d", func := "civiltime/civiltimelaw37.TemporalkeyCovers", spec := "temporalkeyCovers", inPlace := ["internal/bytealg.IndexByteString"], unfollowed := true, recurses := true, apart := false }
def TemporalkeyCoversSaid : Prop := temporalkeyCoversRow.holds Tryz.pinned (OpenSpec.ofChange temporalkeyCoversSpec)

/-- ITS FALSE NEIGHBOUR: 'it returns false'. Refute it at one input. -/
def temporalkeyCoversWrong : ChangeSpec := { name := "temporalkeyCovers", fn := fun _ => fun
  | [d1, d2, d3, d4] => { results := [.lit (.bool false)], args := [d1, d2, d3, d4] }
  | _ => none }
def TemporalkeyCoversWrongFalsely : Prop := temporalkeyCoversRow.holds Tryz.pinned (OpenSpec.ofChange temporalkeyCoversWrong)

/-- 'civiltimelaw37.TemporalkeyGaps': WHATEVER THE INPUT: true; the input reads as it did. -/
def temporalkeyGapsSpec : ChangeSpec := { name := "temporalkeyGaps", fn := fun _ => fun
  | [d1, d2, d3, d4, d5] => { results := [.lit (.bool true)], args := [d1, d2, d3, d4, d5] }
  | _ => none }
def temporalkeyGapsRow : OpenClaim := { program := "ythgeclodflmiaaagreat", sum := "ac49ccf33b643a21a366bf5627640d081a9c266d438d406c6466d21a252f6a4d", func := "civiltime/civiltimelaw37.TemporalkeyGaps", spec := "temporalkeyGaps", inPlace := ["internal/bytealg.IndexByteString"], unfollowed := true, recurses := true, apart := false }
def TemporalkeyGapsSaid : Prop := temporalkeyGapsRow.holds Tryz.pinned (OpenSpec.ofChange temporalkeyGapsSpec)

/-- ITS FALSE NEIGHBOUR: 'it returns false'. Refute it at one input. -/
def temporalkeyGapsWrong : ChangeSpec := { name := "temporalkeyGaps", fn := fun _ => fun
  | [d1, d2, d3, d4, d5] => { results := [.lit (.bool false)], args := [d1, d2, d3, d4, d5] }
  | _ => none }
def TemporalkeyGapsWrongFalsely : Prop := temporalkeyGapsRow.holds Tryz.pinned (OpenSpec.ofChange temporalkeyGapsWrong)

/-- 'civiltimelaw37.TemporalkeyChecks': WHATEVER THE INPUT: true; the input reads as it did. -/
def temporalkeyChecksSpec : ChangeSpec := { name := "temporalkeyChecks", fn := fun _ => fun
  | [d] => { results := [.lit (.bool true)], args := [d] }
  | _ => none }
def temporalkeyChecksRow : OpenClaim := { program := "ythgeclodflmiaaagreat", sum := "ac49ccf33b643a21a366bf5627640d081a9c266d438d406c6466d21a252f6a4d", func := "civiltime/civiltimelaw37.TemporalkeyChecks", spec := "temporalkeyChecks", inPlace := ["internal/bytealg.IndexByteString"], unfollowed := true, recurses := true, apart := false }
def TemporalkeyChecksSaid : Prop := temporalkeyChecksRow.holds Tryz.pinned (OpenSpec.ofChange temporalkeyChecksSpec)

/-- ITS FALSE NEIGHBOUR: 'it returns false'. Refute it at one input. -/
def temporalkeyChecksWrong : ChangeSpec := { name := "temporalkeyChecks", fn := fun _ => fun
  | [d] => { results := [.lit (.bool false)], args := [d] }
  | _ => none }
def TemporalkeyChecksWrongFalsely : Prop := temporalkeyChecksRow.holds Tryz.pinned (OpenSpec.ofChange temporalkeyChecksWrong)

/-- 'civiltimelaw37.TemporalkeyChanges': WHATEVER THE INPUT: true; the input reads as it did. -/
def temporalkeyChangesSpec : ChangeSpec := { name := "temporalkeyChanges", fn := fun _ => fun
  | [d1, d2, d3, d4, d5, d6, d7] => { results := [.lit (.bool true)], args := [d1, d2, d3, d4, d5, d6, d7] }
  | _ => none }
def temporalkeyChangesRow : OpenClaim := { program := "ythgeclodflmiaaagreat", sum := "ac49ccf33b643a21a366bf5627640d081a9c266d438d406c6466d21a252f6a4d", func := "civiltime/civiltimelaw37.TemporalkeyChanges", spec := "temporalkeyChanges", inPlace := ["internal/bytealg.IndexByteString"], unfollowed := true, recurses := true, loops := true, apart := false }
def TemporalkeyChangesSaid : Prop := temporalkeyChangesRow.holds Tryz.pinned (OpenSpec.ofChange temporalkeyChangesSpec)

/-- ITS FALSE NEIGHBOUR: 'it returns false'. Refute it at one input. -/
def temporalkeyChangesWrong : ChangeSpec := { name := "temporalkeyChanges", fn := fun _ => fun
  | [d1, d2, d3, d4, d5, d6, d7] => { results := [.lit (.bool false)], args := [d1, d2, d3, d4, d5, d6, d7] }
  | _ => none }
def TemporalkeyChangesWrongFalsely : Prop := temporalkeyChangesRow.holds Tryz.pinned (OpenSpec.ofChange temporalkeyChangesWrong)

/-- 'civiltimelaw37.TemporalkeyDeletes': WHATEVER THE INPUT: true; the input reads as it did. -/
def temporalkeyDeletesSpec : ChangeSpec := { name := "temporalkeyDeletes", fn := fun _ => fun
  | [d1, d2, d3, d4, d5] => { results := [.lit (.bool true)], args := [d1, d2, d3, d4, d5] }
  | _ => none }
def temporalkeyDeletesRow : OpenClaim := { program := "ythgeclodflmiaaagreat", sum := "ac49ccf33b643a21a366bf5627640d081a9c266d438d406c6466d21a252f6a4d", func := "civiltime/civiltimelaw37.TemporalkeyDeletes", spec := "temporalkeyDeletes", inPlace := ["internal/bytealg.IndexByteString"], unfollowed := true, recurses := true, loops := true, apart := false }
def TemporalkeyDeletesSaid : Prop := temporalkeyDeletesRow.holds Tryz.pinned (OpenSpec.ofChange temporalkeyDeletesSpec)

/-- ITS FALSE NEIGHBOUR: 'it returns false'. Refute it at one input. -/
def temporalkeyDeletesWrong : ChangeSpec := { name := "temporalkeyDeletes", fn := fun _ => fun
  | [d1, d2, d3, d4, d5] => { results := [.lit (.bool false)], args := [d1, d2, d3, d4, d5] }
  | _ => none }
def TemporalkeyDeletesWrongFalsely : Prop := temporalkeyDeletesRow.holds Tryz.pinned (OpenSpec.ofChange temporalkeyDeletesWrong)

/- THE SECOND FORM. 'bulk': how many values and letters a reading holds, each counted each time it is reached (what is shared counts as often as it is met; a slice's spare places count too). A statement '..UptoSaid' is the law's where the arguments, and the package variables that the reading takes, are together of bulk at most 1048576: NARROWER than '..Said'. Prove '..Said' where nothing that the law and all that it calls make is longer than what came in: it says more and counts as full. Else prove '..UptoSaid'. A law counts once. -/
mutual
def uptoBulk {H : Type} : DataW H → Nat
  | .lit (.string bytes) => bytes.length + 1
  | .lit _ => 1
  | .nil => 1
  | .ptr d => uptoBulk d + 1
  | .slice elems spare => uptoBulkAll elems + uptoBulkAll spare + 1
  | .agg parts => uptoBulkAll parts + 1
  | .iface _ d => uptoBulk d + 1
  | .map entries => uptoBulkEntries entries + 1
  | .held _ => 1
def uptoBulkAll {H : Type} : List (DataW H) → Nat
  | [] => 0
  | d :: r => uptoBulk d + uptoBulkAll r
def uptoBulkEntries {H : Type} : List (Lit × DataW H) → Nat
  | [] => 0
  | x :: r => uptoBulkEntry x + uptoBulkEntries r
def uptoBulkEntry {H : Type} : Lit × DataW H → Nat
  | (.string bytes, d) => bytes.length + uptoBulk d + 1
  | (_, d) => uptoBulk d + 1
 end
def uptoSmall : (H : Type) → List (DataW H) → Bool := fun _ ds => decide (uptoBulkAll ds ≤ 1048576)
def OpenSpec.upto (s : _root_.Go.ChangeSpec) : _root_.Go.OpenSpec := { _root_.Go.OpenSpec.ofChange s with cond := some uptoSmall }

/-- 'civiltimelaw37.TemporalkeyUnique', WHERE WHAT IT READS IS OF BULK AT MOST 1048576: true; the input reads as it did. -/
def temporalkeyUniqueUptoRow : OpenClaim := { program := "ythgeclodflmiaaagreat", sum := "ac49ccf33b643a21a366bf5627640d081a9c266d438d406c6466d21a252f6a4d", func := "civiltime/civiltimelaw37.TemporalkeyUnique", spec := "temporalkeyUnique", inPlace := ["internal/bytealg.IndexByteString"], unfollowed := true, recurses := true, apart := false, narrowed := true }
def TemporalkeyUniqueUptoSaid : Prop := temporalkeyUniqueUptoRow.holds Tryz.pinned (OpenSpec.upto temporalkeyUniqueSpec)

/-- 'civiltimelaw37.TemporalkeyMerges', WHERE WHAT IT READS IS OF BULK AT MOST 1048576: true; the input reads as it did. -/
def temporalkeyMergesUptoRow : OpenClaim := { program := "ythgeclodflmiaaagreat", sum := "ac49ccf33b643a21a366bf5627640d081a9c266d438d406c6466d21a252f6a4d", func := "civiltime/civiltimelaw37.TemporalkeyMerges", spec := "temporalkeyMerges", inPlace := ["internal/bytealg.IndexByteString"], unfollowed := true, recurses := true, apart := false, narrowed := true }
def TemporalkeyMergesUptoSaid : Prop := temporalkeyMergesUptoRow.holds Tryz.pinned (OpenSpec.upto temporalkeyMergesSpec)

/-- 'civiltimelaw37.TemporalkeyPoints', WHERE WHAT IT READS IS OF BULK AT MOST 1048576: true; the input reads as it did. -/
def temporalkeyPointsUptoRow : OpenClaim := { program := "ythgeclodflmiaaagreat", sum := "ac49ccf33b643a21a366bf5627640d081a9c266d438d406c6466d21a252f6a4d", func := "civiltime/civiltimelaw37.TemporalkeyPoints", spec := "temporalkeyPoints", inPlace := ["internal/bytealg.IndexByteString"], unfollowed := true, recurses := true, apart := false, narrowed := true }
def TemporalkeyPointsUptoSaid : Prop := temporalkeyPointsUptoRow.holds Tryz.pinned (OpenSpec.upto temporalkeyPointsSpec)

/-- 'civiltimelaw37.TemporalkeyCovers', WHERE WHAT IT READS IS OF BULK AT MOST 1048576: true; the input reads as it did. -/
def temporalkeyCoversUptoRow : OpenClaim := { program := "ythgeclodflmiaaagreat", sum := "ac49ccf33b643a21a366bf5627640d081a9c266d438d406c6466d21a252f6a4d", func := "civiltime/civiltimelaw37.TemporalkeyCovers", spec := "temporalkeyCovers", inPlace := ["internal/bytealg.IndexByteString"], unfollowed := true, recurses := true, apart := false, narrowed := true }
def TemporalkeyCoversUptoSaid : Prop := temporalkeyCoversUptoRow.holds Tryz.pinned (OpenSpec.upto temporalkeyCoversSpec)

/-- 'civiltimelaw37.TemporalkeyGaps', WHERE WHAT IT READS IS OF BULK AT MOST 1048576: true; the input reads as it did. -/
def temporalkeyGapsUptoRow : OpenClaim := { program := "ythgeclodflmiaaagreat", sum := "ac49ccf33b643a21a366bf5627640d081a9c266d438d406c6466d21a252f6a4d", func := "civiltime/civiltimelaw37.TemporalkeyGaps", spec := "temporalkeyGaps", inPlace := ["internal/bytealg.IndexByteString"], unfollowed := true, recurses := true, apart := false, narrowed := true }
def TemporalkeyGapsUptoSaid : Prop := temporalkeyGapsUptoRow.holds Tryz.pinned (OpenSpec.upto temporalkeyGapsSpec)

/-- 'civiltimelaw37.TemporalkeyChecks', WHERE WHAT IT READS IS OF BULK AT MOST 1048576: true; the input reads as it did. -/
def temporalkeyChecksUptoRow : OpenClaim := { program := "ythgeclodflmiaaagreat", sum := "ac49ccf33b643a21a366bf5627640d081a9c266d438d406c6466d21a252f6a4d", func := "civiltime/civiltimelaw37.TemporalkeyChecks", spec := "temporalkeyChecks", inPlace := ["internal/bytealg.IndexByteString"], unfollowed := true, recurses := true, apart := false, narrowed := true }
def TemporalkeyChecksUptoSaid : Prop := temporalkeyChecksUptoRow.holds Tryz.pinned (OpenSpec.upto temporalkeyChecksSpec)

/-- 'civiltimelaw37.TemporalkeyChanges', WHERE WHAT IT READS IS OF BULK AT MOST 1048576: true; the input reads as it did. -/
def temporalkeyChangesUptoRow : OpenClaim := { program := "ythgeclodflmiaaagreat", sum := "ac49ccf33b643a21a366bf5627640d081a9c266d438d406c6466d21a252f6a4d", func := "civiltime/civiltimelaw37.TemporalkeyChanges", spec := "temporalkeyChanges", inPlace := ["internal/bytealg.IndexByteString"], unfollowed := true, recurses := true, loops := true, apart := false, narrowed := true }
def TemporalkeyChangesUptoSaid : Prop := temporalkeyChangesUptoRow.holds Tryz.pinned (OpenSpec.upto temporalkeyChangesSpec)

/-- 'civiltimelaw37.TemporalkeyDeletes', WHERE WHAT IT READS IS OF BULK AT MOST 1048576: true; the input reads as it did. -/
def temporalkeyDeletesUptoRow : OpenClaim := { program := "ythgeclodflmiaaagreat", sum := "ac49ccf33b643a21a366bf5627640d081a9c266d438d406c6466d21a252f6a4d", func := "civiltime/civiltimelaw37.TemporalkeyDeletes", spec := "temporalkeyDeletes", inPlace := ["internal/bytealg.IndexByteString"], unfollowed := true, recurses := true, loops := true, apart := false, narrowed := true }
def TemporalkeyDeletesUptoSaid : Prop := temporalkeyDeletesUptoRow.holds Tryz.pinned (OpenSpec.upto temporalkeyDeletesSpec)

end Rows
end Go.Proofs.YthgeclodflmiaaaGreat
