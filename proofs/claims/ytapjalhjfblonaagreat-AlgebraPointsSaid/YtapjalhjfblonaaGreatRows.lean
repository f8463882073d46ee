/-
  NARROWER THAN 'FOR EVERY INPUT', by the rows' own cells (each row's printed sentence says how): AlgebraSelects: loops · AlgebraPoints: loops.
  DERIVED. THE GIVEN ROWS OF THIS SEAT. 8 by the template 'for every input the law returns true; each argument reads behind the call as it read before'; 0 by the template 'total and deterministic' (their statements: YtapjalhjfblonaaGreatTotals.lean).
  GIVEN WITH THE SEED: the statements are not yours to turn. If you find one false, say at which input.
  Laid BY PROGRAM, IN A SANDBOX (cutbox-rows.mjs): the forced cells as the released guide's own fill.sh prints them over the translation d10270a888b28bcd… (all of the seat's roots in one cut). By AI agents, Wed Nov 11 2026. No macro, syntax, notation, axiom, sorry.
-/
import Derived.Test.YtapjalhjfblonaaGreatChecked
import GoSem.Claim
import GoSem.ClaimJoined
import GoSem.ClaimMapViews
import Derived.JoinedTies
import Derived.KernelRfl
namespace Go.Proofs.YtapjalhjfblonaaGreat
/- THE CELL 'sum', in the pinned program and in every row, IS THE sha256 OF THE DUMP (.gsa) THAT YtapjalhjfblonaaGreatProg.lean LOADS. Nothing in Lean hashes anything: it is a label: what it is worth is what the hold of that sum in a sandbox is worth. -/
noncomputable def Tryz.pinned : Pinned := { name := "ytapjalhjfblonaagreat", sum := "d10270a888b28bcdbde09879fd001274cc82a11e33ccdcebd7a478857ba1c396", checked := Tryz.checked }
namespace Rows
def none {H : Type} : Left H := { results := [], args := [] }

/-- 'civiltimelaw38.AlgebraRelates': WHATEVER THE INPUT: true; the input reads as it did. -/
def algebraRelatesSpec : ChangeSpec := { name := "algebraRelates", fn := fun _ => fun
  | [d1, d2, d3] => { results := [.lit (.bool true)], args := [d1, d2, d3] }
  | _ => none }
def algebraRelatesRow : OpenClaim := { program := "ytapjalhjfblonaagreat", sum := "d10270a888b28bcdbde09879fd001274cc82a11e33ccdcebd7a478857ba1c396", func := "civiltime/civiltimelaw38.AlgebraRelates", spec := "algebraRelates", unfollowed := true, recurses := true, apart := false }
def AlgebraRelatesSaid : Prop := algebraRelatesRow.holds Tryz.pinned (OpenSpec.ofChange algebraRelatesSpec)

/-- ITS FALSE NEIGHBOUR: 'it returns false'. Refute it at one input. -/
def algebraRelatesWrong : ChangeSpec := { name := "algebraRelates", fn := fun _ => fun
  | [d1, d2, d3] => { results := [.lit (.bool false)], args := [d1, d2, d3] }
  | _ => none }
def AlgebraRelatesWrongFalsely : Prop := algebraRelatesRow.holds Tryz.pinned (OpenSpec.ofChange algebraRelatesWrong)

/-- 'civiltimelaw38.AlgebraSelects': WHATEVER THE INPUT: true; the input reads as it did. -/
def algebraSelectsSpec : ChangeSpec := { name := "algebraSelects", fn := fun _ => fun
  | [d1, d2, d3, d4] => { results := [.lit (.bool true)], args := [d1, d2, d3, d4] }
  | _ => none }
def algebraSelectsRow : OpenClaim := { program := "ytapjalhjfblonaagreat", sum := "d10270a888b28bcdbde09879fd001274cc82a11e33ccdcebd7a478857ba1c396", func := "civiltime/civiltimelaw38.AlgebraSelects", spec := "algebraSelects", unfollowed := true, recurses := true, loops := true, apart := false }
def AlgebraSelectsSaid : Prop := algebraSelectsRow.holds Tryz.pinned (OpenSpec.ofChange algebraSelectsSpec)

/-- ITS FALSE NEIGHBOUR: 'it returns false'. Refute it at one input. -/
def algebraSelectsWrong : ChangeSpec := { name := "algebraSelects", fn := fun _ => fun
  | [d1, d2, d3, d4] => { results := [.lit (.bool false)], args := [d1, d2, d3, d4] }
  | _ => none }
def AlgebraSelectsWrongFalsely : Prop := algebraSelectsRow.holds Tryz.pinned (OpenSpec.ofChange algebraSelectsWrong)

/-- 'civiltimelaw38.AlgebraSets': WHATEVER THE INPUT: true; the input reads as it did. -/
def algebraSetsSpec : ChangeSpec := { name := "algebraSets", fn := fun _ => fun
  | [d1, d2, d3] => { results := [.lit (.bool true)], args := [d1, d2, d3] }
  | _ => none }
def algebraSetsRow : OpenClaim := { program := "ytapjalhjfblonaagreat", sum := "d10270a888b28bcdbde09879fd001274cc82a11e33ccdcebd7a478857ba1c396", func := "civiltime/civiltimelaw38.AlgebraSets", spec := "algebraSets", unfollowed := true, recurses := true, apart := false }
def AlgebraSetsSaid : Prop := algebraSetsRow.holds Tryz.pinned (OpenSpec.ofChange algebraSetsSpec)

/-- ITS FALSE NEIGHBOUR: 'it returns false'. Refute it at one input. -/
def algebraSetsWrong : ChangeSpec := { name := "algebraSets", fn := fun _ => fun
  | [d1, d2, d3] => { results := [.lit (.bool false)], args := [d1, d2, d3] }
  | _ => none }
def AlgebraSetsWrongFalsely : Prop := algebraSetsRow.holds Tryz.pinned (OpenSpec.ofChange algebraSetsWrong)

/-- 'civiltimelaw38.AlgebraLaws': WHATEVER THE INPUT: true; the input reads as it did. -/
def algebraLawsSpec : ChangeSpec := { name := "algebraLaws", fn := fun _ => fun
  | [d1, d2, d3, d4] => { results := [.lit (.bool true)], args := [d1, d2, d3, d4] }
  | _ => none }
def algebraLawsRow : OpenClaim := { program := "ytapjalhjfblonaagreat", sum := "d10270a888b28bcdbde09879fd001274cc82a11e33ccdcebd7a478857ba1c396", func := "civiltime/civiltimelaw38.AlgebraLaws", spec := "algebraLaws", unfollowed := true, recurses := true, apart := false }
def AlgebraLawsSaid : Prop := algebraLawsRow.holds Tryz.pinned (OpenSpec.ofChange algebraLawsSpec)

/-- ITS FALSE NEIGHBOUR: 'it returns false'. Refute it at one input. -/
def algebraLawsWrong : ChangeSpec := { name := "algebraLaws", fn := fun _ => fun
  | [d1, d2, d3, d4] => { results := [.lit (.bool false)], args := [d1, d2, d3, d4] }
  | _ => none }
def AlgebraLawsWrongFalsely : Prop := algebraLawsRow.holds Tryz.pinned (OpenSpec.ofChange algebraLawsWrong)

/-- 'civiltimelaw38.AlgebraNormalForm': WHATEVER THE INPUT: true; the input reads as it did. -/
def algebraNormalFormSpec : ChangeSpec := { name := "algebraNormalForm", fn := fun _ => fun
  | [d1, d2, d3, d4] => { results := [.lit (.bool true)], args := [d1, d2, d3, d4] }
  | _ => none }
def algebraNormalFormRow : OpenClaim := { program := "ytapjalhjfblonaagreat", sum := "d10270a888b28bcdbde09879fd001274cc82a11e33ccdcebd7a478857ba1c396", func := "civiltime/civiltimelaw38.AlgebraNormalForm", spec := "algebraNormalForm", unfollowed := true, recurses := true, apart := false }
def AlgebraNormalFormSaid : Prop := algebraNormalFormRow.holds Tryz.pinned (OpenSpec.ofChange algebraNormalFormSpec)

/-- ITS FALSE NEIGHBOUR: 'it returns false'. Refute it at one input. -/
def algebraNormalFormWrong : ChangeSpec := { name := "algebraNormalForm", fn := fun _ => fun
  | [d1, d2, d3, d4] => { results := [.lit (.bool false)], args := [d1, d2, d3, d4] }
  | _ => none }
def AlgebraNormalFormWrongFalsely : Prop := algebraNormalFormRow.holds Tryz.pinned (OpenSpec.ofChange algebraNormalFormWrong)

/-- 'civiltimelaw38.AlgebraPoints': WHATEVER THE INPUT: true; the input reads as it did. -/
def algebraPointsSpec : ChangeSpec := { name := "algebraPoints", fn := fun _ => fun
  | [d1, d2, d3, d4, d5, d6] => { results := [.lit (.bool true)], args := [d1, d2, d3, d4, d5, d6] }
  | _ => none }
def algebraPointsRow : OpenClaim := { program := "ytapjalhjfblonaagreat", sum := "d10270a888b28bcdbde09879fd001274cc82a11e33ccdcebd7a478857ba1c396", func := "civiltime/civiltimelaw38.AlgebraPoints", spec := "algebraPoints", unfollowed := true, recurses := true, loops := true, apart := false }
def AlgebraPointsSaid : Prop := algebraPointsRow.holds Tryz.pinned (OpenSpec.ofChange algebraPointsSpec)

/-- ITS FALSE NEIGHBOUR: 'it returns false'. Refute it at one input. -/
def algebraPointsWrong : ChangeSpec := { name := "algebraPoints", fn := fun _ => fun
  | [d1, d2, d3, d4, d5, d6] => { results := [.lit (.bool false)], args := [d1, d2, d3, d4, d5, d6] }
  | _ => none }
def AlgebraPointsWrongFalsely : Prop := algebraPointsRow.holds Tryz.pinned (OpenSpec.ofChange algebraPointsWrong)

/-- 'civiltimelaw38.AlgebraEnds': WHATEVER THE INPUT: true; the input reads as it did. -/
def algebraEndsSpec : ChangeSpec := { name := "algebraEnds", fn := fun _ => fun
  | [d1, d2] => { results := [.lit (.bool true)], args := [d1, d2] }
  | _ => none }
def algebraEndsRow : OpenClaim := { program := "ytapjalhjfblonaagreat", sum := "d10270a888b28bcdbde09879fd001274cc82a11e33ccdcebd7a478857ba1c396", func := "civiltime/civiltimelaw38.AlgebraEnds", spec := "algebraEnds", unfollowed := true, recurses := true, apart := false }
def AlgebraEndsSaid : Prop := algebraEndsRow.holds Tryz.pinned (OpenSpec.ofChange algebraEndsSpec)

/-- ITS FALSE NEIGHBOUR: 'it returns false'. Refute it at one input. -/
def algebraEndsWrong : ChangeSpec := { name := "algebraEnds", fn := fun _ => fun
  | [d1, d2] => { results := [.lit (.bool false)], args := [d1, d2] }
  | _ => none }
def AlgebraEndsWrongFalsely : Prop := algebraEndsRow.holds Tryz.pinned (OpenSpec.ofChange algebraEndsWrong)

/-- 'civiltimelaw38.AlgebraNormal': WHATEVER THE INPUT: true; the input reads as it did. -/
def algebraNormalSpec : ChangeSpec := { name := "algebraNormal", fn := fun _ => fun
  | [d1, d2, d3] => { results := [.lit (.bool true)], args := [d1, d2, d3] }
  | _ => none }
def algebraNormalRow : OpenClaim := { program := "ytapjalhjfblonaagreat", sum := "d10270a888b28bcdbde09879fd001274cc82a11e33ccdcebd7a478857ba1c396", func := "civiltime/civiltimelaw38.AlgebraNormal", spec := "algebraNormal", unfollowed := true, recurses := true, apart := false }
def AlgebraNormalSaid : Prop := algebraNormalRow.holds Tryz.pinned (OpenSpec.ofChange algebraNormalSpec)

/-- ITS FALSE NEIGHBOUR: 'it returns false'. Refute it at one input. -/
def algebraNormalWrong : ChangeSpec := { name := "algebraNormal", fn := fun _ => fun
  | [d1, d2, d3] => { results := [.lit (.bool false)], args := [d1, d2, d3] }
  | _ => none }
def AlgebraNormalWrongFalsely : Prop := algebraNormalRow.holds Tryz.pinned (OpenSpec.ofChange algebraNormalWrong)

/- THE SECOND FORM. 'bulk': how many values and letters a reading holds, each counted each time it is reached (what is shared counts as often as it is met; a slice's spare places count too). A statement '..UptoSaid' is the law's where the arguments, and the package variables that the reading takes, are together of bulk at most 1048576: NARROWER than '..Said'. Prove '..Said' where nothing that the law and all that it calls make is longer than what came in: it says more and counts as full. Else prove '..UptoSaid'. A law counts once. -/
mutual
def uptoBulk {H : Type} : DataW H → Nat
  | .lit (.string bytes) => bytes.length + 1
  | .lit _ => 1
  | .nil => 1
  | .ptr d => uptoBulk d + 1
  | .slice elems spare => uptoBulkAll elems + uptoBulkAll spare + 1
  | .agg parts => uptoBulkAll parts + 1
  | .iface _ d => uptoBulk d + 1
  | .map entries => uptoBulkEntries entries + 1
  | .held _ => 1
def uptoBulkAll {H : Type} : List (DataW H) → Nat
  | [] => 0
  | d :: r => uptoBulk d + uptoBulkAll r
def uptoBulkEntries {H : Type} : List (Lit × DataW H) → Nat
  | [] => 0
  | x :: r => uptoBulkEntry x + uptoBulkEntries r
def uptoBulkEntry {H : Type} : Lit × DataW H → Nat
  | (.string bytes, d) => bytes.length + uptoBulk d + 1
  | (_, d) => uptoBulk d + 1
 end
def uptoSmall : (H : Type) → List (DataW H) → Bool := fun _ ds => decide (uptoBulkAll ds ≤ 1048576)
def OpenSpec.upto (s : _root_.Go.ChangeSpec) : _root_.Go.OpenSpec := { _root_.Go.OpenSpec.ofChange s with cond := some uptoSmall }

/-- 'civiltimelaw38.AlgebraRelates', WHERE WHAT IT READS IS OF BULK AT MOST 1048576: true; the input reads as it did. -/
def algebraRelatesUptoRow : OpenClaim := { program := "ytapjalhjfblonaagreat", sum := "d10270a888b28bcdbde09879fd001274cc82a11e33ccdcebd7a478857ba1c396", func := "civiltime/civiltimelaw38.AlgebraRelates", spec := "algebraRelates", unfollowed := true, recurses := true, apart := false, narrowed := true }
def AlgebraRelatesUptoSaid : Prop := algebraRelatesUptoRow.holds Tryz.pinned (OpenSpec.upto algebraRelatesSpec)

/-- 'civiltimelaw38.AlgebraSelects', WHERE WHAT IT READS IS OF BULK AT MOST 1048576: true; the input reads as it did. -/
def algebraSelectsUptoRow : OpenClaim := { program := "ytapjalhjfblonaagreat", sum := "d10270a888b28bcdbde09879fd001274cc82a11e33ccdcebd7a478857ba1c396", func := "civiltime/civiltimelaw38.AlgebraSelects", spec := "algebraSelects", unfollowed := true, recurses := true, loops := true, apart := false, narrowed := true }
def AlgebraSelectsUptoSaid : Prop := algebraSelectsUptoRow.holds Tryz.pinned (OpenSpec.upto algebraSelectsSpec)

/-- 'civiltimelaw38.AlgebraSets', WHERE WHAT IT READS IS OF BULK AT MOST 1048576: true; the input reads as it did. -/
def algebraSetsUptoRow : OpenClaim := { program := "ytapjalhjfblonaagreat", sum := "d10270a888b28bcdbde09879fd001274cc82a11e33ccdcebd7a478857ba1c396", func := "civiltime/civiltimelaw38.AlgebraSets", spec := "algebraSets", unfollowed := true, recurses := true, apart := false, narrowed := true }
def AlgebraSetsUptoSaid : Prop := algebraSetsUptoRow.holds Tryz.pinned (OpenSpec.upto algebraSetsSpec)

/-- 'civiltimelaw38.AlgebraLaws', WHERE WHAT IT READS IS OF BULK AT MOST 1048576: true; the input reads as it did. -/
def algebraLawsUptoRow : OpenClaim := { program := "ytapjalhjfblonaagreat", sum := "d10270a888b28bcdbde09879fd001274cc82a11e33ccdcebd7a478857ba1c396", func := "civiltime/civiltimelaw38.AlgebraLaws", spec := "algebraLaws", unfollowed := true, recurses := true, apart := false, narrowed := true }
def AlgebraLawsUptoSaid : Prop := algebraLawsUptoRow.holds Tryz.pinned (OpenSpec.upto algebraLawsSpec)

/-- 'civiltimelaw38.AlgebraNormalForm', WHERE WHAT IT READS IS OF BULK AT MOST 1048576: true; the input reads as it did. -/
def algebraNormalFormUptoRow : OpenClaim := { program := "ytapjalhjfblonaagreat", sum := "d10270a888b28bcdbde09879fd001274cc82a11e33ccdcebd7a478857ba1c396", func := "civiltime/civiltimelaw38.AlgebraNormalForm", spec := "algebraNormalForm", unfollowed := true, recurses := true, apart := false, narrowed := true }
def AlgebraNormalFormUptoSaid : Prop := algebraNormalFormUptoRow.holds Tryz.pinned (OpenSpec.upto algebraNormalFormSpec)

/-- 'civiltimelaw38.AlgebraPoints', WHERE WHAT IT READS IS OF BULK AT MOST 1048576: true; the input reads as it did. -/
def algebraPointsUptoRow : OpenClaim := { program := "ytapjalhjfblonaagreat", sum := "d10270a888b28bcdbde09879fd001274cc82a11e33ccdcebd7a478857ba1c396", func := "civiltime/civiltimelaw38.AlgebraPoints", spec := "algebraPoints", unfollowed := true, recurses := true, loops := true, apart := false, narrowed := true }
def AlgebraPointsUptoSaid : Prop := algebraPointsUptoRow.holds Tryz.pinned (OpenSpec.upto algebraPointsSpec)

/-- 'civiltimelaw38.AlgebraEnds', WHERE WHAT IT READS IS OF BULK AT MOST 1048576: true; the input reads as it did. -/
def algebraEndsUptoRow : OpenClaim := { program := "ytapjalhjfblonaagreat", sum := "d10270a888b28bcdbde09879fd001274cc82a11e33ccdcebd7a478857ba1c396", func := "civiltime/civiltimelaw38.AlgebraEnds", spec := "algebraEnds", unfollowed := true, recurses := true, apart := false, narrowed := true }
def AlgebraEndsUptoSaid : Prop := algebraEndsUptoRow.holds Tryz.pinned (OpenSpec.upto algebraEndsSpec)

/-- 'civiltimelaw38.AlgebraNormal', WHERE WHAT IT READS IS OF BULK AT MOST 1048576: true; the input reads as it did. -/
def algebraNormalUptoRow : OpenClaim := { program := "ytapjalhjfblonaagreat", sum := "d10270a888b28bcdbde09879fd001274cc82a11e33ccdcebd7a478857ba1c396", func := "civiltime/civiltimelaw38.AlgebraNormal", spec := "algebraNormal", unfollowed := true, recurses := true, apart := false, narrowed := true }
def AlgebraNormalUptoSaid : Prop := algebraNormalUptoRow.holds Tryz.pinned (OpenSpec.upto algebraNormalSpec)

end Rows
end Go.Proofs.YtapjalhjfblonaaGreat
