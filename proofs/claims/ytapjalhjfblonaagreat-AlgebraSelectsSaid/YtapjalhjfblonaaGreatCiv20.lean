/- The examples of the chapter. -/
import Derived.Test.YtapjalhjfblonaaGreatCiv19
namespace Go.Civ
set_option linter.unusedVariables false
theorem sort_one {f : Fact} : sortF [f] = [f] := by simp [sortF]
theorem canon_one {s : Span} : canon [s] = [s] := by simp [canon, sortA, mergeS, mstep]
theorem nf_one {f : Fact} : nf [f] = [f] := by
  unfold nf grp; rw [sort_one]; simp [groupL, gstep, cgroups, canon_one, listedL]
def awA : List Fact := [factL 10 20 [1], factL 0 10 [1]]
def awB : List Fact := [factL 0 10 [1, 2]]
def awC : List Fact := [factL 5 15 [2, 3]]
theorem awA_nf : nf awA = [factL 0 20 [1]] := by
  have h1 : sortF awA = awA := List.mergeSort_of_pairwise (by simp [awA, factL]; decide)
  have h2 : groupL awA = [⟨[⟨1, 1, []⟩], [⟨10, 20⟩, ⟨0, 10⟩]⟩] := by decide
  have h3 : canon [⟨10, 20⟩, ⟨0, 10⟩] = [⟨0, 20⟩] := by
    rw [← mergeS_canon (s := [⟨0, 10⟩, ⟨10, 20⟩]) (List.Perm.swap _ _ _) (by simp) (by simp)]
    decide
  unfold nf grp; rw [h1, h2]
  simp [cgroups, h3, listedL, factL]
theorem awA_L : normL awA = [factL 0 20 [1]] := by
  unfold normL finL; rw [awA_nf]; decide
theorem awA_E : normE awA = 0 := by
  unfold normE finE; rw [awA_nf]; decide
theorem awB_L : normL awB = awB := by unfold normL finL awB; rw [nf_one]; decide
theorem awC_L : normL awC = awC := by unfold normL finL awC; rw [nf_one]; decide
theorem aw_join : joinF [(1, 0)] awB awC = [factL 5 10 [1, 2, 3]] := by decide
theorem aw_L : joinL awB awC [(1, 0)] = [factL 5 10 [1, 2, 3]] := by
  unfold joinL finL; rw [awB_L, awC_L, aw_join, nf_one]; decide
theorem aw_E : joinE awB awC [(1, 0)] = 0 := by
  unfold joinE finE; rw [awB_L, awC_L, aw_join, nf_one]; decide
theorem aw_len : (joinF [(1, 0)] (normL awB) (normL awC)).length ≤ 20 := by rw [awB_L, awC_L, aw_join]; decide
theorem ch_no {l : List Fact} {x : Int} (h : x ∈ endsL l) (k : decide (atL l (x - 1) = atL l x) = true) : False := by rw [atL_change h] at k; cases k
theorem len0 {l : List Fact} {t : Int} (h : atL l t = []) : Cmp.b .eql (((atL l t).length : Nat) : Int) 0 = true := by rw [h]; rfl
end Go.Civ
