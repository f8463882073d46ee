/- Normal forms. -/
import Derived.Test.YtapjalhjfblonaaGreatCiv15
namespace Go.Civ
set_option linter.unusedVariables false

def fitB (l : List Fact) : Bool := decide (l.length ≤ 1000) && (decide (l.length = 0) || decide ((l.head?.elim [] Fact.v).length ≤ 8))
def finL (l : List Fact) : List Fact := if fitB (nf l) then nf l else []
def finE (l : List Fact) : Int := if fitB (nf l) then 0 else 5
def normL (l : List Fact) : List Fact := if validB l then finL l else []
def normE (l : List Fact) : Int := if validB l then finE l else 1
theorem listedL_append (a b : List Group) : listedL (a ++ b) = listedL a ++ listedL b := by simp [listedL]
theorem listedL_take {gs : List Group} {k : Nat} {g : Group} (h : gs[k]? = some g) : listedL (gs.take (k + 1)) = listedL (gs.take k) ++ g.t.map (Fact.mk g.v) := by
  rw [List.take_add_one, h, Option.toList_some, listedL_append]; simp [listedL]
theorem listedL_step {gs : List Group} {k j : Nat} {g : Group} (h : gs[k]? = some g) (hj : g.t.length ≤ j) : listedL (gs.take k) ++ (g.t.take j).map (Fact.mk g.v) = listedL (gs.take (k + 1)) := by
  rw [listedL_take h, List.take_of_length_le hj]
theorem map_take {g : Group} {k : Nat} {s : Span} (h : g.t[k]? = some s) : (g.t.take (k + 1)).map (Fact.mk g.v) = (g.t.take k).map (Fact.mk g.v) ++ [⟨g.v, s⟩] := by
  rw [List.take_add_one, h]; simp
theorem listed_part {gs : List Group} {k j : Nat} {g : Group} (h : gs[k]? = some g) (hj : j ≤ g.t.length) : (listedL (gs.take k) ++ (g.t.take j).map (Fact.mk g.v)).length + (g.t.length - j) ≤ (listedL gs).length := by
  have h1 := listedL_take h
  have h2 : listedL gs = listedL (gs.take (k + 1)) ++ listedL (gs.drop (k + 1)) := by rw [← listedL_append, List.take_append_drop]
  rw [h2, h1]; simp; omega
theorem listed_all {gs : List Group} {k : Nat} (h : gs.length ≤ k) : listedL (gs.take k) = listedL gs := by rw [List.take_of_length_le h]
def total (gs : List Group) : Nat := (gs.map fun g => g.t.length).sum
theorem total_append (a b : List Group) : total (a ++ b) = total a + total b := by simp [total]
theorem gstep_total (out : List Group) (f : Fact) : total (gstep out f) = total out + 1 := by
  rcases List.eq_nil_or_concat out with rfl | ⟨o, q, h⟩
  · simp [gstep, total]
  · have h : out = o ++ [q] := by simpa using h
    subst h
    rw [gstep_last]
    split
    · simp [total]; omega
    · simp [total]; omega
theorem groupL_total (l : List Fact) : total (groupL l) = l.length := by
  have : ∀ (l : List Fact) (out : List Group), total (l.foldl gstep out) = total out + l.length := by
    intro l
    induction l with
    | nil => simp
    | cons x l ih => intro out; have h1 := ih (gstep out x); have h2 := gstep_total out x; simp only [List.foldl_cons, List.length_cons]; omega
  have := this l []; simpa [groupL, total] using this
theorem listedL_len (gs : List Group) : (listedL gs).length = total gs := by simp [listedL, total, List.length_flatMap]
theorem cgroups_total (gs : List Group) : total (cgroups gs) ≤ total gs := by
  induction gs with
  | nil => simp [total, cgroups]
  | cons g gs ih =>
    have := canon_len (l := g.t)
    simp only [total, cgroups, List.map_cons, List.sum_cons] at *; omega
theorem nf_len (l : List Fact) : (nf l).length ≤ l.length := by
  unfold nf grp
  rw [listedL_len]
  have h1 := cgroups_total (groupL (sortF l))
  have h2 := groupL_total (sortF l)
  have h3 := (sortF_perm l).length_eq
  omega
theorem good_of_valid {l : List Fact} (h : validB l = true) : Good l := fun f hf => by
  unfold validB at h
  simp only [Bool.and_eq_true, List.all_eq_true] at h
  have := factB_eq.1 (h.2 f hf)
  exact ⟨this.2.2.2, this.1⟩
theorem fitB_false {l : List Fact} {x : Fact} (h1 : l.length ≤ 1000) (h0 : l[0]? = some x) : fitB l = decide (x.v.length ≤ 8) := by
  unfold fitB
  have hl : 0 < l.length := (List.getElem?_eq_some_iff.1 h0).1
  rw [List.head?_eq_getElem?, h0, decide_eq_true h1, decide_eq_false (by omega : ¬ l.length = 0)]; rfl
def atN (l : List Fact) (t : Int) : List (List Val) := (l.filter fun f => spanHas f.t t).map Fact.v
def atL (l : List Fact) (t : Int) : List (List Val) := atN (normL l) t
theorem atN_take {l : List Fact} {k : Nat} {x : Fact} {t : Int} (h : l[k]? = some x) : atN (l.take (k + 1)) t = atN (l.take k) t ++ (if spanHas x.t t then [x.v] else []) := by
  unfold atN
  rw [List.take_add_one, h, Option.toList_some, List.filter_append, List.map_append]
  congr 1
  cases e : spanHas x.t t <;> simp [e]
theorem atN_len (l : List Fact) (k : Nat) (t : Int) : (atN (l.take k) t).length ≤ l.length := by
  unfold atN
  rw [List.length_map]
  exact Nat.le_trans (List.length_filter_le _ _) (List.length_take_le' _ _)
theorem normL_len (l : List Fact) : (normL l).length ≤ l.length := by
  unfold normL finL
  have := nf_len l
  split
  · split
    · exact this
    · simp
  · simp
theorem valid_le {l : List Fact} (h : validB l = true) : l.length ≤ 1000 := by unfold validB at h; simp only [Bool.and_eq_true, decide_eq_true_eq] at h; exact h.1
theorem normL_le (l : List Fact) : (normL l).length ≤ 1000 := by
  cases h : validB l with
  | false => unfold normL; rw [h]; simp
  | true => exact Nat.le_trans (normL_len l) (valid_le h)
theorem atN_all {l : List Fact} {k : Nat} {t : Int} (h : (normL l).length ≤ k) : atN ((normL l).take k) t = atL l t := by rw [List.take_of_length_le h]; rfl
end Go.Civ
