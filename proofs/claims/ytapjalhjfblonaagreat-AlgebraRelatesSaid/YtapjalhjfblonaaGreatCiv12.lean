/- Sorting, in plain words. -/
import Derived.Test.YtapjalhjfblonaaGreatCiv11
namespace Go.Civ
set_option linter.unusedVariables false

section
variable {α : Type}
theorem set_perm {l : List α} {i : Nat} {x : α} (h : l[i]? = some x) (y : α) : (x :: l.set i y).Perm (y :: l) := by
  induction l generalizing i with
  | nil => simp at h
  | cons z l ih =>
    cases i with
    | zero => simp at h; subst h; exact List.Perm.swap _ _ _
    | succ i =>
      have := ih (i := i) (by simpa using h)
      simp only [List.set_cons_succ]
      exact (List.Perm.swap _ _ _).trans ((this.cons z).trans (List.Perm.swap _ _ _))
theorem swap_perm {l : List α} {i j : Nat} {x y : α} (hij : i ≠ j) (hi : l[i]? = some x) (hj : l[j]? = some y) : ((l.set i y).set j x).Perm l := by
  have h1 := set_perm hi y
  have hj' : (l.set i y)[j]? = some y := by rw [List.getElem?_set]; rw [if_neg hij]; exact hj
  have h2 := set_perm hj' x
  exact (List.perm_cons y).1 (h2.trans h1)

/-- Ascending from a up to (not with) i. -/
def Asc (pf : α → α → Int) (L : List α) (a i : Nat) : Prop := ∀ p q x y, a ≤ p → p < q → q < i → L[p]? = some x → L[q]? = some y → ¬ pf y x < 0
/-- A list L that is l, but for an order between a and b, and ascending from a to i. -/
structure Ins (pf : α → α → Int) (l L : List α) (a b i : Nat) : Prop where
  perm : L.Perm l
  frame : ∀ p, p < a ∨ b ≤ p → L[p]? = l[p]?
  asc : Asc pf L a i
structure Ins2 (pf : α → α → Int) (l L : List α) (a b i j : Nat) : Prop where
  perm : L.Perm l
  frame : ∀ p, p < a ∨ b ≤ p → L[p]? = l[p]?
  inv : ∀ p q x y, a ≤ p → p < q → q ≤ i → q ≠ j → L[p]? = some x → L[q]? = some y → ¬ pf y x < 0
variable {pf : α → α → Int} {l L : List α} {a b i j : Nat}
theorem Ins.len (h : Ins pf l L a b i) : L.length = l.length := h.perm.length_eq
theorem Ins2.len (h : Ins2 pf l L a b i j) : L.length = l.length := h.perm.length_eq
theorem Ins.start : Ins pf l l a b (a + 1) := ⟨List.Perm.refl _, fun _ _ => rfl, fun p q x y h1 h2 h3 => by omega⟩
theorem Ins.upTo {i' : Nat} (h : Ins pf l L a b i) (hi : i' ≤ i) : Ins pf l L a b i' := ⟨h.perm, h.frame, fun p q x y h1 h2 h3 => h.asc p q x y h1 h2 (by omega)⟩
theorem Ins.enter (h : Ins pf l L a b i) : Ins2 pf l L a b i i := ⟨h.perm, h.frame, fun p q x y h1 h2 h3 h4 => h.asc p q x y h1 h2 (by omega)⟩
theorem Ins2.step (h : Ins2 pf l L a b i j) (hA : ∀ x ∈ l, ∀ y ∈ l, pf x y < 0 → ¬ pf y x < 0) (haj : a < j) (hji : j ≤ i) (hib : i < b) {x y : α} (hx : L[j]? = some x) (hy : L[j - 1]? = some y) (hlt : pf x y < 0) :
    Ins2 pf l ((L.set j y).set (j - 1) x) a b i (j - 1) := by
  have hjl : j < L.length := (List.getElem?_eq_some_iff.1 hx).1
  have get : ∀ p, ((L.set j y).set (j - 1) x)[p]? = if p = j - 1 then some x else if p = j then some y else L[p]? := fun p => by
    rw [List.getElem?_set]
    by_cases h1 : j - 1 = p
    · subst h1; rw [if_pos rfl, if_pos (by simp; omega), if_pos rfl]
    · rw [if_neg h1, if_neg (Ne.symm h1), List.getElem?_set]
      by_cases h2 : j = p
      · subst h2; rw [if_pos rfl, if_pos hjl, if_pos rfl]
      · rw [if_neg h2, if_neg (Ne.symm h2)]
  refine ⟨(swap_perm (by omega) hx hy).trans h.perm, fun p hp => ?_, fun p q u v h1 h2 h3 h4 hu hv => ?_⟩
  · rw [get, if_neg (by omega), if_neg (by omega)]; exact h.frame p hp
  · rw [get] at hu hv
    rw [if_neg (by omega)] at hv
    by_cases hq : q = j
    · subst hq
      rw [if_pos rfl] at hv; obtain rfl := Option.some.inj hv
      by_cases hp : p = q - 1
      · rw [if_pos hp] at hu; obtain rfl := Option.some.inj hu
        exact hA _ (h.perm.mem_iff.1 (List.mem_of_getElem? hx)) _ (h.perm.mem_iff.1 (List.mem_of_getElem? hy)) hlt
      · rw [if_neg hp, if_neg (by omega)] at hu
        exact h.inv p (q - 1) u y h1 (by omega) (by omega) (by omega) hu hy
    · rw [if_neg hq] at hv
      by_cases hp : p = j - 1
      · subst hp; rw [if_pos rfl] at hu; obtain rfl := Option.some.inj hu
        exact h.inv j q x v (by omega) (by omega) h3 hq hx hv
      · rw [if_neg hp] at hu
        by_cases hp2 : p = j
        · subst hp2; rw [if_pos rfl] at hu; obtain rfl := Option.some.inj hu
          exact h.inv (p - 1) q y v (by omega) (by omega) h3 hq hy hv
        · rw [if_neg hp2] at hu
          exact h.inv p q u v h1 h2 h3 hq hu hv
theorem Ins2.first (h : Ins2 pf l L a b i j) (hj : j ≤ a) : Ins pf l L a b (i + 1) :=
  ⟨h.perm, h.frame, fun p q x y h1 h2 h3 => h.inv p q x y h1 h2 (by omega) (by omega)⟩
theorem Ins2.stop (h : Ins2 pf l L a b i j) (hT : ∀ x ∈ l, ∀ y ∈ l, ∀ z ∈ l, ¬ pf y x < 0 → ¬ pf z y < 0 → ¬ pf z x < 0) (hj : a < j) (hji : j ≤ i) {x y : α} (hx : L[j]? = some x) (hy : L[j - 1]? = some y) (hge : ¬ pf x y < 0) : Ins pf l L a b (i + 1) := by
  refine ⟨h.perm, h.frame, fun p q u v h1 h2 h3 hu hv => ?_⟩
  have m : ∀ {k : Nat} {z : α}, L[k]? = some z → z ∈ l := fun hk => h.perm.mem_iff.1 (List.mem_of_getElem? hk)
  by_cases hq : q = j
  · subst hq
    rw [hx] at hv; obtain rfl := Option.some.inj hv
    by_cases hp : p = q - 1
    · subst hp; rw [hy] at hu; obtain rfl := Option.some.inj hu; exact hge
    · exact hT u (m hu) y (m hy) _ (m hx) (h.inv p (q - 1) u y h1 (by omega) (by omega) (by omega) hu hy) hge
  · exact h.inv p q u v h1 h2 (by omega) hq hu hv
theorem ordA_perm (h : L.Perm l) (hA : ∀ x ∈ l, ∀ y ∈ l, pf x y < 0 → ¬ pf y x < 0) : ∀ x ∈ L, ∀ y ∈ L, pf x y < 0 → ¬ pf y x < 0 := fun x hx y hy => hA x (h.mem_iff.1 hx) y (h.mem_iff.1 hy)
theorem ordT_perm (h : L.Perm l) (hT : ∀ x ∈ l, ∀ y ∈ l, ∀ z ∈ l, ¬ pf y x < 0 → ¬ pf z y < 0 → ¬ pf z x < 0) : ∀ x ∈ L, ∀ y ∈ L, ∀ z ∈ L, ¬ pf y x < 0 → ¬ pf z y < 0 → ¬ pf z x < 0 := fun x hx y hy z hz => hT x (h.mem_iff.1 hx) y (h.mem_iff.1 hy) z (h.mem_iff.1 hz)
theorem Ins.zero {n : Nat} : Ins pf l l 0 n 0 := ⟨List.Perm.refl _, fun _ _ => rfl, fun p q x y h1 h2 h3 => by omega⟩
theorem Ins.comp0 {n c : Nat} {L' : List α} (h : Ins pf l L 0 n (20 * c)) (k : Ins pf L L' (20 * c) (20 * c + 20) (20 * c + 20)) (hn : n ≤ 20) (hc : 20 * c + 20 ≤ n) : Ins pf l L' 0 n (20 * (c + 1)) := by
  obtain rfl : c = 0 := by omega
  exact ⟨k.perm.trans h.perm, fun p hp => (k.frame p (by omega)).trans (h.frame p hp), k.asc⟩
theorem Ins.comp1 {n c : Nat} {L' : List α} (h : Ins pf l L 0 n (20 * c)) (k : Ins pf L L' (20 * c) n n) (hn : n ≤ 20) (hc : 20 * c ≤ n) : Ins pf l L' 0 n n := by
  refine ⟨k.perm.trans h.perm, fun p hp => (k.frame p (by omega)).trans (h.frame p hp), ?_⟩
  by_cases h0 : c = 0
  · subst h0; exact k.asc
  · have e : 20 * c = n := by omega
    intro p q x y h1 h2 h3 hx hy
    rw [k.frame p (by omega)] at hx; rw [k.frame q (by omega)] at hy
    exact h.asc p q x y h1 h2 (by omega) hx hy
end
end Go.Civ
