/- Merging in place, in plain words. -/
import Derived.Test.YtapjalhjfblonaaGreatMCiv12
namespace Go.Civ
set_option linter.unusedVariables false

def rotIx (a m b p : Nat) : Nat := if a ≤ p ∧ p < a + (b - m) then p + (m - a) else if a + (b - m) ≤ p ∧ p < b then p - (b - m) else p
def swpIx (a b n p : Nat) : Nat := if a ≤ p ∧ p < a + n then p - a + b else if b ≤ p ∧ p < b + n then p - b + a else p
section
variable {α : Type}
/-- L is l in another order: place p holds what was at place f p. -/
structure Moved (l L : List α) (f : Nat → Nat) : Prop where
  perm : L.Perm l
  map : ∀ p, p < l.length → L[p]? = l[f p]?
variable {l L M : List α} {f g : Nat → Nat}
theorem Moved.len (h : Moved l L f) : L.length = l.length := h.perm.length_eq
theorem Moved.refl (hf : ∀ p, p < l.length → f p = p) : Moved l l f := ⟨List.Perm.refl _, fun p hp => by rw [hf p hp]⟩
theorem Moved.swap (h : Moved l L f) {i j : Nat} {x y : α} (hi : L[i]? = some x) (hj : L[j]? = some y) (hij : i ≠ j) (hg : ∀ p, p < l.length → g p = if p = i then f j else if p = j then f i else f p) : Moved l ((L.set i y).set j x) g := by
  have hil : i < L.length := (List.getElem?_eq_some_iff.1 hi).1
  have hjl : j < L.length := (List.getElem?_eq_some_iff.1 hj).1
  have hl := h.len
  refine ⟨(swap_perm hij hi hj).trans h.perm, fun p hp => ?_⟩
  rw [hg p hp, List.getElem?_set]
  by_cases h1 : j = p
  · subst h1
    rw [if_pos rfl, if_pos (by simpa using hjl), if_neg (Ne.symm hij), if_pos rfl, ← hi]
    exact h.map i (by omega)
  · rw [if_neg h1, List.getElem?_set]
    by_cases h2 : i = p
    · subst h2
      rw [if_pos rfl, if_pos hil, if_pos rfl, ← hj]
      exact h.map j (by omega)
    · rw [if_neg h2, if_neg (Ne.symm h2), if_neg (Ne.symm h1)]; exact h.map p hp

/-! ### Exchanging two stretches -/
theorem Moved.swp0 {a b : Nat} : Moved l l (swpIx a b 0) := Moved.refl fun p _ => by unfold swpIx; rw [if_neg (by omega), if_neg (by omega)]
theorem Moved.swpStep {a b k : Nat} {x y : α} (h : Moved l L (swpIx a b k)) (hab : a + k < b) (hx : L[a + k]? = some x) (hy : L[b + k]? = some y) : Moved l ((L.set (a + k) y).set (b + k) x) (swpIx a b (k + 1)) :=
  h.swap hx hy (by omega) fun p hp => by unfold swpIx; (repeat' split) <;> omega

/-! ### Turning a stretch -/
/-- What is left to do: turn the stretch from m - i to m + j. -/
structure RotInv (l M : List α) (a m b i j : Nat) : Prop where
  perm : M.Perm l
  map : ∀ p, p < l.length → M[rotIx (m - i) m (m + j) p]? = l[rotIx a m b p]?
theorem RotInv.start {a m b : Nat} (h1 : a ≤ m) (h2 : m ≤ b) : RotInv l l a m b (m - a) (b - m) := by
  refine ⟨List.Perm.refl _, fun p hp => ?_⟩
  rw [show m - (m - a) = a by omega, show m + (b - m) = b by omega]
theorem RotInv.len {a m b i j : Nat} (h : RotInv l M a m b i j) : M.length = l.length := h.perm.length_eq
theorem RotInv.left {a m b i j : Nat} (h : RotInv l M a m b i j) (k : Moved M L (swpIx (m - i) m j)) (hij : j < i) (hi : i ≤ m) (hj : m + j ≤ l.length) : RotInv l L a m b (i - j) j := by
  refine ⟨k.perm.trans h.perm, fun p hp => ?_⟩
  have hl := h.len
  rw [k.map _ (by rw [hl]; unfold rotIx; split <;> (try split) <;> omega), ← h.map p hp]
  congr 1
  unfold swpIx rotIx
  repeat' split
  all_goals omega
theorem RotInv.right {a m b i j : Nat} (h : RotInv l M a m b i j) (k : Moved M L (swpIx (m - i) (m + j - i) i)) (hij : i < j) (hi : i ≤ m) (hj : m + j ≤ l.length) : RotInv l L a m b i (j - i) := by
  refine ⟨k.perm.trans h.perm, fun p hp => ?_⟩
  have hl := h.len
  rw [k.map _ (by rw [hl]; unfold rotIx; split <;> (try split) <;> omega), ← h.map p hp]
  congr 1
  unfold swpIx rotIx
  repeat' split
  all_goals omega
theorem RotInv.done {a m b i j : Nat} (h : RotInv l M a m b i j) (k : Moved M L (swpIx (m - i) m i)) (hij : i = j) (hi : i ≤ m) (hj : m + j ≤ l.length) : Moved l L (rotIx a m b) := by
  subst hij
  refine ⟨k.perm.trans h.perm, fun p hp => ?_⟩
  have hl := h.len
  rw [k.map p (by omega), ← h.map p hp]
  congr 1
  unfold swpIx rotIx
  repeat' split
  all_goals omega
theorem Moved.rot0 {a : Nat} : Moved l l (rotIx a (a + 1) (a + 1)) := Moved.refl fun p _ => by unfold rotIx; split <;> (try split) <;> omega
theorem Moved.rotUp {a k : Nat} {x y : α} (h : Moved l L (rotIx a (a + 1) (k + 1))) (hk : a ≤ k) (hx : L[k]? = some x) (hy : L[k + 1]? = some y) : Moved l ((L.set k y).set (k + 1) x) (rotIx a (a + 1) (k + 1 + 1)) :=
  h.swap hx hy (by omega) fun p hp => by unfold rotIx; (repeat' split) <;> omega
theorem Moved.rotM {m : Nat} : Moved l l (rotIx m m (m + 1)) := Moved.refl fun p _ => by unfold rotIx; split <;> (try split) <;> omega
theorem Moved.rotDown {m k : Nat} {x y : α} (h : Moved l L (rotIx k m (m + 1))) (hk : k ≤ m) (h0 : 0 < k) (hx : L[k]? = some x) (hy : L[k - 1]? = some y) : Moved l ((L.set k y).set (k - 1) x) (rotIx (k - 1) m (m + 1)) :=
  h.swap hx hy (by omega) fun p hp => by unfold rotIx; (repeat' split) <;> omega

/-! ### Merging -/
variable {pf : α → α → Int}
def OrdA (pf : α → α → Int) (l : List α) : Prop := ∀ x ∈ l, ∀ y ∈ l, pf x y < 0 → ¬ pf y x < 0
def OrdT (pf : α → α → Int) (l : List α) : Prop := ∀ x ∈ l, ∀ y ∈ l, ∀ z ∈ l, ¬ pf y x < 0 → ¬ pf z y < 0 → ¬ pf z x < 0
theorem mem_at {k : Nat} {z : α} (h : l[k]? = some z) : z ∈ l := List.mem_of_getElem? h
theorem some_at {k : Nat} (h : k < l.length) : ∃ z, l[k]? = some z := ⟨_, List.getElem?_eq_getElem h⟩
/-- One element goes up. -/
theorem merge_up {a b i : Nat} {x : α} (hA : OrdA pf l) (hT : OrdT pf l) (hx : l[a]? = some x) (hs : Asc pf l (a + 1) b) (hi1 : a + 1 ≤ i) (hi2 : i ≤ b) (hb : b ≤ l.length)
    (lo : i = a + 1 ∨ ∃ y, l[i - 1]? = some y ∧ pf y x < 0) (hi : i = b ∨ ∃ y, l[i]? = some y ∧ ¬ pf y x < 0) (h : Moved l M (rotIx a (a + 1) i)) : Ins pf l M a b b := by
  have hl := h.len
  have low : ∀ k y, a + 1 ≤ k → k < i → l[k]? = some y → ¬ pf x y < 0 := fun k y h1 h2 hy => by
    rcases lo with e | ⟨z, hz, hlt⟩
    · omega
    · have hzx : ¬ pf x z < 0 := hA z (mem_at hz) x (mem_at hx) hlt
      by_cases e : k = i - 1
      · subst e; rw [hz] at hy; obtain rfl := Option.some.inj hy; exact hzx
      · exact hT y (mem_at hy) z (mem_at hz) x (mem_at hx) (hs k (i - 1) y z h1 (by omega) (by omega) hy hz) hzx
  have up : ∀ k y, i ≤ k → k < b → l[k]? = some y → ¬ pf y x < 0 := fun k y h1 h2 hy => by
    rcases hi with e | ⟨z, hz, hge⟩
    · omega
    · by_cases e : k = i
      · subst e; rw [hz] at hy; obtain rfl := Option.some.inj hy; exact hge
      · exact hT x (mem_at hx) z (mem_at hz) y (mem_at hy) hge (hs i k z y hi1 (by omega) h2 hz hy)
  refine ⟨h.perm, fun p hp => ?_, fun p q u v h1 h2 h3 hu hv => ?_⟩
  · rcases Nat.lt_or_ge p l.length with k | k
    · rw [h.map p k]; congr 1; unfold rotIx; rw [if_neg (by omega), if_neg (by omega)]
    · rw [List.getElem?_eq_none (by omega), List.getElem?_eq_none k]
  · have hq : q < l.length := by omega
    rw [h.map p (by omega)] at hu
    rw [h.map q hq] at hv
    have e : ∀ r, a ≤ r → r < b → (r < i - 1 ∧ rotIx a (a + 1) i r = r + 1) ∨ (r = i - 1 ∧ rotIx a (a + 1) i r = a) ∨ (i ≤ r ∧ rotIx a (a + 1) i r = r) := fun r k1 k2 => by
      unfold rotIx; split <;> (try split) <;> omega
    rcases e p h1 (by omega) with ⟨p1, ep⟩ | ⟨p1, ep⟩ | ⟨p1, ep⟩ <;> rcases e q (by omega) h3 with ⟨q1, eq⟩ | ⟨q1, eq⟩ | ⟨q1, eq⟩ <;> rw [ep] at hu <;> rw [eq] at hv
    · exact hs (p + 1) (q + 1) u v (by omega) (by omega) (by omega) hu hv
    · rw [hx] at hv; obtain rfl := Option.some.inj hv
      exact low (p + 1) u (by omega) (by omega) hu
    · exact hs (p + 1) q u v (by omega) (by omega) h3 hu hv
    · omega
    · omega
    · rw [hx] at hu; obtain rfl := Option.some.inj hu
      exact up q v q1 h3 hv
    · omega
    · omega
    · exact hs p q u v (by omega) h2 h3 hu hv
/-- One element goes down. -/
theorem merge_down {a m i : Nat} {x : α} (hA : OrdA pf l) (hT : OrdT pf l) (hx : l[m]? = some x) (hs : Asc pf l a m) (hi1 : a ≤ i) (hi2 : i ≤ m)
    (lo : i = a ∨ ∃ y, l[i - 1]? = some y ∧ ¬ pf x y < 0) (hi : i = m ∨ ∃ y, l[i]? = some y ∧ pf x y < 0) (h : Moved l M (rotIx i m (m + 1))) : Ins pf l M a (m + 1) (m + 1) := by
  have hl := h.len
  have hml : m < l.length := (List.getElem?_eq_some_iff.1 hx).1
  have low : ∀ k y, a ≤ k → k < i → l[k]? = some y → ¬ pf x y < 0 := fun k y h1 h2 hy => by
    rcases lo with e | ⟨z, hz, hge⟩
    · omega
    · by_cases e : k = i - 1
      · subst e; rw [hz] at hy; obtain rfl := Option.some.inj hy; exact hge
      · exact hT y (mem_at hy) z (mem_at hz) x (mem_at hx) (hs k (i - 1) y z h1 (by omega) (by omega) hy hz) hge
  have up : ∀ k y, i ≤ k → k < m → l[k]? = some y → ¬ pf y x < 0 := fun k y h1 h2 hy => by
    rcases hi with e | ⟨z, hz, hlt⟩
    · omega
    · have hzx : ¬ pf z x < 0 := hA x (mem_at hx) z (mem_at hz) hlt
      by_cases e : k = i
      · subst e; rw [hz] at hy; obtain rfl := Option.some.inj hy; exact hzx
      · exact hT x (mem_at hx) z (mem_at hz) y (mem_at hy) hzx (hs i k z y hi1 (by omega) h2 hz hy)
  refine ⟨h.perm, fun p hp => ?_, fun p q u v h1 h2 h3 hu hv => ?_⟩
  · rcases Nat.lt_or_ge p l.length with k | k
    · rw [h.map p k]; congr 1; unfold rotIx; rw [if_neg (by omega), if_neg (by omega)]
    · rw [List.getElem?_eq_none (by omega), List.getElem?_eq_none k]
  · rw [h.map p (by omega)] at hu
    rw [h.map q (by omega)] at hv
    have e : ∀ r, a ≤ r → r < m + 1 → (r < i ∧ rotIx i m (m + 1) r = r) ∨ (r = i ∧ rotIx i m (m + 1) r = m) ∨ (i < r ∧ rotIx i m (m + 1) r = r - 1) := fun r k1 k2 => by
      unfold rotIx; split <;> (try split) <;> omega
    rcases e p h1 (by omega) with ⟨p1, ep⟩ | ⟨p1, ep⟩ | ⟨p1, ep⟩ <;> rcases e q (by omega) h3 with ⟨q1, eq⟩ | ⟨q1, eq⟩ | ⟨q1, eq⟩ <;> rw [ep] at hu <;> rw [eq] at hv
    · exact hs p q u v h1 h2 (by omega) hu hv
    · rw [hx] at hv; obtain rfl := Option.some.inj hv
      exact low p u h1 p1 hu
    · exact hs p (q - 1) u v h1 (by omega) (by omega) hu hv
    · omega
    · omega
    · rw [hx] at hu; obtain rfl := Option.some.inj hu
      exact up (q - 1) v (by omega) (by omega) hv
    · omega
    · omega
    · exact hs (p - 1) (q - 1) u v (by omega) (by omega) (by omega) hu hv
/-- Behind the turn: what stands below mid is not greater than what stands from there on. -/
def Cross (pf : α → α → Int) (M : List α) (a mid b : Nat) : Prop := ∀ p q u v, a ≤ p → p < mid → mid ≤ q → q < b → M[p]? = some u → M[q]? = some v → ¬ pf v u < 0
structure Halves (pf : α → α → Int) (l M : List α) (a s mid e b : Nat) : Prop where
  perm : M.Perm l
  frame : ∀ p, p < a ∨ b ≤ p → M[p]? = l[p]?
  s1 : Asc pf M a s
  s2 : Asc pf M s mid
  s3 : Asc pf M mid e
  s4 : Asc pf M e b
  cross : Cross pf M a mid b
theorem halves {a s m e b : Nat} (hA : OrdA pf l) (hT : OrdT pf l) (hs1 : Asc pf l a m) (hs2 : Asc pf l m b) (h1 : a ≤ s) (h2 : s ≤ m) (h3 : m ≤ e) (h4 : e ≤ b) (hb : b ≤ l.length)
    (c1 : s = a ∨ e = b ∨ ∃ u v, l[s - 1]? = some u ∧ l[e]? = some v ∧ ¬ pf v u < 0) (c2 : s = m ∨ e = m ∨ ∃ u v, l[s]? = some u ∧ l[e - 1]? = some v ∧ pf v u < 0)
    (h : Moved l M (rotIx s m e)) : Halves pf l M a s (s + (e - m)) e b := by
  have hl := h.len
  have ix : ∀ r, a ≤ r → r < b → (r < s ∧ rotIx s m e r = r) ∨ (s ≤ r ∧ r < s + (e - m) ∧ rotIx s m e r = r + (m - s)) ∨ (s + (e - m) ≤ r ∧ r < e ∧ rotIx s m e r = r - (e - m)) ∨ (e ≤ r ∧ rotIx s m e r = r) := fun r k1 k2 => by
    unfold rotIx; split <;> (try split) <;> omega
  have get : ∀ r x, r < b → M[r]? = some x → l[rotIx s m e r]? = some x := fun r x k hx => by rwa [h.map r (by omega)] at hx
  have low1 : e = b ∨ s = a ∨ ∀ k y k' z, a ≤ k → k < s → e ≤ k' → k' < b → l[k]? = some y → l[k']? = some z → ¬ pf z y < 0 := by
    rcases c1 with q | q | ⟨u, v, hu, hv, hge⟩
    · exact .inr (.inl q)
    · exact .inl q
    · by_cases hsa : s = a
      · exact .inr (.inl hsa)
      · refine .inr (.inr fun k y k' z k1 k2 k3 k4 hy hz => ?_)
        have a1 : ¬ pf u y < 0 ∨ k = s - 1 := by
          by_cases q : k = s - 1
          · exact .inr q
          · exact .inl (hs1 k (s - 1) y u k1 (by omega) (by omega) hy hu)
        have a2 : ¬ pf z v < 0 ∨ k' = e := by
          by_cases q : k' = e
          · exact .inr q
          · exact .inl (hs2 e k' v z h3 (by omega) k4 hv hz)
        have b1 : ¬ pf v y < 0 := by
          rcases a1 with q | q
          · exact hT y (mem_at hy) u (mem_at hu) v (mem_at hv) q hge
          · subst q; rw [hu] at hy; obtain rfl := Option.some.inj hy; exact hge
        rcases a2 with q | q
        · exact hT y (mem_at hy) v (mem_at hv) z (mem_at hz) b1 q
        · subst q; rw [hv] at hz; obtain rfl := Option.some.inj hz; exact b1
  have low2 : e = m ∨ s = m ∨ ∀ k y k' z, m ≤ k → k < e → s ≤ k' → k' < m → l[k]? = some y → l[k']? = some z → ¬ pf z y < 0 := by
    rcases c2 with q | q | ⟨u, v, hu, hv, hlt⟩
    · exact .inr (.inl q)
    · exact .inl q
    · by_cases hem : e = m
      · exact .inl hem
      · refine .inr (.inr fun k y k' z k1 k2 k3 k4 hy hz => ?_)
        have hge : ¬ pf u v < 0 := hA v (mem_at hv) u (mem_at hu) hlt
        have b1 : ¬ pf u y < 0 := by
          by_cases q : k = e - 1
          · subst q; rw [hv] at hy; obtain rfl := Option.some.inj hy; exact hge
          · exact hT y (mem_at hy) v (mem_at hv) u (mem_at hu) (hs2 k (e - 1) y v k1 (by omega) (by omega) hy hv) hge
        by_cases q : k' = s
        · subst q; rw [hu] at hz; obtain rfl := Option.some.inj hz; exact b1
        · exact hT y (mem_at hy) u (mem_at hu) z (mem_at hz) b1 (hs1 s k' u z h1 (by omega) k4 hu hz)
  refine ⟨h.perm, fun p hp => ?_, fun p q u v k1 k2 k3 hu hv => ?_, fun p q u v k1 k2 k3 hu hv => ?_, fun p q u v k1 k2 k3 hu hv => ?_, fun p q u v k1 k2 k3 hu hv => ?_, fun p q u v k1 k2 k3 k4 hu hv => ?_⟩
  · rcases Nat.lt_or_ge p l.length with k | k
    · rw [h.map p k]; congr 1; unfold rotIx; rw [if_neg (by omega), if_neg (by omega)]
    · rw [List.getElem?_eq_none (by omega), List.getElem?_eq_none k]
  · have hu := get p u (by omega) hu
    have hv := get q v (by omega) hv
    rcases ix p (by omega) (by omega) with ⟨_, ep⟩ | ⟨_, _, ep⟩ | ⟨_, _, ep⟩ | ⟨_, ep⟩ <;> rcases ix q (by omega) (by omega) with ⟨_, eq⟩ | ⟨_, _, eq⟩ | ⟨_, _, eq⟩ | ⟨_, eq⟩ <;> first | omega | skip
    rw [ep] at hu; rw [eq] at hv
    exact hs1 p q u v k1 k2 (by omega) hu hv
  · have hu := get p u (by omega) hu
    have hv := get q v (by omega) hv
    rcases ix p (by omega) (by omega) with ⟨_, ep⟩ | ⟨_, _, ep⟩ | ⟨_, _, ep⟩ | ⟨_, ep⟩ <;> rcases ix q (by omega) (by omega) with ⟨_, eq⟩ | ⟨_, _, eq⟩ | ⟨_, _, eq⟩ | ⟨_, eq⟩ <;> first | omega | skip
    rw [ep] at hu; rw [eq] at hv
    exact hs2 _ _ u v (by omega) (by omega) (by omega) hu hv
  · have hu := get p u (by omega) hu
    have hv := get q v (by omega) hv
    rcases ix p (by omega) (by omega) with ⟨_, ep⟩ | ⟨_, _, ep⟩ | ⟨_, _, ep⟩ | ⟨_, ep⟩ <;> rcases ix q (by omega) (by omega) with ⟨_, eq⟩ | ⟨_, _, eq⟩ | ⟨_, _, eq⟩ | ⟨_, eq⟩ <;> first | omega | skip
    rw [ep] at hu; rw [eq] at hv
    exact hs1 _ _ u v (by omega) (by omega) (by omega) hu hv
  · have hu := get p u (by omega) hu
    have hv := get q v (by omega) hv
    rcases ix p (by omega) (by omega) with ⟨_, ep⟩ | ⟨_, _, ep⟩ | ⟨_, _, ep⟩ | ⟨_, ep⟩ <;> rcases ix q (by omega) (by omega) with ⟨_, eq⟩ | ⟨_, _, eq⟩ | ⟨_, _, eq⟩ | ⟨_, eq⟩ <;> first | omega | skip
    rw [ep] at hu; rw [eq] at hv
    exact hs2 _ _ u v (by omega) (by omega) (by omega) hu hv
  · have hu := get p u (by omega) hu
    have hv := get q v (by omega) hv
    rcases ix p (by omega) (by omega) with ⟨p1, ep⟩ | ⟨p1, p2, ep⟩ | ⟨p1, p2, ep⟩ | ⟨p1, ep⟩ <;> rcases ix q (by omega) (by omega) with ⟨q1, eq⟩ | ⟨q1, q2, eq⟩ | ⟨q1, q2, eq⟩ | ⟨q1, eq⟩ <;> first | omega | skip
    all_goals rw [ep] at hu
    all_goals rw [eq] at hv
    · exact hs1 _ _ u v (by omega) (by omega) (by omega) hu hv
    · rcases low1 with r | r | r
      · omega
      · omega
      · exact r _ u _ v k1 p1 q1 k4 hu hv
    · rcases low2 with r | r | r
      · omega
      · omega
      · exact r _ u _ v (by omega) (by omega) (by omega) (by omega) hu hv
    · exact hs2 _ _ u v (by omega) (by omega) (by omega) hu hv
/-- What stands in a stretch comes from that stretch. -/
theorem Ins.from_ {a b i p : Nat} {x : α} (h : Ins pf l L a b i) (hab : a ≤ b) (h1 : a ≤ p) (h2 : p < b) (hx : L[p]? = some x) : ∃ q, a ≤ q ∧ q < b ∧ l[q]? = some x := by
  have hl := h.len
  have e1 : L.take a = l.take a := by
    apply List.ext_getElem?; intro k
    rw [List.getElem?_take, List.getElem?_take]
    split
    · exact h.frame k (by omega)
    · rfl
  have e2 : L.drop b = l.drop b := by
    apply List.ext_getElem?; intro k
    rw [List.getElem?_drop, List.getElem?_drop]; exact h.frame _ (by omega)
  have dec : ∀ t : List α, t = t.take a ++ ((t.drop a).take (b - a) ++ t.drop b) := fun t => by
    rw [show t.drop b = (t.drop a).drop (b - a) by rw [List.drop_drop]; congr 1; omega, List.take_append_drop, List.take_append_drop]
  have hp := h.perm
  rw [dec L, dec l, e1, e2, List.perm_append_left_iff, List.perm_append_right_iff] at hp
  have hm : x ∈ (L.drop a).take (b - a) := by
    refine List.mem_of_getElem? (i := p - a) ?_
    rw [List.getElem?_take, if_pos (by omega), List.getElem?_drop, show a + (p - a) = p by omega]; exact hx
  obtain ⟨k, hk⟩ := List.getElem?_of_mem (hp.mem_iff.1 hm)
  rw [List.getElem?_take] at hk
  split at hk
  · rw [List.getElem?_drop] at hk; exact ⟨a + k, by omega, by omega, hk⟩
  · cases hk
theorem Asc.empty {a b : Nat} (h : b ≤ a + 1) : Asc pf l a b := fun p q x y h1 h2 h3 => by omega
/-- The two halves merged, the whole is in order. -/
theorem Halves.done {a s mid e b : Nat} {M1 M2 : List α} (h : Halves pf l M a s mid e b) (h1 : Ins pf M M1 a mid mid) (h2 : Ins pf M1 M2 mid b b) (ha : a ≤ mid) (hb : mid ≤ b) : Ins pf l M2 a b b := by
  refine ⟨h2.perm.trans (h1.perm.trans h.perm), fun p hp => ?_, fun p q u v k1 k2 k3 hu hv => ?_⟩
  · rw [h2.frame p (by omega), h1.frame p (by omega)]; exact h.frame p hp
  · rcases Nat.lt_or_ge q mid with c | c
    · rw [h2.frame p (by omega)] at hu; rw [h2.frame q (by omega)] at hv
      exact h1.asc p q u v k1 k2 c hu hv
    · rcases Nat.lt_or_ge p mid with d | d
      · rw [h2.frame p (by omega)] at hu
        obtain ⟨p', a1, a2, a3⟩ := h1.from_ ha k1 d hu
        obtain ⟨q', b1, b2, b3⟩ := h2.from_ hb c k3 hv
        rw [h1.frame q' (by omega)] at b3
        exact h.cross p' q' u v a1 a2 b1 b2 a3 b3
      · exact h2.asc p q u v d k2 k3 hu hv
theorem Ins.same {a b : Nat} (h : Asc pf l a b) : Ins pf l l a b b := ⟨List.Perm.refl _, fun _ _ => rfl, h⟩
theorem Asc.frame {a b : Nat} (h : Asc pf l a b) (k : ∀ p, a ≤ p → p < b → L[p]? = l[p]?) : Asc pf L a b := fun p q x y h1 h2 h3 hx hy => by
  rw [k p h1 (by omega)] at hx; rw [k q (by omega) h3] at hy
  exact h p q x y h1 h2 h3 hx hy
theorem Asc.join {a s b : Nat} (h1 : Asc pf l a s) (h2 : Asc pf l s b) (h : s ≤ a ∨ b ≤ s) : Asc pf l a b := fun p q x y k1 k2 k3 hx hy => by
  rcases h with h | h
  · exact h2 p q x y (by omega) k2 k3 hx hy
  · exact h1 p q x y k1 k2 (by omega) hx hy
theorem OrdA.perm (h : OrdA pf l) (k : L.Perm l) : OrdA pf L := fun x hx y hy => h x (k.mem_iff.1 hx) y (k.mem_iff.1 hy)
theorem OrdT.perm (h : OrdT pf l) (k : L.Perm l) : OrdT pf L := fun x hx y hy z hz => h x (k.mem_iff.1 hx) y (k.mem_iff.1 hy) z (k.mem_iff.1 hz)
end
end Go.Civ
