/- Ends of facts, and what snapshots say between them. -/
import Derived.Test.YtapjalhjfblonaaGreatMCiv16
import Derived.Lib.SlicesCompact
namespace Go.Civ
set_option linter.unusedVariables false
open Go.Lib (compact compactUpTo keeps)

/-! ### Compact of an ascending list -/
structure CInv (z : List Int) (m : Nat) (c : List Int) : Prop where
  inc : c.Pairwise (· < ·)
  mem : ∀ x, x ∈ c ↔ ∃ j, j < m ∧ z[j]? = some x
theorem compactUpTo_inv {z : List Int} (hs : z.Pairwise (· ≤ ·)) : ∀ m, m ≤ z.length → CInv z m (compactUpTo z.toArray m)
  | 0, _ => ⟨by simp [compactUpTo], fun x => by simp [compactUpTo]⟩
  | m + 1, hm => by
    have ih := compactUpTo_inv hs m (by omega)
    have hlt : m < z.length := by omega
    have hz : z.toArray[m]! = z[m] := by rw [getElem!_pos z.toArray m (by simpa using hlt)]; simp
    have hzm : z[m]? = some z[m] := List.getElem?_eq_getElem hlt
    rw [Go.Lib.compactUpTo_succ]
    cases hk : keeps z.toArray m with
    | true =>
      simp only [if_true, hz]
      refine ⟨List.pairwise_append.2 ⟨ih.inc, by simp, fun a ha b hb => ?_⟩, fun x => ?_⟩
      · obtain rfl := List.mem_singleton.1 hb
        obtain ⟨j, hj, hja⟩ := (ih.mem a).1 ha
        have hm0 : 0 < m := by omega
        have hz1 : z.toArray[m - 1]! = z[m - 1] := by rw [getElem!_pos z.toArray (m - 1) (by simp; omega)]; simp
        have hne : z[m] ≠ z[m - 1] := by
          unfold keeps at hk
          simp only [decide_eq_true_eq] at hk
          rcases hk with h | h
          · omega
          · rwa [hz, hz1] at h
        obtain ⟨hjl, rfl⟩ := List.getElem?_eq_some_iff.1 hja
        have h1 : z[m - 1] ≤ z[m] := List.pairwise_iff_getElem.1 hs (m - 1) m (by omega) hlt (by omega)
        have h2 : z[j] ≤ z[m - 1] := by
          by_cases e : j = m - 1
          · subst e; exact Int.le_refl _
          · exact List.pairwise_iff_getElem.1 hs j (m - 1) hjl (by omega) (by omega)
        omega
      · rw [List.mem_append, ih.mem, List.mem_singleton]
        constructor
        · rintro (⟨j, hj, h⟩ | rfl)
          · exact ⟨j, by omega, h⟩
          · exact ⟨m, by omega, hzm⟩
        · rintro ⟨j, hj, h⟩
          by_cases e : j = m
          · subst e; rw [hzm] at h; exact .inr (Option.some.inj h).symm
          · exact .inl ⟨j, by omega, h⟩
    | false =>
      have h := hk
      unfold keeps at h
      simp only [decide_eq_false_iff_not, not_or, Classical.not_not] at h
      have hz1 : z.toArray[m - 1]! = z[m - 1] := by rw [getElem!_pos z.toArray (m - 1) (by simp; omega)]; simp
      rw [hz, hz1] at h
      simp only [Bool.false_eq_true, if_false, List.append_nil]
      refine ⟨ih.inc, fun x => ?_⟩
      rw [ih.mem]
      constructor
      · rintro ⟨j, hj, h⟩; exact ⟨j, by omega, h⟩
      · rintro ⟨j, hj, hx⟩
        by_cases e : j = m
        · subst e
          rw [hzm] at hx
          obtain rfl := Option.some.inj hx
          exact ⟨j - 1, by omega, by rw [List.getElem?_eq_getElem (by omega), h.2]⟩
        · exact ⟨j, by omega, hx⟩
theorem compact_inv {z : List Int} (hs : z.Pairwise (· ≤ ·)) : CInv z z.length (compact z) := compactUpTo_inv hs _ (Nat.le_refl _)
theorem compact_mem {z : List Int} (hs : z.Pairwise (· ≤ ·)) {x : Int} : x ∈ compact z ↔ x ∈ z := by
  rw [(compact_inv hs).mem]
  constructor
  · rintro ⟨j, _, h⟩; exact List.mem_of_getElem? h
  · intro h
    obtain ⟨j, hj⟩ := List.getElem?_of_mem h
    exact ⟨j, (List.getElem?_eq_some_iff.1 hj).1, hj⟩
theorem compact_len (z : List Int) : (compact z).length ≤ z.length := by
  unfold compact compactUpTo
  rw [List.length_map]
  exact Nat.le_trans (List.length_filter_le _ _) (by simp)

def flatE (l : List Fact) : List Int := l.flatMap fun f => [f.t.a, f.t.b]
def sortZ (l : List Int) : List Int := l.mergeSort fun x y => decide (x ≤ y)
def endsL (l : List Fact) : List Int := compact (sortZ (flatE (normL l)))
theorem sortZ_asc (l : List Int) : (sortZ l).Pairwise (· ≤ ·) := by
  have := List.pairwise_mergeSort (le := fun (x y : Int) => decide (x ≤ y)) (fun a b c h1 h2 => by simp at *; omega) (fun a b => by simp; omega) l
  exact this.imp fun h => by simpa using h
theorem sortZ_perm (l : List Int) : (sortZ l).Perm l := List.mergeSort_perm _ _
theorem endsL_inc (l : List Fact) : (endsL l).Pairwise (· < ·) := (compact_inv (sortZ_asc _)).inc
theorem endsL_mem {l : List Fact} {x : Int} : x ∈ endsL l ↔ ∃ f ∈ normL l, x = f.t.a ∨ x = f.t.b := by
  unfold endsL
  rw [compact_mem (sortZ_asc _), (sortZ_perm _).mem_iff]
  simp [flatE]
theorem flatE_len (l : List Fact) : (flatE l).length = 2 * l.length := by
  unfold flatE
  induction l with
  | nil => rfl
  | cons f l ih => rw [List.flatMap_cons, List.length_append, ih]; simp; omega
theorem endsL_len (l : List Fact) : (endsL l).length ≤ 2 * l.length := by
  have h1 := compact_len (sortZ (flatE (normL l)))
  rw [(sortZ_perm _).length_eq, flatE_len] at h1
  have := normL_len l
  unfold endsL; omega
theorem flatE_take {l : List Fact} {k : Nat} {x : Fact} (h : l[k]? = some x) : flatE (l.take (k + 1)) = flatE (l.take k) ++ [x.t.a, x.t.b] := by
  unfold flatE; rw [List.take_add_one, h]; simp
theorem flatE_takeLen (l : List Fact) (k : Nat) : (flatE (l.take k)).length ≤ 2 * l.length := by rw [flatE_len, List.length_take]; omega
theorem flatE_all {l : List Fact} {k : Nat} (h : l.length ≤ k) : flatE (l.take k) = flatE l := by rw [List.take_of_length_le h]

/-! ### IsSorted -/
def sortedB : List Int → Bool
  | x :: y :: r => decide (x ≤ y) && sortedB (y :: r)
  | _ => true
theorem sortedB_no : ∀ {l : List Int} {k : Nat} {x y : Int}, l[k]? = some y → l[k + 1]? = some x → x < y → sortedB l = false
  | a :: b :: r, 0, x, y, h1, h2, h => by
    simp at h1 h2; subst h1 h2; simp [sortedB]; intro; omega
  | a :: b :: r, k + 1, x, y, h1, h2, h => by
    simp only [sortedB]
    rw [sortedB_no (l := b :: r) (k := k) (by simpa using h1) (by simpa using h2) h]; simp
  | [], _, _, _, h1, _, _ => by simp at h1
  | [_], k, _, _, _, h2, _ => by simp at h2
theorem sortedB_yes : ∀ {l : List Int}, (∀ (k : Nat) x y, l[k]? = some y → l[k + 1]? = some x → y ≤ x) → sortedB l = true
  | a :: b :: r, h => by
    simp only [sortedB, Bool.and_eq_true, decide_eq_true_eq]
    exact ⟨h 0 b a rfl rfl, sortedB_yes fun k x y h1 h2 => h (k + 1) x y (by simpa using h1) (by simpa using h2)⟩
  | [], _ => rfl
  | [_], _ => rfl
theorem sortedB_inc {l : List Int} (h : l.Pairwise (· < ·)) : sortedB l = true := sortedB_yes fun k x y h1 h2 => by
  obtain ⟨k1, rfl⟩ := List.getElem?_eq_some_iff.1 h1
  obtain ⟨k2, rfl⟩ := List.getElem?_eq_some_iff.1 h2
  have := List.pairwise_iff_getElem.1 h k (k + 1) k1 k2 (by omega)
  omega

def SortFrom (l : List Int) (j : Int) : Prop := ∀ (q : Nat) (x y : Int), j ≤ q → l[q]? = some y → l[q + 1]? = some x → y ≤ x
theorem SortFrom.start {l : List Int} {j : Int} (h : (l.length : Int) - 1 ≤ j) : SortFrom l j := fun q x y hq h1 h2 => by
  have := (List.getElem?_eq_some_iff.1 h2).1; omega
theorem SortFrom.step {l : List Int} {j x y : Int} (h : SortFrom l j) (hj : 0 < j) (h1 : l[j.toNat]? = some x) (h2 : l[(j - 1).toNat]? = some y) (hxy : decide (x < y) = false) : SortFrom l (j - 1) := fun q u v hq k1 k2 => by
  by_cases e : (q : Int) = j - 1
  · have e1 : q = (j - 1).toNat := by omega
    have e2 : q + 1 = j.toNat := by omega
    rw [e2, h1] at k2
    rw [e1, h2] at k1
    obtain rfl := Option.some.inj k1
    obtain rfl := Option.some.inj k2
    have := of_decide_eq_false hxy; omega
  · exact h q u v (by omega) k1 k2
theorem SortFrom.yes {l : List Int} {j : Int} (h : SortFrom l j) (hj : j ≤ 0) : sortedB l = true := sortedB_yes fun k x y h1 h2 => h k x y (by omega) h1 h2
theorem sorted_no {l : List Int} {j x y : Int} (hj : 0 < j) (h1 : l[j.toNat]? = some x) (h2 : l[(j - 1).toNat]? = some y) (hxy : decide (x < y) = true) : sortedB l = false := by
  refine sortedB_no (k := (j - 1).toNat) h2 ?_ (of_decide_eq_true hxy)
  rw [show (j - 1).toNat + 1 = j.toNat by omega]; exact h1

/-! ### What a normal form is -/
theorem grp_inv {l : List Fact} (h : Good l) : GInv (sortF l) (groupL (sortF l)) :=
  groupL_inv _ (sortF l) rfl (fun f hf => (h f ((sortF_perm l).mem_iff.1 hf)).1) (sortF_asc l)
theorem grp_can {l : List Fact} (h : Good l) {g : Group} (hg : g ∈ groupL (sortF l)) : MInv g.t (canon g.t) := by
  refine canon_inv fun s hs => ?_
  rw [(grp_inv h).times g hg] at hs
  obtain ⟨f, hf, rfl⟩ := List.mem_map.1 hs
  exact spanB_pos (h f ((sortF_perm l).mem_iff.1 (List.mem_filter.1 hf).1)).2
theorem nf_mem {l : List Fact} {f : Fact} : f ∈ nf l ↔ ∃ g ∈ groupL (sortF l), f.v = g.v ∧ f.t ∈ canon g.t := by
  unfold nf listedL grp cgroups
  simp only [List.mem_flatMap, List.mem_map]
  constructor
  · rintro ⟨_, ⟨g, hg, rfl⟩, s, hs, rfl⟩; exact ⟨g, hg, rfl, hs⟩
  · rintro ⟨g, hg, e, hs⟩; exact ⟨_, ⟨g, hg, rfl⟩, f.t, hs, by cases f; simp at e ⊢; exact e.symm⟩
theorem groupL_same {l : List Fact} (h : Good l) {g k : Group} (hg : g ∈ groupL (sortF l)) (hk : k ∈ groupL (sortF l)) (e : g.v = k.v) : g = k := by
  have hp := (grp_inv h).inc
  obtain ⟨i, hi, rfl⟩ := List.getElem_of_mem hg
  obtain ⟨j, hj, rfl⟩ := List.getElem_of_mem hk
  rcases Nat.lt_trichotomy i j with q | q | q
  · have := List.pairwise_iff_getElem.1 hp i j hi hj q
    rw [e, ord.refl] at this; omega
  · subst q; rfl
  · have := List.pairwise_iff_getElem.1 hp j i hj hi q
    rw [e, ord.refl] at this; omega
/-- Facts of a normal form with the same values are apart. -/
theorem nf_apart {l : List Fact} (h : Good l) {f g : Fact} (hf : f ∈ nf l) (hg : g ∈ nf l) (e : f.v = g.v) : f.t = g.t ∨ f.t.b < g.t.a ∨ g.t.b < f.t.a := by
  obtain ⟨G, hG, e1, t1⟩ := nf_mem.1 hf
  obtain ⟨K, hK, e2, t2⟩ := nf_mem.1 hg
  obtain rfl := groupL_same h hG hK (e1.symm.trans (e.trans e2))
  have hp := (grp_can h hG).can.apart
  obtain ⟨i, hi, q1⟩ := List.getElem_of_mem t1
  obtain ⟨j, hj, q2⟩ := List.getElem_of_mem t2
  rcases Nat.lt_trichotomy i j with q | q | q
  · right; left; rw [← q1, ← q2]; exact List.pairwise_iff_getElem.1 hp i j hi hj q
  · subst q; left; rw [← q1, ← q2]
  · right; right; rw [← q1, ← q2]; exact List.pairwise_iff_getElem.1 hp j i hj hi q
theorem nf_good {l : List Fact} (h : Good l) : Good (nf l) := fun f hf => by
  obtain ⟨G, hG, e1, t1⟩ := nf_mem.1 hf
  have hc := grp_can h hG
  have hpos := hc.can.pos _ t1
  have src : ∀ s ∈ G.t, spanB s = true := fun s hs => by
    rw [(grp_inv h).times G hG] at hs
    obtain ⟨f, hf, rfl⟩ := List.mem_map.1 hs
    exact (h f ((sortF_perm l).mem_iff.1 (List.mem_filter.1 hf).1)).2
  refine ⟨?_, ?_⟩
  · obtain ⟨k, hk, e⟩ := ((grp_inv h).mem G.v).1 ⟨G, hG, rfl⟩
    rw [e1, ← e]; exact (h k ((sortF_perm l).mem_iff.1 hk)).1
  · obtain ⟨q, hq, q1, q2⟩ := (hc.cov f.t.a).1 ⟨f.t, t1, by omega, hpos⟩
    obtain ⟨r, hr, r1, r2⟩ := (hc.cov (f.t.b - 1)).1 ⟨f.t, t1, by omega, by omega⟩
    have s1 := src q hq
    have s2 := src r hr
    unfold spanB at *
    simp only [Bool.and_eq_true, decide_eq_true_eq] at *
    omega
theorem nf_vals {l : List Fact} (h : Good l) {f : Fact} (hf : f ∈ nf l) : ∃ k ∈ l, k.v = f.v := by
  obtain ⟨G, hG, e1, t1⟩ := nf_mem.1 hf
  obtain ⟨k, hk, e⟩ := ((grp_inv h).mem G.v).1 ⟨G, hG, rfl⟩
  exact ⟨k, (sortF_perm l).mem_iff.1 hk, e.trans e1.symm⟩
theorem spanHas_B {s : Span} (h : spanB s = true) (x : Int) : spanHas s x = (decide (s.a ≤ x) && decide (x < s.b)) := by
  unfold spanHas
  have hp := spanB_pos h
  unfold spanB at h
  simp only [Bool.and_eq_true, decide_eq_true_eq] at h
  rw [spanV_B s h.1.1 h.2, decide_eq_true hp]; simp
theorem normL_nf {l : List Fact} (h : validB l = true) : normL l = nf l ∨ normL l = [] := by
  unfold normL finL; rw [if_pos h]; split
  · exact .inl rfl
  · exact .inr rfl
theorem normL_good {l : List Fact} : Good (normL l) := fun f hf => by
  cases h : validB l with
  | false => unfold normL at hf; rw [h] at hf; simp at hf
  | true =>
    rcases normL_nf h with e | e
    · rw [e] at hf; exact nf_good (good_of_valid h) f hf
    · rw [e] at hf; simp at hf
theorem normL_apart {l : List Fact} {f g : Fact} (hf : f ∈ normL l) (hg : g ∈ normL l) (e : f.v = g.v) : f.t = g.t ∨ f.t.b < g.t.a ∨ g.t.b < f.t.a := by
  cases h : validB l with
  | false => unfold normL at hf; rw [h] at hf; simp at hf
  | true =>
    rcases normL_nf h with q | q
    · rw [q] at hf hg; exact nf_apart (good_of_valid h) hf hg e
    · rw [q] at hf; simp at hf
theorem normL_vals {l : List Fact} {f : Fact} (hf : f ∈ normL l) : ∃ k ∈ l, k.v = f.v := by
  cases h : validB l with
  | false => unfold normL at hf; rw [h] at hf; simp at hf
  | true =>
    rcases normL_nf h with q | q
    · rw [q] at hf; exact nf_vals (good_of_valid h) hf
    · rw [q] at hf; simp at hf

/-! ### Snapshots and ends -/
theorem atL_mem {l : List Fact} {t : Int} {v : List Val} : v ∈ atL l t ↔ ∃ f ∈ normL l, f.v = v ∧ f.t.a ≤ t ∧ t < f.t.b := by
  unfold atL atN
  simp only [List.mem_map, List.mem_filter]
  constructor
  · rintro ⟨f, ⟨hf, hs⟩, e⟩
    rw [spanHas_B (normL_good f hf).2] at hs
    simp at hs
    exact ⟨f, hf, e, hs⟩
  · rintro ⟨f, hf, e, hs⟩
    refine ⟨f, ⟨hf, ?_⟩, e⟩
    rw [spanHas_B (normL_good f hf).2]; simp [hs]
theorem atL_change {l : List Fact} {x : Int} (h : x ∈ endsL l) : decide (atL l (x - 1) = atL l x) = false := by
  refine decide_eq_false fun e => ?_
  obtain ⟨f, hf, hx⟩ := endsL_mem.1 h
  have hp := spanB_pos (normL_good f hf).2
  have key : ∀ t t', f.t.a ≤ t → t < f.t.b → atL l t = atL l t' → ∃ g ∈ normL l, g.v = f.v ∧ g.t.a ≤ t' ∧ t' < g.t.b := fun t t' h1 h2 h3 => by
    have : f.v ∈ atL l t := atL_mem.2 ⟨f, hf, rfl, h1, h2⟩
    rw [h3] at this
    exact atL_mem.1 this
  rcases hx with rfl | rfl
  · obtain ⟨g, hg, e1, h1, h2⟩ := key f.t.a (f.t.a - 1) (by omega) hp e.symm
    rcases normL_apart hg hf e1 with q | q | q
    · rw [q] at h1; omega
    · omega
    · omega
  · obtain ⟨g, hg, e1, h1, h2⟩ := key (f.t.b - 1) f.t.b (by omega) (by omega) e
    rcases normL_apart hg hf e1 with q | q | q
    · rw [q] at h2; omega
    · omega
    · omega
theorem endsL_bound {l : List Fact} {x : Int} (h : x ∈ endsL l) : -62135596800 ≤ x ∧ x ≤ 253402300800 := by
  obtain ⟨f, hf, hx⟩ := endsL_mem.1 h
  have hB := (normL_good f hf).2
  unfold spanB at hB
  simp only [Bool.and_eq_true, decide_eq_true_eq] at hB
  omega
theorem endsL_ne {l : List Fact} {i j : Nat} {x y : Int} (h1 : (endsL l)[i]? = some x) (h2 : (endsL l)[j]? = some y) (hij : i < j) : x ≠ y := by
  obtain ⟨a, rfl⟩ := List.getElem?_eq_some_iff.1 h1
  obtain ⟨b, rfl⟩ := List.getElem?_eq_some_iff.1 h2
  have := List.pairwise_iff_getElem.1 (endsL_inc l) i j a b hij
  omega
theorem great_le {l : List Fact} (h : [l].any greatB = false) : l.length ≤ 20 := by
  simp [greatB] at h; omega
/-- Nothing happens from one end to the next. -/
theorem atL_same {l : List Fact} {k t : Int} (hk : k ≤ t) (h : ∀ x ∈ endsL l, x ≤ t → x ≤ k) : atL l t = atL l k := by
  unfold atL atN
  congr 1
  refine List.filter_congr fun f hf => ?_
  have hB := (normL_good f hf).2
  rw [spanHas_B hB, spanHas_B hB]
  have ha := h f.t.a (endsL_mem.2 ⟨f, hf, .inl rfl⟩)
  have hb := h f.t.b (endsL_mem.2 ⟨f, hf, .inr rfl⟩)
  rw [Bool.eq_iff_iff]
  simp only [Bool.and_eq_true, decide_eq_true_eq]
  constructor
  · rintro ⟨h1, h2⟩; exact ⟨ha h1, by omega⟩
  · rintro ⟨h1, h2⟩
    refine ⟨by omega, ?_⟩
    rcases Int.lt_or_le t f.t.b with q | q
    · exact q
    · have := hb q; omega
theorem atL_none {l : List Fact} {t : Int} (h : ∀ x ∈ endsL l, ¬ x ≤ t) : atL l t = [] := by
  rw [List.eq_nil_iff_forall_not_mem]
  intro v hv
  obtain ⟨f, hf, _, h1, _⟩ := atL_mem.1 hv
  exact h _ (endsL_mem.2 ⟨f, hf, .inl rfl⟩) h1
/-- The last of an ascending list's first k that is at most t. -/
def lastLe (t : Int) (l : List Int) : List Int := match (l.filter fun x => decide (x ≤ t)).getLast? with | some x => [x] | none => []
theorem lastLe_take {t : Int} {l : List Int} {k : Nat} {x : Int} (h : l[k]? = some x) : lastLe t (l.take (k + 1)) = if x ≤ t then [x] else lastLe t (l.take k) := by
  unfold lastLe
  rw [List.take_add_one, h, Option.toList_some, List.filter_append]
  by_cases e : x ≤ t <;> simp [e]
theorem lastLe_len (t : Int) (l : List Int) : (lastLe t l).length ≤ 1 := by unfold lastLe; split <;> simp
theorem lastLe_none {t : Int} {l : List Fact} (h : (lastLe t (endsL l)).length = 0) : atL l t = [] := by
  refine atL_none fun x hx hle => ?_
  unfold lastLe at h
  split at h
  · simp at h
  · rename_i q
    rw [List.getLast?_eq_none_iff, List.filter_eq_nil_iff] at q
    exact q x hx (by simpa using hle)
theorem lastLe_some {t x : Int} {l : List Fact} (h : (lastLe t (endsL l))[0]? = some x) : atL l t = atL l x := by
  unfold lastLe at h
  split at h
  · rename_i y q
    simp at h; subst h
    obtain ⟨p, hp⟩ := List.getLast?_eq_some_iff.1 q
    have hmem : y ∈ (endsL l).filter fun x => decide (x ≤ t) := by rw [hp]; simp
    have hy : y ≤ t := by simpa using (List.mem_filter.1 hmem).2
    refine atL_same hy fun z hz hzt => ?_
    have hzm : z ∈ (endsL l).filter fun x => decide (x ≤ t) := List.mem_filter.2 ⟨hz, by simpa using hzt⟩
    have hpw := (endsL_inc l).filter (fun x => decide (x ≤ t))
    rw [hp] at hzm hpw
    rcases List.mem_append.1 hzm with q | q
    · have := (List.pairwise_append.1 hpw).2.2 z q y (by simp); omega
    · have := List.mem_singleton.1 q; omega
  · simp at h
end Go.Civ
