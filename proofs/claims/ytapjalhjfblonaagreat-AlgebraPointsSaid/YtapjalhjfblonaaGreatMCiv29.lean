/- The normal form: what it depends on, and that it is its own. -/
import Derived.Test.YtapjalhjfblonaaGreatMCiv28
namespace Go.Civ
open Go.RowKit
set_option linter.unusedVariables false

theorem cover_times {l : List Fact} {v : List Val} {x : Int} : cover (timesOf l v) x ↔ ∃ f ∈ l, f.v = v ∧ f.t.a ≤ x ∧ x < f.t.b := by
  unfold cover timesOf
  constructor
  · rintro ⟨s, hs, h1, h2⟩
    obtain ⟨f, hf, rfl⟩ := List.mem_map.1 hs
    obtain ⟨h3, h4⟩ := List.mem_filter.1 hf
    exact ⟨f, h3, of_decide_eq_true h4, h1, h2⟩
  · rintro ⟨f, hf, h0, h1, h2⟩
    exact ⟨f.t, List.mem_map.2 ⟨f, List.mem_filter.2 ⟨hf, decide_eq_true h0⟩, rfl⟩, h1, h2⟩
theorem nf_runs {l : List Fact} (h : Good l) : nf l = runsF (vals l) fun v => canon (timesOf l v) := by rw [← rnf_nf h]; rfl
theorem vals_congr {l l' : List Fact} (hv : ∀ v, (∃ f ∈ l, f.v = v) ↔ (∃ f ∈ l', f.v = v)) : vals l = vals l' :=
  strict_unique ord (vals_inv _ l rfl).1 (vals_inv _ l' rfl).1 fun v => by rw [(vals_inv _ l rfl).2.1, (vals_inv _ l' rfl).2.1, hv]
theorem nf_congr {l l' : List Fact} (h : Good l) (h' : Good l') (hv : ∀ v, (∃ f ∈ l, f.v = v) ↔ (∃ f ∈ l', f.v = v)) (hc : ∀ v x, cover (timesOf l v) x ↔ cover (timesOf l' v) x) : nf l = nf l' := by
  rw [nf_runs h, nf_runs h', vals_congr hv]
  have e : (fun v => canon (timesOf l v)) = fun v => canon (timesOf l' v) := funext fun v =>
    Can.unique (canT h v).can (canT h' v).can fun x => by rw [(canT h v).cov, (canT h' v).cov]; exact hc v x
  rw [e]
theorem times_nf {l : List Fact} (h : Good l) (v : List Val) : timesOf (nf l) v = canon (timesOf l v) := by
  rw [nf_runs h, timesOf_runs (vals_inv _ l rfl).1]
  by_cases hv : v ∈ vals l
  · rw [if_pos hv]
  · rw [if_neg hv]
    have e : timesOf l v = [] := by
      unfold timesOf
      rw [List.map_eq_nil_iff, List.filter_eq_nil_iff]
      intro f hf
      have : f.v ≠ v := fun q => hv (((vals_inv _ l rfl).2.1 v).2 ⟨f, hf, q⟩)
      simpa using this
    rw [e, canon_nil]
theorem mem_nf {l : List Fact} (h : Good l) (v : List Val) : (∃ f ∈ nf l, f.v = v) ↔ ∃ f ∈ l, f.v = v := by
  constructor
  · rintro ⟨f, hf, rfl⟩; exact nf_vals h hf
  · rintro ⟨f, hf, rfl⟩
    have hp := spanB_pos (h f hf).2
    obtain ⟨g, hg, e, _⟩ := (nf_cover h (v := f.v) (t := f.t.a)).2 ⟨f, hf, rfl, by omega, hp⟩
    exact ⟨g, hg, e⟩
theorem vals_nf {l : List Fact} (h : Good l) : vals (nf l) = vals l := vals_congr (mem_nf h)
theorem canon_self {r : List Span} (h : Can r) : canon r = r := by
  have c := canon_inv (l := r) h.pos
  exact Can.unique c.can h c.cov
theorem nf_nf {l : List Fact} (h : Good l) : nf (nf l) = nf l :=
  nf_congr (nf_good h) h (mem_nf h) fun v x => by rw [times_nf h, (canT h v).cov]
/-- Whatever has the lists of values of a valid list, and time spans, is valid. -/
theorem valid_of {l l' : List Fact} (h : validB l = true) (hn : l'.length ≤ 1000) (hk : ∀ f ∈ l', spanB f.t = true ∧ ∃ k ∈ l, k.v = f.v) : validB l' = true := by
  have hg := good_of_valid h
  unfold validB
  simp only [Bool.and_eq_true, List.all_eq_true, decide_eq_true_eq]
  refine ⟨hn, fun f hf => ?_⟩
  obtain ⟨h1, k, hk1, e⟩ := hk f hf
  obtain ⟨f0, hf0, e0⟩ := headV_mem (List.length_pos_of_mem hf)
  obtain ⟨_, k0, hk0, e1⟩ := hk f0 hf0
  have q1 := fact_kinds h hk1
  have q2 := fact_kinds h hk0
  have q3 := valid_len h hk1
  have q4 := (hg k hk1).1
  have q5 : kindsB f.v (headV l') = true := kinds_map.2 (by rw [e0, ← e, ← e1, q1, q2])
  rw [e] at q3 q4
  unfold headV at q5
  have q6 : f.v.length ≤ 8 := by omega
  unfold factB
  simp_all
theorem valid_nf {l : List Fact} (h : validB l = true) : validB (nf l) = true :=
  valid_of h (Nat.le_trans (nf_len l) (valid_le h)) fun f hf => ⟨(nf_good (good_of_valid h) f hf).2, nf_vals (good_of_valid h) hf⟩
theorem norm_norm {l : List Fact} (h : validB l = true) : normL (normL l) = normL l ∧ normE (normL l) = 0 := by
  have hl := valid_le h
  rw [(norm_valid h hl).1]
  have := norm_valid (valid_nf h) (Nat.le_trans (nf_len l) hl)
  exact ⟨this.1.trans (nf_nf (good_of_valid h)), this.2⟩
/-! cut in two, and turned around -/
def cutF (c : Int) (f : Fact) : List Fact := if f.t.a < c ∧ c < f.t.b then [⟨f.v, ⟨f.t.a, c⟩⟩, ⟨f.v, ⟨c, f.t.b⟩⟩] else [f]
def cutL (c : Int) (l : List Fact) : List Fact := l.flatMap (cutF c)
theorem cutL_take {c : Int} {l : List Fact} {k : Nat} {f : Fact} (h : l[k]? = some f) : cutL c (l.take (k + 1)) = cutL c (l.take k) ++ cutF c f := by
  unfold cutL; rw [List.take_add_one, h]; simp
theorem cutL_yes {c : Int} {l : List Fact} {k : Nat} {f : Fact} (h : l[k]? = some f) (h1 : f.t.a < c) (h2 : c < f.t.b) : cutL c (l.take (k + 1)) = cutL c (l.take k) ++ [⟨f.v, ⟨f.t.a, c⟩⟩, ⟨f.v, ⟨c, f.t.b⟩⟩] := by
  rw [cutL_take h]; unfold cutF; rw [if_pos ⟨h1, h2⟩]
theorem cutL_no {c : Int} {l : List Fact} {k : Nat} {f : Fact} (h : l[k]? = some f) (h1 : c ≤ f.t.a ∨ f.t.b ≤ c) : cutL c (l.take (k + 1)) = cutL c (l.take k) ++ [f] := by
  rw [cutL_take h]; unfold cutF; rw [if_neg (by omega)]
theorem cutL_all {c : Int} {l : List Fact} {k : Nat} (h : l.length ≤ k) : cutL c (l.take k) = cutL c l := by rw [List.take_of_length_le h]
theorem cutL_len (c : Int) (l : List Fact) : (cutL c l).length ≤ 2 * l.length := by
  induction l with
  | nil => simp [cutL]
  | cons f r ih =>
    have e : cutL c (f :: r) = cutF c f ++ cutL c r := by simp [cutL]
    have : (cutF c f).length ≤ 2 := by unfold cutF; split <;> simp
    rw [e, List.length_append, List.length_cons]; omega
theorem cutL_takeLen (c : Int) (l : List Fact) (k : Nat) : (cutL c (l.take k)).length ≤ 2 * l.length := by
  have := cutL_len c (l.take k)
  have := List.length_take_le' k l
  omega
theorem cutL_mem {c : Int} {l : List Fact} {v : List Val} {x : Int} : (∃ f ∈ cutL c l, f.v = v ∧ f.t.a ≤ x ∧ x < f.t.b) ↔ ∃ f ∈ l, f.v = v ∧ f.t.a ≤ x ∧ x < f.t.b := by
  unfold cutL
  constructor
  · rintro ⟨f, hf, h0, h1, h2⟩
    obtain ⟨g, hg, q⟩ := List.mem_flatMap.1 hf
    unfold cutF at q
    split at q
    · rename_i hc
      simp at q
      rcases q with rfl | rfl
      · exact ⟨g, hg, h0, h1, by simp only [] at h2; omega⟩
      · exact ⟨g, hg, h0, by simp only [] at h1; omega, h2⟩
    · simp at q; subst q; exact ⟨f, hg, h0, h1, h2⟩
  · rintro ⟨g, hg, h0, h1, h2⟩
    by_cases hc : g.t.a < c ∧ c < g.t.b
    · by_cases hx : x < c
      · exact ⟨⟨g.v, ⟨g.t.a, c⟩⟩, List.mem_flatMap.2 ⟨g, hg, by unfold cutF; rw [if_pos hc]; simp⟩, h0, h1, hx⟩
      · exact ⟨⟨g.v, ⟨c, g.t.b⟩⟩, List.mem_flatMap.2 ⟨g, hg, by unfold cutF; rw [if_pos hc]; simp⟩, h0, by show c ≤ x; omega, h2⟩
    · exact ⟨g, List.mem_flatMap.2 ⟨g, hg, by unfold cutF; rw [if_neg hc]; simp⟩, h0, h1, h2⟩
theorem cutL_vals {c : Int} {l : List Fact} {f : Fact} (hg : Good l) (hf : f ∈ cutL c l) : spanB f.t = true ∧ ∃ k ∈ l, k.v = f.v := by
  unfold cutL at hf
  obtain ⟨g, hgm, q⟩ := List.mem_flatMap.1 hf
  have hs := (hg g hgm).2
  unfold cutF at q
  split at q
  · rename_i hc
    unfold spanB at hs ⊢
    simp at hs
    simp at q
    rcases q with rfl | rfl
    · exact ⟨by simp; omega, g, hgm, rfl⟩
    · exact ⟨by simp; omega, g, hgm, rfl⟩
  · simp at q; subst q; exact ⟨hs, f, hgm, rfl⟩
theorem cut_valid {c : Int} {l : List Fact} (h : validB l = true) (hl : l.length ≤ 20) : validB (cutL c l).reverse = true :=
  valid_of h (by rw [List.length_reverse]; have := cutL_len c l; omega) fun f hf => cutL_vals (good_of_valid h) (List.mem_reverse.1 hf)
theorem cut_nf {c : Int} {l : List Fact} (h : validB l = true) (hl : l.length ≤ 20) : nf (cutL c l).reverse = nf l := by
  have hg := good_of_valid h
  have hg' := good_of_valid (cut_valid (c := c) h hl)
  refine nf_congr hg' hg (fun v => ?_) fun v x => ?_
  · constructor
    · rintro ⟨f, hf, rfl⟩
      exact (cutL_vals hg (List.mem_reverse.1 hf)).2
    · rintro ⟨f, hf, rfl⟩
      have hp := spanB_pos (hg f hf).2
      obtain ⟨g, hg1, e, _⟩ := (cutL_mem (c := c) (v := f.v) (x := f.t.a)).2 ⟨f, hf, rfl, by omega, hp⟩
      exact ⟨g, List.mem_reverse.2 hg1, e⟩
  · rw [cover_times, cover_times, ← cutL_mem (c := c) (l := l)]
    simp only [List.mem_reverse]
theorem cut_norm {c : Int} {l : List Fact} (h : validB l = true) (hl : l.length ≤ 20) : normL (cutL c l).reverse = normL l ∧ normE (cutL c l).reverse = 0 := by
  have h1 := norm_valid (cut_valid (c := c) h hl) (by rw [List.length_reverse]; have := cutL_len c l; omega)
  have h2 := norm_valid h (by omega)
  exact ⟨by rw [h1.1, h2.1, cut_nf h hl], h1.2⟩
theorem cut_rel {c : Int} {a b : List Fact} {s : Int} (h : validB a = true) (hl : a.length ≤ 20) : relL (cutL c a).reverse b s = relL a b s ∧ relE (cutL c a).reverse b s = relE a b s := by
  have hn := (cut_norm (c := c) h hl).1
  have hv := cut_valid (c := c) h hl
  have ho : relOk (cutL c a).reverse b s = relOk a b s := by unfold relOk; rw [hv, h]
  unfold relL relE
  rw [ho, hn]; exact ⟨rfl, rfl⟩
theorem pairE_nf {a b : List Fact} (h : validB a = true) : pairE (nf a) b = pairE a b := by
  have hg := good_of_valid h
  have hv := valid_nf h
  have hlen : decide (0 < (nf a).length) = decide (0 < a.length) := by
    rw [Bool.eq_iff_iff, decide_eq_true_eq, decide_eq_true_eq]
    constructor
    · intro q
      obtain ⟨f, hf, _⟩ := headV_mem q
      obtain ⟨k, hk, _⟩ := nf_vals hg hf
      exact List.length_pos_of_mem hk
    · intro q
      obtain ⟨f, hf, _⟩ := headV_mem q
      obtain ⟨g, hg1, _⟩ := (mem_nf hg f.v).2 ⟨f, hf, rfl⟩
      exact List.length_pos_of_mem hg1
  unfold pairE
  rw [hv, h, hlen]
  by_cases q : 0 < a.length
  · have q' : 0 < (nf a).length := by rw [decide_eq_true q] at hlen; exact of_decide_eq_true hlen
    have hk : kindsB (headV (nf a)) (headV b) = kindsB (headV a) (headV b) := by
      obtain ⟨f, hf, e⟩ := headV_mem q'
      obtain ⟨k, hk, e2⟩ := nf_vals hg hf
      have := fact_kinds h hk
      rw [Bool.eq_iff_iff, kinds_map, kinds_map, e, ← e2, this]
    rw [hk]
  · rw [decide_eq_false q]; simp
theorem rexF_nf {a b : List Fact} (h : Good a) : rexF (nf a) b = rexF a b := by
  unfold rexF
  rw [vals_nf h]
  congr 1
  funext v
  rw [times_nf h, canon_self (canT h v).can]
theorem exc_nf {a b : List Fact} (h : validB a = true) : excL (nf a) b = excL a b ∧ excE (nf a) b = excE a b := by
  have hp := pairE_nf (b := b) h
  have hg := good_of_valid h
  unfold excL excE
  rw [hp]
  by_cases q : pairE a b = 0
  · have hb := good_of_valid (pairE_valid q).2
    rw [exF_is (nf_good hg) hb, exF_is hg hb, rexF_nf hg]; exact ⟨rfl, rfl⟩
  · rw [if_neg (fun z => q z.1), if_neg (fun z => q z.1), if_neg q, if_neg q]; exact ⟨rfl, rfl⟩
theorem exc_norm {a b : List Fact} (h : validB a = true) : excL (normL a) b = excL a b ∧ excE (normL a) b = excE a b := by
  rw [(norm_valid h (valid_le h)).1]; exact exc_nf h
theorem nform_v {a : List Fact} (h : normE a = 0) : validB a = true := by
  cases q : validB a with
  | true => rfl
  | false => have := (norm_invalid q).2; omega
theorem nform_1 {a : List Fact} (h : normE a ≠ 0) (hl : a.length ≤ 20) : (!rvalidB a) = true := by
  rw [rvalid_valid]
  cases q : validB a with
  | true => exact absurd (norm_valid q (by omega)).2 h
  | false => rfl
theorem nform_o {a : List Fact} (h : validB a = true) {k : Nat} {x y : Fact} (hx : (normL a)[k - 1]? = some x) (hy : (normL a)[k]? = some y) (hk : 1 ≤ k) : ordV x.v y.v < 0 ∨ (x.v = y.v ∧ x.t.b < y.t.a) := by
  rw [(norm_valid h (valid_le h)).1] at hx hy
  have hg := nf_good (good_of_valid h)
  have hp := nf_ord (good_of_valid h)
  have hx1 := List.getElem?_eq_some_iff.1 hx
  have hy1 := List.getElem?_eq_some_iff.1 hy
  obtain ⟨i1, e1⟩ := hx1
  obtain ⟨i2, e2⟩ := hy1
  have := List.pairwise_iff_getElem.1 hp (k - 1) k i1 i2 (by omega)
  rw [e1, e2] at this
  rw [ordV_valid (hg _ (List.mem_of_getElem? hx)).1 (hg _ (List.mem_of_getElem? hy)).1]
  exact this
theorem ordV_refl {l : List Fact} {x : Fact} (h : Good l) (hx : x ∈ l) : ordV x.v x.v = 0 := by
  rw [ordV_valid (h _ hx).1 (h _ hx).1]; exact ord.refl _
theorem nform_o1 {a : List Fact} (h : validB a = true) {k : Nat} {x y : Fact} (hx : (normL a)[k - 1]? = some x) (hy : (normL a)[k]? = some y) (hk : 1 ≤ k) (hp : 0 < ordV x.v y.v) : False := by
  rcases nform_o h hx hy hk with q | ⟨q, _⟩
  · omega
  · rw [(norm_valid h (valid_le h)).1] at hx
    have := ordV_refl (nf_good (good_of_valid h)) (List.mem_of_getElem? hx)
    rw [← q] at hp; omega
theorem nform_o2 {a : List Fact} (h : validB a = true) {k : Nat} {x y : Fact} (hx : (normL a)[k - 1]? = some x) (hy : (normL a)[k]? = some y) (hk : 1 ≤ k) (hp : ordV x.v y.v = 0) (ht : y.t.a ≤ x.t.b) : False := by
  rcases nform_o h hx hy hk with q | ⟨_, q⟩ <;> omega

/-! Turned around, in place. -/
structure RevI {α : Type} (l L : List α) (i : Nat) (j : Int) : Prop where
  len : L.length = l.length
  jj : j = (l.length : Int) - 1 - i
  le : i ≤ l.length
  ent : ∀ p, p < l.length → L[p]? = if p < i ∨ l.length ≤ p + i then l[l.length - 1 - p]? else l[p]?
theorem RevI.start {α : Type} {l : List α} : RevI l l 0 ((l.length : Int) - 1) := ⟨rfl, by omega, by omega, fun p hp => by rw [if_neg (by omega)]⟩
theorem RevI.step {α : Type} {l L : List α} {i : Nat} {j : Int} (h : RevI l L i j) (hij : (i : Int) < j) {x y : α} (hx : L[i]? = some x) (hy : L[j.toNat]? = some y) : RevI l ((L.set i y).set j.toNat x) (i + 1) (j - 1) := by
  obtain ⟨h1, h2, h4, h3⟩ := h
  refine ⟨by simp [h1], by omega, by omega, fun p hp => ?_⟩
  have ei := h3 i (by omega)
  have ej := h3 j.toNat (by omega)
  rw [if_neg (by omega)] at ei ej
  rw [List.getElem?_set, List.getElem?_set]
  have hL : i < L.length := by omega
  have hL2 : j.toNat < (L.set i y).length := by rw [List.length_set]; omega
  by_cases q1 : j.toNat = p
  · rw [if_pos q1, if_pos hL2, if_pos (by omega), show l.length - 1 - p = i from by omega, ← ei, hx]
  · rw [if_neg q1]
    by_cases q2 : i = p
    · rw [if_pos q2, if_pos hL, if_pos (by omega), show l.length - 1 - p = j.toNat from by omega, ← ej, hy]
    · rw [if_neg q2, h3 p hp]
      by_cases q3 : p < i ∨ l.length ≤ p + i
      · rw [if_pos q3, if_pos (by omega)]
      · rw [if_neg q3, if_neg (by omega)]
theorem RevI.done {α : Type} {l L : List α} {i : Nat} {j : Int} (h : RevI l L i j) (hij : j ≤ (i : Int)) : L = l.reverse := by
  obtain ⟨h1, h2, h4, h3⟩ := h
  refine List.ext_getElem? fun p => ?_
  by_cases hp : p < l.length
  · rw [h3 p hp, List.getElem?_reverse hp]
    by_cases q : p < i ∨ l.length ≤ p + i
    · rw [if_pos q]
    · rw [if_neg q, show l.length - 1 - p = p from by omega]
  · rw [List.getElem?_eq_none (by omega), List.getElem?_eq_none (by rw [List.length_reverse]; omega)]
end Go.Civ
