/- The reference's order of values, and its normal form. -/
import Derived.Test.YtapjalhjfblonaaGreatMCiv23
import Derived.Test.YtapjalhjfblonaaGreatMCiv19
namespace Go.Civ
set_option linter.unusedVariables false

theorem cmpS_cons (x y : UInt8) (a b : List UInt8) : cmpS (x :: a) (y :: b) = if x = y then cmpS a b else sgn (x.toNat : Int) (y.toNat : Int) := by
  unfold cmpS
  by_cases e : x = y
  · subst e
    rw [if_pos rfl]
    simp [Op.bytesLess]
  · rw [if_neg e]
    have hn : x.toNat ≠ y.toNat := fun q => e (UInt8.toNat_inj.1 q)
    simp only [Op.bytesLess, List.cons.injEq, e, false_and, if_false]
    have hbe : (x == y) = false := by simpa using e
    rw [hbe]
    simp only [Bool.false_and, Bool.or_false, decide_eq_true_eq]
    unfold sgn
    by_cases k : x < y
    · rw [if_pos k, if_pos (by rw [UInt8.lt_iff_toNat_lt] at k; omega)]
    · rw [if_neg k, if_neg (by rw [UInt8.lt_iff_toNat_lt] at k; omega), if_pos (by rw [UInt8.lt_iff_toNat_lt] at k; omega)]
theorem cmpS_at : ∀ {a b : List UInt8} {k : Nat} {x y : UInt8}, (∀ j, j < k → ∀ c d, a[j]? = some c → b[j]? = some d → c = d) → a[k]? = some x → b[k]? = some y → (x.toNat : Int) ≠ (y.toNat : Int) → cmpS a b = sgn (x.toNat : Int) (y.toNat : Int)
  | c :: a, d :: b, 0, x, y, _, h1, h2, h => by
    simp at h1 h2; subst h1 h2
    rw [cmpS_cons, if_neg fun e => h (by rw [e])]
  | c :: a, d :: b, k + 1, x, y, h0, h1, h2, h => by
    have e := h0 0 (by omega) c d rfl rfl
    rw [cmpS_cons, if_pos e]
    exact cmpS_at (k := k) (fun j hj c d hc hd => h0 (j + 1) (by omega) c d (by simpa using hc) (by simpa using hd)) (by simpa using h1) (by simpa using h2) h
  | [], _, _, _, _, _, h1, _, _ => by simp at h1
  | _ :: _, [], _, _, _, _, _, h2, _ => by simp at h2
theorem cmpS_end : ∀ {a b : List UInt8} {k : Nat}, (∀ j, j < k → ∀ c d, a[j]? = some c → b[j]? = some d → c = d) → (a.length ≤ k ∨ b.length ≤ k) → cmpS a b = sgn (a.length : Int) (b.length : Int)
  | [], [], _, _, _ => by simp [cmpS, Op.bytesLess, sgn]
  | [], _ :: _, _, _, _ => by unfold sgn; rw [if_pos (by simp only [List.length_nil, List.length_cons]; omega)]; simp [cmpS, Op.bytesLess]
  | _ :: _, [], _, _, _ => by unfold sgn; rw [if_neg (by simp only [List.length_nil, List.length_cons]; omega), if_pos (by simp only [List.length_nil, List.length_cons]; omega)]; simp [cmpS, Op.bytesLess]
  | c :: a, d :: b, k, h0, h => by
    have hk : 0 < k := by simp at h; omega
    have e := h0 0 hk c d rfl rfl
    rw [cmpS_cons, if_pos e, cmpS_end (k := k - 1) (fun j hj c d hc hd => h0 (j + 1) (by omega) c d (by simpa using hc) (by simpa using hd)) (by simp at h; omega)]
    unfold sgn; simp only [List.length_cons]
    split <;> split <;> (try split) <;> (try split) <;> omega
theorem sgn_ne {a b : Int} (h : a ≠ b) : sgn a b ≠ 0 := fun e => h ((sgn_ord.eq a b).1 e)
theorem cmpV_k {x y : Val} (h : x.k ≠ y.k) : cmpV x y = sgn x.k y.k := by unfold cmpV; rw [if_pos (sgn_ne h)]
theorem cmpV_n {x y : Val} (h : x.k = y.k) (h2 : x.n ≠ y.n) : cmpV x y = sgn x.n y.n := by
  unfold cmpV; rw [if_neg (by rw [h, sgn_ord.refl]; simp), if_pos (sgn_ne h2)]
theorem cmpV_s {x y : Val} (h : x.k = y.k) (h2 : x.n = y.n) : cmpV x y = cmpS x.s y.s := by
  unfold cmpV; rw [if_neg (by rw [h, sgn_ord.refl]; simp), if_neg (by rw [h2, sgn_ord.refl]; simp)]
theorem cmpL_end' {α β : Type} {f : α → β → Int} {a : List α} {b : List β} {k : Nat} (h : ∀ j, j < k → ∀ x y, a[j]? = some x → b[j]? = some y → f x y = 0) (hk : a.length ≤ k ∨ b.length ≤ k) : cmpL f a b = sgn (a.length : Int) (b.length : Int) :=
  cmpL_end fun j x y hx hy => h j (by have := (List.getElem?_eq_some_iff.1 hx).1; have := (List.getElem?_eq_some_iff.1 hy).1; omega) x y hx hy

/-! ### The different lists of values, in order -/
abbrev VV := List (List Val)
def posV : VV → List Val → Nat
  | [], _ => 0
  | u :: r, v => if cmpL cmpV u v < 0 then posV r v + 1 else 0
theorem posV_at : ∀ {out : VV} {v : List Val} {k : Nat}, k ≤ out.length → (∀ j, j < k → ∀ u, out[j]? = some u → cmpL cmpV u v < 0) → (∀ u, out[k]? = some u → ¬ cmpL cmpV u v < 0) → posV out v = k
  | [], v, k, hk, _, _ => by simp at hk; simp [posV, hk]
  | u :: r, v, 0, _, _, h => by simp only [posV]; rw [if_neg (h u rfl)]
  | u :: r, v, k + 1, hk, h0, h => by
    simp only [posV]; rw [if_pos (h0 0 (by omega) u rfl), posV_at (k := k) (by simpa using hk) (fun j hj u hu => h0 (j + 1) (by omega) u (by simpa using hu)) (fun u hu => h u (by simpa using hu))]
theorem posV_is : ∀ (out : VV) (v : List Val), posV out v ≤ out.length ∧ (∀ j, j < posV out v → ∀ u, out[j]? = some u → cmpL cmpV u v < 0) ∧ (∀ u, out[posV out v]? = some u → ¬ cmpL cmpV u v < 0)
  | [], v => ⟨by simp [posV], fun j hj => by simp [posV] at hj, fun u hu => by simp at hu⟩
  | u :: r, v => by
    obtain ⟨h1, h2, h3⟩ := posV_is r v
    simp only [posV]
    split
    · rename_i hu
      refine ⟨by simpa using h1, fun j hj w hw => ?_, fun w hw => h3 w (by simpa using hw)⟩
      cases j with
      | zero => simp at hw; subst hw; exact hu
      | succ j => exact h2 j (by omega) w (by simpa using hw)
    · rename_i hu
      exact ⟨by omega, fun j hj => absurd hj (by omega), fun w hw => by simp at hw; subst hw; exact hu⟩
def insV (out : VV) (v : List Val) : VV := if out[posV out v]? = some v then out else out.take (posV out v) ++ [v] ++ out.drop (posV out v)
def vals (l : List Fact) : VV := l.foldl (fun out f => insV out f.v) []
theorem insV_len (out : VV) (v : List Val) : (insV out v).length ≤ out.length + 1 := by
  unfold insV; split
  · omega
  · have := (posV_is out v).1; simp; omega
theorem insV_mem {out : VV} {v u : List Val} : u ∈ insV out v ↔ u ∈ out ∨ u = v := by
  unfold insV
  split
  · rename_i h
    constructor
    · exact .inl
    · rintro (h1 | rfl)
      · exact h1
      · exact List.mem_of_getElem? h
  · rw [List.mem_append, List.mem_append, List.mem_singleton]
    constructor
    · rintro ((h | h) | h)
      · exact .inl (List.mem_of_mem_take h)
      · exact .inr h
      · exact .inl (List.mem_of_mem_drop h)
    · rintro (h | h)
      · rw [← List.take_append_drop (posV out v) out] at h
        rcases List.mem_append.1 h with k | k
        · exact .inl (.inl k)
        · exact .inr k
      · exact .inl (.inr h)
def IncV (l : VV) : Prop := l.Pairwise fun x y => cmpL cmpV x y < 0
theorem insV_inc {out : VV} {v : List Val} (h : IncV out) : IncV (insV out v) := by
  unfold insV
  split
  · exact h
  · rename_i hne
    obtain ⟨hp1, hp2, hp3⟩ := posV_is out v
    generalize posV out v = i at *
    have low : ∀ u ∈ out.take i, cmpL cmpV u v < 0 := fun u hu => by
      obtain ⟨j, hj, rfl⟩ := List.getElem_of_mem hu
      simp only [List.length_take] at hj
      rw [List.getElem_take]
      exact hp2 j (by omega) _ (List.getElem?_eq_getElem (by omega))
    have up : ∀ u ∈ out.drop i, cmpL cmpV v u < 0 := fun u hu => by
      obtain ⟨j, hj, rfl⟩ := List.getElem_of_mem hu
      simp only [List.length_drop] at hj
      rw [List.getElem_drop]
      have h0 := hp3 out[i] (List.getElem?_eq_getElem (by omega))
      have hn : out[i] ≠ v := fun e => hne (by rw [List.getElem?_eq_getElem (by omega), e])
      have h1 : cmpL cmpV v out[i] < 0 := by
        rcases Int.lt_or_le (cmpL cmpV v out[i]) 0 with k | k
        · exact k
        · exfalso
          by_cases e : cmpL cmpV v out[i] = 0
          · exact hn ((ord.eq _ _).1 e).symm
          · exact h0 ((ord.swap _ _).2 (by omega))
      by_cases e : j = 0
      · subst e; simpa using h1
      · exact ord.trans _ _ _ h1 (List.pairwise_iff_getElem.1 h i (i + j) (by omega) (by omega) (by omega))
    unfold IncV
    rw [List.pairwise_append, List.pairwise_append]
    refine ⟨⟨List.Pairwise.sublist (List.take_sublist _ _) h, by simp, fun y hy z hz => ?_⟩, List.Pairwise.sublist (List.drop_sublist _ _) h, fun y hy z hz => ?_⟩
    · rw [List.mem_singleton.1 hz]; exact low y hy
    · rcases List.mem_append.1 hy with hy | hy
      · exact ord.trans _ _ _ (low y hy) (up z hz)
      · rw [List.mem_singleton.1 hy]; exact up z hz
theorem vals_snoc (l : List Fact) (f : Fact) : vals (l ++ [f]) = insV (vals l) f.v := by simp [vals, List.foldl_append]
theorem vals_take {l : List Fact} {k : Nat} {f : Fact} (h : l[k]? = some f) : vals (l.take (k + 1)) = insV (vals (l.take k)) f.v := by
  rw [List.take_add_one, h]; exact vals_snoc _ _
theorem vals_all {l : List Fact} {k : Nat} (h : l.length ≤ k) : vals (l.take k) = vals l := by rw [List.take_of_length_le h]
theorem vals_inv : ∀ (n : Nat) (l : List Fact), l.length = n → IncV (vals l) ∧ (∀ v, v ∈ vals l ↔ ∃ f ∈ l, f.v = v) ∧ (vals l).length ≤ l.length
  | 0, l, hn => by
    obtain rfl := List.length_eq_zero_iff.1 hn
    simp [vals, IncV]
  | n + 1, l, hn => by
    obtain ⟨p, x, rfl⟩ : ∃ p x, l = p ++ [x] := by
      rcases List.eq_nil_or_concat l with rfl | ⟨p, x, h⟩
      · simp at hn
      · exact ⟨p, x, by simpa using h⟩
    obtain ⟨h1, h2, h3⟩ := vals_inv n p (by simpa using hn)
    rw [vals_snoc]
    refine ⟨insV_inc h1, fun v => ?_, ?_⟩
    · rw [insV_mem, h2]
      constructor
      · rintro (⟨f, hf, e⟩ | e)
        · exact ⟨f, by simp [hf], e⟩
        · exact ⟨x, by simp, e.symm⟩
      · rintro ⟨f, hf, e⟩
        rcases List.mem_append.1 hf with hf | hf
        · exact .inl ⟨f, hf, e⟩
        · rw [List.mem_singleton.1 hf] at e; exact .inr e.symm
    · have := insV_len (vals p) x.v; simp; omega
theorem vals_len (l : List Fact) : (vals l).length ≤ l.length := (vals_inv _ l rfl).2.2
theorem vals_takeLen (l : List Fact) (k : Nat) : (vals (l.take k)).length ≤ l.length := Nat.le_trans (vals_len _) (List.length_take_le' _ _)
theorem vals_found {out : VV} {v : List Val} {k : Nat} (hk : k ≤ out.length) (h0 : ∀ j, j < k → ∀ u, out[j]? = some u → cmpL cmpV u v < 0) {u : List Val} (h1 : out[k]? = some u) (h2 : ¬ cmpL cmpV u v < 0) (h3 : u = v) : insV out v = out := by
  subst h3
  unfold insV
  rw [posV_at hk h0 (fun w hw => by rw [h1] at hw; obtain rfl := Option.some.inj hw; exact h2), if_pos h1]
theorem vals_put {out : VV} {v : List Val} {k : Nat} (hk : k ≤ out.length) (h0 : ∀ j, j < k → ∀ u, out[j]? = some u → cmpL cmpV u v < 0) (h2 : ∀ u, out[k]? = some u → ¬ cmpL cmpV u v < 0) (h3 : out[k]? ≠ some v) : insV out v = out.take k ++ [v] ++ out.drop k := by
  unfold insV
  rw [posV_at hk h0 h2, if_neg h3]
theorem vals_put1 {out : VV} {v : List Val} {k : Nat} (hk : k ≤ out.length) (hk' : out.length ≤ k) (h0 : ∀ j, j < k → ∀ u, out[j]? = some u → cmpL cmpV u v < 0) : insV out v = out.take k ++ [v] ++ out.drop k :=
  vals_put hk h0 (fun u hu => by rw [List.getElem?_eq_none hk'] at hu; cases hu) (by rw [List.getElem?_eq_none hk']; simp)
theorem vals_put2 {out : VV} {u v : List Val} {k : Nat} (h0 : ∀ j, j < k → ∀ u, out[j]? = some u → cmpL cmpV u v < 0) (h1 : out[k]? = some u) (h2 : 0 ≤ cmpL cmpV u v) (h3 : decide (u = v) = false) : insV out v = out.take k ++ [v] ++ out.drop k :=
  vals_put (Nat.le_of_lt (List.getElem?_eq_some_iff.1 h1).1) h0 (fun w hw => by rw [h1] at hw; obtain rfl := Option.some.inj hw; omega) (by rw [h1]; intro e; exact of_decide_eq_false h3 (Option.some.inj e))
theorem vals_found' {out : VV} {u v : List Val} {k : Nat} (h0 : ∀ j, j < k → ∀ u, out[j]? = some u → cmpL cmpV u v < 0) (h1 : out[k]? = some u) (h2 : 0 ≤ cmpL cmpV u v) (h3 : decide (u = v) = true) : insV out v = out :=
  vals_found (Nat.le_of_lt (List.getElem?_eq_some_iff.1 h1).1) h0 h1 (by omega) (of_decide_eq_true h3)
/-- Room is made at place k: what stands behind has gone on by one. -/
structure Shift (out M : VV) (j : Nat) : Prop where
  len : M.length = out.length + 1
  low : ∀ i, i < j → M[i]? = out[i]?
  high : ∀ i, j < i → i ≤ out.length → M[i]? = out[i - 1]?
theorem Shift.start {out : VV} {u : List Val} : Shift out (out ++ [u]) out.length :=
  ⟨by simp, fun i hi => List.getElem?_append_left hi, fun i h1 h2 => by omega⟩
theorem Shift.step {out M : VV} {j : Nat} {x : List Val} (h : Shift out M j) (hj : 0 < j) (hx : M[j - 1]? = some x) : Shift out (M.set j x) (j - 1) := by
  have hjl : j - 1 < M.length := (List.getElem?_eq_some_iff.1 hx).1
  refine ⟨by rw [List.length_set]; exact h.len, fun i hi => ?_, fun i h1 h2 => ?_⟩
  · rw [List.getElem?_set, if_neg (by omega)]; exact h.low i (by omega)
  · rw [List.getElem?_set]
    by_cases e : j = i
    · subst e
      rw [if_pos rfl]
      split
      · rw [← hx]; exact h.low _ (by omega)
      · have := h.len; omega
    · rw [if_neg e]; exact h.high i (by omega) h2
theorem Shift.done {out M : VV} {k : Nat} {v : List Val} (h : Shift out M k) (hk : k ≤ out.length) : M.set k v = out.take k ++ [v] ++ out.drop k := by
  apply List.ext_getElem?
  intro i
  have hl := h.len
  rw [List.getElem?_set, List.append_assoc, List.getElem?_append, List.length_take, Nat.min_eq_left hk]
  by_cases e : k = i
  · subst e
    rw [if_pos rfl, if_pos (by omega), if_neg (by omega)]; simp
  · rw [if_neg e]
    by_cases q : i < k
    · rw [if_pos q, List.getElem?_take, if_pos q]; exact h.low i q
    · rw [if_neg q, List.getElem?_append, if_neg (by simp; omega), List.getElem?_drop]
      rcases Nat.lt_or_ge out.length i with r | r
      · rw [List.getElem?_eq_none (by omega), List.getElem?_eq_none (by simp; omega)]
      · rw [h.high i (by omega) r]; congr 1; simp; omega

/-! ### The reference's normal form -/
def timesOf (l : List Fact) (v : List Val) : List Span := (l.filter fun f => decide (f.v = v)).map Fact.t
theorem timesOf_take {l : List Fact} {k : Nat} {f : Fact} {v : List Val} (h : l[k]? = some f) : timesOf (l.take (k + 1)) v = timesOf (l.take k) v ++ if f.v = v then [f.t] else [] := by
  unfold timesOf
  rw [List.take_add_one, h, Option.toList_some, List.filter_append, List.map_append]
  by_cases e : f.v = v <;> simp [e]
theorem timesOf_yes {l : List Fact} {k : Nat} {f : Fact} {v : List Val} (h : l[k]? = some f) (e : decide (f.v = v) = true) : timesOf (l.take (k + 1)) v = timesOf (l.take k) v ++ [f.t] := by
  rw [timesOf_take h, if_pos (by simpa using e)]
theorem timesOf_no {l : List Fact} {k : Nat} {f : Fact} {v : List Val} (h : l[k]? = some f) (e : decide (f.v = v) = false) : timesOf (l.take (k + 1)) v = timesOf (l.take k) v := by
  rw [timesOf_take h, if_neg (by simpa using e), List.append_nil]
theorem timesOf_all {l : List Fact} {k : Nat} {v : List Val} (h : l.length ≤ k) : timesOf (l.take k) v = timesOf l v := by rw [List.take_of_length_le h]
theorem timesOf_len (l : List Fact) (v : List Val) : (timesOf l v).length ≤ l.length := by unfold timesOf; rw [List.length_map]; exact List.length_filter_le _ _
theorem timesOf_takeLen (l : List Fact) (k : Nat) (v : List Val) : (timesOf (l.take k) v).length ≤ l.length := Nat.le_trans (timesOf_len _ _) (List.length_take_le' _ _)
theorem timesOf_good {l : List Fact} (h : Good l) (v : List Val) : ∀ s ∈ timesOf l v, spanB s = true := fun s hs => by
  obtain ⟨f, hf, rfl⟩ := List.mem_map.1 hs
  exact (h f (List.mem_filter.1 hf).1).2
theorem spanB_V {s : Span} (h : spanB s = true) : spanV s = true := by
  have hp := spanB_pos h
  unfold spanB at h
  simp only [Bool.and_eq_true, decide_eq_true_eq] at h
  rw [spanV_B s h.1.1 h.2]; exact decide_eq_true hp
def rnf (l : List Fact) : List Fact := (vals l).flatMap fun v => (canon (timesOf l v)).map (Fact.mk v)
def rnfN (l : List Fact) (vs : VV) : List Fact := vs.flatMap fun v => (canon (timesOf l v)).map (Fact.mk v)
theorem rnfN_take {l : List Fact} {vs : VV} {k : Nat} {v : List Val} (h : vs[k]? = some v) : rnfN l (vs.take (k + 1)) = rnfN l (vs.take k) ++ (canon (timesOf l v)).map (Fact.mk v) := by
  unfold rnfN; rw [List.take_add_one, h]; simp
theorem mapF_take {v : List Val} {t : List Span} {k : Nat} {s : Span} (h : t[k]? = some s) : (t.take (k + 1)).map (Fact.mk v) = (t.take k).map (Fact.mk v) ++ [⟨v, s⟩] := by
  rw [List.take_add_one, h]; simp
theorem rnfN_all {l : List Fact} {k : Nat} (h : (vals l).length ≤ k) : rnfN l ((vals l).take k) = rnf l := by rw [List.take_of_length_le h]; rfl
theorem rnfN_append (l : List Fact) (a b : VV) : rnfN l (a ++ b) = rnfN l a ++ rnfN l b := by simp [rnfN]
theorem rnf_part {l : List Fact} {k j : Nat} {v : List Val} (h : (vals l)[k]? = some v) : (rnfN l ((vals l).take k) ++ ((canon (timesOf l v)).take j).map (Fact.mk v)).length + ((canon (timesOf l v)).length - j) ≤ (rnf l).length := by
  have h1 := rnfN_take (l := l) h
  have h2 : rnf l = rnfN l ((vals l).take (k + 1)) ++ rnfN l ((vals l).drop (k + 1)) := by rw [← rnfN_append, List.take_append_drop]; rfl
  rw [h2, h1]; simp; omega
theorem vals_groups {l : List Fact} (h : Good l) : vals l = (groupL (sortF l)).map Group.v := by
  refine strict_unique ord (vals_inv _ l rfl).1 (List.pairwise_map.2 (grp_inv h).inc) fun v => ?_
  rw [(vals_inv _ l rfl).2.1, List.mem_map, (grp_inv h).mem]
  simp only [(sortF_perm l).mem_iff]
theorem group_times {l : List Fact} (h : Good l) {g : Group} (hg : g ∈ groupL (sortF l)) : canon (timesOf l g.v) = canon g.t := by
  refine canon_perm ?_ fun s hs => spanB_pos (timesOf_good h _ s hs)
  rw [(grp_inv h).times g hg]
  exact (((sortF_perm l).symm).filter _).map _
theorem rnf_nf {l : List Fact} (h : Good l) : rnf l = nf l := by
  unfold rnf nf grp listedL cgroups
  rw [vals_groups h, List.flatMap_map, List.flatMap_map]
  rw [List.flatMap_def, List.flatMap_def]
  congr 1
  refine List.map_congr_left fun g hg => ?_
  show (canon (timesOf l g.v)).map (Fact.mk g.v) = (canon g.t).map fun s => (⟨g.v, s⟩ : Fact)
  rw [group_times h hg]
theorem fit_valid {l : List Fact} (h : validB l = true) (hl : l.length ≤ 1000) : fitB (nf l) = true := by
  have hn := nf_len l
  unfold fitB
  rw [decide_eq_true (by omega : (nf l).length ≤ 1000), Bool.true_and, Bool.or_eq_true]
  cases e : nf l with
  | nil => left; simp
  | cons f r =>
    right
    obtain ⟨k, hk, ek⟩ := nf_vals (good_of_valid h) (f := f) (by rw [e]; simp)
    have := valid_len h hk
    refine decide_eq_true ?_
    show f.v.length ≤ 8
    rw [← ek, this.1]; exact this.2
theorem norm_valid {l : List Fact} (h : validB l = true) (hl : l.length ≤ 1000) : normL l = nf l ∧ normE l = 0 := by
  unfold normL normE finL finE
  rw [if_pos h, if_pos h, if_pos (fit_valid h hl), if_pos (fit_valid h hl)]; exact ⟨rfl, rfl⟩
theorem norm_invalid {l : List Fact} (h : validB l = false) : normL l = [] ∧ normE l = 1 := by
  unfold normL normE; rw [h]; exact ⟨rfl, rfl⟩
/-- A normal form is in order. -/
theorem nf_ord {l : List Fact} (h : Good l) : (nf l).Pairwise fun f g => cmpL cmpV f.v g.v < 0 ∨ (f.v = g.v ∧ f.t.b < g.t.a) := by
  unfold nf grp listedL cgroups
  rw [List.flatMap_map, List.pairwise_flatMap]
  refine ⟨fun g hg => ?_, ?_⟩
  · rw [List.pairwise_map]
    exact (grp_can h hg).can.apart.imp fun {p q} k => .inr ⟨rfl, k⟩
  · refine (grp_inv h).inc.imp fun {g k} hlt x hx y hy => ?_
    obtain ⟨s, _, rfl⟩ := List.mem_map.1 hx
    obtain ⟨t, _, rfl⟩ := List.mem_map.1 hy
    exact .inl hlt
theorem nf_cover {l : List Fact} (h : Good l) {v : List Val} {t : Int} : (∃ f ∈ nf l, f.v = v ∧ f.t.a ≤ t ∧ t < f.t.b) ↔ ∃ f ∈ l, f.v = v ∧ f.t.a ≤ t ∧ t < f.t.b := by
  constructor
  · rintro ⟨f, hf, rfl, h1, h2⟩
    obtain ⟨g, hg, e, ht⟩ := nf_mem.1 hf
    obtain ⟨s, hs, a1, a2⟩ := ((grp_can h hg).cov t).1 ⟨f.t, ht, h1, h2⟩
    rw [(grp_inv h).times g hg] at hs
    obtain ⟨k, hk, rfl⟩ := List.mem_map.1 hs
    have hk := List.mem_filter.1 hk
    exact ⟨k, (sortF_perm l).mem_iff.1 hk.1, by rw [e]; simpa using hk.2, a1, a2⟩
  · rintro ⟨f, hf, rfl, h1, h2⟩
    obtain ⟨g, hg, e⟩ := ((grp_inv h).mem f.v).2 ⟨f, (sortF_perm l).mem_iff.2 hf, rfl⟩
    obtain ⟨s, hs, a1, a2⟩ := ((grp_can h hg).cov t).2 ⟨f.t, by rw [(grp_inv h).times g hg]; exact List.mem_map.2 ⟨f, List.mem_filter.2 ⟨(sortF_perm l).mem_iff.2 hf, by simp [e]⟩, rfl⟩, h1, h2⟩
    exact ⟨⟨g.v, s⟩, nf_mem.2 ⟨g, hg, rfl, hs⟩, e, a1, a2⟩
def nowB (t : Int) (f : Fact) : Bool := decide (f.t.a ≤ t) && decide (t < f.t.b)
def rAt (l : List Fact) (t : Int) : VV := vals (l.filter (nowB t))
theorem now_yes {l : List Fact} {t : Int} {k : Nat} {f : Fact} (h : l[k]? = some f) (e1 : f.t.a ≤ t) (e2 : t < f.t.b) : (l.take (k + 1)).filter (nowB t) = (l.take k).filter (nowB t) ++ [f] := by
  rw [List.take_add_one, h, Option.toList_some, List.filter_append]; simp [nowB, e1, e2]
theorem now_no {l : List Fact} {t : Int} {k : Nat} {f : Fact} (h : l[k]? = some f) (e : t < f.t.a ∨ f.t.b ≤ t) : (l.take (k + 1)).filter (nowB t) = (l.take k).filter (nowB t) := by
  rw [List.take_add_one, h, Option.toList_some, List.filter_append]
  have : nowB t f = false := by unfold nowB; simp; omega
  simp [this]
theorem now_takeLen (l : List Fact) (k : Nat) (t : Int) : ((l.take k).filter (nowB t)).length ≤ l.length := Nat.le_trans (List.length_filter_le _ _) (List.length_take_le' _ _)
theorem now_all {l : List Fact} {k : Nat} {t : Int} (h : l.length ≤ k) : (l.take k).filter (nowB t) = l.filter (nowB t) := by rw [List.take_of_length_le h]
theorem atL_inc {l : List Fact} {t : Int} (h : validB l = true) (hl : l.length ≤ 1000) : IncV (atL l t) := by
  unfold atL atN IncV
  rw [(norm_valid h hl).1, List.pairwise_map]
  refine List.Pairwise.imp_of_mem (fun {f g} hf hg k => ?_) ((nf_ord (good_of_valid h)).filter _)
  rcases k with k | ⟨_, k⟩
  · exact k
  · have h1 := (List.mem_filter.1 hf)
    have h2 := (List.mem_filter.1 hg)
    have e1 := h1.2
    have e2 := h2.2
    rw [spanHas_B (nf_good (good_of_valid h) f h1.1).2] at e1
    rw [spanHas_B (nf_good (good_of_valid h) g h2.1).2] at e2
    simp at e1 e2
    omega
theorem rAt_atL {l : List Fact} {t : Int} (h : validB l = true) (hl : l.length ≤ 1000) : rAt l t = atL l t := by
  refine strict_unique ord (vals_inv _ _ rfl).1 (atL_inc h hl) fun v => ?_
  rw [atL_mem, (norm_valid h hl).1, nf_cover (good_of_valid h)]
  unfold rAt
  rw [(vals_inv _ _ rfl).2.1]
  simp only [List.mem_filter, nowB, Bool.and_eq_true, decide_eq_true_eq]
  constructor
  · rintro ⟨f, ⟨hf, h1, h2⟩, e⟩; exact ⟨f, hf, e, h1, h2⟩
  · rintro ⟨f, hf, e, h1, h2⟩; exact ⟨f, ⟨hf, h1, h2⟩, e⟩
def rEnds (l : List Fact) : List Int := endsR ((rnf l).map Fact.t)
theorem rEnds_endsL {l : List Fact} (h : validB l = true) (hl : l.length ≤ 1000) : rEnds l = endsL l := by
  refine inc_unique (endsR_inc _) (endsL_inc l) fun x => ?_
  unfold rEnds
  rw [endsR_mem, endsL_mem, (norm_valid h hl).1, rnf_nf (good_of_valid h)]
  simp only [List.mem_map]
  constructor
  · rintro ⟨_, ⟨f, hf, rfl⟩, e⟩; exact ⟨f, hf, e⟩
  · rintro ⟨f, hf, e⟩; exact ⟨_, ⟨f, hf, rfl⟩, e⟩
theorem eqF_symm {α : Type} {f g : α → α → Bool} (h : ∀ x y, f x y = g y x) : ∀ (a b : List α), eqF f a b = eqF g b a
  | [], [] => rfl
  | x :: a, y :: b => by simp only [eqF]; rw [h x y, eqF_symm h a b]
  | [], _ :: _ => rfl
  | _ :: _, [] => rfl
theorem rfact_fact (v : List Val) (f : Fact) : rfactB v f = factB v f := by
  unfold rfactB factB
  rw [show kindsB v f.v = kindsB f.v v from eqF_symm (fun x y => by rw [Bool.eq_iff_iff]; simp [eq_comm]) _ _]
  cases decide (f.v.length ≤ 8) <;> cases f.v.all valB <;> cases spanB f.t <;> cases kindsB f.v v <;> rfl
theorem rvalid_valid (l : List Fact) : rvalidB l = validB l := by
  unfold rvalidB validB
  congr 2
  funext f; exact rfact_fact _ f
def equalB (a b : List Fact) : Bool := decide (normE a = 0) && decide (normE b = 0) && decide (normL a = normL b)
theorem rnf_len {l : List Fact} (h : Good l) : (rnf l).length ≤ l.length := by rw [rnf_nf h]; exact nf_len l
theorem u8_eq {c d : UInt8} (h : (c.toNat : Int) = (d.toNat : Int)) : c = d := UInt8.toNat_inj.1 (by omega)
theorem fact_dec1 {p q : Fact} (h : p.t = q.t) : decide (p.v = q.v) = decide (p = q) := by
  cases p; cases q; simp at h; subst h; simp
theorem fact_dec2 {p q : Fact} (h : p.t ≠ q.t) : false = decide (p = q) := (decide_eq_false fun e => h (by rw [e])).symm
theorem equal_1 {a b : List Fact} (h : normE a ≠ 0) : equalB a b = false := by unfold equalB; rw [decide_eq_false h]; rfl
theorem equal_2 {a b : List Fact} (h : normE b ≠ 0) : equalB a b = false := by unfold equalB; rw [decide_eq_false h]; simp
theorem equal_3 {a b : List Fact} (h : normE a = 0) (k : normE b = 0) : equalB a b = eqF (fun x y => decide (x = y)) (normL a) (normL b) := by
  unfold equalB; rw [decide_eq_true h, decide_eq_true k, eqF_eq]; rfl
theorem eq_c1 {a b : List Fact} {r : Bool} (ha : validB a = true) (hb : rvalidB b = true) (la : a.length ≤ 1000) (lb : b.length ≤ 1000) (h : decide (rnf a = rnf b) = r) (k : (equalB a b == r) = false) : False := by
  rw [rvalid_valid] at hb
  have e : equalB a b = r := by
    unfold equalB
    rw [(norm_valid ha la).1, (norm_valid hb lb).1, (norm_valid ha la).2, (norm_valid hb lb).2, ← rnf_nf (good_of_valid ha), ← rnf_nf (good_of_valid hb), h]; rfl
  rw [e] at k; simp at k
theorem eq_c2 {a b : List Fact} (hb : rvalidB b = false) (k : (equalB a b == false) = false) : False := by
  rw [rvalid_valid] at hb
  rw [equal_2 (by rw [(norm_invalid hb).2]; decide)] at k; simp at k
theorem great_le2 {a b : List Fact} (h : [a, b].any greatB = false) : a.length ≤ 20 ∧ b.length ≤ 20 := by
  simp [greatB] at h; omega
theorem invalid_all {a b : List Fact} {t : Int} (h : rvalidB a = false) : normE a = 1 ∧ (normL a).length = 0 ∧ equalB a b = false ∧ (atL a t).length = 0 ∧ (endsL a).length = 0 := by
  rw [rvalid_valid] at h
  obtain ⟨h1, h2⟩ := norm_invalid h
  refine ⟨h2, by rw [h1]; rfl, equal_1 (by rw [h2]; decide), ?_, ?_⟩
  · unfold atL atN; rw [h1]; rfl
  · unfold endsL flatE sortZ; rw [h1]; simp [Go.Lib.compact, Go.Lib.compactUpTo]
end Go.Civ
