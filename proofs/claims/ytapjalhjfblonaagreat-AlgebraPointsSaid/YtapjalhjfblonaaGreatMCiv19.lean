/- Joins: what they compute. -/
import Derived.Test.YtapjalhjfblonaaGreatMCiv18
namespace Go.Civ
set_option linter.unusedVariables false

def cmpC (x y : Val) : Int := if valB x && valB y then cmpV x y else 0
theorem I64_cmpC (x y : Val) : I64 (cmpC x y) := by unfold cmpC; split; exact I64_cmpV _ _; exact I64_0
def meetB (a b : Span) : Bool := spanV a && spanV b && decide (max a.a b.a < min a.b b.b)
def meetS (a b : Span) : Span := if meetB a b then ⟨max a.a b.a, min a.b b.b⟩ else ⟨0, 0⟩
def joinNe (u v : List Val) (p : Int × Int) : Bool := match u[p.1.toNat]?, v[p.2.toNat]? with
  | some x, some y => decide (cmpC x y ≠ 0)
  | _, _ => false
def onB (on : List (Int × Int)) (j : Nat) : Bool := on.any fun p => decide (p.2 = (j : Int))
def restV (on : List (Int × Int)) (v : List Val) : List Val := (v.zipIdx.filter fun q => !onB on q.2).map Prod.fst
def joinG (on : List (Int × Int)) (f : Fact) (y : List Fact) : List Fact :=
  y.flatMap fun g => if meetB f.t g.t && !on.any (joinNe f.v g.v) then [⟨f.v ++ restV on g.v, meetS f.t g.t⟩] else []
def joinF (on : List (Int × Int)) (x y : List Fact) : List Fact := x.flatMap fun f => joinG on f y
def okP (m n : Nat) (p : Int × Int) : Bool := decide (0 ≤ p.1 ∧ p.1 < (m : Int) ∧ 0 ≤ p.2 ∧ p.2 < (n : Int))
def kindP (u v : List Val) (p : Int × Int) : Bool := match u[p.1.toNat]?, v[p.2.toNat]? with
  | some x, some y => decide (x.k = y.k)
  | _, _ => true
def onN (on : List (Int × Int)) (k : Nat) : Nat := (List.range k).countP (onB on)
def headV (a : List Fact) : List Val := a.head?.elim [] Fact.v
def joinOk (a b : List Fact) (on : List (Int × Int)) : Bool :=
  validB a && validB b && decide (0 < a.length) && decide (0 < b.length) && on.all (okP (headV a).length (headV b).length) && on.all (kindP (headV a) (headV b)) && decide ((headV a).length + ((headV b).length - onN on (headV b).length) ≤ 8)
def joinL (a b : List Fact) (on : List (Int × Int)) : List Fact := if joinOk a b on then finL (joinF on (normL a) (normL b)) else []
def joinE (a b : List Fact) (on : List (Int × Int)) : Int :=
  if !(validB a && validB b) then 1
  else if a.length = 0 ∨ b.length = 0 then 0
  else if !on.all (okP (headV a).length (headV b).length) then 2
  else if !on.all (kindP (headV a) (headV b)) then 13
  else if 8 < (headV a).length + ((headV b).length - onN on (headV b).length) then 5
  else finE (joinF on (normL a) (normL b))

section
variable {a b : List Fact} {on : List (Int × Int)}
theorem join_invalid (h : validB a = false ∨ validB b = false) : joinL a b on = [] ∧ joinE a b on = 1 := by
  unfold joinL joinE joinOk
  rcases h with h | h <;> simp [h]
theorem join_empty (ha : validB a = true) (hb : validB b = true) (h : a.length = 0 ∨ b.length = 0) : joinL a b on = [] ∧ joinE a b on = 0 := by
  unfold joinL joinE joinOk
  refine ⟨?_, by rw [ha, hb]; simp only [Bool.and_self, Bool.not_true, Bool.false_eq_true, if_false]; rw [if_pos h]⟩
  rcases h with h | h
  · rw [h]; simp
  · rw [h]; simp
theorem join_range {k : Nat} {p : Int × Int} (ha : validB a = true) (hb : validB b = true) (h1 : a.length ≠ 0) (h2 : b.length ≠ 0) (hk : on[k]? = some p) (hp : okP (headV a).length (headV b).length p = false) : joinL a b on = [] ∧ joinE a b on = 2 := by
  unfold joinL joinE joinOk
  rw [all_no hk hp]
  simp [ha, hb, h1, h2]
theorem join_kind {k : Nat} {p : Int × Int} (ha : validB a = true) (hb : validB b = true) (h1 : a.length ≠ 0) (h2 : b.length ≠ 0) (hr : on.all (okP (headV a).length (headV b).length) = true) (hk : on[k]? = some p) (hp : kindP (headV a) (headV b) p = false) : joinL a b on = [] ∧ joinE a b on = 13 := by
  unfold joinL joinE joinOk
  rw [all_no hk hp]
  simp [ha, hb, h1, h2, hr]
theorem join_wide (ha : validB a = true) (hb : validB b = true) (h1 : a.length ≠ 0) (h2 : b.length ≠ 0) (hr : on.all (okP (headV a).length (headV b).length) = true) (hk : on.all (kindP (headV a) (headV b)) = true)
    (h8 : 8 < (headV a).length + ((headV b).length - onN on (headV b).length)) : joinL a b on = [] ∧ joinE a b on = 5 := by
  unfold joinL joinE joinOk
  rw [decide_eq_false (by omega : ¬ (headV a).length + ((headV b).length - onN on (headV b).length) ≤ 8)]
  simp [ha, hb, h1, h2, hr, hk, h8]
theorem join_go (ha : validB a = true) (hb : validB b = true) (h1 : a.length ≠ 0) (h2 : b.length ≠ 0) (hr : on.all (okP (headV a).length (headV b).length) = true) (hk : on.all (kindP (headV a) (headV b)) = true)
    (h8 : (headV a).length + ((headV b).length - onN on (headV b).length) ≤ 8) : joinL a b on = finL (joinF on (normL a) (normL b)) ∧ joinE a b on = finE (joinF on (normL a) (normL b)) := by
  unfold joinL joinE joinOk
  rw [decide_eq_true h8, decide_eq_true (by omega : 0 < a.length), decide_eq_true (by omega : 0 < b.length)]
  simp [ha, hb, h1, h2, hr, hk]
  omega
theorem headV_of {x : Fact} (h : a[0]? = some x) : headV a = x.v := by unfold headV; rw [List.head?_eq_getElem?, h]; rfl
theorem okP_yes {m n : Nat} {p : Int × Int} (h1 : 0 ≤ p.1) (h2 : p.1 < (m : Int)) (h3 : 0 ≤ p.2) (h4 : p.2 < (n : Int)) : okP m n p = true := by unfold okP; exact decide_eq_true ⟨h1, h2, h3, h4⟩
theorem okP_no {m n : Nat} {p : Int × Int} (h : p.1 < 0 ∨ (m : Int) ≤ p.1 ∨ p.2 < 0 ∨ (n : Int) ≤ p.2) : okP m n p = false := by unfold okP; exact decide_eq_false (by omega)
theorem okP_iff {m n : Nat} {p : Int × Int} : okP m n p = true ↔ 0 ≤ p.1 ∧ p.1 < (m : Int) ∧ 0 ≤ p.2 ∧ p.2 < (n : Int) := by unfold okP; exact decide_eq_true_iff
theorem kindP_yes {u v : List Val} {p : Int × Int} {x y : Val} (h1 : u[p.1.toNat]? = some x) (h2 : v[p.2.toNat]? = some y) (h : x.k = y.k) : kindP u v p = true := by unfold kindP; rw [h1, h2]; exact decide_eq_true h
theorem kindP_no {u v : List Val} {p : Int × Int} {x y : Val} (h1 : u[p.1.toNat]? = some x) (h2 : v[p.2.toNat]? = some y) (h : x.k ≠ y.k) : kindP u v p = false := by unfold kindP; rw [h1, h2]; exact decide_eq_false h
theorem joinNe_at {u v : List Val} {p : Int × Int} {x y : Val} (h1 : u[p.1.toNat]? = some x) (h2 : v[p.2.toNat]? = some y) : joinNe u v p = decide (cmpC x y ≠ 0) := by unfold joinNe; rw [h1, h2]
theorem onN_step {k : Nat} : onN on (k + 1) = onN on k + if onB on k then 1 else 0 := by
  unfold onN; rw [List.range_succ, List.countP_append]; simp [List.countP_cons]
theorem onN_le (on : List (Int × Int)) (k : Nat) : onN on k ≤ k := by unfold onN; have := List.countP_le_length (p := onB on) (l := List.range k); simpa using this
theorem restV_take {v : List Val} {k : Nat} {x : Val} (h : v[k]? = some x) : restV on (v.take (k + 1)) = restV on (v.take k) ++ if onB on k then [] else [x] := by
  have hl : (v.take k).length = k := by rw [List.length_take]; have := (List.getElem?_eq_some_iff.1 h).1; omega
  unfold restV
  rw [List.take_add_one, h, Option.toList_some, List.zipIdx_append, List.filter_append, List.map_append, hl]
  cases e : onB on k <;> simp [e]
theorem restV_len (on : List (Int × Int)) (v : List Val) : (restV on v).length ≤ v.length := by
  unfold restV; rw [List.length_map]; exact Nat.le_trans (List.length_filter_le _ _) (by simp)
theorem restV_mem {v : List Val} {x : Val} (h : x ∈ restV on v) : x ∈ v := by
  unfold restV at h
  obtain ⟨q, hq, rfl⟩ := List.mem_map.1 h
  exact List.fst_mem_of_mem_zipIdx (List.mem_filter.1 hq).1
theorem joinG_take {f g : Fact} {y : List Fact} {k : Nat} (h : y[k]? = some g) : joinG on f (y.take (k + 1)) = joinG on f (y.take k) ++ if meetB f.t g.t && !on.any (joinNe f.v g.v) then [⟨f.v ++ restV on g.v, meetS f.t g.t⟩] else [] := by
  unfold joinG; rw [List.take_add_one, h]; simp
theorem joinG_no1 {f g : Fact} {y : List Fact} {k : Nat} (h : y[k]? = some g) (hm : meetB f.t g.t = false) : joinG on f (y.take (k + 1)) = joinG on f (y.take k) := by
  rw [joinG_take h, if_neg (by simp [hm]), List.append_nil]
theorem joinG_no2 {f g : Fact} {y : List Fact} {k : Nat} (h : y[k]? = some g) (hn : on.any (joinNe f.v g.v) = true) : joinG on f (y.take (k + 1)) = joinG on f (y.take k) := by
  rw [joinG_take h, if_neg (by rw [hn]; simp), List.append_nil]
theorem joinG_yes {f g : Fact} {y : List Fact} {k : Nat} (h : y[k]? = some g) (hm : meetB f.t g.t = true) (hn : on.any (joinNe f.v g.v) = false) : joinG on f (y.take (k + 1)) = joinG on f (y.take k) ++ [⟨f.v ++ restV on g.v, meetS f.t g.t⟩] := by
  rw [joinG_take h, if_pos (by rw [hn]; simp [hm])]
theorem restV_no {v : List Val} {k : Nat} {x : Val} (h : v[k]? = some x) (hn : (on.any fun p => decide (p.2 = (k : Int))) = true) : restV on (v.take (k + 1)) = restV on (v.take k) := by
  rw [restV_take h, if_pos (by unfold onB; exact hn), List.append_nil]
theorem restV_yes {v : List Val} {k : Nat} {x : Val} (h : v[k]? = some x) (hn : (on.any fun p => decide (p.2 = (k : Int))) = false) : restV on (v.take (k + 1)) = restV on (v.take k) ++ [x] := by
  rw [restV_take h, if_neg (by unfold onB; intro hc; rw [hc] at hn; cases hn)]
theorem joinF_take {f : Fact} {x y : List Fact} {k : Nat} (h : x[k]? = some f) : joinF on (x.take (k + 1)) y = joinF on (x.take k) y ++ joinG on f y := by
  unfold joinF; rw [List.take_add_one, h]; simp
theorem joinG_all {f : Fact} {y : List Fact} {k : Nat} (h : y.length ≤ k) : joinG on f (y.take k) = joinG on f y := by rw [List.take_of_length_le h]
theorem restV_all {v : List Val} {k : Nat} (h : v.length ≤ k) : restV on (v.take k) = restV on v := by rw [List.take_of_length_le h]
theorem joinF_all {x y : List Fact} {k : Nat} (h : x.length ≤ k) : joinF on (x.take k) y = joinF on x y := by rw [List.take_of_length_le h]
theorem joinG_len (f : Fact) (y : List Fact) : (joinG on f y).length ≤ y.length := by
  unfold joinG
  induction y with
  | nil => simp
  | cons g y ih => rw [List.flatMap_cons, List.length_append, List.length_cons]; split <;> simp only [List.length_cons, List.length_nil] <;> omega
theorem joinF_len (x y : List Fact) : (joinF on x y).length ≤ x.length * y.length := by
  unfold joinF
  induction x with
  | nil => simp
  | cons f x ih => rw [List.flatMap_cons, List.length_append, List.length_cons, Nat.add_mul]; have := joinG_len (on := on) f y; omega
theorem meet_B {s t : Span} (hs : spanB s = true) (ht : spanB t = true) (h : meetB s t = true) : spanB (meetS s t) = true := by
  unfold meetS; rw [if_pos h]
  unfold meetB at h
  unfold spanB at *
  simp only [Bool.and_eq_true, decide_eq_true_eq] at *
  omega
theorem joinF_good {x y : List Fact} (hx : Good x) (hy : Good y) : Good (joinF on x y) := fun f hf => by
  unfold joinF joinG at hf
  simp only [List.mem_flatMap] at hf
  obtain ⟨u, hu, v, hv, hf⟩ := hf
  split at hf
  · rename_i hc
    obtain rfl := List.mem_singleton.1 hf
    simp only [Bool.and_eq_true] at hc
    refine ⟨?_, meet_B (hx u hu).2 (hy v hv).2 hc.1⟩
    simp only [List.all_append, Bool.and_eq_true, List.all_eq_true]
    exact ⟨fun z hz => by have := (hx u hu).1; rw [List.all_eq_true] at this; exact this z hz, fun z hz => by have := (hy v hv).1; rw [List.all_eq_true] at this; exact this z (restV_mem hz)⟩
  · simp at hf
theorem valid_len {f : Fact} (h : validB a = true) (hf : f ∈ a) : f.v.length = (headV a).length ∧ (headV a).length ≤ 8 := by
  unfold validB at h
  simp only [Bool.and_eq_true, List.all_eq_true] at h
  have h1 := factB_eq.1 (h.2 f hf)
  have e : f.v.length = (headV a).length := by
    apply Classical.byContradiction
    intro hne
    have := eqF_len (f := fun (x y : Val) => decide (x.k = y.k)) hne
    have h2 := h1.2.2.1
    unfold kindsB at h2
    unfold headV at this
    rw [this] at h2; cases h2
  exact ⟨e, by rw [← e]; exact h1.2.1⟩
theorem normL_vlen {f : Fact} (h : validB a = true) (hf : f ∈ normL a) : f.v.length = (headV a).length ∧ (headV a).length ≤ 8 := by
  obtain ⟨k, hk, e⟩ := normL_vals hf
  rw [← e]; exact valid_len h hk
end
theorem cmp_neq (x y : Int) : Cmp.b .neq x y = decide (x ≠ y) := by unfold Cmp.b; rw [Bool.eq_iff_iff]; simp
theorem meetS_yes {a b : Span} (h1 : spanV a = true) (h2 : spanV b = true) (h3 : max a.a b.a < min a.b b.b) : meetS a b = ⟨max a.a b.a, min a.b b.b⟩ := by
  unfold meetS; rw [if_pos]; unfold meetB; rw [h1, h2, decide_eq_true h3]; rfl
theorem meetB_yes {a b : Span} (h1 : spanV a = true) (h2 : spanV b = true) (h3 : max a.a b.a < min a.b b.b) : meetB a b = true := by
  unfold meetB; rw [h1, h2, decide_eq_true h3]; rfl
theorem meetB_no {a b : Span} (h : spanV a = false ∨ spanV b = false ∨ min a.b b.b ≤ max a.a b.a) : meetB a b = false := by
  unfold meetB
  rcases h with h | h | h
  · rw [h]; simp
  · rw [h]; simp
  · rw [decide_eq_false (by omega)]; simp
theorem meetS_no {a b : Span} (h : spanV a = false ∨ spanV b = false ∨ min a.b b.b ≤ max a.a b.a) : meetS a b = ⟨0, 0⟩ := by
  unfold meetS; rw [meetB_no h]; rfl
def factL (a b : Int) (l : List Int) : Fact := ⟨l.map fun n => ⟨1, n, []⟩, ⟨a, b⟩⟩
theorem fact_ne {x y : Fact} (h : x.v ≠ y.v ∨ x.t ≠ y.t) : x ≠ y := fun e => by subst e; simp at h
theorem fact_eq {x y : Fact} (h : x.v = y.v) (k : x.t = y.t) : x = y := by cases x; cases y; simp at h k; simp [h, k]
end Go.Civ
