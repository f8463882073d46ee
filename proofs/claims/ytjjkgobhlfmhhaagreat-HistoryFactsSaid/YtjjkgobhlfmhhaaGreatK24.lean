/- Lemmas: Civ58, Civ59. -/
import Derived.Test.YtjjkgobhlfmhhaaGreatK23
namespace Go.Civ
open Go.RowKit
set_option linter.unusedVariables false
structure FnO (P : Program) {α : Type} (A : GH → Value → α → Prop) (fid : Nat) (cap : Array Value) (G : GH) (on : α → Prop) (nx : α → Option (List Val)) : Prop where
  body : HasBody P fid
  call : ∀ (G' : GH) (w' : World) (v : Value) (x : α), G.le G' → G'.In w' → on x → A G' v x →
    Calls P fid ([v] ++ cap.toList).toArray w' fun e w'' => ∃ r G'', e = .returned r ∧ Res [] w' G' w'' G'' ∧ ∃ r0 r1, r = .tuple #[r0, r1] ∧ Sl ValE 32 G'' r0 ((nx x).getD []) ∧ r1 = .bool (nx x).isSome
theorem FnO.up {P : Program} {α : Type} {A : GH → Value → α → Prop} {fid : Nat} {cap : Array Value} {G G' : GH} {on : α → Prop} {nx : α → Option (List Val)} (h : FnO P A fid cap G on nx) (k : G.le G') : FnO P A fid cap G' on nx :=
  ⟨h.body, fun G2 w' v x hle => h.call G2 w' v x (k.trans hle)⟩
theorem can_one {s : Span} (h : s.a < s.b) : Can [s] := ⟨by simp, by simpa using h⟩
def piecesS (r d : Span) : List Span := (if r.a < d.a then [⟨r.a, d.a⟩] else []) ++ (if d.b < r.b then [⟨d.b, r.b⟩] else [])
theorem pieces_can {r d : Span} (hr : r.a < r.b) (hd : d.a < d.b) (h1 : r.a < d.b) (h2 : d.a < r.b) : Can (piecesS r d) := by
  unfold piecesS
  by_cases c1 : r.a < d.a <;> by_cases c2 : d.b < r.b <;> simp only [c1, c2, if_true, if_false, List.nil_append, List.append_nil]
  · exact ⟨by simp; omega, fun s hs => by simp at hs; rcases hs with rfl | rfl <;> simp <;> omega⟩
  · exact can_one c1
  · exact can_one c2
  · exact ⟨List.Pairwise.nil, by simp⟩
theorem comb_one {r d : Span} (hr : r.a < r.b) (hd : d.a < d.b) (h1 : r.a < d.b) (h2 : d.a < r.b) : combR 3 [r] [d] = piecesS r d := by
  have h := combR_inv (kind := 3) (a := [r]) (b := [d]) rfl (by simpa using hr) (by simpa using hd)
  refine Can.unique h.1 (pieces_can hr hd h1 h2) fun x => ?_
  rw [h.2]
  have e : keepB 3 (inR [r] x) (inR [d] x) = true ↔ ((r.a ≤ x ∧ x < r.b) ∧ ¬ (d.a ≤ x ∧ x < d.b)) := by
    unfold keepB inR; simp; omega
  rw [e]
  unfold piecesS
  by_cases c1 : r.a < d.a <;> by_cases c2 : d.b < r.b <;> simp only [c1, c2, if_true, if_false, List.nil_append, List.append_nil, List.cons_append, cover_cons] <;> simp [cover] <;> omega
theorem pieces_good {r d : Span} (hr : spanB r = true) (hd : spanB d = true) (h1 : r.a < d.b) (h2 : d.a < r.b) : ∀ s ∈ piecesS r d, spanB s = true := fun s hs => by
  unfold spanB at hr hd ⊢
  simp at hr hd ⊢
  unfold piecesS at hs
  rcases List.mem_append.1 hs with hs | hs
  · split at hs
    · obtain rfl := List.mem_singleton.1 hs; simp only; omega
    · cases hs
  · split at hs
    · obtain rfl := List.mem_singleton.1 hs; simp only; omega
    · cases hs
theorem pieces_len (r d : Span) : (piecesS r d).length ≤ 2 := by unfold piecesS; rw [List.length_append]; split <;> split <;> simp
theorem touch_comb {r d : Span} (hr : spanB r = true) (hd : spanB d = true) (h1 : r.a < d.b) (h2 : d.a < r.b) : combR 3 [r] [d] = piecesS r d := comb_one (spanB_pos hr) (spanB_pos hd) h1 h2
theorem part_good {r d : Span} (hr : spanB r = true) (hd : spanB d = true) (h1 : r.a < d.b) (h2 : d.a < r.b) : spanB (partS r d) = true := by
  unfold spanB at hr hd ⊢
  unfold partS
  simp at hr hd ⊢
  omega
def NxOk (nx : List Val → Option (List Val)) (l : List HRow) : Prop := ∀ r ∈ l, ∀ u, nx r.v = some u → u.all valB = true ∧ u.length ≤ 8
structure ChgOk (t : Table) (tx : Int) (d : Span) (nx : List Val → Option (List Val)) : Prop where
  valid : validT t = true
  span : spanB d = true
  inst : instB tx = true
  late : t.last < tx
  next : NxOk nx t.rows
section
variable {t : Table} {tx : Int} {d : Span} {nx : List Val → Option (List Val)} {hl : List Val → Bool}
theorem validT_row1 (h : validT t = true) {r : HRow} (hr : r ∈ t.rows) : goodB r = true ∧ r.v.length ≤ 8 ∧ r.r.x.a ≤ t.last ∧ r.v.length = t.s.cols.length ∧ r.v.all valB = true ∧ t.s.cols.length ≤ 8 := by
  rw [validT_is] at h
  simp only [Bool.and_eq_true] at h
  have h1 := List.all_eq_true.1 h.1.2 r hr
  unfold rowOk at h1
  simp only [Bool.and_eq_true, decide_eq_true_eq] at h1
  obtain ⟨a, b, c, _⟩ := rowE_len h1.1.1.1
  exact ⟨h1.1.1.2, a, h1.1.2, c, b, by omega⟩
theorem chgOf_len (hc : ChgOk t tx d nx) {r : HRow} (hr : r ∈ t.rows) : (chgOf hl nx tx d r).length ≤ 4 := by
  unfold chgOf
  split
  · rename_i h
    simp only [Bool.and_eq_true] at h
    unfold touchB at h
    simp only [Bool.and_eq_true, decide_eq_true_eq] at h
    have hg := goodB_parts (validT_row1 hc.valid hr).1
    rw [touch_comb hg.2.1 hc.span h.1.1.2 h.1.2]
    have := pieces_len r.r.d d
    have h2 : (lastN (nx r.v) r.r.d d tx).length ≤ 1 := by unfold lastN; split <;> simp
    simp only [List.length_append, outN_len, List.length_cons, List.length_nil]
    omega
  · simp
theorem chgRows_len (hc : ChgOk t tx d nx) : ∀ k, (chgRows hl nx tx d (t.rows.take k)).length ≤ 4 * k
  | 0 => by simp [chgRows]
  | k + 1 => by
    have ih := chgRows_len hc k
    cases e : t.rows[k]? with
    | none => rw [List.take_add_one, e]; simp only [Option.toList, List.append_nil]; omega
    | some r =>
      rw [chgRows_take e, List.length_append]
      have := chgOf_len (hl := hl) hc (List.mem_of_getElem? e)
      omega
theorem chgOf_good (hc : ChgOk t tx d nx) {r : HRow} (hr : r ∈ t.rows) : ∀ q ∈ chgOf hl nx tx d r, goodB q = true ∧ q.v.length ≤ 1000 := by
  obtain ⟨g1, g2, g3, _⟩ := validT_row1 hc.valid hr
  have hg := goodB_parts g1
  have ht := instB_parts hc.inst
  have hl := hc.late
  have mk : ∀ (v : List Val) (a b : Span), v.all valB = true → spanB a = true → spanB b = true → goodB ⟨v, ⟨a, b⟩⟩ = true := fun v a b h1 h2 h3 => by unfold goodB; simp only; rw [h1, h2, h3]; rfl
  have hx := hg.2.2
  unfold spanB at hx
  simp at hx
  have hT : spanB ⟨tx, 253402300800⟩ = true := by unfold spanB; simp; omega
  unfold chgOf
  split
  · rename_i h
    simp only [Bool.and_eq_true] at h
    unfold touchB at h
    simp only [Bool.and_eq_true, decide_eq_true_eq] at h
    rw [touch_comb hg.2.1 hc.span h.1.1.2 h.1.2]
    intro q hq
    rcases List.mem_append.1 hq with hq | hq
    · rcases List.mem_append.1 hq with hq | hq
      · rw [List.mem_singleton.1 hq]
        exact ⟨mk _ _ _ hg.1 hg.2.1 (by unfold spanB; simp; omega), Nat.le_trans g2 (by decide)⟩
      · unfold outN at hq
        obtain ⟨s, hs, rfl⟩ := List.mem_map.1 hq
        exact ⟨mk _ _ _ hg.1 (pieces_good hg.2.1 hc.span h.1.1.2 h.1.2 s hs) hT, Nat.le_trans g2 (by decide)⟩
    · unfold lastN at hq
      split at hq
      · rename_i u hu
        rw [List.mem_singleton.1 hq]
        obtain ⟨u1, u2⟩ := hc.next r hr u hu
        exact ⟨mk _ _ _ u1 (part_good hg.2.1 hc.span h.1.1.2 h.1.2) hT, Nat.le_trans u2 (by decide)⟩
      · cases hq
  · intro q hq
    rw [List.mem_singleton.1 hq]; exact ⟨g1, Nat.le_trans g2 (by decide)⟩
theorem chgRows_good (hc : ChgOk t tx d nx) : GoodH (chgRows hl nx tx d t.rows) ∧ (∀ r ∈ chgRows hl nx tx d t.rows, r.v.length ≤ 1000) ∧ (chgRows hl nx tx d t.rows).length ≤ 2000 := by
  refine ⟨fun q hq => ?_, fun q hq => ?_, ?_⟩
  · obtain ⟨r, hr, h⟩ := List.mem_flatMap.1 hq; exact (chgOf_good hc hr q h).1
  · obtain ⟨r, hr, h⟩ := List.mem_flatMap.1 hq; exact (chgOf_good hc hr q h).2
  · have h1 := chgRows_len (hl := hl) hc t.rows.length
    rw [List.take_length] at h1
    have := (validT_good hc.valid).2.1
    omega
end
theorem maskV_len : ∀ (v s : List Val) (m : List Bool), (maskV v s m).length = v.length
  | [], s, m => by simp [maskV]
  | x :: v, [], m => by simp [maskV]
  | x :: v, y :: s, [] => by simp [maskV]
  | x :: v, y :: s, b :: m => by simp [maskV, maskV_len v s m]
theorem maskV_nil (v s : List Val) : maskV v s [] = v := by cases v <;> cases s <;> rfl
theorem maskV_no : ∀ {v s : List Val} {m : List Bool} {k : Nat}, m[k]? = some false → maskV v s (m.take (k + 1)) = maskV v s (m.take k)
  | [], s, m, k, _ => by simp [maskV]
  | x :: v, [], m, k, _ => by cases m.take (k + 1) <;> cases m.take k <;> simp [maskV]
  | x :: v, y :: s, [], k, h => by simp at h
  | x :: v, y :: s, b :: m, 0, h => by simp at h; subst h; simp [maskV, maskV_nil]
  | x :: v, y :: s, b :: m, k + 1, h => by
    simp only [List.take_succ_cons, maskV]
    rw [maskV_no (by simpa using h)]
theorem maskV_yes : ∀ {v s : List Val} {m : List Bool} {k : Nat} {z : Val}, m[k]? = some true → s[k]? = some z → k < v.length → maskV v s (m.take (k + 1)) = (maskV v s (m.take k)).set k z
  | [], s, m, k, z, _, _, h => by simp at h
  | x :: v, [], m, k, z, _, h, _ => by simp at h
  | x :: v, y :: s, [], k, z, h, _, _ => by simp at h
  | x :: v, y :: s, b :: m, 0, z, h, h2, _ => by simp at h h2; subst h h2; simp [maskV, maskV_nil]
  | x :: v, y :: s, b :: m, k + 1, z, h, h2, h3 => by
    simp only [List.take_succ_cons, maskV, List.set_cons_succ]
    rw [maskV_yes (by simpa using h) (by simpa using h2) (by simpa using h3)]
theorem mask_all {m : List Bool} {k : Nat} (h : m.length ≤ k) (v s : List Val) : maskV v s (m.take k) = maskV v s m := by rw [List.take_of_length_le h]
end Go.Civ
namespace Go.Civ
theorem chg_yes {L : List HRow} {q : HRow} {v : List Val} {ss : List Span} {k : Nat} {tx : Int} {nx : Option (List Val)} {r d : Span} (hk : ss.length ≤ k) (h : nx.isSome = true) :
    ((L ++ [q]) ++ outN v (ss.take k) tx 253402300800) ++ [⟨nx.getD [], ⟨⟨max r.a d.a, min r.b d.b⟩, ⟨tx, 253402300800⟩⟩⟩] = L ++ ([q] ++ outN v ss tx 253402300800 ++ lastN nx r d tx) := by
  rw [List.take_of_length_le hk]
  cases nx with
  | none => cases h
  | some u => simp [lastN, partS]
theorem chg_no {L : List HRow} {q : HRow} {v : List Val} {ss : List Span} {k : Nat} {tx : Int} {nx : Option (List Val)} {r d : Span} (hk : ss.length ≤ k) (h : nx.isSome = false) :
    (L ++ [q]) ++ outN v (ss.take k) tx 253402300800 = L ++ ([q] ++ outN v ss tx 253402300800 ++ lastN nx r d tx) := by
  rw [List.take_of_length_le hk]
  cases nx with
  | none => simp [lastN]
  | some u => cases h
end Go.Civ
namespace Go.Civ
theorem mask_no {v s : List Val} {m : List Bool} {k : Nat} {b : Bool} (h : m[k]? = some b) (hb : b = false) : maskV v s (m.take (k + 1)) = maskV v s (m.take k) := by subst hb; exact maskV_no h
theorem mask_yes {v s : List Val} {m : List Bool} {k : Nat} {b : Bool} {z : Val} (h : m[k]? = some b) (hb : b = true) (hs : s[k]? = some z) (hk : k < v.length) : maskV v s (m.take (k + 1)) = (maskV v s (m.take k)).set k z := by subst hb; exact maskV_yes h hs hk
end Go.Civ
namespace Go.Civ
open Go.RowKit
set_option linter.unusedVariables false
theorem checkF_I64 {d : Nat} {c : Cond} {l : List Col} : I64 (checkF d c l) := by unfold checkF; split; exact typedF_I64; constructor <;> decide
section
variable {d : Nat} {t : Table} {tx : Int} {c : Cond} {p : Span} {set : List Val} {mask : List Bool}
theorem del_1 (h : insOk t p = false) : noT = delT d t tx c p ∧ 1 = delE d t tx c p := by
  have : delErr d t tx c p = 1 := by unfold delErr; rw [h]; rfl
  unfold delT delE; rw [this]; exact ⟨rfl, rfl⟩
theorem delErr_is (h : insOk t p = true) : delErr d t tx c p = or2 (checkF d c t.s.cols) (timE t tx) := by unfold delErr; rw [h]; rfl
theorem del_2 (h : insOk t p = true) (h2 : cmpOr [checkF d c t.s.cols, timE t tx] ≠ 0) : noT = delT d t tx c p ∧ cmpOr [checkF d c t.s.cols, timE t tx] = delE d t tx c p := by
  rw [cmpOr2] at *
  unfold delT delE; rw [delErr_is h, if_neg h2, if_neg h2]; exact ⟨rfl, rfl⟩
theorem del_3 (h : insOk t p = true) (h2 : cmpOr [checkF d c t.s.cols, timE t tx] = 0) : doneT t tx (delRows d t tx c p) = delT d t tx c p ∧ doneTE (delRows d t tx c p) = delE d t tx c p := by
  rw [cmpOr2] at *
  unfold delT delE; rw [delErr_is h, if_pos h2, if_pos h2]; exact ⟨rfl, rfl⟩
theorem insOk_parts (h : insOk t p = true) : validT t = true ∧ spanB p = true := by unfold insOk at h; simpa using h
theorem del_ok (h : insOk t p = true) (h2 : cmpOr [checkF d c t.s.cols, timE t tx] = 0) : ChgOk t tx p fun _ => none := by
  rw [cmpOr2] at h2
  obtain ⟨a, b⟩ := insOk_parts h
  obtain ⟨e1, e2⟩ := or2_0 h2
  obtain ⟨e3, e4⟩ := timE_0 e2
  exact ⟨a, b, e3, e4, fun r hr u hu => by cases hu⟩
theorem upd_1 (h : insOk t p = false) : noT = updT d t tx c set mask p ∧ 1 = updE d t tx c set mask p := by
  have : updErr d t tx c set mask p = 1 := by unfold updErr; rw [h]; rfl
  unfold updT updE; rw [this]; exact ⟨rfl, rfl⟩
theorem updErr_is (h : insOk t p = true) : updErr d t tx c set mask p = if checkF d c t.s.cols ≠ 0 then checkF d c t.s.cols else if set.length ≠ t.s.cols.length ∨ mask.length ≠ t.s.cols.length then 1 else if typM t.s.cols set mask then timE t tx else 13 := by
  unfold updErr; rw [h, if_pos rfl]
theorem upd_2 (h : insOk t p = true) (h2 : checkF d c t.s.cols ≠ 0) : noT = updT d t tx c set mask p ∧ checkF d c t.s.cols = updE d t tx c set mask p := by
  have e : updErr d t tx c set mask p = checkF d c t.s.cols := by rw [updErr_is h, if_pos h2]
  unfold updT updE; rw [e, if_neg h2, if_neg h2]; exact ⟨rfl, rfl⟩
theorem upd_3 (h : insOk t p = true) (h2 : checkF d c t.s.cols = 0) (h3 : set.length ≠ t.s.cols.length ∨ mask.length ≠ t.s.cols.length) : noT = updT d t tx c set mask p ∧ 1 = updE d t tx c set mask p := by
  have e : updErr d t tx c set mask p = 1 := by rw [updErr_is h, if_neg (fun k => k h2), if_pos h3]
  unfold updT updE; rw [e]; exact ⟨rfl, rfl⟩
theorem upd_4 (h : insOk t p = true) (h2 : checkF d c t.s.cols = 0) (h3 : set.length = t.s.cols.length) (h4 : mask.length = t.s.cols.length) (h5 : typM t.s.cols set mask = false) : noT = updT d t tx c set mask p ∧ 13 = updE d t tx c set mask p := by
  have e : updErr d t tx c set mask p = 13 := by rw [updErr_is h, if_neg (fun k => k h2), if_neg (fun k => by rcases k with k | k <;> exact k (by assumption)), h5]; rfl
  unfold updT updE; rw [e]; exact ⟨rfl, rfl⟩
theorem updErr_5 (h : insOk t p = true) (h2 : checkF d c t.s.cols = 0) (h3 : set.length = t.s.cols.length) (h4 : mask.length = t.s.cols.length) (h5 : typM t.s.cols set mask = true) : updErr d t tx c set mask p = timE t tx := by
  rw [updErr_is h, if_neg (fun k => k h2), if_neg (fun k => by rcases k with k | k <;> exact k (by assumption)), h5]; rfl
theorem upd_5 (h : insOk t p = true) (h2 : checkF d c t.s.cols = 0) (h3 : set.length = t.s.cols.length) (h4 : mask.length = t.s.cols.length) (h5 : typM t.s.cols set mask = true) (h6 : timE t tx ≠ 0) : noT = updT d t tx c set mask p ∧ timE t tx = updE d t tx c set mask p := by
  unfold updT updE; rw [updErr_5 h h2 h3 h4 h5, if_neg h6, if_neg h6]; exact ⟨rfl, rfl⟩
theorem upd_6 (h : insOk t p = true) (h2 : checkF d c t.s.cols = 0) (h3 : set.length = t.s.cols.length) (h4 : mask.length = t.s.cols.length) (h5 : typM t.s.cols set mask = true) (h6 : timE t tx = 0) : doneT t tx (updRows d t tx c set mask p) = updT d t tx c set mask p ∧ doneTE (updRows d t tx c set mask p) = updE d t tx c set mask p := by
  unfold updT updE; rw [updErr_5 h h2 h3 h4 h5, if_pos h6, if_pos h6]; exact ⟨rfl, rfl⟩
end
section
variable {cols : List Col} {set : List Val} {mask : List Bool} {j : Nat}
theorem okM_1 {b : Bool} (h : mask[j]? = some b) (hb : b = false) : okM cols set mask j = true := by
  subst hb; unfold okM; rw [h]
  cases set[j]? with
  | none => rfl
  | some x => cases cols[j]? <;> rfl
theorem okM_y {b : Bool} {x : Val} {c : Col} (h : mask[j]? = some b) (hs : set[j]? = some x) (hc : cols[j]? = some c) (h1 : valB x = true) (h2 : x.k = c.kind) : okM cols set mask j = true := by
  unfold okM; rw [h, hs, hc]; simp [h1, h2]
theorem okM_n1 {b : Bool} {x : Val} (h : mask[j]? = some b) (hb : b = true) (hs : set[j]? = some x) (hj : j < cols.length) (h1 : valB x = false) : okM cols set mask j = false := by
  subst hb; unfold okM; rw [h, hs, List.getElem?_eq_getElem hj]; simp [h1]
theorem okM_n2 {b : Bool} {x : Val} {c : Col} (h : mask[j]? = some b) (hb : b = true) (hs : set[j]? = some x) (hc : cols[j]? = some c) (h2 : x.k ≠ c.kind) : okM cols set mask j = false := by
  subst hb; unfold okM; rw [h, hs, hc]; simp [h2]
theorem typM_no {k : Nat} {b : Bool} (h : mask[k]? = some b) (hk : okM cols set mask k = false) : typM cols set mask = false := by
  unfold typM
  rw [Bool.eq_false_iff]
  intro e
  rw [List.all_eq_true] at e
  have := e k (List.mem_range.2 (List.getElem?_eq_some_iff.1 h).1)
  rw [this] at hk; cases hk
theorem typM_yes {k : Nat} (h : ∀ i, i < k → okM cols set mask i = true) (hk : mask.length ≤ k) : typM cols set mask = true := by
  unfold typM; rw [List.all_eq_true]; intro i hi; exact h i (by have := List.mem_range.1 hi; omega)
theorem typM_val (h : typM cols set mask = true) (hl : set.length = cols.length) {b : Bool} {x : Val} (hm : mask[j]? = some b) (hb : b = true) (hs : set[j]? = some x) : valB x = true := by
  unfold typM at h
  rw [List.all_eq_true] at h
  have h1 := h j (List.mem_range.2 (List.getElem?_eq_some_iff.1 hm).1)
  have h2 := (List.getElem?_eq_some_iff.1 hs).1
  cases hv : valB x with
  | true => rfl
  | false => rw [okM_n1 hm hb hs (by omega) hv] at h1; cases h1
end
theorem maskV_valid : ∀ {v s : List Val} {m : List Bool}, v.all valB = true → (∀ (j : Nat) b x, m[j]? = some b → b = true → s[j]? = some x → valB x = true) → (maskV v s m).all valB = true
  | [], s, m, _, _ => by simp [maskV]
  | x :: v, [], m, h, _ => by simpa [maskV] using h
  | x :: v, y :: s, [], h, _ => by simpa [maskV] using h
  | x :: v, y :: s, b :: m, h, h2 => by
    simp only [List.all_cons, Bool.and_eq_true] at h
    simp only [maskV, List.all_cons, Bool.and_eq_true]
    refine ⟨?_, maskV_valid h.2 fun j b x k1 k2 k3 => h2 (j + 1) b x (by simpa using k1) k2 (by simpa using k3)⟩
    cases b with
    | true => exact h2 0 true y rfl rfl rfl
    | false => exact h.1
theorem upd_ok {t : Table} {tx : Int} {p : Span} {set : List Val} {mask : List Bool} (h : insOk t p = true) (h3 : set.length = t.s.cols.length) (h5 : typM t.s.cols set mask = true) (h6 : timE t tx = 0) : ChgOk t tx p fun v => some (maskV v set mask) := by
  obtain ⟨a, b⟩ := insOk_parts h
  obtain ⟨e3, e4⟩ := timE_0 h6
  refine ⟨a, b, e3, e4, fun r hr u hu => ?_⟩
  obtain rfl := Option.some.inj hu
  obtain ⟨_, g2, _, g4, g5, _⟩ := validT_row1 a hr
  exact ⟨maskV_valid g5 fun j b x k1 k2 k3 => typM_val h5 h3 k1 k2 k3, by rw [maskV_len]; exact g2⟩
def chgG (g : HGrp) (a b : Int) : List HRow := outN g.v (combR 3 (timesH g.t a) (timesH g.t b)) a b ++ outN g.v (combR 3 (timesH g.t b) (timesH g.t a)) b 253402300800
def chgP (gs : List HGrp) (a b : Int) : List HRow := gs.flatMap fun g => chgG g a b
theorem chgP_take {gs : List HGrp} {k : Nat} {g : HGrp} {a b : Int} (h : gs[k]? = some g) : chgP (gs.take (k + 1)) a b = chgP (gs.take k) a b ++ chgG g a b := by rw [List.take_add_one, h]; simp [chgP]
theorem comb_small {l : List HRow} {a b : Int} (hl : l.length ≤ 500) : (combR 3 (timesH l a) (timesH l b)).length ≤ 2000 := by
  have h1 := comb_len (a := timesH l a) (b := timesH l b)
  have h2 := timesH_len l a
  have h3 := timesH_len l b
  omega
theorem chgP_len {gs : List HGrp} {a b : Int} (h : ∀ g ∈ gs, g.t.length ≤ 500) : (chgP gs a b).length ≤ gs.length * 4000 := by
  induction gs with
  | nil => simp [chgP]
  | cons g gs ih =>
    have h1 := comb_small (a := a) (b := b) (h g (by simp))
    have h1' := comb_small (a := b) (b := a) (h g (by simp))
    have h2 := ih fun x hx => h x (by simp [hx])
    simp only [chgP, List.flatMap_cons, List.length_append, List.length_cons, chgG, outN_len] at *
    rw [Nat.add_mul]; omega
theorem chgP_takeLen {l : List HRow} {k : Nat} {a b : Int} (hl : l.length ≤ 500) : (chgP ((grpH l).take k) a b).length ≤ 2000000 := by
  have h1 := chgP_len (gs := (grpH l).take k) (a := a) (b := b) fun g hg => Nat.le_trans (grpH_t g (List.mem_of_mem_take hg)) hl
  have h2 := List.length_take_le' k (grpH l)
  have h3 := @grpH_len l
  exact Nat.le_trans h1 (Nat.le_trans (Nat.mul_le_mul_right 4000 (show ((grpH l).take k).length ≤ 500 by omega)) (by decide))
theorem chgP_all {l : List HRow} {k : Nat} {a b : Int} (h : (grpH l).length ≤ k) : chgP ((grpH l).take k) a b = chgsOf l a b := by rw [List.take_of_length_le h]; rfl
section
variable {t : Table} {a b : Int}
theorem chgs_1 (h : validT t = false) : [] = chgsH t a b ∧ 1 = chgsErr t a b := by
  have : chgsErr t a b = 1 := by unfold chgsErr; rw [h]; rfl
  unfold chgsH; rw [this]; exact ⟨rfl, rfl⟩
theorem chgs_2 (h : validT t = true) (h2 : instB a = false ∨ instB b = false ∨ b ≤ a) : [] = chgsH t a b ∧ 2 = chgsErr t a b := by
  have : chgsErr t a b = 2 := by
    unfold chgsErr; rw [h, if_pos rfl, if_neg]
    simp only [Bool.and_eq_true, decide_eq_true_eq]
    rintro ⟨⟨h3, h4⟩, h5⟩
    rcases h2 with h2 | h2 | h2
    · rw [h3] at h2; cases h2
    · rw [h4] at h2; cases h2
    · omega
  unfold chgsH; rw [this]; exact ⟨rfl, rfl⟩
theorem chgsErr_is (h : validT t = true) (h1 : instB a = true) (h2 : instB b = true) (h3 : a < b) : chgsErr t a b = if (chgsOf t.rows a b).length ≤ 1000 then 0 else 5 := by
  unfold chgsErr; rw [h, if_pos rfl, if_pos]; simp [h1, h2, h3]
theorem chgs_3 (h : validT t = true) (h1 : instB a = true) (h2 : instB b = true) (h3 : a < b) (h4 : 1000 < ((chgsOf t.rows a b).length : Int)) : [] = chgsH t a b ∧ 5 = chgsErr t a b := by
  have e := chgsErr_is h h1 h2 h3
  rw [if_neg (by omega)] at e
  unfold chgsH; rw [e]; exact ⟨rfl, rfl⟩
theorem chgs_4 (h : validT t = true) (h1 : instB a = true) (h2 : instB b = true) (h3 : a < b) (h4 : ((chgsOf t.rows a b).length : Int) ≤ 1000) : chgsOf t.rows a b = chgsH t a b ∧ 0 = chgsErr t a b := by
  have e := chgsErr_is h h1 h2 h3
  rw [if_pos (by omega)] at e
  unfold chgsH; rw [e]; exact ⟨rfl, rfl⟩
end
end Go.Civ
