/- Lemmas: Civ59, Civ60, Civ61, Sc, Civ62. -/
import Derived.Test.YtjjkgobhlfmhhaaGreatQ12
import Derived.Test.YtjjkgobhlfmhhaaGreatQ17
import Derived.Test.YtjjkgobhlfmhhaaGreatQ26
import Derived.Test.YtjjkgobhlfmhhaaGreatQ28
namespace Go.Civ
open Go.RowKit
set_option linter.unusedVariables false
theorem checkF_I64 {d : Nat} {c : Cond} {l : List Col} : I64 (checkF d c l) := by unfold checkF; split; exact typedF_I64; constructor <;> decide
section
variable {d : Nat} {t : Table} {tx : Int} {c : Cond} {p : Span} {set : List Val} {mask : List Bool}
theorem del_1 (h : insOk t p = false) : noT = delT d t tx c p ∧ 1 = delE d t tx c p := by
  have : delErr d t tx c p = 1 := by unfold delErr; rw [h]; rfl
  unfold delT delE; rw [this]; exact ⟨rfl, rfl⟩
theorem delErr_is (h : insOk t p = true) : delErr d t tx c p = or2 (checkF d c t.s.cols) (timE t tx) := by unfold delErr; rw [h]; rfl
theorem del_2 (h : insOk t p = true) (h2 : cmpOr [checkF d c t.s.cols, timE t tx] ≠ 0) : noT = delT d t tx c p ∧ cmpOr [checkF d c t.s.cols, timE t tx] = delE d t tx c p := by
  rw [cmpOr2] at *
  unfold delT delE; rw [delErr_is h, if_neg h2, if_neg h2]; exact ⟨rfl, rfl⟩
theorem del_3 (h : insOk t p = true) (h2 : cmpOr [checkF d c t.s.cols, timE t tx] = 0) : doneT t tx (delRows d t tx c p) = delT d t tx c p ∧ doneTE (delRows d t tx c p) = delE d t tx c p := by
  rw [cmpOr2] at *
  unfold delT delE; rw [delErr_is h, if_pos h2, if_pos h2]; exact ⟨rfl, rfl⟩
theorem insOk_parts (h : insOk t p = true) : validT t = true ∧ spanB p = true := by unfold insOk at h; simpa using h
theorem del_ok (h : insOk t p = true) (h2 : cmpOr [checkF d c t.s.cols, timE t tx] = 0) : ChgOk t tx p fun _ => none := by
  rw [cmpOr2] at h2
  obtain ⟨a, b⟩ := insOk_parts h
  obtain ⟨e1, e2⟩ := or2_0 h2
  obtain ⟨e3, e4⟩ := timE_0 e2
  exact ⟨a, b, e3, e4, fun r hr u hu => by cases hu⟩
theorem upd_1 (h : insOk t p = false) : noT = updT d t tx c set mask p ∧ 1 = updE d t tx c set mask p := by
  have : updErr d t tx c set mask p = 1 := by unfold updErr; rw [h]; rfl
  unfold updT updE; rw [this]; exact ⟨rfl, rfl⟩
theorem updErr_is (h : insOk t p = true) : updErr d t tx c set mask p = if checkF d c t.s.cols ≠ 0 then checkF d c t.s.cols else if set.length ≠ t.s.cols.length ∨ mask.length ≠ t.s.cols.length then 1 else if typM t.s.cols set mask then timE t tx else 13 := by
  unfold updErr; rw [h, if_pos rfl]
theorem upd_2 (h : insOk t p = true) (h2 : checkF d c t.s.cols ≠ 0) : noT = updT d t tx c set mask p ∧ checkF d c t.s.cols = updE d t tx c set mask p := by
  have e : updErr d t tx c set mask p = checkF d c t.s.cols := by rw [updErr_is h, if_pos h2]
  unfold updT updE; rw [e, if_neg h2, if_neg h2]; exact ⟨rfl, rfl⟩
theorem upd_3 (h : insOk t p = true) (h2 : checkF d c t.s.cols = 0) (h3 : set.length ≠ t.s.cols.length ∨ mask.length ≠ t.s.cols.length) : noT = updT d t tx c set mask p ∧ 1 = updE d t tx c set mask p := by
  have e : updErr d t tx c set mask p = 1 := by rw [updErr_is h, if_neg (fun k => k h2), if_pos h3]
  unfold updT updE; rw [e]; exact ⟨rfl, rfl⟩
theorem upd_4 (h : insOk t p = true) (h2 : checkF d c t.s.cols = 0) (h3 : set.length = t.s.cols.length) (h4 : mask.length = t.s.cols.length) (h5 : typM t.s.cols set mask = false) : noT = updT d t tx c set mask p ∧ 13 = updE d t tx c set mask p := by
  have e : updErr d t tx c set mask p = 13 := by rw [updErr_is h, if_neg (fun k => k h2), if_neg (fun k => by rcases k with k | k <;> exact k (by assumption)), h5]; rfl
  unfold updT updE; rw [e]; exact ⟨rfl, rfl⟩
theorem updErr_5 (h : insOk t p = true) (h2 : checkF d c t.s.cols = 0) (h3 : set.length = t.s.cols.length) (h4 : mask.length = t.s.cols.length) (h5 : typM t.s.cols set mask = true) : updErr d t tx c set mask p = timE t tx := by
  rw [updErr_is h, if_neg (fun k => k h2), if_neg (fun k => by rcases k with k | k <;> exact k (by assumption)), h5]; rfl
theorem upd_5 (h : insOk t p = true) (h2 : checkF d c t.s.cols = 0) (h3 : set.length = t.s.cols.length) (h4 : mask.length = t.s.cols.length) (h5 : typM t.s.cols set mask = true) (h6 : timE t tx ≠ 0) : noT = updT d t tx c set mask p ∧ timE t tx = updE d t tx c set mask p := by
  unfold updT updE; rw [updErr_5 h h2 h3 h4 h5, if_neg h6, if_neg h6]; exact ⟨rfl, rfl⟩
theorem upd_6 (h : insOk t p = true) (h2 : checkF d c t.s.cols = 0) (h3 : set.length = t.s.cols.length) (h4 : mask.length = t.s.cols.length) (h5 : typM t.s.cols set mask = true) (h6 : timE t tx = 0) : doneT t tx (updRows d t tx c set mask p) = updT d t tx c set mask p ∧ doneTE (updRows d t tx c set mask p) = updE d t tx c set mask p := by
  unfold updT updE; rw [updErr_5 h h2 h3 h4 h5, if_pos h6, if_pos h6]; exact ⟨rfl, rfl⟩
end
section
variable {cols : List Col} {set : List Val} {mask : List Bool} {j : Nat}
theorem okM_1 {b : Bool} (h : mask[j]? = some b) (hb : b = false) : okM cols set mask j = true := by
  subst hb; unfold okM; rw [h]
  cases set[j]? with
  | none => rfl
  | some x => cases cols[j]? <;> rfl
theorem okM_y {b : Bool} {x : Val} {c : Col} (h : mask[j]? = some b) (hs : set[j]? = some x) (hc : cols[j]? = some c) (h1 : valB x = true) (h2 : x.k = c.kind) : okM cols set mask j = true := by
  unfold okM; rw [h, hs, hc]; simp [h1, h2]
theorem okM_n1 {b : Bool} {x : Val} (h : mask[j]? = some b) (hb : b = true) (hs : set[j]? = some x) (hj : j < cols.length) (h1 : valB x = false) : okM cols set mask j = false := by
  subst hb; unfold okM; rw [h, hs, List.getElem?_eq_getElem hj]; simp [h1]
theorem okM_n2 {b : Bool} {x : Val} {c : Col} (h : mask[j]? = some b) (hb : b = true) (hs : set[j]? = some x) (hc : cols[j]? = some c) (h2 : x.k ≠ c.kind) : okM cols set mask j = false := by
  subst hb; unfold okM; rw [h, hs, hc]; simp [h2]
theorem typM_no {k : Nat} {b : Bool} (h : mask[k]? = some b) (hk : okM cols set mask k = false) : typM cols set mask = false := by
  unfold typM
  rw [Bool.eq_false_iff]
  intro e
  rw [List.all_eq_true] at e
  have := e k (List.mem_range.2 (List.getElem?_eq_some_iff.1 h).1)
  rw [this] at hk; cases hk
theorem typM_yes {k : Nat} (h : ∀ i, i < k → okM cols set mask i = true) (hk : mask.length ≤ k) : typM cols set mask = true := by
  unfold typM; rw [List.all_eq_true]; intro i hi; exact h i (by have := List.mem_range.1 hi; omega)
theorem typM_val (h : typM cols set mask = true) (hl : set.length = cols.length) {b : Bool} {x : Val} (hm : mask[j]? = some b) (hb : b = true) (hs : set[j]? = some x) : valB x = true := by
  unfold typM at h
  rw [List.all_eq_true] at h
  have h1 := h j (List.mem_range.2 (List.getElem?_eq_some_iff.1 hm).1)
  have h2 := (List.getElem?_eq_some_iff.1 hs).1
  cases hv : valB x with
  | true => rfl
  | false => rw [okM_n1 hm hb hs (by omega) hv] at h1; cases h1
end
theorem maskV_valid : ∀ {v s : List Val} {m : List Bool}, v.all valB = true → (∀ (j : Nat) b x, m[j]? = some b → b = true → s[j]? = some x → valB x = true) → (maskV v s m).all valB = true
  | [], s, m, _, _ => by simp [maskV]
  | x :: v, [], m, h, _ => by simpa [maskV] using h
  | x :: v, y :: s, [], h, _ => by simpa [maskV] using h
  | x :: v, y :: s, b :: m, h, h2 => by
    simp only [List.all_cons, Bool.and_eq_true] at h
    simp only [maskV, List.all_cons, Bool.and_eq_true]
    refine ⟨?_, maskV_valid h.2 fun j b x k1 k2 k3 => h2 (j + 1) b x (by simpa using k1) k2 (by simpa using k3)⟩
    cases b with
    | true => exact h2 0 true y rfl rfl rfl
    | false => exact h.1
theorem upd_ok {t : Table} {tx : Int} {p : Span} {set : List Val} {mask : List Bool} (h : insOk t p = true) (h3 : set.length = t.s.cols.length) (h5 : typM t.s.cols set mask = true) (h6 : timE t tx = 0) : ChgOk t tx p fun v => some (maskV v set mask) := by
  obtain ⟨a, b⟩ := insOk_parts h
  obtain ⟨e3, e4⟩ := timE_0 h6
  refine ⟨a, b, e3, e4, fun r hr u hu => ?_⟩
  obtain rfl := Option.some.inj hu
  obtain ⟨_, g2, _, g4, g5, _⟩ := validT_row1 a hr
  exact ⟨maskV_valid g5 fun j b x k1 k2 k3 => typM_val h5 h3 k1 k2 k3, by rw [maskV_len]; exact g2⟩
section
variable {t : Table} {a b : Int}
end
end Go.Civ
namespace Go.Civ
open Go.RowKit
set_option linter.unusedVariables false
def UpV (out : VV) (v : List Val) (k : Nat) : Prop := ∀ j, k ≤ j → ∀ u, out[j]? = some u → 0 < cmpL cmpV u v
theorem UpV.start {out : VV} {v : List Val} : UpV out v out.length := fun j hj u hu => by have := (List.getElem?_eq_some_iff.1 hu).1; omega
theorem UpV.step {out : VV} {v u : List Val} {k : Nat} (h : UpV out v k) (hu : out[k - 1]? = some u) (h1 : 0 < cmpL cmpV u v) : UpV out v (k - 1) := fun j hj w hw => by
  by_cases e : k ≤ j
  · exact h j e w hw
  · obtain rfl : j = k - 1 := by omega
    rw [hu] at hw; obtain rfl := Option.some.inj hw; exact h1
end Go.Civ
namespace Go.Civ
end Go.Civ
namespace Go.Civ
end Go.Civ
namespace Go.Civ
open Go.RowKit
set_option linter.unusedVariables false
def hereB (at_ tx : Int) (r : HRow) : Bool := decide (r.r.d.a ≤ at_) && decide (at_ < r.r.d.b) && liveB tx r
def hereH (l : List HRow) (at_ tx : Int) : List HRow := l.filter (hereB at_ tx)
def rsnapH (l : List HRow) (at_ tx : Int) : VV := valsH (hereH l at_ tx)
section
variable {hl : List Val → Bool} {nx : List Val → Option (List Val)} {tx : Int} {d : Span} {l : List HRow} {k : Nat} {r : HRow}
end
end Go.Civ
set_option linter.unusedVariables false
namespace Go.Civ
open Go.Proofs Go.Shelf Go.RowKit Go.Lib Go.Sort

theorem sortI_eq (l : List Int) : sortI l = sortZ l := rfl
set_option maxHeartbeats 1000000 in
theorem c_Compact {G : GH} {w : World} (hG : G.In w) (l : List Int) (vd : Value) (od : OB) (hvd : Row Enc.int 8 (nat_lit 3) G vd l od) (hod : Lent w G od) :
    Calls Tryz.prog (nat_lit 160) #[vd] w fun e w' => ∃ r G', e = .returned r ∧ Res (blk od) w G w' G' ∧ ∃ (o' : OB), Row Enc.int 8 (nat_lit 3) G' r (compact l) o' ∧ Lent w' G' o' ∧ blk o' = blk od := by
  rcases hvd with ⟨rfl, rfl, rfl⟩ | ⟨b, cs, cap, xs, rfl, rfl, h3, h4, h5, h6, h7, h8, h9⟩
  · exact (Any.slices_Compact_int_empty Tryz.laysCompact none 0 w).mono fun e w' ⟨he, hw⟩ => by
      subst hw
      exact ⟨_, G, he, Res.refl hG, none, .inl ⟨rfl, rfl, rfl⟩, fun p hp => (by cases hp), rfl⟩
  · obtain ⟨hb1, hb2⟩ := hod _ rfl
    obtain ⟨rfl, hI⟩ := flatInt_cells l xs h6
    have hE : Enc.int.n = 1 := rfl
    rw [hE, Nat.mul_one] at h5 h7
    have hcell : ∀ t, t < l.length → cs[t]? = some (.int .i64 l[t]!) := fun t ht => by
      have := congrArg (·[t]?) h7
      simp only [List.getElem?_take, if_pos ht, List.getElem?_map] at this
      rw [this, List.getElem?_eq_getElem ht, getElem!_pos l t ht]; rfl
    have hH : Holds (Value.int .i64) w b 0 l.toArray := fun t ht => by
      have ht' : t < l.length := by simpa using ht
      refine ⟨?_, ?_⟩
      · rw [Nat.zero_add]
        simp only [World.cell?, hb1, objOf]
        have := hcell t ht'
        rw [getElem!_pos l t ht'] at this
        rw [getElem!_pos l.toArray t ht]
        simpa using this
      · simp [World.frozen?, hb1, objOf]
    have hcon := Any.slices_Compact_int Tryz.laysCompact b 0 cap l w hH (by unfold reach at h9; omega) h3
    refine hcon.mono fun e w' ⟨he, q, hw⟩ => ?_
    have hlen := compact_len l
    have hbl : b < w.heap.size := (Array.getElem?_eq_some_iff.1 hb1).1
    obtain ⟨z, hz⟩ : ∃ z : List Int, z = compact l ++ List.replicate (l.length - (compact l).length) 0 := ⟨_, rfl⟩
    have hzl : z.length = l.length := by subst hz; simp; omega
    rw [← hz] at hw
    obtain ⟨cs', hcs'⟩ : ∃ cs' : List Value, cs' = (putCells (Value.int .i64) 0 z.toArray cs.toArray).toList := ⟨_, rfl⟩
    have hget : ∀ k, w'.heap[k]? = if b = k then some (.cells cs'.toArray (nat_lit 3) (0, 0)) else w.heap[k]? := fun k => by
      subst hw
      have hah : (Go.Sort.ahead w q).heap = w.heap := rfl
      simp only [putRow, mapBlock, hah]
      rw [Array.getElem?_modify]
      by_cases hkb : b = k
      · subst hkb
        rw [if_pos rfl, if_pos rfl, hb1]
        simp [objOf, onCells, hcs']
      · rw [if_neg hkb, if_neg hkb]
    have hres : Res [b] w G w' G := by
      refine ⟨?_, G.le_refl, fun _ _ => rfl, fun k o hk => ?_⟩
      · refine ⟨by subst hw; rfl, by subst hw; rfl, by subst hw; rfl, by subst hw; exact Nat.le_add_right _ _, ?_, fun k hk hkb => ?_⟩
        · subst hw
          have hah : (Go.Sort.ahead w q).heap = w.heap := rfl
          simp [putRow, mapBlock]
          try simp [hah]
        · rw [hget, if_neg (by simpa [eq_comm] using hkb)]
      · have hkb : b ≠ k := fun e => by subst e; simp only at hb2; rw [hb2] at hk; cases hk
        rw [hget, if_neg hkb]; exact hG k o hk
    have hI' : ∀ x ∈ compact l, I64 x := fun x hx => by
      unfold compact compactUpTo at hx
      obtain ⟨j, hj, rfl⟩ := List.mem_map.1 hx
      have hj' : j < l.length := by simpa using (List.mem_filter.1 hj).1
      rw [getElem!_pos l.toArray j (by simpa using hj')]
      exact hI _ (by simp)
    have hby : (compact l).length * 8 ≤ reach := Nat.le_trans (Nat.mul_le_mul_right _ hlen) h8
    refine ⟨_, G, he, hres, some (b, nat_lit 3, cs'), .inr ⟨b, cs', cap, (compact l).map (Value.int .i64), rfl, rfl, Nat.le_trans hlen h3, h4, ?_, flatInt _ hI', ?_, hby, Nat.le_trans hlen h9⟩, fun p hp => ?_, rfl⟩
    · subst hcs'; rw [hE]; simpa [putCells] using h5
    · rw [hE, Nat.mul_one]
      apply List.ext_getElem?
      intro t
      rw [List.getElem?_take]
      by_cases ht : t < (compact l).length
      · have htc : t < cs.length := by omega
        have htz : z[t]? = (compact l)[t]? := by rw [hz, List.getElem?_append_left ht]
        have htz' : t < z.length := by omega
        rw [if_pos ht, hcs']
        simp only [putCells, Array.getElem?_toList, Array.getElem?_mapIdx]
        simp only [List.getElem?_toArray]
        rw [List.getElem?_eq_getElem htc, List.getElem?_map, ← htz, List.getElem?_eq_getElem htz']
        simp [htz']
      · rw [if_neg ht, List.getElem?_eq_none]
        simp; omega
    · obtain rfl := Option.some.inj hp
      exact ⟨by rw [hget, if_pos rfl]; rfl, hb2⟩
end Go.Civ
namespace Go.Civ
open Go.RowKit
set_option linter.unusedVariables false
def longB (x : HRow) : Bool := decide (8 < (x.v.length : Int))
def greatH (l : List HRow) : Bool := decide (24 < (l.length : Int)) || l.any longB
theorem great_1 {l : List HRow} (h : 24 < (l.length : Int)) : true = greatH l := by unfold greatH; rw [decide_eq_true h]; rfl
theorem great_2 {l : List HRow} (h : (l.length : Int) ≤ 24) : l.any longB = greatH l := by unfold greatH; rw [decide_eq_false (by omega)]; rfl
theorem great_no {l : List HRow} (h : greatH l = false) : l.length ≤ 24 ∧ ∀ r ∈ l, r.v.length ≤ 8 := by
  unfold greatH at h
  simp only [Bool.or_eq_false_iff, decide_eq_false_iff_not, List.any_eq_false] at h
  refine ⟨by omega, fun r hr => ?_⟩
  have := h.2 r hr
  unfold longB at this
  simp only [decide_eq_true_eq] at this; omega
section
variable {t : Table} {tx : Int} {v : List Val} {d : Span} {rows : List HRow}
end
section
variable {k : Nat} {t : Table} {tx : Int} {c : Cond} {d : Span}
end
section
variable {k : Nat} {t : Table} {tx : Int} {c : Cond} {set : List Val} {mask : List Bool} {d : Span}
end
theorem newT_valid {s : Schema} (h : schB s = true) : validT (newT s) = true := by
  unfold newT; rw [if_pos h]
  unfold validT; simp only [h]; rfl
theorem newT_yes {s : Schema} (h : schB s = true) : newT s = ⟨s, [], -62135596801⟩ ∧ newE s = 0 := ⟨(new_y h).1.symm, (new_y h).2.symm⟩
end Go.Civ
namespace Go.Civ
def colT : Schema := ⟨[116], [⟨[97], 1⟩], 1, []⟩
end Go.Civ
