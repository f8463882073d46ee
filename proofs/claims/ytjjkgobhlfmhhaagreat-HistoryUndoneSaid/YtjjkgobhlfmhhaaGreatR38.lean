/- Lemmas: Civ72. -/
import Derived.Test.YtjjkgobhlfmhhaaGreatR37
namespace Go.Civ
open Go.RowKit
set_option linter.unusedVariables false
def eqC (c : Col) (x : Val) : Cond := ⟨1, c.name, [], x, []⟩
def andC (a b : Cond) : Cond := ⟨5, [], [], ⟨0, 0, []⟩, [a, b]⟩
def alwC : Cond := ⟨3, [], [], ⟨0, 0, []⟩, []⟩
def undC (cols : List Col) (v : List Val) (k : Nat) : Cond := ((cols.zip v).take k).foldl (fun c p => andC c (eqC p.1 p.2)) alwC
theorem undC_step {cols : List Col} {v : List Val} {k : Nat} {c : Col} {x : Val} (h1 : cols[k]? = some c) (h2 : v[k]? = some x) : undC cols v (k + 1) = andC (undC cols v k) (eqC c x) := by
  unfold undC
  have e : (cols.zip v)[k]? = some (c, x) := List.getElem?_zip_eq_some.2 ⟨h1, h2⟩
  rw [List.take_add_one, e]; simp [List.foldl_append]
theorem undC_stop {cols : List Col} {v : List Val} {k : Nat} (h : v.length ≤ k) : undC cols v (k + 1) = undC cols v k := by
  unfold undC
  rw [List.take_of_length_le (by rw [List.length_zip]; omega), List.take_of_length_le (by rw [List.length_zip]; omega)]
theorem find_at {cols : List Col} (hd : distB (cols.map Col.name) = true) {i : Nat} {c : Col} (h : cols[i]? = some c) : findC cols c.name = (i : Int) := by
  refine findC_yes h rfl fun j hj x hx => ?_
  have hc : (cols.map Col.name)[i]? = some c.name := by rw [List.getElem?_map, h]; rfl
  unfold distB at hd
  rw [List.all_eq_true] at hd
  have := hd (c.name, i) (List.mem_zipIdx_iff_getElem?.2 hc)
  unfold distA at this
  simp only [Bool.and_eq_true, Bool.not_eq_true', List.any_eq_false] at this
  have h2 := this.2 x.name (by
    have hxm : (cols.map Col.name)[j]? = some x.name := by rw [List.getElem?_map, hx]; rfl
    exact List.mem_of_getElem? (by rw [List.getElem?_take, if_pos hj]; exact hxm))
  simpa using h2
theorem und_mean {cols : List Col} {v u : List Val} (hd : distB (cols.map Col.name) = true) (hu : u.length = cols.length) : ∀ k, k ≤ cols.length → k ≤ v.length →
    (meanF (k + 1) (undC cols v k) cols u = true ↔ ∀ i, i < k → u[i]? = v[i]?)
  | 0, _, _ => by
    have e : undC cols v 0 = alwC := rfl
    rw [e]
    have : meanF (0 + 1) alwC cols u = true := mean_t (by decide) (by decide) (by decide) (by decide) (by decide)
    rw [this]
    simp
  | k + 1, h1, h2 => by
    have hc : cols[k]? = some cols[k] := List.getElem?_eq_getElem (by omega)
    have hx : v[k]? = some v[k] := List.getElem?_eq_getElem (by omega)
    have hy : u[k]? = some u[k] := List.getElem?_eq_getElem (by omega)
    rw [undC_step hc hx, mean_5 (x := undC cols v k) (y := eqC cols[k] v[k]) rfl rfl rfl, Bool.and_eq_true, und_mean hd hu k (by omega) (by omega)]
    have hm : meanF (k + 1) (eqC cols[k] v[k]) cols u = decide (u[k] = v[k]) := by
      rw [mean_cmp (.inl rfl)]
      have hf : findC cols cols[k].name = (k : Int) := find_at hd hc
      have e1 : cmpM (eqC cols[k] v[k]) cols u = cmpV u[k] v[k] := cmpM_v (by show u[(findC cols cols[k].name).toNat]? = _; rw [hf]; exact hy) rfl
      rw [e1]
      by_cases e : u[k] = v[k]
      · rw [(cmpV_ord.eq _ _).2 e, decide_eq_true e]; rfl
      · rw [decide_eq_false e, decide_eq_false (fun q => e ((cmpV_ord.eq _ _).1 q))]
        simp [eqC]
    rw [hm, decide_eq_true_eq]
    constructor
    · rintro ⟨a, b⟩ i hi
      by_cases e : i = k
      · subst e; rw [hx, hy, b]
      · exact a i (by omega)
    · intro a
      refine ⟨fun i hi => a i (by omega), ?_⟩
      have := a k (by omega)
      rw [hx, hy] at this
      exact Option.some.inj this
theorem kinds_of {s : Schema} {l : List Val} (h : rowE s l = 0) : l.map Val.k = s.cols.map Col.kind := by
  obtain ⟨h1, h2, h3⟩ := rowE_parts h
  have h5 := (rowE_len h).2.2.1
  apply List.ext_getElem?
  intro j
  rw [List.getElem?_map, List.getElem?_map]
  cases hx : l[j]? with
  | none => rw [List.getElem?_eq_none (by have := List.getElem?_eq_none_iff.1 hx; omega)]; rfl
  | some x =>
    have := (List.getElem?_eq_some_iff.1 hx).1
    have hcj : s.cols[j]? = some s.cols[j] := List.getElem?_eq_getElem (by omega)
    rw [hcj]
    have := of_decide_eq_true (eqF_at (f := fun (c : Col) (x : Val) => decide (c.kind = x.k)) h3 hcj hx)
    simp only [Option.map_some, this]
theorem und_hold {s : Schema} {v u : List Val} (hv : rowE s v = 0) (hu : rowE s u = 0) {k : Nat} (hk : s.cols.length = k) (hc : checkF (k + 1) (undC s.cols v k) s.cols = 0) :
    hldB (k + 1) (undC s.cols v k) (s.cols.map Col.name) u = decide (u = v) := by
  subst hk
  have lu := rowE_len hu
  have lv := rowE_len hv
  have hsd : distB (s.cols.map Col.name) = true := by
    have := (rowE_parts hu).1
    unfold schB schA at this
    simp only [Bool.and_eq_true] at this
    exact this.1.2
  have e := cols_eq (kinds_of hu)
  rw [(hld_ok' e.symm (hld_g (by rw [List.length_map]; exact lu.2.2.1.symm) (by rw [List.length_map]; omega) lu.2.1) hc).1]
  have h := und_mean (v := v) hsd lu.2.2.1 s.cols.length (Nat.le_refl _) (by omega)
  by_cases q : u = v
  · rw [decide_eq_true q]; exact h.2 fun i hi => by rw [q]
  · rw [decide_eq_false q, ← Bool.not_eq_true]
    intro k
    refine q (List.ext_getElem? fun i => ?_)
    by_cases hi : i < s.cols.length
    · exact h.1 k i hi
    · rw [List.getElem?_eq_none (by omega), List.getElem?_eq_none (by omega)]

section
variable {t : Table} {tx at_ : Int} {d : Span} {v u : List Val} {a y : Int}
theorem hasP_late {l : List HRow} (hg : GoodH l) (h : HasP l u a y) : y < 253402300800 := by
  obtain ⟨r, hr, _, hh⟩ := h
  have := (goodB_parts (hg r hr)).2.2
  have h2 := here_iff.1 hh
  unfold spanB at this
  simp at this; omega
theorem ins_again (h : insE_ t tx v d = 0) (h1 : instB (tx + 1) = true) : insE_ (insT t tx v d) (tx + 1) v d = 0 ∧ (insT (insT t tx v d) (tx + 1) v d).rows = (insT t tx v d).rows ∧ (insT (insT t tx v d) (tx + 1) v d).last = tx + 1 := by
  have H := ins_parts h
  have hv := H.new.valid
  have hs : (insT t tx v d).s = t.s := by rw [H.new.is]
  have hr : (insT t tx v d).rows = normH (insRows t tx v d) := by rw [H.new.is]
  have hl : (insT t tx v d).last = tx := by rw [H.new.is]
  have ho := insOk_y (t := insT t tx v d) hv H.span
  have e0 : cmpOr [rowE (insT t tx v d).s v, timE (insT t tx v d) (tx + 1)] = 0 := by
    rw [cmpOr2]; unfold or2; rw [hs, H.row, if_neg (fun k => k rfl)]; exact (timE_3 h1 (by rw [hl]; omega)).symm
  have h3 := ins_3 (t := insT t tx v d) (tx := tx + 1) (v := v) (d := d) ho e0
  have hg := insRows_good hv H.span e0
  have hgv := (validT_good hv).1
  have key : normH (insRows (insT t tx v d) (tx + 1) v d) = (insT t tx v d).rows := by
    rw [norm_ext hg.1 hgv fun u a y => ?_, ← (validT_good hv).2.2.2]
    constructor
    · intro k
      have hy := hasP_late hg.1 k
      rcases (has_ins hy).1 k with k | ⟨rfl, k2, k3, k4⟩
      · exact k
      · rw [hr]
        exact (has_norm H.new.good _ _ _).2 ((has_ins hy).2 (.inr ⟨rfl, k2, k3, by omega⟩))
    · intro k; exact (has_ins (hasP_late hgv k)).2 (.inl k)
  have hlen := (validT_good hv).2.1
  rw [← h3.1, ← h3.2]
  unfold doneT doneTE
  rw [key, if_pos hlen, if_pos hlen]
  exact ⟨rfl, rfl, rfl⟩

theorem has_last9 (h : validT t = true) (h1 : t.last < tx) (h2 : tx < 253402300800) : HasP t.rows u a tx ↔ HasP t.rows u a (max t.last (-62135596800)) := by
  have key : ∀ r ∈ t.rows, (hereB a tx r = true ↔ hereB a (max t.last (-62135596800)) r = true) := fun r hr => by
    obtain ⟨_, p2, p3, p4⟩ := rowOk_parts ((validT_parts h).2.2.2.2.1 r hr)
    have p5 := (goodB_parts p2).2.2
    have p6 := (validT_parts h).2.2.1
    unfold spanB at p5
    simp at p5
    rw [here_iff, here_iff]
    constructor <;> rintro ⟨q1, q2, q3, q4⟩ <;> refine ⟨q1, q2, ?_, ?_⟩ <;> omega
  constructor <;> rintro ⟨r, hr, hv, hh⟩
  · exact ⟨r, hr, hv, (key r hr).1 hh⟩
  · exact ⟨r, hr, hv, (key r hr).2 hh⟩
def thereB (v : List Val) (d : Span) (r : HRow) : Bool := decide (r.v = v) && decide (r.r.x.b = 253402300800) && decide (r.r.d.a < d.b) && decide (d.a < r.r.d.b)
theorem there_no (h : validT t = true) (hn : t.rows.any (thereB v d) = false) (h1 : t.last < tx) (h2 : d.a ≤ a) (h3 : a < d.b) : ¬ HasP t.rows v a tx := by
  rintro ⟨r, hr, hv, hh⟩
  obtain ⟨q1, q2, q3, q4⟩ := here_iff.1 hh
  obtain ⟨_, p2, p3, p4⟩ := rowOk_parts ((validT_parts h).2.2.2.2.1 r hr)
  rw [List.any_eq_false] at hn
  refine hn r hr ?_
  unfold thereB
  simp only [Bool.and_eq_true, decide_eq_true_eq]
  exact ⟨⟨⟨hv, by omega⟩, by omega⟩, by omega⟩
theorem inst_max (h : validT t = true) : instB (max t.last (-62135596800)) = true := by
  have p := (validT_parts h).2.2.1
  unfold instB; simp; omega
theorem und_law {k : Nat} (h : insE_ t tx v d = 0) (h1 : instB (tx + 1) = true) (ha : instB at_ = true) (hk : t.s.cols.length = k) (hd : delE (k + 1) (insT t tx v d) (tx + 1) (undC t.s.cols v k) d = 0) (hn : t.rows.any (thereB v d) = false) :
    snapH (delT (k + 1) (insT t tx v d) (tx + 1) (undC t.s.cols v k) d) at_ (tx + 1) = snapH t at_ (max t.last (-62135596800)) := by
  have H := ins_parts h
  obtain ⟨hc, C⟩ := del_parts hd
  have hs : (insT t tx v d).s = t.s := by rw [H.new.is]
  rw [hs] at hc
  have htx := instB_parts H.inst
  have hb := instB_parts h1
  refine snap_same H.valid C.new.valid ha h1 ha (inst_max H.valid) fun u => ?_
  rw [pt_later (later := tx + 1) (past := tx) C ha h1 H.inst (Int.le_refl _) (by omega), show tx + 1 - 1 = tx by omega, snapH_iff H.valid ha (inst_max H.valid), ← has_last9 H.valid H.late htx.2]
  have hin : ∀ w, w ∈ snapH (insT t tx v d) at_ tx ↔ HasP t.rows w at_ tx ∨ (v = w ∧ d.a ≤ at_ ∧ at_ < d.b) := fun w => by
    rw [new_snap H.new ha H.inst, has_ins htx.2]
    constructor
    · rintro (k | ⟨k1, k2, k3, _⟩)
      · exact .inl k
      · exact .inr ⟨k1, k2, k3⟩
    · rintro (k | ⟨k1, k2, k3⟩)
      · exact .inl k
      · exact .inr ⟨k1, k2, k3, Int.le_refl _⟩
  have hld : ∀ w, w ∈ snapH (insT t tx v d) at_ tx → hldB (k + 1) (undC t.s.cols v k) (nms (insT t tx v d)) w = decide (w = v) := fun w hw => by
    obtain ⟨_, _, _, hw2, _⟩ := snap_val H.new.valid ha H.inst hw
    unfold nms
    rw [hs] at hw2 ⊢
    exact und_hold H.row hw2 hk hc
  constructor
  · rintro ⟨w, hw, ⟨q, rfl⟩ | ⟨_, _, q⟩⟩
    · rcases (hin w).1 hw with k1 | ⟨k1, k2, k3⟩
      · exact k1
      · exfalso
        rcases q with q | q
        · exact q ⟨k2, k3⟩
        · rw [hld w hw, decide_eq_true k1.symm] at q; cases q
    · cases q
  · intro hu
    have hw : u ∈ snapH (insT t tx v d) at_ tx := (hin u).2 (.inl hu)
    refine ⟨u, hw, .inl ⟨?_, rfl⟩⟩
    by_cases q : d.a ≤ at_ ∧ at_ < d.b
    · right
      rw [hld u hw]
      refine decide_eq_false fun e => ?_
      rw [e] at hu
      exact there_no H.valid hn H.late q.1 q.2 hu
    · exact .inl q
end

def uStep (p a : Int) (s : VV) (r : HRow) : VV := if inS a r.r.d then (if r.r.x.a = p then s.filter (fun l => !decide (l = r.v)) else s ++ [r.v]) else s
def uRun (p a : Int) (s : VV) (D : List HRow) : VV := D.foldl (uStep p a) s
theorem uRun_take {p a : Int} {s : VV} {D : List HRow} {k : Nat} {r : HRow} (h : D[k]? = some r) : uRun p a s (D.take (k + 1)) = uStep p a (uRun p a s (D.take k)) r := by
  rw [List.take_add_one, h]; simp [uRun, List.foldl_append]
theorem uRun_len {p a : Int} {s : VV} : ∀ (n : Nat) (D : List HRow), D.length = n → (uRun p a s D).length ≤ s.length + n
  | 0, D, h => by obtain rfl := List.length_eq_zero_iff.1 h; exact Nat.le_refl _
  | n + 1, D, h => by
    obtain ⟨e, x, rfl⟩ : ∃ e x, D = e ++ [x] := ⟨D.dropLast, D.getLast (by intro k; simp [k] at h), (List.dropLast_concat_getLast _).symm⟩
    have ih := uRun_len (p := p) (a := a) (s := s) n e (by simpa using h)
    have e1 : uRun p a s (e ++ [x]) = uStep p a (uRun p a s e) x := by simp [uRun, List.foldl_append]
    rw [e1]
    unfold uStep
    split
    · split
      · have := List.length_filter_le (fun l => !decide (l = x.v)) (uRun p a s e); omega
      · simp; omega
    · omega
theorem uRun_spec {p a : Int} : ∀ (D : List HRow) (s : VV), s.Nodup → ((D.filter fun r => inS a r.r.d).map HRow.v).Nodup → (∀ r ∈ D, inS a r.r.d = true → r.r.x.a ≠ p → r.v ∉ s) →
    (uRun p a s D).Nodup ∧ ∀ u, u ∈ uRun p a s D ↔ (u ∈ s ∧ ¬ ∃ r ∈ D, inS a r.r.d = true ∧ r.r.x.a = p ∧ r.v = u) ∨ ∃ r ∈ D, inS a r.r.d = true ∧ r.r.x.a ≠ p ∧ r.v = u
  | [], s, hs, _, _ => ⟨hs, fun u => by simp [uRun]⟩
  | r :: D, s, hs, hd, hn => by
    have e1 : uRun p a s (r :: D) = uRun p a (uStep p a s r) D := rfl
    cases hi : inS a r.r.d with
    | false =>
      have e2 : uStep p a s r = s := by unfold uStep; rw [hi]; rfl
      have ih := uRun_spec (p := p) (a := a) D s hs (by rw [List.filter_cons, hi] at hd; exact hd) fun q hq => hn q (by simp [hq])
      rw [e1, e2]
      refine ⟨ih.1, fun u => (ih.2 u).trans ?_⟩
      have f1 : (∃ q ∈ r :: D, inS a q.r.d = true ∧ q.r.x.a = p ∧ q.v = u) ↔ ∃ q ∈ D, inS a q.r.d = true ∧ q.r.x.a = p ∧ q.v = u := by
        constructor
        · rintro ⟨q, hq, k⟩
          rcases List.mem_cons.1 hq with rfl | hq
          · rw [hi] at k; cases k.1
          · exact ⟨q, hq, k⟩
        · rintro ⟨q, hq, k⟩; exact ⟨q, by simp [hq], k⟩
      have f2 : (∃ q ∈ r :: D, inS a q.r.d = true ∧ q.r.x.a ≠ p ∧ q.v = u) ↔ ∃ q ∈ D, inS a q.r.d = true ∧ q.r.x.a ≠ p ∧ q.v = u := by
        constructor
        · rintro ⟨q, hq, k⟩
          rcases List.mem_cons.1 hq with rfl | hq
          · rw [hi] at k; cases k.1
          · exact ⟨q, hq, k⟩
        · rintro ⟨q, hq, k⟩; exact ⟨q, by simp [hq], k⟩
      rw [f1, f2]
    | true =>
      have hd2 : (r.v :: (D.filter fun r => inS a r.r.d).map HRow.v).Nodup := by rw [List.filter_cons, hi] at hd; exact hd
      obtain ⟨d1, d2⟩ := List.nodup_cons.1 hd2
      have nov : ∀ q ∈ D, inS a q.r.d = true → q.v ≠ r.v := fun q hq hh e => d1 (List.mem_map.2 ⟨q, List.mem_filter.2 ⟨hq, hh⟩, e⟩)
      by_cases hp : r.r.x.a = p
      · have e2 : uStep p a s r = s.filter (fun l => !decide (l = r.v)) := by unfold uStep; rw [hi, if_pos rfl, if_pos hp]
        have ih := uRun_spec (p := p) (a := a) D (s.filter (fun l => !decide (l = r.v))) (hs.filter _) d2 fun q hq h1 h2 h3 => hn q (by simp [hq]) h1 h2 (List.mem_filter.1 h3).1
        rw [e1, e2]
        refine ⟨ih.1, fun u => (ih.2 u).trans ?_⟩
        rw [List.mem_filter]
        constructor
        · rintro (⟨⟨k1, k2⟩, k3⟩ | ⟨q, hq, k⟩)
          · refine .inl ⟨k1, ?_⟩
            rintro ⟨q, hq, k⟩
            rcases List.mem_cons.1 hq with rfl | hq
            · simp [k.2.2] at k2
            · exact k3 ⟨q, hq, k⟩
          · exact .inr ⟨q, by simp [hq], k⟩
        · rintro (⟨k1, k2⟩ | ⟨q, hq, k⟩)
          · refine .inl ⟨⟨k1, ?_⟩, fun ⟨q, hq, k⟩ => k2 ⟨q, by simp [hq], k⟩⟩
            have : ¬ u = r.v := fun e => k2 ⟨r, by simp, hi, hp, e.symm⟩
            simpa using this
          · rcases List.mem_cons.1 hq with rfl | hq
            · exact absurd hp k.2.1
            · exact .inr ⟨q, hq, k⟩
      · have e2 : uStep p a s r = s ++ [r.v] := by unfold uStep; rw [hi, if_pos rfl, if_neg hp]
        have hrs := hn r (by simp) hi hp
        have ih := uRun_spec (p := p) (a := a) D (s ++ [r.v]) (by
          rw [List.nodup_append]
          refine ⟨hs, by simp, fun x hx y hy e => hrs ?_⟩
          rw [← List.mem_singleton.1 hy, ← e]; exact hx) d2 fun q hq h1 h2 h3 => by
            rcases List.mem_append.1 h3 with h3 | h3
            · exact hn q (by simp [hq]) h1 h2 h3
            · exact nov q hq h1 (List.mem_singleton.1 h3)
        rw [e1, e2]
        refine ⟨ih.1, fun u => (ih.2 u).trans ?_⟩
        rw [List.mem_append, List.mem_singleton]
        constructor
        · rintro (⟨k1 | k1, k3⟩ | ⟨q, hq, k⟩)
          · refine .inl ⟨k1, ?_⟩
            rintro ⟨q, hq, k⟩
            rcases List.mem_cons.1 hq with rfl | hq
            · exact hp k.2.1
            · exact k3 ⟨q, hq, k⟩
          · exact .inr ⟨r, by simp, hi, hp, k1.symm⟩
          · exact .inr ⟨q, by simp [hq], k⟩
        · rintro (⟨k1, k2⟩ | ⟨q, hq, k⟩)
          · exact .inl ⟨.inl k1, fun ⟨q, hq, k⟩ => k2 ⟨q, by simp [hq], k⟩⟩
          · rcases List.mem_cons.1 hq with rfl | hq
            · exact .inl ⟨.inr k.2.2.symm, fun ⟨q2, hq2, k2⟩ => nov q2 hq2 k2.1 (k2.2.2.trans k.2.2.symm)⟩
            · exact .inr ⟨q, hq, k⟩
theorem outN_here {v : List Val} {now : List Span} {p q a : Int} : ((outN v now p q).filter fun r => inS a r.r.d).map HRow.v = (now.filter (inS a)).map fun _ => v := by
  unfold outN
  rw [List.filter_map, List.map_map]; rfl
theorem cov_in {l m : List Span} (hl : Can l) (hm : Can m) {a : Int} : inR (combR 3 l m) a = (inR l a && !inR m a) := by
  rw [Bool.eq_iff_iff, inR_iff, (combR_inv (kind := 3) rfl hl.pos hm.pos).2]
  simp [keepB]
theorem chgs_mem {l : List HRow} {p q a : Int} {r : HRow} (hg : GoodH l) (h : r ∈ chgsOf l p q) (hi : inS a r.r.d = true) :
    (r.r.x.a = p ∧ HasP l r.v a p ∧ ¬ HasP l r.v a q) ∨ (r.r.x.a = q ∧ HasP l r.v a q ∧ ¬ HasP l r.v a p) := by
  obtain ⟨g, hgm, hr⟩ := List.mem_flatMap.1 h
  unfold grpH at hgm
  obtain ⟨v, hv, rfl⟩ := List.mem_map.1 hgm
  have cp := timesH_can (hg.of v) p
  have cq := timesH_can (hg.of v) q
  have cv : ∀ (m : List Span), r.r.d ∈ m → inR m a = true := fun m hm => inR_iff.2 ⟨r.r.d, hm, by unfold inS at hi; simpa using hi⟩
  simp only at hr
  rcases List.mem_append.1 hr with hr | hr
  · left
    unfold outN at hr
    obtain ⟨s, hs, rfl⟩ := List.mem_map.1 hr
    have := cv _ hs
    rw [cov_in cp cq, Bool.and_eq_true, Bool.not_eq_true'] at this
    refine ⟨rfl, (has_cover hg v a p).1 (inR_iff.1 this.1), fun k => ?_⟩
    rw [inR_iff.2 ((has_cover hg v a q).2 k)] at this; cases this.2
  · right
    unfold outN at hr
    obtain ⟨s, hs, rfl⟩ := List.mem_map.1 hr
    have := cv _ hs
    rw [cov_in cq cp, Bool.and_eq_true, Bool.not_eq_true'] at this
    refine ⟨rfl, (has_cover hg v a q).1 (inR_iff.1 this.1), fun k => ?_⟩
    rw [inR_iff.2 ((has_cover hg v a p).2 k)] at this; cases this.2
theorem chgs_has {l : List HRow} {p q a : Int} {u : List Val} (hg : GoodH l) :
    (HasP l u a p → ¬ HasP l u a q → ∃ r ∈ chgsOf l p q, inS a r.r.d = true ∧ r.r.x.a = p ∧ r.v = u) ∧ (HasP l u a q → ¬ HasP l u a p → ∃ r ∈ chgsOf l p q, inS a r.r.d = true ∧ r.r.x.a = q ∧ r.v = u) := by
  have cp := timesH_can (hg.of u) p
  have cq := timesH_can (hg.of u) q
  have mem : ∀ x, HasP l u a x → (⟨u, ofV l u⟩ : HGrp) ∈ grpH l := fun x hx => List.mem_map.2 ⟨u, (vals_has hg).2 ⟨a, x, hx⟩, rfl⟩
  have nin : ∀ x, ¬ HasP l u a x → inR (timesH (ofV l u) x) a = false := fun x hx => by
    rw [← Bool.not_eq_true]; intro k; exact hx ((has_cover hg u a x).1 (inR_iff.1 k))
  constructor
  · intro h1 h2
    have : inR (combR 3 (timesH (ofV l u) p) (timesH (ofV l u) q)) a = true := by
      rw [cov_in cp cq, inR_iff.2 ((has_cover hg u a p).2 h1), nin q h2]; rfl
    obtain ⟨s, hs, k⟩ := inR_iff.1 this
    exact ⟨⟨u, ⟨s, ⟨p, q⟩⟩⟩, List.mem_flatMap.2 ⟨_, mem p h1, List.mem_append_left _ (List.mem_map.2 ⟨s, hs, rfl⟩)⟩, by unfold inS; simpa using k, rfl, rfl⟩
  · intro h1 h2
    have : inR (combR 3 (timesH (ofV l u) q) (timesH (ofV l u) p)) a = true := by
      rw [cov_in cq cp, inR_iff.2 ((has_cover hg u a q).2 h1), nin p h2]; rfl
    obtain ⟨s, hs, k⟩ := inR_iff.1 this
    exact ⟨⟨u, ⟨s, ⟨q, 253402300800⟩⟩⟩, List.mem_flatMap.2 ⟨_, mem q h1, List.mem_append_right _ (List.mem_map.2 ⟨s, hs, rfl⟩)⟩, by unfold inS; simpa using k, rfl, rfl⟩
theorem chgs_nodup {l : List HRow} {p q a : Int} (hg : GoodH l) : (((chgsOf l p q).filter fun r => inS a r.r.d).map HRow.v).Nodup := by
  unfold chgsOf grpH
  rw [List.flatMap_map, List.filter_flatMap, List.map_flatMap]
  have e : ∀ v ∈ valsH l, ((outN v (combR 3 (timesH (ofV l v) p) (timesH (ofV l v) q)) p q ++ outN v (combR 3 (timesH (ofV l v) q) (timesH (ofV l v) p)) q 253402300800).filter fun r => inS a r.r.d).map HRow.v
      = if (inR (timesH (ofV l v) p) a != inR (timesH (ofV l v) q) a) then [id v] else [] := fun v hv => by
    have cp := timesH_can (hg.of v) p
    have cq := timesH_can (hg.of v) q
    rw [List.filter_append, List.map_append, outN_here, outN_here, can_filter (combR_inv (kind := 3) rfl cp.pos cq.pos).1, can_filter (combR_inv (kind := 3) rfl cq.pos cp.pos).1, cov_in cp cq, cov_in cq cp]
    cases inR (timesH (ofV l v) p) a <;> cases inR (timesH (ofV l v) q) a <;> rfl
  rw [flat_cong e, flat_if, List.map_id]
  exact (valsH_inc l).nodup.filter _
section
variable {t : Table} {p q a : Int}
theorem und_run (h : validT t = true) (hp : instB p = true) (hq : instB q = true) (ha : instB a = true) (hpq : p ≠ q) :
    (uRun p a (snapH t a p) (chgsOf t.rows p q)).Nodup ∧ (∀ u ∈ uRun p a (snapH t a p) (chgsOf t.rows p q), u.all valB = true) ∧ IncV (snapH t a q) ∧ ∀ u, u ∈ snapH t a q ↔ u ∈ uRun p a (snapH t a p) (chgsOf t.rows p q) := by
  have hg := (validT_good h).1
  have S := uRun_spec (p := p) (a := a) (chgsOf t.rows p q) (snapH t a p) (snapH_inc h ha hp).nodup (chgs_nodup hg) fun r hr hi hne hs => by
    rcases chgs_mem hg hr hi with k | k
    · exact hne k.1
    · exact k.2.2 ((snapH_iff h ha hp).1 hs)
  have mem : ∀ u, u ∈ snapH t a q ↔ u ∈ uRun p a (snapH t a p) (chgsOf t.rows p q) := fun u => by
    rw [S.2, snapH_iff h ha hq, snapH_iff h ha hp]
    constructor
    · intro k
      by_cases k2 : HasP t.rows u a p
      · left
        refine ⟨k2, ?_⟩
        rintro ⟨r, hr, hi, e1, rfl⟩
        rcases chgs_mem hg hr hi with z | z
        · exact z.2.2 k
        · exact z.2.2 k2
      · right
        obtain ⟨r, hr, hi, e1, e2⟩ := (chgs_has hg).2 k k2
        exact ⟨r, hr, hi, by rw [e1]; exact Ne.symm hpq, e2⟩
    · rintro (⟨k, k2⟩ | ⟨r, hr, hi, e1, rfl⟩)
      · by_cases k3 : HasP t.rows u a q
        · exact k3
        · obtain ⟨r, hr, hi, e1, e2⟩ := (chgs_has hg).1 k k3
          exact absurd ⟨r, hr, hi, e1, e2⟩ k2
      · rcases chgs_mem hg hr hi with z | z
        · exact absurd z.1 e1
        · exact z.2.1
  refine ⟨S.1, fun u hu => ?_, snapH_inc h ha hq, mem⟩
  obtain ⟨_, _, _, _, k⟩ := snap_val h ha hq ((mem u).2 hu); exact k
end
end Go.Civ
