/- Select and Project: what they compute. -/
import Derived.Test.YtapjalhjfblonaaGreatMCiv34
import Derived.Test.YtapjalhjfblonaaGreatMCiv27
import Derived.Test.YtapjalhjfblonaaGreatMCiv31
namespace Go.Civ
open Go.RowKit
set_option linter.unusedVariables false

/-! Holds -/
def colsN (ns : List (List UInt8)) (l : List Val) (k : Nat) : List Col := ((ns.zip l).take k).map fun p => ⟨p.1, p.2.k⟩
def colsOf (ns : List (List UInt8)) (l : List Val) : List Col := (ns.zip l).map fun p => ⟨p.1, p.2.k⟩
theorem colsN_step {ns : List (List UInt8)} {l : List Val} {k : Nat} {n : List UInt8} {v : Val} (h1 : ns[k]? = some n) (h2 : l[k]? = some v) : colsN ns l (k + 1) = colsN ns l k ++ [⟨n, v.k⟩] := by
  unfold colsN
  have e : (ns.zip l)[k]? = some (n, v) := List.getElem?_zip_eq_some.2 ⟨h1, h2⟩
  rw [List.take_add_one, e]; simp
theorem colsN_len (ns : List (List UInt8)) (l : List Val) (k : Nat) : (colsN ns l k).length ≤ k := by unfold colsN; rw [List.length_map]; exact List.length_take_le _ _
theorem colsN_all {ns : List (List UInt8)} {l : List Val} {k : Nat} (h : ns.length ≤ k) : colsN ns l k = colsOf ns l := by
  unfold colsN colsOf; rw [List.take_of_length_le (by rw [List.length_zip]; omega)]
theorem colsOf_len {ns : List (List UInt8)} {l : List Val} (h : ns.length = l.length) : (colsOf ns l).length = l.length := by unfold colsOf; rw [List.length_map, List.length_zip]; omega
def hldG (ns : List (List UInt8)) (l : List Val) : Bool := decide (ns.length = l.length) && decide (ns.length ≤ 100) && l.all valB
def hldE (d : Nat) (c : Cond) (ns : List (List UInt8)) (l : List Val) : Int := bif hldG ns l then checkF d c (colsOf ns l) else 1
def hldB (d : Nat) (c : Cond) (ns : List (List UInt8)) (l : List Val) : Bool := bif hldG ns l then (bif decide (checkF d c (colsOf ns l) = 0) then meanF d c (colsOf ns l) l else false) else false
section
variable {d : Nat} {c : Cond} {ns : List (List UInt8)} {l : List Val}
theorem hld_no (h : ns.length ≠ l.length ∨ 100 < ns.length ∨ l.all valB = false) : hldB d c ns l = false ∧ hldE d c ns l = 1 := by
  have : hldG ns l = false := by
    unfold hldG
    rcases h with h | h | h
    · rw [decide_eq_false h]; rfl
    · rw [decide_eq_false (by omega : ¬ ns.length ≤ 100)]; simp
    · rw [h]; simp
  unfold hldB hldE; rw [this]; exact ⟨rfl, rfl⟩
theorem hld_g (h1 : ns.length = l.length) (h2 : ns.length ≤ 100) (h3 : l.all valB = true) : hldG ns l = true := by unfold hldG; rw [decide_eq_true h1, decide_eq_true h2, h3]; rfl
theorem hld_err (hg : hldG ns l = true) (h : checkF d c (colsOf ns l) ≠ 0) : hldB d c ns l = false ∧ hldE d c ns l = checkF d c (colsOf ns l) := by
  unfold hldB hldE; rw [hg, decide_eq_false h]; exact ⟨rfl, rfl⟩
theorem hld_ok (hg : hldG ns l = true) (h : checkF d c (colsOf ns l) = 0) : hldB d c ns l = meanF d c (colsOf ns l) l ∧ hldE d c ns l = 0 := by
  unfold hldB hldE; rw [hg, decide_eq_true h, h]; exact ⟨rfl, rfl⟩
theorem hld_err' {cols : List Col} (hc : cols = colsOf ns l) (hg : hldG ns l = true) (h : checkF d c cols ≠ 0) : hldB d c ns l = false ∧ hldE d c ns l = checkF d c cols := by subst hc; exact hld_err hg h
theorem hld_ok' {cols : List Col} (hc : cols = colsOf ns l) (hg : hldG ns l = true) (h : checkF d c cols = 0) : hldB d c ns l = meanF d c cols l ∧ hldE d c ns l = 0 := by subst hc; exact hld_ok hg h
theorem check_well {cs : List Col} (h : checkF d c cs = 0) : wellF d c ∧ typedF d c cs = 0 := by
  unfold checkF at h
  by_cases g : nodesF d c 1 ≤ 60
  · rw [if_pos g] at h; exact ⟨well_of (by omega) (by omega) g, h⟩
  · rw [if_neg g] at h; omega
end
/-! Select -/
def kindsC (v : List Val) (cs : List Col) : Bool := eqF (fun x c => decide (x.k = c.kind)) v cs
theorem kindsC_map : ∀ {v : List Val} {cs : List Col}, kindsC v cs = true ↔ v.map Val.k = cs.map Col.kind
  | [], [] => by simp [kindsC, eqF]
  | [], _ :: _ => by simp [kindsC, eqF]
  | _ :: _, [] => by simp [kindsC, eqF]
  | x :: a, y :: b => by
    have := kindsC_map (v := a) (cs := b)
    unfold kindsC at this ⊢
    simp only [eqF, Bool.and_eq_true, decide_eq_true_eq, List.map_cons, List.cons.injEq, this]
theorem cols_eq : ∀ {v : List Val} {cs : List Col}, v.map Val.k = cs.map Col.kind → colsOf (cs.map Col.name) v = cs
  | [], [], _ => rfl
  | [], _ :: _, h => by simp at h
  | _ :: _, [], h => by simp at h
  | x :: a, y :: b, h => by
    simp at h
    have := cols_eq h.2
    unfold colsOf at this ⊢
    simp [this, h.1]
def selOk (l : List Fact) (cs : List Col) : Bool := validB l && decide (cs.length ≤ 8) && (decide (l.length = 0) || kindsC (headV l) cs)
def selF (d : Nat) (c : Cond) (cs : List Col) (l : List Fact) : List Fact := l.filter fun f => meanF d c cs f.v
def selL (d : Nat) (c : Cond) (cs : List Col) (l : List Fact) : List Fact := if selOk l cs = true ∧ checkF d c cs = 0 then finL (selF d c cs l) else []
def selE (d : Nat) (c : Cond) (cs : List Col) (l : List Fact) : Int := if selOk l cs = false then 1 else if checkF d c cs ≠ 0 then checkF d c cs else finE (selF d c cs l)
section
variable {d : Nat} {c : Cond} {cs : List Col} {l : List Fact} {k : Nat} {f : Fact}
theorem sel_no (h : selOk l cs = false) : selL d c cs l = [] ∧ selE d c cs l = 1 := by
  unfold selL selE; rw [h]; simp
theorem sel_err (h : selOk l cs = true) (he : checkF d c cs ≠ 0) : selL d c cs l = [] ∧ selE d c cs l = checkF d c cs := by
  unfold selL selE; rw [h]; simp [he]
theorem sel_ok (h : selOk l cs = true) (he : checkF d c cs = 0) : selL d c cs l = finL (selF d c cs l) ∧ selE d c cs l = finE (selF d c cs l) := by
  unfold selL selE; rw [h]; simp [he]
theorem selOk_v (h : selOk l cs = true) : validB l = true ∧ cs.length ≤ 8 := by unfold selOk at h; simp only [Bool.and_eq_true, decide_eq_true_eq] at h; exact h.1
theorem sel_kinds (h : selOk l cs = true) (hf : f ∈ l) : f.v.map Val.k = cs.map Col.kind := by
  have hv := (selOk_v h).1
  unfold selOk at h
  simp only [Bool.and_eq_true, Bool.or_eq_true, decide_eq_true_eq] at h
  rcases h.2 with h0 | h0
  · have := List.length_pos_of_mem hf; omega
  · rw [fact_kinds hv hf]; exact kindsC_map.1 h0
theorem sel_holds (h : selOk l cs = true) (hc : checkF d c cs = 0) (hf : f ∈ l) : hldB d c (cs.map Col.name) f.v = meanF d c cs f.v := by
  have hk := sel_kinds h hf
  have he := cols_eq hk
  have hlen : (cs.map Col.name).length = f.v.length := by have := congrArg List.length hk; simp at this ⊢; omega
  have h8 := (selOk_v h).2
  have hg : hldG (cs.map Col.name) f.v = true := hld_g hlen (by rw [List.length_map]; omega) (good_of_valid (selOk_v h).1 f hf).1
  have := (hld_ok (d := d) (c := c) hg (by rw [he]; exact hc)).1
  rw [this, he]
theorem selF_yes (hf : l[k]? = some f) (h : meanF d c cs f.v = true) : selF d c cs (l.take (k + 1)) = selF d c cs (l.take k) ++ [f] := by
  unfold selF; rw [List.take_add_one, hf, Option.toList_some, List.filter_append]; simp [h]
theorem selF_no (hf : l[k]? = some f) (h : meanF d c cs f.v = false) : selF d c cs (l.take (k + 1)) = selF d c cs (l.take k) := by
  unfold selF; rw [List.take_add_one, hf, Option.toList_some, List.filter_append]; simp [h]
theorem selF_yes' {ns : List (List UInt8)} (hok : selOk l cs = true) (hc : checkF d c cs = 0) (hn : ns = cs.map Col.name) (hf : l[k]? = some f) (h : hldB d c ns f.v = true) : selF d c cs (l.take (k + 1)) = selF d c cs (l.take k) ++ [f] := by
  subst hn; rw [sel_holds hok hc (List.mem_of_getElem? hf)] at h; exact selF_yes hf h
theorem selF_no' {ns : List (List UInt8)} (hok : selOk l cs = true) (hc : checkF d c cs = 0) (hn : ns = cs.map Col.name) (hf : l[k]? = some f) (h : hldB d c ns f.v = false) : selF d c cs (l.take (k + 1)) = selF d c cs (l.take k) := by
  subst hn; rw [sel_holds hok hc (List.mem_of_getElem? hf)] at h; exact selF_no hf h
theorem selOk_no (h : validB l = false ∨ 8 < cs.length ∨ (l.length ≠ 0 ∧ kindsC (headV l) cs = false)) : selOk l cs = false := by
  unfold selOk
  rcases h with h | h | ⟨h0, h⟩
  · rw [h]; rfl
  · rw [decide_eq_false (by omega : ¬ cs.length ≤ 8)]; simp
  · rw [h, decide_eq_false h0]; simp
theorem selOk_yes (h1 : validB l = true) (h2 : cs.length ≤ 8) (h : l.length = 0 ∨ kindsC (headV l) cs = true) : selOk l cs = true := by
  unfold selOk
  rw [h1, decide_eq_true h2]
  rcases h with h | h
  · rw [decide_eq_true h]; rfl
  · rw [h]; simp
theorem selF_all (h : l.length ≤ k) : selF d c cs (l.take k) = selF d c cs l := by rw [List.take_of_length_le h]
theorem selF_len : (selF d c cs l).length ≤ l.length := List.length_filter_le _ _
theorem selF_takeLen : (selF d c cs (l.take k)).length ≤ l.length := Nat.le_trans selF_len (List.length_take_le' _ _)
theorem selF_good (h : Good l) : Good (selF d c cs l) := fun f hf => h f (List.mem_filter.1 hf).1
end
/-! the reference's Select -/
def rselL (d : Nat) (c : Cond) (cs : List Col) (l : List Fact) : List Fact := if selOk l cs = true ∧ checkF d c cs = 0 then doneL (selF d c cs l) else []
def rselE (d : Nat) (c : Cond) (cs : List Col) (l : List Fact) : Int := if selOk l cs = false then 1 else if checkF d c cs ≠ 0 then checkF d c cs else doneE (selF d c cs l)
section
variable {d : Nat} {c : Cond} {cs : List Col} {l : List Fact}
theorem rsel_no (h : selOk l cs = false) : rselL d c cs l = [] ∧ rselE d c cs l = 1 := by
  unfold rselL rselE; rw [h]; simp
theorem rsel_err (h : selOk l cs = true) (he : checkF d c cs ≠ 0) : rselL d c cs l = [] ∧ rselE d c cs l = checkF d c cs := by
  unfold rselL rselE; rw [h]; simp [he]
theorem rsel_ok (h : selOk l cs = true) (he : checkF d c cs = 0) : rselL d c cs l = doneL (selF d c cs l) ∧ rselE d c cs l = doneE (selF d c cs l) := by
  unfold rselL rselE; rw [h]; simp [he]
theorem sel_eq : selL d c cs l = rselL d c cs l ∧ selE d c cs l = rselE d c cs l := by
  cases h : selOk l cs with
  | false => rw [(sel_no h).1, (sel_no h).2, (rsel_no h).1, (rsel_no h).2]; exact ⟨rfl, rfl⟩
  | true =>
    by_cases he : checkF d c cs = 0
    · have hv := (selOk_v h).1
      have := fin_done (l := selF d c cs l) (selF_good (good_of_valid hv)) fun f hf => valid_wide hv f (List.mem_filter.1 hf).1
      rw [(sel_ok h he).1, (sel_ok h he).2, (rsel_ok h he).1, (rsel_ok h he).2]; exact this
    · rw [(sel_err h he).1, (sel_err h he).2, (rsel_err h he).1, (rsel_err h he).2]; exact ⟨rfl, rfl⟩
theorem kinds_head {x : Fact} {b : Bool} (hx : l[0]? = some x) (h : eqF (fun x (y : Col) => decide (x.k = y.kind)) x.v cs = b) : kindsC (headV l) cs = b := by rw [headV_of hx]; exact h
theorem sel_typed (hok : selOk l cs = true) (hc : checkF d c cs = 0) {f : Fact} (hf : f ∈ l) : f.v.length = cs.length := by
  have := congrArg List.length (sel_kinds hok hf); simpa using this
end
end Go.Civ

/- The law's own count of a condition's nodes. -/
namespace Go.Civ
set_option linter.unusedVariables false
def cntL (f : Cond → Int → Int) : List Cond → Int → Int
  | [], n => n
  | x :: r, n => cntL f r (if n < 100 then f x n else n)
def cntF : Nat → Cond → Int → Int
  | 0, _, n => n
  | d + 1, c, n => cntL (fun x m => cntF d x m) c.l (n + 1)
theorem cntL_append {f : Cond → Int → Int} : ∀ {l r : List Cond} {n : Int}, cntL f (l ++ r) n = cntL f r (cntL f l n)
  | [], r, n => rfl
  | y :: l, r, n => by rw [List.cons_append, cntL, cntL, cntL_append]
theorem cntL_take {f : Cond → Int → Int} {l : List Cond} {k : Nat} {x : Cond} {n m r : Int} (hx : l[k]? = some x) (h : m = cntL f (l.take k) n) (hr : r = if m < 100 then f x m else m) : r = cntL f (l.take (k + 1)) n := by
  rw [List.take_add_one, hx, Option.toList_some, cntL_append, ← h, hr]; rfl
theorem cntL_bd {f : Cond → Int → Int} (hf : ∀ x m, 0 ≤ m → m ≤ 99 → 0 ≤ f x m ∧ f x m ≤ 100) : ∀ {l : List Cond} {n : Int}, 0 ≤ n → n ≤ 100 → 0 ≤ cntL f l n ∧ cntL f l n ≤ 100
  | [], n, h1, h2 => ⟨h1, h2⟩
  | x :: r, n, h1, h2 => by
    rw [cntL]
    by_cases g : n < 100
    · rw [if_pos g]; have := hf x n h1 (by omega); exact cntL_bd hf this.1 this.2
    · rw [if_neg g]; exact cntL_bd hf h1 h2
theorem cntF_bd : ∀ (d : Nat) (c : Cond) (n : Int), 0 ≤ n → n ≤ 99 → 0 ≤ cntF d c n ∧ cntF d c n ≤ 100
  | 0, c, n, h1, h2 => by rw [cntF]; omega
  | d + 1, c, n, h1, h2 => by rw [cntF]; exact cntL_bd (fun x m a b => cntF_bd d x m a b) (by omega) (by omega)
theorem cnt_all {d k : Nat} {c : Cond} {n m : Int} (h : m = cntL (fun x m => cntF d x m) (c.l.take k) (n + 1)) (hk : c.l.length ≤ k) : cntF (d + 1) c n = m := by
  rw [cntF, h, List.take_of_length_le hk]
theorem rkinds {l : List Fact} {cs : List Col} {x : Fact} {k : Nat} (hx : l[0]? = some x) (hl : x.v.length = cs.length) (h : ∀ j, j < k → ∀ (u : Val) (y : Col), x.v[j]? = some u → cs[j]? = some y → decide (u.k = y.kind) = true) (hk : x.v.length ≤ k) : kindsC (headV l) cs = true := by
  rw [headV_of hx]; exact eqF_yes hl h hk
end Go.Civ

/- Project: what it computes. -/
namespace Go.Civ
set_option linter.unusedVariables false
def prjV (v : List Val) (ps : List Int) : List Val := ps.map fun i => valAt v i
def prjF (ps : List Int) (l : List Fact) : List Fact := l.map fun f => ⟨prjV f.v ps, f.t⟩
def oob (m : Nat) (i : Int) : Bool := decide (i < 0) || decide ((m : Int) ≤ i)
def prjBad (l : List Fact) (ps : List Int) : Bool := decide (0 < l.length) && ps.any (oob (headV l).length)
def prjE (l : List Fact) (ps : List Int) : Int := if validB l = false then 1 else if 8 < ps.length then 5 else if prjBad l ps = true then 2 else finE (prjF ps l)
def prjL (l : List Fact) (ps : List Int) : List Fact := if validB l = true ∧ ps.length ≤ 8 ∧ prjBad l ps = false then finL (prjF ps l) else []
def rprjE (l : List Fact) (ps : List Int) : Int := if validB l = false then 1 else if 8 < ps.length then 5 else if prjBad l ps = true then 2 else doneE (prjF ps l)
def rprjL (l : List Fact) (ps : List Int) : List Fact := if validB l = true ∧ ps.length ≤ 8 ∧ prjBad l ps = false then doneL (prjF ps l) else []
section
variable {l : List Fact} {ps : List Int} {k j : Nat} {f : Fact} {i : Int}
theorem prj_1 (h : validB l = false) : (prjL l ps = [] ∧ prjE l ps = 1) ∧ (rprjL l ps = [] ∧ rprjE l ps = 1) := by unfold prjL prjE rprjL rprjE; rw [h]; simp
theorem prj_5 (hv : validB l = true) (h : 8 < ps.length) : (prjL l ps = [] ∧ prjE l ps = 5) ∧ (rprjL l ps = [] ∧ rprjE l ps = 5) := by
  unfold prjL prjE rprjL rprjE; rw [hv, if_pos h]; simp; omega
theorem prj_2 (hv : validB l = true) (h8 : ps.length ≤ 8) (hb : prjBad l ps = true) : (prjL l ps = [] ∧ prjE l ps = 2) ∧ (rprjL l ps = [] ∧ rprjE l ps = 2) := by
  unfold prjL prjE rprjL rprjE
  have h9 : ¬ 8 < ps.length := by omega
  simp [hv, hb, h8, h9]
theorem prj_ok (hv : validB l = true) (h8 : ps.length ≤ 8) (hb : prjBad l ps = false) : (prjL l ps = finL (prjF ps l) ∧ prjE l ps = finE (prjF ps l)) ∧ (rprjL l ps = doneL (prjF ps l) ∧ rprjE l ps = doneE (prjF ps l)) := by
  unfold prjL prjE rprjL rprjE
  have h9 : ¬ 8 < ps.length := by omega
  simp [hv, hb, h8, h9]
theorem bad_of (hv : validB l = true) (hf : f ∈ l) (hi : i ∈ ps) (h : i < 0 ∨ (f.v.length : Int) ≤ i) : prjBad l ps = true := by
  unfold prjBad
  rw [decide_eq_true (List.length_pos_of_mem hf), Bool.true_and, List.any_eq_true]
  refine ⟨i, hi, ?_⟩
  have := (valid_len hv hf).1
  unfold oob
  rcases h with h | h
  · rw [decide_eq_true h]; rfl
  · rw [decide_eq_true (by omega : ((headV l).length : Int) ≤ i)]; simp
theorem bad_in (hv : validB l = true) (hb : prjBad l ps = false) (hf : f ∈ l) (hi : i ∈ ps) : 0 ≤ i ∧ i < (f.v.length : Int) := by
  by_cases h : i < 0 ∨ (f.v.length : Int) ≤ i
  · rw [bad_of hv hf hi h] at hb; cases hb
  · omega
theorem not_bad (h : ∀ f ∈ l, ∀ i ∈ ps, 0 ≤ i ∧ i < (f.v.length : Int)) : prjBad l ps = false := by
  unfold prjBad
  by_cases h0 : 0 < l.length
  · rw [decide_eq_true h0, Bool.true_and, List.any_eq_false]
    intro i hi
    obtain ⟨f, hf, e⟩ := headV_mem h0
    have := h f hf i hi
    unfold oob
    rw [e, decide_eq_false (by omega), decide_eq_false (by omega)]; simp
  · rw [decide_eq_false h0]; rfl
theorem valAt_of {v : List Val} {x : Val} (h : v[i.toNat]? = some x) : valAt v i = x := by unfold valAt; rw [h]
theorem prjV_step {v : List Val} {x : Val} (hi : ps[j]? = some i) (hx : v[i.toNat]? = some x) : prjV v (ps.take (j + 1)) = prjV v (ps.take j) ++ [x] := by
  unfold prjV; rw [List.take_add_one, hi]; simp [valAt_of hx]
theorem prjV_all {v : List Val} (h : ps.length ≤ j) : prjV v (ps.take j) = prjV v ps := by rw [List.take_of_length_le h]
theorem prjF_step (hf : l[k]? = some f) (hj : ps.length ≤ j) : prjF ps (l.take (k + 1)) = prjF ps (l.take k) ++ [⟨prjV f.v (ps.take j), f.t⟩] := by
  unfold prjF; rw [List.take_add_one, hf, prjV_all hj]; simp
theorem prjF_all (h : l.length ≤ k) : prjF ps (l.take k) = prjF ps l := by rw [List.take_of_length_le h]
theorem prjF_takeLen : (prjF ps (l.take k)).length ≤ l.length := by unfold prjF; rw [List.length_map]; exact List.length_take_le' _ _
theorem prjV_len {v : List Val} : (prjV v (ps.take j)).length ≤ ps.length := by unfold prjV; rw [List.length_map]; exact List.length_take_le' _ _
theorem prjF_good (hv : validB l = true) (hb : prjBad l ps = false) : Good (prjF ps l) := fun g hg => by
  unfold prjF at hg
  obtain ⟨f, hf, rfl⟩ := List.mem_map.1 hg
  refine ⟨?_, (good_of_valid hv f hf).2⟩
  have ha := (good_of_valid hv f hf).1
  rw [List.all_eq_true] at ha ⊢
  intro x hx
  unfold prjV at hx
  obtain ⟨i, hi, rfl⟩ := List.mem_map.1 hx
  have hr := bad_in hv hb hf hi
  obtain ⟨y, hy⟩ : ∃ y, f.v[i.toNat]? = some y := ⟨_, List.getElem?_eq_getElem (by omega)⟩
  rw [valAt_of hy]; exact ha y (List.mem_of_getElem? hy)
theorem prj_eq : prjL l ps = rprjL l ps ∧ prjE l ps = rprjE l ps := by
  cases hv : validB l with
  | false => have := prj_1 (ps := ps) hv; exact ⟨this.1.1.trans this.2.1.symm, this.1.2.trans this.2.2.symm⟩
  | true =>
    by_cases h8 : 8 < ps.length
    · have := prj_5 hv h8; exact ⟨this.1.1.trans this.2.1.symm, this.1.2.trans this.2.2.symm⟩
    · cases hb : prjBad l ps with
      | true => have := prj_2 hv (by omega) hb; exact ⟨this.1.1.trans this.2.1.symm, this.1.2.trans this.2.2.symm⟩
      | false =>
        have := prj_ok hv (by omega) hb
        have e := fin_done (l := prjF ps l) (prjF_good hv hb) fun g hg => by
          unfold prjF at hg
          obtain ⟨f, _, rfl⟩ := List.mem_map.1 hg
          show (prjV f.v ps).length ≤ 8
          unfold prjV; rw [List.length_map]; omega
        rw [this.1.1, this.1.2, this.2.1, this.2.2]; exact e
end
end Go.Civ
namespace Go.Civ
set_option linter.unusedVariables false
def hasB (l : List (List Val)) (v : List Val) : Bool := l.any fun q => decide (q = v)
section
variable {a b l : List Fact} {s : Span} {t : Int} {v : List Val} {d : Nat} {c : Cond} {cs : List Col}
theorem has_iff {l : List (List Val)} : hasB l v = true ↔ v ∈ l := by unfold hasB; simp
theorem sel_R (h : selE d c cs l = 0) : NR (selL d c cs l) ∧ ∀ v t, CV (selL d c cs l) v t ↔ CV l v t ∧ hldB d c (cs.map Col.name) v = true := by
  cases hok : selOk l cs with
  | false => rw [(sel_no hok).2] at h; omega
  | true =>
    by_cases hc : checkF d c cs = 0
    · rw [(sel_ok hok hc).2] at h
      rw [(sel_ok hok hc).1]
      have hk : VK ((headV l).map Val.k) (selF d c cs l) := fun f hf => vk_of (selOk_v hok).1 f (List.mem_filter.1 hf).1
      have := fin_R hk h
      refine ⟨this.1, fun v t => ?_⟩
      rw [this.2, cv_iff, cv_iff]
      constructor
      · rintro ⟨f, hf, h0, h1⟩
        have hm := List.mem_filter.1 hf
        refine ⟨⟨f, hm.1, h0, h1⟩, ?_⟩
        rw [← h0, sel_holds hok hc hm.1]; exact hm.2
      · rintro ⟨⟨f, hf, h0, h1⟩, h2⟩
        rw [← h0, sel_holds hok hc hf] at h2
        exact ⟨f, List.mem_filter.2 ⟨hf, h2⟩, h0, h1⟩
    · rw [(sel_err hok hc).2] at h; exact absurd h hc
theorem has_at (h : validB l = true) : hasB (atL l t) v = true ↔ CV l v t := has_iff.trans (at_iff h)
theorem pt_U (ha : validB a = true) (hb : validB b = true) (h : unionE a b = 0) : hasB (atL (unionL a b) t) v = (hasB (atL a t) v || hasB (atL b t) v) := by
  have hu := union_R h
  rw [Bool.eq_iff_iff, has_at hu.1.valid, hu.2, Bool.or_eq_true, has_at ha, has_at hb]
theorem pt_D (ha : validB a = true) (hb : validB b = true) (h : excE a b = 0) : hasB (atL (excL a b) t) v = (hasB (atL a t) v && !hasB (atL b t) v) := by
  have hu := exc_R h
  rw [Bool.eq_iff_iff, has_at hu.1.valid, hu.2, Bool.and_eq_true, Bool.not_eq_true', has_at ha, Bool.eq_false_iff, Ne, has_at hb]
theorem pt_P (ha : validB a = true) (h : durE a s = 0) : hasB (atL (durL a s) t) v = (hasB (atL a t) v && (decide (s.a ≤ t) && decide (t < s.b))) := by
  have hu := dur_R h
  rw [Bool.eq_iff_iff, has_at hu.1.valid, hu.2, Bool.and_eq_true, Bool.and_eq_true, decide_eq_true_eq, decide_eq_true_eq, has_at ha]
  exact Iff.rfl
theorem pt_S (ha : validB a = true) (h : selE d c cs a = 0) : hasB (atL (selL d c cs a) t) v = (hasB (atL a t) v && hldB d c (cs.map Col.name) v) := by
  have hu := sel_R h
  rw [Bool.eq_iff_iff, has_at hu.1.valid, hu.2, Bool.and_eq_true, has_at ha]
theorem has_of {l : List (List Val)} (h : v ∈ l) : hasB l v = true := has_iff.2 h
theorem pt_no {l : List (List Val)} {p : List Val → Bool} (h : ∀ v, hasB l v = true → p v = false) : l.any p = false := by
  rw [List.any_eq_false]
  intro v hv
  rw [h v (has_of hv)]; decide
theorem pt_in {X Y : List (List Val)} {k : Nat} (h : ([X, Y].flatten)[k]? = some v) : hasB X v = true ∨ hasB Y v = true := by
  have := List.mem_of_getElem? h
  simp at this
  rcases this with h | h
  · exact .inl (has_of h)
  · exact .inr (has_of h)
theorem pt_U1 {X Y : List (List Val)} {k : Nat} (ha : validB a = true) (hb : validB b = true) (h : unionE a b = 0) (hv : ([atL a t, atL b t].flatten)[k]? = some v) : hasB (atL (unionL a b) t) v = true := by
  rw [pt_U ha hb h]
  rcases pt_in hv with h | h <;> rw [h] <;> simp
theorem ptTT {D A B : Bool} (h : D = (A && !B)) (ha : A = true) (hb : B = true) : (D != false) = false := by subst ha hb h; rfl
theorem ptTn {D A B : Bool} (h : D = (A && !B)) (ha : A = true) : (D != !B) = false := by subst ha h; cases B <;> rfl
theorem ptTF {D A B : Bool} (h : D = (A && !B)) (ha : A = true) (hb : B = false) : (D != true) = false := by subst ha hb h; rfl
theorem ptF {D A B : Bool} (h : D = (A && B)) (ha : A = false) : (D != false) = false := by subst ha h; rfl
theorem ptP1 {D A : Bool} {x y z : Int} (h : D = (A && (decide (x ≤ y) && decide (y < z)))) (hx : y < x) : (D != false) = false := by
  rw [h, decide_eq_false (by omega)]; simp
theorem ptP2 {D A : Bool} {x y z : Int} (h : D = (A && (decide (x ≤ y) && decide (y < z)))) (hx : z ≤ y) : (D != false) = false := by
  rw [h, decide_eq_false (by omega : ¬ y < z)]; simp
theorem ptP3 {D A : Bool} {x y z : Int} (h : D = (A && (decide (x ≤ y) && decide (y < z)))) (ha : A = true) (hx : x ≤ y) (hz : y < z) : (D != true) = false := by
  rw [h, ha, decide_eq_true hx, decide_eq_true hz]; rfl
theorem ptP4 {D A : Bool} {x y z : Int} (h : D = (A && (decide (x ≤ y) && decide (y < z)))) (ha : A = true) (hx : x ≤ y) : (D != Cmp.b .lss y z) = false := by rw [h, ha, decide_eq_true hx]; simp [Cmp.b]
theorem ptS {D A H x : Bool} (h : D = (A && H)) (ha : A = true) (hh : H = x) : (x != D) = false := by subst ha hh h; simp
theorem pt_aU (ha : validB a = true) (hb : validB b = true) (h : unionE a b = 0) : ((atL (unionL a b) t).any fun v => !hasB (atL a t) v && !hasB (atL b t) v) = false :=
  pt_no fun v hv => by
    rw [pt_U ha hb h] at hv
    cases hx : hasB (atL a t) v <;> simp_all
theorem pt_aD (ha : validB a = true) (hb : validB b = true) (h : excE a b = 0) : ((atL (excL a b) t).any fun v => !hasB (atL a t) v) = false :=
  pt_no fun v hv => by rw [pt_D ha hb h] at hv; simp_all
theorem pt_aP (ha : validB a = true) (h : durE a s = 0) : ((atL (durL a s) t).any fun v => !hasB (atL a t) v) = false :=
  pt_no fun v hv => by rw [pt_P ha h] at hv; simp_all
theorem pt_aS (ha : validB a = true) (h : selE d c cs a = 0) : ((atL (selL d c cs a) t).any fun v => !hasB (atL a t) v) = false :=
  pt_no fun v hv => by rw [pt_S ha h] at hv; simp_all
end
end Go.Civ
