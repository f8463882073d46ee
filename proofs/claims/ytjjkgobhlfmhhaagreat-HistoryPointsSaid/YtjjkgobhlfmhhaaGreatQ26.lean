/- Lemmas: Op, Civ56, Civ57, Sr. -/
import Derived.Test.YtjjkgobhlfmhhaaGreatQ16
import Derived.Test.YtjjkgobhlfmhhaaGreatQ17
import Derived.Test.YtjjkgobhlfmhhaaGreatQ25
import Derived.Test.YtjjkgobhlfmhhaaGreatRows
import Derived.Shelf.Sort.Plain
set_option linter.unusedVariables false
namespace Go.Civ
open Go.Proofs
section
variable {H : Type} {enc : TypeId × Value → H} {w : World}
theorem opSpan : Opens enc Tryz.prog w 38 SpanE := opens_pair (g := fun p => ⟨p.1, p.2⟩) (fun _ => rfl) Tryz.underlying38 rfl (by kernel_rfl) rfl (by kernel_rfl) (by kernel_rfl) (opens_int Tryz.underlying3) (opens_int Tryz.underlying3)
theorem opVal : Opens enc Tryz.prog w 48 ValE := opens_three (g := fun p => ⟨p.1, p.2.1, p.2.2⟩) (fun _ => rfl) Tryz.underlying48 rfl (by kernel_rfl) rfl (by kernel_rfl) rfl (by kernel_rfl) (by kernel_rfl) (opens_int Tryz.underlying3) (opens_int Tryz.underlying3) (opens_str Tryz.underlying9)
theorem opVals : Opens enc Tryz.prog w 36 (ValE.slice 32) := opens_slice Tryz.underlying36 (by kernel_rfl) (by decide) (by kernel_rfl) (by decide) opVal
theorem opRect : Opens enc Tryz.prog w 62 RectE := opens_pair (g := fun p => ⟨p.1, p.2⟩) (fun _ => rfl) Tryz.underlying62 rfl (by kernel_rfl) rfl (by kernel_rfl) (by kernel_rfl) opSpan opSpan
theorem opRow : Opens enc Tryz.prog w 64 HRowE := opens_pair (g := fun p => ⟨p.1, p.2⟩) (fun _ => rfl) Tryz.underlying64 rfl (by kernel_rfl) rfl (by kernel_rfl) (by kernel_rfl) opVals opRect
theorem opRows : Opens enc Tryz.prog w 26 (HRowE.slice 56) := opens_slice Tryz.underlying26 (by kernel_rfl) (by decide) (by kernel_rfl) (by decide) opRow
theorem opCol : Opens enc Tryz.prog w 86 ColE := opens_pair (g := fun p => ⟨p.1, p.2⟩) (fun _ => rfl) Tryz.underlying86 rfl (by kernel_rfl) rfl (by kernel_rfl) (by kernel_rfl) (opens_str Tryz.underlying9) (opens_int Tryz.underlying3)
theorem opCols : Opens enc Tryz.prog w 22 (ColE.slice 24) := opens_slice Tryz.underlying22 (by kernel_rfl) (by decide) (by kernel_rfl) (by decide) opCol
theorem opStrs : Opens enc Tryz.prog w 89 (Enc.str.slice 16) := opens_slice Tryz.underlying89 (by kernel_rfl) (by decide) (by kernel_rfl) (by decide) (opens_str Tryz.underlying9)
theorem opForeign : Opens enc Tryz.prog w 108 ForeignE := opens_pair (g := fun p => ⟨p.1, p.2⟩) (fun _ => rfl) Tryz.underlying108 rfl (by kernel_rfl) rfl (by kernel_rfl) (by kernel_rfl) opStrs (opens_str Tryz.underlying9)
theorem opForeigns : Opens enc Tryz.prog w 23 (ForeignE.slice 40) := opens_slice Tryz.underlying23 (by kernel_rfl) (by decide) (by kernel_rfl) (by decide) opForeign
theorem opSchema : Opens enc Tryz.prog w 25 SchemaE := opens_four (g := fun p => ⟨p.1, p.2.1, p.2.2.1, p.2.2.2⟩) (fun _ => rfl) Tryz.underlying25 rfl (by kernel_rfl) rfl (by kernel_rfl) rfl (by kernel_rfl) rfl (by kernel_rfl) (by kernel_rfl) (opens_str Tryz.underlying9) opCols (opens_int Tryz.underlying3) opForeigns
theorem opTable : Opens enc Tryz.prog w 28 TableE := opens_three (g := fun p => ⟨p.1, p.2.1, p.2.2⟩) (fun _ => rfl) Tryz.underlying28 rfl (by kernel_rfl) rfl (by kernel_rfl) rfl (by kernel_rfl) (by kernel_rfl) opSchema opRows (opens_int Tryz.underlying3)
theorem opBools : Opens enc Tryz.prog w 83 (Enc.bool.slice 1) := opens_slice Tryz.underlying83 (by kernel_rfl) (by decide) (by kernel_rfl) (by decide) (opens_bool Tryz.underlying4)
theorem opCond : ∀ N, OpensP (fun d => SizeOf.sizeOf d ≤ N) enc Tryz.prog w 51 (CondE N) :=
  opens_cond Tryz.underlying51 ⟨rfl, rfl, rfl, rfl, rfl⟩ Tryz.underlying3 Tryz.underlying9 Tryz.underlying9 opVal Tryz.underlying49 ⟨by kernel_rfl, by kernel_rfl, by kernel_rfl, by kernel_rfl, by kernel_rfl⟩ (by kernel_rfl) (by kernel_rfl)
end
theorem ownT : ownKnob Tryz.prog.godebug = none := by kernel_rfl
theorem laidOutT : laidOutB Tryz.prog = true := by kernel_rfl
end Go.Civ
namespace Go.Civ
open Go.RowKit
set_option linter.unusedVariables false
theorem goodB_1 {x : HRow} (h : (x.v.any fun x => !valB x) = true) : false = goodB x := by
  have := any_all h; unfold goodB; rw [this]; rfl
theorem goodB_2 {x : HRow} (h : (x.v.any fun x => !valB x) = false) (h2 : spanB x.r.d = false) : false = goodB x := by
  have := any_all h; unfold goodB; rw [this, h2]; rfl
theorem goodB_3 {x : HRow} (h : (x.v.any fun x => !valB x) = false) (h2 : spanB x.r.d = true) : spanB x.r.x = goodB x := by
  have := any_all h; unfold goodB; rw [this, h2]; simp
theorem hrow_eq_v {x y : HRow} (h : decide (x.v = y.v) = false) : false = decide (x = y) := (decide_eq_false fun e => (of_decide_eq_false h) (by rw [e])).symm
theorem hrow_eq_r {x y : HRow} (h : decide (x.v = y.v) = true) : decide (x.r = y.r) = decide (x = y) := decide_eq_decide.2 ⟨fun e => by
  have := of_decide_eq_true h
  cases x; cases y; simp_all, fun e => by rw [e]⟩
end Go.Civ
namespace Go.Civ
open Go.RowKit
set_option linter.unusedVariables false
def validA (t : Table) : Bool := schB t.s && decide (-62135596801 ≤ t.last) && decide (t.last < 253402300800) && decide (t.rows.length ≤ 500)
theorem validA_yes {t : Table} (h1 : schB t.s = true) (h2 : -62135596801 ≤ t.last) (h3 : t.last < 253402300800) (h4 : (t.rows.length : Int) ≤ 500) : validA t = true := by
  unfold validA; rw [h1, decide_eq_true h2, decide_eq_true h3, decide_eq_true (show t.rows.length ≤ 500 by omega)]; rfl
theorem validT_is (t : Table) : validT t = ((validA t && t.rows.all (rowOk t.s t.last)) && decide (t.rows = normH t.rows)) := rfl
theorem validT_a {t : Table} (h : validA t = false) : false = validT t := by rw [validT_is, h]; rfl
theorem validA_1 {t : Table} (h : schB t.s = false) : validA t = false := by unfold validA; rw [h]; rfl
theorem validA_2 {t : Table} (h : t.last < -62135596801) : validA t = false := by unfold validA; rw [decide_eq_false (show ¬ -62135596801 ≤ t.last by omega)]; simp
theorem validA_3 {t : Table} (h : 253402300800 ≤ t.last) : validA t = false := by unfold validA; rw [decide_eq_false (show ¬ t.last < 253402300800 by omega)]; simp
theorem validA_4 {t : Table} (h : 500 < (t.rows.length : Int)) : validA t = false := by unfold validA; rw [decide_eq_false (show ¬ t.rows.length ≤ 500 by omega)]; simp
theorem validT_row {t : Table} {k : Nat} {x : HRow} (h : t.rows[k]? = some x) (hx : rowOk t.s t.last x = false) : false = validT t := by
  rw [validT_is, all_no h hx]; simp
theorem validT_eq {t : Table} (h1 : validA t = true) (h2 : t.rows.all (rowOk t.s t.last) = true) : eqF (fun x y => decide (x = y)) t.rows (normH t.rows) = validT t := by
  rw [validT_is, h1, h2, eqF_eq]; rfl
theorem rowOk_1 {s : Schema} {last : Int} {x : HRow} (h : rowE s x.v ≠ 0) : rowOk s last x = false := by unfold rowOk; rw [decide_eq_false h]; rfl
theorem rowOk_2 {s : Schema} {last : Int} {x : HRow} (h : goodB x = false) : rowOk s last x = false := by unfold rowOk; rw [h]; simp
theorem rowOk_3 {s : Schema} {last : Int} {x : HRow} (h : last < x.r.x.a) : rowOk s last x = false := by unfold rowOk; rw [decide_eq_false (show ¬ x.r.x.a ≤ last by omega)]; simp
theorem rowOk_4 {s : Schema} {last : Int} {x : HRow} (h : last < x.r.x.b) (h2 : x.r.x.b ≠ 253402300800) : rowOk s last x = false := by unfold rowOk; rw [decide_eq_false (show ¬ x.r.x.b ≤ last by omega), decide_eq_false h2]; simp
theorem rowOk_y {s : Schema} {last : Int} {x : HRow} (h1 : rowE s x.v = 0) (h2 : goodB x = true) (h3 : x.r.x.a ≤ last) (h4 : x.r.x.b ≤ last ∨ x.r.x.b = 253402300800) : rowOk s last x = true := by
  unfold rowOk; rw [decide_eq_true h1, h2, decide_eq_true h3]
  rcases h4 with h4 | h4
  · rw [decide_eq_true h4]; rfl
  · rw [decide_eq_true h4]; simp
theorem rows_good {s : Schema} {last : Int} {l : List HRow} (h : l.all (rowOk s last) = true) : GoodH l ∧ ∀ r ∈ l, r.v.length ≤ 8 := by
  rw [List.all_eq_true] at h
  refine ⟨fun r hr => ?_, fun r hr => ?_⟩
  · have := h r hr; unfold rowOk at this; simp only [Bool.and_eq_true, decide_eq_true_eq] at this; exact this.1.1.2
  · have := h r hr; unfold rowOk at this; simp only [Bool.and_eq_true, decide_eq_true_eq] at this; exact (rowE_len this.1.1.1).1
theorem le1000 {l : List HRow} (h : ∀ r ∈ l, r.v.length ≤ 8) : ∀ r ∈ l, r.v.length ≤ 1000 := fun r hr => Nat.le_trans (h r hr) (by decide)
theorem done_yes {t : Table} {tx : Int} {l : List HRow} (h : ((normH l).length : Int) ≤ 500) : (⟨t.s, normH l, tx⟩ : Table) = doneT t tx l ∧ 0 = doneTE l := by
  unfold doneT doneTE; rw [if_pos (by omega), if_pos (by omega)]; exact ⟨rfl, rfl⟩
theorem done_no {t : Table} {tx : Int} {l : List HRow} (h : 500 < ((normH l).length : Int)) : noT = doneT t tx l ∧ 5 = doneTE l := by
  unfold doneT doneTE; rw [if_neg (by omega), if_neg (by omega)]; exact ⟨rfl, rfl⟩
theorem timE_1 {t : Table} {tx : Int} (h : instB tx = false) : 2 = timE t tx := by unfold timE; rw [h]; rfl
theorem timE_2 {t : Table} {tx : Int} (h : instB tx = true) (h2 : tx ≤ t.last) : 6 = timE t tx := by unfold timE; rw [h, if_pos rfl, if_pos h2]
theorem timE_3 {t : Table} {tx : Int} (h : instB tx = true) (h2 : t.last < tx) : 0 = timE t tx := by unfold timE; rw [h, if_pos rfl, if_neg (by omega)]
theorem I64_timE (t : Table) (tx : Int) : I64 (timE t tx) := by unfold timE; split <;> (try split) <;> constructor <;> decide
theorem cmpOr2 (a b : Int) : cmpOr [a, b] = or2 a b := by
  unfold cmpOr or2
  by_cases ha : a = 0
  · by_cases hb : b = 0 <;> simp [ha, hb]
  · simp [ha]
theorem or2_0 {a b : Int} (h : or2 a b = 0) : a = 0 ∧ b = 0 := by unfold or2 at h; split at h <;> omega
theorem timE_0 {t : Table} {tx : Int} (h : timE t tx = 0) : instB tx = true ∧ t.last < tx := by
  unfold timE at h
  split at h
  · rename_i h1; split at h <;> first | omega | exact ⟨h1, by omega⟩
  · omega
theorem instB_parts {x : Int} (h : instB x = true) : -62135596800 ≤ x ∧ x < 253402300800 := by unfold instB at h; simpa using h
theorem insOk_1 {t : Table} {d : Span} (h : validT t = false) : insOk t d = false := by unfold insOk; rw [h]; rfl
theorem insOk_2 {t : Table} {d : Span} (h : spanB d = false) : insOk t d = false := by unfold insOk; rw [h]; simp
theorem insOk_y {t : Table} {d : Span} (h1 : validT t = true) (h2 : spanB d = true) : insOk t d = true := by unfold insOk; rw [h1, h2]; rfl
theorem ins_1 {t : Table} {tx : Int} {v : List Val} {d : Span} (h : insOk t d = false) : noT = insT t tx v d ∧ 1 = insE_ t tx v d := by
  have : insErr t tx v d = 1 := by unfold insErr; rw [h]; rfl
  unfold insT insE_; rw [this]; exact ⟨rfl, rfl⟩
theorem insErr_is {t : Table} {tx : Int} {v : List Val} {d : Span} (h : insOk t d = true) : insErr t tx v d = or2 (rowE t.s v) (timE t tx) := by unfold insErr; rw [h]; rfl
theorem ins_2 {t : Table} {tx : Int} {v : List Val} {d : Span} (h : insOk t d = true) (h2 : cmpOr [rowE t.s v, timE t tx] ≠ 0) : noT = insT t tx v d ∧ cmpOr [rowE t.s v, timE t tx] = insE_ t tx v d := by
  rw [cmpOr2] at *
  unfold insT insE_; rw [insErr_is h, if_neg h2, if_neg h2]; exact ⟨rfl, rfl⟩
theorem ins_3 {t : Table} {tx : Int} {v : List Val} {d : Span} (h : insOk t d = true) (h2 : cmpOr [rowE t.s v, timE t tx] = 0) : doneT t tx (insRows t tx v d) = insT t tx v d ∧ doneTE (insRows t tx v d) = insE_ t tx v d := by
  rw [cmpOr2] at *
  unfold insT insE_; rw [insErr_is h, if_pos h2, if_pos h2]; exact ⟨rfl, rfl⟩
theorem insRows_good {t : Table} {tx : Int} {v : List Val} {d : Span} (h : validT t = true) (hd : spanB d = true) (h2 : cmpOr [rowE t.s v, timE t tx] = 0) :
    GoodH (insRows t tx v d) ∧ (∀ r ∈ insRows t tx v d, r.v.length ≤ 1000) ∧ (insRows t tx v d).length ≤ 501 := by
  obtain ⟨g1, g2, g3, _⟩ := validT_good h
  rw [cmpOr2] at h2
  obtain ⟨e1, e2⟩ := or2_0 h2
  obtain ⟨e3, e4⟩ := timE_0 e2
  have e5 := instB_parts e3
  obtain ⟨r1, r2, _, _⟩ := rowE_len e1
  unfold insRows
  refine ⟨fun r hr => ?_, fun r hr => ?_, by simp; omega⟩
  · rcases List.mem_append.1 hr with hr | hr
    · exact g1 r hr
    · rw [List.mem_singleton.1 hr]
      unfold goodB
      simp only [r2, hd, Bool.true_and]
      unfold spanB
      simp; omega
  · rcases List.mem_append.1 hr with hr | hr
    · exact Nat.le_trans (g3 r hr) (by decide)
    · rw [List.mem_singleton.1 hr]; exact Nat.le_trans r1 (by decide)
def snapP (gs : List HGrp) (at_ tx : Int) : List (List Val) := (gs.filter fun g => inR (timesH g.t tx) at_).map HGrp.v
theorem snapP_yes {gs : List HGrp} {k : Nat} {g : HGrp} {at_ tx : Int} (h : gs[k]? = some g) (hi : inR (timesH g.t tx) at_ = true) : snapP (gs.take (k + 1)) at_ tx = snapP (gs.take k) at_ tx ++ [g.v] := by
  rw [List.take_add_one, h]; unfold snapP; simp [hi]
theorem snapP_no {gs : List HGrp} {k : Nat} {g : HGrp} {at_ tx : Int} (h : gs[k]? = some g) (hi : inR (timesH g.t tx) at_ = false) : snapP (gs.take (k + 1)) at_ tx = snapP (gs.take k) at_ tx := by
  rw [List.take_add_one, h]; unfold snapP; simp [hi]
theorem snapP_len (gs : List HGrp) (k : Nat) (at_ tx : Int) : (snapP (gs.take k) at_ tx).length ≤ gs.length := by
  unfold snapP; rw [List.length_map]; exact Nat.le_trans (List.length_filter_le _ _) (List.length_take_le' _ _)
theorem snap_1 {t : Table} {at_ tx : Int} (h : validT t = false) : [] = snapH t at_ tx := by unfold snapH; rw [h]; rfl
theorem snap_2 {t : Table} {at_ tx : Int} (h : instB at_ = false) : [] = snapH t at_ tx := by unfold snapH; rw [h]; simp
theorem snap_3 {t : Table} {at_ tx : Int} (h : instB tx = false) : [] = snapH t at_ tx := by unfold snapH; rw [h]; simp
theorem snap_y {t : Table} {at_ tx : Int} {k : Nat} (h1 : validT t = true) (h2 : instB at_ = true) (h3 : instB tx = true) (hk : (grpH t.rows).length ≤ k) : snapP ((grpH t.rows).take k) at_ tx = snapH t at_ tx := by
  unfold snapH; rw [h1, h2, h3, List.take_of_length_le hk]; rfl
end Go.Civ
namespace Go.Civ
def newT (s : Schema) : Table := if schB s then ⟨s, [], -62135596801⟩ else noT
def newE (s : Schema) : Int := if schB s then 0 else 1
theorem new_y {s : Schema} (h : schB s = true) : (⟨s, [], -62135596801⟩ : Table) = newT s ∧ 0 = newE s := by unfold newT newE; rw [h]; exact ⟨rfl, rfl⟩
theorem new_n {s : Schema} (h : schB s = false) : noT = newT s ∧ 1 = newE s := by unfold newT newE; rw [h]; exact ⟨rfl, rfl⟩
end Go.Civ
namespace Go.Civ
end Go.Civ
set_option linter.unusedVariables false
namespace Go.Civ
open Go.Proofs Go.Shelf Go.RowKit Go.Lib Go.Sort

theorem flatInt {G : GH} : ∀ (l : List Int), (∀ x ∈ l, I64 x) → Flat Enc.int G l (l.map (Value.int .i64))
  | [], _ => rfl
  | x :: l, h => ⟨[.int .i64 x], l.map (Value.int .i64), rfl, ⟨rfl, h x (by simp)⟩, flatInt l fun y hy => h y (by simp [hy])⟩
theorem flatInt_cells {G : GH} : ∀ (l : List Int) (xs : List Value), Flat Enc.int G l xs → xs = l.map (Value.int .i64) ∧ ∀ x ∈ l, I64 x
  | [], xs, h => ⟨h, by simp⟩
  | x :: l, xs, ⟨c, r, h1, h2, h3⟩ => by
    obtain ⟨rfl, hb⟩ := h2
    obtain ⟨rfl, h4⟩ := flatInt_cells l r h3
    refine ⟨h1, fun y hy => ?_⟩
    rcases List.mem_cons.1 hy with rfl | hy
    · exact hb
    · exact h4 y hy
def sortI (l : List Int) : List Int := l.mergeSort fun x y => decide (x ≤ y)

set_option maxHeartbeats 1000000 in
theorem c_SortI {G : GH} {w : World} (hG : G.In w) (l : List Int) (vd : Value) (od : OB) (hvd : Row Enc.int 8 (nat_lit 3) G vd l od) (hod : Lent w G od) :
    Calls Tryz.prog (nat_lit 159) #[vd] w fun e w' => ∃ r G', e = .returned r ∧ Res (blk od) w G w' G' ∧ r = .tuple #[] ∧ ∃ (l' : List Int) (o' : OB), Row Enc.int 8 (nat_lit 3) G' vd l' o' ∧ Lent w' G' o' ∧ l' = sortI l := by
  rcases hvd with ⟨rfl, rfl, rfl⟩ | ⟨b, cs, cap, xs, rfl, rfl, h3, h4, h5, h6, h7, h8, h9⟩
  · exact (Any.slices_Sort_int_none Tryz.laysSort none 0 w).mono fun e w' ⟨he, hw⟩ => by
      subst hw
      exact ⟨_, G, he, Res.refl hG, rfl, [], none, .inl ⟨rfl, rfl, rfl⟩, fun p hp => (by cases hp), by simp [sortI]⟩
  · obtain ⟨hb1, hb2⟩ := hod _ rfl
    obtain ⟨rfl, hI⟩ := flatInt_cells l xs h6
    have hE : Enc.int.n = 1 := rfl
    rw [hE, Nat.mul_one] at h5 h7
    have hcell : ∀ t, t < l.length → cs[t]? = some (.int .i64 l[t]!) := fun t ht => by
      have := congrArg (·[t]?) h7
      simp only [List.getElem?_take, if_pos ht, List.getElem?_map] at this
      rw [this, List.getElem?_eq_getElem ht, getElem!_pos l t ht]; rfl
    have hH : Holds (Value.int .i64) w b 0 l.toArray := fun t ht => by
      have ht' : t < l.length := by simpa using ht
      refine ⟨?_, ?_⟩
      · rw [Nat.zero_add]
        simp only [World.cell?, hb1, objOf]
        have := hcell t ht'
        rw [getElem!_pos l t ht'] at this
        rw [getElem!_pos l.toArray t ht]
        simpa using this
      · simp [World.frozen?, hb1, objOf]
    have hcon := Any.slices_Sort_int Tryz.laysSort b 0 cap l w hH (Array.getElem?_eq_some_iff.1 hb1).1 (by unfold reach at h9; omega)
    refine hcon.mono fun e w' ⟨he, n, os, hw⟩ => ?_
    have hperm : (sortI l).Perm l := List.mergeSort_perm _ _
    have hlen : (sortI l).length = l.length := hperm.length_eq
    have hbl : b < w.heap.size := (Array.getElem?_eq_some_iff.1 hb1).1
    obtain ⟨cs', hcs'⟩ : ∃ cs' : List Value, cs' = (putCells (Value.int .i64) 0 (sortI l).toArray cs.toArray).toList := ⟨_, rfl⟩
    have hget : ∀ k, w'.heap[k]? = if k < w.heap.size then (if b = k then some (.cells cs'.toArray (nat_lit 3) (0, 0)) else w.heap[k]?) else os[k - w.heap.size]? := fun k => by
      subst hw
      have hah : (Go.Sort.ahead w n).heap = w.heap := rfl
      simp only [putRow, mapBlock, grow, hah]
      rw [Array.getElem?_append]
      simp only [Array.size_modify]
      by_cases hk : k < w.heap.size
      · rw [if_pos hk, if_pos hk, Array.getElem?_modify]
        by_cases hkb : b = k
        · subst hkb
          rw [if_pos rfl, if_pos rfl, hb1]
          simp [objOf, onCells, hcs', sortI]
        · rw [if_neg hkb, if_neg hkb]
      · rw [if_neg hk, if_neg hk]
    have hres : Res [b] w G w' G := by
      refine ⟨?_, G.le_refl, fun _ _ => rfl, fun k o hk => ?_⟩
      · refine ⟨by subst hw; rfl, by subst hw; rfl, by subst hw; rfl, by subst hw; exact Nat.le_add_right _ _, ?_, fun k hk hkb => ?_⟩
        · subst hw
          have hah : (Go.Sort.ahead w n).heap = w.heap := rfl
          simp [putRow, mapBlock, grow]
          try simp [hah]
        · rw [hget, if_pos hk, if_neg (by simpa [eq_comm] using hkb)]
      · have hk1 := hG.lt hk
        have hkb : b ≠ k := fun e => by subst e; simp only at hb2; rw [hb2] at hk; cases hk
        rw [hget, if_pos hk1, if_neg hkb]; exact hG k o hk
    have hI' : ∀ x ∈ sortI l, I64 x := fun x hx => hI x (hperm.mem_iff.1 hx)
    refine ⟨_, G, he, hres, rfl, sortI l, some (b, nat_lit 3, cs'), .inr ⟨b, cs', cap, (sortI l).map (Value.int .i64), rfl, by rw [hlen], by rw [hlen]; exact h3, h4, ?_, flatInt _ hI', ?_, by rw [hlen]; exact h8, by rw [hlen]; exact h9⟩, fun p hp => ?_, rfl⟩
    · subst hcs'; rw [hE]; simpa [putCells] using h5
    · rw [hE, Nat.mul_one]
      apply List.ext_getElem?
      intro t
      rw [List.getElem?_take]
      by_cases ht : t < (sortI l).length
      · have htc : t < cs.length := by omega
        rw [if_pos ht, hcs']
        simp only [putCells, Array.getElem?_toList, Array.getElem?_mapIdx]
        simp only [List.getElem?_toArray]
        rw [List.getElem?_eq_getElem htc, List.getElem?_map, List.getElem?_eq_getElem ht]
        simp [ht]
      · rw [if_neg ht, List.getElem?_eq_none]
        simp; omega
    · obtain rfl := Option.some.inj hp
      exact ⟨by rw [hget, if_pos hbl, if_pos rfl]; rfl, hb2⟩
end Go.Civ
