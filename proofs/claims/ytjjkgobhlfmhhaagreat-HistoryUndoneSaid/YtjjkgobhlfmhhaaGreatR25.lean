/- Lemmas: Civ57, Sx. -/
import Derived.Test.YtjjkgobhlfmhhaaGreatR24
import Derived.WalkKit
import Derived.KernelRfl
namespace Go.Civ
open Go.RowKit
set_option linter.unusedVariables false
def validA (t : Table) : Bool := schB t.s && decide (-62135596801 ≤ t.last) && decide (t.last < 253402300800) && decide (t.rows.length ≤ 500)
theorem validA_yes {t : Table} (h1 : schB t.s = true) (h2 : -62135596801 ≤ t.last) (h3 : t.last < 253402300800) (h4 : (t.rows.length : Int) ≤ 500) : validA t = true := by
  unfold validA; rw [h1, decide_eq_true h2, decide_eq_true h3, decide_eq_true (show t.rows.length ≤ 500 by omega)]; rfl
theorem validT_is (t : Table) : validT t = ((validA t && t.rows.all (rowOk t.s t.last)) && decide (t.rows = normH t.rows)) := rfl
theorem validT_a {t : Table} (h : validA t = false) : false = validT t := by rw [validT_is, h]; rfl
theorem validA_1 {t : Table} (h : schB t.s = false) : validA t = false := by unfold validA; rw [h]; rfl
theorem validA_2 {t : Table} (h : t.last < -62135596801) : validA t = false := by unfold validA; rw [decide_eq_false (show ¬ -62135596801 ≤ t.last by omega)]; simp
theorem validA_3 {t : Table} (h : 253402300800 ≤ t.last) : validA t = false := by unfold validA; rw [decide_eq_false (show ¬ t.last < 253402300800 by omega)]; simp
theorem validA_4 {t : Table} (h : 500 < (t.rows.length : Int)) : validA t = false := by unfold validA; rw [decide_eq_false (show ¬ t.rows.length ≤ 500 by omega)]; simp
theorem validT_row {t : Table} {k : Nat} {x : HRow} (h : t.rows[k]? = some x) (hx : rowOk t.s t.last x = false) : false = validT t := by
  rw [validT_is, all_no h hx]; simp
theorem validT_eq {t : Table} (h1 : validA t = true) (h2 : t.rows.all (rowOk t.s t.last) = true) : eqF (fun x y => decide (x = y)) t.rows (normH t.rows) = validT t := by
  rw [validT_is, h1, h2, eqF_eq]; rfl
theorem rowOk_1 {s : Schema} {last : Int} {x : HRow} (h : rowE s x.v ≠ 0) : rowOk s last x = false := by unfold rowOk; rw [decide_eq_false h]; rfl
theorem rowOk_2 {s : Schema} {last : Int} {x : HRow} (h : goodB x = false) : rowOk s last x = false := by unfold rowOk; rw [h]; simp
theorem rowOk_3 {s : Schema} {last : Int} {x : HRow} (h : last < x.r.x.a) : rowOk s last x = false := by unfold rowOk; rw [decide_eq_false (show ¬ x.r.x.a ≤ last by omega)]; simp
theorem rowOk_4 {s : Schema} {last : Int} {x : HRow} (h : last < x.r.x.b) (h2 : x.r.x.b ≠ 253402300800) : rowOk s last x = false := by unfold rowOk; rw [decide_eq_false (show ¬ x.r.x.b ≤ last by omega), decide_eq_false h2]; simp
theorem rowOk_y {s : Schema} {last : Int} {x : HRow} (h1 : rowE s x.v = 0) (h2 : goodB x = true) (h3 : x.r.x.a ≤ last) (h4 : x.r.x.b ≤ last ∨ x.r.x.b = 253402300800) : rowOk s last x = true := by
  unfold rowOk; rw [decide_eq_true h1, h2, decide_eq_true h3]
  rcases h4 with h4 | h4
  · rw [decide_eq_true h4]; rfl
  · rw [decide_eq_true h4]; simp
theorem rows_good {s : Schema} {last : Int} {l : List HRow} (h : l.all (rowOk s last) = true) : GoodH l ∧ ∀ r ∈ l, r.v.length ≤ 8 := by
  rw [List.all_eq_true] at h
  refine ⟨fun r hr => ?_, fun r hr => ?_⟩
  · have := h r hr; unfold rowOk at this; simp only [Bool.and_eq_true, decide_eq_true_eq] at this; exact this.1.1.2
  · have := h r hr; unfold rowOk at this; simp only [Bool.and_eq_true, decide_eq_true_eq] at this; exact (rowE_len this.1.1.1).1
theorem le1000 {l : List HRow} (h : ∀ r ∈ l, r.v.length ≤ 8) : ∀ r ∈ l, r.v.length ≤ 1000 := fun r hr => Nat.le_trans (h r hr) (by decide)
theorem done_yes {t : Table} {tx : Int} {l : List HRow} (h : ((normH l).length : Int) ≤ 500) : (⟨t.s, normH l, tx⟩ : Table) = doneT t tx l ∧ 0 = doneTE l := by
  unfold doneT doneTE; rw [if_pos (by omega), if_pos (by omega)]; exact ⟨rfl, rfl⟩
theorem done_no {t : Table} {tx : Int} {l : List HRow} (h : 500 < ((normH l).length : Int)) : noT = doneT t tx l ∧ 5 = doneTE l := by
  unfold doneT doneTE; rw [if_neg (by omega), if_neg (by omega)]; exact ⟨rfl, rfl⟩
theorem timE_1 {t : Table} {tx : Int} (h : instB tx = false) : 2 = timE t tx := by unfold timE; rw [h]; rfl
theorem timE_2 {t : Table} {tx : Int} (h : instB tx = true) (h2 : tx ≤ t.last) : 6 = timE t tx := by unfold timE; rw [h, if_pos rfl, if_pos h2]
theorem timE_3 {t : Table} {tx : Int} (h : instB tx = true) (h2 : t.last < tx) : 0 = timE t tx := by unfold timE; rw [h, if_pos rfl, if_neg (by omega)]
theorem I64_timE (t : Table) (tx : Int) : I64 (timE t tx) := by unfold timE; split <;> (try split) <;> constructor <;> decide
theorem cmpOr2 (a b : Int) : cmpOr [a, b] = or2 a b := by
  unfold cmpOr or2
  by_cases ha : a = 0
  · by_cases hb : b = 0 <;> simp [ha, hb]
  · simp [ha]
theorem or2_0 {a b : Int} (h : or2 a b = 0) : a = 0 ∧ b = 0 := by unfold or2 at h; split at h <;> omega
theorem timE_0 {t : Table} {tx : Int} (h : timE t tx = 0) : instB tx = true ∧ t.last < tx := by
  unfold timE at h
  split at h
  · rename_i h1; split at h <;> first | omega | exact ⟨h1, by omega⟩
  · omega
theorem instB_parts {x : Int} (h : instB x = true) : -62135596800 ≤ x ∧ x < 253402300800 := by unfold instB at h; simpa using h
theorem insOk_1 {t : Table} {d : Span} (h : validT t = false) : insOk t d = false := by unfold insOk; rw [h]; rfl
theorem insOk_2 {t : Table} {d : Span} (h : spanB d = false) : insOk t d = false := by unfold insOk; rw [h]; simp
theorem insOk_y {t : Table} {d : Span} (h1 : validT t = true) (h2 : spanB d = true) : insOk t d = true := by unfold insOk; rw [h1, h2]; rfl
theorem ins_1 {t : Table} {tx : Int} {v : List Val} {d : Span} (h : insOk t d = false) : noT = insT t tx v d ∧ 1 = insE_ t tx v d := by
  have : insErr t tx v d = 1 := by unfold insErr; rw [h]; rfl
  unfold insT insE_; rw [this]; exact ⟨rfl, rfl⟩
theorem insErr_is {t : Table} {tx : Int} {v : List Val} {d : Span} (h : insOk t d = true) : insErr t tx v d = or2 (rowE t.s v) (timE t tx) := by unfold insErr; rw [h]; rfl
theorem ins_2 {t : Table} {tx : Int} {v : List Val} {d : Span} (h : insOk t d = true) (h2 : cmpOr [rowE t.s v, timE t tx] ≠ 0) : noT = insT t tx v d ∧ cmpOr [rowE t.s v, timE t tx] = insE_ t tx v d := by
  rw [cmpOr2] at *
  unfold insT insE_; rw [insErr_is h, if_neg h2, if_neg h2]; exact ⟨rfl, rfl⟩
theorem ins_3 {t : Table} {tx : Int} {v : List Val} {d : Span} (h : insOk t d = true) (h2 : cmpOr [rowE t.s v, timE t tx] = 0) : doneT t tx (insRows t tx v d) = insT t tx v d ∧ doneTE (insRows t tx v d) = insE_ t tx v d := by
  rw [cmpOr2] at *
  unfold insT insE_; rw [insErr_is h, if_pos h2, if_pos h2]; exact ⟨rfl, rfl⟩
theorem insRows_good {t : Table} {tx : Int} {v : List Val} {d : Span} (h : validT t = true) (hd : spanB d = true) (h2 : cmpOr [rowE t.s v, timE t tx] = 0) :
    GoodH (insRows t tx v d) ∧ (∀ r ∈ insRows t tx v d, r.v.length ≤ 1000) ∧ (insRows t tx v d).length ≤ 501 := by
  obtain ⟨g1, g2, g3, _⟩ := validT_good h
  rw [cmpOr2] at h2
  obtain ⟨e1, e2⟩ := or2_0 h2
  obtain ⟨e3, e4⟩ := timE_0 e2
  have e5 := instB_parts e3
  obtain ⟨r1, r2, _, _⟩ := rowE_len e1
  unfold insRows
  refine ⟨fun r hr => ?_, fun r hr => ?_, by simp; omega⟩
  · rcases List.mem_append.1 hr with hr | hr
    · exact g1 r hr
    · rw [List.mem_singleton.1 hr]
      unfold goodB
      simp only [r2, hd, Bool.true_and]
      unfold spanB
      simp; omega
  · rcases List.mem_append.1 hr with hr | hr
    · exact Nat.le_trans (g3 r hr) (by decide)
    · rw [List.mem_singleton.1 hr]; exact Nat.le_trans r1 (by decide)
def snapP (gs : List HGrp) (at_ tx : Int) : List (List Val) := (gs.filter fun g => inR (timesH g.t tx) at_).map HGrp.v
theorem snapP_yes {gs : List HGrp} {k : Nat} {g : HGrp} {at_ tx : Int} (h : gs[k]? = some g) (hi : inR (timesH g.t tx) at_ = true) : snapP (gs.take (k + 1)) at_ tx = snapP (gs.take k) at_ tx ++ [g.v] := by
  rw [List.take_add_one, h]; unfold snapP; simp [hi]
theorem snapP_no {gs : List HGrp} {k : Nat} {g : HGrp} {at_ tx : Int} (h : gs[k]? = some g) (hi : inR (timesH g.t tx) at_ = false) : snapP (gs.take (k + 1)) at_ tx = snapP (gs.take k) at_ tx := by
  rw [List.take_add_one, h]; unfold snapP; simp [hi]
theorem snapP_len (gs : List HGrp) (k : Nat) (at_ tx : Int) : (snapP (gs.take k) at_ tx).length ≤ gs.length := by
  unfold snapP; rw [List.length_map]; exact Nat.le_trans (List.length_filter_le _ _) (List.length_take_le' _ _)
theorem snap_1 {t : Table} {at_ tx : Int} (h : validT t = false) : [] = snapH t at_ tx := by unfold snapH; rw [h]; rfl
theorem snap_2 {t : Table} {at_ tx : Int} (h : instB at_ = false) : [] = snapH t at_ tx := by unfold snapH; rw [h]; simp
theorem snap_3 {t : Table} {at_ tx : Int} (h : instB tx = false) : [] = snapH t at_ tx := by unfold snapH; rw [h]; simp
theorem snap_y {t : Table} {at_ tx : Int} {k : Nat} (h1 : validT t = true) (h2 : instB at_ = true) (h3 : instB tx = true) (hk : (grpH t.rows).length ≤ k) : snapP ((grpH t.rows).take k) at_ tx = snapH t at_ tx := by
  unfold snapH; rw [h1, h2, h3, List.take_of_length_le hk]; rfl
end Go.Civ
namespace Go.Civ
def newT (s : Schema) : Table := if schB s then ⟨s, [], -62135596801⟩ else noT
def newE (s : Schema) : Int := if schB s then 0 else 1
theorem new_y {s : Schema} (h : schB s = true) : (⟨s, [], -62135596801⟩ : Table) = newT s ∧ 0 = newE s := by unfold newT newE; rw [h]; exact ⟨rfl, rfl⟩
theorem new_n {s : Schema} (h : schB s = false) : noT = newT s ∧ 1 = newE s := by unfold newT newE; rw [h]; exact ⟨rfl, rfl⟩
end Go.Civ
namespace Go.Civ
end Go.Civ
set_option linter.unusedVariables false
namespace Go.Civ
open Go.Proofs Go.Shelf Go.RowKit Go.Lib Go.Sort

set_option maxHeartbeats 2000000 in
theorem sortRowH {P : Program} {fS : Nat} {α : Type} {E : Enc α} {by_ : Nat} {tid : TypeId} (hk0 : 0 < E.n) (cf : α → α → Int) (V : α → Prop) (gf : Nat) {G : GH} {w : World} (hG : G.In w)
    (hnone : ∀ w, Calls P fS #[.slice none 0 0, .func (.func gf) #[] #[]] w fun e w' => e = .returned (.tuple #[]) ∧ w' = w)
    (hlaw : ∀ [Inhabited (Elt E G V)] (b cap : Nat) (d : Array (Elt E G V)) (cs : List Value) (ty : TypeId), w.heap[b]? = some (.cells cs.toArray ty (0, 0)) → G b = none → HoldsK (fun x : Elt E G V => x.1.2) E.n w b 0 d → b < w.heap.size → d.size < 4611686018427387904 →
      Calls P fS #[.slice (some ⟨b, 0, none⟩) d.size cap, .func (.func gf) #[] #[]] w fun e w' => e = .returned (.tuple #[]) ∧ ∃ d' n os, PermIn 0 d.size d d' ∧ SortedIn (ltOf fun x y : Elt E G V => cf x.1.1 y.1.1) 0 d.size d' ∧ w' = sortWorldK (fun x : Elt E G V => x.1.2) E.n w b 0 n d' os)
    (x0 : α) (c0 : List Value) (h0 : E.rep G x0 c0) (hV0 : V x0) (l : List α) (hV : ∀ x ∈ l, V x) (vd : Value) (od : OB) (hvd : Row E by_ tid G vd l od) (hod : Lent w G od) :
    Calls P fS #[vd, .func (.func gf) #[] #[]] w fun e w' => ∃ r G', e = .returned r ∧ Res (blk od) w G w' G' ∧ r = .tuple #[] ∧ ∃ (l' : List α) (o' : OB), Row E by_ tid G' vd l' o' ∧ Lent w' G' o' ∧ (l'.Perm l ∧ l'.Pairwise fun x y => ¬ cf y x < 0) := by
  rcases hvd with ⟨rfl, rfl, rfl⟩ | ⟨b, cs, cap, xs, rfl, rfl, h3, h4, h5, h6, h7, h8, h9⟩
  · exact (hnone w).mono fun e w' ⟨he, hw⟩ => by
      subst hw
      exact ⟨_, G, he, Res.refl hG, rfl, [], none, .inl ⟨rfl, rfl, rfl⟩, fun p hp => (by cases hp), List.Perm.refl _, List.Pairwise.nil⟩
  · obtain ⟨hb1, hb2⟩ := hod _ rfl
    simp only [objOf] at hb1
    obtain ⟨dl, rfl, rfl⟩ := flat_elts l xs h6 hV
    letI : Inhabited (Elt E G V) := ⟨⟨(x0, c0), h0, hV0⟩⟩
    have hkE : ∀ x : Elt E G V, (x.1.2).length = E.n := fun x => E.len x.2.1
    have hsz : dl.toArray.size = (dl.map (·.1.1)).length := by simp
    have hcell : ∀ t, t < dl.toArray.size * E.n → cs[t]? = some ((flatK (fun x : Elt E G V => x.1.2) E.n dl.toArray)[t]!) := fun t ht => by
      rw [← flatK_atK (fun x : Elt E G V => x.1.2) E.n hk0 hkE dl.toArray t ht]
      have e7 := congrArg (·[t]?) h7
      rw [List.getElem?_take, if_pos (by rw [← hsz]; exact ht)] at e7
      exact e7
    have hH : HoldsK (fun x : Elt E G V => x.1.2) E.n w b 0 dl.toArray := fun t ht => by
      rw [size_flatK] at ht
      refine ⟨?_, ?_⟩
      · rw [Nat.zero_add]
        simp only [World.cell?, hb1]
        have := hcell t ht
        simpa using this
      · simp [World.frozen?, hb1]
    have hcon := hlaw b cap dl.toArray _ _ hb1 hb2 hH (Array.getElem?_eq_some_iff.1 hb1).1 (by rw [hsz]; unfold reach at h9; omega)
    rw [hsz] at hcon
    refine hcon.mono fun e w' ⟨he, d', n, os, hp, hs, hw⟩ => ?_
    obtain ⟨hp1, hp2, hp3⟩ := hp
    have hd' : d'.size = dl.length := by simpa using hp1
    have hperm : d'.toList.Perm dl := by
      have e1 : d'.extract 0 dl.toArray.size = d' := by rw [← hp1]; simp
      have e2 : dl.toArray.extract 0 dl.toArray.size = dl.toArray := by simp
      rw [hsz.symm, e1, e2] at hp3; simpa using hp3
    have hbl : b < w.heap.size := (Array.getElem?_eq_some_iff.1 hb1).1
    subst hw
    obtain ⟨cs', hcs'⟩ : ∃ cs' : List Value, cs' = (putCells id 0 (flatK (fun x : Elt E G V => x.1.2) E.n d') cs.toArray).toList := ⟨_, rfl⟩
    have hres := sort_res (fun x : Elt E G V => x.1.2) E.n hG b n d' os hb1 hb2
    have hlen : (d'.toList.map (·.1.1)).length = (dl.map (·.1.1)).length := by simp [hd']
    have hln : (dl.map (·.1.1)).length = dl.length := by simp
    have h5' : cs.length = cap * E.n := h5
    have hfl : (d'.toList.flatMap (·.1.2)).length = d'.size * E.n := by
      have := Flat.len (elts_flat d'.toList); simpa using this
    have hcapd : d'.size * E.n ≤ cs.length := by
      rw [h5']; exact Nat.mul_le_mul_right _ (by omega)
    refine ⟨_, G, he, hres, rfl, d'.toList.map (·.1.1), some (b, tid, cs'), .inr ⟨b, cs', cap, d'.toList.flatMap (·.1.2), rfl, by rw [hlen], by rw [hlen]; exact h3, h4, ?_, elts_flat _, ?_, by rw [hlen]; exact h8, by rw [hlen]; exact h9⟩, fun p hp => ?_, ?_, ?_⟩
    · subst hcs'; simpa [putCells] using h5
    · apply List.ext_getElem?
      intro t
      rw [List.getElem?_take]
      have hn2 : (d'.toList.map (·.1.1)).length * E.n = d'.size * E.n := by simp
      rw [hn2]
      by_cases ht : t < d'.size * E.n
      · have htc : t < cs.length := by omega
        rw [if_pos ht, flatK_atK (fun x : Elt E G V => x.1.2) E.n hk0 hkE d' t ht, hcs']
        simp only [putCells, Array.getElem?_toList, Array.getElem?_mapIdx, size_flatK]
        simp only [List.getElem?_toArray]
        rw [List.getElem?_eq_getElem htc]
        simp [ht]
      · rw [if_neg ht, List.getElem?_eq_none]; omega
    · obtain rfl := Option.some.inj hp
      refine ⟨?_, hb2⟩
      rw [sort_heap _ _ w b n d' os hb1, if_pos hbl, if_pos rfl, hcs']; rfl
    · exact hperm.map _
    · rw [List.pairwise_map, List.pairwise_iff_getElem]
      intro i j hi hj hij
      have h := hs i j (by omega) hij (by rw [← hsz, ← hp1]; simpa using hj)
      have hi' : i < d'.size := by simpa using hi
      have hj' : j < d'.size := by simpa using hj
      rw [getElem!_pos d' i hi', getElem!_pos d' j hj'] at h
      have := of_decide_eq_false h
      simpa only [Array.getElem_toList] using this

section
variable {α : Type} {E : Enc α} {G : GH} {V : α → Prop}
def cell1 (x : Elt E G V) : Value := x.1.2.headD default
theorem cell1_is (h1 : E.n = 1) (x : Elt E G V) : x.1.2 = [cell1 x] := by
  have := E.len x.2.1
  rw [h1] at this
  obtain ⟨v, hv⟩ := List.length_eq_one_iff.1 this
  unfold cell1; rw [hv]; rfl
variable [Inhabited (Elt E G V)]
theorem flat1 (h1 : E.n = 1) (d : Array (Elt E G V)) (j : Nat) (hj : j < d.size) : (flatK (fun x : Elt E G V => x.1.2) E.n d)[j]! = cell1 d[j]! := by
  rw [get_flatK _ _ _ _ (by rw [h1]; omega), h1, Nat.div_one, Nat.mod_one, cell1_is h1]; rfl
theorem putCells1 (h1 : E.n = 1) (d : Array (Elt E G V)) (off : Nat) (c : Array Value) : putCells id off (flatK (fun x : Elt E G V => x.1.2) E.n d) c = putCells cell1 off d c := by
  unfold putCells
  apply Array.ext
  · simp
  · intro i hi hi2
    simp only [Array.getElem_mapIdx, size_flatK, h1, Nat.mul_one, id]
    split
    · rename_i h
      have := flat1 h1 d (i - off) (by omega)
      rw [h1] at this
      exact this
    · rfl
theorem world1 (h1 : E.n = 1) (w : World) (b off n : Nat) (d : Array (Elt E G V)) (os : Array Obj) : sortWorldK (fun x : Elt E G V => x.1.2) E.n w b off n d os = sortWorld cell1 w b off n d os := by
  unfold sortWorldK sortWorld putRowK putRow
  have : putCells id off (flatK (fun x : Elt E G V => x.1.2) E.n d) = putCells cell1 off d := funext fun c => putCells1 h1 d off c
  rw [this]
theorem holds1 (h1 : E.n = 1) {w : World} {b off : Nat} {d : Array (Elt E G V)} (h : HoldsK (fun x : Elt E G V => x.1.2) E.n w b off d) : Holds cell1 w b off d := fun j hj => by
  have h2 := h j (by rw [size_flatK, h1]; omega)
  rw [flat1 h1 d j hj] at h2
  exact h2
end
theorem sortRow1 {P : Program} {ρr : Ren} (Ls : SlLaysF.n6 P ρr) {α : Type} {E : Enc α} {by_ : Nat} {tid : TypeId} (h1 : E.n = 1)
    (cf : α → α → Int) (V : α → Prop) (hirr : ∀ x, V x → ¬ cf x x < 0) (htr : ∀ x y z, V x → V y → V z → cf x y < 0 → cf y z < 0 → cf x z < 0) (hnt : ∀ x y z, V x → V y → V z → ¬ cf x y < 0 → ¬ cf y z < 0 → ¬ cf x z < 0)
    (gf : Nat) (eg : ∀ args w, (callFunc gf args).run P w = .ok (.enter gf args) w) {G : GH} {w : World} (hG : G.In w)
    (hcl : ∀ W, G.In W → ∀ x y vx vy, V x → V y → E.rep G x [vx] → E.rep G y [vy] → Calls P gf #[vx, vy] W fun e w' => ∃ r G', e = .returned r ∧ Res [] W G w' G' ∧ r = .int .i64 (cf x y))
    (x0 : α) (c0 : List Value) (h0 : E.rep G x0 c0) (hV0 : V x0) (l : List α) (hV : ∀ x ∈ l, V x) (vd : Value) (od : OB) (hvd : Row E by_ tid G vd l od) (hod : Lent w G od) :
    Calls P (ρr.f 6) #[vd, .func (.func gf) #[] #[]] w fun e w' => ∃ r G', e = .returned r ∧ Res (blk od) w G w' G' ∧ r = .tuple #[] ∧ ∃ (l' : List α) (o' : OB), Row E by_ tid G' vd l' o' ∧ Lent w' G' o' ∧ (l'.Perm l ∧ l'.Pairwise fun x y => ¬ cf y x < 0) := by
  refine sortRowH (by omega) cf V gf hG (fun w => AnyF.slices_SortFunc_none (P := P) (ρ := ρr) { Ls with } none 0 (.func (.func gf) #[] #[]) w) ?_ x0 c0 h0 hV0 l hV vd od hvd hod
  intro _ b cap d cs ty hb1 hb2 hH hblk hsz
  have hO : SWO (ltOf fun x y : Elt E G V => cf x.1.1 y.1.1) :=
    ⟨fun x => decide_eq_false (hirr _ x.2.2), fun x y z p q => decide_eq_true (htr _ _ _ x.2.2 y.2.2 z.2.2 (of_decide_eq_true p) (of_decide_eq_true q)), fun x y z p q => decide_eq_false (hnt _ _ _ x.2.2 y.2.2 z.2.2 (of_decide_eq_false p) (of_decide_eq_false q))⟩
  have hoc : OneCell (cell1 : Elt E G V → Value) := fun x => E.one x.2.1 _ (by rw [cell1_is h1 x]; simp)
  refine (Any.slices_SortFunc Ls (cell1 : Elt E G V → Value) hoc (fun x y => cf x.1.1 y.1.1) hO gf #[] b 0 cap d w eg (fun m os dk _ x y => ?_) (holds1 h1 hH) hblk hsz).mono fun e w' ⟨he, d', n, os, hp, hs, hw⟩ => ⟨he, d', n, os, hp, hs, by rw [hw, world1 h1]⟩
  have hi := (sort_res (fun x : Elt E G V => x.1.2) E.n hG b m dk os hb1 hb2).imm
  rw [world1 h1] at hi
  have rx := x.2.1
  have ry := y.2.1
  rw [cell1_is h1 x] at rx
  rw [cell1_is h1 y] at ry
  exact (hcl _ hi x.1.1 y.1.1 _ _ x.2.2 y.2.2 rx ry).mono fun e w' ⟨r, G', he, hres, hr⟩ => ⟨by rw [he, hr], hres.kept.grow⟩
end Go.Civ
