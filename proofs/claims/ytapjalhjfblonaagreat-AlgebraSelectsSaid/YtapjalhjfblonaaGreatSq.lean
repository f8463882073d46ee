/- slices.SortFunc of spans by their beginnings: the library's contract, told of rows. -/
import Derived.Test.YtapjalhjfblonaaGreatShelf
import Derived.Test.YtapjalhjfblonaaGreatCiv16
import Derived.WalkKit
import Derived.KernelRfl
set_option linter.unusedVariables false
namespace Go.Civ
open Go.Proofs Go.Shelf Go.RowKit Go.Lib Go.Sort

/-- Spans whose beginnings do not overflow when they are subtracted. -/
abbrev BSpan := { s : Span // -4398046511104 ≤ s.a ∧ s.a ≤ 4398046511104 }
instance : Inhabited BSpan := ⟨⟨⟨0, 0⟩, by decide⟩⟩
def encB (x : BSpan) : List Value := [.int .i64 x.1.a, .int .i64 x.1.b]
def cfB (x y : BSpan) : Int := x.1.a - y.1.a

set_option maxHeartbeats 1000000 in
theorem closure171 (x y : BSpan) (W : World) : Calls Tryz.prog 171 #[.agg #[.int .i64 x.1.a, .int .i64 x.1.b], .agg #[.int .i64 y.1.a, .int .i64 y.1.b]] W fun e w' => e = .returned (.int .i64 (cfB x y)) ∧ ∃ q os', w' = grow (W.drewN q) os' := by
  obtain ⟨⟨xa, xb⟩, hx⟩ := x
  obtain ⟨⟨ya, yb⟩, hy⟩ := y
  simp only [cfB]
  have hw : IntKind.wrap .i64 (xa - ya) = xa - ya := wrap_in ⟨by simp at hx hy; omega, by simp at hx hy; omega⟩
  go_enter Tryz.func171, Tryz.ntmps171
  go_wp2
  go_ret
  exact ⟨rfl, 0, _, by rw [alloc_eq_grow, alloc_eq_grow, grow_grow]; rfl⟩
theorem swoB : SWO (ltOf cfB) where
  irrefl x := decide_eq_false (show ¬ x.1.a - x.1.a < 0 by omega)
  trans x y z h1 h2 := by
    have h1' : x.1.a - y.1.a < 0 := of_decide_eq_true h1
    have h2' : y.1.a - z.1.a < 0 := of_decide_eq_true h2
    exact decide_eq_true (show x.1.a - z.1.a < 0 by omega)
  ntrans x y z h1 h2 := by
    have h1' : ¬ x.1.a - y.1.a < 0 := of_decide_eq_false h1
    have h2' : ¬ y.1.a - z.1.a < 0 := of_decide_eq_false h2
    exact decide_eq_false (show ¬ x.1.a - z.1.a < 0 by omega)

/-- The flat cells of a list, each element two cells. -/
theorem flat_get {α : Type} (enc : α → List Value) (h2 : ∀ x, (enc x).length = 2) : ∀ (l : List α) (t : Nat), (l.flatMap enc)[t]? = (l[t / 2]?).bind fun x => (enc x)[t % 2]?
  | [], t => by simp
  | x :: l, t => by
    rw [List.flatMap_cons, List.getElem?_append]
    by_cases ht : t < 2
    · rw [if_pos (by rw [h2]; exact ht), show t / 2 = 0 by omega, Nat.mod_eq_of_lt ht]; rfl
    · rw [if_neg (by rw [h2]; exact ht), h2, flat_get enc h2 l (t - 2), show (t - 2) / 2 = t / 2 - 1 by omega, show (t - 2) % 2 = t % 2 by omega]
      obtain ⟨m, hm⟩ : ∃ m, t / 2 = m + 1 := ⟨t / 2 - 1, by omega⟩
      rw [hm]; simp
theorem flatK_at {α : Type} [Inhabited α] (enc : α → List Value) (h2 : ∀ x, (enc x).length = 2) (d : Array α) (t : Nat) (ht : t < d.size * 2) : (d.toList.flatMap enc)[t]? = some ((flatK enc 2 d)[t]!) := by
  rw [flat_get enc h2, get_flatK enc 2 d t ht]
  have hd : t / 2 < d.size := by omega
  have e : d.toList[t / 2]? = some d[t / 2]! := by
    rw [getElem!_pos d (t / 2) hd, Array.getElem?_toList, Array.getElem?_eq_getElem hd]
  rw [e]
  simp only [Option.bind_some]
  have hl : t % 2 < (enc d[t / 2]!).length := by rw [h2]; omega
  rw [List.getElem?_eq_getElem hl, getElem!_pos (enc d[t / 2]!) (t % 2) hl]

theorem flatSpan {G : GH} : ∀ (l : List BSpan), (∀ x ∈ l, I64 x.1.b) → Flat SpanE G (l.map (·.1)) (l.flatMap encB)
  | [], _ => rfl
  | x :: l, h => ⟨encB x, l.flatMap encB, rfl, SpanE_mk x.1 ⟨by have := x.2; omega, by have := x.2; omega⟩ (h x (by simp)), flatSpan l fun y hy => h y (by simp [hy])⟩
theorem flat_cells {G : GH} : ∀ (l : List BSpan) (xs : List Value), Flat SpanE G (l.map (·.1)) xs → xs = l.flatMap encB ∧ ∀ x ∈ l, I64 x.1.b
  | [], xs, h => ⟨h, by simp⟩
  | x :: l, xs, ⟨c, r, h1, h2, h3⟩ => by
    obtain ⟨rfl, _, hb⟩ := SpanE_open h2
    obtain ⟨rfl, h4⟩ := flat_cells l r h3
    refine ⟨h1, fun y hy => ?_⟩
    rcases List.mem_cons.1 hy with rfl | hy
    · exact hb
    · exact h4 y hy

theorem attach_list : ∀ (l : List Span), (∀ s ∈ l, -4398046511104 ≤ s.a ∧ s.a ≤ 4398046511104) → ∃ d : List BSpan, d.map (·.1) = l
  | [], _ => ⟨[], rfl⟩
  | s :: l, h => by
    obtain ⟨d, hd⟩ := attach_list l fun x hx => h x (by simp [hx])
    exact ⟨⟨s, h s (by simp)⟩ :: d, by simp [hd]⟩

set_option maxHeartbeats 1000000 in
theorem c_SortS (G : GH) (w : World) (hG : G.In w) (l : List Span) (vd : Value) (od : OB) (hvd : Row SpanE 16 (nat_lit 46) G vd l od) (hod : Lent w G od) (hB : ∀ s ∈ l, -4398046511104 ≤ s.a ∧ s.a ≤ 4398046511104) :
    Calls Tryz.prog (nat_lit 170) #[vd, .func (.func 171) #[] #[]] w fun e w' => ∃ r G', e = .returned r ∧ Res (blk od) w G w' G' ∧ r = .tuple #[] ∧ ∃ (l' : List Span) (o' : OB), Row SpanE 16 (nat_lit 46) G' vd l' o' ∧ Lent w' G' o' ∧ (l'.Perm l ∧ AscA l') := by
  rcases hvd with ⟨rfl, rfl, rfl⟩ | ⟨b, cs, cap, xs, rfl, rfl, h3, h4, h5, h6, h7, h8, h9⟩
  · exact (AnyF.slices_SortFunc_none (P := Tryz.prog) (ρ := Tryz.sortSp_ren) { Tryz.sortSp with } none 0 (.func (.func 171) #[] #[]) w).mono fun e w' ⟨he, hw⟩ => by
      subst hw
      exact ⟨_, G, he, Res.refl hG, rfl, [], none, .inl ⟨rfl, rfl, rfl⟩, fun p hp => (by cases hp), List.Perm.refl _, List.Pairwise.nil⟩
  · obtain ⟨hb1, hb2⟩ := hod _ rfl
    obtain ⟨dl, rfl⟩ := attach_list l hB
    obtain ⟨rfl, hI⟩ := flat_cells dl xs h6
    have hsz : dl.toArray.size = (dl.map (·.1)).length := by simp
    have hcell : ∀ t, t < dl.toArray.size * 2 → cs[t]? = some ((flatK encB 2 dl.toArray)[t]!) := fun t ht => by
      rw [← flatK_at encB (fun _ => rfl) dl.toArray t ht]
      rw [← h7, List.getElem?_take, if_pos (by rw [← hsz]; exact ht)]
    have hH : HoldsK encB 2 w b 0 dl.toArray := fun t ht => by
      rw [size_flatK] at ht
      refine ⟨?_, ?_⟩
      · rw [Nat.zero_add]
        simp only [World.cell?, hb1, objOf]
        have := hcell t ht
        simpa using this
      · simp [World.frozen?, hb1, objOf]
    have hcon := AnyQ.slices_SortFunc Tryz.sortSp 2 Tryz.isAgg46 Tryz.sizeOf46 encB (fun _ => rfl) (fun x v hv => by simp [encB] at hv; rcases hv with rfl | rfl <;> rfl) cfB swoB 171 #[] b 0 cap dl.toArray w
      (enters_of Tryz.func171 (by kernel_rfl) rfl) (fun _ _ _ _ x y => closure171 x y _) hH (Array.getElem?_eq_some_iff.1 hb1).1 (by rw [hsz]; unfold reach at h9; omega)
    rw [hsz] at hcon
    refine hcon.mono fun e w' ⟨he, d', n, os, hp, hs, hw⟩ => ?_
    obtain ⟨hp1, hp2, hp3⟩ := hp
    have hd' : d'.size = dl.length := by simpa using hp1
    have hperm : d'.toList.Perm dl := by
      have e1 : d'.extract 0 dl.toArray.size = d' := by rw [← hp1]; simp
      have e2 : dl.toArray.extract 0 dl.toArray.size = dl.toArray := by simp
      rw [hsz.symm, e1, e2] at hp3; simpa using hp3
    have hbl : b < w.heap.size := (Array.getElem?_eq_some_iff.1 hb1).1
    subst hw
    -- the new cells
    obtain ⟨cs', hcs'⟩ : ∃ cs' : List Value, cs' = (putCells id 0 (flatK encB 2 d') cs.toArray).toList := ⟨_, rfl⟩
    have hget : ∀ k, (sortWorldK encB 2 w b 0 n d' os).heap[k]? = if k < w.heap.size then (if b = k then some (.cells cs'.toArray (nat_lit 46) (0, 0)) else w.heap[k]?) else os[k - w.heap.size]? := fun k => by
      have hah : (Go.Sort.ahead w n).heap = w.heap := rfl
      simp only [sortWorldK, putRowK, putRow, mapBlock, grow, hah]
      rw [Array.getElem?_append]
      simp only [Array.size_modify]
      by_cases hk : k < w.heap.size
      · rw [if_pos hk, if_pos hk, Array.getElem?_modify]
        by_cases hkb : b = k
        · subst hkb
          rw [if_pos rfl, if_pos rfl, hb1]
          simp [objOf, onCells, hcs']
        · rw [if_neg hkb, if_neg hkb]
      · rw [if_neg hk, if_neg hk]
    have hres : Res [b] w G (sortWorldK encB 2 w b 0 n d' os) G := by
      refine ⟨⟨rfl, rfl, rfl, ?_, fun k hk hkb => ?_⟩, G.le_refl, fun _ _ => rfl, fun k o hk => ?_⟩
      · have hah : (Go.Sort.ahead w n).heap = w.heap := rfl
        simp [sortWorldK, putRowK, putRow, mapBlock, grow]
        try simp [hah]
      · rw [hget, if_pos hk, if_neg (by simpa [eq_comm] using hkb)]
      · have hk1 := hG.lt hk
        have hkb : b ≠ k := fun e => by subst e; simp only at hb2; rw [hb2] at hk; cases hk
        rw [hget, if_pos hk1, if_neg hkb]; exact hG k o hk
    have hI' : ∀ x ∈ d'.toList, I64 x.1.b := fun x hx => hI x (hperm.mem_iff.1 hx)
    have hlen : (d'.toList.map (·.1)).length = (dl.map (·.1)).length := by simp [hd']
    have hln : (dl.map (·.1)).length = dl.length := by simp
    refine ⟨_, G, he, hres, rfl, d'.toList.map (·.1), some (b, nat_lit 46, cs'), .inr ⟨b, cs', cap, d'.toList.flatMap encB, rfl, by rw [hlen], by rw [hlen]; exact h3, h4, ?_, flatSpan _ hI', ?_, by rw [hlen]; exact h8, by rw [hlen]; exact h9⟩, fun p hp => ?_, ?_, ?_⟩
    · subst hcs'; simpa [putCells] using h5
    · -- the visible cells
      have h5' : cs.length = cap * 2 := h5
      apply List.ext_getElem?
      intro t
      rw [List.getElem?_take]
      have hn2 : (d'.toList.map (·.1)).length * SpanE.n = d'.size * 2 := by simp; rfl
      rw [hn2]
      by_cases ht : t < d'.size * 2
      · have htc : t < cs.length := by rw [h5']; rw [hln] at h3; omega
        rw [if_pos ht, flatK_at encB (fun _ => rfl) d' t ht, hcs']
        simp only [putCells, Array.getElem?_toList, Array.getElem?_mapIdx, size_flatK]
        simp only [List.getElem?_toArray]
        rw [List.getElem?_eq_getElem htc]
        simp [ht]
      · rw [if_neg ht, List.getElem?_eq_none]
        have := Flat.len (flatSpan (G := G) d'.toList hI')
        omega
    · obtain rfl := Option.some.inj hp
      exact ⟨by rw [hget, if_pos hbl, if_pos rfl]; rfl, hb2⟩
    · exact hperm.map _
    · unfold AscA
      rw [List.pairwise_map, List.pairwise_iff_getElem]
      intro i j hi hj hij
      have h := hs i j (by omega) hij (by rw [← hsz, ← hp1]; simpa using hj)
      have hi' : i < d'.size := by simpa using hi
      have hj' : j < d'.size := by simpa using hj
      rw [getElem!_pos d' i hi', getElem!_pos d' j hj'] at h
      have := of_decide_eq_false h
      simp only [cfB] at this
      simp only [Array.getElem_toList]
      omega
end Go.Civ
