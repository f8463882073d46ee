/- slices.Sort of integers: the library's contract, told of rows. -/
import Derived.Test.YtapjalhjfblonaaGreatSq
import Derived.Shelf.Sort.Plain
set_option linter.unusedVariables false
namespace Go.Civ
open Go.Proofs Go.Shelf Go.RowKit Go.Lib Go.Sort

theorem flatInt {G : GH} : ∀ (l : List Int), (∀ x ∈ l, I64 x) → Flat Enc.int G l (l.map (Value.int .i64))
  | [], _ => rfl
  | x :: l, h => ⟨[.int .i64 x], l.map (Value.int .i64), rfl, ⟨rfl, h x (by simp)⟩, flatInt l fun y hy => h y (by simp [hy])⟩
theorem flatInt_cells {G : GH} : ∀ (l : List Int) (xs : List Value), Flat Enc.int G l xs → xs = l.map (Value.int .i64) ∧ ∀ x ∈ l, I64 x
  | [], xs, h => ⟨h, by simp⟩
  | x :: l, xs, ⟨c, r, h1, h2, h3⟩ => by
    obtain ⟨rfl, hb⟩ := h2
    obtain ⟨rfl, h4⟩ := flatInt_cells l r h3
    refine ⟨h1, fun y hy => ?_⟩
    rcases List.mem_cons.1 hy with rfl | hy
    · exact hb
    · exact h4 y hy
def sortI (l : List Int) : List Int := l.mergeSort fun x y => decide (x ≤ y)

set_option maxHeartbeats 1000000 in
theorem c_SortI (G : GH) (w : World) (hG : G.In w) (l : List Int) (vd : Value) (od : OB) (hvd : Row Enc.int 8 (nat_lit 3) G vd l od) (hod : Lent w G od) :
    Calls Tryz.prog (nat_lit 101) #[vd] w fun e w' => ∃ r G', e = .returned r ∧ Res (blk od) w G w' G' ∧ r = .tuple #[] ∧ ∃ (l' : List Int) (o' : OB), Row Enc.int 8 (nat_lit 3) G' vd l' o' ∧ Lent w' G' o' ∧ l' = sortI l := by
  rcases hvd with ⟨rfl, rfl, rfl⟩ | ⟨b, cs, cap, xs, rfl, rfl, h3, h4, h5, h6, h7, h8, h9⟩
  · exact (Any.slices_Sort_int_none Tryz.laysSort none 0 w).mono fun e w' ⟨he, hw⟩ => by
      subst hw
      exact ⟨_, G, he, Res.refl hG, rfl, [], none, .inl ⟨rfl, rfl, rfl⟩, fun p hp => (by cases hp), by simp [sortI]⟩
  · obtain ⟨hb1, hb2⟩ := hod _ rfl
    obtain ⟨rfl, hI⟩ := flatInt_cells l xs h6
    have hE : Enc.int.n = 1 := rfl
    rw [hE, Nat.mul_one] at h5 h7
    have hcell : ∀ t, t < l.length → cs[t]? = some (.int .i64 l[t]!) := fun t ht => by
      have := congrArg (·[t]?) h7
      simp only [List.getElem?_take, if_pos ht, List.getElem?_map] at this
      rw [this, List.getElem?_eq_getElem ht, getElem!_pos l t ht]; rfl
    have hH : Holds (Value.int .i64) w b 0 l.toArray := fun t ht => by
      have ht' : t < l.length := by simpa using ht
      refine ⟨?_, ?_⟩
      · rw [Nat.zero_add]
        simp only [World.cell?, hb1, objOf]
        have := hcell t ht'
        rw [getElem!_pos l t ht'] at this
        rw [getElem!_pos l.toArray t ht]
        simpa using this
      · simp [World.frozen?, hb1, objOf]
    have hcon := Any.slices_Sort_int Tryz.laysSort b 0 cap l w hH (Array.getElem?_eq_some_iff.1 hb1).1 (by unfold reach at h9; omega)
    refine hcon.mono fun e w' ⟨he, n, os, hw⟩ => ?_
    have hperm : (sortI l).Perm l := List.mergeSort_perm _ _
    have hlen : (sortI l).length = l.length := hperm.length_eq
    have hbl : b < w.heap.size := (Array.getElem?_eq_some_iff.1 hb1).1
    obtain ⟨cs', hcs'⟩ : ∃ cs' : List Value, cs' = (putCells (Value.int .i64) 0 (sortI l).toArray cs.toArray).toList := ⟨_, rfl⟩
    have hget : ∀ k, w'.heap[k]? = if k < w.heap.size then (if b = k then some (.cells cs'.toArray (nat_lit 3) (0, 0)) else w.heap[k]?) else os[k - w.heap.size]? := fun k => by
      subst hw
      have hah : (Go.Sort.ahead w n).heap = w.heap := rfl
      simp only [putRow, mapBlock, grow, hah]
      rw [Array.getElem?_append]
      simp only [Array.size_modify]
      by_cases hk : k < w.heap.size
      · rw [if_pos hk, if_pos hk, Array.getElem?_modify]
        by_cases hkb : b = k
        · subst hkb
          rw [if_pos rfl, if_pos rfl, hb1]
          simp [objOf, onCells, hcs', sortI]
        · rw [if_neg hkb, if_neg hkb]
      · rw [if_neg hk, if_neg hk]
    have hres : Res [b] w G w' G := by
      refine ⟨?_, G.le_refl, fun _ _ => rfl, fun k o hk => ?_⟩
      · refine ⟨by subst hw; rfl, by subst hw; rfl, by subst hw; rfl, ?_, fun k hk hkb => ?_⟩
        · subst hw
          have hah : (Go.Sort.ahead w n).heap = w.heap := rfl
          simp [putRow, mapBlock, grow]
          try simp [hah]
        · rw [hget, if_pos hk, if_neg (by simpa [eq_comm] using hkb)]
      · have hk1 := hG.lt hk
        have hkb : b ≠ k := fun e => by subst e; simp only at hb2; rw [hb2] at hk; cases hk
        rw [hget, if_pos hk1, if_neg hkb]; exact hG k o hk
    have hI' : ∀ x ∈ sortI l, I64 x := fun x hx => hI x (hperm.mem_iff.1 hx)
    refine ⟨_, G, he, hres, rfl, sortI l, some (b, nat_lit 3, cs'), .inr ⟨b, cs', cap, (sortI l).map (Value.int .i64), rfl, by rw [hlen], by rw [hlen]; exact h3, h4, ?_, flatInt _ hI', ?_, by rw [hlen]; exact h8, by rw [hlen]; exact h9⟩, fun p hp => ?_, rfl⟩
    · subst hcs'; rw [hE]; simpa [putCells] using h5
    · rw [hE, Nat.mul_one]
      apply List.ext_getElem?
      intro t
      rw [List.getElem?_take]
      by_cases ht : t < (sortI l).length
      · have htc : t < cs.length := by omega
        rw [if_pos ht, hcs']
        simp only [putCells, Array.getElem?_toList, Array.getElem?_mapIdx]
        simp only [List.getElem?_toArray]
        rw [List.getElem?_eq_getElem htc, List.getElem?_map, List.getElem?_eq_getElem ht]
        simp [ht]
      · rw [if_neg ht, List.getElem?_eq_none]
        simp; omega
    · obtain rfl := Option.some.inj hp
      exact ⟨by rw [hget, if_pos hbl, if_pos rfl]; rfl, hb2⟩
end Go.Civ
