/- slices.Compact of integers: the library's contract, told of rows. -/
import Derived.Test.YtapjalhjfblonaaGreatSr
import Derived.Test.YtapjalhjfblonaaGreatShelf2
import Derived.Test.YtapjalhjfblonaaGreatCiv18
set_option linter.unusedVariables false
namespace Go.Civ
open Go.Proofs Go.Shelf Go.RowKit Go.Lib Go.Sort

theorem sortI_eq (l : List Int) : sortI l = sortZ l := rfl
set_option maxHeartbeats 1000000 in
theorem c_Compact (G : GH) (w : World) (hG : G.In w) (l : List Int) (vd : Value) (od : OB) (hvd : Row Enc.int 8 (nat_lit 3) G vd l od) (hod : Lent w G od) :
    Calls Tryz.prog (nat_lit 102) #[vd] w fun e w' => ∃ r G', e = .returned r ∧ Res (blk od) w G w' G' ∧ ∃ (o' : OB), Row Enc.int 8 (nat_lit 3) G' r (compact l) o' ∧ Lent w' G' o' ∧ blk o' = blk od := by
  rcases hvd with ⟨rfl, rfl, rfl⟩ | ⟨b, cs, cap, xs, rfl, rfl, h3, h4, h5, h6, h7, h8, h9⟩
  · exact (Any.slices_Compact_int_empty Tryz.laysCompact none 0 w).mono fun e w' ⟨he, hw⟩ => by
      subst hw
      exact ⟨_, G, he, Res.refl hG, none, .inl ⟨rfl, rfl, rfl⟩, fun p hp => (by cases hp), rfl⟩
  · obtain ⟨hb1, hb2⟩ := hod _ rfl
    obtain ⟨rfl, hI⟩ := flatInt_cells l xs h6
    have hE : Enc.int.n = 1 := rfl
    rw [hE, Nat.mul_one] at h5 h7
    have hcell : ∀ t, t < l.length → cs[t]? = some (.int .i64 l[t]!) := fun t ht => by
      have := congrArg (·[t]?) h7
      simp only [List.getElem?_take, if_pos ht, List.getElem?_map] at this
      rw [this, List.getElem?_eq_getElem ht, getElem!_pos l t ht]; rfl
    have hH : Holds (Value.int .i64) w b 0 l.toArray := fun t ht => by
      have ht' : t < l.length := by simpa using ht
      refine ⟨?_, ?_⟩
      · rw [Nat.zero_add]
        simp only [World.cell?, hb1, objOf]
        have := hcell t ht'
        rw [getElem!_pos l t ht'] at this
        rw [getElem!_pos l.toArray t ht]
        simpa using this
      · simp [World.frozen?, hb1, objOf]
    have hcon := Any.slices_Compact_int Tryz.laysCompact b 0 cap l w hH (by unfold reach at h9; omega) h3
    refine hcon.mono fun e w' ⟨he, q, hw⟩ => ?_
    have hlen := compact_len l
    have hbl : b < w.heap.size := (Array.getElem?_eq_some_iff.1 hb1).1
    obtain ⟨z, hz⟩ : ∃ z : List Int, z = compact l ++ List.replicate (l.length - (compact l).length) 0 := ⟨_, rfl⟩
    have hzl : z.length = l.length := by subst hz; simp; omega
    rw [← hz] at hw
    obtain ⟨cs', hcs'⟩ : ∃ cs' : List Value, cs' = (putCells (Value.int .i64) 0 z.toArray cs.toArray).toList := ⟨_, rfl⟩
    have hget : ∀ k, w'.heap[k]? = if b = k then some (.cells cs'.toArray (nat_lit 3) (0, 0)) else w.heap[k]? := fun k => by
      subst hw
      have hah : (Go.Sort.ahead w q).heap = w.heap := rfl
      simp only [putRow, mapBlock, hah]
      rw [Array.getElem?_modify]
      by_cases hkb : b = k
      · subst hkb
        rw [if_pos rfl, if_pos rfl, hb1]
        simp [objOf, onCells, hcs']
      · rw [if_neg hkb, if_neg hkb]
    have hres : Res [b] w G w' G := by
      refine ⟨?_, G.le_refl, fun _ _ => rfl, fun k o hk => ?_⟩
      · refine ⟨by subst hw; rfl, by subst hw; rfl, by subst hw; rfl, ?_, fun k hk hkb => ?_⟩
        · subst hw
          have hah : (Go.Sort.ahead w q).heap = w.heap := rfl
          simp [putRow, mapBlock]
          try simp [hah]
        · rw [hget, if_neg (by simpa [eq_comm] using hkb)]
      · have hkb : b ≠ k := fun e => by subst e; simp only at hb2; rw [hb2] at hk; cases hk
        rw [hget, if_neg hkb]; exact hG k o hk
    have hI' : ∀ x ∈ compact l, I64 x := fun x hx => by
      unfold compact compactUpTo at hx
      obtain ⟨j, hj, rfl⟩ := List.mem_map.1 hx
      have hj' : j < l.length := by simpa using (List.mem_filter.1 hj).1
      rw [getElem!_pos l.toArray j (by simpa using hj')]
      exact hI _ (by simp)
    have hby : (compact l).length * 8 ≤ reach := Nat.le_trans (Nat.mul_le_mul_right _ hlen) h8
    refine ⟨_, G, he, hres, some (b, nat_lit 3, cs'), .inr ⟨b, cs', cap, (compact l).map (Value.int .i64), rfl, rfl, Nat.le_trans hlen h3, h4, ?_, flatInt _ hI', ?_, hby, Nat.le_trans hlen h9⟩, fun p hp => ?_, rfl⟩
    · subst hcs'; rw [hE]; simpa [putCells] using h5
    · rw [hE, Nat.mul_one]
      apply List.ext_getElem?
      intro t
      rw [List.getElem?_take]
      by_cases ht : t < (compact l).length
      · have htc : t < cs.length := by omega
        have htz : z[t]? = (compact l)[t]? := by rw [hz, List.getElem?_append_left ht]
        have htz' : t < z.length := by omega
        rw [if_pos ht, hcs']
        simp only [putCells, Array.getElem?_toList, Array.getElem?_mapIdx]
        simp only [List.getElem?_toArray]
        rw [List.getElem?_eq_getElem htc, List.getElem?_map, ← htz, List.getElem?_eq_getElem htz']
        simp [htz']
      · rw [if_neg ht, List.getElem?_eq_none]
        simp; omega
    · obtain rfl := Option.some.inj hp
      exact ⟨by rw [hget, if_pos rfl]; rfl, hb2⟩
end Go.Civ
