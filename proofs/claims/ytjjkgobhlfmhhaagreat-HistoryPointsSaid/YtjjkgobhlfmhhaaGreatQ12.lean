/- Lemmas: Civ18, Civ19, Civ22, So, Shelf4, Si. -/
import Derived.Test.YtjjkgobhlfmhhaaGreatQ03
import Derived.Test.YtjjkgobhlfmhhaaGreatQ09
import Derived.Test.YtjjkgobhlfmhhaaGreatQ10
import Derived.Test.YtjjkgobhlfmhhaaGreatQ11
import Derived.Lib.SlicesCompact
import Derived.Laws.Slices
import Derived.Laws.Small
import Derived.WalkKit
import Derived.KernelRfl
import Derived.Shelf.Small.Strs
import Derived.Ground.NamesProg
import Derived.Test.YtjjkgobhlfmhhaaGreatProg
namespace Go.Civ
set_option linter.unusedVariables false
open Go.Lib (compact compactUpTo keeps)

structure CInv (z : List Int) (m : Nat) (c : List Int) : Prop where
  inc : c.Pairwise (· < ·)
  mem : ∀ x, x ∈ c ↔ ∃ j, j < m ∧ z[j]? = some x
theorem compactUpTo_inv {z : List Int} (hs : z.Pairwise (· ≤ ·)) : ∀ m, m ≤ z.length → CInv z m (compactUpTo z.toArray m)
  | 0, _ => ⟨by simp [compactUpTo], fun x => by simp [compactUpTo]⟩
  | m + 1, hm => by
    have ih := compactUpTo_inv hs m (by omega)
    have hlt : m < z.length := by omega
    have hz : z.toArray[m]! = z[m] := by rw [getElem!_pos z.toArray m (by simpa using hlt)]; simp
    have hzm : z[m]? = some z[m] := List.getElem?_eq_getElem hlt
    rw [Go.Lib.compactUpTo_succ]
    cases hk : keeps z.toArray m with
    | true =>
      simp only [if_true, hz]
      refine ⟨List.pairwise_append.2 ⟨ih.inc, by simp, fun a ha b hb => ?_⟩, fun x => ?_⟩
      · obtain rfl := List.mem_singleton.1 hb
        obtain ⟨j, hj, hja⟩ := (ih.mem a).1 ha
        have hm0 : 0 < m := by omega
        have hz1 : z.toArray[m - 1]! = z[m - 1] := by rw [getElem!_pos z.toArray (m - 1) (by simp; omega)]; simp
        have hne : z[m] ≠ z[m - 1] := by
          unfold keeps at hk
          simp only [decide_eq_true_eq] at hk
          rcases hk with h | h
          · omega
          · rwa [hz, hz1] at h
        obtain ⟨hjl, rfl⟩ := List.getElem?_eq_some_iff.1 hja
        have h1 : z[m - 1] ≤ z[m] := List.pairwise_iff_getElem.1 hs (m - 1) m (by omega) hlt (by omega)
        have h2 : z[j] ≤ z[m - 1] := by
          by_cases e : j = m - 1
          · subst e; exact Int.le_refl _
          · exact List.pairwise_iff_getElem.1 hs j (m - 1) hjl (by omega) (by omega)
        omega
      · rw [List.mem_append, ih.mem, List.mem_singleton]
        constructor
        · rintro (⟨j, hj, h⟩ | rfl)
          · exact ⟨j, by omega, h⟩
          · exact ⟨m, by omega, hzm⟩
        · rintro ⟨j, hj, h⟩
          by_cases e : j = m
          · subst e; rw [hzm] at h; exact .inr (Option.some.inj h).symm
          · exact .inl ⟨j, by omega, h⟩
    | false =>
      have h := hk
      unfold keeps at h
      simp only [decide_eq_false_iff_not, not_or, Classical.not_not] at h
      have hz1 : z.toArray[m - 1]! = z[m - 1] := by rw [getElem!_pos z.toArray (m - 1) (by simp; omega)]; simp
      rw [hz, hz1] at h
      simp only [Bool.false_eq_true, if_false, List.append_nil]
      refine ⟨ih.inc, fun x => ?_⟩
      rw [ih.mem]
      constructor
      · rintro ⟨j, hj, h⟩; exact ⟨j, by omega, h⟩
      · rintro ⟨j, hj, hx⟩
        by_cases e : j = m
        · subst e
          rw [hzm] at hx
          obtain rfl := Option.some.inj hx
          exact ⟨j - 1, by omega, by rw [List.getElem?_eq_getElem (by omega), h.2]⟩
        · exact ⟨j, by omega, hx⟩
theorem compact_inv {z : List Int} (hs : z.Pairwise (· ≤ ·)) : CInv z z.length (compact z) := compactUpTo_inv hs _ (Nat.le_refl _)
theorem compact_mem {z : List Int} (hs : z.Pairwise (· ≤ ·)) {x : Int} : x ∈ compact z ↔ x ∈ z := by
  rw [(compact_inv hs).mem]
  constructor
  · rintro ⟨j, _, h⟩; exact List.mem_of_getElem? h
  · intro h
    obtain ⟨j, hj⟩ := List.getElem?_of_mem h
    exact ⟨j, (List.getElem?_eq_some_iff.1 hj).1, hj⟩
theorem compact_len (z : List Int) : (compact z).length ≤ z.length := by
  unfold compact compactUpTo
  rw [List.length_map]
  exact Nat.le_trans (List.length_filter_le _ _) (by simp)

def sortZ (l : List Int) : List Int := l.mergeSort fun x y => decide (x ≤ y)
theorem sortZ_asc (l : List Int) : (sortZ l).Pairwise (· ≤ ·) := by
  have := List.pairwise_mergeSort (le := fun (x y : Int) => decide (x ≤ y)) (fun a b c h1 h2 => by simp at *; omega) (fun a b => by simp; omega) l
  exact this.imp fun h => by simpa using h
theorem sortZ_perm (l : List Int) : (sortZ l).Perm l := List.mergeSort_perm _ _
def sortedB : List Int → Bool
  | x :: y :: r => decide (x ≤ y) && sortedB (y :: r)
  | _ => true
theorem sortedB_yes : ∀ {l : List Int}, (∀ (k : Nat) x y, l[k]? = some y → l[k + 1]? = some x → y ≤ x) → sortedB l = true
  | a :: b :: r, h => by
    simp only [sortedB, Bool.and_eq_true, decide_eq_true_eq]
    exact ⟨h 0 b a rfl rfl, sortedB_yes fun k x y h1 h2 => h (k + 1) x y (by simpa using h1) (by simpa using h2)⟩
  | [], _ => rfl
  | [_], _ => rfl
def SortFrom (l : List Int) (j : Int) : Prop := ∀ (q : Nat) (x y : Int), j ≤ q → l[q]? = some y → l[q + 1]? = some x → y ≤ x
theorem SortFrom.start {l : List Int} {j : Int} (h : (l.length : Int) - 1 ≤ j) : SortFrom l j := fun q x y hq h1 h2 => by
  have := (List.getElem?_eq_some_iff.1 h2).1; omega
theorem SortFrom.step {l : List Int} {j x y : Int} (h : SortFrom l j) (hj : 0 < j) (h1 : l[j.toNat]? = some x) (h2 : l[(j - 1).toNat]? = some y) (hxy : decide (x < y) = false) : SortFrom l (j - 1) := fun q u v hq k1 k2 => by
  by_cases e : (q : Int) = j - 1
  · have e1 : q = (j - 1).toNat := by omega
    have e2 : q + 1 = j.toNat := by omega
    rw [e2, h1] at k2
    rw [e1, h2] at k1
    obtain rfl := Option.some.inj k1
    obtain rfl := Option.some.inj k2
    have := of_decide_eq_false hxy; omega
  · exact h q u v (by omega) k1 k2
theorem SortFrom.yes {l : List Int} {j : Int} (h : SortFrom l j) (hj : j ≤ 0) : sortedB l = true := sortedB_yes fun k x y h1 h2 => h k x y (by omega) h1 h2
end Go.Civ
namespace Go.Civ
open Go.RowKit
set_option linter.unusedVariables false

theorem Sl.takeV {α : Type} {E : Enc α} {by_ : Nat} {G : GH} {a : Option Addr} {n len cap : Nat} {l : List α} (h : Sl E by_ G (.slice a len cap) l) (hn : n ≤ l.length) : Sl E by_ G (sliced a 0 n cap E.n) (l.take n) := by
  obtain ⟨a', cap', e, h2, h3, h4, h5⟩ := h
  simp only [Value.slice.injEq] at e
  obtain ⟨rfl, rfl, rfl⟩ := e
  have hl : (l.take n).length = n := by rw [List.length_take]; omega
  have ev : sliced a 0 n cap E.n = .slice a n cap := by
    unfold sliced
    cases a <;> simp [Addr.add]
  rw [ev]
  refine ⟨a, cap, by rw [hl], by omega, ?_, by omega, fun i x hx => ?_⟩
  · rw [hl]; exact Nat.le_trans (Nat.mul_le_mul_right _ hn) h3
  · rw [List.getElem?_take] at hx
    split at hx
    · exact h5 i x hx
    · cases hx
section
variable {P : Program} {Q : Exit → Env → World → Prop} {ρ : Env} {w : World} {ops : Array Oper} {rest : List Oper} {K : Env → World → Prop}
variable {d : Nat} {ty : TypeId} {pos : String} {af : Array Edge} {g : Option (Nat × Bool)} {G : GH}
theorem elem_of {t e : TypeId} (hu : P.underlying t = some (.slice e)) : P.elem t = e := by simp [Program.elem, hu]
theorem WL.sliceHi {α : Type} {E : Enc α} {by_ : Nat} {t e : TypeId} {x hi : Operand} {v : Value} {l : List α} {ti : TI} (hs : Sl E by_ G v l) (n : Nat) (hn : n ≤ l.length) (hu : P.underlying t = some (.slice e)) (ht : tinfo P e = some ti) (hE : ti.size = E.n)
    (hw : Region.wanted ⟨some d, .slice t x none (some hi) none, ty, pos, af, g⟩ (yieldE ops ρ) = true) (hx : ev ρ x = v) (hh : ev ρ hi = .int .i64 (n : Int))
    (k : ∀ v', Sl E by_ G v' (l.take n) → K (upd ρ d v') w) : OW P ops ⟨some d, .slice t x none (some hi) none, ty, pos, af, g⟩ ρ w K := by
  obtain ⟨a, cap, rfl, h2, _⟩ := id hs
  have he := elem_of hu
  have hu' : P.underlying t = some (.slice (P.elem t)) := by rw [he]; exact hu
  have run : (Instr.sliceAt t (.slice a l.length cap) none (some (.int .i64 (n : Int))) none).run P w = .ok (sliced a 0 n cap E.n) w := by
    rw [run_sliceAt_slice w t _ _ _ _ hu', run_slice_h w t a l.length cap hu' .i64 (n : Int) (by omega) (by omega), he, run_sizeOf' ht, hE]; rfl
  refine WL.val hw ?_ rfl (k _ (hs.takeV hn))
  simp [execOp, hx, hh, run, Result.andThen]
theorem run_guard_bool (op : BinOp) (t : TypeId) (x y : Operand) (a b : Bool) : (eqGuard op t x y (.bool a) (.bool b)).run P w = .ok () w := by
  unfold eqGuard; split <;> simp
theorem WL.boolEq {t ty' : TypeId} {x y : Operand} (a b : Bool) (hu : P.underlying t = some .bool)
    (hw : Region.wanted ⟨some d, .binOp .eql t x y ty', ty, pos, af, g⟩ (yieldE ops ρ) = true) (hx : ev ρ x = .bool a) (hy : ev ρ y = .bool b)
    (kk : K (upd ρ d (.bool (a == b))) w) : OW P ops ⟨some d, .binOp .eql t x y ty', ty, pos, af, g⟩ ρ w K := by
  refine WL.val hw ?_ rfl kk
  simp [execOp, hx, hy, run_guard_bool, run_eql_bool w t a b hu, Result.andThen]
theorem WL.boolNe {t ty' : TypeId} {x y : Operand} (a b : Bool) (hu : P.underlying t = some .bool)
    (hw : Region.wanted ⟨some d, .binOp .neq t x y ty', ty, pos, af, g⟩ (yieldE ops ρ) = true) (hx : ev ρ x = .bool a) (hy : ev ρ y = .bool b)
    (kk : K (upd ρ d (.bool (!(a == b)))) w) : OW P ops ⟨some d, .binOp .neq t x y ty', ty, pos, af, g⟩ ρ w K := by
  refine WL.val hw ?_ rfl kk
  simp [execOp, hx, hy, run_guard_bool, run_neq_bool w t a b hu, Result.andThen]
end
section
variable {w0 w w' : World} {X : List Nat} {G0 G G' : GH} {L : Own} {o o' : OB}
end
end Go.Civ
set_option linter.unusedVariables false
namespace Go.Civ
open Go.Proofs Go.Shelf Go.RowKit Go.Lib Go.Sort

theorem flat_getK {α : Type} (enc : α → List Value) (k : Nat) (hk0 : 0 < k) (hk : ∀ x, (enc x).length = k) : ∀ (l : List α) (t : Nat), (l.flatMap enc)[t]? = (l[t / k]?).bind fun x => (enc x)[t % k]?
  | [], t => by simp
  | x :: l, t => by
    rw [List.flatMap_cons, List.getElem?_append]
    by_cases ht : t < k
    · rw [if_pos (by rw [hk]; exact ht), Nat.div_eq_of_lt ht, Nat.mod_eq_of_lt ht]; rfl
    · rw [if_neg (by rw [hk]; exact ht), hk, flat_getK enc k hk0 hk l (t - k), Nat.div_eq_sub_div (a := t) hk0 (by omega), Nat.mod_eq_sub_mod (a := t) (by omega), List.getElem?_cons_succ]
theorem flatK_atK {α : Type} [Inhabited α] (enc : α → List Value) (k : Nat) (hk0 : 0 < k) (hk : ∀ x, (enc x).length = k) (d : Array α) (t : Nat) (ht : t < d.size * k) : (d.toList.flatMap enc)[t]? = some ((flatK enc k d)[t]!) := by
  rw [flat_getK enc k hk0 hk, get_flatK enc k d t ht]
  have hd : t / k < d.size := (Nat.div_lt_iff_lt_mul hk0).2 ht
  have e : d.toList[t / k]? = some d[t / k]! := by
    rw [getElem!_pos d (t / k) hd, Array.getElem?_toList, Array.getElem?_eq_getElem hd]
  rw [e]
  simp only [Option.bind_some]
  have hl : t % k < (enc d[t / k]!).length := by rw [hk]; exact Nat.mod_lt _ hk0
  rw [List.getElem?_eq_getElem hl, getElem!_pos (enc d[t / k]!) (t % k) hl]
abbrev Elt {α : Type} (E : Enc α) (G : GH) (V : α → Prop) := { p : α × List Value // E.rep G p.1 p.2 ∧ V p.1 }
section
variable {α : Type} {E : Enc α} {G : GH} {V : α → Prop}
theorem flat_elts : ∀ (l : List α) (xs : List Value), Flat E G l xs → (∀ x ∈ l, V x) → ∃ dl : List (Elt E G V), dl.map (·.1.1) = l ∧ dl.flatMap (·.1.2) = xs
  | [], xs, h, _ => ⟨[], rfl, by simpa using h.symm⟩
  | x :: l, xs, ⟨c, r, h1, h2, h3⟩, hV => by
    obtain ⟨dl, k1, k2⟩ := flat_elts l r h3 fun y hy => hV y (by simp [hy])
    exact ⟨⟨(x, c), h2, hV x (by simp)⟩ :: dl, by simp [k1], by simp [k2, h1]⟩
theorem elts_flat : ∀ (dl : List (Elt E G V)), Flat E G (dl.map (·.1.1)) (dl.flatMap (·.1.2))
  | [] => rfl
  | x :: l => ⟨x.1.2, _, rfl, x.2.1, elts_flat l⟩
theorem Kept.grow {w w' : World} (h : Kept [] w w') : ∃ q os', w' = grow (w.drewN q) os' := by
  refine ⟨w'.drawn - w.drawn, w'.heap.extract w.heap.size w'.heap.size, ?_⟩
  obtain ⟨h1, h2, h3, h4, h5, h6⟩ := h
  obtain ⟨heap, tape, drawn, os, output⟩ := w
  obtain ⟨heap', tape', drawn', os', output'⟩ := w'
  simp only at h1 h2 h3 h4 h5 h6
  subst h1 h2 h3
  simp only [Go.Sort.grow, World.drewN]
  have e1 : drawn + (drawn' - drawn) = drawn' := by omega
  have e2 : heap ++ heap'.extract heap.size heap'.size = heap' := by
    apply Array.ext_getElem?
    intro i
    rw [Array.getElem?_append]
    split
    · rename_i hi; exact (h6 i hi (by simp)).symm
    · rename_i hi
      rw [Array.getElem?_extract]
      split
      · congr 1; omega
      · rw [Array.getElem?_eq_none]; omega
  rw [e1, e2]
end
theorem sort_heap {β : Type} [Inhabited β] (enc : β → List Value) (k : Nat) (w : World) (b n : Nat) (d : Array β) (os : Array Obj) {cs : List Value} {tid : TypeId} (hb : w.heap[b]? = some (.cells cs.toArray tid (0, 0))) (i : Nat) :
    (sortWorldK enc k w b 0 n d os).heap[i]? = if i < w.heap.size then (if b = i then some (.cells (putCells id 0 (flatK enc k d) cs.toArray) tid (0, 0)) else w.heap[i]?) else os[i - w.heap.size]? := by
  have hah : (Go.Sort.ahead w n).heap = w.heap := rfl
  simp only [sortWorldK, putRowK, putRow, mapBlock, Go.Sort.grow, hah]
  rw [Array.getElem?_append]
  simp only [Array.size_modify]
  by_cases hk : i < w.heap.size
  · rw [if_pos hk, if_pos hk, Array.getElem?_modify]
    by_cases hkb : b = i
    · subst hkb
      rw [if_pos rfl, if_pos rfl, hb]
      simp [onCells]
    · rw [if_neg hkb, if_neg hkb]
  · rw [if_neg hk, if_neg hk]
theorem sort_res {β : Type} [Inhabited β] (enc : β → List Value) (k : Nat) {w : World} {G : GH} (hG : G.In w) (b n : Nat) (d : Array β) (os : Array Obj) {cs : List Value} {tid : TypeId} (hb : w.heap[b]? = some (.cells cs.toArray tid (0, 0))) (hg : G b = none) :
    Res [b] w G (sortWorldK enc k w b 0 n d os) G := by
  refine ⟨⟨rfl, rfl, rfl, Nat.le_add_right _ _, ?_, fun i hi hkb => ?_⟩, G.le_refl, fun _ _ => rfl, fun i o hk => ?_⟩
  · have hah : (Go.Sort.ahead w n).heap = w.heap := rfl
    simp [sortWorldK, putRowK, putRow, mapBlock, Go.Sort.grow]
    try simp [hah]
  · rw [sort_heap enc k w b n d os hb, if_pos hi, if_neg (by simpa [eq_comm] using hkb)]
  · have hk1 := hG.lt hk
    have hkb : b ≠ i := fun e => by subst e; rw [hg] at hk; cases hk
    rw [sort_heap enc k w b n d os hb, if_pos hk1, if_neg hkb]; exact hG i o hk

set_option maxHeartbeats 2000000 in
theorem sortRow {P : Program} {ρr : Ren} (Ls : SlLaysF0.n6 P ρr) {α : Type} {E : Enc α} {by_ : Nat} {tid : TypeId} (hk0 : 0 < E.n) (aE : ∀ w, (isAgg (ρr.t 24)).run P w = .ok true w) (zE : ∀ w, (Go.sizeOf (ρr.t 24)).run P w = .ok E.n w)
    (cf : α → α → Int) (V : α → Prop) (hirr : ∀ x, V x → ¬ cf x x < 0) (htr : ∀ x y z, V x → V y → V z → cf x y < 0 → cf y z < 0 → cf x z < 0) (hnt : ∀ x y z, V x → V y → V z → ¬ cf x y < 0 → ¬ cf y z < 0 → ¬ cf x z < 0)
    (gf : Nat) (eg : ∀ args w, (callFunc gf args).run P w = .ok (.enter gf args) w) {G : GH} {w : World} (hG : G.In w)
    (hcl : ∀ W, G.In W → ∀ x y cx cy, V x → V y → E.rep G x cx → E.rep G y cy → Calls P gf #[.agg cx.toArray, .agg cy.toArray] W fun e w' => ∃ r G', e = .returned r ∧ Res [] W G w' G' ∧ r = .int .i64 (cf x y))
    (x0 : α) (c0 : List Value) (h0 : E.rep G x0 c0) (hV0 : V x0) (l : List α) (hV : ∀ x ∈ l, V x) (vd : Value) (od : OB) (hvd : Row E by_ tid G vd l od) (hod : Lent w G od) :
    Calls P (ρr.f 6) #[vd, .func (.func gf) #[] #[]] w fun e w' => ∃ r G', e = .returned r ∧ Res (blk od) w G w' G' ∧ r = .tuple #[] ∧ ∃ (l' : List α) (o' : OB), Row E by_ tid G' vd l' o' ∧ Lent w' G' o' ∧ (l'.Perm l ∧ l'.Pairwise fun x y => ¬ cf y x < 0) := by
  rcases hvd with ⟨rfl, rfl, rfl⟩ | ⟨b, cs, cap, xs, rfl, rfl, h3, h4, h5, h6, h7, h8, h9⟩
  · exact (AnyF.slices_SortFunc_none (P := P) (ρ := ρr) { Ls with } none 0 (.func (.func gf) #[] #[]) w).mono fun e w' ⟨he, hw⟩ => by
      subst hw
      exact ⟨_, G, he, Res.refl hG, rfl, [], none, .inl ⟨rfl, rfl, rfl⟩, fun p hp => (by cases hp), List.Perm.refl _, List.Pairwise.nil⟩
  · obtain ⟨hb1, hb2⟩ := hod _ rfl
    simp only [objOf] at hb1
    obtain ⟨dl, rfl, rfl⟩ := flat_elts l xs h6 hV
    letI : Inhabited (Elt E G V) := ⟨⟨(x0, c0), h0, hV0⟩⟩
    have hkE : ∀ x : Elt E G V, (x.1.2).length = E.n := fun x => E.len x.2.1
    have hsz : dl.toArray.size = (dl.map (·.1.1)).length := by simp
    have hcell : ∀ t, t < dl.toArray.size * E.n → cs[t]? = some ((flatK (fun x : Elt E G V => x.1.2) E.n dl.toArray)[t]!) := fun t ht => by
      rw [← flatK_atK (fun x : Elt E G V => x.1.2) E.n hk0 hkE dl.toArray t ht]
      have e7 := congrArg (·[t]?) h7
      rw [List.getElem?_take, if_pos (by rw [← hsz]; exact ht)] at e7
      exact e7
    have hH : HoldsK (fun x : Elt E G V => x.1.2) E.n w b 0 dl.toArray := fun t ht => by
      rw [size_flatK] at ht
      refine ⟨?_, ?_⟩
      · rw [Nat.zero_add]
        simp only [World.cell?, hb1]
        have := hcell t ht
        simpa using this
      · simp [World.frozen?, hb1]
    have hO : SWO (ltOf fun x y : Elt E G V => cf x.1.1 y.1.1) :=
      ⟨fun x => decide_eq_false (hirr _ x.2.2), fun x y z p q => decide_eq_true (htr _ _ _ x.2.2 y.2.2 z.2.2 (of_decide_eq_true p) (of_decide_eq_true q)), fun x y z p q => decide_eq_false (hnt _ _ _ x.2.2 y.2.2 z.2.2 (of_decide_eq_false p) (of_decide_eq_false q))⟩
    have hcon := AnyQ.slices_SortFunc Ls E.n aE zE (fun x : Elt E G V => x.1.2) hkE (fun x v hv => E.one x.2.1 v hv) (fun x y => cf x.1.1 y.1.1) hO gf #[] b 0 cap dl.toArray w eg
      (fun m os dk _ x y => (hcl _ (sort_res _ _ hG b m dk os hb1 hb2).imm x.1.1 y.1.1 x.1.2 y.1.2 x.2.2 y.2.2 x.2.1 y.2.1).mono fun e w' ⟨r, G', he, hres, hr⟩ => ⟨by rw [he, hr], hres.kept.grow⟩)
      hH (Array.getElem?_eq_some_iff.1 hb1).1 (by rw [hsz]; unfold reach at h9; omega)
    rw [hsz] at hcon
    refine hcon.mono fun e w' ⟨he, d', n, os, hp, hs, hw⟩ => ?_
    obtain ⟨hp1, hp2, hp3⟩ := hp
    have hd' : d'.size = dl.length := by simpa using hp1
    have hperm : d'.toList.Perm dl := by
      have e1 : d'.extract 0 dl.toArray.size = d' := by rw [← hp1]; simp
      have e2 : dl.toArray.extract 0 dl.toArray.size = dl.toArray := by simp
      rw [hsz.symm, e1, e2] at hp3; simpa using hp3
    have hbl : b < w.heap.size := (Array.getElem?_eq_some_iff.1 hb1).1
    subst hw
    obtain ⟨cs', hcs'⟩ : ∃ cs' : List Value, cs' = (putCells id 0 (flatK (fun x : Elt E G V => x.1.2) E.n d') cs.toArray).toList := ⟨_, rfl⟩
    have hres := sort_res (fun x : Elt E G V => x.1.2) E.n hG b n d' os hb1 hb2
    have hlen : (d'.toList.map (·.1.1)).length = (dl.map (·.1.1)).length := by simp [hd']
    have hln : (dl.map (·.1.1)).length = dl.length := by simp
    have h5' : cs.length = cap * E.n := h5
    have hfl : (d'.toList.flatMap (·.1.2)).length = d'.size * E.n := by
      have := Flat.len (elts_flat d'.toList); simpa using this
    have hcapd : d'.size * E.n ≤ cs.length := by
      rw [h5']; exact Nat.mul_le_mul_right _ (by omega)
    refine ⟨_, G, he, hres, rfl, d'.toList.map (·.1.1), some (b, tid, cs'), .inr ⟨b, cs', cap, d'.toList.flatMap (·.1.2), rfl, by rw [hlen], by rw [hlen]; exact h3, h4, ?_, elts_flat _, ?_, by rw [hlen]; exact h8, by rw [hlen]; exact h9⟩, fun p hp => ?_, ?_, ?_⟩
    · subst hcs'; simpa [putCells] using h5
    · apply List.ext_getElem?
      intro t
      rw [List.getElem?_take]
      have hn2 : (d'.toList.map (·.1.1)).length * E.n = d'.size * E.n := by simp
      rw [hn2]
      by_cases ht : t < d'.size * E.n
      · have htc : t < cs.length := by omega
        rw [if_pos ht, flatK_atK (fun x : Elt E G V => x.1.2) E.n hk0 hkE d' t ht, hcs']
        simp only [putCells, Array.getElem?_toList, Array.getElem?_mapIdx, size_flatK]
        simp only [List.getElem?_toArray]
        rw [List.getElem?_eq_getElem htc]
        simp [ht]
      · rw [if_neg ht, List.getElem?_eq_none]; omega
    · obtain rfl := Option.some.inj hp
      refine ⟨?_, hb2⟩
      rw [sort_heap _ _ w b n d' os hb1, if_pos hbl, if_pos rfl, hcs']; rfl
    · exact hperm.map _
    · rw [List.pairwise_map, List.pairwise_iff_getElem]
      intro i j hi hj hij
      have h := hs i j (by omega) hij (by rw [← hsz, ← hp1]; simpa using hj)
      have hi' : i < d'.size := by simpa using hi
      have hj' : j < d'.size := by simpa using hj
      rw [getElem!_pos d' i hi', getElem!_pos d' j hj'] at h
      have := of_decide_eq_false h
      simpa only [Array.getElem_toList] using this
end Go.Civ
namespace Go.Proofs
open Go.Shelf
def Tryz.ixByte_ren : Go.Shelf.Ren := ⟨fun | 137 => 123 | 217 => 163 | 266 => 192 | n => n, fun | 9 => 9 | 5 => 5 | 3 => 3 | n => n, fun | n => n⟩
theorem Tryz.ixByte : Go.Proofs.Lays.n137 Tryz.prog Tryz.ixByte_ren := {
  mixed := by kernel_rfl
  f137 := Tryz.func123.trans (congrArg some (by kernel_rfl))
  f217 := Tryz.func163.trans (congrArg some (by kernel_rfl))
  f266 := Tryz.func192.trans (congrArg some (by kernel_rfl))
  t3 := Tryz.underlying3
  a3 := Tryz.isAgg3
  z3 := Tryz.sizeOf3
  v3 := Tryz.zeroValue3
  t5 := Tryz.underlying5
  a5 := Tryz.isAgg5
  z5 := Tryz.sizeOf5
  v5 := Tryz.zeroValue5
  t9 := Tryz.underlying9
  a9 := Tryz.isAgg9
  z9 := Tryz.sizeOf9
  v9 := Tryz.zeroValue9 }
end Go.Proofs
set_option linter.unusedVariables false
namespace Go.Civ
open Go.Proofs Go.Shelf Go.RowKit
theorem c_IndexByte {G : GH} {w : World} (hG : G.In w) (s : List UInt8) (c : Int) : Calls Tryz.prog (nat_lit 123) #[strV s, .int .u8 c] w fun e w' => ∃ r G', e = .returned r ∧ Res [] w G w' G' ∧ r = .int .i64 (Lib.indexByte s c.toNat.toUInt8) := by
  refine (Any.strings_IndexByte Tryz.ixByte ⟨s.toArray⟩ c w).mono ?_
  rintro e w' ⟨rfl, rfl⟩
  exact ⟨_, G, rfl, Res.refl hG, rfl⟩
end Go.Civ
