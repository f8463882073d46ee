/- Lemmas: Civ18, Civ22, Civ25, Civ71. -/
import Derived.Test.YtjjkgobhlfmhhaaGreatR03
import Derived.Test.YtjjkgobhlfmhhaaGreatR04
import Derived.Test.YtjjkgobhlfmhhaaGreatR08
import Derived.Test.YtjjkgobhlfmhhaaGreatR09
import Derived.Test.YtjjkgobhlfmhhaaGreatR10
import Derived.Lib.SlicesCompact
import Derived.Laws.Slices
import Derived.Laws.Small
namespace Go.Civ
set_option linter.unusedVariables false
open Go.Lib (compact compactUpTo keeps)

structure CInv (z : List Int) (m : Nat) (c : List Int) : Prop where
  inc : c.Pairwise (· < ·)
  mem : ∀ x, x ∈ c ↔ ∃ j, j < m ∧ z[j]? = some x
theorem compactUpTo_inv {z : List Int} (hs : z.Pairwise (· ≤ ·)) : ∀ m, m ≤ z.length → CInv z m (compactUpTo z.toArray m)
  | 0, _ => ⟨by simp [compactUpTo], fun x => by simp [compactUpTo]⟩
  | m + 1, hm => by
    have ih := compactUpTo_inv hs m (by omega)
    have hlt : m < z.length := by omega
    have hz : z.toArray[m]! = z[m] := by rw [getElem!_pos z.toArray m (by simpa using hlt)]; simp
    have hzm : z[m]? = some z[m] := List.getElem?_eq_getElem hlt
    rw [Go.Lib.compactUpTo_succ]
    cases hk : keeps z.toArray m with
    | true =>
      simp only [if_true, hz]
      refine ⟨List.pairwise_append.2 ⟨ih.inc, by simp, fun a ha b hb => ?_⟩, fun x => ?_⟩
      · obtain rfl := List.mem_singleton.1 hb
        obtain ⟨j, hj, hja⟩ := (ih.mem a).1 ha
        have hm0 : 0 < m := by omega
        have hz1 : z.toArray[m - 1]! = z[m - 1] := by rw [getElem!_pos z.toArray (m - 1) (by simp; omega)]; simp
        have hne : z[m] ≠ z[m - 1] := by
          unfold keeps at hk
          simp only [decide_eq_true_eq] at hk
          rcases hk with h | h
          · omega
          · rwa [hz, hz1] at h
        obtain ⟨hjl, rfl⟩ := List.getElem?_eq_some_iff.1 hja
        have h1 : z[m - 1] ≤ z[m] := List.pairwise_iff_getElem.1 hs (m - 1) m (by omega) hlt (by omega)
        have h2 : z[j] ≤ z[m - 1] := by
          by_cases e : j = m - 1
          · subst e; exact Int.le_refl _
          · exact List.pairwise_iff_getElem.1 hs j (m - 1) hjl (by omega) (by omega)
        omega
      · rw [List.mem_append, ih.mem, List.mem_singleton]
        constructor
        · rintro (⟨j, hj, h⟩ | rfl)
          · exact ⟨j, by omega, h⟩
          · exact ⟨m, by omega, hzm⟩
        · rintro ⟨j, hj, h⟩
          by_cases e : j = m
          · subst e; rw [hzm] at h; exact .inr (Option.some.inj h).symm
          · exact .inl ⟨j, by omega, h⟩
    | false =>
      have h := hk
      unfold keeps at h
      simp only [decide_eq_false_iff_not, not_or, Classical.not_not] at h
      have hz1 : z.toArray[m - 1]! = z[m - 1] := by rw [getElem!_pos z.toArray (m - 1) (by simp; omega)]; simp
      rw [hz, hz1] at h
      simp only [Bool.false_eq_true, if_false, List.append_nil]
      refine ⟨ih.inc, fun x => ?_⟩
      rw [ih.mem]
      constructor
      · rintro ⟨j, hj, h⟩; exact ⟨j, by omega, h⟩
      · rintro ⟨j, hj, hx⟩
        by_cases e : j = m
        · subst e
          rw [hzm] at hx
          obtain rfl := Option.some.inj hx
          exact ⟨j - 1, by omega, by rw [List.getElem?_eq_getElem (by omega), h.2]⟩
        · exact ⟨j, by omega, hx⟩
theorem compact_inv {z : List Int} (hs : z.Pairwise (· ≤ ·)) : CInv z z.length (compact z) := compactUpTo_inv hs _ (Nat.le_refl _)
theorem compact_mem {z : List Int} (hs : z.Pairwise (· ≤ ·)) {x : Int} : x ∈ compact z ↔ x ∈ z := by
  rw [(compact_inv hs).mem]
  constructor
  · rintro ⟨j, _, h⟩; exact List.mem_of_getElem? h
  · intro h
    obtain ⟨j, hj⟩ := List.getElem?_of_mem h
    exact ⟨j, (List.getElem?_eq_some_iff.1 hj).1, hj⟩
theorem compact_len (z : List Int) : (compact z).length ≤ z.length := by
  unfold compact compactUpTo
  rw [List.length_map]
  exact Nat.le_trans (List.length_filter_le _ _) (by simp)

def sortZ (l : List Int) : List Int := l.mergeSort fun x y => decide (x ≤ y)
theorem sortZ_asc (l : List Int) : (sortZ l).Pairwise (· ≤ ·) := by
  have := List.pairwise_mergeSort (le := fun (x y : Int) => decide (x ≤ y)) (fun a b c h1 h2 => by simp at *; omega) (fun a b => by simp; omega) l
  exact this.imp fun h => by simpa using h
theorem sortZ_perm (l : List Int) : (sortZ l).Perm l := List.mergeSort_perm _ _
def sortedB : List Int → Bool
  | x :: y :: r => decide (x ≤ y) && sortedB (y :: r)
  | _ => true
theorem sortedB_yes : ∀ {l : List Int}, (∀ (k : Nat) x y, l[k]? = some y → l[k + 1]? = some x → y ≤ x) → sortedB l = true
  | a :: b :: r, h => by
    simp only [sortedB, Bool.and_eq_true, decide_eq_true_eq]
    exact ⟨h 0 b a rfl rfl, sortedB_yes fun k x y h1 h2 => h (k + 1) x y (by simpa using h1) (by simpa using h2)⟩
  | [], _ => rfl
  | [_], _ => rfl
def SortFrom (l : List Int) (j : Int) : Prop := ∀ (q : Nat) (x y : Int), j ≤ q → l[q]? = some y → l[q + 1]? = some x → y ≤ x
theorem SortFrom.start {l : List Int} {j : Int} (h : (l.length : Int) - 1 ≤ j) : SortFrom l j := fun q x y hq h1 h2 => by
  have := (List.getElem?_eq_some_iff.1 h2).1; omega
theorem SortFrom.step {l : List Int} {j x y : Int} (h : SortFrom l j) (hj : 0 < j) (h1 : l[j.toNat]? = some x) (h2 : l[(j - 1).toNat]? = some y) (hxy : decide (x < y) = false) : SortFrom l (j - 1) := fun q u v hq k1 k2 => by
  by_cases e : (q : Int) = j - 1
  · have e1 : q = (j - 1).toNat := by omega
    have e2 : q + 1 = j.toNat := by omega
    rw [e2, h1] at k2
    rw [e1, h2] at k1
    obtain rfl := Option.some.inj k1
    obtain rfl := Option.some.inj k2
    have := of_decide_eq_false hxy; omega
  · exact h q u v (by omega) k1 k2
theorem SortFrom.yes {l : List Int} {j : Int} (h : SortFrom l j) (hj : j ≤ 0) : sortedB l = true := sortedB_yes fun k x y h1 h2 => h k x y (by omega) h1 h2
end Go.Civ
namespace Go.Civ
open Go.RowKit
set_option linter.unusedVariables false

theorem Sl.takeV {α : Type} {E : Enc α} {by_ : Nat} {G : GH} {a : Option Addr} {n len cap : Nat} {l : List α} (h : Sl E by_ G (.slice a len cap) l) (hn : n ≤ l.length) : Sl E by_ G (sliced a 0 n cap E.n) (l.take n) := by
  obtain ⟨a', cap', e, h2, h3, h4, h5⟩ := h
  simp only [Value.slice.injEq] at e
  obtain ⟨rfl, rfl, rfl⟩ := e
  have hl : (l.take n).length = n := by rw [List.length_take]; omega
  have ev : sliced a 0 n cap E.n = .slice a n cap := by
    unfold sliced
    cases a <;> simp [Addr.add]
  rw [ev]
  refine ⟨a, cap, by rw [hl], by omega, ?_, by omega, fun i x hx => ?_⟩
  · rw [hl]; exact Nat.le_trans (Nat.mul_le_mul_right _ hn) h3
  · rw [List.getElem?_take] at hx
    split at hx
    · exact h5 i x hx
    · cases hx
section
variable {P : Program} {Q : Exit → Env → World → Prop} {ρ : Env} {w : World} {ops : Array Oper} {rest : List Oper} {K : Env → World → Prop}
variable {d : Nat} {ty : TypeId} {pos : String} {af : Array Edge} {g : Option (Nat × Bool)} {G : GH}
theorem elem_of {t e : TypeId} (hu : P.underlying t = some (.slice e)) : P.elem t = e := by simp [Program.elem, hu]
theorem WL.sliceHi {α : Type} {E : Enc α} {by_ : Nat} {t e : TypeId} {x hi : Operand} {v : Value} {l : List α} {ti : TI} (hs : Sl E by_ G v l) (n : Nat) (hn : n ≤ l.length) (hu : P.underlying t = some (.slice e)) (ht : tinfo P e = some ti) (hE : ti.size = E.n)
    (hw : Region.wanted ⟨some d, .slice t x none (some hi) none, ty, pos, af, g⟩ (yieldE ops ρ) = true) (hx : ev ρ x = v) (hh : ev ρ hi = .int .i64 (n : Int))
    (k : ∀ v', Sl E by_ G v' (l.take n) → K (upd ρ d v') w) : OW P ops ⟨some d, .slice t x none (some hi) none, ty, pos, af, g⟩ ρ w K := by
  obtain ⟨a, cap, rfl, h2, _⟩ := id hs
  have he := elem_of hu
  have hu' : P.underlying t = some (.slice (P.elem t)) := by rw [he]; exact hu
  have run : (Instr.sliceAt t (.slice a l.length cap) none (some (.int .i64 (n : Int))) none).run P w = .ok (sliced a 0 n cap E.n) w := by
    rw [run_sliceAt_slice w t _ _ _ _ hu', run_slice_h w t a l.length cap hu' .i64 (n : Int) (by omega) (by omega), he, run_sizeOf' ht, hE]; rfl
  refine WL.val hw ?_ rfl (k _ (hs.takeV hn))
  simp [execOp, hx, hh, run, Result.andThen]
theorem run_guard_bool (op : BinOp) (t : TypeId) (x y : Operand) (a b : Bool) : (eqGuard op t x y (.bool a) (.bool b)).run P w = .ok () w := by
  unfold eqGuard; split <;> simp
theorem WL.boolEq {t ty' : TypeId} {x y : Operand} (a b : Bool) (hu : P.underlying t = some .bool)
    (hw : Region.wanted ⟨some d, .binOp .eql t x y ty', ty, pos, af, g⟩ (yieldE ops ρ) = true) (hx : ev ρ x = .bool a) (hy : ev ρ y = .bool b)
    (kk : K (upd ρ d (.bool (a == b))) w) : OW P ops ⟨some d, .binOp .eql t x y ty', ty, pos, af, g⟩ ρ w K := by
  refine WL.val hw ?_ rfl kk
  simp [execOp, hx, hy, run_guard_bool, run_eql_bool w t a b hu, Result.andThen]
theorem WL.boolNe {t ty' : TypeId} {x y : Operand} (a b : Bool) (hu : P.underlying t = some .bool)
    (hw : Region.wanted ⟨some d, .binOp .neq t x y ty', ty, pos, af, g⟩ (yieldE ops ρ) = true) (hx : ev ρ x = .bool a) (hy : ev ρ y = .bool b)
    (kk : K (upd ρ d (.bool (!(a == b)))) w) : OW P ops ⟨some d, .binOp .neq t x y ty', ty, pos, af, g⟩ ρ w K := by
  refine WL.val hw ?_ rfl kk
  simp [execOp, hx, hy, run_guard_bool, run_neq_bool w t a b hu, Result.andThen]
end
section
variable {w0 w w' : World} {X : List Nat} {G0 G G' : GH} {L : Own} {o o' : OB}
def RowOut (w w' : World) (G' : GH) (o o' : OB) : Prop := ∀ p, o' = some p → (w.heap.size ≤ p.1 ∨ p.1 ∈ blk o) ∧ w'.heap[p.1]? = some (objOf p.2) ∧ G' p.1 = none
theorem St.rowOut (h : St w0 (blk o) G0 G L w) (i : Nat) (hi : L[i]? = some o') : RowOut w0 w G o o' := fun p hp => by
  subst hp; exact ⟨(h.sep i p hi).1, h.own i p hi, (h.sep i p hi).2⟩
theorem St.callRowO (h : St w0 X G0 G L w) (i : Nat) (hi : L[i]? = some o) (r : Res (blk o) w G w' G') (ho : RowOut w w' G' o o') : St w0 X G0 G' (L.set i o') w' := by
  have hil : i < L.length := (List.getElem?_eq_some_iff.1 hi).1
  have inb : ∀ b, b ∈ blk o → ∃ p, o = some p ∧ p.1 = b := fun b hb => by
    cases o with
    | none => simp [blk] at hb
    | some p => simp [blk] at hb; exact ⟨p, rfl, hb.symm⟩
  have look : ∀ (j : Nat) p, (L.set i o')[j]? = some (some p) → (j = i ∧ o' = some p) ∨ (j ≠ i ∧ L[j]? = some (some p) ∧ p.1 ∉ blk o) := fun j p hj => by
    rw [List.getElem?_set] at hj
    split at hj
    · rename_i hji; subst hji; first | exact .inl ⟨rfl, Option.some.inj hj⟩ | (rw [if_pos hil] at hj; exact .inl ⟨rfl, Option.some.inj hj⟩)
    · rename_i hji
      refine .inr ⟨Ne.symm hji, hj, fun hb => ?_⟩
      obtain ⟨q, rfl, e⟩ := inb _ hb
      exact hji (h.nd _ _ _ _ hi hj e)
  refine ⟨h.kept.step r.kept (fun y hy => ?_), h.le.trans r.le, fun b hb => (r.new b (Nat.lt_of_lt_of_le hb h.kept.size)).trans (h.new b hb), r.imm, fun j p hp => ?_, fun j p hp => ?_, fun j k p q hp hq he => ?_⟩
  · obtain ⟨q, rfl, rfl⟩ := inb _ hy; exact (h.sep _ _ hi).1
  · rcases look j p hp with ⟨rfl, e⟩ | ⟨_, hp, hne⟩
    · exact (ho p e).2.1
    · rw [r.kept.block _ (h.ownLt hp) hne]; exact h.own j p hp
  · rcases look j p hp with ⟨rfl, e⟩ | ⟨_, hp, hne⟩
    · refine ⟨?_, (ho p e).2.2⟩
      rcases (ho p e).1 with k | k
      · exact .inl (Nat.le_trans h.kept.size k)
      · obtain ⟨q, rfl, e2⟩ := inb _ k; rw [← e2]; exact (h.sep _ _ hi).1
    · exact ⟨(h.sep j p hp).1, by rw [r.new _ (h.ownLt hp)]; exact (h.sep j p hp).2⟩
  · rcases look j p hp with ⟨rfl, e⟩ | ⟨_, hp2, hne⟩ <;> rcases look k q hq with ⟨rfl, e2⟩ | ⟨_, hq2, hne'⟩
    · rfl
    · exfalso
      rcases (ho p e).1 with k1 | k1
      · have := h.ownLt hq2; omega
      · rw [he] at k1; exact hne' k1
    · exfalso
      rcases (ho q e2).1 with k1 | k1
      · have := h.ownLt hp2; omega
      · rw [← he] at k1; exact hne k1
    · exact h.nd _ _ _ _ hp2 hq2 he
end
end Go.Civ
namespace Go.Civ
set_option linter.unusedVariables false

def rotIx (a m b p : Nat) : Nat := if a ≤ p ∧ p < a + (b - m) then p + (m - a) else if a + (b - m) ≤ p ∧ p < b then p - (b - m) else p
def swpIx (a b n p : Nat) : Nat := if a ≤ p ∧ p < a + n then p - a + b else if b ≤ p ∧ p < b + n then p - b + a else p
section
variable {α : Type}
structure Moved (l L : List α) (f : Nat → Nat) : Prop where
  perm : L.Perm l
  map : ∀ p, p < l.length → L[p]? = l[f p]?
variable {l L M : List α} {f g : Nat → Nat}
theorem Moved.len (h : Moved l L f) : L.length = l.length := h.perm.length_eq
theorem Moved.refl (hf : ∀ p, p < l.length → f p = p) : Moved l l f := ⟨List.Perm.refl _, fun p hp => by rw [hf p hp]⟩
theorem Moved.swap (h : Moved l L f) {i j : Nat} {x y : α} (hi : L[i]? = some x) (hj : L[j]? = some y) (hij : i ≠ j) (hg : ∀ p, p < l.length → g p = if p = i then f j else if p = j then f i else f p) : Moved l ((L.set i y).set j x) g := by
  have hil : i < L.length := (List.getElem?_eq_some_iff.1 hi).1
  have hjl : j < L.length := (List.getElem?_eq_some_iff.1 hj).1
  have hl := h.len
  refine ⟨(swap_perm hij hi hj).trans h.perm, fun p hp => ?_⟩
  rw [hg p hp, List.getElem?_set]
  by_cases h1 : j = p
  · subst h1
    rw [if_pos rfl, if_pos (by simpa using hjl), if_neg (Ne.symm hij), if_pos rfl, ← hi]
    exact h.map i (by omega)
  · rw [if_neg h1, List.getElem?_set]
    by_cases h2 : i = p
    · subst h2
      rw [if_pos rfl, if_pos hil, if_pos rfl, ← hj]
      exact h.map j (by omega)
    · rw [if_neg h2, if_neg (Ne.symm h2), if_neg (Ne.symm h1)]; exact h.map p hp

structure RotInv (l M : List α) (a m b i j : Nat) : Prop where
  perm : M.Perm l
  map : ∀ p, p < l.length → M[rotIx (m - i) m (m + j) p]? = l[rotIx a m b p]?
theorem RotInv.start {a m b : Nat} (h1 : a ≤ m) (h2 : m ≤ b) : RotInv l l a m b (m - a) (b - m) := by
  refine ⟨List.Perm.refl _, fun p hp => ?_⟩
  rw [show m - (m - a) = a by omega, show m + (b - m) = b by omega]
theorem RotInv.len {a m b i j : Nat} (h : RotInv l M a m b i j) : M.length = l.length := h.perm.length_eq
theorem RotInv.left {a m b i j : Nat} (h : RotInv l M a m b i j) (k : Moved M L (swpIx (m - i) m j)) (hij : j < i) (hi : i ≤ m) (hj : m + j ≤ l.length) : RotInv l L a m b (i - j) j := by
  refine ⟨k.perm.trans h.perm, fun p hp => ?_⟩
  have hl := h.len
  rw [k.map _ (by rw [hl]; unfold rotIx; split <;> (try split) <;> omega), ← h.map p hp]
  congr 1
  unfold swpIx rotIx
  repeat' split
  all_goals omega
theorem RotInv.right {a m b i j : Nat} (h : RotInv l M a m b i j) (k : Moved M L (swpIx (m - i) (m + j - i) i)) (hij : i < j) (hi : i ≤ m) (hj : m + j ≤ l.length) : RotInv l L a m b i (j - i) := by
  refine ⟨k.perm.trans h.perm, fun p hp => ?_⟩
  have hl := h.len
  rw [k.map _ (by rw [hl]; unfold rotIx; split <;> (try split) <;> omega), ← h.map p hp]
  congr 1
  unfold swpIx rotIx
  repeat' split
  all_goals omega
theorem RotInv.done {a m b i j : Nat} (h : RotInv l M a m b i j) (k : Moved M L (swpIx (m - i) m i)) (hij : i = j) (hi : i ≤ m) (hj : m + j ≤ l.length) : Moved l L (rotIx a m b) := by
  subst hij
  refine ⟨k.perm.trans h.perm, fun p hp => ?_⟩
  have hl := h.len
  rw [k.map p (by omega), ← h.map p hp]
  congr 1
  unfold swpIx rotIx
  repeat' split
  all_goals omega
variable {pf : α → α → Int}
def OrdA (pf : α → α → Int) (l : List α) : Prop := ∀ x ∈ l, ∀ y ∈ l, pf x y < 0 → ¬ pf y x < 0
def OrdT (pf : α → α → Int) (l : List α) : Prop := ∀ x ∈ l, ∀ y ∈ l, ∀ z ∈ l, ¬ pf y x < 0 → ¬ pf z y < 0 → ¬ pf z x < 0
def Cross (pf : α → α → Int) (M : List α) (a mid b : Nat) : Prop := ∀ p q u v, a ≤ p → p < mid → mid ≤ q → q < b → M[p]? = some u → M[q]? = some v → ¬ pf v u < 0
structure Halves (pf : α → α → Int) (l M : List α) (a s mid e b : Nat) : Prop where
  perm : M.Perm l
  frame : ∀ p, p < a ∨ b ≤ p → M[p]? = l[p]?
  s1 : Asc pf M a s
  s2 : Asc pf M s mid
  s3 : Asc pf M mid e
  s4 : Asc pf M e b
  cross : Cross pf M a mid b
theorem Ins.from_ {a b i p : Nat} {x : α} (h : Ins pf l L a b i) (hab : a ≤ b) (h1 : a ≤ p) (h2 : p < b) (hx : L[p]? = some x) : ∃ q, a ≤ q ∧ q < b ∧ l[q]? = some x := by
  have hl := h.len
  have e1 : L.take a = l.take a := by
    apply List.ext_getElem?; intro k
    rw [List.getElem?_take, List.getElem?_take]
    split
    · exact h.frame k (by omega)
    · rfl
  have e2 : L.drop b = l.drop b := by
    apply List.ext_getElem?; intro k
    rw [List.getElem?_drop, List.getElem?_drop]; exact h.frame _ (by omega)
  have dec : ∀ t : List α, t = t.take a ++ ((t.drop a).take (b - a) ++ t.drop b) := fun t => by
    rw [show t.drop b = (t.drop a).drop (b - a) by rw [List.drop_drop]; congr 1; omega, List.take_append_drop, List.take_append_drop]
  have hp := h.perm
  rw [dec L, dec l, e1, e2, List.perm_append_left_iff, List.perm_append_right_iff] at hp
  have hm : x ∈ (L.drop a).take (b - a) := by
    refine List.mem_of_getElem? (i := p - a) ?_
    rw [List.getElem?_take, if_pos (by omega), List.getElem?_drop, show a + (p - a) = p by omega]; exact hx
  obtain ⟨k, hk⟩ := List.getElem?_of_mem (hp.mem_iff.1 hm)
  rw [List.getElem?_take] at hk
  split at hk
  · rw [List.getElem?_drop] at hk; exact ⟨a + k, by omega, by omega, hk⟩
  · cases hk
theorem Asc.empty {a b : Nat} (h : b ≤ a + 1) : Asc pf l a b := fun p q x y h1 h2 h3 => by omega
theorem Halves.done {a s mid e b : Nat} {M1 M2 : List α} (h : Halves pf l M a s mid e b) (h1 : Ins pf M M1 a mid mid) (h2 : Ins pf M1 M2 mid b b) (ha : a ≤ mid) (hb : mid ≤ b) : Ins pf l M2 a b b := by
  refine ⟨h2.perm.trans (h1.perm.trans h.perm), fun p hp => ?_, fun p q u v k1 k2 k3 hu hv => ?_⟩
  · rw [h2.frame p (by omega), h1.frame p (by omega)]; exact h.frame p hp
  · rcases Nat.lt_or_ge q mid with c | c
    · rw [h2.frame p (by omega)] at hu; rw [h2.frame q (by omega)] at hv
      exact h1.asc p q u v k1 k2 c hu hv
    · rcases Nat.lt_or_ge p mid with d | d
      · rw [h2.frame p (by omega)] at hu
        obtain ⟨p', a1, a2, a3⟩ := h1.from_ ha k1 d hu
        obtain ⟨q', b1, b2, b3⟩ := h2.from_ hb c k3 hv
        rw [h1.frame q' (by omega)] at b3
        exact h.cross p' q' u v a1 a2 b1 b2 a3 b3
      · exact h2.asc p q u v d k2 k3 hu hv
theorem Ins.same {a b : Nat} (h : Asc pf l a b) : Ins pf l l a b b := ⟨List.Perm.refl _, fun _ _ => rfl, h⟩
theorem Asc.frame {a b : Nat} (h : Asc pf l a b) (k : ∀ p, a ≤ p → p < b → L[p]? = l[p]?) : Asc pf L a b := fun p q x y h1 h2 h3 hx hy => by
  rw [k p h1 (by omega)] at hx; rw [k q (by omega) h3] at hy
  exact h p q x y h1 h2 h3 hx hy
theorem OrdA.perm (h : OrdA pf l) (k : L.Perm l) : OrdA pf L := fun x hx y hy => h x (k.mem_iff.1 hx) y (k.mem_iff.1 hy)
theorem OrdT.perm (h : OrdT pf l) (k : L.Perm l) : OrdT pf L := fun x hx y hy z hz => h x (k.mem_iff.1 hx) y (k.mem_iff.1 hy) z (k.mem_iff.1 hz)
end
end Go.Civ
namespace Go.Civ
open Go.RowKit
set_option linter.unusedVariables false
def TGI (P : Program) (ops : Array Oper) (p : Plan) (C I : World → Prop) (Q : Exit → Env → World → Prop) : Nat → List Nat → Env → World → Prop
  | 0, R, ρ, w => R = [] → Q .normal ρ w
  | n + 1, R, ρ, w => (R = [] → Q .normal ρ w) ∧ ∀ j ∈ R, (∀ i ∈ R, waits p.M j i = false) → match ops[j]? with
    | some o => oW P ops o ρ w fun ρ' w' => (needC p j = true → C w') ∧ I w' ∧ TGI P ops p C I Q n (R.filter fun i => i != j) ρ' w'
    | none => False
section
variable {P : Program} {N : Nat} {ops : List Oper} {p : Plan} {C I : World → Prop} {Q : Exit → Env → World → Prop} {ρH : Env}
abbrev ANI (I : World → Prop) (K : Env → World → Prop) : Env → World → Prop := fun ρ w => I w ∧ K ρ w
def TAI (P : Program) (ops : List Oper) (p : Plan) (C I : World → Prop) (Q : Exit → Env → World → Prop) (n : Nat) (R : List Nat) (ρ : Env) (w : World) : List Nat → Prop
  | [] => True
  | j :: r => (match ops[j]? with
    | some o => OW P ops.toArray o ρ w (AN (needC p j) C (ANI I (TGI P ops.toArray p C I Q n (R.filter fun i => i != j))))
    | none => False) ∧ TAI P ops p C I Q n R ρ w r
theorem TAI.nil {n : Nat} {R : List Nat} {ρ : Env} {w : World} : TAI P ops p C I Q n R ρ w [] := trivial
theorem TAI.cons {n j : Nat} {R r : List Nat} {ρ : Env} {w : World} {o : Oper} (ho : ops[j]? = some o)
    (h : OW P ops.toArray o ρ w (AN (needC p j) C (ANI I (TGI P ops.toArray p C I Q n (R.filter fun i => i != j))))) (hr : TAI P ops p C I Q n R ρ w r) : TAI P ops p C I Q n R ρ w (j :: r) := by
  simp only [TAI, ho]; exact ⟨h, hr⟩
theorem TAI.get {n : Nat} {R : List Nat} {ρ : Env} {w : World} : ∀ {l : List Nat}, TAI P ops p C I Q n R ρ w l → ∀ j ∈ l, match ops.toArray[j]? with
    | some o => oW P ops.toArray o ρ w fun ρ' w' => (needC p j = true → C w') ∧ I w' ∧ TGI P ops.toArray p C I Q n (R.filter fun i => i != j) ρ' w'
    | none => False
  | [], _, j, hj => by cases hj
  | a :: l, h, j, hj => by
    rcases List.mem_cons.1 hj with rfl | hj
    · have h1 := h.1
      rw [List.getElem?_toArray]
      cases ho : ops[j]? with
      | none => rw [ho] at h1; exact h1
      | some o => rw [ho] at h1; exact h1.h
    · exact TAI.get h.2 j hj
theorem TGI.fork {ρ : Env} {w : World} (n : Nat) (R av : List Nat) {R0 : List Nat} {n0 : Nat} (hn : n0 = n + 1) (hR : R0 = R) (hav : (R.filter fun j => R.all fun i => !waits p.M j i) = av) (hne : R ≠ [])
    (h : TAI P ops p C I Q n R ρ w av) : TGI P ops.toArray p C I Q n0 R0 ρ w := by
  subst hn hR
  refine ⟨fun z => absurd z hne, fun j hj hw => h.get j ?_⟩
  rw [← hav, List.mem_filter, List.all_eq_true]
  exact ⟨hj, fun i hi => by rw [hw i hi]; rfl⟩
theorem TGI.quietG {j : Nat} {o : Oper} {d : Nat} {v : Value} (ho : ops[j]? = some o) (hd : o.dst = some d) : ∀ (n : Nat) (R : List Nat) (ρ : Env) (w : World), I w → Quiet ops p R j o d → (R.filter fun i => i != j).length ≤ n →
    (∀ w, I w → ∀ K, K (upd ρ d v) w → OW P ops.toArray o ρ w K) → TGI P ops.toArray p C I Q n (R.filter fun i => i != j) (upd ρ d v) w → TGI P ops.toArray p C I Q (n + 1) R ρ w := by
  intro n
  induction n with
  | zero =>
    intro R ρ w hI hQ hn hq h
    refine ⟨fun e => (by rw [e] at hQ; exact absurd hQ.mem (by simp)), fun k hk hav => ?_⟩
    by_cases hkj : k = j
    · subst hkj
      simp only [List.getElem?_toArray, ho]
      exact (hq w hI _ ⟨fun e => (by rw [hQ.need] at e; cases e), hI, h⟩).h
    · have : k ∈ R.filter fun i => i != j := List.mem_filter.2 ⟨hk, by simpa using hkj⟩
      have e0 := List.eq_nil_of_length_eq_zero (Nat.le_zero.1 hn)
      rw [e0] at this; cases this
  | succ n ih =>
    intro R ρ w hI hQ hn hq h
    refine ⟨fun e => (by rw [e] at hQ; exact absurd hQ.mem (by simp)), fun k hk hav => ?_⟩
    by_cases hkj : k = j
    · subst hkj
      simp only [List.getElem?_toArray, ho]
      exact (hq w hI _ ⟨fun e => (by rw [hQ.need] at e; cases e), hI, h⟩).h
    · have hk' : k ∈ R.filter fun i => i != j := List.mem_filter.2 ⟨hk, by simpa using hkj⟩
      have h2 := h.2 k hk' fun i hi => hav i (List.mem_filter.1 hi).1
      simp only [List.getElem?_toArray] at h2 ⊢
      cases hok : ops[k]? with
      | none => rw [hok] at h2; exact h2
      | some q =>
        rw [hok] at h2
        simp only at h2 ⊢
        obtain ⟨q1, q2, q3, q4⟩ := hQ.other k hk hkj q hok
        have hdl : ¬ d ∈ q.looksAt ops.toArray := fun hl => by rw [hav j hQ.mem] at q2; cases q2 hl
        refine oW_congr q4 (fun t ht => upd_other (ρ := ρ) (v := v) (show t ≠ d from fun e => hdl (by rw [← e]; exact ht))) (fun x w' hK => ⟨hK.1, hK.2.1, ?_⟩) h2
        have hcm : updO (upd ρ d v) q.dst x = upd (updO ρ q.dst x) d v := by
          cases hqd : q.dst with
          | none => rfl
          | some t => exact upd_comm fun e => q1 (by rw [hqd, e])
        have hlo : ∀ t, t ∈ o.looksAt ops.toArray → ρ t = updO ρ q.dst x t := fun t ht => by
          cases hqd : q.dst with
          | none => rfl
          | some t' => exact (upd_other (ρ := ρ) (v := x) (show t ≠ t' from fun e => q3 t' hqd (by rw [← e]; exact ht))).symm
        have hff : (R.filter fun i => i != k).filter (fun i => i != j) = (R.filter fun i => i != j).filter fun i => i != k := by
          rw [List.filter_filter, List.filter_filter]; congr 1; funext i; exact Bool.and_comm _ _
        refine ih _ _ w' hK.2.1 ⟨List.mem_filter.2 ⟨hQ.mem, by simpa using Ne.symm hkj⟩, fun i hi => hQ.av i (List.mem_filter.1 hi).1, hQ.need, hQ.sel, fun i hi => hQ.other i (List.mem_filter.1 hi).1⟩ ?_ (fun w2 hI2 K hK2 => ⟨?_⟩) ?_
        · rw [hff]
          have h3 : ((R.filter fun i => i != j).filter fun i => i != k).length < (R.filter fun i => i != j).length := List.length_filter_lt_length_iff_exists.2 ⟨k, hk', by simp⟩
          omega
        · refine oW_congr (K := fun r w3 => r = upd ρ d v ∧ w3 = w2) hQ.sel hlo (fun y w3 hy => ?_) (hq w2 hI2 _ ⟨rfl, rfl⟩).h
          rw [hd] at hy ⊢
          obtain ⟨e1, rfl⟩ := hy
          have e2 : y = v := by have := congrFun e1 d; simp only [updO, upd_here] at this; exact this
          subst e2; exact hK2
        · rw [hff, ← hcm]; exact hK.2.2
theorem TGI.quiet {ρ : Env} {w : World} (n : Nat) (R : List Nat) (j : Nat) {o : Oper} {d : Nat} {v : Value} {R0 : List Nat} {n0 : Nat} (hn : n0 = n + 1) (hR : R0 = R) (ho : ops[j]? = some o) (hd : o.dst = some d) (hb : quietB ops p R j = true) (hl : (R.filter fun i => i != j).length ≤ n) (hI : I w)
    (hq : ∀ w, I w → ∀ K, K (upd ρ d v) w → OW P ops.toArray o ρ w K) (h : TGI P ops.toArray p C I Q n (R.filter fun i => i != j) (upd ρ d v) w) : TGI P ops.toArray p C I Q n0 R0 ρ w := by
  subst hn hR; exact TGI.quietG ho hd _ _ _ _ hI (quietB_ok ho hd hb) hl hq h
theorem TGI.fin {ρ : Env} {w : World} {n : Nat} {R0 : List Nat} (hR : R0 = []) (h : Q .normal ρ w) : TGI P ops.toArray p C I Q n R0 ρ w := by
  subst hR
  cases n with
  | zero => exact fun _ => h
  | succ n => exact ⟨fun _ => h, fun j hj => by cases hj⟩
theorem GH.In.down {G G' : GH} {w : World} (h : G'.In w) (k : G.le G') : G.In w := fun b o e => h b o (k b o e)
end
end Go.Civ
