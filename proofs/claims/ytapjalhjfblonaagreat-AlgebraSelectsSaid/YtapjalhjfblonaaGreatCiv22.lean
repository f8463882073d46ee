/- Slices of slices, Booleans compared, rows that a call may have moved. -/
import Derived.Test.YtapjalhjfblonaaGreatCiv17
import Derived.Laws.Slices
import Derived.Laws.Small
namespace Go.Civ
open Go.RowKit
set_option linter.unusedVariables false

theorem Sl.takeV {α : Type} {E : Enc α} {by_ : Nat} {G : GH} {a : Option Addr} {n len cap : Nat} {l : List α} (h : Sl E by_ G (.slice a len cap) l) (hn : n ≤ l.length) : Sl E by_ G (sliced a 0 n cap E.n) (l.take n) := by
  obtain ⟨a', cap', e, h2, h3, h4, h5⟩ := h
  simp only [Value.slice.injEq] at e
  obtain ⟨rfl, rfl, rfl⟩ := e
  have hl : (l.take n).length = n := by rw [List.length_take]; omega
  have ev : sliced a 0 n cap E.n = .slice a n cap := by
    unfold sliced
    cases a <;> simp [Addr.add]
  rw [ev]
  refine ⟨a, cap, by rw [hl], by omega, ?_, by omega, fun i x hx => ?_⟩
  · rw [hl]; exact Nat.le_trans (Nat.mul_le_mul_right _ hn) h3
  · rw [List.getElem?_take] at hx
    split at hx
    · exact h5 i x hx
    · cases hx
theorem Sl.dropV {α : Type} {E : Enc α} {by_ : Nat} {G : GH} {a : Option Addr} {n len cap : Nat} {l : List α} (h : Sl E by_ G (.slice a len cap) l) (hn : n ≤ l.length) : Sl E by_ G (sliced a n len cap E.n) (l.drop n) := by
  obtain ⟨a', cap', e, h2, h3, h4, h5⟩ := h
  simp only [Value.slice.injEq] at e
  obtain ⟨rfl, rfl, rfl⟩ := e
  have hl : (l.drop n).length = l.length - n := by rw [List.length_drop]
  unfold sliced
  by_cases hc : cap = n
  · rw [if_pos hc]
    refine ⟨a, cap - n, by rw [hl], by omega, ?_, by omega, fun i x hx => ?_⟩
    · rw [hl]; exact Nat.le_trans (Nat.mul_le_mul_right _ (by omega)) h3
    · have := (List.getElem?_eq_some_iff.1 hx).1
      rw [hl] at this; omega
  · rw [if_neg hc]
    refine ⟨a.map fun p => p.add (n * E.n), cap - n, by rw [hl], by omega, ?_, by omega, fun i x hx => ?_⟩
    · rw [hl]; exact Nat.le_trans (Nat.mul_le_mul_right _ (by omega)) h3
    · rw [List.getElem?_drop] at hx
      obtain ⟨p, rfl, hp, hel⟩ := h5 (n + i) x hx
      refine ⟨p.add (n * E.n), rfl, by rw [addr_add _ _ hp], ?_⟩
      have e1 : (p.add (n * E.n)).add (i * E.n) = p.add ((n + i) * E.n) := by
        rw [addr_add _ _ (by rw [addr_add _ _ hp]), addr_add _ _ hp, addr_add _ _ hp, Nat.add_mul, Nat.add_assoc]
      rw [e1]; exact hel

section
variable {P : Program} {Q : Exit → Env → World → Prop} {ρ : Env} {w : World} {ops : Array Oper} {rest : List Oper}
variable {d : Nat} {ty : TypeId} {pos : String} {af : Array Edge} {g : Option (Nat × Bool)} {G : GH}
theorem elem_of {t e : TypeId} (hu : P.underlying t = some (.slice e)) : P.elem t = e := by simp [Program.elem, hu]
theorem WL.sliceHi {α : Type} {E : Enc α} {by_ : Nat} {t e : TypeId} {x hi : Operand} {v : Value} {l : List α} {ti : TI} (hs : Sl E by_ G v l) (n : Nat) (hn : n ≤ l.length) (hu : P.underlying t = some (.slice e)) (ht : tinfo P e = some ti) (hE : ti.size = E.n)
    (hw : Region.wanted ⟨some d, .slice t x none (some hi) none, ty, pos, af, g⟩ (yieldE ops ρ) = true) (hx : ev ρ x = v) (hh : ev ρ hi = .int .i64 (n : Int))
    (k : ∀ v', Sl E by_ G v' (l.take n) → WL P ops Q rest (upd ρ d v') w) : WL P ops Q (⟨some d, .slice t x none (some hi) none, ty, pos, af, g⟩ :: rest) ρ w := by
  obtain ⟨a, cap, rfl, h2, _⟩ := id hs
  have he := elem_of hu
  have hu' : P.underlying t = some (.slice (P.elem t)) := by rw [he]; exact hu
  have run : (Instr.sliceAt t (.slice a l.length cap) none (some (.int .i64 (n : Int))) none).run P w = .ok (sliced a 0 n cap E.n) w := by
    rw [run_sliceAt_slice w t _ _ _ _ hu', run_slice_h w t a l.length cap hu' .i64 (n : Int) (by omega) (by omega), he, run_sizeOf' ht, hE]; rfl
  refine WL.val hw ?_ rfl (k _ (hs.takeV hn))
  simp [execOp, hx, hh, run, Result.andThen]
theorem WL.sliceLo {α : Type} {E : Enc α} {by_ : Nat} {t e : TypeId} {x lo : Operand} {v : Value} {l : List α} {ti : TI} (hs : Sl E by_ G v l) (n : Nat) (hn : n ≤ l.length) (hu : P.underlying t = some (.slice e)) (ht : tinfo P e = some ti) (hE : ti.size = E.n)
    (hw : Region.wanted ⟨some d, .slice t x (some lo) none none, ty, pos, af, g⟩ (yieldE ops ρ) = true) (hx : ev ρ x = v) (hh : ev ρ lo = .int .i64 (n : Int))
    (k : ∀ v', Sl E by_ G v' (l.drop n) → WL P ops Q rest (upd ρ d v') w) : WL P ops Q (⟨some d, .slice t x (some lo) none none, ty, pos, af, g⟩ :: rest) ρ w := by
  obtain ⟨a, cap, rfl, h2, _⟩ := id hs
  have he := elem_of hu
  have hu' : P.underlying t = some (.slice (P.elem t)) := by rw [he]; exact hu
  have run : (Instr.sliceAt t (.slice a l.length cap) (some (.int .i64 (n : Int))) none none).run P w = .ok (sliced a n l.length cap E.n) w := by
    rw [run_sliceAt_slice w t _ _ _ _ hu', run_slice_l w t a l.length cap hu' .i64 (n : Int) (by omega) (by omega), he, run_sizeOf' ht, hE]; rfl
  refine WL.val hw ?_ rfl (k _ (hs.dropV hn))
  simp [execOp, hx, hh, run, Result.andThen]
theorem run_guard_bool (op : BinOp) (t : TypeId) (x y : Operand) (a b : Bool) : (eqGuard op t x y (.bool a) (.bool b)).run P w = .ok () w := by
  unfold eqGuard; split <;> simp
theorem WL.boolEq {t ty' : TypeId} {x y : Operand} (a b : Bool) (hu : P.underlying t = some .bool)
    (hw : Region.wanted ⟨some d, .binOp .eql t x y ty', ty, pos, af, g⟩ (yieldE ops ρ) = true) (hx : ev ρ x = .bool a) (hy : ev ρ y = .bool b)
    (kk : WL P ops Q rest (upd ρ d (.bool (a == b))) w) : WL P ops Q (⟨some d, .binOp .eql t x y ty', ty, pos, af, g⟩ :: rest) ρ w := by
  refine WL.val hw ?_ rfl kk
  simp [execOp, hx, hy, run_guard_bool, run_eql_bool w t a b hu, Result.andThen]
theorem WL.boolNe {t ty' : TypeId} {x y : Operand} (a b : Bool) (hu : P.underlying t = some .bool)
    (hw : Region.wanted ⟨some d, .binOp .neq t x y ty', ty, pos, af, g⟩ (yieldE ops ρ) = true) (hx : ev ρ x = .bool a) (hy : ev ρ y = .bool b)
    (kk : WL P ops Q rest (upd ρ d (.bool (!(a == b)))) w) : WL P ops Q (⟨some d, .binOp .neq t x y ty', ty, pos, af, g⟩ :: rest) ρ w := by
  refine WL.val hw ?_ rfl kk
  simp [execOp, hx, hy, run_guard_bool, run_neq_bool w t a b hu, Result.andThen]
end
section
variable {w0 w w' : World} {X : List Nat} {G0 G G' : GH} {L : Own} {o o' : OB}
/-- What has become of a row that was lent: it lies in its block, or in a new one. -/
def RowOut (w w' : World) (G' : GH) (o o' : OB) : Prop := ∀ p, o' = some p → (w.heap.size ≤ p.1 ∨ p.1 ∈ blk o) ∧ w'.heap[p.1]? = some (objOf p.2) ∧ G' p.1 = none
theorem St.rowOut (h : St w0 (blk o) G0 G L w) (i : Nat) (hi : L[i]? = some o') : RowOut w0 w G o o' := fun p hp => by
  subst hp; exact ⟨(h.sep i p hi).1, h.own i p hi, (h.sep i p hi).2⟩
theorem St.callRowO (h : St w0 X G0 G L w) (i : Nat) (hi : L[i]? = some o) (r : Res (blk o) w G w' G') (ho : RowOut w w' G' o o') : St w0 X G0 G' (L.set i o') w' := by
  have hil : i < L.length := (List.getElem?_eq_some_iff.1 hi).1
  have inb : ∀ b, b ∈ blk o → ∃ p, o = some p ∧ p.1 = b := fun b hb => by
    cases o with
    | none => simp [blk] at hb
    | some p => simp [blk] at hb; exact ⟨p, rfl, hb.symm⟩
  have look : ∀ (j : Nat) p, (L.set i o')[j]? = some (some p) → (j = i ∧ o' = some p) ∨ (j ≠ i ∧ L[j]? = some (some p) ∧ p.1 ∉ blk o) := fun j p hj => by
    rw [List.getElem?_set] at hj
    split at hj
    · rename_i hji; subst hji; first | exact .inl ⟨rfl, Option.some.inj hj⟩ | (rw [if_pos hil] at hj; exact .inl ⟨rfl, Option.some.inj hj⟩)
    · rename_i hji
      refine .inr ⟨Ne.symm hji, hj, fun hb => ?_⟩
      obtain ⟨q, rfl, e⟩ := inb _ hb
      exact hji (h.nd _ _ _ _ hi hj e)
  refine ⟨h.kept.step r.kept (fun y hy => ?_), h.le.trans r.le, fun b hb => (r.new b (Nat.lt_of_lt_of_le hb h.kept.size)).trans (h.new b hb), r.imm, fun j p hp => ?_, fun j p hp => ?_, fun j k p q hp hq he => ?_⟩
  · obtain ⟨q, rfl, rfl⟩ := inb _ hy; exact (h.sep _ _ hi).1
  · rcases look j p hp with ⟨rfl, e⟩ | ⟨_, hp, hne⟩
    · exact (ho p e).2.1
    · rw [r.kept.block _ (h.ownLt hp) hne]; exact h.own j p hp
  · rcases look j p hp with ⟨rfl, e⟩ | ⟨_, hp, hne⟩
    · refine ⟨?_, (ho p e).2.2⟩
      rcases (ho p e).1 with k | k
      · exact .inl (Nat.le_trans h.kept.size k)
      · obtain ⟨q, rfl, e2⟩ := inb _ k; rw [← e2]; exact (h.sep _ _ hi).1
    · exact ⟨(h.sep j p hp).1, by rw [r.new _ (h.ownLt hp)]; exact (h.sep j p hp).2⟩
  · rcases look j p hp with ⟨rfl, e⟩ | ⟨_, hp2, hne⟩ <;> rcases look k q hq with ⟨rfl, e2⟩ | ⟨_, hq2, hne'⟩
    · rfl
    · exfalso
      rcases (ho p e).1 with k1 | k1
      · have := h.ownLt hq2; omega
      · rw [he] at k1; exact hne' k1
    · exfalso
      rcases (ho q e2).1 with k1 | k1
      · have := h.ownLt hp2; omega
      · rw [← he] at k1; exact hne k1
    · exact h.nd _ _ _ _ hp2 hq2 he
end
end Go.Civ
