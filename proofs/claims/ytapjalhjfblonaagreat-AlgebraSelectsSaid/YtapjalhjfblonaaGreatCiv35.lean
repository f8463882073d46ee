/- A map that the call makes for itself: whole numbers by whole numbers. -/
import Derived.Test.YtapjalhjfblonaaGreatCiv34
import Derived.Maps.Own
import Derived.Laws.StructEq
namespace Go.Civ
open Go.RowKit Go.Maps
set_option linter.unusedVariables false

/-- A block that is neither owned by the list nor frozen, and younger than the call. -/
structure Apart (w0 : World) (G : GH) (L : Own) (b : Nat) : Prop where
  new : w0.heap.size ≤ b
  gh : G b = none
  own : ∀ (i : Nat) p, L[i]? = some (some p) → p.1 ≠ b
section
variable {P : Program} {N : Nat} {Q : Exit → Env → World → Prop} {ρ : Env} {w w0 : World} {ops : Array Oper} {rest : List Oper} {d : Nat} {ty : TypeId} {pos : String} {af : Array Edge} {g : Option (Nat × Bool)}
variable {X : List Nat} {G0 G : GH} {L : Own} {b : Nat}
theorem St.grown (h : St w0 X G0 G L w) (ha : Apart w0 G L b) {w' : World} (hg : w.grownBy w' (some b)) : St w0 X G0 G L w' := by
  have blk : ∀ k, k < w.heap.size → k ≠ b → w'.heap[k]? = w.heap[k]? := fun k hk hne => hg.block k hk (fun e => hne (Option.some.inj e))
  refine ⟨⟨hg.os.trans h.kept.os, hg.tape.trans h.kept.tape, hg.output.trans h.kept.output, Nat.le_trans h.kept.size hg.size, fun k hk hX => ?_⟩, h.le, h.new, fun k o hk => ?_, fun i p hp => ?_, h.sep, h.nd⟩
  · rw [blk k (Nat.lt_of_lt_of_le hk h.kept.size) (by have := ha.new; omega)]; exact h.kept.block k hk hX
  · have hne : k ≠ b := fun e => by subst e; rw [ha.gh] at hk; cases hk
    rw [blk k (h.imm.lt hk) hne]; exact h.imm k o hk
  · rw [blk p.1 (h.ownLt hp) (ha.own i p hp)]; exact h.own i p hp
theorem WL.neqB {t ty' : TypeId} {x y : Operand} (a b : Bool) (ht : P.underlying t = some .bool) (hw : Region.wanted ⟨some d, .binOp .neq t x y ty', ty, pos, af, g⟩ (yieldE ops ρ) = true) (hx : ev ρ x = .bool a) (hy : ev ρ y = .bool b)
    (kk : WL P ops Q rest (upd ρ d (.bool (a != b))) w) : WL P ops Q (⟨some d, .binOp .neq t x y ty', ty, pos, af, g⟩ :: rest) ρ w := by
  refine WL.val hw ?_ rfl kk
  have e : (Op.equalIn Op.maxDepth t (.bool a) (.bool b)).run P w = .ok (a == b) w := run_equalIn_bool' w 9999 t a b ht
  have h1 : (binOp .neq t (.bool a) (.bool b)).run P w = .ok (.bool (a != b)) w := by
    simp [binOp, Op.equal, e, Result.andThen]; cases a <;> cases b <;> rfl
  have h2 : (eqGuard .neq t x y (.bool a) (.bool b)).run P w = .ok () w := by unfold eqGuard; split <;> simp
  simp [execOp, hx, hy, h1, h2, Result.andThen]
abbrev IMap (P : Program) (K E : TypeId) (w : World) (b n : Nat) (D : DataW Unit) : Prop := w.ownsMap P K (plainElem P E) b n D
theorem WL.makeMapI {t : TypeId} (K E : TypeId) (hS : St w0 X G0 G L w) (hw : Region.wanted ⟨some d, .makeMap t none, ty, pos, af, g⟩ (yieldE ops ρ) = true)
    (k : ∀ b w', IMap P K E w' b 0 (.map []) → Apart w0 G L b → St w0 X G0 G L w' → WL P ops Q rest (upd ρ d (.map (some b))) w') : WL P ops Q (⟨some d, .makeMap t none, ty, pos, af, g⟩ :: rest) ρ w := by
  refine WL.val (v := .map (some w.heap.size)) (w' := w.alloc (.map #[] 0)) hw ?_ rfl (k _ _ (World.ownsMap_made w P K _) ⟨h1, hS.imm.fresh (Nat.le_refl _), fun i p hp e => ?_⟩ ?_)
  · simp [execOp, run_makeMap, Result.andThen]
  · have := hS.ownLt hp; omega
  · exact hS.call (Res.alloc hS.imm _)
where h1 := hS.kept.size
theorem WL.insertI {t K E : TypeId} {m x y : Operand} {n : Nat} {D : DataW Unit} (ki vi : Int) (hS : St w0 X G0 G L w) (ho : IMap P K E w b n D) (ha : Apart w0 G L b) (ht : P.underlying t = some (.map K E)) (uK : P.underlying K = some (.int .i64)) (uE : P.underlying E = some (.int .i64))
    (hk : I64 ki) (hv : I64 vi) (hn : n < 1000) (hw : Region.wanted ⟨none, .insert t m x y, ty, pos, af, g⟩ (yieldE ops ρ) = true) (hm : ev ρ m = .map (some b)) (hx : ev ρ x = .int .i64 ki) (hy : ev ρ y = .int .i64 vi)
    (k : ∀ w', IMap P K E w' b (n + 1) (D.put (.int .i64 ki) (.lit (.int .i64 vi))) → St w0 X G0 G L w' → WL P ops Q rest ρ w') : WL P ops Q (⟨none, .insert t m x y, ty, pos, af, g⟩ :: rest) ρ w := by
  have wf : ∀ {z : Int}, I64 z → (Lit.int .i64 z).wf = true := fun {z} h => by
    simp [Lit.wf, IntKind.min, IntKind.max, IntKind.signed, IntKind.bits]; exact ⟨h.1, by have := h.2; omega⟩
  have hkey : keyOf P K (.int .i64 ki) = some (.int .i64 ki) := by unfold keyOf; rw [uK]; simp [mapKey, uK, wf hk]
  obtain ⟨w', hrun, ho', hg⟩ := World.ownsMap.update ho (int_keyed uK) ht (by simp [maxLen]; omega) hkey (plainElem_int uE (wf hv))
  have := k w' ho' (hS.grown ha hg)
  simp only [WL, oW, hw]
  simp [execOp, hm, hx, hy, hrun, Result.andThen, uponE, updO]
  exact this
theorem WL.lookupI {t K E : TypeId} {m x : Operand} {n : Nat} {D : DataW Unit} (ki : Int) (ho : IMap P K E w b n D) (ht : P.underlying t = some (.map K E)) (uK : P.underlying K = some (.int .i64)) (uE : P.underlying E = some (.int .i64))
    (hk : I64 ki) (hz : (zeroValue E).run P w = .ok (.int .i64 0) w) (hw : Region.wanted ⟨some d, .lookup t m x false, ty, pos, af, g⟩ (yieldE ops ρ) = true) (hm : ev ρ m = .map (some b)) (hx : ev ρ x = .int .i64 ki)
    (k : ∀ c, D.atKey (.int .i64 ki) (.lit (.int .i64 0)) = .lit (.int .i64 c) → WL P ops Q rest (upd ρ d (.int .i64 c)) w) : WL P ops Q (⟨some d, .lookup t m x false, ty, pos, af, g⟩ :: rest) ρ w := by
  have wf : (Lit.int .i64 ki).wf = true := by
    simp [Lit.wf, IntKind.min, IntKind.max, IntKind.signed, IntKind.bits]; exact ⟨hk.1, by have := hk.2; omega⟩
  have hkey : keyOf P K (.int .i64 ki) = some (.int .i64 ki) := by unfold keyOf; rw [uK]; simp [mapKey, uK, wf]
  obtain ⟨c, hrun, hat, _⟩ := World.ownsMap.lookup_int ho (int_keyed uK) ht uE hz hkey
  refine WL.val hw ?_ rfl (k c hat)
  simp [execOp, hm, hx, hrun, Result.andThen]
end
theorem plain_no1 {c : Cond} (hk : c.kind = 1 ∨ c.kind = 2) (h : c.l.length ≠ 0) : plainB c = false := by
  have : isCmp c = true := by unfold isCmp; rcases hk with h | h <;> rw [h] <;> rfl
  unfold plainB; rw [this, decide_eq_false h]; simp
theorem plain_no2 {c : Cond} (hk : c.kind = 3 ∨ c.kind = 4 ∨ c.kind = 5 ∨ c.kind = 6) (h : c.l.length ≠ arity c.kind) : plainB c = false := by
  have h1 : isCmp c = false := by unfold isCmp; rw [decide_eq_false (by omega), decide_eq_false (by omega)]; rfl
  unfold plainB; rw [h1, decide_eq_false h]; simp
theorem plain_no3 {c : Cond} (hk : c.kind = 1 ∨ c.kind = 2) (h : (SCmp.b .eql c.oth [] != valB c.v) = true) : plainB c = false := by
  have h1 : isCmp c = true := by unfold isCmp; rcases hk with h | h <;> rw [h] <;> rfl
  unfold plainB
  rw [h1]
  simp only [SCmp.b] at h
  by_cases g : c.oth = []
  · rw [decide_eq_true g] at h ⊢
    cases hv : valB c.v with
    | true => rw [hv] at h; cases h
    | false => simp
  · rw [decide_eq_false g] at h ⊢
    have hv : valB c.v = true := by cases hv : valB c.v with | true => rfl | false => rw [hv] at h; cases h
    have hz : c.v ≠ zeroV := fun e => by rw [e] at hv; exact absurd hv (by decide)
    rw [decide_eq_false hz]; simp
theorem plain_yes2 {c : Cond} (hk : c.kind = 3 ∨ c.kind = 4 ∨ c.kind = 5 ∨ c.kind = 6) (h1 : c.col = []) (h2 : c.oth = []) (h3 : c.v = zeroV) (h : c.l.length = arity c.kind) : plainB c = true := by
  have g1 : isCmp c = false := by unfold isCmp; rw [decide_eq_false (by omega), decide_eq_false (by omega)]; rfl
  have g2 : isOp c = true := by unfold isOp; rcases hk with h | h | h | h <;> rw [h] <;> rfl
  unfold plainB; rw [g1, g2, decide_eq_true h1, decide_eq_true h2, decide_eq_true h3, decide_eq_true h]; rfl
theorem node_c1 {c : Cond} (hk : c.kind = 1 ∨ c.kind = 2) (hc : c.col ≠ []) (ho : c.oth = []) (hb : (SCmp.b .eql c.oth [] != valB c.v) = false) : plainB c = decide ((c.l.length : Int) = 0) := by
  have h1 : isCmp c = true := by unfold isCmp; rcases hk with h | h <;> rw [h] <;> rfl
  simp only [SCmp.b] at hb
  rw [decide_eq_true ho] at hb
  have hv : valB c.v = true := by cases hv : valB c.v with | true => rfl | false => rw [hv] at hb; cases hb
  unfold plainB; rw [h1, decide_eq_false hc, decide_eq_true ho, hv]
  rw [Bool.eq_iff_iff]; simp
theorem node_c2 {c : Cond} (hk : c.kind = 1 ∨ c.kind = 2) (hc : c.col ≠ []) (ho : c.oth ≠ []) (hv : c.v = zeroV) : plainB c = decide ((c.l.length : Int) = 0) := by
  have h1 : isCmp c = true := by unfold isCmp; rcases hk with h | h <;> rw [h] <;> rfl
  unfold plainB; rw [h1, decide_eq_false hc, decide_eq_false ho, decide_eq_true hv]
  rw [Bool.eq_iff_iff]; simp
theorem node_op {c : Cond} {op : Int} (hk : c.kind = 3 ∨ c.kind = 4 ∨ c.kind = 5 ∨ c.kind = 6) (h1 : c.col = []) (h2 : c.oth = []) (h3 : c.v = zeroV) (h : op = (arity c.kind : Int)) : plainB c = decide ((c.l.length : Int) = op) := by
  have g1 : isCmp c = false := by unfold isCmp; rw [decide_eq_false (by omega), decide_eq_false (by omega)]; rfl
  have g2 : isOp c = true := by unfold isOp; rcases hk with h | h | h | h <;> rw [h] <;> rfl
  unfold plainB; rw [g1, g2, decide_eq_true h1, decide_eq_true h2, decide_eq_true h3, h]
  rw [Bool.eq_iff_iff]; simp; omega
def arMap : DataW Unit := (((DataW.map []).put (.int .i64 4) (.lit (.int .i64 1))).put (.int .i64 5) (.lit (.int .i64 2))).put (.int .i64 6) (.lit (.int .i64 2))
theorem mapAr3 {k c : Int} (h : k = 3) (hat : arMap.atKey (.int .i64 k) (.lit (.int .i64 0)) = .lit (.int .i64 c)) : c = (arity k : Int) := by
  subst h
  have e : arMap.atKey (.int .i64 3) (.lit (.int .i64 0)) = .lit (.int .i64 0) := by rfl
  rw [e] at hat; injection hat with h1; injection h1 with _ h2; rw [← h2]; rfl
theorem mapAr4 {k c : Int} (h : k = 4) (hat : arMap.atKey (.int .i64 k) (.lit (.int .i64 0)) = .lit (.int .i64 c)) : c = (arity k : Int) := by
  subst h
  have e : arMap.atKey (.int .i64 4) (.lit (.int .i64 0)) = .lit (.int .i64 1) := by rfl
  rw [e] at hat; injection hat with h1; injection h1 with _ h2; rw [← h2]; rfl
theorem mapAr5 {k c : Int} (h : k = 5) (hat : arMap.atKey (.int .i64 k) (.lit (.int .i64 0)) = .lit (.int .i64 c)) : c = (arity k : Int) := by
  subst h
  have e : arMap.atKey (.int .i64 5) (.lit (.int .i64 0)) = .lit (.int .i64 2) := by rfl
  rw [e] at hat; injection hat with h1; injection h1 with _ h2; rw [← h2]; rfl
theorem mapAr6 {k c : Int} (h : k = 6) (hat : arMap.atKey (.int .i64 k) (.lit (.int .i64 0)) = .lit (.int .i64 c)) : c = (arity k : Int) := by
  subst h
  have e : arMap.atKey (.int .i64 6) (.lit (.int .i64 0)) = .lit (.int .i64 2) := by rfl
  rw [e] at hat; injection hat with h1; injection h1 with _ h2; rw [← h2]; rfl
end Go.Civ
