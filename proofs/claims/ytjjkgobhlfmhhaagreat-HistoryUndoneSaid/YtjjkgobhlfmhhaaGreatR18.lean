/- Lemmas: Civ35, Civ73. -/
import Derived.Test.YtjjkgobhlfmhhaaGreatR05
import Derived.Test.YtjjkgobhlfmhhaaGreatR11
import Derived.Test.YtjjkgobhlfmhhaaGreatR13
import Derived.Maps.Own
import Derived.Laws.StructEq
namespace Go.Civ
open Go.RowKit Go.Maps
set_option linter.unusedVariables false

structure Apart (w0 : World) (G : GH) (L : Own) (b : Nat) : Prop where
  new : w0.heap.size ≤ b
  gh : G b = none
  own : ∀ (i : Nat) p, L[i]? = some (some p) → p.1 ≠ b
section
variable {P : Program} {N : Nat} {Q : Exit → Env → World → Prop} {ρ : Env} {w w0 : World} {ops : Array Oper} {rest : List Oper} {K KK : Env → World → Prop} {d : Nat} {ty : TypeId} {pos : String} {af : Array Edge} {g : Option (Nat × Bool)}
variable {X : List Nat} {G0 G : GH} {L : Own} {b : Nat}
theorem ownsMap_update {H : Type} {R : Value → Option (DataW H × List MemPlace)} {kt t e : TypeId} {n : Nat} {D : DataW H} (h : w.ownsMap P kt R b n D) (K : Keyed P kt) (ht : P.underlying t = some (.map kt e)) (hn : n < maxLen) {key val : Value} {kl : Lit} {dd : DataW H} {ps : List MemPlace}
    (hkey : keyOf P kt key = some kl) (hv : R val = some (dd, ps)) : ∃ w', (Instr.mapUpdate t (.map (some b)) key val).run P w = .ok () w' ∧ w'.ownsMap P kt R b (n + 1) (D.put kl dd) ∧ w.grownBy w' (some b) ∧ w.drawn ≤ w'.drawn := by
  obtain ⟨w', h1, h2, h3⟩ := World.ownsMap.update h K ht hn hkey hv
  obtain ⟨es, clock, hb, F, hs, rfl⟩ := h
  obtain ⟨es', clock', hrun, _⟩ := Maps.fit_store (R' := R) K ht hb F (Nat.lt_of_le_of_lt hs hn) (fun _ _ _ _ hz => hz) hkey hv
  refine ⟨w', h1, h2, h3, ?_⟩
  rw [hrun] at h1
  injection h1 with _ e
  subst e
  exact Nat.le_refl _
theorem St.grown (h : St w0 X G0 G L w) (ha : Apart w0 G L b) {w' : World} (hg : w.grownBy w' (some b)) (hd : w.drawn ≤ w'.drawn) : St w0 X G0 G L w' := by
  have blk : ∀ k, k < w.heap.size → k ≠ b → w'.heap[k]? = w.heap[k]? := fun k hk hne => hg.block k hk (fun e => hne (Option.some.inj e))
  refine ⟨⟨hg.os.trans h.kept.os, hg.tape.trans h.kept.tape, hg.output.trans h.kept.output, Nat.le_trans h.kept.drawn hd, Nat.le_trans h.kept.size hg.size, fun k hk hX => ?_⟩, h.le, h.new, fun k o hk => ?_, fun i p hp => ?_, h.sep, h.nd⟩
  · rw [blk k (Nat.lt_of_lt_of_le hk h.kept.size) (by have := ha.new; omega)]; exact h.kept.block k hk hX
  · have hne : k ≠ b := fun e => by subst e; rw [ha.gh] at hk; cases hk
    rw [blk k (h.imm.lt hk) hne]; exact h.imm k o hk
  · rw [blk p.1 (h.ownLt hp) (ha.own i p hp)]; exact h.own i p hp
abbrev IMap (P : Program) (K E : TypeId) (w : World) (b n : Nat) (D : DataW Unit) : Prop := w.ownsMap P K (plainElem P E) b n D
theorem WL.makeMapI {t : TypeId} (K E : TypeId) (hS : St w0 X G0 G L w) (hw : Region.wanted ⟨some d, .makeMap t none, ty, pos, af, g⟩ (yieldE ops ρ) = true)
    (k : ∀ b w', IMap P K E w' b 0 (.map []) → Apart w0 G L b → St w0 X G0 G L w' → KK (upd ρ d (.map (some b))) w') : OW P ops ⟨some d, .makeMap t none, ty, pos, af, g⟩ ρ w KK := by
  refine WL.val (v := .map (some w.heap.size)) (w' := w.alloc (.map #[] 0)) hw ?_ rfl (k _ _ (World.ownsMap_made w P K _) ⟨h1, hS.imm.fresh (Nat.le_refl _), fun i p hp e => ?_⟩ ?_)
  · simp [execOp, run_makeMap, Result.andThen]
  · have := hS.ownLt hp; omega
  · exact hS.call (Res.alloc hS.imm _)
where h1 := hS.kept.size
theorem WL.insertI {t K E : TypeId} {m x y : Operand} {n : Nat} {D : DataW Unit} (ki vi : Int) (hS : St w0 X G0 G L w) (ho : IMap P K E w b n D) (ha : Apart w0 G L b) (ht : P.underlying t = some (.map K E)) (uK : P.underlying K = some (.int .i64)) (uE : P.underlying E = some (.int .i64))
    (hk : I64 ki) (hv : I64 vi) (hn : n < 1000) (hw : Region.wanted ⟨none, .insert t m x y, ty, pos, af, g⟩ (yieldE ops ρ) = true) (hm : ev ρ m = .map (some b)) (hx : ev ρ x = .int .i64 ki) (hy : ev ρ y = .int .i64 vi)
    (k : ∀ w', IMap P K E w' b (n + 1) (D.put (.int .i64 ki) (.lit (.int .i64 vi))) → St w0 X G0 G L w' → KK ρ w') : OW P ops ⟨none, .insert t m x y, ty, pos, af, g⟩ ρ w KK := by
  have wf : ∀ {z : Int}, I64 z → (Lit.int .i64 z).wf = true := fun {z} h => by
    simp [Lit.wf, IntKind.min, IntKind.max, IntKind.signed, IntKind.bits]; exact ⟨h.1, by have := h.2; omega⟩
  have hkey : keyOf P K (.int .i64 ki) = some (.int .i64 ki) := by unfold keyOf; rw [uK]; simp [mapKey, uK, wf hk]
  obtain ⟨w', hrun, ho', hg, hdr⟩ := ownsMap_update ho (int_keyed uK) ht (by simp [maxLen]; omega) hkey (plainElem_int uE (wf hv))
  have := k w' ho' (hS.grown ha hg hdr)
  exact WL.eff (w' := w') hw (by simp [execOp, hm, hx, hy, hrun, Result.andThen]) rfl this
theorem WL.lookupI {t K E : TypeId} {m x : Operand} {n : Nat} {D : DataW Unit} (ki : Int) (ho : IMap P K E w b n D) (ht : P.underlying t = some (.map K E)) (uK : P.underlying K = some (.int .i64)) (uE : P.underlying E = some (.int .i64))
    (hk : I64 ki) (hz : (zeroValue E).run P w = .ok (.int .i64 0) w) (hw : Region.wanted ⟨some d, .lookup t m x false, ty, pos, af, g⟩ (yieldE ops ρ) = true) (hm : ev ρ m = .map (some b)) (hx : ev ρ x = .int .i64 ki)
    (k : ∀ c, D.atKey (.int .i64 ki) (.lit (.int .i64 0)) = .lit (.int .i64 c) → KK (upd ρ d (.int .i64 c)) w) : OW P ops ⟨some d, .lookup t m x false, ty, pos, af, g⟩ ρ w KK := by
  have wf : (Lit.int .i64 ki).wf = true := by
    simp [Lit.wf, IntKind.min, IntKind.max, IntKind.signed, IntKind.bits]; exact ⟨hk.1, by have := hk.2; omega⟩
  have hkey : keyOf P K (.int .i64 ki) = some (.int .i64 ki) := by unfold keyOf; rw [uK]; simp [mapKey, uK, wf]
  obtain ⟨c, hrun, hat, _⟩ := World.ownsMap.lookup_int ho (int_keyed uK) ht uE hz hkey
  refine WL.val hw ?_ rfl (k c hat)
  simp [execOp, hm, hx, hrun, Result.andThen]
end
theorem plain_no3 {c : Cond} (hk : c.kind = 1 ∨ c.kind = 2) (h : (SCmp.b .eql c.oth [] != valB c.v) = true) : plainB c = false := by
  have h1 : isCmp c = true := by unfold isCmp; rcases hk with h | h <;> rw [h] <;> rfl
  unfold plainB
  rw [h1]
  simp only [SCmp.b] at h
  by_cases g : c.oth = []
  · rw [decide_eq_true g] at h ⊢
    cases hv : valB c.v with
    | true => rw [hv] at h; cases h
    | false => simp
  · rw [decide_eq_false g] at h ⊢
    have hv : valB c.v = true := by cases hv : valB c.v with | true => rfl | false => rw [hv] at h; cases h
    have hz : c.v ≠ zeroV := fun e => by rw [e] at hv; exact absurd hv (by decide)
    rw [decide_eq_false hz]; simp
theorem node_c1 {c : Cond} (hk : c.kind = 1 ∨ c.kind = 2) (hc : c.col ≠ []) (ho : c.oth = []) (hb : (SCmp.b .eql c.oth [] != valB c.v) = false) : plainB c = decide ((c.l.length : Int) = 0) := by
  have h1 : isCmp c = true := by unfold isCmp; rcases hk with h | h <;> rw [h] <;> rfl
  simp only [SCmp.b] at hb
  rw [decide_eq_true ho] at hb
  have hv : valB c.v = true := by cases hv : valB c.v with | true => rfl | false => rw [hv] at hb; cases hb
  unfold plainB; rw [h1, decide_eq_false hc, decide_eq_true ho, hv]
  rw [Bool.eq_iff_iff]; simp
theorem node_c2 {c : Cond} (hk : c.kind = 1 ∨ c.kind = 2) (hc : c.col ≠ []) (ho : c.oth ≠ []) (hv : c.v = zeroV) : plainB c = decide ((c.l.length : Int) = 0) := by
  have h1 : isCmp c = true := by unfold isCmp; rcases hk with h | h <;> rw [h] <;> rfl
  unfold plainB; rw [h1, decide_eq_false hc, decide_eq_false ho, decide_eq_true hv]
  rw [Bool.eq_iff_iff]; simp
theorem node_op {c : Cond} {op : Int} (hk : c.kind = 3 ∨ c.kind = 4 ∨ c.kind = 5 ∨ c.kind = 6) (h1 : c.col = []) (h2 : c.oth = []) (h3 : c.v = zeroV) (h : op = (arity c.kind : Int)) : plainB c = decide ((c.l.length : Int) = op) := by
  have g1 : isCmp c = false := by unfold isCmp; rw [decide_eq_false (by omega), decide_eq_false (by omega)]; rfl
  have g2 : isOp c = true := by unfold isOp; rcases hk with h | h | h | h <;> rw [h] <;> rfl
  unfold plainB; rw [g1, g2, decide_eq_true h1, decide_eq_true h2, decide_eq_true h3, h]
  rw [Bool.eq_iff_iff]; simp; omega
def arMap : DataW Unit := (((DataW.map []).put (.int .i64 4) (.lit (.int .i64 1))).put (.int .i64 5) (.lit (.int .i64 2))).put (.int .i64 6) (.lit (.int .i64 2))
theorem mapAr3 {k c : Int} (h : k = 3) (hat : arMap.atKey (.int .i64 k) (.lit (.int .i64 0)) = .lit (.int .i64 c)) : c = (arity k : Int) := by
  subst h
  have e : arMap.atKey (.int .i64 3) (.lit (.int .i64 0)) = .lit (.int .i64 0) := by rfl
  rw [e] at hat; injection hat with h1; injection h1 with _ h2; rw [← h2]; rfl
theorem mapAr4 {k c : Int} (h : k = 4) (hat : arMap.atKey (.int .i64 k) (.lit (.int .i64 0)) = .lit (.int .i64 c)) : c = (arity k : Int) := by
  subst h
  have e : arMap.atKey (.int .i64 4) (.lit (.int .i64 0)) = .lit (.int .i64 1) := by rfl
  rw [e] at hat; injection hat with h1; injection h1 with _ h2; rw [← h2]; rfl
theorem mapAr5 {k c : Int} (h : k = 5) (hat : arMap.atKey (.int .i64 k) (.lit (.int .i64 0)) = .lit (.int .i64 c)) : c = (arity k : Int) := by
  subst h
  have e : arMap.atKey (.int .i64 5) (.lit (.int .i64 0)) = .lit (.int .i64 2) := by rfl
  rw [e] at hat; injection hat with h1; injection h1 with _ h2; rw [← h2]; rfl
theorem mapAr6 {k c : Int} (h : k = 6) (hat : arMap.atKey (.int .i64 k) (.lit (.int .i64 0)) = .lit (.int .i64 c)) : c = (arity k : Int) := by
  subst h
  have e : arMap.atKey (.int .i64 6) (.lit (.int .i64 0)) = .lit (.int .i64 2) := by rfl
  rw [e] at hat; injection hat with h1; injection h1 with _ h2; rw [← h2]; rfl
end Go.Civ
namespace Go.Civ
open Go.RowKit
set_option linter.unusedVariables false
section
variable {P : Program} {Q : Exit → Env → World → Prop} {ρ : Env} {w w0 : World} {ops : Array Oper} {rest : List Oper} {K : Env → World → Prop} {X : List Nat} {G0 G : GH} {L : Own}
variable {d : Nat} {ty : TypeId} {pos : String} {af : Array Edge} {g : Option (Nat × Bool)}
theorem WL.valN {o : Oper} {w' : World} {v : Value} (hw : Region.wanted o (yieldE ops ρ) = true) (hr : (execOp (ev ρ) o).run P w = .ok (.value v) w') (hd : o.dst = none)
    (k : K ρ w') : OW P ops o ρ w K := ⟨by simp only [oW, hw, hr, uponE, hd, updO]; exact k⟩
theorem Flat.takeF {α : Type} {E : Enc α} {G : GH} : ∀ {l : List α} {xs : List Value} (n : Nat), Flat E G l xs → Flat E G (l.take n) (xs.take (n * E.n))
  | [], xs, n, h => by
    obtain rfl : xs = [] := h
    simp; rfl
  | x :: l, xs, 0, h => by simp; rfl
  | x :: l, xs, n + 1, ⟨c, r, h1, h2, h3⟩ => by
    subst h1
    have hc := E.len h2
    refine ⟨c, r.take (n * E.n), ?_, h2, h3.takeF n⟩
    rw [List.take_append, hc]
    have e1 : (n + 1) * E.n - E.n = n * E.n := by rw [Nat.add_mul]; omega
    have e2 : c.take ((n + 1) * E.n) = c := List.take_of_length_le (by rw [hc, Nat.add_mul]; omega)
    rw [e1, e2]
theorem flat_rep {α : Type} {E : Enc α} {G : GH} {y : α} {z : Value} (h : E.rep G y [z]) : ∀ (m : Nat), Flat E G (List.replicate m y) (List.replicate m z)
  | 0 => rfl
  | m + 1 => ⟨[z], List.replicate m z, rfl, h, flat_rep h m⟩
def TailV (v v' : Value) (o : OB) (n : Nat) : Prop := ∃ b e cs len cap, o = some (b, e, cs) ∧ v = .slice (some ⟨b, 0, none⟩) len cap ∧ n < len ∧ v' = .slice (some ⟨b, n, none⟩) (len - n) (cap - n)
theorem WL.sliceTail {α : Type} {E : Enc α} {by_ : Nat} {t e e' : TypeId} {x lo : Operand} {v : Value} {l : List α} {o : OB} {ti : TI} (hs : Row E by_ e' G v l o) (n : Nat) (hn : n < l.length) (hu : P.underlying t = some (.slice e)) (ht : tinfo P e = some ti) (h1 : ti.size = 1)
    (hw : Region.wanted ⟨some d, .slice t x (some lo) none none, ty, pos, af, g⟩ (yieldE ops ρ) = true) (hx : ev ρ x = v) (hh : ev ρ lo = .int .i64 (n : Int))
    (k : ∀ v', TailV v v' o n → K (upd ρ d v') w) : OW P ops ⟨some d, .slice t x (some lo) none none, ty, pos, af, g⟩ ρ w K := by
  rcases hs with ⟨_, _, rfl⟩ | ⟨b, cs, cap, xs, rfl, rfl, h3, h4, h5, h6, h7, h8, h9⟩
  · simp at hn
  · have he := elem_of hu
    have hu' : P.underlying t = some (.slice (P.elem t)) := by rw [he]; exact hu
    have run : (Instr.sliceAt t (.slice (some ⟨b, 0, none⟩) l.length cap) (some (.int .i64 (n : Int))) none none).run P w = .ok (sliced (some ⟨b, 0, none⟩) n l.length cap 1) w := by
      rw [run_sliceAt_slice w t _ _ _ _ hu', run_slice_l w t (some ⟨b, 0, none⟩) l.length cap hu' .i64 (n : Int) (by omega) (by omega), he, run_sizeOf' ht, h1]; rfl
    refine WL.val hw ?_ rfl (k _ ⟨b, _, cs, l.length, cap, rfl, rfl, hn, rfl⟩)
    have e1 : sliced (some ⟨b, 0, none⟩) n l.length cap 1 = .slice (some ⟨b, n, none⟩) (l.length - n) (cap - n) := by
      unfold sliced
      rw [if_neg (by omega)]
      simp [Addr.add]
      try (intro h; exact h.symm)
    simp [execOp, hx, hh, run, e1, Result.andThen]
theorem WL.sliceHead {α : Type} {E : Enc α} {by_ : Nat} {t e e' : TypeId} {x hi : Operand} {v : Value} {l : List α} {o : OB} {ti : TI} (hs : Row E by_ e' G v l o) (n : Nat) (hn : n ≤ l.length) (hu : P.underlying t = some (.slice e)) (ht : tinfo P e = some ti) (hE : ti.size = E.n)
    (hw : Region.wanted ⟨some d, .slice t x none (some hi) none, ty, pos, af, g⟩ (yieldE ops ρ) = true) (hx : ev ρ x = v) (hh : ev ρ hi = .int .i64 (n : Int))
    (k : ∀ v', Row E by_ e' G v' (l.take n) o → K (upd ρ d v') w) : OW P ops ⟨some d, .slice t x none (some hi) none, ty, pos, af, g⟩ ρ w K := by
  have he := elem_of hu
  have hu' : P.underlying t = some (.slice (P.elem t)) := by rw [he]; exact hu
  have hln : (l.take n).length = n := by rw [List.length_take]; omega
  rcases hs with ⟨rfl, rfl, rfl⟩ | ⟨b, cs, cap, xs, rfl, rfl, h3, h4, h5, h6, h7, h8, h9⟩
  · obtain rfl : n = 0 := by simpa using hn
    have run : (Instr.sliceAt t (.slice none 0 0) none (some (.int .i64 ((0 : Nat) : Int))) none).run P w = .ok (.slice none 0 0) w := by
      rw [run_sliceAt_slice w t _ _ _ _ hu', run_slice_h w t none 0 0 hu' .i64 ((0 : Nat) : Int) (by omega) (by omega), he, run_sizeOf' ht]; rfl
    refine WL.val hw ?_ rfl (k _ (.inl ⟨rfl, rfl, rfl⟩))
    simp only [execOp, hx, hh, Result.andThen, Sem.run_bind, Option.map_some, Option.map_none]
    rw [run]; rfl
  · have run : (Instr.sliceAt t (.slice (some ⟨b, 0, none⟩) l.length cap) none (some (.int .i64 (n : Int))) none).run P w = .ok (.slice (some ⟨b, 0, none⟩) n cap) w := by
      rw [run_sliceAt_slice w t _ _ _ _ hu', run_slice_h w t (some ⟨b, 0, none⟩) l.length cap hu' .i64 (n : Int) (by omega) (by omega), he, run_sizeOf' ht]
      simp only [Result.andThen, sliced]
      have : (if cap = 0 then (some ⟨b, 0, none⟩ : Option Addr) else Option.map (fun p => Addr.add p (0 * ti.size)) (some ⟨b, 0, none⟩)) = some ⟨b, 0, none⟩ := by
        split <;> simp [Addr.add]
      rw [this]; simp
    refine WL.val (v := .slice (some ⟨b, 0, none⟩) n cap) hw (by simp [execOp, hx, hh, run, Result.andThen]) rfl (k _ (.inr ⟨b, cs, cap, _, rfl, by rw [hln], by omega, h4, h5, h6.takeF n, ?_, ?_, by omega⟩))
    · rw [← h7, hln, List.take_take]
      congr 1
      exact (Nat.min_eq_left (Nat.mul_le_mul_right _ hn)).symm
    · rw [hln]; exact Nat.le_trans (Nat.mul_le_mul_right _ hn) h8
theorem run_clearT (w : World) (t e e' ty : TypeId) (z : Value) (ht : P.underlying t = some (.slice e)) (hv : ∀ w, (zeroValue e).run P w = .ok z w) (hz : z.cells = #[z]) (h1 : z.oneCell' = true) {b o n c : Nat} (hn : 0 < n) {cs : List Value}
    (hb : w.heap[b]? = some (.cells cs.toArray e' (0, 0))) (hfit : o + n ≤ cs.length) :
    (Builtin.clear_ #[t] ty #[.slice (some ⟨b, o, none⟩) n c]).run P w = .ok (.tuple #[]) (w.setRow b (splice cs o (List.replicate n z)).toArray) := by
  have hzc : (Builtin.zeroCells z.cells n).toList = List.replicate n z := by
    rw [hz]
    simp [Builtin.zeroCells]
    apply List.ext_getElem
    · simp
    · intro i h1 h2
      simp [Nat.mod_one]
  have hst := run_storeCells_at P b o e' (List.replicate n z) 0 cs.toArray w hb (by simpa using hfit) (by intro v hv'; rw [List.eq_of_mem_replicate hv']; exact h1)
  simp only [Nat.add_zero] at hst
  obtain ⟨m, rfl⟩ : ∃ m, n = m + 1 := ⟨n - 1, by omega⟩
  simp [Builtin.clear_, run_underlying ht, hv, hzc, hst, splice]
theorem WL.clearTail {α : Type} {E : Enc α} {by_ : Nat} {t e e' : TypeId} {x : Operand} {v v' : Value} {l : List α} {o : OB} {n : Nat} {ti : TI} (hs : Row E by_ e' G v l o) (hT : TailV v v' o n) (h1 : E.n = 1) (hS : St w0 X G0 G L w) (i : Nat) (hi : L[i]? = some o)
    (z : Value) (y : α) (hu : P.underlying t = some (.slice e)) (ht : tinfo P e = some ti) (hz : ti.zero = z) (hzc : z.cells = #[z]) (hz1 : z.oneCell' = true) (hy : E.rep G y [z])
    (hw : Region.wanted ⟨none, .call ⟨.builtin .clear, #[x], #[t]⟩, ty, pos, af, g⟩ (yieldE ops ρ) = true) (hx : ev ρ x = v')
    (k : ∀ o' w', Row E by_ e' G v (l.take n ++ List.replicate (l.length - n) y) o' → St w0 X G0 G (L.set i o') w' → K ρ w') : OW P ops ⟨none, .call ⟨.builtin .clear, #[x], #[t]⟩, ty, pos, af, g⟩ ρ w K := by
  obtain ⟨b, e2, cs, len, cap, rfl, rfl, hlt, rfl⟩ := hT
  rcases hs with ⟨h0, _⟩ | ⟨b2, cs2, cap2, xs, h0, h00, h3, h4, h5, h6, h7, h8, h9⟩
  · cases h0
  · simp only [Option.some.injEq, Prod.mk.injEq] at h0
    obtain ⟨rfl, rfl, rfl⟩ := h0
    simp only [Value.slice.injEq] at h00
    obtain ⟨_, rfl, rfl⟩ := h00
    rw [h1] at h5 h7
    have hg := hS.get i hi
    have hrun := run_clearT (P := P) w t e _ ty z hu (fun w => by rw [run_zeroValue' ht, hz]) hzc hz1 (b := b) (o := n) (n := l.length - n) (c := cap - n) (by omega) hg (by omega)
    have hS' := hS.write i hi (splice cs n (List.replicate (l.length - n) z)) (w' := w.setRow b (splice cs n (List.replicate (l.length - n) z)).toArray) rfl rfl rfl (Nat.le_refl _) (by simp) (setRow_heap w b cs.toArray _ _ _ hg) (fun k hk => setRow_other w b k _ hk)
    refine WL.valN (v := .tuple #[]) hw (by simp [execOp, resolve, invoke, builtin, hx, hrun, Result.andThen]) rfl (k _ _ (.inr ⟨b, _, cap, _, rfl, ?_, ?_, h4, ?_, (h6.takeF n).append (flat_rep hy (l.length - n)), ?_, ?_, ?_⟩) hS')
    · simp; omega
    · simp; omega
    · simp only [splice, List.length_append, List.length_take, List.length_drop, List.length_replicate, h1]; omega
    · have hxl : xs.length = l.length := by rw [h6.len, h1, Nat.mul_one]
      have e0 : (l.take n ++ List.replicate (l.length - n) y).length * E.n = l.length := by rw [h1]; simp; omega
      rw [e0, h1, Nat.mul_one]
      simp only [splice]
      have e1 : cs.take n = xs.take n := by rw [← h7, List.take_take]; congr 1; omega
      rw [List.take_append_of_le_length (by simp; omega), List.take_of_length_le (by simp; omega), e1]
    · have : (l.take n ++ List.replicate (l.length - n) y).length = l.length := by simp; omega
      rw [this]; exact h8
    · have : (l.take n ++ List.replicate (l.length - n) y).length = l.length := by simp; omega
      rw [this]; exact h9
end
end Go.Civ
