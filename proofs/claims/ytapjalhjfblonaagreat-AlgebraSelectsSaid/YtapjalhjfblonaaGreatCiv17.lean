/- Results in cells, arrays by their addresses, rows that come back under another name. -/
import Derived.Test.YtapjalhjfblonaaGreatCiv12
namespace Go.Civ
open Go.RowKit
set_option linter.unusedVariables false

def resR (P : Program) : List ResultVar → Env → World → List Value → Prop
  | [], _, _, vs => vs = []
  | .tmp t :: r, ρ, w, vs => ∃ vs', vs = ρ t :: vs' ∧ resR P r ρ w vs'
  | .cell a t :: r, ρ, w, vs => ∃ v vs' p, vs = v :: vs' ∧ ρ a = .pointer (some p) ∧ (loadVar t p).run P w = .ok v w ∧ resR P r ρ w vs'
def tup : List Value → Value
  | [v] => v
  | vs => .tuple vs.toArray
def retR (P : Program) (rs : List ResultVar) (R : Ending → World → Prop) : Exit → Env → World → Prop
  | .normal, ρ, w | .ret, ρ, w => ∃ vs, resR P rs ρ w vs ∧ R (.returned (tup vs)) w
  | _, _, _ => False
section
variable {P : Program} {N : Nat} {Q : Exit → Env → World → Prop} {ρ : Env} {w : World}
theorem resR_run (rs : List ResultVar) (tmps : Array Value) {vs : List Value} (h : ∀ t, tmps.getD t undef = ρ t) (hv : resR P rs ρ w vs) :
    (rs.mapM (rv tmps)).run P w = .ok vs w := by
  induction rs generalizing vs with
  | nil => simp only [resR] at hv; subst hv; simp
  | cons r rs ih =>
    cases r with
    | tmp t =>
      obtain ⟨vs', rfl, h1⟩ := hv
      have := ih h1
      simp only [List.mapM_cons]
      simp only [Sem.run_bind, this, Result.andThen, Sem.run_pure, rv, h]
    | cell a t =>
      obtain ⟨v, vs', p, rfl, h1, h2, h3⟩ := hv
      have := ih h3
      simp only [List.mapM_cons]
      simp only [Sem.run_bind, this, Result.andThen, Sem.run_pure, rv, h, h1, asAddr, h2]
theorem resultsR_run {fn : Func} {a : Act} {vs : List Value} (ha : Fits N a ρ) (hv : resR P fn.results.toList ρ w vs) : (results fn a.tmps).run P w = .ok (tup vs) w := by
  have h := resR_run fn.results.toList a.tmps ha.get hv
  rw [results_rv, Array.mapM_eq_mapM_toList, Sem.run_bind, Sem.run_map, h]
  match vs with
  | [] => simp [Result.andThen, tup]
  | [x] => simp [Result.andThen, tup]
  | x :: y :: z => simp [Result.andThen, tup]
theorem calls_of_WCR {f : FuncId} {fn : Func} {c : Code} {args : Array Value} {R : Ending → World → Prop}
    (hf : P.funcs[f]? = some fn) (hb : fn.body = some c) (hN : fn.ntmps = N) (hle : Nat.ble args.size N = true)
    (h : WC P N c (retR P fn.results.toList R) (fun t => args.getD t undef) w) : Calls P f args w R := by
  refine calls_of_wp hf hb ?_
  have hle' : args.size ≤ N := by simpa using hle
  have ha : Fits N { tmps := args ++ Array.replicate (fn.ntmps - args.size) undef, defers := [] } (fun t => args.getD t undef) := by
    refine ⟨by simp [hN]; omega, fun t => ?_, rfl⟩
    simp only [Array.getD_eq_getD_getElem?, Array.getElem?_append, Array.getElem?_replicate, hN]
    split
    · rfl
    · rename_i hlt
      rw [Array.getElem?_eq_none (xs := args) (by omega)]
      split <;> rfl
  refine wp_mono (h _ ha) ?_
  rintro e a' w' ⟨ρ', hf', hq⟩
  cases e with
  | normal => obtain ⟨v, hv, hR⟩ := hq; exact ⟨hf'.defers, _, resultsR_run hf' hv, hR⟩
  | ret => obtain ⟨v, hv, hR⟩ := hq; exact ⟨hf'.defers, _, resultsR_run hf' hv, hR⟩
  | exit id => exact hq.elim
  | goto l => exact hq.elim
  | panic ch => exact hq.elim
  | outgrown => exact hq.elim
end
section
variable {P : Program} {w0 w w' : World} {X : List Nat} {G0 G G' : GH} {L : Own} {o : OB}
/-- A struct out of an owned block. -/
theorem St.loadA {t : TypeId} {ti : TI} (hS : St w0 X G0 G L w) (i : Nat) (b : Nat) (e : TypeId) (cs : List Value) (off : Nat) (vs : List Value) (hi : L[i]? = some (some (b, e, cs))) (hv : (cs.drop off).take ti.size = vs) (hn : vs.length = ti.size)
    (ht : tinfo P t = some ti) (ha : ti.agg = true) : (loadVar t ⟨b, off, none⟩).run P w = .ok (.agg vs.toArray) w := by
  have hc : ∀ (j : Nat) v, vs[j]? = some v → w.cell? ((⟨b, off, none⟩ : Addr).add j) = some v := fun j v h => by
    rw [addr_add _ _ rfl]
    refine hS.cell i hi ?_
    subst hv
    rw [List.getElem?_take] at h
    split at h
    · rwa [List.getElem?_drop] at h
    · cases h
  simp [loadVar, run_isAgg' ht, ha, run_sizeOf' ht, run_loadCells' hn hc, Result.andThen]
theorem St.loadC {t : TypeId} {ti : TI} {p : Addr} {cs : List Value} (hS : St w0 X G0 G L w) (hc : Cells G p cs) (ht : tinfo P t = some ti) (ha : ti.agg = true) (hn : cs.length = ti.size) : (loadVar t p).run P w = .ok (.agg cs.toArray) w := by
  simp [loadVar, run_isAgg' ht, ha, run_sizeOf' ht, run_loadCells' hn (fun _ _ h => hc.cell hS.imm h), Result.andThen]
theorem St.sealAt {b : Nat} {e : TypeId} {cs : List Value} (h : St w0 X G0 G L w) (i : Nat) (hi : L[i]? = some (some (b, e, cs))) (hb : w0.heap.size ≤ b) : ∃ G', G.le G' ∧ Cells G' ⟨b, 0, none⟩ cs ∧ St w0 X G0 G' (L.set i none) w := by
  have f := h.freeze i (b := b) (e := e) (cs := cs) hi hb
  have hG : G b = none := (h.sep i _ hi).2
  exact ⟨_, G.add_le _ hG, ⟨rfl, _, _, _, GH.add_at _ _ _, fun j v hv => by simpa using hv⟩, f⟩
theorem St.sealSlAt {α : Type} {E : Enc α} {by_ : Nat} {l : List α} {b : Nat} {e : TypeId} {cs : List Value} (h : St w0 X G0 G L w) (i : Nat) (hi : L[i]? = some (some (b, e, cs))) (hb : w0.heap.size ≤ b) (hf : Flat E G l cs) {n : Nat} (hn : n = l.length) (hby : n * by_ ≤ reach) (hlen : n ≤ reach) :
    ∃ G', G.le G' ∧ Sl E by_ G' (.slice (some ⟨b, 0, none⟩) n n) l ∧ St w0 X G0 G' (L.set i none) w := by
  obtain ⟨G', h1, h2, h3⟩ := h.sealAt i hi hb
  subst hn
  refine ⟨G', h1, ⟨some ⟨b, 0, none⟩, l.length, rfl, Nat.le_refl _, hby, hlen, fun i x hx => ⟨_, rfl, rfl, ?_⟩⟩, h3⟩
  exact (hf.mono h1).rows h2 i x hx
/-- Behind a call that was lent a row and hands it back, perhaps cut. -/
theorem St.callRowR (h : St w0 X G0 G L w) (i : Nat) (hi : L[i]? = some o) {o' : OB} (r : Res (blk o) w G w' G') {α : Type} {E : Enc α} {by_ : Nat} {e : TypeId} {v v' : Value} {l l' : List α}
    (h1 : Row E by_ e G v l o) (h2 : Row E by_ e G' v' l' o') (hl : Lent w' G' o') (hb : blk o' = blk o) : St w0 X G0 G' (L.set i o') w' := by
  cases o with
  | none =>
    cases o' with
    | none => exact (h.call r).drop i
    | some p => simp [blk] at hb
  | some p =>
    cases o' with
    | none => simp [blk] at hb
    | some q =>
      obtain ⟨b, e1, cs⟩ := p
      obtain ⟨b', e2, cs'⟩ := q
      simp [blk] at hb
      subst hb
      have e1e : e1 = e := by rcases h1 with ⟨h0, _⟩ | ⟨_, _, _, _, h0, _⟩ <;> simp at h0; exact h0.2.1
      have e2e : e2 = e := by rcases h2 with ⟨h0, _⟩ | ⟨_, _, _, _, h0, _⟩ <;> simp at h0; exact h0.2.1
      subst e1e; subst e2e
      exact h.callX i hi cs' r (hl _ rfl).1
end
section
variable {P : Program} {Q : Exit → Env → World → Prop} {ρ : Env} {w : World} {ops : Array Oper} {rest : List Oper}
variable {d : Nat} {ty : TypeId} {pos : String} {af : Array Edge} {g : Option (Nat × Bool)}
/-- An element of an array, by the array's address. -/
theorem WL.indexAddrA {t e : TypeId} {x ix : Operand} {ti : TI} (p : Addr) (m n : Nat) (hlt : Nat.blt n m = true) (hu : P.underlying t = some (.array m e)) (ht : tinfo P e = some ti)
    (hw : Region.wanted ⟨some d, .indexAddr t x ix, ty, pos, af, g⟩ (yieldE ops ρ) = true) (hx : ev ρ x = .pointer (some p)) (hi : ev ρ ix = .int .i64 (n : Int))
    (k : WL P ops Q rest (upd ρ d (.pointer (some (p.add (n * ti.size))))) w) : WL P ops Q (⟨some d, .indexAddr t x ix, ty, pos, af, g⟩ :: rest) ρ w := by
  have hlt' : n < m := by simpa using hlt
  refine WL.val hw ?_ rfl k
  simp [execOp, Instr.indexAt, hi, hx, asIntOf, underlying_run hu, Instr.sureAddr, run_sizeOf' ht, Result.andThen]
  rw [if_pos (by omega)]
theorem WL.buildArr {t e : TypeId} {m : Nat} {parts : Array (Nat × Operand)} {ti te : TI} (ps : List (Nat × Value)) (pc : List (Nat × List Value)) (cs : List Value) (ht : tinfo P t = some ti) (hu : P.underlying t = some (.array m e)) (he : tinfo P e = some te)
    (hw : Region.wanted ⟨some d, .build t parts, ty, pos, af, g⟩ (yieldE ops ρ) = true) (hps : parts.toList.map (fun q => (q.1, ev ρ q.2)) = ps) (hpc : ps.map (fun q => (q.1, q.2.cells.toList)) = pc) (hfill : fillL (rowLay m te.size) pc ti.zero.cells.toList = some cs)
    (k : WL P ops Q rest (upd ρ d (.agg cs.toArray)) w) : WL P ops Q (⟨some d, .build t parts, ty, pos, af, g⟩ :: rest) ρ w := by
  refine WL.val hw ?_ rfl k
  subst hpc
  have hf : Instr.fill (fun i => some (i * te.size, te.size)) ti.zero.cells ps = some cs.toArray := fill_row te.size m ps ti.zero.cells cs hfill
  have hpe : (parts.map fun x => (x.1, ev ρ x.2)).toList = ps := by simpa using hps
  simp only [execOp, Sem.run_bind, Instr.build, run_zeroValue' ht, underlying_run hu, Result.andThen, run_sizeOf' he, hpe, hf, Sem.run_pure]
end
end Go.Civ
