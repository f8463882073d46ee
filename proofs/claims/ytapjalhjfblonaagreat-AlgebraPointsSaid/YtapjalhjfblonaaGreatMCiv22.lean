/- Results in cells, arrays by their addresses, rows that come back under another name. -/
import Derived.Test.YtapjalhjfblonaaGreatMCiv12
import Derived.Laws.Slices
import Derived.Laws.Small
namespace Go.Civ
open Go.RowKit
set_option linter.unusedVariables false

def resR (P : Program) : List ResultVar → Env → World → List Value → Prop
  | [], _, _, vs => vs = []
  | .tmp t :: r, ρ, w, vs => ∃ vs', vs = ρ t :: vs' ∧ resR P r ρ w vs'
  | .cell a t :: r, ρ, w, vs => ∃ v vs' p, vs = v :: vs' ∧ ρ a = .pointer (some p) ∧ (loadVar t p).run P w = .ok v w ∧ resR P r ρ w vs'
def tup : List Value → Value
  | [v] => v
  | vs => .tuple vs.toArray
def retR (P : Program) (rs : List ResultVar) (R : Ending → World → Prop) : Exit → Env → World → Prop
  | .normal, ρ, w | .ret, ρ, w => ∃ vs, resR P rs ρ w vs ∧ R (.returned (tup vs)) w
  | _, _, _ => False
section
variable {P : Program} {N : Nat} {Q : Exit → Env → World → Prop} {ρ : Env} {w : World}
theorem resR_run (rs : List ResultVar) (tmps : Array Value) {vs : List Value} (h : ∀ t, tmps.getD t undef = ρ t) (hv : resR P rs ρ w vs) :
    (rs.mapM (rv tmps)).run P w = .ok vs w := by
  induction rs generalizing vs with
  | nil => simp only [resR] at hv; subst hv; simp
  | cons r rs ih =>
    cases r with
    | tmp t =>
      obtain ⟨vs', rfl, h1⟩ := hv
      have := ih h1
      simp only [List.mapM_cons]
      simp only [Sem.run_bind, this, Result.andThen, Sem.run_pure, rv, h]
    | cell a t =>
      obtain ⟨v, vs', p, rfl, h1, h2, h3⟩ := hv
      have := ih h3
      simp only [List.mapM_cons]
      simp only [Sem.run_bind, this, Result.andThen, Sem.run_pure, rv, h, h1, asAddr, h2]
theorem resultsR_run {fn : Func} {a : Act} {vs : List Value} (ha : Fits N a ρ) (hv : resR P fn.results.toList ρ w vs) : (results fn a.tmps).run P w = .ok (tup vs) w := by
  have h := resR_run fn.results.toList a.tmps ha.get hv
  rw [results_rv, Array.mapM_eq_mapM_toList, Sem.run_bind, Sem.run_map, h]
  match vs with
  | [] => simp [Result.andThen, tup]
  | [x] => simp [Result.andThen, tup]
  | x :: y :: z => simp [Result.andThen, tup]
theorem calls_of_WCR {f : FuncId} {fn : Func} {c : Code} {args : Array Value} {R : Ending → World → Prop}
    (hf : P.funcs[f]? = some fn) (hb : fn.body = some c) (hN : fn.ntmps = N) (hle : Nat.ble args.size N = true)
    (h : WC P N c (retR P fn.results.toList R) (fun t => args.getD t undef) w) : Calls P f args w R := by
  refine calls_of_wp hf hb ?_
  have hle' : args.size ≤ N := by simpa using hle
  have ha : Fits N { tmps := args ++ Array.replicate (fn.ntmps - args.size) undef, defers := [] } (fun t => args.getD t undef) := by
    refine ⟨by simp [hN]; omega, fun t => ?_, rfl⟩
    simp only [Array.getD_eq_getD_getElem?, Array.getElem?_append, Array.getElem?_replicate, hN]
    split
    · rfl
    · rename_i hlt
      rw [Array.getElem?_eq_none (xs := args) (by omega)]
      split <;> rfl
  refine wp_mono (h _ ha) ?_
  rintro e a' w' ⟨ρ', hf', hq⟩
  cases e with
  | normal => obtain ⟨v, hv, hR⟩ := hq; exact ⟨hf'.defers, _, resultsR_run hf' hv, hR⟩
  | ret => obtain ⟨v, hv, hR⟩ := hq; exact ⟨hf'.defers, _, resultsR_run hf' hv, hR⟩
  | exit id => exact hq.elim
  | goto l => exact hq.elim
  | panic ch => exact hq.elim
  | outgrown => exact hq.elim
structure RQR (P : Program) (rs : List ResultVar) (R : Ending → World → Prop) (ρ : Env) (w : World) : Prop where
  h : ∃ vs, resR P rs ρ w vs ∧ R (.returned (tup vs)) w
def retGR (P : Program) (rs : List ResultVar) (R : Ending → World → Prop) : Exit → Env → World → Prop
  | .normal, ρ, w => RQR P rs R ρ w
  | .ret, ρ, w => RQR P rs R ρ w
  | _, _, _ => False
theorem calls_of_goR {f : FuncId} {fn : Func} {c : Code} {args : Array Value} {R : Ending → World → Prop} (F : FTab P) (J : List Nat)
    (hf : P.funcs[f]? = some fn) (hb : fn.body = some c) (hle : Nat.ble args.size fn.ntmps = true)
    (h : goC F fn.ntmps J c (retGR P fn.results.toList R) (fun t => args.getD t undef) w) (hok : okD fn.ntmps c = true := by kernel_rfl) : Calls P f args w R := by
  refine calls_of_WCR (N := fn.ntmps) hf hb rfl hle ((goC.ok hok h).mono fun e ρ w hq => ?_)
  cases e with
  | normal => exact hq.h
  | ret => exact hq.h
  | _ => exact hq.elim
theorem RTR {rs : List ResultVar} {w0 : World} {X : List Nat} {G0 G : GH} {L : Own} {B : GH → World → Value → Prop} (vs : List Value) (hS : St w0 X G0 G L w) (hv : resR P rs ρ w vs) (hB : B G w (tup vs)) :
    RQR P rs (fun e w' => ∃ r G', e = .returned r ∧ Res X w0 G0 w' G' ∧ B G' w' r) ρ w := ⟨vs, hv, _, G, rfl, hS.res, hB⟩
end
section
variable {P : Program} {w0 w w' : World} {X : List Nat} {G0 G G' : GH} {L : Own} {o : OB}
/-- A struct out of an owned block. -/
theorem St.loadA {t : TypeId} {ti : TI} (hS : St w0 X G0 G L w) (i : Nat) (b : Nat) (e : TypeId) (cs : List Value) (off : Nat) (vs : List Value) (hi : L[i]? = some (some (b, e, cs))) (hv : (cs.drop off).take ti.size = vs) (hn : vs.length = ti.size)
    (ht : tinfo P t = some ti) (ha : ti.agg = true) : (loadVar t ⟨b, off, none⟩).run P w = .ok (.agg vs.toArray) w := by
  have hc : ∀ (j : Nat) v, vs[j]? = some v → w.cell? ((⟨b, off, none⟩ : Addr).add j) = some v := fun j v h => by
    rw [addr_add _ _ rfl]
    refine hS.cell i hi ?_
    subst hv
    rw [List.getElem?_take] at h
    split at h
    · rwa [List.getElem?_drop] at h
    · cases h
  simp [loadVar, run_isAgg' ht, ha, run_sizeOf' ht, run_loadCells' hn hc, Result.andThen]
theorem St.loadC {t : TypeId} {ti : TI} {p : Addr} {cs : List Value} (hS : St w0 X G0 G L w) (hc : Cells G p cs) (ht : tinfo P t = some ti) (ha : ti.agg = true) (hn : cs.length = ti.size) : (loadVar t p).run P w = .ok (.agg cs.toArray) w := by
  simp [loadVar, run_isAgg' ht, ha, run_sizeOf' ht, run_loadCells' hn (fun _ _ h => hc.cell hS.imm h), Result.andThen]
theorem St.sealAt {b : Nat} {e : TypeId} {cs : List Value} (h : St w0 X G0 G L w) (i : Nat) (hi : L[i]? = some (some (b, e, cs))) (hb : w0.heap.size ≤ b) : ∃ G', G.le G' ∧ Cells G' ⟨b, 0, none⟩ cs ∧ St w0 X G0 G' (L.set i none) w := by
  have f := h.freeze i (b := b) (e := e) (cs := cs) hi hb
  have hG : G b = none := (h.sep i _ hi).2
  exact ⟨_, G.add_le _ hG, ⟨rfl, _, _, _, GH.add_at _ _ _, fun j v hv => by simpa using hv⟩, f⟩
theorem St.sealSlAt {α : Type} {E : Enc α} {by_ : Nat} {l : List α} {b : Nat} {e : TypeId} {cs : List Value} (h : St w0 X G0 G L w) (i : Nat) (hi : L[i]? = some (some (b, e, cs))) (hb : w0.heap.size ≤ b) (hf : Flat E G l cs) {n : Nat} (hn : n = l.length) (hby : n * by_ ≤ reach) (hlen : n ≤ reach) :
    ∃ G', G.le G' ∧ Sl E by_ G' (.slice (some ⟨b, 0, none⟩) n n) l ∧ St w0 X G0 G' (L.set i none) w := by
  obtain ⟨G', h1, h2, h3⟩ := h.sealAt i hi hb
  subst hn
  refine ⟨G', h1, ⟨some ⟨b, 0, none⟩, l.length, rfl, Nat.le_refl _, hby, hlen, fun i x hx => ⟨_, rfl, rfl, ?_⟩⟩, h3⟩
  exact (hf.mono h1).rows h2 i x hx
/-- Behind a call that was lent a row and hands it back, perhaps cut. -/
theorem St.callRowR (h : St w0 X G0 G L w) (i : Nat) (hi : L[i]? = some o) {o' : OB} (r : Res (blk o) w G w' G') {α : Type} {E : Enc α} {by_ : Nat} {e : TypeId} {v v' : Value} {l l' : List α}
    (h1 : Row E by_ e G v l o) (h2 : Row E by_ e G' v' l' o') (hl : Lent w' G' o') (hb : blk o' = blk o) : St w0 X G0 G' (L.set i o') w' := by
  cases o with
  | none =>
    cases o' with
    | none => exact (h.call r).drop i
    | some p => simp [blk] at hb
  | some p =>
    cases o' with
    | none => simp [blk] at hb
    | some q =>
      obtain ⟨b, e1, cs⟩ := p
      obtain ⟨b', e2, cs'⟩ := q
      simp [blk] at hb
      subst hb
      have e1e : e1 = e := by rcases h1 with ⟨h0, _⟩ | ⟨_, _, _, _, h0, _⟩ <;> simp at h0; exact h0.2.1
      have e2e : e2 = e := by rcases h2 with ⟨h0, _⟩ | ⟨_, _, _, _, h0, _⟩ <;> simp at h0; exact h0.2.1
      subst e1e; subst e2e
      exact h.callX i hi cs' r (hl _ rfl).1
end
section
variable {P : Program} {Q : Exit → Env → World → Prop} {ρ : Env} {w : World} {ops : Array Oper} {rest : List Oper} {K : Env → World → Prop}
variable {d : Nat} {ty : TypeId} {pos : String} {af : Array Edge} {g : Option (Nat × Bool)}
/-- An element of an array, by the array's address. -/
theorem WL.indexAddrA {t e : TypeId} {x ix : Operand} {ti : TI} (p : Addr) (m n : Nat) (hlt : Nat.blt n m = true) (hu : P.underlying t = some (.array m e)) (ht : tinfo P e = some ti)
    (hw : Region.wanted ⟨some d, .indexAddr t x ix, ty, pos, af, g⟩ (yieldE ops ρ) = true) (hx : ev ρ x = .pointer (some p)) (hi : ev ρ ix = .int .i64 (n : Int))
    (k : K (upd ρ d (.pointer (some (p.add (n * ti.size))))) w) : OW P ops ⟨some d, .indexAddr t x ix, ty, pos, af, g⟩ ρ w K := by
  have hlt' : n < m := by simpa using hlt
  refine WL.val hw ?_ rfl k
  simp [execOp, Instr.indexAt, hi, hx, asIntOf, underlying_run hu, Instr.sureAddr, run_sizeOf' ht, Result.andThen]
  rw [if_pos (by omega)]
theorem WL.buildArr {t e : TypeId} {m : Nat} {parts : Array (Nat × Operand)} {ti te : TI} (ps : List (Nat × Value)) (pc : List (Nat × List Value)) (cs : List Value) (ht : tinfo P t = some ti) (hu : P.underlying t = some (.array m e)) (he : tinfo P e = some te)
    (hw : Region.wanted ⟨some d, .build t parts, ty, pos, af, g⟩ (yieldE ops ρ) = true) (hps : parts.toList.map (fun q => (q.1, ev ρ q.2)) = ps) (hpc : ps.map (fun q => (q.1, q.2.cells.toList)) = pc) (hfill : fillL (rowLay m te.size) pc ti.zero.cells.toList = some cs)
    (k : K (upd ρ d (.agg cs.toArray)) w) : OW P ops ⟨some d, .build t parts, ty, pos, af, g⟩ ρ w K := by
  refine WL.val hw ?_ rfl k
  subst hpc
  have hf : Instr.fill (fun i => some (i * te.size, te.size)) ti.zero.cells ps = some cs.toArray := fill_row te.size m ps ti.zero.cells cs hfill
  have hpe : (parts.map fun x => (x.1, ev ρ x.2)).toList = ps := by simpa using hps
  simp only [execOp, Sem.run_bind, Instr.build, run_zeroValue' ht, underlying_run hu, Result.andThen, run_sizeOf' he, hpe, hf, Sem.run_pure]
end
end Go.Civ
namespace Go.Civ
open Go.RowKit
set_option linter.unusedVariables false

theorem Sl.takeV {α : Type} {E : Enc α} {by_ : Nat} {G : GH} {a : Option Addr} {n len cap : Nat} {l : List α} (h : Sl E by_ G (.slice a len cap) l) (hn : n ≤ l.length) : Sl E by_ G (sliced a 0 n cap E.n) (l.take n) := by
  obtain ⟨a', cap', e, h2, h3, h4, h5⟩ := h
  simp only [Value.slice.injEq] at e
  obtain ⟨rfl, rfl, rfl⟩ := e
  have hl : (l.take n).length = n := by rw [List.length_take]; omega
  have ev : sliced a 0 n cap E.n = .slice a n cap := by
    unfold sliced
    cases a <;> simp [Addr.add]
  rw [ev]
  refine ⟨a, cap, by rw [hl], by omega, ?_, by omega, fun i x hx => ?_⟩
  · rw [hl]; exact Nat.le_trans (Nat.mul_le_mul_right _ hn) h3
  · rw [List.getElem?_take] at hx
    split at hx
    · exact h5 i x hx
    · cases hx
theorem Sl.dropV {α : Type} {E : Enc α} {by_ : Nat} {G : GH} {a : Option Addr} {n len cap : Nat} {l : List α} (h : Sl E by_ G (.slice a len cap) l) (hn : n ≤ l.length) : Sl E by_ G (sliced a n len cap E.n) (l.drop n) := by
  obtain ⟨a', cap', e, h2, h3, h4, h5⟩ := h
  simp only [Value.slice.injEq] at e
  obtain ⟨rfl, rfl, rfl⟩ := e
  have hl : (l.drop n).length = l.length - n := by rw [List.length_drop]
  unfold sliced
  by_cases hc : cap = n
  · rw [if_pos hc]
    refine ⟨a, cap - n, by rw [hl], by omega, ?_, by omega, fun i x hx => ?_⟩
    · rw [hl]; exact Nat.le_trans (Nat.mul_le_mul_right _ (by omega)) h3
    · have := (List.getElem?_eq_some_iff.1 hx).1
      rw [hl] at this; omega
  · rw [if_neg hc]
    refine ⟨a.map fun p => p.add (n * E.n), cap - n, by rw [hl], by omega, ?_, by omega, fun i x hx => ?_⟩
    · rw [hl]; exact Nat.le_trans (Nat.mul_le_mul_right _ (by omega)) h3
    · rw [List.getElem?_drop] at hx
      obtain ⟨p, rfl, hp, hel⟩ := h5 (n + i) x hx
      refine ⟨p.add (n * E.n), rfl, by rw [addr_add _ _ hp], ?_⟩
      have e1 : (p.add (n * E.n)).add (i * E.n) = p.add ((n + i) * E.n) := by
        rw [addr_add _ _ (by rw [addr_add _ _ hp]), addr_add _ _ hp, addr_add _ _ hp, Nat.add_mul, Nat.add_assoc]
      rw [e1]; exact hel

section
variable {P : Program} {Q : Exit → Env → World → Prop} {ρ : Env} {w : World} {ops : Array Oper} {rest : List Oper} {K : Env → World → Prop}
variable {d : Nat} {ty : TypeId} {pos : String} {af : Array Edge} {g : Option (Nat × Bool)} {G : GH}
theorem elem_of {t e : TypeId} (hu : P.underlying t = some (.slice e)) : P.elem t = e := by simp [Program.elem, hu]
theorem WL.sliceHi {α : Type} {E : Enc α} {by_ : Nat} {t e : TypeId} {x hi : Operand} {v : Value} {l : List α} {ti : TI} (hs : Sl E by_ G v l) (n : Nat) (hn : n ≤ l.length) (hu : P.underlying t = some (.slice e)) (ht : tinfo P e = some ti) (hE : ti.size = E.n)
    (hw : Region.wanted ⟨some d, .slice t x none (some hi) none, ty, pos, af, g⟩ (yieldE ops ρ) = true) (hx : ev ρ x = v) (hh : ev ρ hi = .int .i64 (n : Int))
    (k : ∀ v', Sl E by_ G v' (l.take n) → K (upd ρ d v') w) : OW P ops ⟨some d, .slice t x none (some hi) none, ty, pos, af, g⟩ ρ w K := by
  obtain ⟨a, cap, rfl, h2, _⟩ := id hs
  have he := elem_of hu
  have hu' : P.underlying t = some (.slice (P.elem t)) := by rw [he]; exact hu
  have run : (Instr.sliceAt t (.slice a l.length cap) none (some (.int .i64 (n : Int))) none).run P w = .ok (sliced a 0 n cap E.n) w := by
    rw [run_sliceAt_slice w t _ _ _ _ hu', run_slice_h w t a l.length cap hu' .i64 (n : Int) (by omega) (by omega), he, run_sizeOf' ht, hE]; rfl
  refine WL.val hw ?_ rfl (k _ (hs.takeV hn))
  simp [execOp, hx, hh, run, Result.andThen]
theorem WL.sliceLo {α : Type} {E : Enc α} {by_ : Nat} {t e : TypeId} {x lo : Operand} {v : Value} {l : List α} {ti : TI} (hs : Sl E by_ G v l) (n : Nat) (hn : n ≤ l.length) (hu : P.underlying t = some (.slice e)) (ht : tinfo P e = some ti) (hE : ti.size = E.n)
    (hw : Region.wanted ⟨some d, .slice t x (some lo) none none, ty, pos, af, g⟩ (yieldE ops ρ) = true) (hx : ev ρ x = v) (hh : ev ρ lo = .int .i64 (n : Int))
    (k : ∀ v', Sl E by_ G v' (l.drop n) → K (upd ρ d v') w) : OW P ops ⟨some d, .slice t x (some lo) none none, ty, pos, af, g⟩ ρ w K := by
  obtain ⟨a, cap, rfl, h2, _⟩ := id hs
  have he := elem_of hu
  have hu' : P.underlying t = some (.slice (P.elem t)) := by rw [he]; exact hu
  have run : (Instr.sliceAt t (.slice a l.length cap) (some (.int .i64 (n : Int))) none none).run P w = .ok (sliced a n l.length cap E.n) w := by
    rw [run_sliceAt_slice w t _ _ _ _ hu', run_slice_l w t a l.length cap hu' .i64 (n : Int) (by omega) (by omega), he, run_sizeOf' ht, hE]; rfl
  refine WL.val hw ?_ rfl (k _ (hs.dropV hn))
  simp [execOp, hx, hh, run, Result.andThen]
theorem run_guard_bool (op : BinOp) (t : TypeId) (x y : Operand) (a b : Bool) : (eqGuard op t x y (.bool a) (.bool b)).run P w = .ok () w := by
  unfold eqGuard; split <;> simp
theorem WL.boolEq {t ty' : TypeId} {x y : Operand} (a b : Bool) (hu : P.underlying t = some .bool)
    (hw : Region.wanted ⟨some d, .binOp .eql t x y ty', ty, pos, af, g⟩ (yieldE ops ρ) = true) (hx : ev ρ x = .bool a) (hy : ev ρ y = .bool b)
    (kk : K (upd ρ d (.bool (a == b))) w) : OW P ops ⟨some d, .binOp .eql t x y ty', ty, pos, af, g⟩ ρ w K := by
  refine WL.val hw ?_ rfl kk
  simp [execOp, hx, hy, run_guard_bool, run_eql_bool w t a b hu, Result.andThen]
theorem WL.boolNe {t ty' : TypeId} {x y : Operand} (a b : Bool) (hu : P.underlying t = some .bool)
    (hw : Region.wanted ⟨some d, .binOp .neq t x y ty', ty, pos, af, g⟩ (yieldE ops ρ) = true) (hx : ev ρ x = .bool a) (hy : ev ρ y = .bool b)
    (kk : K (upd ρ d (.bool (!(a == b)))) w) : OW P ops ⟨some d, .binOp .neq t x y ty', ty, pos, af, g⟩ ρ w K := by
  refine WL.val hw ?_ rfl kk
  simp [execOp, hx, hy, run_guard_bool, run_neq_bool w t a b hu, Result.andThen]
end
section
variable {w0 w w' : World} {X : List Nat} {G0 G G' : GH} {L : Own} {o o' : OB}
/-- What has become of a row that was lent: it lies in its block, or in a new one. -/
def RowOut (w w' : World) (G' : GH) (o o' : OB) : Prop := ∀ p, o' = some p → (w.heap.size ≤ p.1 ∨ p.1 ∈ blk o) ∧ w'.heap[p.1]? = some (objOf p.2) ∧ G' p.1 = none
theorem St.rowOut (h : St w0 (blk o) G0 G L w) (i : Nat) (hi : L[i]? = some o') : RowOut w0 w G o o' := fun p hp => by
  subst hp; exact ⟨(h.sep i p hi).1, h.own i p hi, (h.sep i p hi).2⟩
theorem St.callRowO (h : St w0 X G0 G L w) (i : Nat) (hi : L[i]? = some o) (r : Res (blk o) w G w' G') (ho : RowOut w w' G' o o') : St w0 X G0 G' (L.set i o') w' := by
  have hil : i < L.length := (List.getElem?_eq_some_iff.1 hi).1
  have inb : ∀ b, b ∈ blk o → ∃ p, o = some p ∧ p.1 = b := fun b hb => by
    cases o with
    | none => simp [blk] at hb
    | some p => simp [blk] at hb; exact ⟨p, rfl, hb.symm⟩
  have look : ∀ (j : Nat) p, (L.set i o')[j]? = some (some p) → (j = i ∧ o' = some p) ∨ (j ≠ i ∧ L[j]? = some (some p) ∧ p.1 ∉ blk o) := fun j p hj => by
    rw [List.getElem?_set] at hj
    split at hj
    · rename_i hji; subst hji; first | exact .inl ⟨rfl, Option.some.inj hj⟩ | (rw [if_pos hil] at hj; exact .inl ⟨rfl, Option.some.inj hj⟩)
    · rename_i hji
      refine .inr ⟨Ne.symm hji, hj, fun hb => ?_⟩
      obtain ⟨q, rfl, e⟩ := inb _ hb
      exact hji (h.nd _ _ _ _ hi hj e)
  refine ⟨h.kept.step r.kept (fun y hy => ?_), h.le.trans r.le, fun b hb => (r.new b (Nat.lt_of_lt_of_le hb h.kept.size)).trans (h.new b hb), r.imm, fun j p hp => ?_, fun j p hp => ?_, fun j k p q hp hq he => ?_⟩
  · obtain ⟨q, rfl, rfl⟩ := inb _ hy; exact (h.sep _ _ hi).1
  · rcases look j p hp with ⟨rfl, e⟩ | ⟨_, hp, hne⟩
    · exact (ho p e).2.1
    · rw [r.kept.block _ (h.ownLt hp) hne]; exact h.own j p hp
  · rcases look j p hp with ⟨rfl, e⟩ | ⟨_, hp, hne⟩
    · refine ⟨?_, (ho p e).2.2⟩
      rcases (ho p e).1 with k | k
      · exact .inl (Nat.le_trans h.kept.size k)
      · obtain ⟨q, rfl, e2⟩ := inb _ k; rw [← e2]; exact (h.sep _ _ hi).1
    · exact ⟨(h.sep j p hp).1, by rw [r.new _ (h.ownLt hp)]; exact (h.sep j p hp).2⟩
  · rcases look j p hp with ⟨rfl, e⟩ | ⟨_, hp2, hne⟩ <;> rcases look k q hq with ⟨rfl, e2⟩ | ⟨_, hq2, hne'⟩
    · rfl
    · exfalso
      rcases (ho p e).1 with k1 | k1
      · have := h.ownLt hq2; omega
      · rw [he] at k1; exact hne' k1
    · exfalso
      rcases (ho q e2).1 with k1 | k1
      · have := h.ownLt hp2; omega
      · rw [← he] at k1; exact hne k1
    · exact h.nd _ _ _ _ hp2 hq2 he
end
end Go.Civ
