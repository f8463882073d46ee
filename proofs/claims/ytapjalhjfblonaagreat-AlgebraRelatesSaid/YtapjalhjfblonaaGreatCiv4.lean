/- Operations that read or write memory. -/
import Derived.Test.YtapjalhjfblonaaGreatCiv3
import Derived.Laws.Append
import Derived.Laws.Strings
import Derived.Laws.CopyRow
import Derived.Laws.AppendOwn
namespace Go.Civ
open Go.RowKit

/-! ### What the table says of a type -/
structure TI where
  agg : Bool
  size : Nat
  bytes : Nat
  zero : Value
def isSA : TypeDesc → Bool
  | .struct _ | .array _ _ => true
  | _ => false
def tinfo (P : Program) (t : TypeId) : Option TI :=
  match P.underlying t, P.info? t with
  | some ds, some i => match i.zero with
    | some z => some ⟨isSA ds, i.size, i.bytes, z⟩
    | none => none
  | _, _ => none
/-- The fields of a struct: where each begins, how many cells it has. -/
def fieldsOf (P : Program) (t : TypeId) : Option (List (Nat × Nat)) :=
  match P.underlying t with
  | some (.struct fs) => bif fs.toList.all (fun f => (P.info? f.type).isSome) then some (fs.toList.map fun f => (f.offset, P.cellsOf f.type)) else none
  | _ => none
theorem fieldsOf_parts {P : Program} {t : TypeId} {l : List (Nat × Nat)} (h : fieldsOf P t = some l) : ∃ fs, P.underlying t = some (.struct fs) ∧ (∀ f ∈ fs.toList, (P.info? f.type).isSome = true) ∧ l = fs.toList.map fun f => (f.offset, P.cellsOf f.type) := by
  unfold fieldsOf at h
  split at h
  · rename_i fs hu
    cases hb : fs.toList.all (fun f => (P.info? f.type).isSome) with
    | false => rw [hb] at h; cases h
    | true =>
      rw [hb] at h
      exact ⟨fs, hu, fun f hf => by simpa using List.all_eq_true.1 hb f hf, (Option.some.inj h).symm⟩
  · cases h

theorem tinfo_parts {P : Program} {t : TypeId} {x : TI} (h : tinfo P t = some x) : ∃ ds i, P.underlying t = some ds ∧ P.info? t = some i ∧ i.zero = some x.zero ∧ isSA ds = x.agg ∧ i.size = x.size ∧ i.bytes = x.bytes := by
  unfold tinfo at h
  split at h
  · rename_i ds i h1 h2
    split at h
    · rename_i z h3
      obtain rfl := Option.some.inj h
      exact ⟨ds, i, h1, h2, h3, rfl, rfl, rfl⟩
    · cases h
  · cases h
section
variable {P : Program} {w : World} {t : TypeId} {x : TI}
theorem run_isAgg' (h : tinfo P t = some x) : (isAgg t).run P w = .ok x.agg w := by
  obtain ⟨ds, i, h1, _, _, h4, _⟩ := tinfo_parts h
  simp only [isAgg, Sem.run_bind, underlying_run h1, Result.andThen]
  rw [← h4]; cases ds <;> rfl
theorem run_sizeOf' (h : tinfo P t = some x) : (sizeOf t).run P w = .ok x.size w := by
  obtain ⟨ds, i, _, h2, _, _, h5, _⟩ := tinfo_parts h
  simp [sizeOf, typeInfo, h2, h5]
theorem run_zeroValue' (h : tinfo P t = some x) : (zeroValue t).run P w = .ok x.zero w := by
  obtain ⟨ds, i, _, h2, h3, _⟩ := tinfo_parts h
  simp [zeroValue, typeInfo, h2, h3]
end

section
variable {P : Program} {Q : Exit → Env → World → Prop} {ρ : Env} {w : World} {ops : Array Oper} {rest : List Oper}
variable {d : Nat} {ty : TypeId} {pos : String} {af : Array Edge} {g : Option (Nat × Bool)}
variable {w0 : World} {X : List Nat} {G0 G : GH} {L : Own}

/-! ### Addresses -/
theorem WL.fieldAddr {s : TypeId} {x : Operand} {f : Nat} {fs : List (Nat × Nat)} (p : Addr) (off n : Nat) (hf : fieldsOf P s = some fs) (hi : fs[f]? = some (off, n + 1))
    (hw : Region.wanted ⟨some d, .fieldAddr s x f, ty, pos, af, g⟩ (yieldE ops ρ) = true) (hx : ev ρ x = .pointer (some p))
    (k : WL P ops Q rest (upd ρ d (.pointer (some (p.add off)))) w) : WL P ops Q (⟨some d, .fieldAddr s x f, ty, pos, af, g⟩ :: rest) ρ w := by
  refine WL.val hw ?_ rfl k
  obtain ⟨fa, hu, _, rfl⟩ := fieldsOf_parts hf
  rw [List.getElem?_map] at hi
  obtain ⟨fd, hfd, he⟩ := Option.map_eq_some_iff.1 hi
  simp only [Prod.mk.injEq] at he
  have hfa : fa[f]? = some fd := by simpa using hfd
  have hsz : ∃ i, P.info? fd.type = some i ∧ i.size = n + 1 := by
    have h2 := he.2
    unfold Program.cellsOf at h2
    cases hi2 : P.info? fd.type with
    | none => simp [hi2] at h2
    | some i => simp [hi2] at h2; exact ⟨i, rfl, h2⟩
  obtain ⟨i, hi2, hi3⟩ := hsz
  simp [execOp, Instr.fieldAt, underlying_run hu, hfa, hx, Instr.sureAddr, fieldPlace, sizeOf, typeInfo, hi2, hi3, Result.andThen, he.1]

/-! ### Loads -/
theorem run_loadCells' {p : Addr} {cs : List Value} {n : Nat} (hn : cs.length = n) (h : ∀ j v, cs[j]? = some v → w.cell? (p.add j) = some v) : (loadCells p n).run P w = .ok cs.toArray w := by
  subst hn; exact run_loadCells_list w p cs h

theorem WL.loadA {t : TypeId} {x : Operand} {p : Addr} {cs : List Value} {ti : TI} (ht : tinfo P t = some ti) (ha : ti.agg = true) (hc : ∀ j v, cs[j]? = some v → w.cell? (p.add j) = some v) (hn : cs.length = ti.size)
    (hw : Region.wanted ⟨some d, .load t x, ty, pos, af, g⟩ (yieldE ops ρ) = true) (hx : ev ρ x = .pointer (some p))
    (k : WL P ops Q rest (upd ρ d (.agg cs.toArray)) w) : WL P ops Q (⟨some d, .load t x, ty, pos, af, g⟩ :: rest) ρ w := by
  refine WL.val hw ?_ rfl k
  simp [execOp, Instr.loadAt, hx, Instr.sureAddr, loadVar, run_isAgg' ht, ha, run_sizeOf' ht, run_loadCells' hn hc, Result.andThen]
theorem WL.load1 {t : TypeId} {x : Operand} {p : Addr} {v : Value} {ti : TI} (ht : tinfo P t = some ti) (ha : ti.agg = false) (hc : w.cell? p = some v)
    (hw : Region.wanted ⟨some d, .load t x, ty, pos, af, g⟩ (yieldE ops ρ) = true) (hx : ev ρ x = .pointer (some p))
    (k : WL P ops Q rest (upd ρ d v) w) : WL P ops Q (⟨some d, .load t x, ty, pos, af, g⟩ :: rest) ρ w := by
  refine WL.val hw ?_ rfl k
  simp [execOp, Instr.loadAt, hx, Instr.sureAddr, loadVar, run_isAgg' ht, ha, hc, Result.andThen]

/-- A struct out of the ghost heap. -/
theorem WL.loadGA {t : TypeId} {x : Operand} {p : Addr} {cs : List Value} {ti : TI} (hS : St w0 X G0 G L w) (hc : Cells G p cs) (ht : tinfo P t = some ti) (ha : ti.agg = true) (hn : cs.length = ti.size)
    (hw : Region.wanted ⟨some d, .load t x, ty, pos, af, g⟩ (yieldE ops ρ) = true) (hx : ev ρ x = .pointer (some p))
    (k : WL P ops Q rest (upd ρ d (.agg cs.toArray)) w) : WL P ops Q (⟨some d, .load t x, ty, pos, af, g⟩ :: rest) ρ w :=
  WL.loadA ht ha (fun _ _ h => hc.cell hS.imm h) hn hw hx k
theorem add_zero' (p : Addr) : p.add 0 = p := by simp [Addr.add]
theorem WL.loadG1 {t : TypeId} {x : Operand} {p : Addr} {v : Value} {cs : List Value} {ti : TI} (hS : St w0 X G0 G L w) (hc : Cells G p (v :: cs)) (ht : tinfo P t = some ti) (ha : ti.agg = false)
    (hw : Region.wanted ⟨some d, .load t x, ty, pos, af, g⟩ (yieldE ops ρ) = true) (hx : ev ρ x = .pointer (some p))
    (k : WL P ops Q rest (upd ρ d v) w) : WL P ops Q (⟨some d, .load t x, ty, pos, af, g⟩ :: rest) ρ w :=
  WL.load1 ht ha (by have := hc.cell (j := 0) (v := v) hS.imm rfl; rwa [add_zero'] at this) hw hx k

theorem St.cell (hS : St w0 X G0 G L w) (i : Nat) {b : Nat} {e : TypeId} {cs : List Value} (hi : L[i]? = some (some (b, e, cs))) {off : Nat} {v : Value} (hv : cs[off]? = some v) : w.cell? ⟨b, off, none⟩ = some v := by
  simp [World.cell?, hS.get i hi, hv]
/-- Out of an owned block. -/
theorem WL.loadOA {t : TypeId} {x : Operand} {ti : TI} (hS : St w0 X G0 G L w) (i : Nat) (b : Nat) (e : TypeId) (cs : List Value) (off : Nat) (vs : List Value) (hi : L[i]? = some (some (b, e, cs))) (hv : (cs.drop off).take ti.size = vs) (hn : vs.length = ti.size)
    (ht : tinfo P t = some ti) (ha : ti.agg = true)
    (hw : Region.wanted ⟨some d, .load t x, ty, pos, af, g⟩ (yieldE ops ρ) = true) (hx : ev ρ x = .pointer (some ⟨b, off, none⟩))
    (k : WL P ops Q rest (upd ρ d (.agg vs.toArray)) w) : WL P ops Q (⟨some d, .load t x, ty, pos, af, g⟩ :: rest) ρ w := by
  refine WL.loadA ht ha (fun j v h => ?_) hn hw hx k
  rw [addr_add _ _ rfl]
  refine hS.cell i hi ?_
  subst hv
  rw [List.getElem?_take] at h
  split at h
  · rwa [List.getElem?_drop] at h
  · cases h
theorem WL.loadO1 {t : TypeId} {x : Operand} {ti : TI} (hS : St w0 X G0 G L w) (i : Nat) (b : Nat) (e : TypeId) (cs : List Value) (off : Nat) (v : Value) (hi : L[i]? = some (some (b, e, cs))) (hv : cs[off]? = some v)
    (ht : tinfo P t = some ti) (ha : ti.agg = false)
    (hw : Region.wanted ⟨some d, .load t x, ty, pos, af, g⟩ (yieldE ops ρ) = true) (hx : ev ρ x = .pointer (some ⟨b, off, none⟩))
    (k : WL P ops Q rest (upd ρ d v) w) : WL P ops Q (⟨some d, .load t x, ty, pos, af, g⟩ :: rest) ρ w :=
  WL.load1 ht ha (hS.cell i hi hv) hw hx k

/-! ### Elements -/
theorem WL.indexAddr {α : Type} {E : Enc α} {by_ : Nat} {t e : TypeId} {x ix : Operand} {v : Value} {l : List α} {ti : TI} (hs : Sl E by_ G v l) (n : Nat) (hlt : n < l.length) (hu : P.underlying t = some (.slice e)) (ht : tinfo P e = some ti) (hE : ti.size = E.n)
    (hw : Region.wanted ⟨some d, .indexAddr t x ix, ty, pos, af, g⟩ (yieldE ops ρ) = true) (hx : ev ρ x = v) (hi : ev ρ ix = .int .i64 (n : Int))
    (k : ∀ p y, l[n]? = some y → ElAt E G p y → WL P ops Q rest (upd ρ d (.pointer (some p))) w) : WL P ops Q (⟨some d, .indexAddr t x ix, ty, pos, af, g⟩ :: rest) ρ w := by
  obtain ⟨a, cap, rfl, h1, h2, h3, h4⟩ := hs
  obtain ⟨p, rfl, hp, hel⟩ := h4 n l[n] (List.getElem?_eq_getElem hlt)
  refine WL.val hw ?_ rfl (k (p.add (n * E.n)) l[n] (List.getElem?_eq_getElem hlt) hel)
  simp [execOp, Instr.indexAt, hi, hx, asIntOf, underlying_run hu, run_sizeOf' ht, hE, Result.andThen]
  rw [if_pos (by omega)]
/-- An element of an owned row: its address. -/
theorem WL.indexAddrO {t e : TypeId} {x ix : Operand} {ti : TI} (b len cap : Nat) (n : Nat) (hlt : n < len) (hu : P.underlying t = some (.slice e)) (ht : tinfo P e = some ti)
    (hw : Region.wanted ⟨some d, .indexAddr t x ix, ty, pos, af, g⟩ (yieldE ops ρ) = true) (hx : ev ρ x = .slice (some ⟨b, 0, none⟩) len cap) (hi : ev ρ ix = .int .i64 (n : Int))
    (k : WL P ops Q rest (upd ρ d (.pointer (some ⟨b, n * ti.size, none⟩))) w) : WL P ops Q (⟨some d, .indexAddr t x ix, ty, pos, af, g⟩ :: rest) ρ w := by
  refine WL.val hw ?_ rfl k
  simp [execOp, Instr.indexAt, hi, hx, asIntOf, underlying_run hu, run_sizeOf' ht, Result.andThen]
  rw [if_pos (by omega)]
  simp [addr_add]
/-- A byte of a string. -/
theorem WL.indexStr {t : TypeId} {x ix : Operand} (s : List UInt8) (n : Nat) (hlt : n < s.length) (hu : P.underlying t = some .string)
    (hw : Region.wanted ⟨some d, .index t x ix, ty, pos, af, g⟩ (yieldE ops ρ) = true) (hx : ev ρ x = strV s) (hi : ev ρ ix = .int .i64 (n : Int))
    (k : ∀ c, s[n]? = some c → WL P ops Q rest (upd ρ d (.int .u8 (c.toNat : Int))) w) : WL P ops Q (⟨some d, .index t x ix, ty, pos, af, g⟩ :: rest) ρ w := by
  refine WL.val hw ?_ rfl (k s[n] (List.getElem?_eq_getElem hlt))
  have e : (ByteArray.mk s.toArray)[n]? = some s[n] := by
    rw [ByteArray.getElem?_lt' _ _ (show n < (ByteArray.mk s.toArray).size from hlt)]; rfl
  simp [execOp, Instr.index, hi, hx, strV, asIntOf, underlying_run hu, Result.andThen, e]

/-! ### New blocks -/
theorem WL.alloc {t : TypeId} {ti : TI} {zs : List Value} (hS : St w0 X G0 G L w) (ht : tinfo P t = some ti) (hz : ti.zero.cells.toList = zs)
    (hw : Region.wanted ⟨some d, .alloc t, ty, pos, af, g⟩ (yieldE ops ρ) = true)
    (k : ∀ b w', w0.heap.size ≤ b → St w0 X G0 G (some (b, t, zs) :: L) w' → WL P ops Q rest (upd ρ d (.pointer (some ⟨b, 0, none⟩))) w') : WL P ops Q (⟨some d, .alloc t, ty, pos, af, g⟩ :: rest) ρ w := by
  refine WL.val (w' := { w with heap := w.heap.push (.cells zs.toArray t) }) hw ?_ rfl (k _ _ hS.kept.size (hS.alloc t zs))
  subst hz
  simp [execOp, Instr.alloc, run_zeroValue' ht, newVar, newRow, newObj, Sem.run, Result.andThen]
theorem WL.box {t : TypeId} {x : Operand} (cs : List Value) (v : Value) (hS : St w0 X G0 G L w)
    (hw : Region.wanted ⟨some d, .box t x, ty, pos, af, g⟩ (yieldE ops ρ) = true) (hx : ev ρ x = v) (hv : v.cells = cs.toArray)
    (k : ∀ b w', w0.heap.size ≤ b → St w0 X G0 G (some (b, t, cs) :: L) w' → WL P ops Q rest (upd ρ d (.pointer (some ⟨b, 0, none⟩))) w') : WL P ops Q (⟨some d, .box t x, ty, pos, af, g⟩ :: rest) ρ w := by
  refine WL.val (w' := { w with heap := w.heap.push (.cells cs.toArray t) }) hw ?_ rfl (k _ _ hS.kept.size (hS.alloc t cs))
  simp [execOp, Instr.box, hx, hv, newVar, newRow, newObj, Sem.run, Result.andThen]
/-- A box that is never written again: read-only from the start. -/
theorem WL.boxG {t : TypeId} {x : Operand} (cs : List Value) (v : Value) (hS : St w0 X G0 G L w)
    (hw : Region.wanted ⟨some d, .box t x, ty, pos, af, g⟩ (yieldE ops ρ) = true) (hx : ev ρ x = v) (hv : v.cells = cs.toArray)
    (k : ∀ p w' G', G.le G' → p.spot = none → Cells G' p cs → St w0 X G0 G' L w' → WL P ops Q rest (upd ρ d (.pointer (some p))) w') : WL P ops Q (⟨some d, .box t x, ty, pos, af, g⟩ :: rest) ρ w := by
  refine WL.box cs v hS hw hx hv fun b w' hb hS' => ?_
  have f := hS'.freeze 0 (b := b) (e := t) (cs := cs) rfl hb
  have hG : G b = none := (hS'.sep 0 _ rfl).2
  exact k ⟨b, 0, none⟩ w' _ (G.add_le _ hG) rfl ⟨rfl, _, _, _, GH.add_at _ _ _, fun j v hv => by simpa using hv⟩ f.tail

def fillL (lay : List (Nat × Nat)) : List (Nat × List Value) → List Value → Option (List Value)
  | [], cs => some cs
  | (i, vs) :: rest, cs => match lay[i]? with
    | none => none
    | some (off, n) => if vs.length = n ∧ off + n ≤ cs.length then fillL lay rest (cs.take off ++ vs ++ cs.drop (off + n)) else none

theorem foldl_set (vs : List Value) : ∀ (cs : Array Value) (off k : Nat), off + k + vs.length ≤ cs.size →
    ((vs.zipIdx k).foldl (fun cs x => cs.setIfInBounds (off + x.2) x.1) cs).toList = cs.toList.take (off + k) ++ vs ++ cs.toList.drop (off + k + vs.length) := by
  induction vs with
  | nil => intro cs off k _; simp
  | cons v vs ih =>
    intro cs off k h
    simp only [List.zipIdx_cons, List.foldl_cons]
    rw [ih _ off (k + 1) (by simp at h ⊢; omega)]
    have h' : off + k < cs.toList.length := by simp at h ⊢; omega
    simp only [Array.toList_setIfInBounds]
    have e1 : (cs.toList.set (off + k) v).take (off + (k + 1)) = cs.toList.take (off + k) ++ [v] := by
      rw [show off + (k + 1) = off + k + 1 by omega, List.take_add_one, List.take_set_of_le (by omega), List.getElem?_set_self h']
      rfl
    rw [e1, List.drop_set_of_lt (by omega)]
    simp [Nat.add_assoc, Nat.add_comm 1]

theorem fill_eq (place : Nat → Option (Nat × Nat)) (lay : List (Nat × Nat)) (hp : ∀ i, place i = lay[i]?) : ∀ (parts : List (Nat × Value)) (cs : Array Value) (out : List Value),
    fillL lay (parts.map fun q => (q.1, q.2.cells.toList)) cs.toList = some out → Instr.fill place cs parts = some out.toArray
  | [], cs, out, h => by simp [fillL] at h; subst h; simp [Instr.fill]
  | (i, v) :: rest, cs, out, h => by
    simp only [List.map_cons, fillL] at h
    simp only [Instr.fill, hp]
    split at h
    · cases h
    · rename_i off n hl
      split at h
      · rename_i hc
        simp only [Array.length_toList] at hc
        simp only [hl]
        rw [if_neg (by simp; omega)]
        refine fill_eq place lay hp rest _ out ?_
        rw [← h]
        congr 1
        have := foldl_set v.cells.toList cs off 0 (by simp only [Nat.add_zero, Array.length_toList]; omega)
        simp only [Nat.add_zero, Array.length_toList] at this
        rw [hc.1] at this
        rw [← this, ← Array.foldl_toList]
        simp
      · cases h

theorem WL.build {t : TypeId} {parts : Array (Nat × Operand)} {ti : TI} {fs : List (Nat × Nat)} {zs : List Value} (ps : List (Nat × Value)) (pc : List (Nat × List Value)) (cs : List Value) (ht : tinfo P t = some ti) (hz : ti.zero.cells.toList = zs) (hf : fieldsOf P t = some fs)
    (hw : Region.wanted ⟨some d, .build t parts, ty, pos, af, g⟩ (yieldE ops ρ) = true) (hps : parts.toList.map (fun q => (q.1, ev ρ q.2)) = ps) (hpc : ps.map (fun q => (q.1, q.2.cells.toList)) = pc) (hfill : fillL fs pc zs = some cs)
    (k : WL P ops Q rest (upd ρ d (.agg cs.toArray)) w) : WL P ops Q (⟨some d, .build t parts, ty, pos, af, g⟩ :: rest) ρ w := by
  refine WL.val hw ?_ rfl k
  subst hz hpc
  obtain ⟨fa, hu, hinfo, rfl⟩ := fieldsOf_parts hf
  have hsz : ∀ (l : List Field), (∀ f ∈ l, (P.info? f.type).isSome = true) → ∀ w : World, (l.mapM fun f => do pure (f.offset, ← sizeOf f.type) : Sem (List (Nat × Nat))).run P w = .ok (l.map fun f => (f.offset, P.cellsOf f.type)) w := by
    intro l
    induction l with
    | nil => intro _ w; rfl
    | cons f l ih =>
      intro h w
      obtain ⟨i, hi⟩ := Option.isSome_iff_exists.1 (h f (by simp))
      have ih' := ih (fun f hf => h f (by simp [hf])) w
      have hsf : (sizeOf f.type).run P w = .ok i.size w := by simp [sizeOf, typeInfo, hi]
      have hcf : P.cellsOf f.type = i.size := by simp [Program.cellsOf, hi]
      simp only [List.mapM_cons, Sem.run_bind, hsf, Result.andThen_ok, Sem.run_pure, ih', List.map_cons, hcf]
  have hfl := fill_eq (fun i => (fa.toList.map fun f => (f.offset, P.cellsOf f.type)).toArray[i]?) _ (fun i => by simp) ps ti.zero.cells cs hfill
  have hpe : (parts.map fun x => (x.1, ev ρ x.2)).toList = ps := by simpa using hps
  simp only [execOp, Sem.run_bind, Instr.build, run_zeroValue' ht, underlying_run hu, Result.andThen, Array.mapM_eq_mapM_toList, Sem.run_map, hsz _ hinfo, hpe, hfl, Sem.run_pure]
end
end Go.Civ
