/- Stores, slices that the call makes, append. -/
import Derived.Test.YtapjalhjfblonaaGreatCiv4
namespace Go.Civ
open Go.RowKit

set_option linter.unusedVariables false
/-- The slice type's element, and what the table says of it. -/
structure TSl (P : Program) (t e : TypeId) (ti : TI) : Prop where
  u : P.underlying t = some (.slice e)
  i : tinfo P e = some ti

section
variable {P : Program} {Q : Exit → Env → World → Prop} {ρ : Env} {w : World} {ops : Array Oper} {rest : List Oper}
variable {d : Nat} {ty : TypeId} {pos : String} {af : Array Edge} {g : Option (Nat × Bool)}
variable {w0 : World} {X : List Nat} {G0 G : GH} {L : Own}

/-! ### Stores -/
def splice (cs : List Value) (off : Nat) (vs : List Value) : List Value := cs.take off ++ vs ++ cs.drop (off + vs.length)

theorem run_storeVar (hS : St w0 X G0 G L w) (i : Nat) {b : Nat} {e : TypeId} {cs : List Value} {off : Nat} {t : TypeId} {ti : TI} {v : Value} {vs : List Value} (hi : L[i]? = some (some (b, e, cs))) (ht : tinfo P t = some ti) (hv : v.cells = vs.toArray) (hn : vs.length = ti.size)
    (hfit : off + vs.length ≤ cs.length) (h1 : ∀ u ∈ vs, u.oneCell' = true) :
    ∃ w', (storeVar t ⟨b, off, none⟩ v).run P w = .ok () w' ∧ St w0 X G0 G (L.set i (some (b, e, splice cs off vs))) w' := by
  have hg := hS.get i hi
  have hst := run_storeCells_at P b off e vs 0 cs.toArray w hg (by simpa using hfit) h1
  simp only [Nat.add_zero] at hst
  refine ⟨_, ?_, hS.write i hi (splice cs off vs) (w' := w.setRow b (splice cs off vs).toArray) rfl rfl rfl (by simp) (setRow_heap w b cs.toArray _ e _ hg) (fun k hk => setRow_other w b k _ hk)⟩
  simp only [storeVar, Sem.run_bind, run_sizeOf' ht, Result.andThen, hv]
  rw [if_neg (by simp [hn])]
  rw [hst]
  rfl
theorem WL.store {t : TypeId} {a x : Operand} {ti : TI} (hS : St w0 X G0 G L w) (i : Nat) (b : Nat) (e : TypeId) (cs : List Value) (off : Nat) (v : Value) (vs cs' : List Value) (L' : Own) (hi : L[i]? = some (some (b, e, cs))) (hv : v.cells = vs.toArray) (ht : tinfo P t = some ti) (hn : vs.length = ti.size)
    (hfit : off + vs.length ≤ cs.length) (h1 : vs.all (·.oneCell') = true) (hcs : splice cs off vs = cs') (hL : L.set i (some (b, e, cs')) = L')
    (hw : Region.wanted ⟨none, .store t a x, ty, pos, af, g⟩ (yieldE ops ρ) = true) (ha : ev ρ a = .pointer (some ⟨b, off, none⟩)) (hx : ev ρ x = v)
    (k : ∀ w', St w0 X G0 G L' w' → WL P ops Q rest ρ w') : WL P ops Q (⟨none, .store t a x, ty, pos, af, g⟩ :: rest) ρ w := by
  subst hcs hL
  obtain ⟨w', hr, hS'⟩ := run_storeVar (P := P) hS i (off := off) (v := v) (vs := vs) hi ht hv hn hfit (by simpa using h1)
  refine WL.eff (w' := w') hw ?_ rfl (k w' hS')
  simp [execOp, Instr.storeAt, ha, hx, Instr.sureAddr, hr, Result.andThen]

/-! ### A slice of given elements -/
def rowLay (n size : Nat) : List (Nat × Nat) := (List.range n).map fun i => (i * size, size)
theorem fill_row (size : Nat) (n : Nat) : ∀ (parts : List (Nat × Value)) (cs : Array Value) (out : List Value),
    fillL (rowLay n size) (parts.map fun q => (q.1, q.2.cells.toList)) cs.toList = some out → Instr.fill (fun i => some (i * size, size)) cs parts = some out.toArray
  | [], cs, out, h => by simp [fillL] at h; subst h; simp [Instr.fill]
  | (i, v) :: rest, cs, out, h => by
    simp only [List.map_cons, fillL] at h
    simp only [Instr.fill]
    split at h
    · cases h
    · rename_i off m hl
      have hl' : off = i * size ∧ m = size := by
        unfold rowLay at hl
        rw [List.getElem?_map] at hl
        obtain ⟨j, hj, he⟩ := Option.map_eq_some_iff.1 hl
        have : j = i := by
          have := List.getElem?_eq_some_iff.1 hj
          obtain ⟨h1, h2⟩ := this
          simpa using h2.symm
        subst this
        simp only [Prod.mk.injEq] at he
        exact ⟨he.1.symm, he.2.symm⟩
      obtain ⟨rfl, rfl⟩ := hl'
      split at h
      · rename_i hc
        simp only [Array.length_toList] at hc
        rw [if_neg (by simp; omega)]
        refine fill_row m n rest _ out ?_
        rw [← h]
        congr 1
        have := foldl_set v.cells.toList cs (i * m) 0 (by simp only [Nat.add_zero, Array.length_toList]; omega)
        simp only [Nat.add_zero, Array.length_toList] at this
        rw [hc.1] at this
        rw [← this, ← Array.foldl_toList]
        simp
      · cases h

theorem zeros_eq (z : Array Value) (n : Nat) : ((Array.range (n * z.size)).map (z[· % z.size]!)).size = n * z.size := by simp

theorem WL.buildSlice {t e : TypeId} {n : Nat} {parts : Array (Nat × Operand)} {ti : TI} (ps : List (Nat × Value)) (pc : List (Nat × List Value)) (cs : List Value) (hS : St w0 X G0 G L w) (ht : TSl P t e ti) (hlim : Nat.ble (n * ti.size) 16777216 = true)
    (hw : Region.wanted ⟨some d, .buildSlice t n parts, ty, pos, af, g⟩ (yieldE ops ρ) = true) (hps : parts.toList.map (fun q => (q.1, ev ρ q.2)) = ps) (hpc : ps.map (fun q => (q.1, q.2.cells.toList)) = pc)
    (hfill : ∀ z : List Value, z.length = n * ti.size → fillL (rowLay n ti.size) pc z = some cs)
    (k : ∀ b w', w0.heap.size ≤ b → St w0 X G0 G (some (b, e, cs) :: L) w' → WL P ops Q rest (upd ρ d (.slice (some ⟨b, 0, none⟩) n n)) w') : WL P ops Q (⟨some d, .buildSlice t n parts, ty, pos, af, g⟩ :: rest) ρ w := by
  refine WL.val (w' := { w with heap := w.heap.push (.cells cs.toArray e) }) hw ?_ rfl (k _ _ hS.kept.size (hS.alloc e cs))
  subst hpc
  have hpe : (parts.map fun x => (x.1, ev ρ x.2)).toList = ps := by simpa using hps
  have hlim' : n * ti.size ≤ 2 ^ 24 := by simpa using hlim
  simp only [execOp, Instr.buildSlice, Sem.run_bind, underlying_run ht.u, run_sizeOf' ht.i, Result.andThen]
  rw [if_neg (by omega)]
  have hf : ∀ z : Array Value, z.size = n * ti.size → Instr.fill (fun i => some (i * ti.size, ti.size)) z ps = some cs.toArray := fun z hz => fill_row ti.size n ps z cs (hfill _ (by simpa using hz))
  by_cases h0 : n * ti.size = 0
  · rw [if_pos h0]
    simp only [pure_bind, hpe]
    rw [hf _ (by simp)]
    simp [newRow, newObj, Sem.run, Result.andThen]
  · rw [if_neg h0]
    simp only [Sem.run_bind, run_zeroValue' ht.i, Result.andThen, Sem.run_pure, hpe]
    rw [hf _ (by simp)]
    simp [newRow, newObj, Sem.run, Result.andThen]

/-! ### Rows that the call owns, and append -/
def Flat {α : Type} (E : Enc α) (G : GH) : List α → List Value → Prop
  | [], xs => xs = []
  | x :: l, xs => ∃ c r, xs = c ++ r ∧ E.rep G x c ∧ Flat E G l r
theorem Flat.mono {α : Type} {E : Enc α} {G G' : GH} (hle : G.le G') : ∀ {l : List α} {xs : List Value}, Flat E G l xs → Flat E G' l xs
  | [], _, h => h
  | _ :: _, _, ⟨c, r, h1, h2, h3⟩ => ⟨c, r, h1, E.mono hle h2, h3.mono hle⟩
theorem Flat.len {α : Type} {E : Enc α} {G : GH} : ∀ {l : List α} {xs : List Value}, Flat E G l xs → xs.length = l.length * E.n
  | [], _, h => by simp [Flat] at h; subst h; simp
  | x :: l, _, ⟨c, r, h1, h2, h3⟩ => by subst h1; rw [List.length_append, E.len h2, h3.len, List.length_cons, Nat.add_mul]; omega
theorem Flat.append {α : Type} {E : Enc α} {G : GH} : ∀ {l l' : List α} {xs xs' : List Value}, Flat E G l xs → Flat E G l' xs' → Flat E G (l ++ l') (xs ++ xs')
  | [], _, _, _, h, h' => by simp [Flat] at h; subst h; simpa using h'
  | _ :: _, _, _, _, ⟨c, r, h1, h2, h3⟩, h' => ⟨c, r ++ _, by rw [h1, List.append_assoc], h2, h3.append h'⟩
theorem Flat.one {α : Type} {E : Enc α} {G : GH} {x : α} {c : List Value} (h : E.rep G x c) : Flat E G [x] c := ⟨c, [], by simp, h, rfl⟩
theorem Flat.cells1 {α : Type} {E : Enc α} {G : GH} : ∀ {l : List α} {xs : List Value}, Flat E G l xs → ∀ u ∈ xs, u.oneCell' = true
  | [], _, h, u, hu => by simp [Flat] at h; subst h; cases hu
  | _ :: _, _, ⟨c, r, h1, h2, h3⟩, u, hu => by
    subst h1
    rcases List.mem_append.1 hu with hu | hu
    · exact E.one h2 u hu
    · exact h3.cells1 u hu
/-- The cells of element n. -/
theorem Flat.at {α : Type} {E : Enc α} {G : GH} : ∀ {l : List α} {xs : List Value} (n : Nat) (x : α), Flat E G l xs → l[n]? = some x → ∃ c, E.rep G x c ∧ ∀ j u, c[j]? = some u → xs[n * E.n + j]? = some u
  | [], _, n, x, _, hx => by simp at hx
  | y :: l, _, 0, x, ⟨c, r, h1, h2, h3⟩, hx => by
    simp at hx; subst hx h1
    refine ⟨c, h2, fun j u hu => ?_⟩
    have := (List.getElem?_eq_some_iff.1 hu).1
    rw [List.getElem?_append_left (by omega)]; simpa using hu
  | y :: l, _, n + 1, x, ⟨c, r, h1, h2, h3⟩, hx => by
    subst h1
    obtain ⟨c', k1, k2⟩ := h3.at n x (by simpa using hx)
    refine ⟨c', k1, fun j u hu => ?_⟩
    have hlen := E.len h2
    rw [List.getElem?_append_right (by rw [hlen, Nat.add_mul]; omega), hlen]
    have := k2 j u hu
    rw [show (n + 1) * E.n + j - E.n = n * E.n + j by rw [Nat.add_mul]; omega]
    exact this
theorem Flat.set {α : Type} {E : Enc α} {G : GH} : ∀ {l : List α} {xs : List Value} (n : Nat) (y : α) (c : List Value), Flat E G l xs → n < l.length → E.rep G y c → Flat E G (l.set n y) (splice xs (n * E.n) c)
  | [], _, n, _, _, _, hn, _ => by simp at hn
  | x :: l, _, 0, y, c, ⟨c0, r, h1, h2, h3⟩, _, hy => by
    subst h1
    refine ⟨c, r, ?_, hy, h3⟩
    simp [splice, E.len hy, ← E.len h2]
  | x :: l, _, n + 1, y, c, ⟨c0, r, h1, h2, h3⟩, hn, hy => by
    subst h1
    refine ⟨c0, _, ?_, h2, h3.set n y c (by simpa using hn) hy⟩
    have hlen := E.len h2
    unfold splice
    rw [show (n + 1) * E.n = c0.length + n * E.n by rw [Nat.add_mul, hlen]; omega]
    rw [List.take_length_add_append, Nat.add_assoc, List.drop_length_add_append]
    simp

/-- A slice variable whose row the call owns ('none': it is still nil). 'e': the element's type. -/
def Row {α : Type} (E : Enc α) (by_ : Nat) (e : TypeId) (G : GH) (v : Value) (l : List α) (o : Option (Nat × TypeId × List Value)) : Prop :=
  (o = none ∧ v = .slice none 0 0 ∧ l = []) ∨
  ∃ b cs cap xs, o = some (b, e, cs) ∧ v = .slice (some ⟨b, 0, none⟩) l.length cap ∧ l.length ≤ cap ∧ cap ≤ maxLen ∧ cs.length = cap * E.n ∧ Flat E G l xs ∧ cs.take (l.length * E.n) = xs ∧ l.length * by_ ≤ reach ∧ l.length ≤ reach
theorem Row.mono {α : Type} {E : Enc α} {b : Nat} {e : TypeId} {G G' : GH} {v : Value} {l : List α} {o : Option (Nat × TypeId × List Value)} (hle : G.le G') (h : Row E b e G v l o) : Row E b e G' v l o := by
  rcases h with h | ⟨b, cs, cap, xs, h1, h2, h3, h4, h5, h6, h7⟩
  · exact .inl h
  · exact .inr ⟨b, cs, cap, xs, h1, h2, h3, h4, h5, h6.mono hle, h7⟩
theorem Row.nil {α : Type} (E : Enc α) (b : Nat) (e : TypeId) (G : GH) : Row E b e G (.slice none 0 0) [] none := .inl ⟨rfl, rfl, rfl⟩
theorem Row.shape {α : Type} {E : Enc α} {b : Nat} {e : TypeId} {G : GH} {v : Value} {l : List α} {o : Option (Nat × TypeId × List Value)} (h : Row E b e G v l o) : ∃ a cap, v = .slice a l.length cap := by
  rcases h with ⟨_, rfl, rfl⟩ | ⟨b, cs, cap, xs, _, rfl, _⟩
  · exact ⟨none, 0, rfl⟩
  · exact ⟨_, cap, rfl⟩

theorem WL.lenRow {α : Type} {E : Enc α} {by_ : Nat} {e' : TypeId} {o : Option (Nat × TypeId × List Value)} {t e : TypeId} {x : Operand} {v : Value} {l : List α} (hs : Row E by_ e' G v l o) (hu : P.underlying t = some (.slice e))
    (hw : Region.wanted ⟨some d, .call ⟨.builtin .len, #[x], #[t]⟩, ty, pos, af, g⟩ (yieldE ops ρ) = true) (hx : ev ρ x = v)
    (kk : WL P ops Q rest (upd ρ d (.int .i64 l.length)) w) : WL P ops Q (⟨some d, .call ⟨.builtin .len, #[x], #[t]⟩, ty, pos, af, g⟩ :: rest) ρ w := by
  obtain ⟨a, cap, rfl⟩ := hs.shape
  exact WL.lenS a _ cap hu hw hx kk

theorem Row.owns {α : Type} {E : Enc α} {by_ : Nat} {e : TypeId} {v : Value} {l : List α} {o : Option (Nat × TypeId × List Value)} (h : Row E by_ e G v l o) (hS : St w0 X G0 G L w) (i : Nat) (hi : L[i]? = some o) :
    ∃ xs, Flat E G l xs ∧ w.ownsRow 0 e E.n v l.length xs ∧ (v.ownBlock = o.map (·.1)) := by
  rcases h with ⟨rfl, rfl, rfl⟩ | ⟨b, cs, cap, xs, rfl, rfl, h3, h4, h5, h6, h7, _⟩
  · exact ⟨[], rfl, World.ownsRow_nil _ _ _ _, rfl⟩
  · refine ⟨xs, h6, ⟨by rw [h6.len], .inr ⟨b, cap, cs.toArray, rfl, Nat.zero_le _, hS.get i hi, h3, h4, by simpa using h5, by simpa using h7⟩⟩, rfl⟩

theorem zeroCells_len (z : Array Value) (n : Nat) : (Builtin.zeroCells z n).toList.length = n * z.size := by simp [Builtin.zeroCells]

/-- append(s, x...): s a row of the call's own, the new elements in cells that are there. -/
theorem run_push {α : Type} {E : Enc α} {by_ : Nat} {t e : TypeId} {ti : TI} {v : Value} {l m : List α} {o : Option (Nat × TypeId × List Value)} (ht : TSl P t e ti) (hE : ti.size = E.n) (hby : ti.bytes = by_) (hz : ti.zero.cells.size = E.n)
    (hr : Row E by_ e G v l o) (hS : St w0 X G0 G L w) (i : Nat) (hi : L[i]? = some o) (tty : TypeId) (a : Addr) (c : Nat) (news : List Value) (hm : Flat E G m news) (hnews : ∀ j u, news[j]? = some u → w.cell? (a.add j) = some u)
    (hb : (l.length + m.length) * by_ ≤ reach) (hb2 : l.length + m.length ≤ reach) :
    ∃ v' o' w', (Builtin.append_ #[t, t] tty #[v, .slice (some a) m.length c]).run P w = .ok v' w' ∧ Row E by_ e G v' (l ++ m) o' ∧ St w0 X G0 G (L.set i o') w' := by
  obtain ⟨ds, ii, h1, h2, h3, h4, h5, h6⟩ := tinfo_parts ht.i
  unfold reach at hb hb2
  have hil : i < L.length := (List.getElem?_eq_some_iff.1 hi).1
  have hsz : ii.size = E.n := h5.trans hE
  have hmn : news.length = m.length * ii.size := by rw [hsz]; exact hm.len
  rcases hr with ⟨rfl, rfl, rfl⟩ | ⟨b, cs, cap, xs, rfl, rfl, k3, k4, k5, k6, k7, k8, k9⟩
  · simp only [List.length_nil, Nat.zero_add] at hb hb2
    by_cases hm0 : m.length = 0
    · have : m = [] := List.eq_nil_of_length_eq_zero hm0
      subst this
      have hn : news = [] := hm
      subst hn
      have hLe : L.set i none = L := by
        apply List.ext_getElem?; intro j
        rw [List.getElem?_set]; split
        · rename_i hj; subst hj; simp [hi]
        · rfl
      refine ⟨.slice none 0 0, none, w, ?_, .inl ⟨rfl, rfl, rfl⟩, by rw [hLe]; exact hS⟩
      simp [Builtin.append_, run_underlying ht.u, sizeOf, typeInfo, h2, Builtin.lenOf, Builtin.firstCells, loadCells, loadCellsFrom]
    · have hrun := run_append_nil (P := P) w t tty e ii ti.zero ht.u h2 h3 a m.length c news hmn hnews (by omega) (by omega) (by rw [h6, hby]; omega)
      have hge := grownCap_ge w m.length 0 e
      have hmax := grownCap_le_maxLen w m.length 0 e (by unfold maxLen; omega)
      have hS' := (hS.same (w' := w.drew) rfl rfl rfl rfl).alloc e (news ++ (Builtin.zeroCells ti.zero.cells (grownCap w m.length 0 e - m.length)).toList)
      refine ⟨_, some (w.heap.size, e, news ++ (Builtin.zeroCells ti.zero.cells (grownCap w m.length 0 e - m.length)).toList), _, hrun, .inr ⟨w.heap.size, news ++ (Builtin.zeroCells ti.zero.cells (grownCap w m.length 0 e - m.length)).toList, grownCap w m.length 0 e, news, rfl, rfl, by simpa using hge, hmax, ?_, by simpa using hm, ?_, by simpa [reach] using hb, by simpa [reach] using hb2⟩, ?_⟩
      · rw [List.length_append, zeroCells_len, hz, hm.len, ← Nat.add_mul]; congr 1; omega
      · rw [List.nil_append, ← hm.len]; exact List.take_left
      · have e1 : news.toArray ++ Builtin.zeroCells ti.zero.cells (grownCap w m.length 0 e - m.length) = (news ++ (Builtin.zeroCells ti.zero.cells (grownCap w m.length 0 e - m.length)).toList).toArray := Array.ext' (by simp)
        rw [e1]; exact hS'.place i
  · by_cases hroom : l.length + m.length ≤ cap
    · have hfit : l.length * ii.size + news.length ≤ cs.toArray.size := by rw [hmn, hsz, ← Nat.add_mul, List.size_toArray, k5]; exact Nat.mul_le_mul_right _ hroom
      have hg := hS.get i hi
      have hrun := run_append_room (P := P) w t tty e ii ht.u h2 b l.length cap cs.toArray hg a m.length c news hmn hnews hm.cells1 hroom hfit
      refine ⟨_, some (b, e, cs.take (l.length * ii.size) ++ news ++ cs.drop (l.length * ii.size + news.length)), _, hrun, .inr ⟨b, cs.take (l.length * ii.size) ++ news ++ cs.drop (l.length * ii.size + news.length), cap, xs ++ news, rfl, by rw [List.length_append], by rw [List.length_append]; exact hroom, k4, ?_, k6.append hm, ?_, by rw [List.length_append]; exact hb, by rw [List.length_append]; exact hb2⟩, ?_⟩
      · simp only [List.size_toArray] at hfit
        simp only [List.length_append, List.length_take, List.length_drop]
        omega
      · rw [hsz, k7, List.length_append, Nat.add_mul, ← k6.len, ← hm.len, ← List.length_append]
        exact List.take_left
      · refine hS.write i hi _ rfl rfl rfl (by simp) (setRow_heap w b cs.toArray _ e _ hg) (fun k hk => setRow_other w b k _ hk)
    · have hg := hS.get i hi
      have holds : ∀ j u, xs[j]? = some u → w.cell? ((⟨b, 0, none⟩ : Addr).add j) = some u := fun j u hu => by
        rw [addr_add _ _ rfl]
        refine hS.cell i hi ?_
        rw [Nat.zero_add, ← k7] at *
        rw [List.getElem?_take] at hu
        split at hu
        · exact hu
        · cases hu
      have hrun := run_append_grow (P := P) w t tty e ii ti.zero ht.u h2 h3 ⟨b, 0, none⟩ l.length cap xs (by rw [hsz]; exact k6.len) holds a m.length c news hmn hnews (by omega) (by omega) (growslice_fits (by omega) (by rw [h6, hby]; exact hb))
      have hge := grownCap_ge w (l.length + m.length) cap e
      have hmax := grownCap_le_maxLen w (l.length + m.length) cap e (by unfold maxLen; omega)
      have hS' := (hS.same (w' := w.drew) rfl rfl rfl rfl).alloc e (xs ++ news ++ (Builtin.zeroCells ti.zero.cells (grownCap w (l.length + m.length) cap e - (l.length + m.length))).toList)
      refine ⟨_, some (w.heap.size, e, xs ++ news ++ (Builtin.zeroCells ti.zero.cells (grownCap w (l.length + m.length) cap e - (l.length + m.length))).toList), _, hrun, .inr ⟨w.heap.size, xs ++ news ++ (Builtin.zeroCells ti.zero.cells (grownCap w (l.length + m.length) cap e - (l.length + m.length))).toList, grownCap w (l.length + m.length) cap e, xs ++ news, rfl, by rw [List.length_append], by rw [List.length_append]; exact hge, hmax, ?_, k6.append hm, ?_, by rw [List.length_append]; exact hb, by rw [List.length_append]; exact hb2⟩, ?_⟩
      · rw [List.length_append, List.length_append, zeroCells_len, hz, hm.len, k6.len, ← Nat.add_mul, ← Nat.add_mul]; congr 1; omega
      · rw [List.length_append, Nat.add_mul, ← k6.len, ← hm.len, ← List.length_append]; exact List.take_left
      · have e1 : xs.toArray ++ news.toArray ++ Builtin.zeroCells ti.zero.cells (grownCap w (l.length + m.length) cap e - (l.length + m.length)) = (xs ++ news ++ (Builtin.zeroCells ti.zero.cells (grownCap w (l.length + m.length) cap e - (l.length + m.length))).toList).toArray := Array.ext' (by simp)
        rw [e1]; exact hS'.place i

/-- append(s, x): x just laid in a slice of its own (an owned block at place j). -/
theorem WL.push {α : Type} {E : Enc α} {by_ : Nat} {t e : TypeId} {ti : TI} {s x : Operand} {v : Value} {l m : List α} {o : Option (Nat × TypeId × List Value)} (ht : TSl P t e ti) (hE : ti.size = E.n) (hby : ti.bytes = by_) (hz : ti.zero.cells.size = E.n)
    (hr : Row E by_ e G v l o) (hS : St w0 X G0 G L w) (i : Nat) (hi : L[i]? = some o) (j : Nat) (b : Nat) (e' : TypeId) (news : List Value) (n c : Nat) (hj : L[j]? = some (some (b, e', news))) (hm : Flat E G m news) (hn : n = m.length)
    (hb : (l.length + m.length) * by_ ≤ reach) (hb2 : l.length + m.length ≤ reach)
    (hw : Region.wanted ⟨some d, .call ⟨.builtin .append, #[s, x], #[t, t]⟩, ty, pos, af, g⟩ (yieldE ops ρ) = true) (hs : ev ρ s = v) (hx : ev ρ x = .slice (some ⟨b, 0, none⟩) n c)
    (k : ∀ v' o' w', Row E by_ e G v' (l ++ m) o' → St w0 X G0 G (L.set i o') w' → WL P ops Q rest (upd ρ d v') w') : WL P ops Q (⟨some d, .call ⟨.builtin .append, #[s, x], #[t, t]⟩, ty, pos, af, g⟩ :: rest) ρ w := by
  subst hn
  obtain ⟨v', o', w', hrun, hr', hS'⟩ := run_push ht hE hby hz hr hS i hi ty ⟨b, 0, none⟩ c news hm (fun q u hu => by rw [addr_add _ _ rfl]; exact hS.cell j hj (by simpa using hu)) hb hb2
  refine WL.val (w' := w') hw ?_ rfl (k v' o' w' hr' hS')
  simp [execOp, resolve, invoke, builtin, hs, hx, hrun, Result.andThen]
theorem run_push_none {α : Type} {E : Enc α} {by_ : Nat} {t e : TypeId} {ti : TI} {v : Value} {l : List α} {o : Option (Nat × TypeId × List Value)} (ht : TSl P t e ti) (hr : Row E by_ e G v l o) (tty : TypeId) (c : Nat) :
    (Builtin.append_ #[t, t] tty #[v, .slice none 0 c]).run P w = .ok v w := by
  obtain ⟨ds, ii, h1, h2, h3, h4, h5, h6⟩ := tinfo_parts ht.i
  rcases hr with ⟨_, rfl, rfl⟩ | ⟨b, cs, cap, xs, _, rfl, k3, _⟩
  · simp [Builtin.append_, run_underlying ht.u, sizeOf, typeInfo, h2, Builtin.lenOf, Builtin.firstCells]
  · simp [Builtin.append_, run_underlying ht.u, sizeOf, typeInfo, h2, Builtin.lenOf, Builtin.firstCells, k3, storeCells]
theorem Sl.flat {α : Type} {E : Enc α} {by_ : Nat} {v : Value} {l : List α} (h : Sl E by_ G v l) : ∃ a cap, v = .slice a l.length cap ∧ ((a = none ∧ l = []) ∨ ∃ p news, a = some p ∧ Flat E G l news ∧ ∀ w, G.In w → ∀ j u, news[j]? = some u → w.cell? (p.add j) = some u) := by
  obtain ⟨a, cap, rfl, h2, h3, h3', h4⟩ := h
  refine ⟨a, cap, rfl, ?_⟩
  cases a with
  | none =>
    refine .inl ⟨rfl, ?_⟩
    cases l with
    | nil => rfl
    | cons x l => obtain ⟨p, hp, _⟩ := h4 0 x rfl; cases hp
  | some p =>
    refine .inr ⟨p, ?_⟩
    have key : ∀ (m : List α) (k : Nat), (∀ i x, m[i]? = some x → p.spot = none ∧ ElAt E G (p.add ((k + i) * E.n)) x) → ∃ news, Flat E G m news ∧ ∀ w, G.In w → ∀ j u, news[j]? = some u → w.cell? (p.add (k * E.n + j)) = some u := by
      intro m
      induction m with
      | nil => intro k _; exact ⟨[], rfl, fun w _ j u hu => by simp at hu⟩
      | cons x m ih =>
        intro k hm
        obtain ⟨hsp, c, hc, hx⟩ := hm 0 x rfl
        obtain ⟨news, hf, hn⟩ := ih (k + 1) (fun i y hy => by
          have := hm (i + 1) y (by simpa using hy)
          rwa [show k + (i + 1) = k + 1 + i by omega] at this)
        refine ⟨c ++ news, ⟨c, news, rfl, hx, hf⟩, fun w hG j u hu => ?_⟩
        have hlen := E.len hx
        rcases Nat.lt_or_ge j c.length with hj | hj
        · rw [List.getElem?_append_left hj] at hu
          have := hc.cell hG hu
          rw [addr_add _ _ (by rw [addr_add _ _ hsp]), addr_add _ _ hsp] at this
          rw [addr_add _ _ hsp]
          simp only [Nat.add_zero] at this
          rwa [← Nat.add_assoc]
        · rw [List.getElem?_append_right hj] at hu
          have := hn w hG _ _ hu
          rwa [show (k + 1) * E.n + (j - c.length) = k * E.n + j by rw [Nat.add_mul, hlen]; omega] at this
    obtain ⟨news, hf, hn⟩ := key l 0 (fun i x hx => by
      obtain ⟨p', hp', hsp, hel⟩ := h4 i x hx
      obtain rfl := Option.some.inj hp'
      exact ⟨hsp, by rwa [Nat.zero_add]⟩)
    exact ⟨news, rfl, hf, fun w hG j u hu => by have := hn w hG j u hu; rwa [Nat.zero_mul, Nat.zero_add] at this⟩
/-- append(s, x...): x a slice of the ghost heap. -/
theorem WL.pushSl {α : Type} {E : Enc α} {by_ by' : Nat} {t e : TypeId} {ti : TI} {s x : Operand} {v vx : Value} {l m : List α} {o : Option (Nat × TypeId × List Value)} (ht : TSl P t e ti) (hE : ti.size = E.n) (hby : ti.bytes = by_) (hz : ti.zero.cells.size = E.n)
    (hr : Row E by_ e G v l o) (hS : St w0 X G0 G L w) (i : Nat) (hi : L[i]? = some o) (hm : Sl E by' G vx m)
    (hb : (l.length + m.length) * by_ ≤ reach) (hb2 : l.length + m.length ≤ reach)
    (hw : Region.wanted ⟨some d, .call ⟨.builtin .append, #[s, x], #[t, t]⟩, ty, pos, af, g⟩ (yieldE ops ρ) = true) (hs : ev ρ s = v) (hx : ev ρ x = vx)
    (k : ∀ v' o' w', Row E by_ e G v' (l ++ m) o' → St w0 X G0 G (L.set i o') w' → WL P ops Q rest (upd ρ d v') w') : WL P ops Q (⟨some d, .call ⟨.builtin .append, #[s, x], #[t, t]⟩, ty, pos, af, g⟩ :: rest) ρ w := by
  obtain ⟨a, cap, rfl, ⟨rfl, rfl⟩ | ⟨p, news, rfl, hf, hn⟩⟩ := hm.flat
  · have hrun := run_push_none (w := w) ht hr ty cap
    have hLe : L.set i o = L := by
      have hil : i < L.length := (List.getElem?_eq_some_iff.1 hi).1
      apply List.ext_getElem?; intro j
      rw [List.getElem?_set]; split
      · rename_i hj; subst hj; simp [hi]
      · rfl
    refine WL.val (w' := w) hw ?_ rfl (k v o w (by simpa using hr) (by rw [hLe]; exact hS))
    simp [execOp, resolve, invoke, builtin, hs, hx, hrun, Result.andThen]
  · obtain ⟨v', o', w', hrun, hr', hS'⟩ := run_push ht hE hby hz hr hS i hi ty p cap news hf (hn w hS.imm) hb hb2
    refine WL.val (w' := w') hw ?_ rfl (k v' o' w' hr' hS')
    simp [execOp, resolve, invoke, builtin, hs, hx, hrun, Result.andThen]
end
end Go.Civ
