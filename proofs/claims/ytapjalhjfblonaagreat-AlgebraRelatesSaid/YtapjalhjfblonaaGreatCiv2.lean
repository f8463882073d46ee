/- Memory: what never changes any more (a ghost heap), what the call owns, and what it leaves as it was. -/
import Derived.Test.YtapjalhjfblonaaGreatCiv1
import Derived.Laws.AppendOwn
namespace Go.Civ
open Go.RowKit

abbrev GH := Nat → Option Obj
def GH.le (G G' : GH) : Prop := ∀ b o, G b = some o → G' b = some o
def GH.add (G : GH) (b : Nat) (o : Obj) : GH := fun x => bif Nat.beq x b then some o else G x
theorem beq_ne {k b : Nat} (h : k ≠ b) : Nat.beq k b = false := by
  cases e : Nat.beq k b with
  | true => exact absurd (Nat.eq_of_beq_eq_true e) h
  | false => rfl
theorem GH.le_refl (G : GH) : G.le G := fun _ _ h => h
theorem GH.le.trans {A B C : GH} (h : A.le B) (k : B.le C) : A.le C := fun b o x => k b o (h b o x)

abbrev Own := List (Option (Nat × TypeId × List Value))
def objOf (p : TypeId × List Value) : Obj := .cells p.2.toArray p.1 (0, 0)

/-- But for the blocks X, what was there is as it was. -/
structure Kept (X : List Nat) (w w' : World) : Prop where
  os : w'.os = w.os
  tape : w'.tape = w.tape
  output : w'.output = w.output
  size : w.heap.size ≤ w'.heap.size
  block : ∀ k, k < w.heap.size → k ∉ X → w'.heap[k]? = w.heap[k]?

theorem Kept.refl (X : List Nat) (w : World) : Kept X w w := ⟨rfl, rfl, rfl, Nat.le_refl _, fun _ _ _ => rfl⟩
theorem Kept.trans {X : List Nat} {a b c : World} (h : Kept X a b) (k : Kept X b c) : Kept X a c :=
  ⟨k.os.trans h.os, k.tape.trans h.tape, k.output.trans h.output, Nat.le_trans h.size k.size, fun i hi hx => (k.block i (Nat.lt_of_lt_of_le hi h.size) hx).trans (h.block i hi hx)⟩
/-- A step that changes only blocks that are X's or were not there at the beginning. -/
theorem Kept.step {X Y : List Nat} {a b c : World} (h : Kept X a b) (k : Kept Y b c) (hY : ∀ y ∈ Y, a.heap.size ≤ y ∨ y ∈ X) : Kept X a c :=
  ⟨k.os.trans h.os, k.tape.trans h.tape, k.output.trans h.output, Nat.le_trans h.size k.size, fun i hi hx => (k.block i (Nat.lt_of_lt_of_le hi h.size) (fun hy => by rcases hY i hy with h | h; omega; exact hx h)).trans (h.block i hi hx)⟩
theorem Kept.mono {X Y : List Nat} {a b : World} (h : Kept X a b) (hs : ∀ x ∈ X, x ∈ Y) : Kept Y a b := ⟨h.os, h.tape, h.output, h.size, fun k hk hy => h.block k hk fun hx => hy (hs _ hx)⟩
theorem Kept.below {a b : World} (h : Kept [] a b) : Below a.heap.size a b := ⟨h.os, h.tape, h.output, h.size, fun k hk => h.block k hk (by simp)⟩

/-- What a call leaves: the new ghost heap. -/
structure Res (X : List Nat) (w : World) (G : GH) (w' : World) (G' : GH) : Prop where
  kept : Kept X w w'
  le : G.le G'
  new : ∀ b, b < w.heap.size → G' b = G b
  imm : ∀ b o, G' b = some o → w'.heap[b]? = some o

/-- The ghost heap lies in the world's. -/
def GH.In (G : GH) (w : World) : Prop := ∀ b o, G b = some o → w.heap[b]? = some o

theorem Res.refl {X : List Nat} {w : World} {G : GH} (h : G.In w) : Res X w G w G := ⟨Kept.refl _ _, G.le_refl, fun _ _ => rfl, h⟩
theorem Res.trans {X : List Nat} {w w' w'' : World} {G G' G'' : GH} (h : Res X w G w' G') (k : Res X w' G' w'' G'') : Res X w G w'' G'' :=
  ⟨h.kept.trans k.kept, h.le.trans k.le, fun b hb => (k.new b (Nat.lt_of_lt_of_le hb h.kept.size)).trans (h.new b hb), k.imm⟩

/-- The state inside a call: 'L': the blocks that it owns (none: a slice variable that is still nil). -/
structure St (w0 : World) (X : List Nat) (G0 G : GH) (L : Own) (w : World) : Prop where
  kept : Kept X w0 w
  le : G0.le G
  new : ∀ b, b < w0.heap.size → G b = G0 b
  imm : G.In w
  own : ∀ (i : Nat) p, L[i]? = some (some p) → w.heap[p.1]? = some (objOf p.2)
  sep : ∀ (i : Nat) p, L[i]? = some (some p) → (w0.heap.size ≤ p.1 ∨ p.1 ∈ X) ∧ G p.1 = none
  nd : ∀ (i j : Nat) p q, L[i]? = some (some p) → L[j]? = some (some q) → p.1 = q.1 → i = j

theorem GH.In.lt {G : GH} {w : World} (h : G.In w) {b : Nat} {o : Obj} (hb : G b = some o) : b < w.heap.size := (Array.getElem?_eq_some_iff.1 (h b o hb)).1
theorem GH.In.fresh {G : GH} {w : World} (h : G.In w) {b : Nat} (hb : w.heap.size ≤ b) : G b = none := by
  cases e : G b with
  | none => rfl
  | some o => have := h.lt e; omega
theorem GH.In.step {G G' : GH} {w w' : World} {X : List Nat} (r : Res X w G w' G') : G'.In w' := r.imm
theorem GH.add_at (G : GH) (b : Nat) (o : Obj) : G.add b o b = some o := by unfold GH.add; rw [show Nat.beq b b = true from by simp]; rfl
theorem GH.add_ne (G : GH) {b k : Nat} (o : Obj) (h : k ≠ b) : G.add b o k = G k := by unfold GH.add; rw [beq_ne h]; rfl
theorem GH.add_le (G : GH) {b : Nat} (o : Obj) (h : G b = none) : G.le (G.add b o) := fun k x hk => by
  rw [GH.add_ne]; exact hk
  intro e; subst e; rw [h] at hk; cases hk

section
variable {w0 w : World} {X : List Nat} {G0 G : GH} {L : Own}

theorem St.start {X : List Nat} (h : G.In w) : St w X G G [] w :=
  ⟨Kept.refl _ _, G.le_refl, fun _ _ => rfl, h, fun _ _ hp => by simp at hp, fun _ _ hp => by simp at hp, fun _ _ _ _ hp => by simp at hp⟩
/-- The one block that the caller lends. -/
theorem St.lent (h : G.In w) {b : Nat} {e : TypeId} {cs : List Value} (hb : w.heap[b]? = some (.cells cs.toArray e (0, 0))) (hG : G b = none) : St w [b] G G [some (b, e, cs)] w := by
  have one : ∀ (i : Nat) (p : Nat × TypeId × List Value), [some (b, e, cs)][i]? = some (some p) → i = 0 ∧ p = (b, e, cs) := fun i p hp => by
    cases i with
    | zero => simp at hp; exact ⟨rfl, hp.symm⟩
    | succ i => simp at hp
  refine ⟨Kept.refl _ _, G.le_refl, fun _ _ => rfl, h, fun i p hp => ?_, fun i p hp => ?_, fun i j p q hp hq _ => (one i p hp).1.trans (one j q hq).1.symm⟩
  · obtain ⟨_, rfl⟩ := one i p hp; exact hb
  · obtain ⟨_, rfl⟩ := one i p hp; exact ⟨.inr (by simp), hG⟩
theorem St.res (h : St w0 X G0 G L w) : Res X w0 G0 w G := ⟨h.kept, h.le, h.new, h.imm⟩
theorem St.ownLt (h : St w0 X G0 G L w) {i : Nat} {p : Nat × TypeId × List Value} (hp : L[i]? = some (some p)) : p.1 < w.heap.size := (Array.getElem?_eq_some_iff.1 (h.own i p hp)).1
theorem St.get (h : St w0 X G0 G L w) (i : Nat) {b : Nat} {e : TypeId} {cs : List Value} (hi : L[i]? = some (some (b, e, cs))) : w.heap[b]? = some (.cells cs.toArray e (0, 0)) := h.own i (b, e, cs) hi

/-- The heap as it was. -/
theorem St.same (h : St w0 X G0 G L w) {w' : World} (h1 : w'.os = w.os) (h2 : w'.tape = w.tape) (h3 : w'.output = w.output) (h4 : w'.heap = w.heap) : St w0 X G0 G L w' :=
  ⟨⟨h1.trans h.kept.os, h2.trans h.kept.tape, h3.trans h.kept.output, by rw [h4]; exact h.kept.size, by rw [h4]; exact h.kept.block⟩, h.le, h.new, fun b o hb => by rw [h4]; exact h.imm b o hb, fun i p hp => by rw [h4]; exact h.own i p hp, h.sep, h.nd⟩
theorem St.draw (h : St w0 X G0 G L w) (n : Nat) : St w0 X G0 G L { w with drawn := n } := h.same rfl rfl rfl rfl

/-- New blocks, of which one is adopted; the ghost heap may have grown. -/
theorem St.adopt (h : St w0 X G0 G L w) {w' : World} {G' : GH} (r : Res [] w G w' G') {b : Nat} {e : TypeId} {cs : List Value} (hb : w'.heap[b]? = some (.cells cs.toArray e (0, 0))) (hn : w.heap.size ≤ b) (hG : G' b = none) :
    St w0 X G0 G' (some (b, e, cs) :: L) w' := by
  refine ⟨h.kept.step r.kept (by simp), h.le.trans r.le, fun b hb => (r.new b (Nat.lt_of_lt_of_le hb h.kept.size)).trans (h.new b hb), r.imm, fun i p hp => ?_, fun i p hp => ?_, fun i j p q hp hq he => ?_⟩
  · cases i with
    | zero => simp at hp; subst hp; exact hb
    | succ i => simp at hp; rw [r.kept.block _ (h.ownLt hp) (by simp)]; exact h.own i p hp
  · cases i with
    | zero => simp at hp; subst hp; exact ⟨.inl (Nat.le_trans h.kept.size hn), hG⟩
    | succ i => simp at hp; exact ⟨(h.sep i p hp).1, by rw [r.new _ (h.ownLt hp)]; exact (h.sep i p hp).2⟩
  · cases i <;> cases j
    · rfl
    · simp at hp hq; subst hp; have := h.ownLt hq; simp at he; omega
    · simp at hp hq; subst hq; have := h.ownLt hp; simp at he; omega
    · simp at hp hq; exact congrArg (· + 1) (h.nd _ _ _ _ hp hq he)

theorem Res.alloc (h : G.In w) (o : Obj) : Res [] w G { w with heap := w.heap.push o } G := by
  have old : ∀ k, k < w.heap.size → (w.heap.push o)[k]? = w.heap[k]? := fun k hk => by rw [Array.getElem?_push, if_neg (by omega)]
  exact ⟨⟨rfl, rfl, rfl, by simp, fun k hk _ => old k hk⟩, G.le_refl, fun _ _ => rfl, fun b o hb => (old b (h.lt hb)).trans (h b o hb)⟩

/-- A new block. -/
theorem St.alloc (h : St w0 X G0 G L w) (e : TypeId) (cs : List Value) : St w0 X G0 G (some (w.heap.size, e, cs) :: L) { w with heap := w.heap.push (.cells cs.toArray e) } :=
  h.adopt (Res.alloc h.imm _) (by simp) (Nat.le_refl _) (h.imm.fresh (Nat.le_refl _))

/-- Behind a call that leaves all that was there. -/
theorem St.call (h : St w0 X G0 G L w) {w' : World} {G' : GH} (r : Res [] w G w' G') : St w0 X G0 G' L w' :=
  ⟨h.kept.step r.kept (by simp), h.le.trans r.le, fun b hb => (r.new b (Nat.lt_of_lt_of_le hb h.kept.size)).trans (h.new b hb), r.imm,
    fun i p hp => by rw [r.kept.block _ (h.ownLt hp) (by simp)]; exact h.own i p hp, fun i p hp => ⟨(h.sep i p hp).1, by rw [r.new _ (h.ownLt hp)]; exact (h.sep i p hp).2⟩, h.nd⟩

/-- Behind a step that writes one owned block, and it alone. -/
theorem St.callX (h : St w0 X G0 G L w) {w' : World} {G' : GH} (i : Nat) {b : Nat} {e : TypeId} {cs : List Value} (hi : L[i]? = some (some (b, e, cs))) (cs' : List Value) (r : Res [b] w G w' G')
    (hb : w'.heap[b]? = some (.cells cs'.toArray e (0, 0))) : St w0 X G0 G' (L.set i (some (b, e, cs'))) w' := by
  have hsep := h.sep _ _ hi
  have hil : i < L.length := (List.getElem?_eq_some_iff.1 hi).1
  -- an entry of the new list: the block itself, or an old one of another number
  have look : ∀ (j : Nat) p, (L.set i (some (b, e, cs')))[j]? = some (some p) → (j = i ∧ p = (b, e, cs')) ∨ (j ≠ i ∧ L[j]? = some (some p) ∧ p.1 ≠ b) := fun j p hj => by
    rw [List.getElem?_set] at hj
    split at hj
    · rename_i hji; subst hji; simp at hj; exact .inl ⟨rfl, hj.symm⟩
    · rename_i hji; exact .inr ⟨Ne.symm hji, hj, fun he => hji (h.nd _ _ _ _ hi hj he.symm)⟩
  refine ⟨h.kept.step r.kept (fun y hy => ?_), h.le.trans r.le, fun b hb => (r.new b (Nat.lt_of_lt_of_le hb h.kept.size)).trans (h.new b hb), r.imm, fun j p hp => ?_, fun j p hp => ?_, fun j k p q hp hq he => ?_⟩
  · obtain rfl := List.mem_singleton.1 hy; exact hsep.1
  · rcases look j p hp with ⟨rfl, rfl⟩ | ⟨_, hp, hne⟩
    · exact hb
    · rw [r.kept.block _ (h.ownLt hp) (by simpa using hne)]; exact h.own j p hp
  · rcases look j p hp with ⟨rfl, rfl⟩ | ⟨_, hp, hne⟩
    · exact ⟨hsep.1, by rw [r.new _ (h.ownLt hi)]; exact hsep.2⟩
    · exact ⟨(h.sep j p hp).1, by rw [r.new _ (h.ownLt hp)]; exact (h.sep j p hp).2⟩
  · rcases look j p hp with ⟨rfl, rfl⟩ | ⟨_, hp, hne⟩ <;> rcases look k q hq with ⟨rfl, rfl⟩ | ⟨_, hq, hne'⟩
    · rfl
    · exact absurd he.symm hne'
    · exact absurd he hne
    · exact h.nd _ _ _ _ hp hq he

/-- An owned block's cells are written anew. -/
theorem St.write (h : St w0 X G0 G L w) {w' : World} (i : Nat) {b : Nat} {e : TypeId} {cs : List Value} (hi : L[i]? = some (some (b, e, cs))) (cs' : List Value)
    (hos : w'.os = w.os) (htape : w'.tape = w.tape) (hout : w'.output = w.output) (hsize : w'.heap.size = w.heap.size)
    (hb : w'.heap[b]? = some (.cells cs'.toArray e (0, 0))) (hne : ∀ k, k ≠ b → w'.heap[k]? = w.heap[k]?) : St w0 X G0 G (L.set i (some (b, e, cs'))) w' := by
  refine h.callX i hi cs' ⟨⟨hos, htape, hout, by omega, fun k _ hk => hne k (by simpa using hk)⟩, G.le_refl, fun _ _ => rfl, fun k o hk => ?_⟩ hb
  rw [hne k (fun e => ?_)]; exact h.imm k o hk
  subst e
  have h2 := (h.sep _ _ hi).2
  simp only at h2
  rw [h2] at hk; cases hk

/-- What is owned is forgotten. -/
theorem St.drop (h : St w0 X G0 G L w) (i : Nat) : St w0 X G0 G (L.set i none) w := by
  have look : ∀ (j : Nat) p, (L.set i none)[j]? = some (some p) → L[j]? = some (some p) := fun j p hj => by
    rw [List.getElem?_set] at hj
    split at hj
    · split at hj <;> simp at hj
    · exact hj
  exact ⟨h.kept, h.le, h.new, h.imm, fun j p hp => h.own j p (look j p hp), fun j p hp => h.sep j p (look j p hp), fun j k p q hp hq he => h.nd j k p q (look j p hp) (look k q hq) he⟩
theorem St.tail {o : Option (Nat × TypeId × List Value)} (h : St w0 X G0 G (o :: L) w) : St w0 X G0 G L w :=
  ⟨h.kept, h.le, h.new, h.imm, fun j p hp => h.own (j + 1) p (by simpa using hp), fun j p hp => h.sep (j + 1) p (by simpa using hp), fun j k p q hp hq he => by have := h.nd (j + 1) (k + 1) p q (by simpa using hp) (by simpa using hq) he; omega⟩

/-- The owned blocks in another order, or fewer of them. -/
theorem St.reindex (h : St w0 X G0 G L w) (L' : Own) (f : Nat → Nat) (hf : ∀ (j : Nat) p, L'[j]? = some (some p) → L[f j]? = some (some p)) (inj : ∀ j k, j < L'.length → k < L'.length → f j = f k → j = k) : St w0 X G0 G L' w :=
  ⟨h.kept, h.le, h.new, h.imm, fun j p hp => h.own _ p (hf j p hp), fun j p hp => h.sep _ p (hf j p hp), fun j k p q hp hq he =>
    inj j k (List.getElem?_eq_some_iff.1 hp).1 (List.getElem?_eq_some_iff.1 hq).1 (h.nd _ _ _ _ (hf j p hp) (hf k q hq) he)⟩
/-- The first goes into the place of another. -/
theorem St.place {o : Option (Nat × TypeId × List Value)} (h : St w0 X G0 G (o :: L) w) (i : Nat) : St w0 X G0 G (L.set i o) w := by
  refine h.reindex _ (fun j => if j = i then 0 else j + 1) (fun j p hp => ?_) (fun j k _ _ he => ?_)
  · rw [List.getElem?_set] at hp
    by_cases hji : i = j
    · subst hji
      rw [if_pos rfl] at hp
      split at hp
      · simpa using hp
      · cases hp
    · rw [if_neg hji] at hp
      show (o :: L)[if j = i then 0 else j + 1]? = _
      rw [if_neg (Ne.symm hji)]; simpa using hp
  · split at he <;> split at he <;> omega

/-- An owned block is not written any more: it goes over to the ghost heap. (It must be one of the call's own.) -/
theorem St.freeze (h : St w0 X G0 G L w) (i : Nat) {b : Nat} {e : TypeId} {cs : List Value} (hi : L[i]? = some (some (b, e, cs))) (hb : w0.heap.size ≤ b) :
    St w0 X G0 (G.add b (.cells cs.toArray e)) (L.set i none) w := by
  have hsep := h.sep _ _ hi
  have d := h.drop i
  have hle := G.add_le (.cells cs.toArray e) (b := b) hsep.2
  refine ⟨h.kept, h.le.trans hle, fun k hk => by rw [GH.add_ne _ _ (by omega)]; exact h.new k hk, fun k o hk => ?_, d.own, fun j p hp => ⟨(d.sep j p hp).1, ?_⟩, d.nd⟩
  · by_cases hkb : k = b
    · subst hkb
      rw [GH.add_at] at hk
      obtain rfl := Option.some.inj hk
      exact h.get i hi
    · rw [GH.add_ne _ _ hkb] at hk; exact h.imm k o hk
  · rw [GH.add_ne]; exact (d.sep j p hp).2
    intro he
    rw [List.getElem?_set] at hp
    split at hp
    · split at hp <;> simp at hp
    · rename_i hji; exact hji (h.nd _ _ _ _ hi hp he.symm)
/-- With no block lent every owned block is the call's own. -/
theorem St.mine (h : St w0 [] G0 G L w) {i : Nat} {p : Nat × TypeId × List Value} (hp : L[i]? = some (some p)) : w0.heap.size ≤ p.1 := by
  have := (h.sep i p hp).1; simpa using this
end
end Go.Civ
