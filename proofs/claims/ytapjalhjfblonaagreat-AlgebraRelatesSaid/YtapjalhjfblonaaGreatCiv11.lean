/- Rows that a call hands back, and rows that it is lent. -/
import Derived.Test.YtapjalhjfblonaaGreatCiv10
import Derived.Laws.Cover3
namespace Go.Civ
open Go.RowKit
set_option linter.unusedVariables false

abbrev OB := Option (Nat × TypeId × List Value)
def blk : OB → List Nat | none => [] | some p => [p.1]
/-- A row just made: its block is new, and known to nobody. -/
def Fresh (w w' : World) (G : GH) (o : OB) : Prop := ∀ p, o = some p → w.heap.size ≤ p.1 ∧ w'.heap[p.1]? = some (objOf p.2) ∧ G p.1 = none
/-- A row that may be written: its block. -/
def Lent (w : World) (G : GH) (o : OB) : Prop := ∀ p, o = some p → w.heap[p.1]? = some (objOf p.2) ∧ G p.1 = none

theorem FnI2.up {P : Program} {α β : Type} {A : GH → Value → α → Prop} {B : GH → Value → β → Prop} {fid : Nat} {cap : Array Value} {G G' : GH} {on : α → β → Prop} {pf : α → β → Int} (h : FnI2 P A B fid cap G on pf) (k : G.le G') : FnI2 P A B fid cap G' on pf :=
  ⟨h.body, fun G2 w' v u x y hle => h.call G2 w' v u x y (k.trans hle)⟩
theorem FnB2.up {P : Program} {α β : Type} {A : GH → Value → α → Prop} {B : GH → Value → β → Prop} {fid : Nat} {cap : Array Value} {G G' : GH} {on : α → β → Prop} {pf : α → β → Bool} (h : FnB2 P A B fid cap G on pf) (k : G.le G') : FnB2 P A B fid cap G' on pf :=
  ⟨h.body, fun G2 w' v u x y hle => h.call G2 w' v u x y (k.trans hle)⟩

section
variable {w0 w w' : World} {X : List Nat} {G0 G G' : GH} {L : Own} {o : OB}
theorem St.freshAt (h : St w0 [] G0 G L w) (i : Nat) (hi : L[i]? = some o) : Fresh w0 w G o := fun p hp => by
  subst hp; exact ⟨h.mine hi, h.own i p hi, (h.sep i p hi).2⟩
theorem St.lentAt (h : St w0 X G0 G L w) (i : Nat) (hi : L[i]? = some o) : Lent w G o := fun p hp => by
  subst hp; exact ⟨h.own i p hi, (h.sep i p hi).2⟩
theorem St.adoptO (h : St w0 X G0 G L w) (r : Res [] w G w' G') (ho : Fresh w w' G' o) : St w0 X G0 G' (o :: L) w' := by
  cases o with
  | none => exact (h.call r).pad
  | some p =>
    obtain ⟨b, e, cs⟩ := p
    obtain ⟨h1, h2, h3⟩ := ho _ rfl
    exact h.adopt r h2 h1 h3
theorem St.lentO (h : G.In w) (ho : Lent w G o) : St w (blk o) G G [o] w := by
  cases o with
  | none => exact (St.start h).pad
  | some p =>
    obtain ⟨b, e, cs⟩ := p
    obtain ⟨h1, h2⟩ := ho _ rfl
    exact St.lent h h1 h2
theorem St.callRow (h : St w0 X G0 G L w) (i : Nat) (hi : L[i]? = some o) {o' : OB} (r : Res (blk o) w G w' G') {α : Type} {E : Enc α} {by_ : Nat} {e : TypeId} {v : Value} {l l' : List α}
    (h1 : Row E by_ e G v l o) (h2 : Row E by_ e G' v l' o') (hl : Lent w' G' o') : St w0 X G0 G' (L.set i o') w' := by
  rcases h1 with ⟨rfl, rfl, rfl⟩ | ⟨b, cs, cap, xs, rfl, rfl, _⟩
  · rcases h2 with ⟨rfl, _, rfl⟩ | ⟨b, cs, cap, xs, rfl, hv, _⟩
    · exact (h.call r).drop i
    · simp at hv
  · rcases h2 with ⟨rfl, hv, rfl⟩ | ⟨b', cs', cap', xs', rfl, hv, _⟩
    · simp at hv
    · simp at hv
      obtain ⟨rfl, _⟩ := hv
      exact h.callX i hi cs' r (hl _ rfl).1
theorem Row.cells1 {α : Type} {E : Enc α} {by_ : Nat} {e : TypeId} {v : Value} {l : List α} (h : Row E by_ e G v l o) : v.cells = [v].toArray := by obtain ⟨a, cap, rfl⟩ := h.shape; rfl
theorem ElPtr.inj {α : Type} {E : Enc α} {v : Value} {n : Nat} {p q : Addr} (h : ElPtr E v n p) (k : ElPtr E v n q) : p = q := by
  obtain ⟨a, l, c, rfl, _, rfl⟩ := h.ex
  obtain ⟨a', l', c', e, _, rfl⟩ := k.ex
  simp at e; rw [e.1]
theorem Sl.oneC {α : Type} {E : Enc α} {by_ : Nat} {v : Value} {l : List α} (h : Sl E by_ G v l) : v.oneCell' = true := by obtain ⟨a, cap, rfl, _⟩ := h; rfl
theorem Row.oneC {α : Type} {E : Enc α} {by_ : Nat} {e : TypeId} {v : Value} {l : List α} (h : Row E by_ e G v l o) : v.oneCell' = true := by obtain ⟨a, cap, rfl⟩ := h.shape; rfl
theorem Row.len {α : Type} {E : Enc α} {by_ : Nat} {e : TypeId} {v : Value} {l l' : List α} {o' : OB} (h1 : Row E by_ e G v l o) (h2 : Row E by_ e G' v l' o') : l'.length = l.length := by
  obtain ⟨a, c, h⟩ := h1.shape
  obtain ⟨a', c', h'⟩ := h2.shape
  rw [h] at h'; simp at h'; omega
end
section
variable {P : Program} {N : Nat} {Q : Exit → Env → World → Prop} {ρ : Env} {w : World} {ops : Array Oper} {rest : List Oper}
variable {d : Nat} {ty : TypeId} {pos : String} {af : Array Edge} {g : Option (Nat × Bool)} {G : GH}
theorem WL.addN {t ty' : TypeId} {x y : Operand} (a b : Nat) (hn : a + b ≤ 4 * reach)
    (hw : Region.wanted ⟨some d, .binOp .add t x y ty', ty, pos, af, g⟩ (yieldE ops ρ) = true) (hx : ev ρ x = .int .i64 (a : Int)) (hy : ev ρ y = .int .i64 (b : Int))
    (kk : WL P ops Q rest (upd ρ d (.int .i64 ((a + b : Nat) : Int))) w) : WL P ops Q (⟨some d, .binOp .add t x y ty', ty, pos, af, g⟩ :: rest) ρ w := by
  refine WL.ar .add rfl a b hw hx hy ⟨?_, ?_⟩ kk
  · simp only [Ar.f]; omega
  · simp only [Ar.f, reach] at *; omega
theorem WL.mulN {t ty' : TypeId} {x y : Operand} (a b : Nat) (hn : a * b ≤ 4 * reach)
    (hw : Region.wanted ⟨some d, .binOp .mul t x y ty', ty, pos, af, g⟩ (yieldE ops ρ) = true) (hx : ev ρ x = .int .i64 (a : Int)) (hy : ev ρ y = .int .i64 (b : Int))
    (kk : WL P ops Q rest (upd ρ d (.int .i64 ((a * b : Nat) : Int))) w) : WL P ops Q (⟨some d, .binOp .mul t x y ty', ty, pos, af, g⟩ :: rest) ρ w := by
  have e : ((a : Int) * (b : Int)) = ((a * b : Nat) : Int) := by simp
  refine WL.ar .mul rfl a b hw hx hy ⟨?_, ?_⟩ (by simp only [Ar.f, e]; exact kk)
  · simp only [Ar.f, e]; omega
  · simp only [Ar.f, e, reach] at *; omega
theorem run_guard_slice (op : BinOp) (t : TypeId) (x y : Operand) (a b : Option Addr) (l c m n : Nat) : (eqGuard op t x y (.slice a l c) (.slice b m n)).run P w = .ok () w := by
  unfold eqGuard; split <;> simp
/-- A slice is compared with nil. -/
theorem WL.nilEq {α : Type} {E : Enc α} {by_ : Nat} {t e ty' : TypeId} {x y : Operand} {v : Value} {l : List α} (hs : Sl E by_ G v l) (hu : P.underlying t = some (.slice e))
    (hw : Region.wanted ⟨some d, .binOp .eql t x y ty', ty, pos, af, g⟩ (yieldE ops ρ) = true) (hx : ev ρ x = v) (hy : ev ρ y = .slice none 0 0)
    (kN : l = [] → WL P ops Q rest (upd ρ d (.bool true)) w) (kS : WL P ops Q rest (upd ρ d (.bool false)) w) : WL P ops Q (⟨some d, .binOp .eql t x y ty', ty, pos, af, g⟩ :: rest) ρ w := by
  obtain ⟨a, cap, rfl, h1, h2, h3, h4⟩ := hs
  have run : (binOp .eql t (.slice a l.length cap) (.slice none 0 0)).run P w = .ok (.bool a.isNone) w := by
    simp only [binOp]
    simp [run_equal_slice_nil w t e a l.length cap hu]
  have go : ∀ b, a.isNone = b → WL P ops Q rest (upd ρ d (.bool b)) w → WL P ops Q (⟨some d, .binOp .eql t x y ty', ty, pos, af, g⟩ :: rest) ρ w := fun b hb kk => by
    subst hb
    refine WL.val hw ?_ rfl kk
    simp [execOp, hx, hy, run_guard_slice, run, Result.andThen]
  cases a with
  | some a => exact go false rfl kS
  | none =>
    refine go true rfl (kN ?_)
    cases l with
    | nil => rfl
    | cons x l => obtain ⟨p, hp, _⟩ := h4 0 x rfl; cases hp
end
end Go.Civ
