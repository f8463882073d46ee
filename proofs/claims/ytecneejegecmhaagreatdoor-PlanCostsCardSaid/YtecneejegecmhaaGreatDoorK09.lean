/- Lemmas. -/
import Derived.Test.YtecneejegecmhaaGreatDoorK08
import Derived.Lib.SlicesCompact
import Derived.Laws.Small
import Derived.Lib.AppendStr
import Derived.Laws.BytesString
import Derived.Laws.Bits64
import Derived.Maps.Views
set_option linter.unusedVariables false
set_option linter.unusedSimpArgs false
set_option linter.unnecessarySimpa false
namespace Go.Civ
set_option linter.unusedVariables false

def cover (r : List Span) (x : Int) : Prop := ∃ s ∈ r, s.a ≤ x ∧ x < s.b
structure Can (r : List Span) : Prop where
 apart : r.Pairwise fun p q => p.b < q.a
 pos : ∀ s ∈ r, s.a < s.b
theorem Can.tail {s : Span} {r : List Span} (h : Can (s :: r)) : Can r := ⟨(List.pairwise_cons.1 h.apart).2, fun t ht => h.pos t (by simp [ht])⟩
theorem XM {s : Span} {r : List Span} {x : Int} : cover (s :: r) x ↔ (s.a ≤ x ∧ x < s.b) ∨ cover r x := by simp [cover]
theorem Can.above {s : Span} {r : List Span} (h : Can (s :: r)) {x : Int} (hx : cover r x) : s.b < x := by
 obtain ⟨t, ht, h1, h2⟩ := hx
 have := (List.pairwise_cons.1 h.apart).1 t ht
 omega
theorem Can.unique : ∀ {r r' : List Span}, Can r → Can r' → (∀ x, cover r x ↔ cover r' x) → r = r'
 | [], [], _, _, _ => rfl
 | [], s :: r', _, h', h => by
  have := (h s.a).2 (XM.2 (.inl ⟨by omega, h'.pos s (by simp)⟩))
  obtain ⟨_, ht, _⟩ := this; simp at ht
 | s :: r, [], h', _, h => by
  have := (h s.a).1 (XM.2 (.inl ⟨by omega, h'.pos s (by simp)⟩))
  obtain ⟨_, ht, _⟩ := this; simp at ht
 | s :: r, s' :: r', h1, h2, h => by
  have p1 := h1.pos s (by simp)
  have p2 := h2.pos s' (by simp)
  have a1 : s'.a ≤ s.a := by
   rcases XM.1 ((h s.a).1 (XM.2 (.inl ⟨by omega, p1⟩))) with k | k
   ·exact k.1
   ·have := h2.above k; omega
  have a2 : s.a ≤ s'.a := by
   rcases XM.1 ((h s'.a).2 (XM.2 (.inl ⟨by omega, p2⟩))) with k | k
   ·exact k.1
   ·have := h1.above k; omega
  have b1 : s'.b ≤ s.b := by
   rcases Int.lt_or_le s.b s'.b with k | k
   ·rcases XM.1 ((h s.b).2 (XM.2 (.inl ⟨by omega, k⟩))) with k | k
    ·omega
    ·have := h1.above k; omega
   ·exact k
  have b2 : s.b ≤ s'.b := by
   rcases Int.lt_or_le s'.b s.b with k | k
   ·rcases XM.1 ((h s'.b).1 (XM.2 (.inl ⟨by omega, k⟩))) with k | k
    ·omega
    ·have := h2.above k; omega
   ·exact k
  have e : s = s' := by
   cases s; cases s'; simp only [Span.mk.injEq]; exact ⟨by simp only at a1 a2; omega, by simp only at b1 b2; omega⟩
  subst e
  rw [Can.unique h1.tail h2.tail fun x => ?_]
  constructor
  ·intro k
   have := h1.above k
   rcases XM.1 ((h x).1 (XM.2 (.inr k))) with q | q
   ·omega
   ·exact q
  ·intro k
   have := h2.above k
   rcases XM.1 ((h x).2 (XM.2 (.inr k))) with q | q
   ·omega
   ·exact q

def ZxE (out : List Span) (x : Span) : List Span :=
 match out[out.length - 1]? with
 | none => out ++ [x]
 | some p => if x.a ≤ p.b then out.set (out.length - 1) ⟨p.a, max p.b x.b⟩ else out ++ [x]
def Zvh (l : List Span) : List Span := l.foldl ZxE []
def ZxF (l : List Span) : List Span := l.mergeSort fun x y => decide (x.a ≤ y.a)
def ZxG (l : List Span) : List Span := Zvh (ZxF l)

theorem Zca {r t : List Span} {x : Int} : cover (r ++ t) x ↔ cover r x ∨ cover t x := by
 simp only [cover, List.mem_append]
 constructor
 ·rintro ⟨s, h | h, k⟩
  ·exact .inl ⟨s, h, k⟩
  ·exact .inr ⟨s, h, k⟩
 ·rintro (⟨s, h, k⟩ | ⟨s, h, k⟩)
  ·exact ⟨s, .inl h, k⟩
  ·exact ⟨s, .inr h, k⟩
theorem ZdC {s : Span} {x : Int} : cover [s] x ↔ s.a ≤ x ∧ x < s.b := by simp [cover]
end Go.Civ

namespace Go.Civ
set_option linter.unusedVariables false

structure TOrd {α : Type} (c : α → α → Int) : Prop where
 eq : ∀ x y, c x y = 0 ↔ x = y
 swap : ∀ x y, c x y < 0 ↔ 0 < c y x
 trans : ∀ x y z, c x y < 0 → c y z < 0 → c x z < 0
theorem TOrd.refl {α : Type} {c : α → α → Int} (h : TOrd c) (x : α) : c x x = 0 := (h.eq x x).2 rfl
theorem TOrd.le_trans {α : Type} {c : α → α → Int} (h : TOrd c) {x y z : α} (h1 : ¬ c y x < 0) (h2 : ¬ c z y < 0) : ¬ c z x < 0 := fun k => by
 
 by_cases e : c x y = 0
 ·obtain rfl := (h.eq x y).1 e; exact h2 k
 ·have hxy : c x y < 0 := by
   rcases Int.lt_or_le (c x y) 0 with q | q
   ·exact q
   ·exact absurd ((h.swap y x).2 (by omega)) h1
  exact h2 (h.trans z x y k hxy)
theorem Zml : TOrd sgn where
 eq x y := by unfold sgn; split <;> (try split) <;> omega
 swap x y := by
  unfold sgn; repeat' split
  all_goals omega
 trans x y z := by
  unfold sgn; repeat' split
  all_goals omega
theorem ZbR : ∀ a : List UInt8, Op.bytesLess a a = false
 | [] => rfl
 | x :: a => by simp [Op.bytesLess, ZbR a]
theorem ZkA : ∀ a b : List UInt8, Op.bytesLess a b = false → a = b ∨ Op.bytesLess b a = true
 | [], [], _ => .inl rfl
 | [], _ :: _, h => by simp [Op.bytesLess] at h
 | _ :: _, [], _ => .inr rfl
 | x :: a, y :: b, h => by
  simp only [Op.bytesLess, Bool.or_eq_false_iff, Bool.and_eq_false_iff, decide_eq_false_iff_not] at h
  by_cases e : x = y
  ·subst e
   rcases ZkA a b (by simpa using h.2) with rfl | k
   ·exact .inl rfl
   ·exact .inr (by simp [Op.bytesLess, k])
  ·refine .inr ?_
   have : y < x := by
    have h1 := h.1
    rw [UInt8.lt_iff_toNat_lt] at h1 ⊢
    have : x.toNat ≠ y.toNat := fun q => e (UInt8.toNat_inj.1 q)
    omega
   simp [Op.bytesLess, this]
theorem ZgZ : ∀ a b c : List UInt8, Op.bytesLess a b = true → Op.bytesLess b c = true → Op.bytesLess a c = true
 | _, [], _, h, _ => by cases ‹List UInt8› <;> simp [Op.bytesLess] at h
 | _, _ :: _, [], _, h => by simp [Op.bytesLess] at h
 | [], _ :: _, _ :: _, _, _ => rfl
 | x :: a, y :: b, z :: c, h1, h2 => by
  simp only [Op.bytesLess, Bool.or_eq_true, Bool.and_eq_true, decide_eq_true_eq, beq_iff_eq] at h1 h2 ⊢
  rcases h1 with h1 | ⟨rfl, h1⟩ <;> rcases h2 with h2 | ⟨rfl, h2⟩
  ·left; rw [UInt8.lt_iff_toNat_lt] at *; omega
  ·exact .inl h1
  ·exact .inl h2
  ·exact .inr ⟨rfl, ZgZ a b c h1 h2⟩
theorem ZtC {a b : List UInt8} (h : Op.bytesLess a b = true) : Op.bytesLess b a = false := by
 cases k : Op.bytesLess b a with
 | false => rfl
 | true => have := ZgZ a b a h k; rw [ZbR] at this; cases this
theorem Zmm {a b : List UInt8} : cmpS a b < 0 ↔ Op.bytesLess a b = true := by
 unfold cmpS; split
 ·simp [*]
 ·split
  ·rename_i h; subst h; simp [ZbR]
  ·simp [*]
theorem Zq3 : TOrd cmpS where
 eq x y := by
  unfold cmpS; split
  ·rename_i h; simp; rintro rfl; rw [ZbR] at h; cases h
  ·split <;> simp [*]
 swap x y := by
  rw [Zmm]
  constructor
  ·intro h
   unfold cmpS
   rw [ZtC h, if_neg (by simp), if_neg]
   ·decide
   ·rintro rfl; rw [ZbR] at h; cases h
  ·unfold cmpS
   intro h
   cases k : Op.bytesLess x y with
   | true => rfl
   | false =>
    rcases ZkA x y k with rfl | q
    ·rw [ZbR] at h; simp at h
    ·rw [q] at h; simp at h
 trans x y z h1 h2 := by rw [Zmm] at *; exact ZgZ x y z h1 h2
theorem TOrd.lex {α β γ : Type} {f : γ → α} {g : γ → β} {c : α → α → Int} {d : β → β → Int} (hc : TOrd c) (hd : TOrd d) (inj : ∀ x y, f x = f y → g x = g y → x = y) :
  TOrd fun x y => if c (f x) (f y) ≠ 0 then c (f x) (f y) else d (g x) (g y) where
 eq x y := by
  by_cases h : c (f x) (f y) = 0
  ·simp only [h]; simp only [ne_eq, not_true, if_false]
   rw [hd.eq]
   exact ⟨fun k => inj x y ((hc.eq _ _).1 h) k, fun k => by rw [k]⟩
  ·simp only [ne_eq, h, not_false_iff, if_true, false_iff]
   rintro rfl; exact h (hc.refl _)
 swap x y := by
  by_cases h : c (f x) (f y) = 0
  ·have h' : c (f y) (f x) = 0 := (hc.eq _ _).2 ((hc.eq _ _).1 h).symm
   simp only [h, h']; simp only [ne_eq, not_true, if_false]; exact hd.swap _ _
  ·have h' : c (f y) (f x) ≠ 0 := fun k => h ((hc.eq _ _).2 ((hc.eq _ _).1 k).symm)
   simp only [ne_eq, h, h', not_false_iff, if_true]; exact hc.swap _ _
 trans x y z := by
  by_cases h1 : c (f x) (f y) = 0
  ·have e1 := (hc.eq _ _).1 h1
   simp only [h1]; simp only [ne_eq, not_true, if_false, e1]
   by_cases h2 : c (f y) (f z) = 0
   ·simp only [h2]; simp only [not_true, if_false]; exact hd.trans _ _ _
   ·simp only [h2, not_false_iff, if_true]; exact fun _ k => k
  ·by_cases h2 : c (f y) (f z) = 0
   ·have e2 := (hc.eq _ _).1 h2
    simp only [ne_eq, h1, h2, not_false_iff, if_true]; simp only [not_true, if_false, ← e2, h1, not_false_iff, if_true]
    exact fun k _ => k
   ·simp only [ne_eq, h1, h2, not_false_iff, if_true]
    intro k1 k2
    have k3 := hc.trans _ _ _ k1 k2
    rw [if_pos (by omega)]; exact k3
def cmpNS (x y : Int × List UInt8) : Int := if sgn x.1 y.1 ≠ 0 then sgn x.1 y.1 else cmpS x.2 y.2
theorem Zo9 : TOrd cmpNS := TOrd.lex (f := Prod.fst) (g := Prod.snd) Zml Zq3 fun x y h1 h2 => Prod.ext h1 h2
theorem Zq4 : TOrd cmpV :=
 TOrd.lex (f := Val.k) (g := fun x : Val => (x.n, x.s)) Zml Zo9 fun x y h1 h2 => by
  cases x; cases y; simp at h1 h2; simp [h1, h2]
theorem Zq5 {α : Type} {c : α → α → Int} (h : TOrd c) : TOrd (ZaQ c) where
 eq x y := by
  induction x generalizing y with
  | nil => cases y <;> simp [ZaQ]
  | cons a x ih =>
   cases y with
   | nil => simp [ZaQ]
   | cons b y =>
    simp only [ZaQ]
    by_cases e : c a b = 0
    ·obtain rfl := (h.eq a b).1 e
     simp only [e]; simp only [ne_eq, not_true, if_false, List.cons.injEq, true_and]; exact ih y
    ·simp only [ne_eq, e, not_false_iff, if_true, List.cons.injEq, false_iff]
     rintro ⟨rfl, _⟩; exact e (h.refl _)
 swap x y := by
  induction x generalizing y with
  | nil => cases y <;> simp [ZaQ]
  | cons a x ih =>
   cases y with
   | nil => simp [ZaQ]
   | cons b y =>
    simp only [ZaQ]
    by_cases e : c a b = 0
    ·obtain rfl := (h.eq a b).1 e
     simp only [e]; simp only [ne_eq, not_true, if_false]; exact ih y
    ·have e' : c b a ≠ 0 := fun k => e ((h.eq _ _).2 ((h.eq _ _).1 k).symm)
     simp only [ne_eq, e, e', not_false_iff, if_true]; exact h.swap a b
 trans x y z := by
  induction x generalizing y z with
  | nil => cases y <;> cases z <;> simp [ZaQ]
  | cons a x ih =>
   cases y with
   | nil => simp [ZaQ]
   | cons b y =>
    cases z with
    | nil => simp [ZaQ]
    | cons d z =>
     simp only [ZaQ]
     by_cases e1 : c a b = 0
     ·obtain rfl := (h.eq a b).1 e1
      simp only [e1]; simp only [ne_eq, not_true, if_false]
      by_cases e2 : c a d = 0
      ·simp only [e2]; simp only [not_true, if_false]; exact ih y z
      ·simp only [e2, not_false_iff, if_true]; exact fun _ k => k
     ·by_cases e2 : c b d = 0
      ·obtain rfl := (h.eq b d).1 e2
       simp only [ne_eq, e1, not_false_iff, if_true]; exact fun k _ => k
      ·simp only [ne_eq, e1, e2, not_false_iff, if_true]
       intro k1 k2
       have k3 := h.trans _ _ _ k1 k2
       rw [if_pos (by omega)]; exact k3
theorem ord : TOrd (ZaQ cmpV) := Zq5 Zq4
def Znj (out : List Group) (f : Fact) : List Group :=
 match out[out.length - 1]? with
 | none => out ++ [⟨f.v, [f.t]⟩]
 | some g => if Zec g.v f.v = 0 then out.set (out.length - 1) ⟨g.v, g.t ++ [f.t]⟩ else out ++ [⟨f.v, [f.t]⟩]
def Zvi (l : List Fact) : Prop := ∀ f ∈ l, f.v.all Yo = true ∧ ZF f.t = true

theorem Zvi.perm {l l' : List Fact} (h : Zvi l) (hp : l'.Perm l) : Zvi l' := fun f hf => h f (hp.mem_iff.1 hf)
end Go.Civ

namespace Go.Civ
open Go.RowKit
set_option linter.unusedVariables false

structure GRel (G : GH) (gs : List Group) (L : List (List Val × Value)) (u : Value) (T : List Span) : Prop where
 len : L.length = gs.length
 val : ∀ (i : Nat) g, gs[i]? = some g → ∃ p, L[i]? = some p ∧ p.1 = g.v ∧ (i + 1 < gs.length → Sl SpanE 16 G p.2 g.t)
 last : ∀ g, gs[gs.length - 1]? = some g → (∃ p, L[gs.length - 1]? = some p ∧ p.2 = u) ∧ T = g.t
section
variable {G G' : GH} {gs : List Group} {L : List (List Val × Value)} {u : Value} {T : List Span} {f : Fact} {x : List Val × Value}
theorem GRel.mono (h : GRel G gs L u T) (k : G.le G') : GRel G' gs L u T :=
 ⟨h.len, fun i g hg => let ⟨p, h1, h2, h3⟩ := h.val i g hg; ⟨p, h1, h2, fun q => (h3 q).mono k⟩, h.last⟩
theorem GRel.nil : GRel G [] [] u T := ⟨rfl, fun i g h => by simp at h, fun g h => by simp at h⟩
theorem GRel.at (h : GRel G gs L u T) (hx : L[L.length - 1]? = some x) : ∃ g, gs[gs.length - 1]? = some g ∧ x.1 = g.v ∧ x.2 = u ∧ T = g.t := by
 have hl : L.length - 1 < L.length := (List.getElem?_eq_some_iff.1 hx).1
 rw [h.len] at hx hl
 obtain ⟨g, hg⟩ : ∃ g, gs[gs.length - 1]? = some g := ⟨_, List.getElem?_eq_getElem hl⟩
 obtain ⟨p, h1, h2, _⟩ := h.val _ g hg
 obtain ⟨⟨p', h3, h4⟩, h5⟩ := h.last g hg
 rw [hx] at h1 h3
 obtain rfl := Option.some.inj h1
 obtain rfl := Option.some.inj h3
 exact ⟨g, hg, h2, h4, h5⟩
theorem ZoB (h : gs.length = 0 ∨ ∃ g, gs[gs.length - 1]? = some g ∧ Zec g.v f.v ≠ 0) : Znj gs f = gs ++ [⟨f.v, [f.t]⟩] := by
 rcases h with h | ⟨g, hg, ho⟩
 ·obtain rfl := List.length_eq_zero_iff.1 h; rfl
 ·unfold Znj; rw [hg]; simp [ho]
theorem GRel.done (h : GRel G gs L u T) (hf : Sl SpanE 16 G u T) : ∀ (i : Nat) g, gs[i]? = some g → ∃ p, L[i]? = some p ∧ p.1 = g.v ∧ Sl SpanE 16 G p.2 g.t := fun i g hg => by
 obtain ⟨p, h1, h2, h3⟩ := h.val i g hg
 refine ⟨p, h1, h2, ?_⟩
 have hi : i < gs.length := (List.getElem?_eq_some_iff.1 hg).1
 by_cases hq : i + 1 < gs.length
 ·exact h3 hq
 ·have e : i = gs.length - 1 := by omega
  subst e
  obtain ⟨⟨p', k1, k2⟩, k3⟩ := h.last g hg
  rw [h1] at k1; obtain rfl := Option.some.inj k1
  rw [k2, ← k3]; exact hf
theorem GRel.push {u' : Value} (h : GRel G gs L u T) (hf : Sl SpanE 16 G u T) (hc : L.length = 0 ∨ ∃ x, L[L.length - 1]? = some x ∧ Zec x.1 f.v ≠ 0) : GRel G (Znj gs f) (L ++ [(f.v, u')]) u' [f.t] := by
 have hc' : gs.length = 0 ∨ ∃ g, gs[gs.length - 1]? = some g ∧ Zec g.v f.v ≠ 0 := by
  rcases hc with hc | ⟨x, hx, ho⟩
  ·exact .inl (by rw [← h.len]; exact hc)
  ·obtain ⟨g, hg, h1, _⟩ := h.at hx
   exact .inr ⟨g, hg, by rw [← h1]; exact ho⟩
 rw [ZoB hc']
 have hd := h.done hf
 refine ⟨by simp [h.len], fun i g hg => ?_, fun g hg => ?_⟩
 ·rw [List.getElem?_append] at hg
  split at hg
  ·rename_i hi
   obtain ⟨p, k1, k2, k3⟩ := hd i g hg
   exact ⟨p, by rw [List.getElem?_append, if_pos (by rw [h.len]; exact hi)]; exact k1, k2, fun _ => k3⟩
  ·rename_i hi
   have hi2 : i - gs.length < [(⟨f.v, [f.t]⟩ : Group)].length := (List.getElem?_eq_some_iff.1 hg).1
   have e : i = gs.length := by simp at hi2; omega
   subst e
   simp at hg; subst hg
   exact ⟨(f.v, u'), by rw [← h.len]; simp, rfl, fun q => by simp at q⟩
 ·simp at hg; subst hg
  exact ⟨⟨(f.v, u'), by simp [← h.len], rfl⟩, rfl⟩
theorem YX.ofNew {α : Type} {E : Enc α} {by_ : Nat} {e : TypeId} {b : Nat} {cs : List Value} {l : List α} {n : Nat} (hf : Qx E G l cs) (hn : n = l.length) (h1 : n * by_ ≤ reach) (h2 : n ≤ reach) : YX E by_ e G (.slice (some ⟨b, 0, none⟩) n n) l (some (b, e, cs)) := by
 subst hn
 exact .inr ⟨b, cs, l.length, cs, rfl, rfl, Nat.le_refl _, by unfold reach at h2; unfold maxLen; omega, hf.len, hf, List.take_of_length_le (by rw [hf.len]; exact Nat.le_refl _), h1, h2⟩
end
end Go.Civ

namespace Go.Civ
set_option linter.unusedVariables false

theorem map_take {g : Group} {k : Nat} {s : Span} (h : g.t[k]? = some s) : (g.t.take (k + 1)).map (Fact.mk g.v) = (g.t.take k).map (Fact.mk g.v) ++ [⟨g.v, s⟩] := by
 rw [List.take_add_one, h]; simp
end Go.Civ
namespace Go.Civ
open Go.RowKit
set_option linter.unusedVariables false
structure Rect where
 d : Span
 x : Span
deriving DecidableEq
structure HRow where
 v : List Val
 r : Rect
deriving DecidableEq
structure Foreign where
 cols : List (List UInt8)
 table : List UInt8
deriving DecidableEq
structure Schema where
 name : List UInt8
 cols : List Col
 key : Int
 fks : List Foreign
deriving DecidableEq
structure Table where
 s : Schema
 rows : List HRow
 last : Int
deriving DecidableEq
def ZxH : Enc Rect:=(Enc.pair SpanE SpanE).via fun x=>(x.d,x.x)
def ZrU : Enc HRow:=(Enc.pair (ValE.slice 32) ZxH).via fun x=>(x.v,x.r)
def Zcx : Enc Foreign:=(Enc.pair (Enc.str.slice 16) .str).via fun x=>(x.cols,x.table)
def Qv : Enc Schema:=(Enc.pair .str (Enc.pair (ColE.slice 24) (Enc.pair .int (Zcx.slice 40)))).via fun x=>(x.name,x.cols,x.key,x.fks)
section
variable {G : GH} {cs : List Value}
theorem Zj5 {x : Foreign} (h : Zcx.rep G x cs) : ∃ v,cs = [v,Za x.table] ∧ Sl Enc.str 16 G v x.cols ∧ x.table.length ≤ reach:=by
 obtain ⟨c1,c2,rfl,⟨v,rfl,h1⟩,rfl,h2⟩:=h
 exact ⟨v,rfl,h1,h2⟩
theorem Qj {x : Schema} (h : Qv.rep G x cs) : ∃ v u,cs = [Za x.name,v, .int .i64 x.key,u] ∧ x.name.length ≤ reach ∧ Sl ColE 24 G v x.cols ∧ Zj x.key ∧ Sl Zcx 40 G u x.fks:=by
 obtain ⟨c1,c2,rfl,⟨rfl,h1⟩,c3,c4,rfl,⟨v,rfl,h2⟩,c5,c6,rfl,⟨rfl,h3⟩,u,rfl,h4⟩:=h
 exact ⟨v,u,rfl,h1,h2,h3,h4⟩
theorem Zan (x : Schema) {v u : Value} (h1 : x.name.length ≤ reach) (h2 : Sl ColE 24 G v x.cols) (h3 : Zj x.key) (h4 : Sl Zcx 40 G u x.fks) : Qv.rep G x [Za x.name,v, .int .i64 x.key,u]:=
 ⟨_,_,rfl,⟨rfl,h1⟩,_,_,rfl,⟨v,rfl,h2⟩,_,_,rfl,⟨rfl,h3⟩,u,rfl,h4⟩
end
end Go.Civ
namespace Go.Civ
set_option linter.unusedVariables false
open Go.Lib (compact compactUpTo keeps)
def Zgn : List Int → Bool
 | x :: y :: r=>decide (x ≤ y) && Zgn (y :: r)
 | _=>true
theorem ZgH : ∀ {l : List Int},(∀ (k : Nat) x y,l[k]? = some y → l[k + 1]? = some x → y ≤ x) → Zgn l = true
 | a :: b :: r,h=>by
  simp only [Zgn,Bool.and_eq_true,decide_eq_true_eq]
  exact ⟨h 0 b a rfl rfl,ZgH fun k x y h1 h2=>h (k + 1) x y (by simpa using h1) (by simpa using h2)⟩
 | [],_=>rfl
 | [_],_=>rfl
def ZeN (l : List Int) (j : Int) : Prop:=∀ (q : Nat) (x y : Int),j ≤ q → l[q]? = some y → l[q + 1]? = some x → y ≤ x
theorem ZeN.start {l : List Int} {j : Int} (h : (l.length : Int) - 1 ≤ j) : ZeN l j:=fun q x y hq h1 h2=>by
 have:=(List.getElem?_eq_some_iff.1 h2).1; omega
theorem ZeN.step {l : List Int} {j x y : Int} (h : ZeN l j) (hj : 0 < j) (h1 : l[j.toNat]? = some x) (h2 : l[(j - 1).toNat]? = some y) (hxy : decide (x < y) = false) : ZeN l (j - 1):=fun q u v hq k1 k2=>by
 by_cases e : (q : Int) = j - 1
 ·have e1 : q = (j - 1).toNat:=by omega
  have e2 : q + 1 = j.toNat:=by omega
  rw [e2,h1] at k2
  rw [e1,h2] at k1
  obtain rfl:=Option.some.inj k1
  obtain rfl:=Option.some.inj k2
  have:=of_decide_eq_false hxy; omega
 ·exact h q u v (by omega) k1 k2
theorem ZeN.yes {l : List Int} {j : Int} (h : ZeN l j) (hj : j ≤ 0) : Zgn l = true:=ZgH fun k x y h1 h2=>h k x y (by omega) h1 h2
end Go.Civ
namespace Go.Civ
open Go.RowKit
set_option linter.unusedVariables false
theorem Sl.takeV {α : Type} {E : Enc α} {by_ : Nat} {G : GH} {a : Option Addr} {n len cap : Nat} {l : List α} (h : Sl E by_ G (.slice a len cap) l) (hn : n ≤ l.length) : Sl E by_ G (sliced a 0 n cap E.n) (l.take n):=by
 obtain ⟨a',cap',e,h2,h3,h4,h5⟩:=h
 simp only [Value.slice.injEq] at e
 obtain ⟨rfl,rfl,rfl⟩:=e
 have hl : (l.take n).length = n:=by rw [List.length_take]; omega
 have ev : sliced a 0 n cap E.n = .slice a n cap:=by
  unfold sliced
  cases a <;> simp [Addr.add]
 rw [ev]
 refine ⟨a,cap,by rw [hl],by omega,?_,by omega,fun i x hx=>?_⟩
 ·rw [hl]; exact Nat.le_trans (Nat.mul_le_mul_right _ hn) h3
 ·rw [List.getElem?_take] at hx
  split at hx
  ·exact h5 i x hx
  ·cases hx
theorem Sl.dropV {α : Type} {E : Enc α} {by_ : Nat} {G : GH} {a : Option Addr} {n len cap : Nat} {l : List α} (h : Sl E by_ G (.slice a len cap) l) (hn : n ≤ l.length) : Sl E by_ G (sliced a n len cap E.n) (l.drop n):=by
 obtain ⟨a',cap',e,h2,h3,h4,h5⟩:=h
 simp only [Value.slice.injEq] at e
 obtain ⟨rfl,rfl,rfl⟩:=e
 have hl : (l.drop n).length = l.length - n:=by rw [List.length_drop]
 unfold sliced
 by_cases hc : cap = n
 ·rw [if_pos hc]
  refine ⟨a,cap - n,by rw [hl],by omega,?_,by omega,fun i x hx=>?_⟩
  ·rw [hl]; exact Nat.le_trans (Nat.mul_le_mul_right _ (by omega)) h3
  ·have:=(List.getElem?_eq_some_iff.1 hx).1
   rw [hl] at this; omega
 ·rw [if_neg hc]
  refine ⟨a.map fun p=>p.add (n * E.n),cap - n,by rw [hl],by omega,?_,by omega,fun i x hx=>?_⟩
  ·rw [hl]; exact Nat.le_trans (Nat.mul_le_mul_right _ (by omega)) h3
  ·rw [List.getElem?_drop] at hx
   obtain ⟨p,rfl,hp,hel⟩:=h5 (n + i) x hx
   refine ⟨p.add (n * E.n),rfl,by rw [YC _ _ hp],?_⟩
   have e1 : (p.add (n * E.n)).add (i * E.n) = p.add ((n + i) * E.n):=by
    rw [YC _ _ (by rw [YC _ _ hp]),YC _ _ hp,YC _ _ hp,Nat.add_mul,Nat.add_assoc]
   rw [e1]; exact hel
section
variable {P : Program} {Q : Exit → Env → World → Prop} {ρ : Env} {w : World} {ops : Array Oper} {rest : List Oper} {K : Env → World → Prop}
variable {d : Nat} {ty : TypeId} {pos : String} {af : Array Edge} {g : Option (Nat × Bool)} {G : GH}
theorem ZtE {t e : TypeId} (hu : P.underlying t = some (.slice e)) : P.elem t = e:=by simp [Program.elem,hu]
theorem Zbn {α : Type} {E : Enc α} {by_ : Nat} {t e : TypeId} {x hi : Operand} {v : Value} {l : List α} {ti : TI} (hs : Sl E by_ G v l) (n : Nat) (hn : n ≤ l.length) (hu : P.underlying t = some (.slice e)) (ht : Yj P e = some ti) (hE : ti.size = E.n)
  (hw : Region.wanted ⟨some d, .slice t x none (some hi) none,ty,pos,af,g⟩ (Zu ops ρ) = true) (hx : ev ρ x = v) (hh : ev ρ hi = .int .i64 (n : Int))
  (k : ∀ v',Sl E by_ G v' (l.take n) → K (ZQ ρ d v') w) : OW P ops ⟨some d, .slice t x none (some hi) none,ty,pos,af,g⟩ ρ w K:=by
 obtain ⟨a,cap,rfl,h2,_⟩:=id hs
 have he:=ZtE hu
 have hu' : P.underlying t = some (.slice (P.elem t)):=by rw [he]; exact hu
 have run : (Instr.sliceAt t (.slice a l.length cap) none (some (.int .i64 (n : Int))) none).run P w = .ok (sliced a 0 n cap E.n) w:=by
  rw [run_sliceAt_slice w t _ _ _ _ hu',run_slice_h w t a l.length cap hu' .i64 (n : Int) (by omega) (by omega),he,Xt ht,hE]; rfl
 refine WL.val hw ?_ rfl (k _ (hs.takeV hn))
 simp [execOp,hx,hh,run,Result.andThen]
theorem Zi3 (op : BinOp) (t : TypeId) (x y : Operand) (a b : Bool) : (eqGuard op t x y (.bool a) (.bool b)).run P w = .ok () w:=by
 unfold eqGuard; split <;> simp
theorem Za7 {t ty' : TypeId} {x y : Operand} (a b : Bool) (hu : P.underlying t = some .bool)
  (hw : Region.wanted ⟨some d, .binOp .neq t x y ty',ty,pos,af,g⟩ (Zu ops ρ) = true) (hx : ev ρ x = .bool a) (hy : ev ρ y = .bool b)
  (kk : K (ZQ ρ d (.bool (!(a == b)))) w) : OW P ops ⟨some d, .binOp .neq t x y ty',ty,pos,af,g⟩ ρ w K:=by
 refine WL.val hw ?_ rfl kk
 simp [execOp,hx,hy,Zi3,run_neq_bool w t a b hu,Result.andThen]
end
section
variable {w0 w w' : World} {X : List Nat} {G0 G G' : GH} {L : Own} {o o' : OB}
end
end Go.Civ
namespace Go.Civ
open Go.RowKit
set_option linter.unusedVariables false
section
variable {P : Program} {Q : Exit → Env → World → Prop} {ρ : Env} {w : World} {ops : Array Oper} {rest : List Oper} {K : Env → World → Prop}
variable {d : Nat} {ty : TypeId} {pos : String} {af : Array Edge} {g : Option (Nat × Bool)} {G : GH}
theorem ZtF {t ty' : TypeId} {x y : Operand} (a b : Nat) (hba : b ≤ a) (hn : a ≤ 4 * reach)
  (hw : Region.wanted ⟨some d, .binOp .sub t x y ty',ty,pos,af,g⟩ (Zu ops ρ) = true) (hx : ev ρ x = .int .i64 (a : Int)) (hy : ev ρ y = .int .i64 (b : Int))
  (kk : K (ZQ ρ d (.int .i64 ((a - b : Nat) : Int))) w) : OW P ops ⟨some d, .binOp .sub t x y ty',ty,pos,af,g⟩ ρ w K:=by
 have e : ((a : Int) - (b : Int)) = ((a - b : Nat) : Int):=by omega
 refine WL.ar .sub rfl a b hw hx hy ⟨?_,?_⟩ (by simp only [Ar.f,e]; exact kk)
 ·simp only [Ar.f,e]; omega
 ·simp only [Ar.f,e,reach] at *; omega
end
section
variable {α : Type} {pf : α → α → Int} {l L M : List α}
def LoF (l : List α) (i lo : Nat) (p : α → Prop) : Prop:=i = lo ∨ ∃ y,l[i - 1]? = some y ∧ p y
def HiF (l : List α) (j hi : Nat) (p : α → Prop) : Prop:=j = hi ∨ ∃ y,l[j]? = some y ∧ p y
def C1F (pf : α → α → Int) (l : List α) (s lo n : Nat) : Prop:=s = lo ∨ ∃ u v,l[s - 1]? = some u ∧ l[n - s]? = some v ∧ ¬ pf v u < 0
def C2F (pf : α → α → Int) (l : List α) (r hi n : Nat) : Prop:=r = hi ∨ ∃ u v,l[r]? = some u ∧ l[n - r - 1]? = some v ∧ pf v u < 0
theorem LoF.start {i lo : Nat} {p : α → Prop} (h : i = lo) : LoF l i lo p:= .inl h
theorem HiF.start {i lo : Nat} {p : α → Prop} (h : i = lo) : HiF l i lo p:= .inl h
theorem C1F.start {s n : Nat} : C1F pf l s s n:= .inl rfl
theorem C2F.start {s n : Nat} : C2F pf l s s n:= .inl rfl
theorem LoF.step {h lo : Nat} {y : α} {p : α → Prop} (hy : l[h]? = some y) (hp : p y) : LoF l (h + 1) lo p:= .inr ⟨y,hy,hp⟩
theorem HiF.step {h hi : Nat} {y : α} {p : α → Prop} (hy : l[h]? = some y) (hp : p y) : HiF l h hi p:= .inr ⟨y,hy,hp⟩
theorem C1F.step {c n lo : Nat} {u v : α} (hu : l[c]? = some u) (hv : l[n - 1 - c]? = some v) (h : 0 ≤ pf v u) : C1F pf l (c + 1) lo n:=
 .inr ⟨u,v,hu,by rw [show n - (c + 1) = n - 1 - c by omega]; exact hv,by omega⟩
theorem C2F.step {c n hi : Nat} {u v : α} (hu : l[c]? = some u) (hv : l[n - 1 - c]? = some v) (h : pf v u < 0) : C2F pf l c hi n:=
 .inr ⟨u,v,hu,by rw [show n - c - 1 = n - 1 - c by omega]; exact hv,h⟩
inductive Blks (pf : α → α → Int) (L : List α) (bs n : Nat) : Nat → Prop
 | fin {a : Nat} : n ≤ a → Blks pf L bs n a
 | step {a : Nat} : Asc pf L a (min (a + bs) n) → Blks pf L bs n (a + bs) → Blks pf L bs n a
inductive Done (pf : α → α → Int) (L : List α) (bs : Nat) : Nat → Prop
 | zero : Done pf L bs 0
 | snoc {a : Nat} : Done pf L bs a → Asc pf L a (a + bs) → Done pf L bs (a + bs)
variable {bs n a : Nat}
theorem Blks.frame (h : Blks pf L bs n a) (k : ∀ p,a ≤ p → M[p]? = L[p]?) : Blks pf M bs n a:=by
 induction h with
 | fin h=>exact .fin h
 | step h1 h2 ih=>exact .step (h1.frame fun p hp _=>k p hp) (ih fun p hp=>k p (by omega))
theorem Done.frame (h : Done pf L bs a) (k : ∀ p,p < a → M[p]? = L[p]?) : Done pf M bs a:=by
 induction h with
 | zero=>exact .zero
 | snoc h1 h2 ih=>exact .snoc (ih fun p hp=>k p (by omega)) (h2.frame fun p _ hp=>k p hp)
theorem Done.blks (h : Done pf L bs a) (ha : a ≤ n) (k : Blks pf L bs n a) : Blks pf L bs n 0:=by
 induction h with
 | zero=>exact k
 | snoc h1 h2 ih=>exact ih (by omega) (.step (by rw [Nat.min_eq_left ha]; exact h2) k)
theorem Blks.head (h : Blks pf L bs n a) (ha : a < n) : Asc pf L a (min (a + bs) n) ∧ Blks pf L bs n (a + bs):=by
 cases h with
 | fin h=>omega
 | step h1 h2=>exact ⟨h1,h2⟩
theorem Blks.last (h : Asc pf L a n) (ha : n ≤ a + bs) : Blks pf L bs n a:= .step (by rw [Nat.min_eq_right ha]; exact h) (.fin ha)
theorem Blks.rest (h : Blks pf L bs n a) (h2 : a + bs < n) (h3 : n < a + 2 * bs) : Asc pf L a (a + bs) ∧ Asc pf L (a + bs) n:=by
 obtain ⟨k1,k2⟩:=h.head (by omega)
 obtain ⟨k3,_⟩:=k2.head h2
 rw [Nat.min_eq_left (by omega)] at k1
 rw [Nat.min_eq_right (by omega)] at k3
 exact ⟨k1,k3⟩
theorem Blks.one (h : Blks pf L bs n a) (h2 : n ≤ a + bs) : Asc pf L a n:=by
 rcases Nat.lt_or_ge a n with k | k
 ·have:=(h.head k).1
  rwa [Nat.min_eq_right h2] at this
 ·exact Asc.empty (by omega)
theorem Done.ins (h : Done pf L bs a) (k : Ins pf L M a (a + bs) (a + bs)) : Done pf M bs (a + bs):= .snoc (h.frame fun p hp=>k.frame p (by omega)) k.asc
theorem Done.last (h : Done pf L bs a) (k : Ins pf L M a n n) (ha : a ≤ n) (hn : n ≤ a + bs) : Blks pf M bs n 0:=(h.frame (M:=M) fun p hp=>k.frame p (by omega)).blks ha (.last k.asc hn)
end
end Go.Civ
namespace Go.Civ
open Go.RowKit Go.Maps Go.Lib
set_option linter.unusedVariables false
def Enc.u8 : Enc UInt8 where
 n:=1
 rep _ x cs:=cs = [.int .u8 (x.toNat : Int)]
 len h:=by rw [h]; rfl
 mono _ h:=h
 one h c hc:=by rw [h] at hc; simp at hc; subst hc; rfl
section
variable {P : Program} {N : Nat} {Q : Exit → Env → World → Prop} {ρ : Env} {w w0 : World} {ops : Array Oper} {rest : List Oper} {K : Env → World → Prop} {d : Nat} {ty : TypeId} {pos : String} {af : Array Edge} {g : Option (Nat × Bool)}
variable {X : List Nat} {G0 G : GH} {L : Own} {b : Nat}
theorem ZtO (n : Int) (h : 0 ≤ n) : IntKind.u8.wrap n = ((UInt8.ofNat n.toNat).toNat : Int):=by
 have : IntKind.u8.wrap n = n % 256:=by simp [IntKind.wrap,IntKind.bits,IntKind.signed]
 rw [this]; simp; omega
theorem Zez {t t' : TypeId} {x : Operand} {k k' : IntKind} (n : Int) (h0 : 0 ≤ n) (hs : P.underlying t = some (.int k)) (h : P.underlying t' = some (.int .u8))
  (hw : Region.wanted ⟨some d, .convert t t' x,ty,pos,af,g⟩ (Zu ops ρ) = true) (hx : ev ρ x = .int k' n)
  (kk : K (ZQ ρ d (.int .u8 ((UInt8.ofNat n.toNat).toNat : Int))) w) : OW P ops ⟨some d, .convert t t' x,ty,pos,af,g⟩ ρ w K:=by
 refine WL.val hw ?_ rfl kk
 simp [execOp,hx,convert,Yt hs,Yt h,Conv.intToInt,Result.andThen,ZtO n h0]
theorem Zmw {G : GH} : ∀ (s : List UInt8),Qx Enc.u8 G s (s.map fun c=>Value.int .u8 (c.toNat : Int))
 | []=>rfl
 | c :: s=>⟨[.int .u8 (c.toNat : Int)],_,rfl,rfl,Zmw s⟩
theorem ZgJ {G : GH} : ∀ (s : List UInt8) (xs : List Value),Qx Enc.u8 G s xs → xs = s.map fun c=>Value.int .u8 (c.toNat : Int)
 | [],xs,h=>h
 | c :: s,xs,⟨q,r,h1,h2,h3⟩=>by rw [h1,h2,ZgJ s r h3]; rfl
theorem Zjl : ∀ (l : List UInt8) (s : ByteArray),(l.map fun c=>((c.toNat : Nat) : Int)).foldl (fun (r : ByteArray) n=>r.push (UInt8.ofNat n.toNat)) s = ⟨s.data ++ l.toArray⟩
 | [],s=>by cases s; simp
 | c :: l,s=>by
  simp only [List.map_cons,List.foldl_cons,Zjl l,Int.toNat_natCast]
  congr 1
  have : UInt8.ofNat c.toNat = c:=by simp
  rw [this]
  cases s; simp [ByteArray.push]
theorem Zb6 {by_ : Nat} {t t' e : TypeId} {x : Operand} {v : Value} {l : List UInt8} (h : Sl Enc.u8 by_ G v l) (hS : St w0 X G0 G L w) (ht : P.underlying t = some (.slice e)) (he : P.underlying e = some (.int .u8)) (hd : P.underlying t' = some .string)
  (hw : Region.wanted ⟨some d, .convert t t' x,ty,pos,af,g⟩ (Zu ops ρ) = true) (hx : ev ρ x = v)
  (kk : K (ZQ ρ d (Za l)) w) : OW P ops ⟨some d, .convert t t' x,ty,pos,af,g⟩ ρ w K:=by
 refine WL.val hw ?_ rfl kk
 obtain ⟨a,cap,rfl,⟨rfl,rfl⟩ | ⟨p,news,rfl,hf,hn⟩⟩:=h.flat
 ·have:=run_convert_bytes_string (P:=P) w t t' e none 0 cap ht he hd
  simp only [List.length_nil] at hx ⊢
  simp [execOp,hx,this,Conv.bytesToString,Result.andThen,Za]
  rfl
 ·have:=run_convert_bytes_string (P:=P) w t t' e (some p) l.length cap ht he hd
  obtain rfl:=ZgJ _ _ hf
  have hmap : (l.map fun c=>Value.int .u8 (c.toNat : Int)) = (l.map fun c=>((c.toNat : Nat) : Int)).map (Value.int .u8):=by simp
  have h2 : (loadCells p l.length).run P w = .ok ((l.map fun c=>((c.toNat : Nat) : Int)).map (Value.int .u8)).toArray w:=by
   have h1:=run_firstCells_some (P:=P) w 1 l.length p l.length cap (l.map fun c=>Value.int .u8 (c.toNat : Int)) (by simp) (fun j u hu=>hn w hS.imm j u hu)
   simp only [Builtin.firstCells,Nat.mul_one] at h1
   rw [h1,hmap]
  have h3:=run_bytesToString (P:=P) w p l.length cap _ h2
  rw [Zjl] at h3
  simp [execOp,hx,this,h3,Result.andThen,Za]
def blks (L : Own) : List Nat:=L.filterMap fun o=>o.map (·.1)
def Zvu (P : Program) (Kt E : TypeId) (w : World) (b n : Nat) (f : List UInt8 → Option Int) : Prop:=
 ∃ D : DataW Unit,IsMap D ∧ w.ownsMap P Kt (plainElem P E) b n D ∧ ∀ s zd,D.atKey (.string s) zd = match f s with | some c=> .lit (.int .i64 c) | none=>zd
end
end Go.Civ
