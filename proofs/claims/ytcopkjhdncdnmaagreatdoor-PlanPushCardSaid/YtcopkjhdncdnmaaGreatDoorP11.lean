/- Lemmas. -/
import Derived.Test.YtcopkjhdncdnmaaGreatDoorP08
set_option linter.unusedSimpArgs false
namespace Go.Civ
set_option linter.unusedVariables false

def cover (r : List Span) (x : Int) : Prop := ∃ s ∈ r, s.a ≤ x ∧ x < s.b
structure Can (r : List Span) : Prop where
 apart : r.Pairwise fun p q => p.b < q.a
 pos : ∀ s ∈ r, s.a < s.b
theorem Can.tail {s : Span} {r : List Span} (h : Can (s :: r)) : Can r := ⟨(List.pairwise_cons.1 h.apart).2, fun t ht => h.pos t (by simp [ht])⟩
theorem X4 {s : Span} {r : List Span} {x : Int} : cover (s :: r) x ↔ (s.a ≤ x ∧ x < s.b) ∨ cover r x := by simp [cover]
theorem Can.above {s : Span} {r : List Span} (h : Can (s :: r)) {x : Int} (hx : cover r x) : s.b < x := by
 obtain ⟨t, ht, h1, h2⟩ := hx
 have := (List.pairwise_cons.1 h.apart).1 t ht
 omega
theorem Can.unique : ∀ {r r' : List Span}, Can r → Can r' → (∀ x, cover r x ↔ cover r' x) → r = r'
 | [], [], _, _, _ => rfl
 | [], s :: r', _, h', h => by
  have := (h s.a).2 (X4.2 (.inl ⟨by omega, h'.pos s (by simp)⟩))
  obtain ⟨_, ht, _⟩ := this; simp at ht
 | s :: r, [], h', _, h => by
  have := (h s.a).1 (X4.2 (.inl ⟨by omega, h'.pos s (by simp)⟩))
  obtain ⟨_, ht, _⟩ := this; simp at ht
 | s :: r, s' :: r', h1, h2, h => by
  have p1 := h1.pos s (by simp)
  have p2 := h2.pos s' (by simp)
  have a1 : s'.a ≤ s.a := by
   rcases X4.1 ((h s.a).1 (X4.2 (.inl ⟨by omega, p1⟩))) with k | k
   ·exact k.1
   ·have := h2.above k; omega
  have a2 : s.a ≤ s'.a := by
   rcases X4.1 ((h s'.a).2 (X4.2 (.inl ⟨by omega, p2⟩))) with k | k
   ·exact k.1
   ·have := h1.above k; omega
  have b1 : s'.b ≤ s.b := by
   rcases Int.lt_or_le s.b s'.b with k | k
   ·rcases X4.1 ((h s.b).2 (X4.2 (.inl ⟨by omega, k⟩))) with k | k
    ·omega
    ·have := h1.above k; omega
   ·exact k
  have b2 : s.b ≤ s'.b := by
   rcases Int.lt_or_le s'.b s.b with k | k
   ·rcases X4.1 ((h s'.b).1 (X4.2 (.inl ⟨by omega, k⟩))) with k | k
    ·omega
    ·have := h2.above k; omega
   ·exact k
  have e : s = s' := by
   cases s; cases s'; simp only [Span.mk.injEq]; exact ⟨by simp only at a1 a2; omega, by simp only at b1 b2; omega⟩
  subst e
  rw [Can.unique h1.tail h2.tail fun x => ?_]
  constructor
  ·intro k
   have := h1.above k
   rcases X4.1 ((h x).1 (X4.2 (.inr k))) with q | q
   ·omega
   ·exact q
  ·intro k
   have := h2.above k
   rcases X4.1 ((h x).2 (X4.2 (.inr k))) with q | q
   ·omega
   ·exact q

def Zse (out : List Span) (x : Span) : List Span :=
 match out[out.length - 1]? with
 | none => out ++ [x]
 | some p => if x.a ≤ p.b then out.set (out.length - 1) ⟨p.a, max p.b x.b⟩ else out ++ [x]
def ZqI (l : List Span) : List Span := l.foldl Zse []
def Zsf (l : List Span) : List Span := l.mergeSort fun x y => decide (x.a ≤ y.a)
def Zsg (l : List Span) : List Span := ZqI (Zsf l)

theorem ZbX {r t : List Span} {x : Int} : cover (r ++ t) x ↔ cover r x ∨ cover t x := by
 simp only [cover, List.mem_append]
 constructor
 ·rintro ⟨s, h | h, k⟩
  ·exact .inl ⟨s, h, k⟩
  ·exact .inr ⟨s, h, k⟩
 ·rintro (⟨s, h, k⟩ | ⟨s, h, k⟩)
  ·exact ⟨s, .inl h, k⟩
  ·exact ⟨s, .inr h, k⟩
theorem Zec {s : Span} {x : Int} : cover [s] x ↔ s.a ≤ x ∧ x < s.b := by simp [cover]
end Go.Civ

namespace Go.Civ
set_option linter.unusedVariables false

structure TOrd {α : Type} (c : α → α → Int) : Prop where
 eq : ∀ x y, c x y = 0 ↔ x = y
 swap : ∀ x y, c x y < 0 ↔ 0 < c y x
 trans : ∀ x y z, c x y < 0 → c y z < 0 → c x z < 0
theorem TOrd.refl {α : Type} {c : α → α → Int} (h : TOrd c) (x : α) : c x x = 0 := (h.eq x x).2 rfl
theorem TOrd.le_trans {α : Type} {c : α → α → Int} (h : TOrd c) {x y z : α} (h1 : ¬ c y x < 0) (h2 : ¬ c z y < 0) : ¬ c z x < 0 := fun k => by
 
 by_cases e : c x y = 0
 ·obtain rfl := (h.eq x y).1 e; exact h2 k
 ·have hxy : c x y < 0 := by
   rcases Int.lt_or_le (c x y) 0 with q | q
   ·exact q
   ·exact absurd ((h.swap y x).2 (by omega)) h1
  exact h2 (h.trans z x y k hxy)
theorem ZkX : TOrd sgn where
 eq x y := by unfold sgn; split <;> (try split) <;> omega
 swap x y := by
  unfold sgn; repeat' split
  all_goals omega
 trans x y z := by
  unfold sgn; repeat' split
  all_goals omega
theorem ZbQ : ∀ a : List UInt8, Op.bytesLess a a = false
 | [] => rfl
 | x :: a => by simp [Op.bytesLess, ZbQ a]
theorem Zj2 : ∀ a b : List UInt8, Op.bytesLess a b = false → a = b ∨ Op.bytesLess b a = true
 | [], [], _ => .inl rfl
 | [], _ :: _, h => by simp [Op.bytesLess] at h
 | _ :: _, [], _ => .inr rfl
 | x :: a, y :: b, h => by
  simp only [Op.bytesLess, Bool.or_eq_false_iff, Bool.and_eq_false_iff, decide_eq_false_iff_not] at h
  by_cases e : x = y
  ·subst e
   rcases Zj2 a b (by simpa using h.2) with rfl | k
   ·exact .inl rfl
   ·exact .inr (by simp [Op.bytesLess, k])
  ·refine .inr ?_
   have : y < x := by
    have h1 := h.1
    rw [UInt8.lt_iff_toNat_lt] at h1 ⊢
    have : x.toNat ≠ y.toNat := fun q => e (UInt8.toNat_inj.1 q)
    omega
   simp [Op.bytesLess, this]
theorem ZgE : ∀ a b c : List UInt8, Op.bytesLess a b = true → Op.bytesLess b c = true → Op.bytesLess a c = true
 | _, [], _, h, _ => by cases ‹List UInt8› <;> simp [Op.bytesLess] at h
 | _, _ :: _, [], _, h => by simp [Op.bytesLess] at h
 | [], _ :: _, _ :: _, _, _ => rfl
 | x :: a, y :: b, z :: c, h1, h2 => by
  simp only [Op.bytesLess, Bool.or_eq_true, Bool.and_eq_true, decide_eq_true_eq, beq_iff_eq] at h1 h2 ⊢
  rcases h1 with h1 | ⟨rfl, h1⟩ <;> rcases h2 with h2 | ⟨rfl, h2⟩
  ·left; rw [UInt8.lt_iff_toNat_lt] at *; omega
  ·exact .inl h1
  ·exact .inl h2
  ·exact .inr ⟨rfl, ZgE a b c h1 h2⟩
theorem ZpI {a b : List UInt8} (h : Op.bytesLess a b = true) : Op.bytesLess b a = false := by
 cases k : Op.bytesLess b a with
 | false => rfl
 | true => have := ZgE a b a h k; rw [ZbQ] at this; cases this
theorem ZkY {a b : List UInt8} : cmpS a b < 0 ↔ Op.bytesLess a b = true := by
 unfold cmpS; split
 ·simp [*]
 ·split
  ·rename_i h; subst h; simp [ZbQ]
  ·simp [*]
theorem Zon : TOrd cmpS where
 eq x y := by
  unfold cmpS; split
  ·rename_i h; simp; rintro rfl; rw [ZbQ] at h; cases h
  ·split <;> simp [*]
 swap x y := by
  rw [ZkY]
  constructor
  ·intro h
   unfold cmpS
   rw [ZpI h, if_neg (by simp), if_neg]
   ·decide
   ·rintro rfl; rw [ZbQ] at h; cases h
  ·unfold cmpS
   intro h
   cases k : Op.bytesLess x y with
   | true => rfl
   | false =>
    rcases Zj2 x y k with rfl | q
    ·rw [ZbQ] at h; simp at h
    ·rw [q] at h; simp at h
 trans x y z h1 h2 := by rw [ZkY] at *; exact ZgE x y z h1 h2
theorem TOrd.lex {α β γ : Type} {f : γ → α} {g : γ → β} {c : α → α → Int} {d : β → β → Int} (hc : TOrd c) (hd : TOrd d) (inj : ∀ x y, f x = f y → g x = g y → x = y) :
  TOrd fun x y => if c (f x) (f y) ≠ 0 then c (f x) (f y) else d (g x) (g y) where
 eq x y := by
  by_cases h : c (f x) (f y) = 0
  ·simp only [h]; simp only [ne_eq, not_true, if_false]
   rw [hd.eq]
   exact ⟨fun k => inj x y ((hc.eq _ _).1 h) k, fun k => by rw [k]⟩
  ·simp only [ne_eq, h, not_false_iff, if_true, false_iff]
   rintro rfl; exact h (hc.refl _)
 swap x y := by
  by_cases h : c (f x) (f y) = 0
  ·have h' : c (f y) (f x) = 0 := (hc.eq _ _).2 ((hc.eq _ _).1 h).symm
   simp only [h, h']; simp only [ne_eq, not_true, if_false]; exact hd.swap _ _
  ·have h' : c (f y) (f x) ≠ 0 := fun k => h ((hc.eq _ _).2 ((hc.eq _ _).1 k).symm)
   simp only [ne_eq, h, h', not_false_iff, if_true]; exact hc.swap _ _
 trans x y z := by
  by_cases h1 : c (f x) (f y) = 0
  ·have e1 := (hc.eq _ _).1 h1
   simp only [h1]; simp only [ne_eq, not_true, if_false, e1]
   by_cases h2 : c (f y) (f z) = 0
   ·simp only [h2]; simp only [not_true, if_false]; exact hd.trans _ _ _
   ·simp only [h2, not_false_iff, if_true]; exact fun _ k => k
  ·by_cases h2 : c (f y) (f z) = 0
   ·have e2 := (hc.eq _ _).1 h2
    simp only [ne_eq, h1, h2, not_false_iff, if_true]; simp only [not_true, if_false, ← e2, h1, not_false_iff, if_true]
    exact fun k _ => k
   ·simp only [ne_eq, h1, h2, not_false_iff, if_true]
    intro k1 k2
    have k3 := hc.trans _ _ _ k1 k2
    rw [if_pos (by omega)]; exact k3
def cmpNS (x y : Int × List UInt8) : Int := if sgn x.1 y.1 ≠ 0 then sgn x.1 y.1 else cmpS x.2 y.2
theorem ZmN : TOrd cmpNS := TOrd.lex (f := Prod.fst) (g := Prod.snd) ZkX Zon fun x y h1 h2 => Prod.ext h1 h2
theorem Zoo : TOrd cmpV :=
 TOrd.lex (f := Val.k) (g := fun x : Val => (x.n, x.s)) ZkX ZmN fun x y h1 h2 => by
  cases x; cases y; simp at h1 h2; simp [h1, h2]
theorem Zop {α : Type} {c : α → α → Int} (h : TOrd c) : TOrd (ZaS c) where
 eq x y := by
  induction x generalizing y with
  | nil => cases y <;> simp [ZaS]
  | cons a x ih =>
   cases y with
   | nil => simp [ZaS]
   | cons b y =>
    simp only [ZaS]
    by_cases e : c a b = 0
    ·obtain rfl := (h.eq a b).1 e
     simp only [e]; simp only [ne_eq, not_true, if_false, List.cons.injEq, true_and]; exact ih y
    ·simp only [ne_eq, e, not_false_iff, if_true, List.cons.injEq, false_iff]
     rintro ⟨rfl, _⟩; exact e (h.refl _)
 swap x y := by
  induction x generalizing y with
  | nil => cases y <;> simp [ZaS]
  | cons a x ih =>
   cases y with
   | nil => simp [ZaS]
   | cons b y =>
    simp only [ZaS]
    by_cases e : c a b = 0
    ·obtain rfl := (h.eq a b).1 e
     simp only [e]; simp only [ne_eq, not_true, if_false]; exact ih y
    ·have e' : c b a ≠ 0 := fun k => e ((h.eq _ _).2 ((h.eq _ _).1 k).symm)
     simp only [ne_eq, e, e', not_false_iff, if_true]; exact h.swap a b
 trans x y z := by
  induction x generalizing y z with
  | nil => cases y <;> cases z <;> simp [ZaS]
  | cons a x ih =>
   cases y with
   | nil => simp [ZaS]
   | cons b y =>
    cases z with
    | nil => simp [ZaS]
    | cons d z =>
     simp only [ZaS]
     by_cases e1 : c a b = 0
     ·obtain rfl := (h.eq a b).1 e1
      simp only [e1]; simp only [ne_eq, not_true, if_false]
      by_cases e2 : c a d = 0
      ·simp only [e2]; simp only [not_true, if_false]; exact ih y z
      ·simp only [e2, not_false_iff, if_true]; exact fun _ k => k
     ·by_cases e2 : c b d = 0
      ·obtain rfl := (h.eq b d).1 e2
       simp only [ne_eq, e1, not_false_iff, if_true]; exact fun k _ => k
      ·simp only [ne_eq, e1, e2, not_false_iff, if_true]
       intro k1 k2
       have k3 := h.trans _ _ _ k1 k2
       rw [if_pos (by omega)]; exact k3
theorem ord : TOrd (ZaS cmpV) := Zop Zoo
def ZlI (out : List Group) (f : Fact) : List Group :=
 match out[out.length - 1]? with
 | none => out ++ [⟨f.v, [f.t]⟩]
 | some g => if ZeG g.v f.v = 0 then out.set (out.length - 1) ⟨g.v, g.t ++ [f.t]⟩ else out ++ [⟨f.v, [f.t]⟩]
def ZqJ (l : List Fact) : Prop := ∀ f ∈ l, f.v.all Y1 = true ∧ Yj f.t = true

theorem ZqJ.perm {l l' : List Fact} (h : ZqJ l) (hp : l'.Perm l) : ZqJ l' := fun f hf => h f (hp.mem_iff.1 hf)
end Go.Civ

namespace Go.Civ
open Go.RowKit
set_option linter.unusedVariables false

structure GRel (G : GH) (gs : List Group) (L : List (List Val × Value)) (u : Value) (T : List Span) : Prop where
 len : L.length = gs.length
 val : ∀ (i : Nat) g, gs[i]? = some g → ∃ p, L[i]? = some p ∧ p.1 = g.v ∧ (i + 1 < gs.length → Sl SpanE 16 G p.2 g.t)
 last : ∀ g, gs[gs.length - 1]? = some g → (∃ p, L[gs.length - 1]? = some p ∧ p.2 = u) ∧ T = g.t
section
variable {G G' : GH} {gs : List Group} {L : List (List Val × Value)} {u : Value} {T : List Span} {f : Fact} {x : List Val × Value}
theorem GRel.mono (h : GRel G gs L u T) (k : G.le G') : GRel G' gs L u T :=
 ⟨h.len, fun i g hg => let ⟨p, h1, h2, h3⟩ := h.val i g hg; ⟨p, h1, h2, fun q => (h3 q).mono k⟩, h.last⟩
theorem GRel.nil : GRel G [] [] u T := ⟨rfl, fun i g h => by simp at h, fun g h => by simp at h⟩
theorem GRel.at (h : GRel G gs L u T) (hx : L[L.length - 1]? = some x) : ∃ g, gs[gs.length - 1]? = some g ∧ x.1 = g.v ∧ x.2 = u ∧ T = g.t := by
 have hl : L.length - 1 < L.length := (List.getElem?_eq_some_iff.1 hx).1
 rw [h.len] at hx hl
 obtain ⟨g, hg⟩ : ∃ g, gs[gs.length - 1]? = some g := ⟨_, List.getElem?_eq_getElem hl⟩
 obtain ⟨p, h1, h2, _⟩ := h.val _ g hg
 obtain ⟨⟨p', h3, h4⟩, h5⟩ := h.last g hg
 rw [hx] at h1 h3
 obtain rfl := Option.some.inj h1
 obtain rfl := Option.some.inj h3
 exact ⟨g, hg, h2, h4, h5⟩
theorem ZmP (h : gs.length = 0 ∨ ∃ g, gs[gs.length - 1]? = some g ∧ ZeG g.v f.v ≠ 0) : ZlI gs f = gs ++ [⟨f.v, [f.t]⟩] := by
 rcases h with h | ⟨g, hg, ho⟩
 ·obtain rfl := List.length_eq_zero_iff.1 h; rfl
 ·unfold ZlI; rw [hg]; simp [ho]
theorem GRel.done (h : GRel G gs L u T) (hf : Sl SpanE 16 G u T) : ∀ (i : Nat) g, gs[i]? = some g → ∃ p, L[i]? = some p ∧ p.1 = g.v ∧ Sl SpanE 16 G p.2 g.t := fun i g hg => by
 obtain ⟨p, h1, h2, h3⟩ := h.val i g hg
 refine ⟨p, h1, h2, ?_⟩
 have hi : i < gs.length := (List.getElem?_eq_some_iff.1 hg).1
 by_cases hq : i + 1 < gs.length
 ·exact h3 hq
 ·have e : i = gs.length - 1 := by omega
  subst e
  obtain ⟨⟨p', k1, k2⟩, k3⟩ := h.last g hg
  rw [h1] at k1; obtain rfl := Option.some.inj k1
  rw [k2, ← k3]; exact hf
theorem GRel.push {u' : Value} (h : GRel G gs L u T) (hf : Sl SpanE 16 G u T) (hc : L.length = 0 ∨ ∃ x, L[L.length - 1]? = some x ∧ ZeG x.1 f.v ≠ 0) : GRel G (ZlI gs f) (L ++ [(f.v, u')]) u' [f.t] := by
 have hc' : gs.length = 0 ∨ ∃ g, gs[gs.length - 1]? = some g ∧ ZeG g.v f.v ≠ 0 := by
  rcases hc with hc | ⟨x, hx, ho⟩
  ·exact .inl (by rw [← h.len]; exact hc)
  ·obtain ⟨g, hg, h1, _⟩ := h.at hx
   exact .inr ⟨g, hg, by rw [← h1]; exact ho⟩
 rw [ZmP hc']
 have hd := h.done hf
 refine ⟨by simp [h.len], fun i g hg => ?_, fun g hg => ?_⟩
 ·rw [List.getElem?_append] at hg
  split at hg
  ·rename_i hi
   obtain ⟨p, k1, k2, k3⟩ := hd i g hg
   exact ⟨p, by rw [List.getElem?_append, if_pos (by rw [h.len]; exact hi)]; exact k1, k2, fun _ => k3⟩
  ·rename_i hi
   have hi2 : i - gs.length < [(⟨f.v, [f.t]⟩ : Group)].length := (List.getElem?_eq_some_iff.1 hg).1
   have e : i = gs.length := by simp at hi2; omega
   subst e
   simp at hg; subst hg
   exact ⟨(f.v, u'), by rw [← h.len]; simp, rfl, fun q => by simp at q⟩
 ·simp at hg; subst hg
  exact ⟨⟨(f.v, u'), by simp [← h.len], rfl⟩, rfl⟩
end
end Go.Civ

namespace Go.Civ
set_option linter.unusedVariables false

theorem map_take {g : Group} {k : Nat} {s : Span} (h : g.t[k]? = some s) : (g.t.take (k + 1)).map (Fact.mk g.v) = (g.t.take k).map (Fact.mk g.v) ++ [⟨g.v, s⟩] := by
 rw [List.take_add_one, h]; simp
end Go.Civ
