/- Lemmas. -/
import Derived.Test.YthgeclodflmiaaaGreatN03
import Derived.Test.YthgeclodflmiaaaGreatN05
import Derived.Test.YthgeclodflmiaaaGreatN08
import Derived.Test.YthgeclodflmiaaaGreatN10
import Derived.WalkKit
import Derived.KernelRfl
namespace Go.Civ
set_option linter.unusedVariables false

structure IsPos (l : List Int) (x : Int) (i : Nat) : Prop where
 le : i ≤ l.length
 up : ∀ (j : Nat) y, i ≤ j → l[j]? = some y → x ≤ y
 low : ∀ y, 0 < i → l[i - 1]? = some y → y < x
theorem IsPos.unique {l : List Int} {x : Int} {i j : Nat} (h : IsPos l x i) (k : IsPos l x j) : i = j := by
 rcases Nat.lt_trichotomy i j with q | q | q
 ·have hj : j - 1 < l.length := by have := k.le; omega
  have h1 := h.up (j - 1) l[j - 1] (by omega) (List.getElem?_eq_getElem hj)
  have h2 := k.low l[j - 1] (by omega) (List.getElem?_eq_getElem hj)
  omega
 ·exact q
 ·have hi : i - 1 < l.length := by have := h.le; omega
  have h1 := k.up (i - 1) l[i - 1] (by omega) (List.getElem?_eq_getElem hi)
  have h2 := h.low l[i - 1] (by omega) (List.getElem?_eq_getElem hi)
  omega
def ZbS : List Int → Int → Nat
 | [], _ => 0
 | y :: r, x => if ZbS r x = 0 then (if y < x then 1 else 0) else ZbS r x + 1
theorem ZdU : ∀ (l : List Int) (x : Int), IsPos l x (ZbS l x)
 | [], x => ⟨Nat.le_refl _, fun j y _ h => by simp at h, fun y h => by simp [ZbS] at h⟩
 | y :: r, x => by
  have ih := ZdU r x
  simp only [ZbS]
  by_cases h0 : ZbS r x = 0
  ·rw [if_pos h0]
   rw [h0] at ih
   by_cases hy : y < x
   ·rw [if_pos hy]
    refine ⟨by simp, fun j z hj hz => ?_, fun z _ hz => ?_⟩
    ·cases j with
     | zero => omega
     | succ j => exact ih.up j z (by omega) (by simpa using hz)
    ·simp at hz; omega
   ·rw [if_neg hy]
    refine ⟨by simp, fun j z hj hz => ?_, fun z h => absurd h (by omega)⟩
    cases j with
    | zero => simp at hz; omega
    | succ j => exact ih.up j z (by omega) (by simpa using hz)
  ·rw [if_neg h0]
   refine ⟨by have := ih.le; simp; omega, fun j z hj hz => ?_, fun z _ hz => ?_⟩
   ·cases j with
    | zero => omega
    | succ j => exact ih.up j z (by omega) (by simpa using hz)
   ·have e : ZbS r x + 1 - 1 = (ZbS r x - 1) + 1 := by omega
    rw [e] at hz
    exact ih.low z (by omega) (by simpa using hz)
def Q1 (l : List Int) (x : Int) : List Int := if l[ZbS l x]? = some x then l else l.take (ZbS l x) ++ [x] ++ l.drop (ZbS l x)
theorem Zom {l : List Int} {x : Int} {i : Nat} (h : IsPos l x i) (k : l[i]? = some x) : Q1 l x = l := by
 obtain rfl := h.unique (ZdU l x)
 unfold Q1; rw [if_pos k]
theorem Zkq {l : List Int} {x : Int} {i : Nat} (h : IsPos l x i) (k : l[i]? ≠ some x) : Q1 l x = l.take i ++ [x] ++ l.drop i := by
 obtain rfl := h.unique (ZdU l x)
 unfold Q1; rw [if_neg k]
theorem Zgv (l : List Int) (x : Int) : (Q1 l x).length ≤ l.length + 1 := by
 unfold Q1; split
 ·omega
 ·have := (ZdU l x).le; simp; omega
theorem Zkr {l : List Int} {x y : Int} : y ∈ Q1 l x ↔ y ∈ l ∨ y = x := by
 unfold Q1
 split
 ·rename_i h
  constructor
  ·exact .inl
  ·rintro (h1 | rfl)
   ·exact h1
   ·exact List.mem_of_getElem? h
 ·rw [List.mem_append, List.mem_append, List.mem_singleton]
  constructor
  ·rintro ((h | h) | h)
   ·exact .inl (List.mem_of_mem_take h)
   ·exact .inr h
   ·exact .inl (List.mem_of_mem_drop h)
  ·rintro (h | h)
   ·rw [← List.take_append_drop (ZbS l x) l] at h
    rcases List.mem_append.1 h with k | k
    ·exact .inl (.inl k)
    ·exact .inr k
   ·exact .inl (.inr h)
theorem Zks {l : List Int} {x : Int} (h : l.Pairwise (· < ·)) : (Q1 l x).Pairwise (· < ·) := by
 unfold Q1
 split
 ·exact h
 ·rename_i hne
  have hp := ZdU l x
  generalize ZbS l x = i at *
  have low : ∀ y ∈ l.take i, y < x := fun y hy => by
   obtain ⟨j, hj, rfl⟩ := List.getElem_of_mem hy
   simp only [List.length_take] at hj
   rw [List.getElem_take]
   have hil : i - 1 < l.length := by have := hp.le; omega
   have h1 := hp.low l[i - 1] (by omega) (List.getElem?_eq_getElem hil)
   by_cases e : j = i - 1
   ·subst e; exact h1
   ·have := List.pairwise_iff_getElem.1 h j (i - 1) (by omega) hil (by omega)
    omega
  have up : ∀ y ∈ l.drop i, x < y := fun y hy => by
   obtain ⟨j, hj, rfl⟩ := List.getElem_of_mem hy
   simp only [List.length_drop] at hj
   rw [List.getElem_drop]
   have h1 := hp.up (i + j) l[i + j] (by omega) (List.getElem?_eq_getElem (by omega))
   have h0 := hp.up i l[i] (by omega) (List.getElem?_eq_getElem (by omega))
   have hn : l[i] ≠ x := fun e => hne (by rw [List.getElem?_eq_getElem (by omega), e])
   by_cases e : j = 0
   ·subst e; simp only [Nat.add_zero]; omega
   ·have := List.pairwise_iff_getElem.1 h i (i + j) (by omega) (by omega) (by omega)
    omega
  rw [List.pairwise_append, List.pairwise_append]
  refine ⟨⟨h.sublist (List.take_sublist _ _), by simp, fun y hy z hz => ?_⟩, h.sublist (List.drop_sublist _ _), fun y hy z hz => ?_⟩
  ·rw [List.mem_singleton.1 hz]; exact low y hy
  ·rcases List.mem_append.1 hy with hy | hy
   ·have := low y hy; have := up z hz; omega
   ·rw [List.mem_singleton.1 hy]; exact up z hz

def ZdV (l : List Int) (x : Int) (i : Nat) : Prop := ∀ (j : Nat) y, i ≤ j → l[j]? = some y → x ≤ y
theorem ZdV.start {l : List Int} {x : Int} : ZdV l x l.length := fun j y h1 h2 => by have := (List.getElem?_eq_some_iff.1 h2).1; omega
theorem ZdV.step {l : List Int} {x y : Int} {i : Nat} (h : ZdV l x i) (h1 : l[i - 1]? = some y) (hy : x ≤ y) : ZdV l x (i - 1) := fun j z hj hz => by
 by_cases e : j = i - 1
 ·subst e; rw [h1] at hz; obtain rfl := Option.some.inj hz; exact hy
 ·exact h j z (by omega) hz
theorem ZdV.zero {l : List Int} {x : Int} {i : Nat} (h : ZdV l x i) (hi : i = 0) : IsPos l x i := ⟨by omega, h, fun y h0 => by omega⟩
theorem ZdV.pos {l : List Int} {x y : Int} {i : Nat} (h : ZdV l x i) (hi : i ≤ l.length) (h1 : l[i - 1]? = some y) (hy : y < x) : IsPos l x i :=
 ⟨hi, h, fun z _ hz => by rw [h1] at hz; obtain rfl := Option.some.inj hz; exact hy⟩
theorem Zkt {l : List Int} {x : Int} {i : Nat} (h : IsPos l x i) (k : l.length ≤ i) : Q1 l x = l.take i ++ [x] ++ l.drop i := Zkq h (by rw [List.getElem?_eq_none k]; simp)
theorem Zku {l : List Int} {x y : Int} {i : Nat} (h : IsPos l x i) (k : l[i]? = some y) (hy : y ≠ x) : Q1 l x = l.take i ++ [x] ++ l.drop i := Zkq h (by rw [k]; simpa using hy)
theorem ZlP {l : List Int} {x y : Int} {i : Nat} (h : IsPos l x i) (k : l[i]? = some y) (hy : y = x) : Q1 l x = l := Zom h (by rw [k, hy])
def Y6 (l : List Span) : List Int := l.foldl (fun out s => Q1 (Q1 out s.a) s.b) []
theorem Zhn (l : List Span) (s : Span) : Y6 (l ++ [s]) = Q1 (Q1 (Y6 l) s.a) s.b := by simp [Y6, List.foldl_append]
theorem Znc {l : List Span} {k : Nat} {s : Span} (h : l[k]? = some s) : Y6 (l.take (k + 1)) = Q1 (Q1 (Y6 (l.take k)) s.a) s.b := by
 rw [List.take_add_one, h]; exact Zhn _ _
theorem Zon {l : List Span} {k : Nat} (h : l.length ≤ k) : Y6 (l.take k) = Y6 l := by rw [List.take_of_length_le h]
theorem Zdi : ∀ (n : Nat) (l : List Span), l.length = n → (Y6 l).Pairwise (· < ·) ∧ (∀ y, y ∈ Y6 l ↔ ∃ s ∈ l, y = s.a ∨ y = s.b) ∧ (Y6 l).length ≤ 2 * l.length
 | 0, l, hn => by
  obtain rfl := List.length_eq_zero_iff.1 hn
  simp [Y6]
 | n + 1, l, hn => by
  obtain ⟨p, x, rfl⟩ : ∃ p x, l = p ++ [x] := by
   rcases List.eq_nil_or_concat l with rfl | ⟨p, x, h⟩
   ·simp at hn
   ·exact ⟨p, x, by simpa using h⟩
  obtain ⟨h1, h2, h3⟩ := Zdi n p (by simpa using hn)
  rw [Zhn]
  refine ⟨Zks (Zks h1), fun y => ?_, ?_⟩
  ·rw [Zkr, Zkr, h2]
   constructor
   ·rintro ((⟨s, hs, e⟩ | e) | e)
    ·exact ⟨s, by simp [hs], e⟩
    ·exact ⟨x, by simp, .inl e⟩
    ·exact ⟨x, by simp, .inr e⟩
   ·rintro ⟨s, hs, e⟩
    rcases List.mem_append.1 hs with hs | hs
    ·exact .inl (.inl ⟨s, hs, e⟩)
    ·obtain rfl := List.mem_singleton.1 hs
     rcases e with e | e
     ·exact .inl (.inr e)
     ·exact .inr e
  ·have q1 := Zgv (Y6 p) x.a
   have q2 := Zgv (Q1 (Y6 p) x.a) x.b
   simp; omega
theorem Zi5 (l : List Span) : (Y6 l).Pairwise (· < ·) := (Zdi _ l rfl).1
theorem Zfj {l : List Span} {y : Int} : y ∈ Y6 l ↔ ∃ s ∈ l, y = s.a ∨ y = s.b := (Zdi _ l rfl).2.1 y
theorem Zdj (l : List Span) : (Y6 l).length ≤ 2 * l.length := (Zdi _ l rfl).2.2
theorem Znd {a b : List Int} (ha : a.Pairwise (· < ·)) (hb : b.Pairwise (· < ·)) (h : ∀ x, x ∈ a ↔ x ∈ b) : a = b :=
 Zct (c := Y1) ZaH (ha.imp fun {x y} k => by unfold Y1; rw [if_pos k]; decide) (hb.imp fun {x y} k => by unfold Y1; rw [if_pos k]; decide) h

def YC (l : List Span) (x : Int) : Bool := l.any fun s => decide (s.a ≤ x) && decide (x < s.b)
theorem Zag {l : List Span} {x : Int} : YC l x = true ↔ cover l x := by simp [YC, cover]
theorem Zuk {α : Type} {p : α → Bool} {l : List α} {k : Nat} (h : ∀ j, j < k → ∀ x, l[j]? = some x → p x = false) (hk : l.length ≤ k) : l.any p = false := by
 rw [List.any_eq_false]; intro x hx; rw [ZjQ h hk x hx]; simp
theorem ZsD {α : Type} {p : α → Bool} {l : List α} {k : Nat} {x : α} (hk : l[k]? = some x) (hx : p x = true) : l.any p = true := List.any_eq_true.2 ⟨x, List.mem_of_getElem? hk, hx⟩
def Zcv (out : List Span) (s : Span) : List Span := match out[out.length - 1]? with
 | some p => if p.b = s.a then out.set (out.length - 1) ⟨p.a, s.b⟩ else out ++ [s]
 | none => out ++ [s]
theorem Zkv {out : List Span} {s : Span} (h : out.length = 0) : Zcv out s = out ++ [s] := by
 obtain rfl := List.length_eq_zero_iff.1 h; rfl
theorem Zoo {out : List Span} {s p : Span} (h : out[out.length - 1]? = some p) (hp : p.b = s.a) : Zcv out s = out.set (out.length - 1) ⟨p.a, s.b⟩ := by unfold Zcv; rw [h]; simp [hp]
theorem Zqz {out : List Span} {s p : Span} (h : out[out.length - 1]? = some p) (hp : p.b ≠ s.a) : Zcv out s = out ++ [s] := by unfold Zcv; rw [h]; simp [hp]
theorem Zq0 (out : List Span) (s : Span) : (Zcv out s).length ≤ out.length + 1 := by
 unfold Zcv; split
 ·split <;> simp
 ·simp
theorem Zop (o : List Span) (p s : Span) : Zcv (o ++ [p]) s = if p.b = s.a then o ++ [⟨p.a, s.b⟩] else o ++ [p] ++ [s] := by
 unfold Zcv
 have e : (o ++ [p]).length - 1 = o.length := by simp
 rw [e, List.getElem?_append_right (Nat.le_refl _)]
 simp only [Nat.sub_self, List.getElem?_cons_zero]
 split
 ·rw [List.set_append_right _ _ (Nat.le_refl _)]; simp
 ·rfl
def Xv (kind : Int) (a b : Bool) : Bool := if kind = 1 then a || b else if kind = 2 then a && b else if kind = 3 then a && !b else !(a == b)
def Xl (kind : Int) (a b : List Span) (es : List Int) : Nat → List Span
 | 0 => []
 | k + 1 => match es[k]?, es[k + 1]? with
  | some x, some y => if Xv kind (YC a x) (YC b x) then Zcv (Xl kind a b es k) ⟨x, y⟩ else Xl kind a b es k
  | _, _ => Xl kind a b es k
def Yn (kind : Int) (a b : List Span) : List Span := Xl kind a b (Y6 (a ++ b)) ((Y6 (a ++ b)).length - 1)
theorem Zi6 {kind : Int} {a b : List Span} {es : List Int} {k : Nat} {x y : Int} (h1 : es[k]? = some x) (h2 : es[k + 1]? = some y) (h : Xv kind (YC a x) (YC b x) = true) : Xl kind a b es (k + 1) = Zcv (Xl kind a b es k) ⟨x, y⟩ := by
 simp only [Xl, h1, h2]; rw [if_pos h]
theorem Zq1 {kind : Int} {a b : List Span} {es : List Int} {k : Nat} {x y : Int} (h1 : es[k]? = some x) (h2 : es[k + 1]? = some y) (h : Xv kind (YC a x) (YC b x) = false) : Xl kind a b es (k + 1) = Xl kind a b es k := by
 simp only [Xl, h1, h2]; rw [if_neg (by rw [h]; simp)]
theorem Zoq {kind : Int} {a b : List Span} {es : List Int} {k : Nat} {x : Int} (h1 : es[k]? = some x) (h : Xv kind (YC a x) (YC b x) = false) : Xl kind a b es (k + 1) = Xl kind a b es k := by
 simp only [Xl, h1]; split
 ·rename_i e1 e2; obtain rfl := Option.some.inj e1; rw [if_neg (by rw [h]; simp)]
 ·rfl
theorem Zfk {kind : Int} {a b : List Span} {es : List Int} : ∀ k, (Xl kind a b es k).length ≤ k
 | 0 => by simp [Xl]
 | k + 1 => by
  have ih := Zfk (kind := kind) (a := a) (b := b) (es := es) k
  simp only [Xl]
  split
  ·split
   ·have := Zq0 (Xl kind a b es k); rename_i x y _ _ _; have := this ⟨x, y⟩; omega
   ·omega
  ·omega
section
variable {es : List Int} (hs : es.Pairwise (· < ·))
include hs
theorem Zsi {i j : Nat} {x y : Int} (h1 : es[i]? = some x) (h2 : es[j]? = some y) (hij : i < j) : x < y := by
 obtain ⟨a, rfl⟩ := List.getElem?_eq_some_iff.1 h1
 obtain ⟨b, rfl⟩ := List.getElem?_eq_some_iff.1 h2
 exact List.pairwise_iff_getElem.1 hs i j a b hij
theorem Zkw {i : Nat} {u v y : Int} (h1 : es[i]? = some u) (h2 : es[i + 1]? = some v) (hy : y ∈ es) (h : y < v) : y ≤ u := by
 obtain ⟨j, hj⟩ := List.getElem?_of_mem hy
 rcases Nat.lt_or_ge i j with q | q
 ·rcases Nat.lt_or_ge (i + 1) j with r | r
  ·have := Zsi hs h2 hj r; omega
  ·have : j = i + 1 := by omega
   subst this; rw [h2] at hj; obtain rfl := Option.some.inj hj; omega
 ·rcases Nat.lt_or_ge j i with r | r
  ·have := Zsi hs hj h1 r; omega
  ·have : j = i := by omega
   subst this; rw [h1] at hj; obtain rfl := Option.some.inj hj; omega
theorem Zq2 {i : Nat} {u v y : Int} (h1 : es[i]? = some u) (h2 : es[i + 1]? = some v) (hy : y ∈ es) (h : u < y) : v ≤ y := by
 rcases Int.lt_or_le y v with q | q
 ·have := Zkw hs h1 h2 hy q; omega
 ·exact q
theorem Zjm {l : List Span} (hl : ∀ s ∈ l, s.a ∈ es ∧ s.b ∈ es) {i : Nat} {u v x : Int} (h1 : es[i]? = some u) (h2 : es[i + 1]? = some v) (hx : u ≤ x) (hx' : x < v) : cover l x ↔ cover l u := by
 constructor
 ·rintro ⟨s, hsl, a1, a2⟩
  have := Zkw hs h1 h2 (hl s hsl).1 (by omega)
  exact ⟨s, hsl, this, by omega⟩
 ·rintro ⟨s, hsl, a1, a2⟩
  have := Zq2 hs h1 h2 (hl s hsl).2 a2
  exact ⟨s, hsl, by omega, by omega⟩
omit hs in
theorem ZlQ : ∀ {es : List Int} {x p q : Int}, p ∈ es → q ∈ es → p ≤ x → x < q → es.Pairwise (· < ·) → ∃ (i : Nat) (u v : Int), es[i]? = some u ∧ es[i + 1]? = some v ∧ u ≤ x ∧ x < v
 | [], _, _, _, h, _, _, _, _ => by simp at h
 | [e], x, p, q, h1, h2, h3, h4, _ => by simp at h1 h2; omega
 | e :: f :: r, x, p, q, h1, h2, h3, h4, hp => by
  rcases Int.lt_or_le x f with k | k
  ·have hp' := List.pairwise_cons.1 hp
   refine ⟨0, e, f, rfl, rfl, ?_, k⟩
   rcases List.mem_cons.1 h1 with rfl | h1
   ·exact h3
   ·have := hp'.1 p h1; omega
  ·have hp' := List.pairwise_cons.1 hp
   have hq : q ∈ f :: r := by
    rcases List.mem_cons.1 h2 with rfl | h2
    ·have := hp'.1 f (by simp); omega
    ·exact h2
   obtain ⟨i, u, v, a1, a2, a3⟩ := ZlQ (es := f :: r) (x := x) (p := f) (q := q) (by simp) hq k h4 hp'.2
   exact ⟨i + 1, u, v, by simpa using a1, by simpa using a2, a3⟩
end
structure CombInv (kind : Int) (a b : List Span) (es : List Int) (k : Nat) (out : List Span) : Prop where
 can : Can out
 top : ∀ s ∈ out, ∀ e, es[k]? = some e → s.b ≤ e
 cov : ∀ x, cover out x ↔ ∃ i u v, i < k ∧ es[i]? = some u ∧ es[i + 1]? = some v ∧ u ≤ x ∧ x < v ∧ Xv kind (YC a u) (YC b u) = true
theorem Zi7 {kind : Int} {a b : List Span} {es : List Int} (hs : es.Pairwise (· < ·)) : ∀ k, k < es.length → CombInv kind a b es k (Xl kind a b es k)
 | 0, _ => ⟨⟨List.Pairwise.nil, by simp [Xl]⟩, by simp [Xl], fun x => by simp [Xl, cover]⟩
 | k + 1, hk => by
  have ih := Zi7 (kind := kind) (a := a) (b := b) hs k (by omega)
  have h1 : es[k]? = some es[k] := List.getElem?_eq_getElem (by omega)
  have h2 : es[k + 1]? = some es[k + 1] := List.getElem?_eq_getElem hk
  have hlt : es[k] < es[k + 1] := List.pairwise_iff_getElem.1 hs k (k + 1) (by omega) hk (by omega)
  have step : ∀ x, (∃ i u v, i < k + 1 ∧ es[i]? = some u ∧ es[i + 1]? = some v ∧ u ≤ x ∧ x < v ∧ Xv kind (YC a u) (YC b u) = true) ↔
    (∃ i u v, i < k ∧ es[i]? = some u ∧ es[i + 1]? = some v ∧ u ≤ x ∧ x < v ∧ Xv kind (YC a u) (YC b u) = true) ∨ (es[k] ≤ x ∧ x < es[k + 1] ∧ Xv kind (YC a es[k]) (YC b es[k]) = true) := fun x => by
   constructor
   ·rintro ⟨i, u, v, hi, e1, e2, e3, e4, e5⟩
    by_cases e : i = k
    ·subst e
     rw [h1] at e1; rw [h2] at e2
     obtain rfl := Option.some.inj e1
     obtain rfl := Option.some.inj e2
     exact .inr ⟨e3, e4, e5⟩
    ·exact .inl ⟨i, u, v, by omega, e1, e2, e3, e4, e5⟩
   ·rintro (⟨i, u, v, hi, e1, e2, e3, e4, e5⟩ | ⟨e3, e4, e5⟩)
    ·exact ⟨i, u, v, by omega, e1, e2, e3, e4, e5⟩
    ·exact ⟨k, _, _, by omega, h1, h2, e3, e4, e5⟩
  cases hkp : Xv kind (YC a es[k]) (YC b es[k]) with
  | false =>
   rw [Zq1 h1 h2 hkp]
   refine ⟨ih.can, fun s hs' e he => ?_, fun x => ?_⟩
   ·rw [h2] at he
    obtain rfl := Option.some.inj he
    have := ih.top s hs' _ h1; omega
   ·rw [step, ih.cov, hkp]; simp
  | true =>
   rw [Zi6 h1 h2 hkp]
   rcases List.eq_nil_or_concat (Xl kind a b es k) with h0 | ⟨o, q, h0⟩
   ·rw [h0] at ih ⊢
    rw [Zkv rfl]
    refine ⟨⟨by simp, by simpa using hlt⟩, fun s hs' e he => ?_, fun x => ?_⟩
    ·rw [h2] at he
     obtain rfl := Option.some.inj he
     simp at hs'; subst hs'; exact Int.le_refl _
    ·rw [step, ← ih.cov, hkp, List.nil_append, Q3]; simp [cover]
   ·have h0 : Xl kind a b es k = o ++ [q] := by simpa using h0
    rw [h0] at ih ⊢
    have hap := List.pairwise_append.1 ih.can.apart
    have hq := ih.can.pos q (by simp)
    have hqt := ih.top q (by simp) _ h1
    rw [Zop]
    by_cases hj : q.b = es[k]
    ·rw [if_pos hj]
     refine ⟨⟨List.pairwise_append.2 ⟨hap.1, by simp, fun u hu v hv => ?_⟩, fun s hs' => ?_⟩, fun s hs' e he => ?_, fun x => ?_⟩
     ·obtain rfl := List.mem_singleton.1 hv
      exact hap.2.2 u hu q (by simp)
     ·rcases List.mem_append.1 hs' with hs' | hs'
      ·exact ih.can.pos s (by simp [hs'])
      ·obtain rfl := List.mem_singleton.1 hs'
       simp only; omega
     ·rw [h2] at he
      obtain rfl := Option.some.inj he
      rcases List.mem_append.1 hs' with hs' | hs'
      ·have := ih.top s (by simp [hs']) _ h1; omega
      ·obtain rfl := List.mem_singleton.1 hs'; exact Int.le_refl _
     ·rw [step, ← ih.cov, hkp, X4, X4, or_assoc]
      refine or_congr Iff.rfl ?_
      rw [Q3, Q3]
      simp only [and_true]
      constructor <;> intro h <;> omega
    ·rw [if_neg hj]
     refine ⟨⟨List.pairwise_append.2 ⟨ih.can.apart, by simp, fun u hu v hv => ?_⟩, fun s hs' => ?_⟩, fun s hs' e he => ?_, fun x => ?_⟩
     ·obtain rfl := List.mem_singleton.1 hv
      rcases List.mem_append.1 hu with hu | hu
      ·have := hap.2.2 u hu q (by simp); simp only; omega
      ·obtain rfl := List.mem_singleton.1 hu; simp only; omega
     ·rcases List.mem_append.1 hs' with hs' | hs'
      ·exact ih.can.pos s hs'
      ·obtain rfl := List.mem_singleton.1 hs'; exact hlt
     ·rw [h2] at he
      obtain rfl := Option.some.inj he
      rcases List.mem_append.1 hs' with hs' | hs'
      ·have := ih.top s hs' _ h1; omega
      ·obtain rfl := List.mem_singleton.1 hs'; exact Int.le_refl _
     ·rw [step, ← ih.cov, hkp, X4 (r := o ++ [q]), Q3]; simp
theorem Zcm {kind : Int} {a b : List Span} (h0 : Xv kind false false = false) (ha : ∀ s ∈ a, s.a < s.b) (hb : ∀ s ∈ b, s.a < s.b) :
  Can (Yn kind a b) ∧ ∀ x, cover (Yn kind a b) x ↔ Xv kind (YC a x) (YC b x) = true := by
 have hs := Zi5 (a ++ b)
 have hl : ∀ s ∈ a ++ b, s.a ∈ Y6 (a ++ b) ∧ s.b ∈ Y6 (a ++ b) := fun s hs => ⟨Zfj.2 ⟨s, hs, .inl rfl⟩, Zfj.2 ⟨s, hs, .inr rfl⟩⟩
 unfold Yn
 generalize Y6 (a ++ b) = es at *
 have eqv : ∀ {l : List Span}, (∀ s ∈ l, s ∈ a ++ b) → ∀ {i : Nat} {u v x : Int}, es[i]? = some u → es[i + 1]? = some v → u ≤ x → x < v → YC l x = YC l u := fun hl' i u v x e1 e2 e3 e4 => by
  rw [Bool.eq_iff_iff, Zag, Zag]
  exact Zjm hs (fun s hs' => hl s (hl' s hs')) e1 e2 e3 e4
 have fin : ∀ x, Xv kind (YC a x) (YC b x) = true → ∃ i u v, es[i]? = some u ∧ es[i + 1]? = some v ∧ u ≤ x ∧ x < v := fun x hx => by
  have : cover (a ++ b) x := by
   rw [X4, ← Zag, ← Zag]
   cases e1 : YC a x <;> cases e2 : YC b x <;> simp_all
  obtain ⟨s, hs', a1, a2⟩ := this
  obtain ⟨i, u, v, q⟩ := ZlQ (hl s hs').1 (hl s hs').2 a1 a2 hs
  exact ⟨i, u, v, q⟩
 rcases Nat.eq_zero_or_pos es.length with hz | hpos
 ·rw [show es.length - 1 = 0 by omega]
  refine ⟨⟨List.Pairwise.nil, by simp [Xl]⟩, fun x => ?_⟩
  simp only [Xl]
  constructor
  ·rintro ⟨s, hs', _⟩; simp at hs'
  ·intro h
   obtain ⟨i, u, v, e1, _⟩ := fin x h
   have := (List.getElem?_eq_some_iff.1 e1).1; omega
 ·have inv := Zi7 (kind := kind) (a := a) (b := b) hs (es.length - 1) (by omega)
  refine ⟨inv.can, fun x => ?_⟩
  rw [inv.cov]
  constructor
  ·rintro ⟨i, u, v, hi, e1, e2, e3, e4, e5⟩
   rw [eqv (l := a) (fun s hs => by simp [hs]) e1 e2 e3 e4, eqv (l := b) (fun s hs => by simp [hs]) e1 e2 e3 e4]; exact e5
  ·intro h
   obtain ⟨i, u, v, e1, e2, e3, e4⟩ := fin x h
   have := (List.getElem?_eq_some_iff.1 e2).1
   rw [eqv (l := a) (fun s hs => by simp [hs]) e1 e2 e3 e4, eqv (l := b) (fun s hs => by simp [hs]) e1 e2 e3 e4] at h
   exact ⟨i, u, v, by omega, e1, e2, e3, e4, h⟩
theorem Zlx {l : List Span} (hp : ∀ s ∈ l, s.a < s.b) : Yn 1 l [] = Zao l := by
 obtain ⟨h1, h2⟩ := Zcm (kind := 1) (a := l) (b := []) rfl hp (by simp)
 refine Can.unique h1 (Q4 hp).can fun x => ?_
 rw [h2, (Q4 hp).cov]
 simp [Xv, YC, ← Zag]
theorem Zor {kind : Int} {a b : List Span} {k : Nat} (h : k < (Y6 (a ++ b)).length ∨ k = 0) (h2 : (Y6 (a ++ b)).length ≤ k + 1) : Xl kind a b (Y6 (a ++ b)) k = Yn kind a b := by
 unfold Yn
 rw [show (Y6 (a ++ b)).length - 1 = k by omega]
end Go.Civ
namespace Go.Civ
set_option linter.unusedVariables false

theorem Zfl (x y : UInt8) (a b : List UInt8) : cmpS (x :: a) (y :: b) = if x = y then cmpS a b else Y1 (x.toNat : Int) (y.toNat : Int) := by
 unfold cmpS
 by_cases e : x = y
 ·subst e
  rw [if_pos rfl]
  simp [Op.bytesLess]
 ·rw [if_neg e]
  have hn : x.toNat ≠ y.toNat := fun q => e (UInt8.toNat_inj.1 q)
  simp only [Op.bytesLess, List.cons.injEq, e, false_and, if_false]
  have hbe : (x == y) = false := by simpa using e
  rw [hbe]
  simp only [Bool.false_and, Bool.or_false, decide_eq_true_eq]
  unfold Y1
  by_cases k : x < y
  ·rw [if_pos k, if_pos (by rw [UInt8.lt_iff_toNat_lt] at k; omega)]
  ·rw [if_neg k, if_neg (by rw [UInt8.lt_iff_toNat_lt] at k; omega), if_pos (by rw [UInt8.lt_iff_toNat_lt] at k; omega)]
theorem ZfJ : ∀ {a b : List UInt8} {k : Nat} {x y : UInt8}, (∀ j, j < k → ∀ c d, a[j]? = some c → b[j]? = some d → c = d) → a[k]? = some x → b[k]? = some y → (x.toNat : Int) ≠ (y.toNat : Int) → cmpS a b = Y1 (x.toNat : Int) (y.toNat : Int)
 | c :: a, d :: b, 0, x, y, _, h1, h2, h => by
  simp at h1 h2; subst h1 h2
  rw [Zfl, if_neg fun e => h (by rw [e])]
 | c :: a, d :: b, k + 1, x, y, h0, h1, h2, h => by
  have e := h0 0 (by omega) c d rfl rfl
  rw [Zfl, if_pos e]
  exact ZfJ (k := k) (fun j hj c d hc hd => h0 (j + 1) (by omega) c d (by simpa using hc) (by simpa using hd)) (by simpa using h1) (by simpa using h2) h
 | [], _, _, _, _, _, h1, _, _ => by simp at h1
 | _ :: _, [], _, _, _, _, _, h2, _ => by simp at h2
theorem Zez : ∀ {a b : List UInt8} {k : Nat}, (∀ j, j < k → ∀ c d, a[j]? = some c → b[j]? = some d → c = d) → (a.length ≤ k ∨ b.length ≤ k) → cmpS a b = Y1 (a.length : Int) (b.length : Int)
 | [], [], _, _, _ => by simp [cmpS, Op.bytesLess, Y1]
 | [], _ :: _, _, _, _ => by unfold Y1; rw [if_pos (by simp only [List.length_nil, List.length_cons]; omega)]; simp [cmpS, Op.bytesLess]
 | _ :: _, [], _, _, _ => by unfold Y1; rw [if_neg (by simp only [List.length_nil, List.length_cons]; omega), if_pos (by simp only [List.length_nil, List.length_cons]; omega)]; simp [cmpS, Op.bytesLess]
 | c :: a, d :: b, k, h0, h => by
  have hk : 0 < k := by simp at h; omega
  have e := h0 0 hk c d rfl rfl
  rw [Zfl, if_pos e, Zez (k := k - 1) (fun j hj c d hc hd => h0 (j + 1) (by omega) c d (by simpa using hc) (by simpa using hd)) (by simp at h; omega)]
  unfold Y1; simp only [List.length_cons]
  split <;> split <;> (try split) <;> (try split) <;> omega
theorem Zos {a b : Int} (h : a ≠ b) : Y1 a b ≠ 0 := fun e => h ((ZaH.eq a b).1 e)
theorem Zul {x y : Val} (h : x.k ≠ y.k) : cmpV x y = Y1 x.k y.k := by unfold cmpV; rw [if_pos (Zos h)]
theorem Zum {x y : Val} (h : x.k = y.k) (h2 : x.n ≠ y.n) : cmpV x y = Y1 x.n y.n := by
 unfold cmpV; rw [if_neg (by rw [h, ZaH.refl]; simp), if_pos (Zos h2)]
theorem Zkx {x y : Val} (h : x.k = y.k) (h2 : x.n = y.n) : cmpV x y = cmpS x.s y.s := by
 unfold cmpV; rw [if_neg (by rw [h, ZaH.refl]; simp), if_neg (by rw [h2, ZaH.refl]; simp)]
theorem Zi8 {α β : Type} {f : α → β → Int} {a : List α} {b : List β} {k : Nat} (h : ∀ j, j < k → ∀ x y, a[j]? = some x → b[j]? = some y → f x y = 0) (hk : a.length ≤ k ∨ b.length ≤ k) : ZI f a b = Y1 (a.length : Int) (b.length : Int) :=
 ZcI fun j x y hx hy => h j (by have := (List.getElem?_eq_some_iff.1 hx).1; have := (List.getElem?_eq_some_iff.1 hy).1; omega) x y hx hy

abbrev VV := List (List Val)
def ZaR : VV → List Val → Nat
 | [], _ => 0
 | u :: r, v => if ZI cmpV u v < 0 then ZaR r v + 1 else 0
theorem ZhS : ∀ {out : VV} {v : List Val} {k : Nat}, k ≤ out.length → (∀ j, j < k → ∀ u, out[j]? = some u → ZI cmpV u v < 0) → (∀ u, out[k]? = some u → ¬ ZI cmpV u v < 0) → ZaR out v = k
 | [], v, k, hk, _, _ => by simp at hk; simp [ZaR, hk]
 | u :: r, v, 0, _, _, h => by simp only [ZaR]; rw [if_neg (h u rfl)]
 | u :: r, v, k + 1, hk, h0, h => by
  simp only [ZaR]; rw [if_pos (h0 0 (by omega) u rfl), ZhS (k := k) (by simpa using hk) (fun j hj u hu => h0 (j + 1) (by omega) u (by simpa using hu)) (fun u hu => h u (by simpa using hu))]
theorem ZhT : ∀ (out : VV) (v : List Val), ZaR out v ≤ out.length ∧ (∀ j, j < ZaR out v → ∀ u, out[j]? = some u → ZI cmpV u v < 0) ∧ (∀ u, out[ZaR out v]? = some u → ¬ ZI cmpV u v < 0)
 | [], v => ⟨by simp [ZaR], fun j hj => by simp [ZaR] at hj, fun u hu => by simp at hu⟩
 | u :: r, v => by
  obtain ⟨h1, h2, h3⟩ := ZhT r v
  simp only [ZaR]
  split
  ·rename_i hu
   refine ⟨by simpa using h1, fun j hj w hw => ?_, fun w hw => h3 w (by simpa using hw)⟩
   cases j with
   | zero => simp at hw; subst hw; exact hu
   | succ j => exact h2 j (by omega) w (by simpa using hw)
  ·rename_i hu
   exact ⟨by omega, fun j hj => absurd hj (by omega), fun w hw => by simp at hw; subst hw; exact hu⟩
def Za4 (out : VV) (v : List Val) : VV := if out[ZaR out v]? = some v then out else out.take (ZaR out v) ++ [v] ++ out.drop (ZaR out v)
theorem Zq3 (out : VV) (v : List Val) : (Za4 out v).length ≤ out.length + 1 := by
 unfold Za4; split
 ·omega
 ·have := (ZhT out v).1; simp; omega
theorem Zq4 {out : VV} {v u : List Val} : u ∈ Za4 out v ↔ u ∈ out ∨ u = v := by
 unfold Za4
 split
 ·rename_i h
  constructor
  ·exact .inl
  ·rintro (h1 | rfl)
   ·exact h1
   ·exact List.mem_of_getElem? h
 ·rw [List.mem_append, List.mem_append, List.mem_singleton]
  constructor
  ·rintro ((h | h) | h)
   ·exact .inl (List.mem_of_mem_take h)
   ·exact .inr h
   ·exact .inl (List.mem_of_mem_drop h)
  ·rintro (h | h)
   ·rw [← List.take_append_drop (ZaR out v) out] at h
    rcases List.mem_append.1 h with k | k
    ·exact .inl (.inl k)
    ·exact .inr k
   ·exact .inl (.inr h)
def Za5 (l : VV) : Prop := l.Pairwise fun x y => ZI cmpV x y < 0
theorem Zq5 {out : VV} {v : List Val} (h : Za5 out) : Za5 (Za4 out v) := by
 unfold Za4
 split
 ·exact h
 ·rename_i hne
  obtain ⟨hp1, hp2, hp3⟩ := ZhT out v
  generalize ZaR out v = i at *
  have low : ∀ u ∈ out.take i, ZI cmpV u v < 0 := fun u hu => by
   obtain ⟨j, hj, rfl⟩ := List.getElem_of_mem hu
   simp only [List.length_take] at hj
   rw [List.getElem_take]
   exact hp2 j (by omega) _ (List.getElem?_eq_getElem (by omega))
  have up : ∀ u ∈ out.drop i, ZI cmpV v u < 0 := fun u hu => by
   obtain ⟨j, hj, rfl⟩ := List.getElem_of_mem hu
   simp only [List.length_drop] at hj
   rw [List.getElem_drop]
   have h0 := hp3 out[i] (List.getElem?_eq_getElem (by omega))
   have hn : out[i] ≠ v := fun e => hne (by rw [List.getElem?_eq_getElem (by omega), e])
   have h1 : ZI cmpV v out[i] < 0 := by
    rcases Int.lt_or_le (ZI cmpV v out[i]) 0 with k | k
    ·exact k
    ·exfalso
     by_cases e : ZI cmpV v out[i] = 0
     ·exact hn ((ord.eq _ _).1 e).symm
     ·exact h0 ((ord.swap _ _).2 (by omega))
   by_cases e : j = 0
   ·subst e; simpa using h1
   ·exact ord.trans _ _ _ h1 (List.pairwise_iff_getElem.1 h i (i + j) (by omega) (by omega) (by omega))
  unfold Za5
  rw [List.pairwise_append, List.pairwise_append]
  refine ⟨⟨List.Pairwise.sublist (List.take_sublist _ _) h, by simp, fun y hy z hz => ?_⟩, List.Pairwise.sublist (List.drop_sublist _ _) h, fun y hy z hz => ?_⟩
  ·rw [List.mem_singleton.1 hz]; exact low y hy
  ·rcases List.mem_append.1 hy with hy | hy
   ·exact ord.trans _ _ _ (low y hy) (up z hz)
   ·rw [List.mem_singleton.1 hy]; exact up z hz
theorem Zne {out : VV} {v : List Val} {k : Nat} (hk : k ≤ out.length) (h0 : ∀ j, j < k → ∀ u, out[j]? = some u → ZI cmpV u v < 0) {u : List Val} (h1 : out[k]? = some u) (h2 : ¬ ZI cmpV u v < 0) (h3 : u = v) : Za4 out v = out := by
 subst h3
 unfold Za4
 rw [ZhS hk h0 (fun w hw => by rw [h1] at hw; obtain rfl := Option.some.inj hw; exact h2), if_pos h1]
theorem Zq6 {out : VV} {v : List Val} {k : Nat} (hk : k ≤ out.length) (h0 : ∀ j, j < k → ∀ u, out[j]? = some u → ZI cmpV u v < 0) (h2 : ∀ u, out[k]? = some u → ¬ ZI cmpV u v < 0) (h3 : out[k]? ≠ some v) : Za4 out v = out.take k ++ [v] ++ out.drop k := by
 unfold Za4
 rw [ZhS hk h0 h2, if_neg h3]
structure Shift (out M : VV) (j : Nat) : Prop where
 len : M.length = out.length + 1
 low : ∀ i, i < j → M[i]? = out[i]?
 high : ∀ i, j < i → i ≤ out.length → M[i]? = out[i - 1]?
theorem Shift.start {out : VV} {u : List Val} : Shift out (out ++ [u]) out.length :=
 ⟨by simp, fun i hi => List.getElem?_append_left hi, fun i h1 h2 => by omega⟩
theorem Shift.step {out M : VV} {j : Nat} {x : List Val} (h : Shift out M j) (hj : 0 < j) (hx : M[j - 1]? = some x) : Shift out (M.set j x) (j - 1) := by
 have hjl : j - 1 < M.length := (List.getElem?_eq_some_iff.1 hx).1
 refine ⟨by rw [List.length_set]; exact h.len, fun i hi => ?_, fun i h1 h2 => ?_⟩
 ·rw [List.getElem?_set, if_neg (by omega)]; exact h.low i (by omega)
 ·rw [List.getElem?_set]
  by_cases e : j = i
  ·subst e
   rw [if_pos rfl]
   split
   ·rw [← hx]; exact h.low _ (by omega)
   ·have := h.len; omega
  ·rw [if_neg e]; exact h.high i (by omega) h2
theorem Shift.done {out M : VV} {k : Nat} {v : List Val} (h : Shift out M k) (hk : k ≤ out.length) : M.set k v = out.take k ++ [v] ++ out.drop k := by
 apply List.ext_getElem?
 intro i
 have hl := h.len
 rw [List.getElem?_set, List.append_assoc, List.getElem?_append, List.length_take, Nat.min_eq_left hk]
 by_cases e : k = i
 ·subst e
  rw [if_pos rfl, if_pos (by omega), if_neg (by omega)]; simp
 ·rw [if_neg e]
  by_cases q : i < k
  ·rw [if_pos q, List.getElem?_take, if_pos q]; exact h.low i q
  ·rw [if_neg q, List.getElem?_append, if_neg (by simp; omega), List.getElem?_drop]
   rcases Nat.lt_or_ge out.length i with r | r
   ·rw [List.getElem?_eq_none (by omega), List.getElem?_eq_none (by simp; omega)]
   ·rw [h.high i (by omega) r]; congr 1; simp; omega

theorem ZfK {s : Span} (h : ZC s = true) : Xk s = true := by
 have hp := Yx h
 unfold ZC at h
 simp only [Bool.and_eq_true, decide_eq_true_eq] at h
 rw [Zsz s h.1.1 h.2]; exact decide_eq_true hp
theorem ZvL {c d : UInt8} (h : (c.toNat : Int) = (d.toNat : Int)) : c = d := UInt8.toNat_inj.1 (by omega)
end Go.Civ
set_option linter.unusedVariables false
namespace Go.Civ
open Go.Proofs Go.Shelf Go.RowKit Go.Lib Go.Sort
theorem ZiV {α : Type} (enc : α → List Value) (k : Nat) (hk0 : 0 < k) (hk : ∀ x,(enc x).length = k) : ∀ (l : List α) (t : Nat),(l.flatMap enc)[t]? = (l[t / k]?).bind fun x=>(enc x)[t % k]?
 | [],t=>by simp
 | x :: l,t=>by
  rw [List.flatMap_cons,List.getElem?_append]
  by_cases ht : t < k
  ·rw [if_pos (by rw [hk]; exact ht),Nat.div_eq_of_lt ht,Nat.mod_eq_of_lt ht]; rfl
  ·rw [if_neg (by rw [hk]; exact ht),hk,ZiV enc k hk0 hk l (t - k),Nat.div_eq_sub_div (a:=t) hk0 (by omega),Nat.mod_eq_sub_mod (a:=t) (by omega),List.getElem?_cons_succ]
theorem ZiW {α : Type} [Inhabited α] (enc : α → List Value) (k : Nat) (hk0 : 0 < k) (hk : ∀ x,(enc x).length = k) (d : Array α) (t : Nat) (ht : t < d.size * k) : (d.toList.flatMap enc)[t]? = some ((flatK enc k d)[t]!):=by
 rw [ZiV enc k hk0 hk,get_flatK enc k d t ht]
 have hd : t / k < d.size:=(Nat.div_lt_iff_lt_mul hk0).2 ht
 have e : d.toList[t / k]? = some d[t / k]! :=by
  rw [getElem!_pos d (t / k) hd,Array.getElem?_toList,Array.getElem?_eq_getElem hd]
 rw [e]
 simp only [Option.bind_some]
 have hl : t % k < (enc d[t / k]!).length:=by rw [hk]; exact Nat.mod_lt _ hk0
 rw [List.getElem?_eq_getElem hl,getElem!_pos (enc d[t / k]!) (t % k) hl]
abbrev Elt {α : Type} (E : Enc α) (G : GH) (V : α → Prop):={ p : α × List Value // E.rep G p.1 p.2 ∧ V p.1 }
section
variable {α : Type} {E : Enc α} {G : GH} {V : α → Prop}
theorem ZiX : ∀ (l : List α) (xs : List Value),Xq E G l xs → (∀ x ∈ l,V x) → ∃ dl : List (Elt E G V),dl.map (·.1.1) = l ∧ dl.flatMap (·.1.2) = xs
 | [],xs,h,_=>⟨[],rfl,by simpa using h.symm⟩
 | x :: l,xs,⟨c,r,h1,h2,h3⟩,hV=>by
  obtain ⟨dl,k1,k2⟩:=ZiX l r h3 fun y hy=>hV y (by simp [hy])
  exact ⟨⟨(x,c),h2,hV x (by simp)⟩ :: dl,by simp [k1],by simp [k2,h1]⟩
theorem Zf4 : ∀ (dl : List (Elt E G V)),Xq E G (dl.map (·.1.1)) (dl.flatMap (·.1.2))
 | []=>rfl
 | x :: l=>⟨x.1.2,_,rfl,x.2.1,Zf4 l⟩
theorem Kept.grow {w w' : World} (h : Kept [] w w') : ∃ q os',w' = grow (w.drewN q) os':=by
 refine ⟨w'.drawn - w.drawn,w'.heap.extract w.heap.size w'.heap.size,?_⟩
 obtain ⟨h1,h2,h3,h4,h5,h6⟩:=h
 obtain ⟨heap,tape,drawn,os,output⟩:=w
 obtain ⟨heap',tape',drawn',os',output'⟩:=w'
 simp only at h1 h2 h3 h4 h5 h6
 subst h1 h2 h3
 simp only [Go.Sort.grow,World.drewN]
 have e1 : drawn + (drawn' - drawn) = drawn':=by omega
 have e2 : heap ++ heap'.extract heap.size heap'.size = heap':=by
  apply Array.ext_getElem?
  intro i
  rw [Array.getElem?_append]
  split
  ·rename_i hi; exact (h6 i hi (by simp)).symm
  ·rename_i hi
   rw [Array.getElem?_extract]
   split
   ·congr 1; omega
   ·rw [Array.getElem?_eq_none]; omega
 rw [e1,e2]
end
theorem Zf5 {β : Type} [Inhabited β] (enc : β → List Value) (k : Nat) (w : World) (b n : Nat) (d : Array β) (os : Array Obj) {cs : List Value} {tid : TypeId} (hb : w.heap[b]? = some (.cells cs.toArray tid (0,0))) (i : Nat) :
  (sortWorldK enc k w b 0 n d os).heap[i]? = if i < w.heap.size then (if b = i then some (.cells (putCells id 0 (flatK enc k d) cs.toArray) tid (0,0)) else w.heap[i]?) else os[i - w.heap.size]? :=by
 have hah : (Go.Sort.ahead w n).heap = w.heap:=rfl
 simp only [sortWorldK,putRowK,putRow,mapBlock,Go.Sort.grow,hah]
 rw [Array.getElem?_append]
 simp only [Array.size_modify]
 by_cases hk : i < w.heap.size
 ·rw [if_pos hk,if_pos hk,Array.getElem?_modify]
  by_cases hkb : b = i
  ·subst hkb
   rw [if_pos rfl,if_pos rfl,hb]
   simp [onCells]
  ·rw [if_neg hkb,if_neg hkb]
 ·rw [if_neg hk,if_neg hk]
theorem ZkP {β : Type} [Inhabited β] (enc : β → List Value) (k : Nat) {w : World} {G : GH} (hG : G.In w) (b n : Nat) (d : Array β) (os : Array Obj) {cs : List Value} {tid : TypeId} (hb : w.heap[b]? = some (.cells cs.toArray tid (0,0))) (hg : G b = none) :
  Res [b] w G (sortWorldK enc k w b 0 n d os) G:=by
 refine ⟨⟨rfl,rfl,rfl,Nat.le_add_right _ _,?_,fun i hi hkb=>?_⟩,G.le_refl,fun _ _=>rfl,fun i o hk=>?_⟩
 ·have hah : (Go.Sort.ahead w n).heap = w.heap:=rfl
  simp [sortWorldK,putRowK,putRow,mapBlock,Go.Sort.grow]
  try simp [hah]
 ·rw [Zf5 enc k w b n d os hb,if_pos hi,if_neg (by simpa [eq_comm] using hkb)]
 ·have hk1:=hG.lt hk
  have hkb : b ≠ i:=fun e=>by subst e; rw [hg] at hk; cases hk
  rw [Zf5 enc k w b n d os hb,if_pos hk1,if_neg hkb]; exact hG i o hk
set_option maxHeartbeats 2000000 in
theorem Zme {P : Program} {ρr : Ren} (Ls : SlLaysF0.n6 P ρr) {α : Type} {E : Enc α} {by_ : Nat} {tid : TypeId} (hk0 : 0 < E.n) (aE : ∀ w,(isAgg (ρr.t 24)).run P w = .ok true w) (zE : ∀ w,(Go.sizeOf (ρr.t 24)).run P w = .ok E.n w)
  (cf : α → α → Int) (V : α → Prop) (hirr : ∀ x,V x → ¬ cf x x < 0) (htr : ∀ x y z,V x → V y → V z → cf x y < 0 → cf y z < 0 → cf x z < 0) (hnt : ∀ x y z,V x → V y → V z → ¬ cf x y < 0 → ¬ cf y z < 0 → ¬ cf x z < 0)
  (gf : Nat) (eg : ∀ args w,(callFunc gf args).run P w = .ok (.enter gf args) w) {G : GH} {w : World} (hG : G.In w)
  (hcl : ∀ W,G.In W → ∀ x y cx cy,V x → V y → E.rep G x cx → E.rep G y cy → Calls P gf #[.agg cx.toArray, .agg cy.toArray] W fun e w'=>∃ r G',e = .returned r ∧ Res [] W G w' G' ∧ r = .int .i64 (cf x y))
  (x0 : α) (c0 : List Value) (h0 : E.rep G x0 c0) (hV0 : V x0) (l : List α) (hV : ∀ x ∈ l,V x) (vd : Value) (od : OB) (hvd : Yf E by_ tid G vd l od) (hod : QW w G od) :
  Calls P (ρr.f 6) #[vd, .func (.func gf) #[] #[]] w fun e w'=>∃ r G',e = .returned r ∧ Res (QL od) w G w' G' ∧ r = .tuple #[] ∧ ∃ (l' : List α) (o' : OB),Yf E by_ tid G' vd l' o' ∧ QW w' G' o' ∧ (l'.Perm l ∧ l'.Pairwise fun x y=>¬ cf y x < 0):=by
 rcases hvd with ⟨rfl,rfl,rfl⟩ | ⟨b,cs,cap,xs,rfl,rfl,h3,h4,h5,h6,h7,h8,h9⟩
 ·exact (AnyF.slices_SortFunc_none (P:=P) (ρ:=ρr) { Ls with } none 0 (.func (.func gf) #[] #[]) w).mono fun e w' ⟨he,hw⟩=>by
   subst hw
   exact ⟨_,G,he,Res.refl hG,rfl,[],none, .inl ⟨rfl,rfl,rfl⟩,fun p hp=>(by cases hp),List.Perm.refl _,List.Pairwise.nil⟩
 ·obtain ⟨hb1,hb2⟩:=hod _ rfl
  simp only [Zan] at hb1
  obtain ⟨dl,rfl,rfl⟩:=ZiX l xs h6 hV
  letI : Inhabited (Elt E G V):=⟨⟨(x0,c0),h0,hV0⟩⟩
  have hkE : ∀ x : Elt E G V,(x.1.2).length = E.n:=fun x=>E.len x.2.1
  have hsz : dl.toArray.size = (dl.map (·.1.1)).length:=by simp
  have hcell : ∀ t,t < dl.toArray.size * E.n → cs[t]? = some ((flatK (fun x : Elt E G V=>x.1.2) E.n dl.toArray)[t]!):=fun t ht=>by
   rw [← ZiW (fun x : Elt E G V=>x.1.2) E.n hk0 hkE dl.toArray t ht]
   have e7:=congrArg (·[t]?) h7
   rw [List.getElem?_take,if_pos (by rw [← hsz]; exact ht)] at e7
   exact e7
  have hH : HoldsK (fun x : Elt E G V=>x.1.2) E.n w b 0 dl.toArray:=fun t ht=>by
   rw [size_flatK] at ht
   refine ⟨?_,?_⟩
   ·rw [Nat.zero_add]
    simp only [World.cell?,hb1]
    have:=hcell t ht
    simpa using this
   ·simp [World.frozen?,hb1]
  have hO : SWO (ltOf fun x y : Elt E G V=>cf x.1.1 y.1.1):=
   ⟨fun x=>decide_eq_false (hirr _ x.2.2),fun x y z p q=>decide_eq_true (htr _ _ _ x.2.2 y.2.2 z.2.2 (of_decide_eq_true p) (of_decide_eq_true q)),fun x y z p q=>decide_eq_false (hnt _ _ _ x.2.2 y.2.2 z.2.2 (of_decide_eq_false p) (of_decide_eq_false q))⟩
  have hcon:=AnyQ.slices_SortFunc Ls E.n aE zE (fun x : Elt E G V=>x.1.2) hkE (fun x v hv=>E.one x.2.1 v hv) (fun x y=>cf x.1.1 y.1.1) hO gf #[] b 0 cap dl.toArray w eg
   (fun m os dk _ x y=>(hcl _ (ZkP _ _ hG b m dk os hb1 hb2).imm x.1.1 y.1.1 x.1.2 y.1.2 x.2.2 y.2.2 x.2.1 y.2.1).mono fun e w' ⟨r,G',he,hres,hr⟩=>⟨by rw [he,hr],hres.kept.grow⟩)
   hH (Array.getElem?_eq_some_iff.1 hb1).1 (by rw [hsz]; unfold reach at h9; omega)
  rw [hsz] at hcon
  refine hcon.mono fun e w' ⟨he,d',n,os,hp,hs,hw⟩=>?_
  obtain ⟨hp1,hp2,hp3⟩:=hp
  have hd' : d'.size = dl.length:=by simpa using hp1
  have hperm : d'.toList.Perm dl:=by
   have e1 : d'.extract 0 dl.toArray.size = d':=by rw [← hp1]; simp
   have e2 : dl.toArray.extract 0 dl.toArray.size = dl.toArray:=by simp
   rw [hsz.symm,e1,e2] at hp3; simpa using hp3
  have hbl : b < w.heap.size:=(Array.getElem?_eq_some_iff.1 hb1).1
  subst hw
  obtain ⟨cs',hcs'⟩ : ∃ cs' : List Value,cs' = (putCells id 0 (flatK (fun x : Elt E G V=>x.1.2) E.n d') cs.toArray).toList:=⟨_,rfl⟩
  have hres:=ZkP (fun x : Elt E G V=>x.1.2) E.n hG b n d' os hb1 hb2
  have hlen : (d'.toList.map (·.1.1)).length = (dl.map (·.1.1)).length:=by simp [hd']
  have hln : (dl.map (·.1.1)).length = dl.length:=by simp
  have h5' : cs.length = cap * E.n:=h5
  have hfl : (d'.toList.flatMap (·.1.2)).length = d'.size * E.n:=by
   have:=Xq.len (Zf4 d'.toList); simpa using this
  have hcapd : d'.size * E.n ≤ cs.length:=by
   rw [h5']; exact Nat.mul_le_mul_right _ (by omega)
  refine ⟨_,G,he,hres,rfl,d'.toList.map (·.1.1),some (b,tid,cs'), .inr ⟨b,cs',cap,d'.toList.flatMap (·.1.2),rfl,by rw [hlen],by rw [hlen]; exact h3,h4,?_,Zf4 _,?_,by rw [hlen]; exact h8,by rw [hlen]; exact h9⟩,fun p hp=>?_,?_,?_⟩
  ·subst hcs'; simpa [putCells] using h5
  ·apply List.ext_getElem?
   intro t
   rw [List.getElem?_take]
   have hn2 : (d'.toList.map (·.1.1)).length * E.n = d'.size * E.n:=by simp
   rw [hn2]
   by_cases ht : t < d'.size * E.n
   ·have htc : t < cs.length:=by omega
    rw [if_pos ht,ZiW (fun x : Elt E G V=>x.1.2) E.n hk0 hkE d' t ht,hcs']
    simp only [putCells,Array.getElem?_toList,Array.getElem?_mapIdx,size_flatK]
    simp only [List.getElem?_toArray]
    rw [List.getElem?_eq_getElem htc]
    simp [ht]
   ·rw [if_neg ht,List.getElem?_eq_none]; omega
  ·obtain rfl:=Option.some.inj hp
   refine ⟨?_,hb2⟩
   rw [Zf5 _ _ w b n d' os hb1,if_pos hbl,if_pos rfl,hcs']; rfl
  ·exact hperm.map _
  ·rw [List.pairwise_map,List.pairwise_iff_getElem]
   intro i j hi hj hij
   have h:=hs i j (by omega) hij (by rw [← hsz,← hp1]; simpa using hj)
   have hi' : i < d'.size:=by simpa using hi
   have hj' : j < d'.size:=by simpa using hj
   rw [getElem!_pos d' i hi',getElem!_pos d' j hj'] at h
   have:=of_decide_eq_false h
   simpa only [Array.getElem_toList] using this
end Go.Civ
