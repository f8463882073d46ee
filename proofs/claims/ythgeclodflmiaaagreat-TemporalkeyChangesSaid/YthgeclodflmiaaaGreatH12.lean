/- Lemmas. -/
import Derived.Test.YthgeclodflmiaaaGreatH03
import Derived.Test.YthgeclodflmiaaaGreatH10
import Derived.Test.YthgeclodflmiaaaGreatH11
import Derived.Shelf.Sort.Plain
import Derived.Shelf.Small.Strs
import Derived.Ground.NamesProg
import Derived.Test.YthgeclodflmiaaaGreatProg
namespace Go.Civ
set_option linter.unusedVariables false

structure IsPos (l : List Int) (x : Int) (i : Nat) : Prop where
 le : i ≤ l.length
 up : ∀ (j : Nat) y, i ≤ j → l[j]? = some y → x ≤ y
 low : ∀ y, 0 < i → l[i - 1]? = some y → y < x
theorem IsPos.unique {l : List Int} {x : Int} {i j : Nat} (h : IsPos l x i) (k : IsPos l x j) : i = j := by
 rcases Nat.lt_trichotomy i j with q | q | q
 ·have hj : j - 1 < l.length := by have := k.le; omega
  have h1 := h.up (j - 1) l[j - 1] (by omega) (List.getElem?_eq_getElem hj)
  have h2 := k.low l[j - 1] (by omega) (List.getElem?_eq_getElem hj)
  omega
 ·exact q
 ·have hi : i - 1 < l.length := by have := h.le; omega
  have h1 := k.up (i - 1) l[i - 1] (by omega) (List.getElem?_eq_getElem hi)
  have h2 := h.low l[i - 1] (by omega) (List.getElem?_eq_getElem hi)
  omega
def ZbZ : List Int → Int → Nat
 | [], _ => 0
 | y :: r, x => if ZbZ r x = 0 then (if y < x then 1 else 0) else ZbZ r x + 1
theorem Zif : ∀ (l : List Int) (x : Int), IsPos l x (ZbZ l x)
 | [], x => ⟨Nat.le_refl _, fun j y _ h => by simp at h, fun y h => by simp [ZbZ] at h⟩
 | y :: r, x => by
  have ih := Zif r x
  simp only [ZbZ]
  by_cases h0 : ZbZ r x = 0
  ·rw [if_pos h0]
   rw [h0] at ih
   by_cases hy : y < x
   ·rw [if_pos hy]
    refine ⟨by simp, fun j z hj hz => ?_, fun z _ hz => ?_⟩
    ·cases j with
     | zero => omega
     | succ j => exact ih.up j z (by omega) (by simpa using hz)
    ·simp at hz; omega
   ·rw [if_neg hy]
    refine ⟨by simp, fun j z hj hz => ?_, fun z h => absurd h (by omega)⟩
    cases j with
    | zero => simp at hz; omega
    | succ j => exact ih.up j z (by omega) (by simpa using hz)
  ·rw [if_neg h0]
   refine ⟨by have := ih.le; simp; omega, fun j z hj hz => ?_, fun z _ hz => ?_⟩
   ·cases j with
    | zero => omega
    | succ j => exact ih.up j z (by omega) (by simpa using hz)
   ·have e : ZbZ r x + 1 - 1 = (ZbZ r x - 1) + 1 := by omega
    rw [e] at hz
    exact ih.low z (by omega) (by simpa using hz)
def Zdi (l : List Int) (x : Int) : List Int := if l[ZbZ l x]? = some x then l else l.take (ZbZ l x) ++ [x] ++ l.drop (ZbZ l x)
theorem ZkC (l : List Int) (x : Int) : (Zdi l x).length ≤ l.length + 1 := by
 unfold Zdi; split
 ·omega
 ·have := (Zif l x).le; simp; omega
theorem ZkD {l : List Int} {x y : Int} : y ∈ Zdi l x ↔ y ∈ l ∨ y = x := by
 unfold Zdi
 split
 ·rename_i h
  constructor
  ·exact .inl
  ·rintro (h1 | rfl)
   ·exact h1
   ·exact List.mem_of_getElem? h
 ·rw [List.mem_append, List.mem_append, List.mem_singleton]
  constructor
  ·rintro ((h | h) | h)
   ·exact .inl (List.mem_of_mem_take h)
   ·exact .inr h
   ·exact .inl (List.mem_of_mem_drop h)
  ·rintro (h | h)
   ·rw [← List.take_append_drop (ZbZ l x) l] at h
    rcases List.mem_append.1 h with k | k
    ·exact .inl (.inl k)
    ·exact .inr k
   ·exact .inl (.inr h)
theorem ZkE {l : List Int} {x : Int} (h : l.Pairwise (· < ·)) : (Zdi l x).Pairwise (· < ·) := by
 unfold Zdi
 split
 ·exact h
 ·rename_i hne
  have hp := Zif l x
  generalize ZbZ l x = i at *
  have low : ∀ y ∈ l.take i, y < x := fun y hy => by
   obtain ⟨j, hj, rfl⟩ := List.getElem_of_mem hy
   simp only [List.length_take] at hj
   rw [List.getElem_take]
   have hil : i - 1 < l.length := by have := hp.le; omega
   have h1 := hp.low l[i - 1] (by omega) (List.getElem?_eq_getElem hil)
   by_cases e : j = i - 1
   ·subst e; exact h1
   ·have := List.pairwise_iff_getElem.1 h j (i - 1) (by omega) hil (by omega)
    omega
  have up : ∀ y ∈ l.drop i, x < y := fun y hy => by
   obtain ⟨j, hj, rfl⟩ := List.getElem_of_mem hy
   simp only [List.length_drop] at hj
   rw [List.getElem_drop]
   have h1 := hp.up (i + j) l[i + j] (by omega) (List.getElem?_eq_getElem (by omega))
   have h0 := hp.up i l[i] (by omega) (List.getElem?_eq_getElem (by omega))
   have hn : l[i] ≠ x := fun e => hne (by rw [List.getElem?_eq_getElem (by omega), e])
   by_cases e : j = 0
   ·subst e; simp only [Nat.add_zero]; omega
   ·have := List.pairwise_iff_getElem.1 h i (i + j) (by omega) (by omega) (by omega)
    omega
  rw [List.pairwise_append, List.pairwise_append]
  refine ⟨⟨h.sublist (List.take_sublist _ _), by simp, fun y hy z hz => ?_⟩, h.sublist (List.drop_sublist _ _), fun y hy z hz => ?_⟩
  ·rw [List.mem_singleton.1 hz]; exact low y hy
  ·rcases List.mem_append.1 hy with hy | hy
   ·have := low y hy; have := up z hz; omega
   ·rw [List.mem_singleton.1 hy]; exact up z hz

def Zfu (l : List Int) (x : Int) (i : Nat) : Prop := ∀ (j : Nat) y, i ≤ j → l[j]? = some y → x ≤ y
theorem Zfu.start {l : List Int} {x : Int} : Zfu l x l.length := fun j y h1 h2 => by have := (List.getElem?_eq_some_iff.1 h2).1; omega
theorem Zfu.step {l : List Int} {x y : Int} {i : Nat} (h : Zfu l x i) (h1 : l[i - 1]? = some y) (hy : x ≤ y) : Zfu l x (i - 1) := fun j z hj hz => by
 by_cases e : j = i - 1
 ·subst e; rw [h1] at hz; obtain rfl := Option.some.inj hz; exact hy
 ·exact h j z (by omega) hz
theorem Zfu.zero {l : List Int} {x : Int} {i : Nat} (h : Zfu l x i) (hi : i = 0) : IsPos l x i := ⟨by omega, h, fun y h0 => by omega⟩
theorem Zfu.pos {l : List Int} {x y : Int} {i : Nat} (h : Zfu l x i) (hi : i ≤ l.length) (h1 : l[i - 1]? = some y) (hy : y < x) : IsPos l x i :=
 ⟨hi, h, fun z _ hz => by rw [h1] at hz; obtain rfl := Option.some.inj hz; exact hy⟩
def Q2 (l : List Span) : List Int := l.foldl (fun out s => Zdi (Zdi out s.a) s.b) []
theorem Znm (l : List Span) (s : Span) : Q2 (l ++ [s]) = Zdi (Zdi (Q2 l) s.a) s.b := by simp [Q2, List.foldl_append]
theorem Zd3 : ∀ (n : Nat) (l : List Span), l.length = n → (Q2 l).Pairwise (· < ·) ∧ (∀ y, y ∈ Q2 l ↔ ∃ s ∈ l, y = s.a ∨ y = s.b) ∧ (Q2 l).length ≤ 2 * l.length
 | 0, l, hn => by
  obtain rfl := List.length_eq_zero_iff.1 hn
  simp [Q2]
 | n + 1, l, hn => by
  obtain ⟨p, x, rfl⟩ : ∃ p x, l = p ++ [x] := by
   rcases List.eq_nil_or_concat l with rfl | ⟨p, x, h⟩
   ·simp at hn
   ·exact ⟨p, x, by simpa using h⟩
  obtain ⟨h1, h2, h3⟩ := Zd3 n p (by simpa using hn)
  rw [Znm]
  refine ⟨ZkE (ZkE h1), fun y => ?_, ?_⟩
  ·rw [ZkD, ZkD, h2]
   constructor
   ·rintro ((⟨s, hs, e⟩ | e) | e)
    ·exact ⟨s, by simp [hs], e⟩
    ·exact ⟨x, by simp, .inl e⟩
    ·exact ⟨x, by simp, .inr e⟩
   ·rintro ⟨s, hs, e⟩
    rcases List.mem_append.1 hs with hs | hs
    ·exact .inl (.inl ⟨s, hs, e⟩)
    ·obtain rfl := List.mem_singleton.1 hs
     rcases e with e | e
     ·exact .inl (.inr e)
     ·exact .inr e
  ·have q1 := ZkC (Q2 p) x.a
   have q2 := ZkC (Zdi (Q2 p) x.a) x.b
   simp; omega
theorem ZiG (l : List Span) : (Q2 l).Pairwise (· < ·) := (Zd3 _ l rfl).1
theorem Zfv {l : List Span} {y : Int} : y ∈ Q2 l ↔ ∃ s ∈ l, y = s.a ∨ y = s.b := (Zd3 _ l rfl).2.1 y
theorem ZiH (l : List Span) : (Q2 l).length ≤ 2 * l.length := (Zd3 _ l rfl).2.2
theorem Znn {a b : List Int} (ha : a.Pairwise (· < ·)) (hb : b.Pairwise (· < ·)) (h : ∀ x, x ∈ a ↔ x ∈ b) : a = b :=
 Zc1 (c := Yu) ZaN (ha.imp fun {x y} k => by unfold Yu; rw [if_pos k]; decide) (hb.imp fun {x y} k => by unfold Yu; rw [if_pos k]; decide) h

def Xq (l : List Span) (x : Int) : Bool := l.any fun s => decide (s.a ≤ x) && decide (x < s.b)
theorem Zao {l : List Span} {x : Int} : Xq l x = true ↔ cover l x := by simp [Xq, cover]
def Zg9 (out : List Span) (s : Span) : List Span := match out[out.length - 1]? with
 | some p => if p.b = s.a then out.set (out.length - 1) ⟨p.a, s.b⟩ else out ++ [s]
 | none => out ++ [s]
theorem Zq6 {out : List Span} {s : Span} (h : out.length = 0) : Zg9 out s = out ++ [s] := by
 obtain rfl := List.length_eq_zero_iff.1 h; rfl
theorem Zq7 (out : List Span) (s : Span) : (Zg9 out s).length ≤ out.length + 1 := by
 unfold Zg9; split
 ·split <;> simp
 ·simp
theorem Zou (o : List Span) (p s : Span) : Zg9 (o ++ [p]) s = if p.b = s.a then o ++ [⟨p.a, s.b⟩] else o ++ [p] ++ [s] := by
 unfold Zg9
 have e : (o ++ [p]).length - 1 = o.length := by simp
 rw [e, List.getElem?_append_right (Nat.le_refl _)]
 simp only [Nat.sub_self, List.getElem?_cons_zero]
 split
 ·rw [List.set_append_right _ _ (Nat.le_refl _)]; simp
 ·rfl
def QE (kind : Int) (a b : Bool) : Bool := if kind = 1 then a || b else if kind = 2 then a && b else if kind = 3 then a && !b else !(a == b)
def XQ (kind : Int) (a b : List Span) (es : List Int) : Nat → List Span
 | 0 => []
 | k + 1 => match es[k]?, es[k + 1]? with
  | some x, some y => if QE kind (Xq a x) (Xq b x) then Zg9 (XQ kind a b es k) ⟨x, y⟩ else XQ kind a b es k
  | _, _ => XQ kind a b es k
def ZX (kind : Int) (a b : List Span) : List Span := XQ kind a b (Q2 (a ++ b)) ((Q2 (a ++ b)).length - 1)
theorem Zov {kind : Int} {a b : List Span} {es : List Int} {k : Nat} {x y : Int} (h1 : es[k]? = some x) (h2 : es[k + 1]? = some y) (h : QE kind (Xq a x) (Xq b x) = true) : XQ kind a b es (k + 1) = Zg9 (XQ kind a b es k) ⟨x, y⟩ := by
 simp only [XQ, h1, h2]; rw [if_pos h]
theorem Zq8 {kind : Int} {a b : List Span} {es : List Int} {k : Nat} {x y : Int} (h1 : es[k]? = some x) (h2 : es[k + 1]? = some y) (h : QE kind (Xq a x) (Xq b x) = false) : XQ kind a b es (k + 1) = XQ kind a b es k := by
 simp only [XQ, h1, h2]; rw [if_neg (by rw [h]; simp)]
theorem ZiI {kind : Int} {a b : List Span} {es : List Int} : ∀ k, (XQ kind a b es k).length ≤ k
 | 0 => by simp [XQ]
 | k + 1 => by
  have ih := ZiI (kind := kind) (a := a) (b := b) (es := es) k
  simp only [XQ]
  split
  ·split
   ·have := Zq7 (XQ kind a b es k); rename_i x y _ _ _; have := this ⟨x, y⟩; omega
   ·omega
  ·omega
section
variable {es : List Int} (hs : es.Pairwise (· < ·))
include hs
theorem Zsr {i j : Nat} {x y : Int} (h1 : es[i]? = some x) (h2 : es[j]? = some y) (hij : i < j) : x < y := by
 obtain ⟨a, rfl⟩ := List.getElem?_eq_some_iff.1 h1
 obtain ⟨b, rfl⟩ := List.getElem?_eq_some_iff.1 h2
 exact List.pairwise_iff_getElem.1 hs i j a b hij
theorem ZkF {i : Nat} {u v y : Int} (h1 : es[i]? = some u) (h2 : es[i + 1]? = some v) (hy : y ∈ es) (h : y < v) : y ≤ u := by
 obtain ⟨j, hj⟩ := List.getElem?_of_mem hy
 rcases Nat.lt_or_ge i j with q | q
 ·rcases Nat.lt_or_ge (i + 1) j with r | r
  ·have := Zsr hs h2 hj r; omega
  ·have : j = i + 1 := by omega
   subst this; rw [h2] at hj; obtain rfl := Option.some.inj hj; omega
 ·rcases Nat.lt_or_ge j i with r | r
  ·have := Zsr hs hj h1 r; omega
  ·have : j = i := by omega
   subst this; rw [h1] at hj; obtain rfl := Option.some.inj hj; omega
theorem Zq9 {i : Nat} {u v y : Int} (h1 : es[i]? = some u) (h2 : es[i + 1]? = some v) (hy : y ∈ es) (h : u < y) : v ≤ y := by
 rcases Int.lt_or_le y v with q | q
 ·have := ZkF hs h1 h2 hy q; omega
 ·exact q
theorem Zj1 {l : List Span} (hl : ∀ s ∈ l, s.a ∈ es ∧ s.b ∈ es) {i : Nat} {u v x : Int} (h1 : es[i]? = some u) (h2 : es[i + 1]? = some v) (hx : u ≤ x) (hx' : x < v) : cover l x ↔ cover l u := by
 constructor
 ·rintro ⟨s, hsl, a1, a2⟩
  have := ZkF hs h1 h2 (hl s hsl).1 (by omega)
  exact ⟨s, hsl, this, by omega⟩
 ·rintro ⟨s, hsl, a1, a2⟩
  have := Zq9 hs h1 h2 (hl s hsl).2 a2
  exact ⟨s, hsl, by omega, by omega⟩
omit hs in
theorem ZlZ : ∀ {es : List Int} {x p q : Int}, p ∈ es → q ∈ es → p ≤ x → x < q → es.Pairwise (· < ·) → ∃ (i : Nat) (u v : Int), es[i]? = some u ∧ es[i + 1]? = some v ∧ u ≤ x ∧ x < v
 | [], _, _, _, h, _, _, _, _ => by simp at h
 | [e], x, p, q, h1, h2, h3, h4, _ => by simp at h1 h2; omega
 | e :: f :: r, x, p, q, h1, h2, h3, h4, hp => by
  rcases Int.lt_or_le x f with k | k
  ·have hp' := List.pairwise_cons.1 hp
   refine ⟨0, e, f, rfl, rfl, ?_, k⟩
   rcases List.mem_cons.1 h1 with rfl | h1
   ·exact h3
   ·have := hp'.1 p h1; omega
  ·have hp' := List.pairwise_cons.1 hp
   have hq : q ∈ f :: r := by
    rcases List.mem_cons.1 h2 with rfl | h2
    ·have := hp'.1 f (by simp); omega
    ·exact h2
   obtain ⟨i, u, v, a1, a2, a3⟩ := ZlZ (es := f :: r) (x := x) (p := f) (q := q) (by simp) hq k h4 hp'.2
   exact ⟨i + 1, u, v, by simpa using a1, by simpa using a2, a3⟩
end
structure CombInv (kind : Int) (a b : List Span) (es : List Int) (k : Nat) (out : List Span) : Prop where
 can : Can out
 top : ∀ s ∈ out, ∀ e, es[k]? = some e → s.b ≤ e
 cov : ∀ x, cover out x ↔ ∃ i u v, i < k ∧ es[i]? = some u ∧ es[i + 1]? = some v ∧ u ≤ x ∧ x < v ∧ QE kind (Xq a u) (Xq b u) = true
theorem ZiJ {kind : Int} {a b : List Span} {es : List Int} (hs : es.Pairwise (· < ·)) : ∀ k, k < es.length → CombInv kind a b es k (XQ kind a b es k)
 | 0, _ => ⟨⟨List.Pairwise.nil, by simp [XQ]⟩, by simp [XQ], fun x => by simp [XQ, cover]⟩
 | k + 1, hk => by
  have ih := ZiJ (kind := kind) (a := a) (b := b) hs k (by omega)
  have h1 : es[k]? = some es[k] := List.getElem?_eq_getElem (by omega)
  have h2 : es[k + 1]? = some es[k + 1] := List.getElem?_eq_getElem hk
  have hlt : es[k] < es[k + 1] := List.pairwise_iff_getElem.1 hs k (k + 1) (by omega) hk (by omega)
  have step : ∀ x, (∃ i u v, i < k + 1 ∧ es[i]? = some u ∧ es[i + 1]? = some v ∧ u ≤ x ∧ x < v ∧ QE kind (Xq a u) (Xq b u) = true) ↔
    (∃ i u v, i < k ∧ es[i]? = some u ∧ es[i + 1]? = some v ∧ u ≤ x ∧ x < v ∧ QE kind (Xq a u) (Xq b u) = true) ∨ (es[k] ≤ x ∧ x < es[k + 1] ∧ QE kind (Xq a es[k]) (Xq b es[k]) = true) := fun x => by
   constructor
   ·rintro ⟨i, u, v, hi, e1, e2, e3, e4, e5⟩
    by_cases e : i = k
    ·subst e
     rw [h1] at e1; rw [h2] at e2
     obtain rfl := Option.some.inj e1
     obtain rfl := Option.some.inj e2
     exact .inr ⟨e3, e4, e5⟩
    ·exact .inl ⟨i, u, v, by omega, e1, e2, e3, e4, e5⟩
   ·rintro (⟨i, u, v, hi, e1, e2, e3, e4, e5⟩ | ⟨e3, e4, e5⟩)
    ·exact ⟨i, u, v, by omega, e1, e2, e3, e4, e5⟩
    ·exact ⟨k, _, _, by omega, h1, h2, e3, e4, e5⟩
  cases hkp : QE kind (Xq a es[k]) (Xq b es[k]) with
  | false =>
   rw [Zq8 h1 h2 hkp]
   refine ⟨ih.can, fun s hs' e he => ?_, fun x => ?_⟩
   ·rw [h2] at he
    obtain rfl := Option.some.inj he
    have := ih.top s hs' _ h1; omega
   ·rw [step, ih.cov, hkp]; simp
  | true =>
   rw [Zov h1 h2 hkp]
   rcases List.eq_nil_or_concat (XQ kind a b es k) with h0 | ⟨o, q, h0⟩
   ·rw [h0] at ih ⊢
    rw [Zq6 rfl]
    refine ⟨⟨by simp, by simpa using hlt⟩, fun s hs' e he => ?_, fun x => ?_⟩
    ·rw [h2] at he
     obtain rfl := Option.some.inj he
     simp at hs'; subst hs'; exact Int.le_refl _
    ·rw [step, ← ih.cov, hkp, List.nil_append, QC]; simp [cover]
   ·have h0 : XQ kind a b es k = o ++ [q] := by simpa using h0
    rw [h0] at ih ⊢
    have hap := List.pairwise_append.1 ih.can.apart
    have hq := ih.can.pos q (by simp)
    have hqt := ih.top q (by simp) _ h1
    rw [Zou]
    by_cases hj : q.b = es[k]
    ·rw [if_pos hj]
     refine ⟨⟨List.pairwise_append.2 ⟨hap.1, by simp, fun u hu v hv => ?_⟩, fun s hs' => ?_⟩, fun s hs' e he => ?_, fun x => ?_⟩
     ·obtain rfl := List.mem_singleton.1 hv
      exact hap.2.2 u hu q (by simp)
     ·rcases List.mem_append.1 hs' with hs' | hs'
      ·exact ih.can.pos s (by simp [hs'])
      ·obtain rfl := List.mem_singleton.1 hs'
       simp only; omega
     ·rw [h2] at he
      obtain rfl := Option.some.inj he
      rcases List.mem_append.1 hs' with hs' | hs'
      ·have := ih.top s (by simp [hs']) _ h1; omega
      ·obtain rfl := List.mem_singleton.1 hs'; exact Int.le_refl _
     ·rw [step, ← ih.cov, hkp, X9, X9, or_assoc]
      refine or_congr Iff.rfl ?_
      rw [QC, QC]
      simp only [and_true]
      constructor <;> intro h <;> omega
    ·rw [if_neg hj]
     refine ⟨⟨List.pairwise_append.2 ⟨ih.can.apart, by simp, fun u hu v hv => ?_⟩, fun s hs' => ?_⟩, fun s hs' e he => ?_, fun x => ?_⟩
     ·obtain rfl := List.mem_singleton.1 hv
      rcases List.mem_append.1 hu with hu | hu
      ·have := hap.2.2 u hu q (by simp); simp only; omega
      ·obtain rfl := List.mem_singleton.1 hu; simp only; omega
     ·rcases List.mem_append.1 hs' with hs' | hs'
      ·exact ih.can.pos s hs'
      ·obtain rfl := List.mem_singleton.1 hs'; exact hlt
     ·rw [h2] at he
      obtain rfl := Option.some.inj he
      rcases List.mem_append.1 hs' with hs' | hs'
      ·have := ih.top s hs' _ h1; omega
      ·obtain rfl := List.mem_singleton.1 hs'; exact Int.le_refl _
     ·rw [step, ← ih.cov, hkp, X9 (r := o ++ [q]), QC]; simp
theorem Zcv {kind : Int} {a b : List Span} (h0 : QE kind false false = false) (ha : ∀ s ∈ a, s.a < s.b) (hb : ∀ s ∈ b, s.a < s.b) :
  Can (ZX kind a b) ∧ ∀ x, cover (ZX kind a b) x ↔ QE kind (Xq a x) (Xq b x) = true := by
 have hs := ZiG (a ++ b)
 have hl : ∀ s ∈ a ++ b, s.a ∈ Q2 (a ++ b) ∧ s.b ∈ Q2 (a ++ b) := fun s hs => ⟨Zfv.2 ⟨s, hs, .inl rfl⟩, Zfv.2 ⟨s, hs, .inr rfl⟩⟩
 unfold ZX
 generalize Q2 (a ++ b) = es at *
 have eqv : ∀ {l : List Span}, (∀ s ∈ l, s ∈ a ++ b) → ∀ {i : Nat} {u v x : Int}, es[i]? = some u → es[i + 1]? = some v → u ≤ x → x < v → Xq l x = Xq l u := fun hl' i u v x e1 e2 e3 e4 => by
  rw [Bool.eq_iff_iff, Zao, Zao]
  exact Zj1 hs (fun s hs' => hl s (hl' s hs')) e1 e2 e3 e4
 have fin : ∀ x, QE kind (Xq a x) (Xq b x) = true → ∃ i u v, es[i]? = some u ∧ es[i + 1]? = some v ∧ u ≤ x ∧ x < v := fun x hx => by
  have : cover (a ++ b) x := by
   rw [X9, ← Zao, ← Zao]
   cases e1 : Xq a x <;> cases e2 : Xq b x <;> simp_all
  obtain ⟨s, hs', a1, a2⟩ := this
  obtain ⟨i, u, v, q⟩ := ZlZ (hl s hs').1 (hl s hs').2 a1 a2 hs
  exact ⟨i, u, v, q⟩
 rcases Nat.eq_zero_or_pos es.length with hz | hpos
 ·rw [show es.length - 1 = 0 by omega]
  refine ⟨⟨List.Pairwise.nil, by simp [XQ]⟩, fun x => ?_⟩
  simp only [XQ]
  constructor
  ·rintro ⟨s, hs', _⟩; simp at hs'
  ·intro h
   obtain ⟨i, u, v, e1, _⟩ := fin x h
   have := (List.getElem?_eq_some_iff.1 e1).1; omega
 ·have inv := ZiJ (kind := kind) (a := a) (b := b) hs (es.length - 1) (by omega)
  refine ⟨inv.can, fun x => ?_⟩
  rw [inv.cov]
  constructor
  ·rintro ⟨i, u, v, hi, e1, e2, e3, e4, e5⟩
   rw [eqv (l := a) (fun s hs => by simp [hs]) e1 e2 e3 e4, eqv (l := b) (fun s hs => by simp [hs]) e1 e2 e3 e4]; exact e5
  ·intro h
   obtain ⟨i, u, v, e1, e2, e3, e4⟩ := fin x h
   have := (List.getElem?_eq_some_iff.1 e2).1
   rw [eqv (l := a) (fun s hs => by simp [hs]) e1 e2 e3 e4, eqv (l := b) (fun s hs => by simp [hs]) e1 e2 e3 e4] at h
   exact ⟨i, u, v, by omega, e1, e2, e3, e4, h⟩
theorem ZlF {l : List Span} (hp : ∀ s ∈ l, s.a < s.b) : ZX 1 l [] = ZaM l := by
 obtain ⟨h1, h2⟩ := Zcv (kind := 1) (a := l) (b := []) rfl hp (by simp)
 refine Can.unique h1 (QD hp).can fun x => ?_
 rw [h2, (QD hp).cov]
 simp [QE, Xq, ← Zao]
end Go.Civ
namespace Go.Civ
set_option linter.unusedVariables false

theorem Zfw (x y : UInt8) (a b : List UInt8) : cmpS (x :: a) (y :: b) = if x = y then cmpS a b else Yu (x.toNat : Int) (y.toNat : Int) := by
 unfold cmpS
 by_cases e : x = y
 ·subst e
  rw [if_pos rfl]
  simp [Op.bytesLess]
 ·rw [if_neg e]
  have hn : x.toNat ≠ y.toNat := fun q => e (UInt8.toNat_inj.1 q)
  simp only [Op.bytesLess, List.cons.injEq, e, false_and, if_false]
  have hbe : (x == y) = false := by simpa using e
  rw [hbe]
  simp only [Bool.false_and, Bool.or_false, decide_eq_true_eq]
  unfold Yu
  by_cases k : x < y
  ·rw [if_pos k, if_pos (by rw [UInt8.lt_iff_toNat_lt] at k; omega)]
  ·rw [if_neg k, if_neg (by rw [UInt8.lt_iff_toNat_lt] at k; omega), if_pos (by rw [UInt8.lt_iff_toNat_lt] at k; omega)]
theorem Zga : ∀ {a b : List UInt8} {k : Nat} {x y : UInt8}, (∀ j, j < k → ∀ c d, a[j]? = some c → b[j]? = some d → c = d) → a[k]? = some x → b[k]? = some y → (x.toNat : Int) ≠ (y.toNat : Int) → cmpS a b = Yu (x.toNat : Int) (y.toNat : Int)
 | c :: a, d :: b, 0, x, y, _, h1, h2, h => by
  simp at h1 h2; subst h1 h2
  rw [Zfw, if_neg fun e => h (by rw [e])]
 | c :: a, d :: b, k + 1, x, y, h0, h1, h2, h => by
  have e := h0 0 (by omega) c d rfl rfl
  rw [Zfw, if_pos e]
  exact Zga (k := k) (fun j hj c d hc hd => h0 (j + 1) (by omega) c d (by simpa using hc) (by simpa using hd)) (by simpa using h1) (by simpa using h2) h
 | [], _, _, _, _, _, h1, _, _ => by simp at h1
 | _ :: _, [], _, _, _, _, _, h2, _ => by simp at h2
theorem Ze9 : ∀ {a b : List UInt8} {k : Nat}, (∀ j, j < k → ∀ c d, a[j]? = some c → b[j]? = some d → c = d) → (a.length ≤ k ∨ b.length ≤ k) → cmpS a b = Yu (a.length : Int) (b.length : Int)
 | [], [], _, _, _ => by simp [cmpS, Op.bytesLess, Yu]
 | [], _ :: _, _, _, _ => by unfold Yu; rw [if_pos (by simp only [List.length_nil, List.length_cons]; omega)]; simp [cmpS, Op.bytesLess]
 | _ :: _, [], _, _, _ => by unfold Yu; rw [if_neg (by simp only [List.length_nil, List.length_cons]; omega), if_pos (by simp only [List.length_nil, List.length_cons]; omega)]; simp [cmpS, Op.bytesLess]
 | c :: a, d :: b, k, h0, h => by
  have hk : 0 < k := by simp at h; omega
  have e := h0 0 hk c d rfl rfl
  rw [Zfw, if_pos e, Ze9 (k := k - 1) (fun j hj c d hc hd => h0 (j + 1) (by omega) c d (by simpa using hc) (by simpa using hd)) (by simp at h; omega)]
  unfold Yu; simp only [List.length_cons]
  split <;> split <;> (try split) <;> (try split) <;> omega
theorem Zow {a b : Int} (h : a ≠ b) : Yu a b ≠ 0 := fun e => h ((ZaN.eq a b).1 e)
theorem Zu5 {x y : Val} (h : x.k ≠ y.k) : cmpV x y = Yu x.k y.k := by unfold cmpV; rw [if_pos (Zow h)]
theorem Zu6 {x y : Val} (h : x.k = y.k) (h2 : x.n ≠ y.n) : cmpV x y = Yu x.n y.n := by
 unfold cmpV; rw [if_neg (by rw [h, ZaN.refl]; simp), if_pos (Zow h2)]
theorem ZkG {x y : Val} (h : x.k = y.k) (h2 : x.n = y.n) : cmpV x y = cmpS x.s y.s := by
 unfold cmpV; rw [if_neg (by rw [h, ZaN.refl]; simp), if_neg (by rw [h2, ZaN.refl]; simp)]
theorem ZiK {α β : Type} {f : α → β → Int} {a : List α} {b : List β} {k : Nat} (h : ∀ j, j < k → ∀ x y, a[j]? = some x → b[j]? = some y → f x y = 0) (hk : a.length ≤ k ∨ b.length ≤ k) : ZG f a b = Yu (a.length : Int) (b.length : Int) :=
 Zda fun j x y hx hy => h j (by have := (List.getElem?_eq_some_iff.1 hx).1; have := (List.getElem?_eq_some_iff.1 hy).1; omega) x y hx hy

abbrev VV := List (List Val)
def ZaX : VV → List Val → Nat
 | [], _ => 0
 | u :: r, v => if ZG cmpV u v < 0 then ZaX r v + 1 else 0
theorem Zig : ∀ {out : VV} {v : List Val} {k : Nat}, k ≤ out.length → (∀ j, j < k → ∀ u, out[j]? = some u → ZG cmpV u v < 0) → (∀ u, out[k]? = some u → ¬ ZG cmpV u v < 0) → ZaX out v = k
 | [], v, k, hk, _, _ => by simp at hk; simp [ZaX, hk]
 | u :: r, v, 0, _, _, h => by simp only [ZaX]; rw [if_neg (h u rfl)]
 | u :: r, v, k + 1, hk, h0, h => by
  simp only [ZaX]; rw [if_pos (h0 0 (by omega) u rfl), Zig (k := k) (by simpa using hk) (fun j hj u hu => h0 (j + 1) (by omega) u (by simpa using hu)) (fun u hu => h u (by simpa using hu))]
theorem Zih : ∀ (out : VV) (v : List Val), ZaX out v ≤ out.length ∧ (∀ j, j < ZaX out v → ∀ u, out[j]? = some u → ZG cmpV u v < 0) ∧ (∀ u, out[ZaX out v]? = some u → ¬ ZG cmpV u v < 0)
 | [], v => ⟨by simp [ZaX], fun j hj => by simp [ZaX] at hj, fun u hu => by simp at hu⟩
 | u :: r, v => by
  obtain ⟨h1, h2, h3⟩ := Zih r v
  simp only [ZaX]
  split
  ·rename_i hu
   refine ⟨by simpa using h1, fun j hj w hw => ?_, fun w hw => h3 w (by simpa using hw)⟩
   cases j with
   | zero => simp at hw; subst hw; exact hu
   | succ j => exact h2 j (by omega) w (by simpa using hw)
  ·rename_i hu
   exact ⟨by omega, fun j hj => absurd hj (by omega), fun w hw => by simp at hw; subst hw; exact hu⟩
def Za8 (out : VV) (v : List Val) : VV := if out[ZaX out v]? = some v then out else out.take (ZaX out v) ++ [v] ++ out.drop (ZaX out v)
theorem ZqA (out : VV) (v : List Val) : (Za8 out v).length ≤ out.length + 1 := by
 unfold Za8; split
 ·omega
 ·have := (Zih out v).1; simp; omega
theorem ZqB {out : VV} {v u : List Val} : u ∈ Za8 out v ↔ u ∈ out ∨ u = v := by
 unfold Za8
 split
 ·rename_i h
  constructor
  ·exact .inl
  ·rintro (h1 | rfl)
   ·exact h1
   ·exact List.mem_of_getElem? h
 ·rw [List.mem_append, List.mem_append, List.mem_singleton]
  constructor
  ·rintro ((h | h) | h)
   ·exact .inl (List.mem_of_mem_take h)
   ·exact .inr h
   ·exact .inl (List.mem_of_mem_drop h)
  ·rintro (h | h)
   ·rw [← List.take_append_drop (ZaX out v) out] at h
    rcases List.mem_append.1 h with k | k
    ·exact .inl (.inl k)
    ·exact .inr k
   ·exact .inl (.inr h)
def Za9 (l : VV) : Prop := l.Pairwise fun x y => ZG cmpV x y < 0
theorem ZqC {out : VV} {v : List Val} (h : Za9 out) : Za9 (Za8 out v) := by
 unfold Za8
 split
 ·exact h
 ·rename_i hne
  obtain ⟨hp1, hp2, hp3⟩ := Zih out v
  generalize ZaX out v = i at *
  have low : ∀ u ∈ out.take i, ZG cmpV u v < 0 := fun u hu => by
   obtain ⟨j, hj, rfl⟩ := List.getElem_of_mem hu
   simp only [List.length_take] at hj
   rw [List.getElem_take]
   exact hp2 j (by omega) _ (List.getElem?_eq_getElem (by omega))
  have up : ∀ u ∈ out.drop i, ZG cmpV v u < 0 := fun u hu => by
   obtain ⟨j, hj, rfl⟩ := List.getElem_of_mem hu
   simp only [List.length_drop] at hj
   rw [List.getElem_drop]
   have h0 := hp3 out[i] (List.getElem?_eq_getElem (by omega))
   have hn : out[i] ≠ v := fun e => hne (by rw [List.getElem?_eq_getElem (by omega), e])
   have h1 : ZG cmpV v out[i] < 0 := by
    rcases Int.lt_or_le (ZG cmpV v out[i]) 0 with k | k
    ·exact k
    ·exfalso
     by_cases e : ZG cmpV v out[i] = 0
     ·exact hn ((ord.eq _ _).1 e).symm
     ·exact h0 ((ord.swap _ _).2 (by omega))
   by_cases e : j = 0
   ·subst e; simpa using h1
   ·exact ord.trans _ _ _ h1 (List.pairwise_iff_getElem.1 h i (i + j) (by omega) (by omega) (by omega))
  unfold Za9
  rw [List.pairwise_append, List.pairwise_append]
  refine ⟨⟨List.Pairwise.sublist (List.take_sublist _ _) h, by simp, fun y hy z hz => ?_⟩, List.Pairwise.sublist (List.drop_sublist _ _) h, fun y hy z hz => ?_⟩
  ·rw [List.mem_singleton.1 hz]; exact low y hy
  ·rcases List.mem_append.1 hy with hy | hy
   ·exact ord.trans _ _ _ (low y hy) (up z hz)
   ·rw [List.mem_singleton.1 hy]; exact up z hz
theorem Zno {out : VV} {v : List Val} {k : Nat} (hk : k ≤ out.length) (h0 : ∀ j, j < k → ∀ u, out[j]? = some u → ZG cmpV u v < 0) {u : List Val} (h1 : out[k]? = some u) (h2 : ¬ ZG cmpV u v < 0) (h3 : u = v) : Za8 out v = out := by
 subst h3
 unfold Za8
 rw [Zig hk h0 (fun w hw => by rw [h1] at hw; obtain rfl := Option.some.inj hw; exact h2), if_pos h1]
theorem ZqD {out : VV} {v : List Val} {k : Nat} (hk : k ≤ out.length) (h0 : ∀ j, j < k → ∀ u, out[j]? = some u → ZG cmpV u v < 0) (h2 : ∀ u, out[k]? = some u → ¬ ZG cmpV u v < 0) (h3 : out[k]? ≠ some v) : Za8 out v = out.take k ++ [v] ++ out.drop k := by
 unfold Za8
 rw [Zig hk h0 h2, if_neg h3]
structure Shift (out M : VV) (j : Nat) : Prop where
 len : M.length = out.length + 1
 low : ∀ i, i < j → M[i]? = out[i]?
 high : ∀ i, j < i → i ≤ out.length → M[i]? = out[i - 1]?
theorem Shift.start {out : VV} {u : List Val} : Shift out (out ++ [u]) out.length :=
 ⟨by simp, fun i hi => List.getElem?_append_left hi, fun i h1 h2 => by omega⟩
theorem Shift.step {out M : VV} {j : Nat} {x : List Val} (h : Shift out M j) (hj : 0 < j) (hx : M[j - 1]? = some x) : Shift out (M.set j x) (j - 1) := by
 have hjl : j - 1 < M.length := (List.getElem?_eq_some_iff.1 hx).1
 refine ⟨by rw [List.length_set]; exact h.len, fun i hi => ?_, fun i h1 h2 => ?_⟩
 ·rw [List.getElem?_set, if_neg (by omega)]; exact h.low i (by omega)
 ·rw [List.getElem?_set]
  by_cases e : j = i
  ·subst e
   rw [if_pos rfl]
   split
   ·rw [← hx]; exact h.low _ (by omega)
   ·have := h.len; omega
  ·rw [if_neg e]; exact h.high i (by omega) h2
theorem Shift.done {out M : VV} {k : Nat} {v : List Val} (h : Shift out M k) (hk : k ≤ out.length) : M.set k v = out.take k ++ [v] ++ out.drop k := by
 apply List.ext_getElem?
 intro i
 have hl := h.len
 rw [List.getElem?_set, List.append_assoc, List.getElem?_append, List.length_take, Nat.min_eq_left hk]
 by_cases e : k = i
 ·subst e
  rw [if_pos rfl, if_pos (by omega), if_neg (by omega)]; simp
 ·rw [if_neg e]
  by_cases q : i < k
  ·rw [if_pos q, List.getElem?_take, if_pos q]; exact h.low i q
  ·rw [if_neg q, List.getElem?_append, if_neg (by simp; omega), List.getElem?_drop]
   rcases Nat.lt_or_ge out.length i with r | r
   ·rw [List.getElem?_eq_none (by omega), List.getElem?_eq_none (by simp; omega)]
   ·rw [h.high i (by omega) r]; congr 1; simp; omega

theorem ZcN {s : Span} (h : ZI s = true) : Xx s = true := by
 have hp := Xb h
 unfold ZI at h
 simp only [Bool.and_eq_true, decide_eq_true_eq] at h
 rw [ZsB s h.1.1 h.2]; exact decide_eq_true hp
theorem Zwl {c d : UInt8} (h : (c.toNat : Int) = (d.toNat : Int)) : c = d := UInt8.toNat_inj.1 (by omega)
end Go.Civ
namespace Go.Civ
open Go.RowKit
set_option linter.unusedVariables false
theorem Zu9 {n : Int} (h0 : 0 ≤ n) (h : n ≤ 9223372036854775807) : IntKind.u64.wrap n = n:=by
 simp only [IntKind.wrap,IntKind.signed,IntKind.bits]
 simp
 omega
section
variable {P : Program} {Q : Exit → Env → World → Prop} {ρ : Env} {w : World} {ops : Array Oper} {rest : List Oper} {K : Env → World → Prop}
variable {d : Nat} {ty : TypeId} {pos : String} {af : Array Edge} {g : Option (Nat × Bool)} {G : GH}
theorem ZuA {t t' : TypeId} {x : Operand} (n : Nat) {k : IntKind} (hs : P.underlying t = some (.int k)) (h : P.underlying t' = some (.int .u64)) (hb : n ≤ 4 * reach)
  (hw : Region.wanted ⟨some d, .convert t t' x,ty,pos,af,g⟩ (Zr ops ρ) = true) (hx : ev ρ x = .int .i64 (n : Int))
  (kk : K (Z5 ρ d (.int .u64 (n : Int))) w) : OW P ops ⟨some d, .convert t t' x,ty,pos,af,g⟩ ρ w K:=by
 refine WL.val hw ?_ rfl kk
 have e : IntKind.u64.wrap (n : Int) = (n : Int):=Zu9 (by omega) (by unfold reach at hb; omega)
 simp [execOp,hx,convert,ZT hs,ZT h,Conv.intToInt,Result.andThen,e]
theorem ZsP {t ty' : TypeId} {x y : Operand} (n : Nat)
  (hw : Region.wanted ⟨some d, .binOp .shr t x y ty',ty,pos,af,g⟩ (Zr ops ρ) = true) (hx : ev ρ x = .int .u64 (n : Int)) (hy : ev ρ y = .int .u64 1)
  (kk : K (Z5 ρ d (.int .u64 ((n / 2 : Nat) : Int))) w) : OW P ops ⟨some d, .binOp .shr t x y ty',ty,pos,af,g⟩ ρ w K:=by
 refine WL.val hw ?_ rfl kk
 have e : (Op.shift .shr .u64 (n : Int) .u64 1) = pure (.int .u64 ((n / 2 : Nat) : Int)):=by
  rw [shift_shr .u64 .u64 (n : Int) 1 (by decide) (by decide)]; simp
 simp [execOp,hx,hy,binOp,eqGuard,e]
theorem ZuB {t t' : TypeId} {x : Operand} (n : Nat) {k : IntKind} (hs : P.underlying t = some (.int k)) (h : P.underlying t' = some (.int .i64)) (hb : n ≤ 4 * reach)
  (hw : Region.wanted ⟨some d, .convert t t' x,ty,pos,af,g⟩ (Zr ops ρ) = true) (hx : ev ρ x = .int .u64 (n : Int))
  (kk : K (Z5 ρ d (.int .i64 (n : Int))) w) : OW P ops ⟨some d, .convert t t' x,ty,pos,af,g⟩ ρ w K:=
 ZmA (n : Int) hs h ⟨by omega,by unfold reach at hb; omega⟩ hw hx kk
end
section
variable {α : Type} {pf : α → α → Int} {l L M : List α}
def LoF (l : List α) (i lo : Nat) (p : α → Prop) : Prop:=i = lo ∨ ∃ y,l[i - 1]? = some y ∧ p y
def HiF (l : List α) (j hi : Nat) (p : α → Prop) : Prop:=j = hi ∨ ∃ y,l[j]? = some y ∧ p y
def C1F (pf : α → α → Int) (l : List α) (s lo n : Nat) : Prop:=s = lo ∨ ∃ u v,l[s - 1]? = some u ∧ l[n - s]? = some v ∧ ¬ pf v u < 0
def C2F (pf : α → α → Int) (l : List α) (r hi n : Nat) : Prop:=r = hi ∨ ∃ u v,l[r]? = some u ∧ l[n - r - 1]? = some v ∧ pf v u < 0
theorem LoF.start {i lo : Nat} {p : α → Prop} (h : i = lo) : LoF l i lo p:= .inl h
theorem HiF.start {i lo : Nat} {p : α → Prop} (h : i = lo) : HiF l i lo p:= .inl h
theorem C1F.start {s n : Nat} : C1F pf l s s n:= .inl rfl
theorem C2F.start {s n : Nat} : C2F pf l s s n:= .inl rfl
theorem LoF.step {h lo : Nat} {y : α} {p : α → Prop} (hy : l[h]? = some y) (hp : p y) : LoF l (h + 1) lo p:= .inr ⟨y,hy,hp⟩
theorem HiF.step {h hi : Nat} {y : α} {p : α → Prop} (hy : l[h]? = some y) (hp : p y) : HiF l h hi p:= .inr ⟨y,hy,hp⟩
theorem C1F.step {c n lo : Nat} {u v : α} (hu : l[c]? = some u) (hv : l[n - 1 - c]? = some v) (h : 0 ≤ pf v u) : C1F pf l (c + 1) lo n:=
 .inr ⟨u,v,hu,by rw [show n - (c + 1) = n - 1 - c by omega]; exact hv,by omega⟩
theorem C2F.step {c n hi : Nat} {u v : α} (hu : l[c]? = some u) (hv : l[n - 1 - c]? = some v) (h : pf v u < 0) : C2F pf l c hi n:=
 .inr ⟨u,v,hu,by rw [show n - c - 1 = n - 1 - c by omega]; exact hv,h⟩
inductive Blks (pf : α → α → Int) (L : List α) (bs n : Nat) : Nat → Prop
 | fin {a : Nat} : n ≤ a → Blks pf L bs n a
 | step {a : Nat} : Asc pf L a (min (a + bs) n) → Blks pf L bs n (a + bs) → Blks pf L bs n a
inductive Done (pf : α → α → Int) (L : List α) (bs : Nat) : Nat → Prop
 | zero : Done pf L bs 0
 | snoc {a : Nat} : Done pf L bs a → Asc pf L a (a + bs) → Done pf L bs (a + bs)
variable {bs n a : Nat}
theorem Blks.frame (h : Blks pf L bs n a) (k : ∀ p,a ≤ p → M[p]? = L[p]?) : Blks pf M bs n a:=by
 induction h with
 | fin h=>exact .fin h
 | step h1 h2 ih=>exact .step (h1.frame fun p hp _=>k p hp) (ih fun p hp=>k p (by omega))
theorem Done.frame (h : Done pf L bs a) (k : ∀ p,p < a → M[p]? = L[p]?) : Done pf M bs a:=by
 induction h with
 | zero=>exact .zero
 | snoc h1 h2 ih=>exact .snoc (ih fun p hp=>k p (by omega)) (h2.frame fun p _ hp=>k p hp)
theorem Done.blks (h : Done pf L bs a) (ha : a ≤ n) (k : Blks pf L bs n a) : Blks pf L bs n 0:=by
 induction h with
 | zero=>exact k
 | snoc h1 h2 ih=>exact ih (by omega) (.step (by rw [Nat.min_eq_left ha]; exact h2) k)
theorem Blks.head (h : Blks pf L bs n a) (ha : a < n) : Asc pf L a (min (a + bs) n) ∧ Blks pf L bs n (a + bs):=by
 cases h with
 | fin h=>omega
 | step h1 h2=>exact ⟨h1,h2⟩
theorem Blks.last (h : Asc pf L a n) (ha : n ≤ a + bs) : Blks pf L bs n a:= .step (by rw [Nat.min_eq_right ha]; exact h) (.fin ha)
theorem Blks.rest (h : Blks pf L bs n a) (h2 : a + bs < n) (h3 : n < a + 2 * bs) : Asc pf L a (a + bs) ∧ Asc pf L (a + bs) n:=by
 obtain ⟨k1,k2⟩:=h.head (by omega)
 obtain ⟨k3,_⟩:=k2.head h2
 rw [Nat.min_eq_left (by omega)] at k1
 rw [Nat.min_eq_right (by omega)] at k3
 exact ⟨k1,k3⟩
theorem Blks.one (h : Blks pf L bs n a) (h2 : n ≤ a + bs) : Asc pf L a n:=by
 rcases Nat.lt_or_ge a n with k | k
 ·have:=(h.head k).1
  rwa [Nat.min_eq_right h2] at this
 ·exact Asc.empty (by omega)
theorem Done.ins (h : Done pf L bs a) (k : Ins pf L M a (a + bs) (a + bs)) : Done pf M bs (a + bs):= .snoc (h.frame fun p hp=>k.frame p (by omega)) k.asc
theorem Done.last (h : Done pf L bs a) (k : Ins pf L M a n n) (ha : a ≤ n) (hn : n ≤ a + bs) : Blks pf M bs n 0:=(h.frame (M:=M) fun p hp=>k.frame p (by omega)).blks ha (.last k.asc hn)
end
end Go.Civ
set_option linter.unusedVariables false
namespace Go.Civ
open Go.Proofs Go.Shelf Go.RowKit Go.Lib Go.Sort
theorem Zio {G : GH} : ∀ (l : List Int),(∀ x ∈ l,Zw x) → X2 Enc.int G l (l.map (Value.int .i64))
 | [],_=>rfl
 | x :: l,h=>⟨[.int .i64 x],l.map (Value.int .i64),rfl,⟨rfl,h x (by simp)⟩,Zio l fun y hy=>h y (by simp [hy])⟩
theorem Zc4 {G : GH} : ∀ (l : List Int) (xs : List Value),X2 Enc.int G l xs → xs = l.map (Value.int .i64) ∧ ∀ x ∈ l,Zw x
 | [],xs,h=>⟨h,by simp⟩
 | x :: l,xs,⟨c,r,h1,h2,h3⟩=>by
  obtain ⟨rfl,hb⟩:=h2
  obtain ⟨rfl,h4⟩:=Zc4 l r h3
  refine ⟨h1,fun y hy=>?_⟩
  rcases List.mem_cons.1 hy with rfl | hy
  ·exact hb
  ·exact h4 y hy
def ZbJ (l : List Int) : List Int:=l.mergeSort fun x y=>decide (x ≤ y)
set_option maxHeartbeats 1000000 in
theorem Ztm {G : GH} {w : World} (hG : G.In w) (l : List Int) (vd : Value) (od : OB) (hvd : Ye Enc.int 8 (nat_lit 3) G vd l od) (hod : XJ w G od) :
  Calls Tryz.prog (nat_lit 145) #[vd] w fun e w'=>∃ r G',e = .returned r ∧ Res (blk od) w G w' G' ∧ r = .tuple #[] ∧ ∃ (l' : List Int) (o' : OB),Ye Enc.int 8 (nat_lit 3) G' vd l' o' ∧ XJ w' G' o' ∧ l' = ZbJ l:=by
 rcases hvd with ⟨rfl,rfl,rfl⟩ | ⟨b,cs,cap,xs,rfl,rfl,h3,h4,h5,h6,h7,h8,h9⟩
 ·exact (Any.slices_Sort_int_none Tryz.laysSort none 0 w).mono fun e w' ⟨he,hw⟩=>by
   subst hw
   exact ⟨_,G,he,Res.refl hG,rfl,[],none, .inl ⟨rfl,rfl,rfl⟩,fun p hp=>(by cases hp),by simp [ZbJ]⟩
 ·obtain ⟨hb1,hb2⟩:=hod _ rfl
  obtain ⟨rfl,hI⟩:=Zc4 l xs h6
  have hE : Enc.int.n = 1:=rfl
  rw [hE,Nat.mul_one] at h5 h7
  have hcell : ∀ t,t < l.length → cs[t]? = some (.int .i64 l[t]!):=fun t ht=>by
   have:=congrArg (·[t]?) h7
   simp only [List.getElem?_take,if_pos ht,List.getElem?_map] at this
   rw [this,List.getElem?_eq_getElem ht,getElem!_pos l t ht]; rfl
  have hH : Holds (Value.int .i64) w b 0 l.toArray:=fun t ht=>by
   have ht' : t < l.length:=by simpa using ht
   refine ⟨?_,?_⟩
   ·rw [Nat.zero_add]
    simp only [World.cell?,hb1,ZaK]
    have:=hcell t ht'
    rw [getElem!_pos l t ht'] at this
    rw [getElem!_pos l.toArray t ht]
    simpa using this
   ·simp [World.frozen?,hb1,ZaK]
  have hcon:=Any.slices_Sort_int Tryz.laysSort b 0 cap l w hH (Array.getElem?_eq_some_iff.1 hb1).1 (by unfold reach at h9; omega)
  refine hcon.mono fun e w' ⟨he,n,os,hw⟩=>?_
  have hperm : (ZbJ l).Perm l:=List.mergeSort_perm _ _
  have hlen : (ZbJ l).length = l.length:=hperm.length_eq
  have hbl : b < w.heap.size:=(Array.getElem?_eq_some_iff.1 hb1).1
  obtain ⟨cs',hcs'⟩ : ∃ cs' : List Value,cs' = (putCells (Value.int .i64) 0 (ZbJ l).toArray cs.toArray).toList:=⟨_,rfl⟩
  have hget : ∀ k,w'.heap[k]? = if k < w.heap.size then (if b = k then some (.cells cs'.toArray (nat_lit 3) (0,0)) else w.heap[k]?) else os[k - w.heap.size]? :=fun k=>by
   subst hw
   have hah : (Go.Sort.ahead w n).heap = w.heap:=rfl
   simp only [putRow,mapBlock,grow,hah]
   rw [Array.getElem?_append]
   simp only [Array.size_modify]
   by_cases hk : k < w.heap.size
   ·rw [if_pos hk,if_pos hk,Array.getElem?_modify]
    by_cases hkb : b = k
    ·subst hkb
     rw [if_pos rfl,if_pos rfl,hb1]
     simp [ZaK,onCells,hcs',ZbJ]
    ·rw [if_neg hkb,if_neg hkb]
   ·rw [if_neg hk,if_neg hk]
  have hres : Res [b] w G w' G:=by
   refine ⟨?_,G.le_refl,fun _ _=>rfl,fun k o hk=>?_⟩
   ·refine ⟨by subst hw; rfl,by subst hw; rfl,by subst hw; rfl,by subst hw; exact Nat.le_add_right _ _,?_,fun k hk hkb=>?_⟩
    ·subst hw
     have hah : (Go.Sort.ahead w n).heap = w.heap:=rfl
     simp [putRow,mapBlock,grow]
     try simp [hah]
    ·rw [hget,if_pos hk,if_neg (by simpa [eq_comm] using hkb)]
   ·have hk1:=hG.lt hk
    have hkb : b ≠ k:=fun e=>by subst e; simp only at hb2; rw [hb2] at hk; cases hk
    rw [hget,if_pos hk1,if_neg hkb]; exact hG k o hk
  have hI' : ∀ x ∈ ZbJ l,Zw x:=fun x hx=>hI x (hperm.mem_iff.1 hx)
  refine ⟨_,G,he,hres,rfl,ZbJ l,some (b,nat_lit 3,cs'), .inr ⟨b,cs',cap,(ZbJ l).map (Value.int .i64),rfl,by rw [hlen],by rw [hlen]; exact h3,h4,?_,Zio _ hI',?_,by rw [hlen]; exact h8,by rw [hlen]; exact h9⟩,fun p hp=>?_,rfl⟩
  ·subst hcs'; rw [hE]; simpa [putCells] using h5
  ·rw [hE,Nat.mul_one]
   apply List.ext_getElem?
   intro t
   rw [List.getElem?_take]
   by_cases ht : t < (ZbJ l).length
   ·have htc : t < cs.length:=by omega
    rw [if_pos ht,hcs']
    simp only [putCells,Array.getElem?_toList,Array.getElem?_mapIdx]
    simp only [List.getElem?_toArray]
    rw [List.getElem?_eq_getElem htc,List.getElem?_map,List.getElem?_eq_getElem ht]
    simp [ht]
   ·rw [if_neg ht,List.getElem?_eq_none]
    simp; omega
  ·obtain rfl:=Option.some.inj hp
   exact ⟨by rw [hget,if_pos hbl,if_pos rfl]; rfl,hb2⟩
end Go.Civ
namespace Go.Proofs
open Go.Shelf
def Tryz.ixByte_ren : Go.Shelf.Ren:=⟨fun | 137=>172 | 217=>211 | 266=>245 | n=>n,fun | 9=>9 | 5=>5 | 3=>3 | n=>n,fun | n=>n⟩
theorem Tryz.ixByte : Go.Proofs.Lays.n137 Tryz.prog Tryz.ixByte_ren:={
 mixed:=by kernel_rfl
 f137:=Tryz.func172.trans (congrArg some (by kernel_rfl))
 f217:=Tryz.func211.trans (congrArg some (by kernel_rfl))
 f266:=Tryz.func245.trans (congrArg some (by kernel_rfl))
 t3:=Tryz.underlying3
 a3:=Tryz.isAgg3
 z3:=Tryz.sizeOf3
 v3:=Tryz.zeroValue3
 t5:=Tryz.underlying5
 a5:=Tryz.isAgg5
 z5:=Tryz.sizeOf5
 v5:=Tryz.zeroValue5
 t9:=Tryz.underlying9
 a9:=Tryz.isAgg9
 z9:=Tryz.sizeOf9
 v9:=Tryz.zeroValue9 }
end Go.Proofs
set_option linter.unusedVariables false
namespace Go.Civ
open Go.Proofs Go.Shelf Go.RowKit
theorem ZlN {G : GH} {w : World} (hG : G.In w) (s : List UInt8) (c : Int) : Calls Tryz.prog (nat_lit 172) #[Zb s, .int .u8 c] w fun e w'=>∃ r G',e = .returned r ∧ Res [] w G w' G' ∧ r = .int .i64 (Lib.indexByte s c.toNat.toUInt8):=by
 refine (Any.strings_IndexByte Tryz.ixByte ⟨s.toArray⟩ c w).mono ?_
 rintro e w' ⟨rfl,rfl⟩
 exact ⟨_,G,rfl,Res.refl hG,rfl⟩
end Go.Civ
