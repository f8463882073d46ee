/- Lemmas. -/
import Derived.Test.YtcopkjhdncdnmaaGreatDoorP12
set_option linter.unusedSimpArgs false
namespace Go.Civ
set_option linter.unusedVariables false

structure IsPos (l : List Int) (x : Int) (i : Nat) : Prop where
 le : i ≤ l.length
 up : ∀ (j : Nat) y, i ≤ j → l[j]? = some y → x ≤ y
 low : ∀ y, 0 < i → l[i - 1]? = some y → y < x
theorem IsPos.unique {l : List Int} {x : Int} {i j : Nat} (h : IsPos l x i) (k : IsPos l x j) : i = j := by
 rcases Nat.lt_trichotomy i j with q | q | q
 ·have hj : j - 1 < l.length := by have := k.le; omega
  have h1 := h.up (j - 1) l[j - 1] (by omega) (List.getElem?_eq_getElem hj)
  have h2 := k.low l[j - 1] (by omega) (List.getElem?_eq_getElem hj)
  omega
 ·exact q
 ·have hi : i - 1 < l.length := by have := h.le; omega
  have h1 := k.up (i - 1) l[i - 1] (by omega) (List.getElem?_eq_getElem hi)
  have h2 := h.low l[i - 1] (by omega) (List.getElem?_eq_getElem hi)
  omega
def Zcx : List Int → Int → Nat
 | [], _ => 0
 | y :: r, x => if Zcx r x = 0 then (if y < x then 1 else 0) else Zcx r x + 1
theorem ZhQ : ∀ (l : List Int) (x : Int), IsPos l x (Zcx l x)
 | [], x => ⟨Nat.le_refl _, fun j y _ h => by simp at h, fun y h => by simp [Zcx] at h⟩
 | y :: r, x => by
  have ih := ZhQ r x
  simp only [Zcx]
  by_cases h0 : Zcx r x = 0
  ·rw [if_pos h0]
   rw [h0] at ih
   by_cases hy : y < x
   ·rw [if_pos hy]
    refine ⟨by simp, fun j z hj hz => ?_, fun z _ hz => ?_⟩
    ·cases j with
     | zero => omega
     | succ j => exact ih.up j z (by omega) (by simpa using hz)
    ·simp at hz; omega
   ·rw [if_neg hy]
    refine ⟨by simp, fun j z hj hz => ?_, fun z h => absurd h (by omega)⟩
    cases j with
    | zero => simp at hz; omega
    | succ j => exact ih.up j z (by omega) (by simpa using hz)
  ·rw [if_neg h0]
   refine ⟨by have := ih.le; simp; omega, fun j z hj hz => ?_, fun z _ hz => ?_⟩
   ·cases j with
    | zero => omega
    | succ j => exact ih.up j z (by omega) (by simpa using hz)
   ·have e : Zcx r x + 1 - 1 = (Zcx r x - 1) + 1 := by omega
    rw [e] at hz
    exact ih.low z (by omega) (by simpa using hz)
def ZdE (l : List Int) (x : Int) : List Int := if l[Zcx l x]? = some x then l else l.take (Zcx l x) ++ [x] ++ l.drop (Zcx l x)
theorem Zj3 (l : List Int) (x : Int) : (ZdE l x).length ≤ l.length + 1 := by
 unfold ZdE; split
 ·omega
 ·have := (ZhQ l x).le; simp; omega
theorem Zj4 {l : List Int} {x y : Int} : y ∈ ZdE l x ↔ y ∈ l ∨ y = x := by
 unfold ZdE
 split
 ·rename_i h
  constructor
  ·exact .inl
  ·rintro (h1 | rfl)
   ·exact h1
   ·exact List.mem_of_getElem? h
 ·rw [List.mem_append, List.mem_append, List.mem_singleton]
  constructor
  ·rintro ((h | h) | h)
   ·exact .inl (List.mem_of_mem_take h)
   ·exact .inr h
   ·exact .inl (List.mem_of_mem_drop h)
  ·rintro (h | h)
   ·rw [← List.take_append_drop (Zcx l x) l] at h
    rcases List.mem_append.1 h with k | k
    ·exact .inl (.inl k)
    ·exact .inr k
   ·exact .inl (.inr h)
theorem Zj5 {l : List Int} {x : Int} (h : l.Pairwise (· < ·)) : (ZdE l x).Pairwise (· < ·) := by
 unfold ZdE
 split
 ·exact h
 ·rename_i hne
  have hp := ZhQ l x
  generalize Zcx l x = i at *
  have low : ∀ y ∈ l.take i, y < x := fun y hy => by
   obtain ⟨j, hj, rfl⟩ := List.getElem_of_mem hy
   simp only [List.length_take] at hj
   rw [List.getElem_take]
   have hil : i - 1 < l.length := by have := hp.le; omega
   have h1 := hp.low l[i - 1] (by omega) (List.getElem?_eq_getElem hil)
   by_cases e : j = i - 1
   ·subst e; exact h1
   ·have := List.pairwise_iff_getElem.1 h j (i - 1) (by omega) hil (by omega)
    omega
  have up : ∀ y ∈ l.drop i, x < y := fun y hy => by
   obtain ⟨j, hj, rfl⟩ := List.getElem_of_mem hy
   simp only [List.length_drop] at hj
   rw [List.getElem_drop]
   have h1 := hp.up (i + j) l[i + j] (by omega) (List.getElem?_eq_getElem (by omega))
   have h0 := hp.up i l[i] (by omega) (List.getElem?_eq_getElem (by omega))
   have hn : l[i] ≠ x := fun e => hne (by rw [List.getElem?_eq_getElem (by omega), e])
   by_cases e : j = 0
   ·subst e; simp only [Nat.add_zero]; omega
   ·have := List.pairwise_iff_getElem.1 h i (i + j) (by omega) (by omega) (by omega)
    omega
  rw [List.pairwise_append, List.pairwise_append]
  refine ⟨⟨h.sublist (List.take_sublist _ _), by simp, fun y hy z hz => ?_⟩, h.sublist (List.drop_sublist _ _), fun y hy z hz => ?_⟩
  ·rw [List.mem_singleton.1 hz]; exact low y hy
  ·rcases List.mem_append.1 hy with hy | hy
   ·have := low y hy; have := up z hz; omega
   ·rw [List.mem_singleton.1 hy]; exact up z hz

def Zf9 (l : List Int) (x : Int) (i : Nat) : Prop := ∀ (j : Nat) y, i ≤ j → l[j]? = some y → x ≤ y
theorem Zf9.start {l : List Int} {x : Int} : Zf9 l x l.length := fun j y h1 h2 => by have := (List.getElem?_eq_some_iff.1 h2).1; omega
theorem Zf9.step {l : List Int} {x y : Int} {i : Nat} (h : Zf9 l x i) (h1 : l[i - 1]? = some y) (hy : x ≤ y) : Zf9 l x (i - 1) := fun j z hj hz => by
 by_cases e : j = i - 1
 ·subst e; rw [h1] at hz; obtain rfl := Option.some.inj hz; exact hy
 ·exact h j z (by omega) hz
theorem Zf9.zero {l : List Int} {x : Int} {i : Nat} (h : Zf9 l x i) (hi : i = 0) : IsPos l x i := ⟨by omega, h, fun y h0 => by omega⟩
theorem Zf9.pos {l : List Int} {x y : Int} {i : Nat} (h : Zf9 l x i) (hi : i ≤ l.length) (h1 : l[i - 1]? = some y) (hy : y < x) : IsPos l x i :=
 ⟨hi, h, fun z _ hz => by rw [h1] at hz; obtain rfl := Option.some.inj hz; exact hy⟩
def QR (l : List Span) : List Int := l.foldl (fun out s => ZdE (ZdE out s.a) s.b) []
theorem ZlK (l : List Span) (s : Span) : QR (l ++ [s]) = ZdE (ZdE (QR l) s.a) s.b := by simp [QR, List.foldl_append]
theorem ZfA : ∀ (n : Nat) (l : List Span), l.length = n → (QR l).Pairwise (· < ·) ∧ (∀ y, y ∈ QR l ↔ ∃ s ∈ l, y = s.a ∨ y = s.b) ∧ (QR l).length ≤ 2 * l.length
 | 0, l, hn => by
  obtain rfl := List.length_eq_zero_iff.1 hn
  simp [QR]
 | n + 1, l, hn => by
  obtain ⟨p, x, rfl⟩ : ∃ p x, l = p ++ [x] := by
   rcases List.eq_nil_or_concat l with rfl | ⟨p, x, h⟩
   ·simp at hn
   ·exact ⟨p, x, by simpa using h⟩
  obtain ⟨h1, h2, h3⟩ := ZfA n p (by simpa using hn)
  rw [ZlK]
  refine ⟨Zj5 (Zj5 h1), fun y => ?_, ?_⟩
  ·rw [Zj4, Zj4, h2]
   constructor
   ·rintro ((⟨s, hs, e⟩ | e) | e)
    ·exact ⟨s, by simp [hs], e⟩
    ·exact ⟨x, by simp, .inl e⟩
    ·exact ⟨x, by simp, .inr e⟩
   ·rintro ⟨s, hs, e⟩
    rcases List.mem_append.1 hs with hs | hs
    ·exact .inl (.inl ⟨s, hs, e⟩)
    ·obtain rfl := List.mem_singleton.1 hs
     rcases e with e | e
     ·exact .inl (.inr e)
     ·exact .inr e
  ·have q1 := Zj3 (QR p) x.a
   have q2 := Zj3 (ZdE (QR p) x.a) x.b
   simp; omega
theorem ZmQ (l : List Span) : (QR l).Pairwise (· < ·) := (ZfA _ l rfl).1
theorem Ziu {l : List Span} {y : Int} : y ∈ QR l ↔ ∃ s ∈ l, y = s.a ∨ y = s.b := (ZfA _ l rfl).2.1 y
def inR (l : List Span) (x : Int) : Bool := l.any fun s => decide (s.a ≤ x) && decide (x < s.b)
theorem ZdB {l : List Span} {x : Int} : inR l x = true ↔ cover l x := by simp [inR, cover]
def Zj6 (out : List Span) (s : Span) : List Span := match out[out.length - 1]? with
 | some p => if p.b = s.a then out.set (out.length - 1) ⟨p.a, s.b⟩ else out ++ [s]
 | none => out ++ [s]
theorem Zor {out : List Span} {s : Span} (h : out.length = 0) : Zj6 out s = out ++ [s] := by
 obtain rfl := List.length_eq_zero_iff.1 h; rfl
theorem ZmR (o : List Span) (p s : Span) : Zj6 (o ++ [p]) s = if p.b = s.a then o ++ [⟨p.a, s.b⟩] else o ++ [p] ++ [s] := by
 unfold Zj6
 have e : (o ++ [p]).length - 1 = o.length := by simp
 rw [e, List.getElem?_append_right (Nat.le_refl _)]
 simp only [Nat.sub_self, List.getElem?_cons_zero]
 split
 ·rw [List.set_append_right _ _ (Nat.le_refl _)]; simp
 ·rfl
def Zbr (kind : Int) (a b : Bool) : Bool := if kind = 1 then a || b else if kind = 2 then a && b else if kind = 3 then a && !b else !(a == b)
def Q8 (kind : Int) (a b : List Span) (es : List Int) : Nat → List Span
 | 0 => []
 | k + 1 => match es[k]?, es[k + 1]? with
  | some x, some y => if Zbr kind (inR a x) (inR b x) then Zj6 (Q8 kind a b es k) ⟨x, y⟩ else Q8 kind a b es k
  | _, _ => Q8 kind a b es k
def ZiP (kind : Int) (a b : List Span) : List Span := Q8 kind a b (QR (a ++ b)) ((QR (a ++ b)).length - 1)
theorem ZmS {kind : Int} {a b : List Span} {es : List Int} {k : Nat} {x y : Int} (h1 : es[k]? = some x) (h2 : es[k + 1]? = some y) (h : Zbr kind (inR a x) (inR b x) = true) : Q8 kind a b es (k + 1) = Zj6 (Q8 kind a b es k) ⟨x, y⟩ := by
 simp only [Q8, h1, h2]; rw [if_pos h]
theorem Zos {kind : Int} {a b : List Span} {es : List Int} {k : Nat} {x y : Int} (h1 : es[k]? = some x) (h2 : es[k + 1]? = some y) (h : Zbr kind (inR a x) (inR b x) = false) : Q8 kind a b es (k + 1) = Q8 kind a b es k := by
 simp only [Q8, h1, h2]; rw [if_neg (by rw [h]; simp)]
section
variable {es : List Int} (hs : es.Pairwise (· < ·))
include hs
theorem Zpg {i j : Nat} {x y : Int} (h1 : es[i]? = some x) (h2 : es[j]? = some y) (hij : i < j) : x < y := by
 obtain ⟨a, rfl⟩ := List.getElem?_eq_some_iff.1 h1
 obtain ⟨b, rfl⟩ := List.getElem?_eq_some_iff.1 h2
 exact List.pairwise_iff_getElem.1 hs i j a b hij
theorem Zj7 {i : Nat} {u v y : Int} (h1 : es[i]? = some u) (h2 : es[i + 1]? = some v) (hy : y ∈ es) (h : y < v) : y ≤ u := by
 obtain ⟨j, hj⟩ := List.getElem?_of_mem hy
 rcases Nat.lt_or_ge i j with q | q
 ·rcases Nat.lt_or_ge (i + 1) j with r | r
  ·have := Zpg hs h2 hj r; omega
  ·have : j = i + 1 := by omega
   subst this; rw [h2] at hj; obtain rfl := Option.some.inj hj; omega
 ·rcases Nat.lt_or_ge j i with r | r
  ·have := Zpg hs hj h1 r; omega
  ·have : j = i := by omega
   subst this; rw [h1] at hj; obtain rfl := Option.some.inj hj; omega
theorem Zot {i : Nat} {u v y : Int} (h1 : es[i]? = some u) (h2 : es[i + 1]? = some v) (hy : y ∈ es) (h : u < y) : v ≤ y := by
 rcases Int.lt_or_le y v with q | q
 ·have := Zj7 hs h1 h2 hy q; omega
 ·exact q
theorem ZiL {l : List Span} (hl : ∀ s ∈ l, s.a ∈ es ∧ s.b ∈ es) {i : Nat} {u v x : Int} (h1 : es[i]? = some u) (h2 : es[i + 1]? = some v) (hx : u ≤ x) (hx' : x < v) : cover l x ↔ cover l u := by
 constructor
 ·rintro ⟨s, hsl, a1, a2⟩
  have := Zj7 hs h1 h2 (hl s hsl).1 (by omega)
  exact ⟨s, hsl, this, by omega⟩
 ·rintro ⟨s, hsl, a1, a2⟩
  have := Zot hs h1 h2 (hl s hsl).2 a2
  exact ⟨s, hsl, by omega, by omega⟩
omit hs in
theorem ZkZ : ∀ {es : List Int} {x p q : Int}, p ∈ es → q ∈ es → p ≤ x → x < q → es.Pairwise (· < ·) → ∃ (i : Nat) (u v : Int), es[i]? = some u ∧ es[i + 1]? = some v ∧ u ≤ x ∧ x < v
 | [], _, _, _, h, _, _, _, _ => by simp at h
 | [e], x, p, q, h1, h2, h3, h4, _ => by simp at h1 h2; omega
 | e :: f :: r, x, p, q, h1, h2, h3, h4, hp => by
  rcases Int.lt_or_le x f with k | k
  ·have hp' := List.pairwise_cons.1 hp
   refine ⟨0, e, f, rfl, rfl, ?_, k⟩
   rcases List.mem_cons.1 h1 with rfl | h1
   ·exact h3
   ·have := hp'.1 p h1; omega
  ·have hp' := List.pairwise_cons.1 hp
   have hq : q ∈ f :: r := by
    rcases List.mem_cons.1 h2 with rfl | h2
    ·have := hp'.1 f (by simp); omega
    ·exact h2
   obtain ⟨i, u, v, a1, a2, a3⟩ := ZkZ (es := f :: r) (x := x) (p := f) (q := q) (by simp) hq k h4 hp'.2
   exact ⟨i + 1, u, v, by simpa using a1, by simpa using a2, a3⟩
end
structure CombInv (kind : Int) (a b : List Span) (es : List Int) (k : Nat) (out : List Span) : Prop where
 can : Can out
 top : ∀ s ∈ out, ∀ e, es[k]? = some e → s.b ≤ e
 cov : ∀ x, cover out x ↔ ∃ i u v, i < k ∧ es[i]? = some u ∧ es[i + 1]? = some v ∧ u ≤ x ∧ x < v ∧ Zbr kind (inR a u) (inR b u) = true
theorem Ziv {kind : Int} {a b : List Span} {es : List Int} (hs : es.Pairwise (· < ·)) : ∀ k, k < es.length → CombInv kind a b es k (Q8 kind a b es k)
 | 0, _ => ⟨⟨List.Pairwise.nil, by simp [Q8]⟩, by simp [Q8], fun x => by simp [Q8, cover]⟩
 | k + 1, hk => by
  have ih := Ziv (kind := kind) (a := a) (b := b) hs k (by omega)
  have h1 : es[k]? = some es[k] := List.getElem?_eq_getElem (by omega)
  have h2 : es[k + 1]? = some es[k + 1] := List.getElem?_eq_getElem hk
  have hlt : es[k] < es[k + 1] := List.pairwise_iff_getElem.1 hs k (k + 1) (by omega) hk (by omega)
  have step : ∀ x, (∃ i u v, i < k + 1 ∧ es[i]? = some u ∧ es[i + 1]? = some v ∧ u ≤ x ∧ x < v ∧ Zbr kind (inR a u) (inR b u) = true) ↔
    (∃ i u v, i < k ∧ es[i]? = some u ∧ es[i + 1]? = some v ∧ u ≤ x ∧ x < v ∧ Zbr kind (inR a u) (inR b u) = true) ∨ (es[k] ≤ x ∧ x < es[k + 1] ∧ Zbr kind (inR a es[k]) (inR b es[k]) = true) := fun x => by
   constructor
   ·rintro ⟨i, u, v, hi, e1, e2, e3, e4, e5⟩
    by_cases e : i = k
    ·subst e
     rw [h1] at e1; rw [h2] at e2
     obtain rfl := Option.some.inj e1
     obtain rfl := Option.some.inj e2
     exact .inr ⟨e3, e4, e5⟩
    ·exact .inl ⟨i, u, v, by omega, e1, e2, e3, e4, e5⟩
   ·rintro (⟨i, u, v, hi, e1, e2, e3, e4, e5⟩ | ⟨e3, e4, e5⟩)
    ·exact ⟨i, u, v, by omega, e1, e2, e3, e4, e5⟩
    ·exact ⟨k, _, _, by omega, h1, h2, e3, e4, e5⟩
  cases hkp : Zbr kind (inR a es[k]) (inR b es[k]) with
  | false =>
   rw [Zos h1 h2 hkp]
   refine ⟨ih.can, fun s hs' e he => ?_, fun x => ?_⟩
   ·rw [h2] at he
    obtain rfl := Option.some.inj he
    have := ih.top s hs' _ h1; omega
   ·rw [step, ih.cov, hkp]; simp
  | true =>
   rw [ZmS h1 h2 hkp]
   rcases List.eq_nil_or_concat (Q8 kind a b es k) with h0 | ⟨o, q, h0⟩
   ·rw [h0] at ih ⊢
    rw [Zor rfl]
    refine ⟨⟨by simp, by simpa using hlt⟩, fun s hs' e he => ?_, fun x => ?_⟩
    ·rw [h2] at he
     obtain rfl := Option.some.inj he
     simp at hs'; subst hs'; exact Int.le_refl _
    ·rw [step, ← ih.cov, hkp, List.nil_append, Zec]; simp [cover]
   ·have h0 : Q8 kind a b es k = o ++ [q] := by simpa using h0
    rw [h0] at ih ⊢
    have hap := List.pairwise_append.1 ih.can.apart
    have hq := ih.can.pos q (by simp)
    have hqt := ih.top q (by simp) _ h1
    rw [ZmR]
    by_cases hj : q.b = es[k]
    ·rw [if_pos hj]
     refine ⟨⟨List.pairwise_append.2 ⟨hap.1, by simp, fun u hu v hv => ?_⟩, fun s hs' => ?_⟩, fun s hs' e he => ?_, fun x => ?_⟩
     ·obtain rfl := List.mem_singleton.1 hv
      exact hap.2.2 u hu q (by simp)
     ·rcases List.mem_append.1 hs' with hs' | hs'
      ·exact ih.can.pos s (by simp [hs'])
      ·obtain rfl := List.mem_singleton.1 hs'
       simp only; omega
     ·rw [h2] at he
      obtain rfl := Option.some.inj he
      rcases List.mem_append.1 hs' with hs' | hs'
      ·have := ih.top s (by simp [hs']) _ h1; omega
      ·obtain rfl := List.mem_singleton.1 hs'; exact Int.le_refl _
     ·rw [step, ← ih.cov, hkp, ZbX, ZbX, or_assoc]
      refine or_congr Iff.rfl ?_
      rw [Zec, Zec]
      simp only [and_true]
      constructor <;> intro h <;> omega
    ·rw [if_neg hj]
     refine ⟨⟨List.pairwise_append.2 ⟨ih.can.apart, by simp, fun u hu v hv => ?_⟩, fun s hs' => ?_⟩, fun s hs' e he => ?_, fun x => ?_⟩
     ·obtain rfl := List.mem_singleton.1 hv
      rcases List.mem_append.1 hu with hu | hu
      ·have := hap.2.2 u hu q (by simp); simp only; omega
      ·obtain rfl := List.mem_singleton.1 hu; simp only; omega
     ·rcases List.mem_append.1 hs' with hs' | hs'
      ·exact ih.can.pos s hs'
      ·obtain rfl := List.mem_singleton.1 hs'; exact hlt
     ·rw [h2] at he
      obtain rfl := Option.some.inj he
      rcases List.mem_append.1 hs' with hs' | hs'
      ·have := ih.top s hs' _ h1; omega
      ·obtain rfl := List.mem_singleton.1 hs'; exact Int.le_refl _
     ·rw [step, ← ih.cov, hkp, ZbX (r := o ++ [q]), Zec]; simp
theorem ZmT {kind : Int} {a b : List Span} (h0 : Zbr kind false false = false) (ha : ∀ s ∈ a, s.a < s.b) (hb : ∀ s ∈ b, s.a < s.b) :
  Can (ZiP kind a b) ∧ ∀ x, cover (ZiP kind a b) x ↔ Zbr kind (inR a x) (inR b x) = true := by
 have hs := ZmQ (a ++ b)
 have hl : ∀ s ∈ a ++ b, s.a ∈ QR (a ++ b) ∧ s.b ∈ QR (a ++ b) := fun s hs => ⟨Ziu.2 ⟨s, hs, .inl rfl⟩, Ziu.2 ⟨s, hs, .inr rfl⟩⟩
 unfold ZiP
 generalize QR (a ++ b) = es at *
 have eqv : ∀ {l : List Span}, (∀ s ∈ l, s ∈ a ++ b) → ∀ {i : Nat} {u v x : Int}, es[i]? = some u → es[i + 1]? = some v → u ≤ x → x < v → inR l x = inR l u := fun hl' i u v x e1 e2 e3 e4 => by
  rw [Bool.eq_iff_iff, ZdB, ZdB]
  exact ZiL hs (fun s hs' => hl s (hl' s hs')) e1 e2 e3 e4
 have fin : ∀ x, Zbr kind (inR a x) (inR b x) = true → ∃ i u v, es[i]? = some u ∧ es[i + 1]? = some v ∧ u ≤ x ∧ x < v := fun x hx => by
  have : cover (a ++ b) x := by
   rw [ZbX, ← ZdB, ← ZdB]
   cases e1 : inR a x <;> cases e2 : inR b x <;> simp_all
  obtain ⟨s, hs', a1, a2⟩ := this
  obtain ⟨i, u, v, q⟩ := ZkZ (hl s hs').1 (hl s hs').2 a1 a2 hs
  exact ⟨i, u, v, q⟩
 rcases Nat.eq_zero_or_pos es.length with hz | hpos
 ·rw [show es.length - 1 = 0 by omega]
  refine ⟨⟨List.Pairwise.nil, by simp [Q8]⟩, fun x => ?_⟩
  simp only [Q8]
  constructor
  ·rintro ⟨s, hs', _⟩; simp at hs'
  ·intro h
   obtain ⟨i, u, v, e1, _⟩ := fin x h
   have := (List.getElem?_eq_some_iff.1 e1).1; omega
 ·have inv := Ziv (kind := kind) (a := a) (b := b) hs (es.length - 1) (by omega)
  refine ⟨inv.can, fun x => ?_⟩
  rw [inv.cov]
  constructor
  ·rintro ⟨i, u, v, hi, e1, e2, e3, e4, e5⟩
   rw [eqv (l := a) (fun s hs => by simp [hs]) e1 e2 e3 e4, eqv (l := b) (fun s hs => by simp [hs]) e1 e2 e3 e4]; exact e5
  ·intro h
   obtain ⟨i, u, v, e1, e2, e3, e4⟩ := fin x h
   have := (List.getElem?_eq_some_iff.1 e2).1
   rw [eqv (l := a) (fun s hs => by simp [hs]) e1 e2 e3 e4, eqv (l := b) (fun s hs => by simp [hs]) e1 e2 e3 e4] at h
   exact ⟨i, u, v, by omega, e1, e2, e3, e4, h⟩
end Go.Civ
