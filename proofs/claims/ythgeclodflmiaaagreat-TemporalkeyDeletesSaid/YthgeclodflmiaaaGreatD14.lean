/- Lemmas. -/
import Derived.Test.YthgeclodflmiaaaGreatD03
import Derived.Test.YthgeclodflmiaaaGreatD05
import Derived.Test.YthgeclodflmiaaaGreatD10
import Derived.Test.YthgeclodflmiaaaGreatD12
import Derived.Test.YthgeclodflmiaaaGreatD13
import Derived.Shelf.Sort.Plain
import Derived.Shelf.Small.Strs
import Derived.Ground.NamesProg
import Derived.Test.YthgeclodflmiaaaGreatProg
namespace Go.Civ
set_option linter.unusedVariables false

structure IsPos (l : List Int) (x : Int) (i : Nat) : Prop where
 le : i ≤ l.length
 up : ∀ (j : Nat) y, i ≤ j → l[j]? = some y → x ≤ y
 low : ∀ y, 0 < i → l[i - 1]? = some y → y < x
theorem IsPos.unique {l : List Int} {x : Int} {i j : Nat} (h : IsPos l x i) (k : IsPos l x j) : i = j := by
 rcases Nat.lt_trichotomy i j with q | q | q
 ·have hj : j - 1 < l.length := by have := k.le; omega
  have h1 := h.up (j - 1) l[j - 1] (by omega) (List.getElem?_eq_getElem hj)
  have h2 := k.low l[j - 1] (by omega) (List.getElem?_eq_getElem hj)
  omega
 ·exact q
 ·have hi : i - 1 < l.length := by have := h.le; omega
  have h1 := k.up (i - 1) l[i - 1] (by omega) (List.getElem?_eq_getElem hi)
  have h2 := h.low l[i - 1] (by omega) (List.getElem?_eq_getElem hi)
  omega
def ZcM : List Int → Int → Nat
 | [], _ => 0
 | y :: r, x => if ZcM r x = 0 then (if y < x then 1 else 0) else ZcM r x + 1
theorem Zjp : ∀ (l : List Int) (x : Int), IsPos l x (ZcM l x)
 | [], x => ⟨Nat.le_refl _, fun j y _ h => by simp at h, fun y h => by simp [ZcM] at h⟩
 | y :: r, x => by
  have ih := Zjp r x
  simp only [ZcM]
  by_cases h0 : ZcM r x = 0
  ·rw [if_pos h0]
   rw [h0] at ih
   by_cases hy : y < x
   ·rw [if_pos hy]
    refine ⟨by simp, fun j z hj hz => ?_, fun z _ hz => ?_⟩
    ·cases j with
     | zero => omega
     | succ j => exact ih.up j z (by omega) (by simpa using hz)
    ·simp at hz; omega
   ·rw [if_neg hy]
    refine ⟨by simp, fun j z hj hz => ?_, fun z h => absurd h (by omega)⟩
    cases j with
    | zero => simp at hz; omega
    | succ j => exact ih.up j z (by omega) (by simpa using hz)
  ·rw [if_neg h0]
   refine ⟨by have := ih.le; simp; omega, fun j z hj hz => ?_, fun z _ hz => ?_⟩
   ·cases j with
    | zero => omega
    | succ j => exact ih.up j z (by omega) (by simpa using hz)
   ·have e : ZcM r x + 1 - 1 = (ZcM r x - 1) + 1 := by omega
    rw [e] at hz
    exact ih.low z (by omega) (by simpa using hz)
def ZdQ (l : List Int) (x : Int) : List Int := if l[ZcM l x]? = some x then l else l.take (ZcM l x) ++ [x] ++ l.drop (ZcM l x)
theorem Zmb (l : List Int) (x : Int) : (ZdQ l x).length ≤ l.length + 1 := by
 unfold ZdQ; split
 ·omega
 ·have := (Zjp l x).le; simp; omega
theorem Zmc {l : List Int} {x y : Int} : y ∈ ZdQ l x ↔ y ∈ l ∨ y = x := by
 unfold ZdQ
 split
 ·rename_i h
  constructor
  ·exact .inl
  ·rintro (h1 | rfl)
   ·exact h1
   ·exact List.mem_of_getElem? h
 ·rw [List.mem_append, List.mem_append, List.mem_singleton]
  constructor
  ·rintro ((h | h) | h)
   ·exact .inl (List.mem_of_mem_take h)
   ·exact .inr h
   ·exact .inl (List.mem_of_mem_drop h)
  ·rintro (h | h)
   ·rw [← List.take_append_drop (ZcM l x) l] at h
    rcases List.mem_append.1 h with k | k
    ·exact .inl (.inl k)
    ·exact .inr k
   ·exact .inl (.inr h)
theorem Zmd {l : List Int} {x : Int} (h : l.Pairwise (· < ·)) : (ZdQ l x).Pairwise (· < ·) := by
 unfold ZdQ
 split
 ·exact h
 ·rename_i hne
  have hp := Zjp l x
  generalize ZcM l x = i at *
  have low : ∀ y ∈ l.take i, y < x := fun y hy => by
   obtain ⟨j, hj, rfl⟩ := List.getElem_of_mem hy
   simp only [List.length_take] at hj
   rw [List.getElem_take]
   have hil : i - 1 < l.length := by have := hp.le; omega
   have h1 := hp.low l[i - 1] (by omega) (List.getElem?_eq_getElem hil)
   by_cases e : j = i - 1
   ·subst e; exact h1
   ·have := List.pairwise_iff_getElem.1 h j (i - 1) (by omega) hil (by omega)
    omega
  have up : ∀ y ∈ l.drop i, x < y := fun y hy => by
   obtain ⟨j, hj, rfl⟩ := List.getElem_of_mem hy
   simp only [List.length_drop] at hj
   rw [List.getElem_drop]
   have h1 := hp.up (i + j) l[i + j] (by omega) (List.getElem?_eq_getElem (by omega))
   have h0 := hp.up i l[i] (by omega) (List.getElem?_eq_getElem (by omega))
   have hn : l[i] ≠ x := fun e => hne (by rw [List.getElem?_eq_getElem (by omega), e])
   by_cases e : j = 0
   ·subst e; simp only [Nat.add_zero]; omega
   ·have := List.pairwise_iff_getElem.1 h i (i + j) (by omega) (by omega) (by omega)
    omega
  rw [List.pairwise_append, List.pairwise_append]
  refine ⟨⟨h.sublist (List.take_sublist _ _), by simp, fun y hy z hz => ?_⟩, h.sublist (List.drop_sublist _ _), fun y hy z hz => ?_⟩
  ·rw [List.mem_singleton.1 hz]; exact low y hy
  ·rcases List.mem_append.1 hy with hy | hy
   ·have := low y hy; have := up z hz; omega
   ·rw [List.mem_singleton.1 hy]; exact up z hz

def Zgg (l : List Int) (x : Int) (i : Nat) : Prop := ∀ (j : Nat) y, i ≤ j → l[j]? = some y → x ≤ y
theorem Zgg.start {l : List Int} {x : Int} : Zgg l x l.length := fun j y h1 h2 => by have := (List.getElem?_eq_some_iff.1 h2).1; omega
theorem Zgg.step {l : List Int} {x y : Int} {i : Nat} (h : Zgg l x i) (h1 : l[i - 1]? = some y) (hy : x ≤ y) : Zgg l x (i - 1) := fun j z hj hz => by
 by_cases e : j = i - 1
 ·subst e; rw [h1] at hz; obtain rfl := Option.some.inj hz; exact hy
 ·exact h j z (by omega) hz
theorem Zgg.zero {l : List Int} {x : Int} {i : Nat} (h : Zgg l x i) (hi : i = 0) : IsPos l x i := ⟨by omega, h, fun y h0 => by omega⟩
theorem Zgg.pos {l : List Int} {x y : Int} {i : Nat} (h : Zgg l x i) (hi : i ≤ l.length) (h1 : l[i - 1]? = some y) (hy : y < x) : IsPos l x i :=
 ⟨hi, h, fun z _ hz => by rw [h1] at hz; obtain rfl := Option.some.inj hz; exact hy⟩
def Zaa (l : List Span) : List Int := l.foldl (fun out s => ZdQ (ZdQ out s.a) s.b) []
theorem ZoV (l : List Span) (s : Span) : Zaa (l ++ [s]) = ZdQ (ZdQ (Zaa l) s.a) s.b := by simp [Zaa, List.foldl_append]
theorem Zei : ∀ (n : Nat) (l : List Span), l.length = n → (Zaa l).Pairwise (· < ·) ∧ (∀ y, y ∈ Zaa l ↔ ∃ s ∈ l, y = s.a ∨ y = s.b) ∧ (Zaa l).length ≤ 2 * l.length
 | 0, l, hn => by
  obtain rfl := List.length_eq_zero_iff.1 hn
  simp [Zaa]
 | n + 1, l, hn => by
  obtain ⟨p, x, rfl⟩ : ∃ p x, l = p ++ [x] := by
   rcases List.eq_nil_or_concat l with rfl | ⟨p, x, h⟩
   ·simp at hn
   ·exact ⟨p, x, by simpa using h⟩
  obtain ⟨h1, h2, h3⟩ := Zei n p (by simpa using hn)
  rw [ZoV]
  refine ⟨Zmd (Zmd h1), fun y => ?_, ?_⟩
  ·rw [Zmc, Zmc, h2]
   constructor
   ·rintro ((⟨s, hs, e⟩ | e) | e)
    ·exact ⟨s, by simp [hs], e⟩
    ·exact ⟨x, by simp, .inl e⟩
    ·exact ⟨x, by simp, .inr e⟩
   ·rintro ⟨s, hs, e⟩
    rcases List.mem_append.1 hs with hs | hs
    ·exact .inl (.inl ⟨s, hs, e⟩)
    ·obtain rfl := List.mem_singleton.1 hs
     rcases e with e | e
     ·exact .inl (.inr e)
     ·exact .inr e
  ·have q1 := Zmb (Zaa p) x.a
   have q2 := Zmb (ZdQ (Zaa p) x.a) x.b
   simp; omega
theorem ZjT (l : List Span) : (Zaa l).Pairwise (· < ·) := (Zei _ l rfl).1
theorem Zgh {l : List Span} {y : Int} : y ∈ Zaa l ↔ ∃ s ∈ l, y = s.a ∨ y = s.b := (Zei _ l rfl).2.1 y
theorem ZjU (l : List Span) : (Zaa l).length ≤ 2 * l.length := (Zei _ l rfl).2.2
theorem ZoW {a b : List Int} (ha : a.Pairwise (· < ·)) (hb : b.Pairwise (· < ·)) (h : ∀ x, x ∈ a ↔ x ∈ b) : a = b :=
 Zdq (c := Y5) Zb2 (ha.imp fun {x y} k => by unfold Y5; rw [if_pos k]; decide) (hb.imp fun {x y} k => by unfold Y5; rw [if_pos k]; decide) h

def Xx (l : List Span) (x : Int) : Bool := l.any fun s => decide (s.a ≤ x) && decide (x < s.b)
theorem Zaf {l : List Span} {x : Int} : Xx l x = true ↔ cover l x := by simp [Xx, cover]
def ZhD (out : List Span) (s : Span) : List Span := match out[out.length - 1]? with
 | some p => if p.b = s.a then out.set (out.length - 1) ⟨p.a, s.b⟩ else out ++ [s]
 | none => out ++ [s]
theorem ZsK {out : List Span} {s : Span} (h : out.length = 0) : ZhD out s = out ++ [s] := by
 obtain rfl := List.length_eq_zero_iff.1 h; rfl
theorem ZsL (out : List Span) (s : Span) : (ZhD out s).length ≤ out.length + 1 := by
 unfold ZhD; split
 ·split <;> simp
 ·simp
theorem Zqk (o : List Span) (p s : Span) : ZhD (o ++ [p]) s = if p.b = s.a then o ++ [⟨p.a, s.b⟩] else o ++ [p] ++ [s] := by
 unfold ZhD
 have e : (o ++ [p]).length - 1 = o.length := by simp
 rw [e, List.getElem?_append_right (Nat.le_refl _)]
 simp only [Nat.sub_self, List.getElem?_cons_zero]
 split
 ·rw [List.set_append_right _ _ (Nat.le_refl _)]; simp
 ·rfl
def Zab (kind : Int) (a b : Bool) : Bool := if kind = 1 then a || b else if kind = 2 then a && b else if kind = 3 then a && !b else !(a == b)
def Qt (kind : Int) (a b : List Span) (es : List Int) : Nat → List Span
 | 0 => []
 | k + 1 => match es[k]?, es[k + 1]? with
  | some x, some y => if Zab kind (Xx a x) (Xx b x) then ZhD (Qt kind a b es k) ⟨x, y⟩ else Qt kind a b es k
  | _, _ => Qt kind a b es k
def Yh (kind : Int) (a b : List Span) : List Span := Qt kind a b (Zaa (a ++ b)) ((Zaa (a ++ b)).length - 1)
theorem Zql {kind : Int} {a b : List Span} {es : List Int} {k : Nat} {x y : Int} (h1 : es[k]? = some x) (h2 : es[k + 1]? = some y) (h : Zab kind (Xx a x) (Xx b x) = true) : Qt kind a b es (k + 1) = ZhD (Qt kind a b es k) ⟨x, y⟩ := by
 simp only [Qt, h1, h2]; rw [if_pos h]
theorem ZsM {kind : Int} {a b : List Span} {es : List Int} {k : Nat} {x y : Int} (h1 : es[k]? = some x) (h2 : es[k + 1]? = some y) (h : Zab kind (Xx a x) (Xx b x) = false) : Qt kind a b es (k + 1) = Qt kind a b es k := by
 simp only [Qt, h1, h2]; rw [if_neg (by rw [h]; simp)]
theorem ZjV {kind : Int} {a b : List Span} {es : List Int} : ∀ k, (Qt kind a b es k).length ≤ k
 | 0 => by simp [Qt]
 | k + 1 => by
  have ih := ZjV (kind := kind) (a := a) (b := b) (es := es) k
  simp only [Qt]
  split
  ·split
   ·have := ZsL (Qt kind a b es k); rename_i x y _ _ _; have := this ⟨x, y⟩; omega
   ·omega
  ·omega
section
variable {es : List Int} (hs : es.Pairwise (· < ·))
include hs
theorem ZuJ {i j : Nat} {x y : Int} (h1 : es[i]? = some x) (h2 : es[j]? = some y) (hij : i < j) : x < y := by
 obtain ⟨a, rfl⟩ := List.getElem?_eq_some_iff.1 h1
 obtain ⟨b, rfl⟩ := List.getElem?_eq_some_iff.1 h2
 exact List.pairwise_iff_getElem.1 hs i j a b hij
theorem Zme {i : Nat} {u v y : Int} (h1 : es[i]? = some u) (h2 : es[i + 1]? = some v) (hy : y ∈ es) (h : y < v) : y ≤ u := by
 obtain ⟨j, hj⟩ := List.getElem?_of_mem hy
 rcases Nat.lt_or_ge i j with q | q
 ·rcases Nat.lt_or_ge (i + 1) j with r | r
  ·have := ZuJ hs h2 hj r; omega
  ·have : j = i + 1 := by omega
   subst this; rw [h2] at hj; obtain rfl := Option.some.inj hj; omega
 ·rcases Nat.lt_or_ge j i with r | r
  ·have := ZuJ hs hj h1 r; omega
  ·have : j = i := by omega
   subst this; rw [h1] at hj; obtain rfl := Option.some.inj hj; omega
theorem ZsN {i : Nat} {u v y : Int} (h1 : es[i]? = some u) (h2 : es[i + 1]? = some v) (hy : y ∈ es) (h : u < y) : v ≤ y := by
 rcases Int.lt_or_le y v with q | q
 ·have := Zme hs h1 h2 hy q; omega
 ·exact q
theorem ZkN {l : List Span} (hl : ∀ s ∈ l, s.a ∈ es ∧ s.b ∈ es) {i : Nat} {u v x : Int} (h1 : es[i]? = some u) (h2 : es[i + 1]? = some v) (hx : u ≤ x) (hx' : x < v) : cover l x ↔ cover l u := by
 constructor
 ·rintro ⟨s, hsl, a1, a2⟩
  have := Zme hs h1 h2 (hl s hsl).1 (by omega)
  exact ⟨s, hsl, this, by omega⟩
 ·rintro ⟨s, hsl, a1, a2⟩
  have := ZsN hs h1 h2 (hl s hsl).2 a2
  exact ⟨s, hsl, by omega, by omega⟩
omit hs in
theorem ZnF : ∀ {es : List Int} {x p q : Int}, p ∈ es → q ∈ es → p ≤ x → x < q → es.Pairwise (· < ·) → ∃ (i : Nat) (u v : Int), es[i]? = some u ∧ es[i + 1]? = some v ∧ u ≤ x ∧ x < v
 | [], _, _, _, h, _, _, _, _ => by simp at h
 | [e], x, p, q, h1, h2, h3, h4, _ => by simp at h1 h2; omega
 | e :: f :: r, x, p, q, h1, h2, h3, h4, hp => by
  rcases Int.lt_or_le x f with k | k
  ·have hp' := List.pairwise_cons.1 hp
   refine ⟨0, e, f, rfl, rfl, ?_, k⟩
   rcases List.mem_cons.1 h1 with rfl | h1
   ·exact h3
   ·have := hp'.1 p h1; omega
  ·have hp' := List.pairwise_cons.1 hp
   have hq : q ∈ f :: r := by
    rcases List.mem_cons.1 h2 with rfl | h2
    ·have := hp'.1 f (by simp); omega
    ·exact h2
   obtain ⟨i, u, v, a1, a2, a3⟩ := ZnF (es := f :: r) (x := x) (p := f) (q := q) (by simp) hq k h4 hp'.2
   exact ⟨i + 1, u, v, by simpa using a1, by simpa using a2, a3⟩
end
structure CombInv (kind : Int) (a b : List Span) (es : List Int) (k : Nat) (out : List Span) : Prop where
 can : Can out
 top : ∀ s ∈ out, ∀ e, es[k]? = some e → s.b ≤ e
 cov : ∀ x, cover out x ↔ ∃ i u v, i < k ∧ es[i]? = some u ∧ es[i + 1]? = some v ∧ u ≤ x ∧ x < v ∧ Zab kind (Xx a u) (Xx b u) = true
theorem ZjW {kind : Int} {a b : List Span} {es : List Int} (hs : es.Pairwise (· < ·)) : ∀ k, k < es.length → CombInv kind a b es k (Qt kind a b es k)
 | 0, _ => ⟨⟨List.Pairwise.nil, by simp [Qt]⟩, by simp [Qt], fun x => by simp [Qt, cover]⟩
 | k + 1, hk => by
  have ih := ZjW (kind := kind) (a := a) (b := b) hs k (by omega)
  have h1 : es[k]? = some es[k] := List.getElem?_eq_getElem (by omega)
  have h2 : es[k + 1]? = some es[k + 1] := List.getElem?_eq_getElem hk
  have hlt : es[k] < es[k + 1] := List.pairwise_iff_getElem.1 hs k (k + 1) (by omega) hk (by omega)
  have step : ∀ x, (∃ i u v, i < k + 1 ∧ es[i]? = some u ∧ es[i + 1]? = some v ∧ u ≤ x ∧ x < v ∧ Zab kind (Xx a u) (Xx b u) = true) ↔
    (∃ i u v, i < k ∧ es[i]? = some u ∧ es[i + 1]? = some v ∧ u ≤ x ∧ x < v ∧ Zab kind (Xx a u) (Xx b u) = true) ∨ (es[k] ≤ x ∧ x < es[k + 1] ∧ Zab kind (Xx a es[k]) (Xx b es[k]) = true) := fun x => by
   constructor
   ·rintro ⟨i, u, v, hi, e1, e2, e3, e4, e5⟩
    by_cases e : i = k
    ·subst e
     rw [h1] at e1; rw [h2] at e2
     obtain rfl := Option.some.inj e1
     obtain rfl := Option.some.inj e2
     exact .inr ⟨e3, e4, e5⟩
    ·exact .inl ⟨i, u, v, by omega, e1, e2, e3, e4, e5⟩
   ·rintro (⟨i, u, v, hi, e1, e2, e3, e4, e5⟩ | ⟨e3, e4, e5⟩)
    ·exact ⟨i, u, v, by omega, e1, e2, e3, e4, e5⟩
    ·exact ⟨k, _, _, by omega, h1, h2, e3, e4, e5⟩
  cases hkp : Zab kind (Xx a es[k]) (Xx b es[k]) with
  | false =>
   rw [ZsM h1 h2 hkp]
   refine ⟨ih.can, fun s hs' e he => ?_, fun x => ?_⟩
   ·rw [h2] at he
    obtain rfl := Option.some.inj he
    have := ih.top s hs' _ h1; omega
   ·rw [step, ih.cov, hkp]; simp
  | true =>
   rw [Zql h1 h2 hkp]
   rcases List.eq_nil_or_concat (Qt kind a b es k) with h0 | ⟨o, q, h0⟩
   ·rw [h0] at ih ⊢
    rw [ZsK rfl]
    refine ⟨⟨by simp, by simpa using hlt⟩, fun s hs' e he => ?_, fun x => ?_⟩
    ·rw [h2] at he
     obtain rfl := Option.some.inj he
     simp at hs'; subst hs'; exact Int.le_refl _
    ·rw [step, ← ih.cov, hkp, List.nil_append, QP]; simp [cover]
   ·have h0 : Qt kind a b es k = o ++ [q] := by simpa using h0
    rw [h0] at ih ⊢
    have hap := List.pairwise_append.1 ih.can.apart
    have hq := ih.can.pos q (by simp)
    have hqt := ih.top q (by simp) _ h1
    rw [Zqk]
    by_cases hj : q.b = es[k]
    ·rw [if_pos hj]
     refine ⟨⟨List.pairwise_append.2 ⟨hap.1, by simp, fun u hu v hv => ?_⟩, fun s hs' => ?_⟩, fun s hs' e he => ?_, fun x => ?_⟩
     ·obtain rfl := List.mem_singleton.1 hv
      exact hap.2.2 u hu q (by simp)
     ·rcases List.mem_append.1 hs' with hs' | hs'
      ·exact ih.can.pos s (by simp [hs'])
      ·obtain rfl := List.mem_singleton.1 hs'
       simp only; omega
     ·rw [h2] at he
      obtain rfl := Option.some.inj he
      rcases List.mem_append.1 hs' with hs' | hs'
      ·have := ih.top s (by simp [hs']) _ h1; omega
      ·obtain rfl := List.mem_singleton.1 hs'; exact Int.le_refl _
     ·rw [step, ← ih.cov, hkp, XR, XR, or_assoc]
      refine or_congr Iff.rfl ?_
      rw [QP, QP]
      simp only [and_true]
      constructor <;> intro h <;> omega
    ·rw [if_neg hj]
     refine ⟨⟨List.pairwise_append.2 ⟨ih.can.apart, by simp, fun u hu v hv => ?_⟩, fun s hs' => ?_⟩, fun s hs' e he => ?_, fun x => ?_⟩
     ·obtain rfl := List.mem_singleton.1 hv
      rcases List.mem_append.1 hu with hu | hu
      ·have := hap.2.2 u hu q (by simp); simp only; omega
      ·obtain rfl := List.mem_singleton.1 hu; simp only; omega
     ·rcases List.mem_append.1 hs' with hs' | hs'
      ·exact ih.can.pos s hs'
      ·obtain rfl := List.mem_singleton.1 hs'; exact hlt
     ·rw [h2] at he
      obtain rfl := Option.some.inj he
      rcases List.mem_append.1 hs' with hs' | hs'
      ·have := ih.top s hs' _ h1; omega
      ·obtain rfl := List.mem_singleton.1 hs'; exact Int.le_refl _
     ·rw [step, ← ih.cov, hkp, XR (r := o ++ [q]), QP]; simp
theorem Zcf {kind : Int} {a b : List Span} (h0 : Zab kind false false = false) (ha : ∀ s ∈ a, s.a < s.b) (hb : ∀ s ∈ b, s.a < s.b) :
  Can (Yh kind a b) ∧ ∀ x, cover (Yh kind a b) x ↔ Zab kind (Xx a x) (Xx b x) = true := by
 have hs := ZjT (a ++ b)
 have hl : ∀ s ∈ a ++ b, s.a ∈ Zaa (a ++ b) ∧ s.b ∈ Zaa (a ++ b) := fun s hs => ⟨Zgh.2 ⟨s, hs, .inl rfl⟩, Zgh.2 ⟨s, hs, .inr rfl⟩⟩
 unfold Yh
 generalize Zaa (a ++ b) = es at *
 have eqv : ∀ {l : List Span}, (∀ s ∈ l, s ∈ a ++ b) → ∀ {i : Nat} {u v x : Int}, es[i]? = some u → es[i + 1]? = some v → u ≤ x → x < v → Xx l x = Xx l u := fun hl' i u v x e1 e2 e3 e4 => by
  rw [Bool.eq_iff_iff, Zaf, Zaf]
  exact ZkN hs (fun s hs' => hl s (hl' s hs')) e1 e2 e3 e4
 have fin : ∀ x, Zab kind (Xx a x) (Xx b x) = true → ∃ i u v, es[i]? = some u ∧ es[i + 1]? = some v ∧ u ≤ x ∧ x < v := fun x hx => by
  have : cover (a ++ b) x := by
   rw [XR, ← Zaf, ← Zaf]
   cases e1 : Xx a x <;> cases e2 : Xx b x <;> simp_all
  obtain ⟨s, hs', a1, a2⟩ := this
  obtain ⟨i, u, v, q⟩ := ZnF (hl s hs').1 (hl s hs').2 a1 a2 hs
  exact ⟨i, u, v, q⟩
 rcases Nat.eq_zero_or_pos es.length with hz | hpos
 ·rw [show es.length - 1 = 0 by omega]
  refine ⟨⟨List.Pairwise.nil, by simp [Qt]⟩, fun x => ?_⟩
  simp only [Qt]
  constructor
  ·rintro ⟨s, hs', _⟩; simp at hs'
  ·intro h
   obtain ⟨i, u, v, e1, _⟩ := fin x h
   have := (List.getElem?_eq_some_iff.1 e1).1; omega
 ·have inv := ZjW (kind := kind) (a := a) (b := b) hs (es.length - 1) (by omega)
  refine ⟨inv.can, fun x => ?_⟩
  rw [inv.cov]
  constructor
  ·rintro ⟨i, u, v, hi, e1, e2, e3, e4, e5⟩
   rw [eqv (l := a) (fun s hs => by simp [hs]) e1 e2 e3 e4, eqv (l := b) (fun s hs => by simp [hs]) e1 e2 e3 e4]; exact e5
  ·intro h
   obtain ⟨i, u, v, e1, e2, e3, e4⟩ := fin x h
   have := (List.getElem?_eq_some_iff.1 e2).1
   rw [eqv (l := a) (fun s hs => by simp [hs]) e1 e2 e3 e4, eqv (l := b) (fun s hs => by simp [hs]) e1 e2 e3 e4] at h
   exact ⟨i, u, v, by omega, e1, e2, e3, e4, h⟩
theorem Znu {l : List Span} (hp : ∀ s ∈ l, s.a < s.b) : Yh 1 l [] = Zai l := by
 obtain ⟨h1, h2⟩ := Zcf (kind := 1) (a := l) (b := []) rfl hp (by simp)
 refine Can.unique h1 (Q7 hp).can fun x => ?_
 rw [h2, (Q7 hp).cov]
 simp [Zab, Xx, ← Zaf]
end Go.Civ
namespace Go.Civ
set_option linter.unusedVariables false

theorem Zgi (x y : UInt8) (a b : List UInt8) : cmpS (x :: a) (y :: b) = if x = y then cmpS a b else Y5 (x.toNat : Int) (y.toNat : Int) := by
 unfold cmpS
 by_cases e : x = y
 ·subst e
  rw [if_pos rfl]
  simp [Op.bytesLess]
 ·rw [if_neg e]
  have hn : x.toNat ≠ y.toNat := fun q => e (UInt8.toNat_inj.1 q)
  simp only [Op.bytesLess, List.cons.injEq, e, false_and, if_false]
  have hbe : (x == y) = false := by simpa using e
  rw [hbe]
  simp only [Bool.false_and, Bool.or_false, decide_eq_true_eq]
  unfold Y5
  by_cases k : x < y
  ·rw [if_pos k, if_pos (by rw [UInt8.lt_iff_toNat_lt] at k; omega)]
  ·rw [if_neg k, if_neg (by rw [UInt8.lt_iff_toNat_lt] at k; omega), if_pos (by rw [UInt8.lt_iff_toNat_lt] at k; omega)]
theorem ZgM : ∀ {a b : List UInt8} {k : Nat} {x y : UInt8}, (∀ j, j < k → ∀ c d, a[j]? = some c → b[j]? = some d → c = d) → a[k]? = some x → b[k]? = some y → (x.toNat : Int) ≠ (y.toNat : Int) → cmpS a b = Y5 (x.toNat : Int) (y.toNat : Int)
 | c :: a, d :: b, 0, x, y, _, h1, h2, h => by
  simp at h1 h2; subst h1 h2
  rw [Zgi, if_neg fun e => h (by rw [e])]
 | c :: a, d :: b, k + 1, x, y, h0, h1, h2, h => by
  have e := h0 0 (by omega) c d rfl rfl
  rw [Zgi, if_pos e]
  exact ZgM (k := k) (fun j hj c d hc hd => h0 (j + 1) (by omega) c d (by simpa using hc) (by simpa using hd)) (by simpa using h1) (by simpa using h2) h
 | [], _, _, _, _, _, h1, _, _ => by simp at h1
 | _ :: _, [], _, _, _, _, _, h2, _ => by simp at h2
theorem Zfq : ∀ {a b : List UInt8} {k : Nat}, (∀ j, j < k → ∀ c d, a[j]? = some c → b[j]? = some d → c = d) → (a.length ≤ k ∨ b.length ≤ k) → cmpS a b = Y5 (a.length : Int) (b.length : Int)
 | [], [], _, _, _ => by simp [cmpS, Op.bytesLess, Y5]
 | [], _ :: _, _, _, _ => by unfold Y5; rw [if_pos (by simp only [List.length_nil, List.length_cons]; omega)]; simp [cmpS, Op.bytesLess]
 | _ :: _, [], _, _, _ => by unfold Y5; rw [if_neg (by simp only [List.length_nil, List.length_cons]; omega), if_pos (by simp only [List.length_nil, List.length_cons]; omega)]; simp [cmpS, Op.bytesLess]
 | c :: a, d :: b, k, h0, h => by
  have hk : 0 < k := by simp at h; omega
  have e := h0 0 hk c d rfl rfl
  rw [Zgi, if_pos e, Zfq (k := k - 1) (fun j hj c d hc hd => h0 (j + 1) (by omega) c d (by simpa using hc) (by simpa using hd)) (by simp at h; omega)]
  unfold Y5; simp only [List.length_cons]
  split <;> split <;> (try split) <;> (try split) <;> omega
theorem Zqm {a b : Int} (h : a ≠ b) : Y5 a b ≠ 0 := fun e => h ((Zb2.eq a b).1 e)
theorem Zxn {x y : Val} (h : x.k ≠ y.k) : cmpV x y = Y5 x.k y.k := by unfold cmpV; rw [if_pos (Zqm h)]
theorem Zxo {x y : Val} (h : x.k = y.k) (h2 : x.n ≠ y.n) : cmpV x y = Y5 x.n y.n := by
 unfold cmpV; rw [if_neg (by rw [h, Zb2.refl]; simp), if_pos (Zqm h2)]
theorem Zmf {x y : Val} (h : x.k = y.k) (h2 : x.n = y.n) : cmpV x y = cmpS x.s y.s := by
 unfold cmpV; rw [if_neg (by rw [h, Zb2.refl]; simp), if_neg (by rw [h2, Zb2.refl]; simp)]
theorem ZjX {α β : Type} {f : α → β → Int} {a : List α} {b : List β} {k : Nat} (h : ∀ j, j < k → ∀ x y, a[j]? = some x → b[j]? = some y → f x y = 0) (hk : a.length ≤ k ∨ b.length ≤ k) : ZL f a b = Y5 (a.length : Int) (b.length : Int) :=
 ZdM fun j x y hx hy => h j (by have := (List.getElem?_eq_some_iff.1 hx).1; have := (List.getElem?_eq_some_iff.1 hy).1; omega) x y hx hy

abbrev VV := List (List Val)
def ZbH : VV → List Val → Nat
 | [], _ => 0
 | u :: r, v => if ZL cmpV u v < 0 then ZbH r v + 1 else 0
theorem Zjq : ∀ {out : VV} {v : List Val} {k : Nat}, k ≤ out.length → (∀ j, j < k → ∀ u, out[j]? = some u → ZL cmpV u v < 0) → (∀ u, out[k]? = some u → ¬ ZL cmpV u v < 0) → ZbH out v = k
 | [], v, k, hk, _, _ => by simp at hk; simp [ZbH, hk]
 | u :: r, v, 0, _, _, h => by simp only [ZbH]; rw [if_neg (h u rfl)]
 | u :: r, v, k + 1, hk, h0, h => by
  simp only [ZbH]; rw [if_pos (h0 0 (by omega) u rfl), Zjq (k := k) (by simpa using hk) (fun j hj u hu => h0 (j + 1) (by omega) u (by simpa using hu)) (fun u hu => h u (by simpa using hu))]
theorem Zjr : ∀ (out : VV) (v : List Val), ZbH out v ≤ out.length ∧ (∀ j, j < ZbH out v → ∀ u, out[j]? = some u → ZL cmpV u v < 0) ∧ (∀ u, out[ZbH out v]? = some u → ¬ ZL cmpV u v < 0)
 | [], v => ⟨by simp [ZbH], fun j hj => by simp [ZbH] at hj, fun u hu => by simp at hu⟩
 | u :: r, v => by
  obtain ⟨h1, h2, h3⟩ := Zjr r v
  simp only [ZbH]
  split
  ·rename_i hu
   refine ⟨by simpa using h1, fun j hj w hw => ?_, fun w hw => h3 w (by simpa using hw)⟩
   cases j with
   | zero => simp at hw; subst hw; exact hu
   | succ j => exact h2 j (by omega) w (by simpa using hw)
  ·rename_i hu
   exact ⟨by omega, fun j hj => absurd hj (by omega), fun w hw => by simp at hw; subst hw; exact hu⟩
def Zbo (out : VV) (v : List Val) : VV := if out[ZbH out v]? = some v then out else out.take (ZbH out v) ++ [v] ++ out.drop (ZbH out v)
theorem ZsO (out : VV) (v : List Val) : (Zbo out v).length ≤ out.length + 1 := by
 unfold Zbo; split
 ·omega
 ·have := (Zjr out v).1; simp; omega
theorem ZsP {out : VV} {v u : List Val} : u ∈ Zbo out v ↔ u ∈ out ∨ u = v := by
 unfold Zbo
 split
 ·rename_i h
  constructor
  ·exact .inl
  ·rintro (h1 | rfl)
   ·exact h1
   ·exact List.mem_of_getElem? h
 ·rw [List.mem_append, List.mem_append, List.mem_singleton]
  constructor
  ·rintro ((h | h) | h)
   ·exact .inl (List.mem_of_mem_take h)
   ·exact .inr h
   ·exact .inl (List.mem_of_mem_drop h)
  ·rintro (h | h)
   ·rw [← List.take_append_drop (ZbH out v) out] at h
    rcases List.mem_append.1 h with k | k
    ·exact .inl (.inl k)
    ·exact .inr k
   ·exact .inl (.inr h)
def ZaK (l : VV) : Prop := l.Pairwise fun x y => ZL cmpV x y < 0
theorem ZsQ {out : VV} {v : List Val} (h : ZaK out) : ZaK (Zbo out v) := by
 unfold Zbo
 split
 ·exact h
 ·rename_i hne
  obtain ⟨hp1, hp2, hp3⟩ := Zjr out v
  generalize ZbH out v = i at *
  have low : ∀ u ∈ out.take i, ZL cmpV u v < 0 := fun u hu => by
   obtain ⟨j, hj, rfl⟩ := List.getElem_of_mem hu
   simp only [List.length_take] at hj
   rw [List.getElem_take]
   exact hp2 j (by omega) _ (List.getElem?_eq_getElem (by omega))
  have up : ∀ u ∈ out.drop i, ZL cmpV v u < 0 := fun u hu => by
   obtain ⟨j, hj, rfl⟩ := List.getElem_of_mem hu
   simp only [List.length_drop] at hj
   rw [List.getElem_drop]
   have h0 := hp3 out[i] (List.getElem?_eq_getElem (by omega))
   have hn : out[i] ≠ v := fun e => hne (by rw [List.getElem?_eq_getElem (by omega), e])
   have h1 : ZL cmpV v out[i] < 0 := by
    rcases Int.lt_or_le (ZL cmpV v out[i]) 0 with k | k
    ·exact k
    ·exfalso
     by_cases e : ZL cmpV v out[i] = 0
     ·exact hn ((ord.eq _ _).1 e).symm
     ·exact h0 ((ord.swap _ _).2 (by omega))
   by_cases e : j = 0
   ·subst e; simpa using h1
   ·exact ord.trans _ _ _ h1 (List.pairwise_iff_getElem.1 h i (i + j) (by omega) (by omega) (by omega))
  unfold ZaK
  rw [List.pairwise_append, List.pairwise_append]
  refine ⟨⟨List.Pairwise.sublist (List.take_sublist _ _) h, by simp, fun y hy z hz => ?_⟩, List.Pairwise.sublist (List.drop_sublist _ _) h, fun y hy z hz => ?_⟩
  ·rw [List.mem_singleton.1 hz]; exact low y hy
  ·rcases List.mem_append.1 hy with hy | hy
   ·exact ord.trans _ _ _ (low y hy) (up z hz)
   ·rw [List.mem_singleton.1 hy]; exact up z hz
theorem ZoX {out : VV} {v : List Val} {k : Nat} (hk : k ≤ out.length) (h0 : ∀ j, j < k → ∀ u, out[j]? = some u → ZL cmpV u v < 0) {u : List Val} (h1 : out[k]? = some u) (h2 : ¬ ZL cmpV u v < 0) (h3 : u = v) : Zbo out v = out := by
 subst h3
 unfold Zbo
 rw [Zjq hk h0 (fun w hw => by rw [h1] at hw; obtain rfl := Option.some.inj hw; exact h2), if_pos h1]
theorem ZsR {out : VV} {v : List Val} {k : Nat} (hk : k ≤ out.length) (h0 : ∀ j, j < k → ∀ u, out[j]? = some u → ZL cmpV u v < 0) (h2 : ∀ u, out[k]? = some u → ¬ ZL cmpV u v < 0) (h3 : out[k]? ≠ some v) : Zbo out v = out.take k ++ [v] ++ out.drop k := by
 unfold Zbo
 rw [Zjq hk h0 h2, if_neg h3]
structure Shift (out M : VV) (j : Nat) : Prop where
 len : M.length = out.length + 1
 low : ∀ i, i < j → M[i]? = out[i]?
 high : ∀ i, j < i → i ≤ out.length → M[i]? = out[i - 1]?
theorem Shift.start {out : VV} {u : List Val} : Shift out (out ++ [u]) out.length :=
 ⟨by simp, fun i hi => List.getElem?_append_left hi, fun i h1 h2 => by omega⟩
theorem Shift.step {out M : VV} {j : Nat} {x : List Val} (h : Shift out M j) (hj : 0 < j) (hx : M[j - 1]? = some x) : Shift out (M.set j x) (j - 1) := by
 have hjl : j - 1 < M.length := (List.getElem?_eq_some_iff.1 hx).1
 refine ⟨by rw [List.length_set]; exact h.len, fun i hi => ?_, fun i h1 h2 => ?_⟩
 ·rw [List.getElem?_set, if_neg (by omega)]; exact h.low i (by omega)
 ·rw [List.getElem?_set]
  by_cases e : j = i
  ·subst e
   rw [if_pos rfl]
   split
   ·rw [← hx]; exact h.low _ (by omega)
   ·have := h.len; omega
  ·rw [if_neg e]; exact h.high i (by omega) h2
theorem Shift.done {out M : VV} {k : Nat} {v : List Val} (h : Shift out M k) (hk : k ≤ out.length) : M.set k v = out.take k ++ [v] ++ out.drop k := by
 apply List.ext_getElem?
 intro i
 have hl := h.len
 rw [List.getElem?_set, List.append_assoc, List.getElem?_append, List.length_take, Nat.min_eq_left hk]
 by_cases e : k = i
 ·subst e
  rw [if_pos rfl, if_pos (by omega), if_neg (by omega)]; simp
 ·rw [if_neg e]
  by_cases q : i < k
  ·rw [if_pos q, List.getElem?_take, if_pos q]; exact h.low i q
  ·rw [if_neg q, List.getElem?_append, if_neg (by simp; omega), List.getElem?_drop]
   rcases Nat.lt_or_ge out.length i with r | r
   ·rw [List.getElem?_eq_none (by omega), List.getElem?_eq_none (by simp; omega)]
   ·rw [h.high i (by omega) r]; congr 1; simp; omega

theorem Zcg {s : Span} (h : ZN s = true) : XD s = true := by
 have hp := YG h
 unfold ZN at h
 simp only [Bool.and_eq_true, decide_eq_true_eq] at h
 rw [Zvs s h.1.1 h.2]; exact decide_eq_true hp
theorem Zzq {c d : UInt8} (h : (c.toNat : Int) = (d.toNat : Int)) : c = d := UInt8.toNat_inj.1 (by omega)
end Go.Civ
set_option linter.unusedVariables false
namespace Go.Civ
open Go.Proofs Go.Shelf Go.RowKit Go.Lib Go.Sort
theorem Zjz {G : GH} : ∀ (l : List Int),(∀ x ∈ l,Z0 x) → XA Enc.int G l (l.map (Value.int .i64))
 | [],_=>rfl
 | x :: l,h=>⟨[.int .i64 x],l.map (Value.int .i64),rfl,⟨rfl,h x (by simp)⟩,Zjz l fun y hy=>h y (by simp [hy])⟩
theorem Zds {G : GH} : ∀ (l : List Int) (xs : List Value),XA Enc.int G l xs → xs = l.map (Value.int .i64) ∧ ∀ x ∈ l,Z0 x
 | [],xs,h=>⟨h,by simp⟩
 | x :: l,xs,⟨c,r,h1,h2,h3⟩=>by
  obtain ⟨rfl,hb⟩:=h2
  obtain ⟨rfl,h4⟩:=Zds l r h3
  refine ⟨h1,fun y hy=>?_⟩
  rcases List.mem_cons.1 hy with rfl | hy
  ·exact hb
  ·exact h4 y hy
def Zc6 (l : List Int) : List Int:=l.mergeSort fun x y=>decide (x ≤ y)
set_option maxHeartbeats 1000000 in
theorem ZnN {G : GH} {w : World} (hG : G.In w) (l : List Int) (vd : Value) (od : OB) (hvd : ZS Enc.int 8 (nat_lit 3) G vd l od) (hod : XP w G od) :
  Calls Tryz.prog (nat_lit 145) #[vd] w fun e w'=>∃ r G',e = .returned r ∧ Res (QU od) w G w' G' ∧ r = .tuple #[] ∧ ∃ (l' : List Int) (o' : OB),ZS Enc.int 8 (nat_lit 3) G' vd l' o' ∧ XP w' G' o' ∧ l' = Zc6 l:=by
 rcases hvd with ⟨rfl,rfl,rfl⟩ | ⟨b,cs,cap,xs,rfl,rfl,h3,h4,h5,h6,h7,h8,h9⟩
 ·exact (Any.slices_Sort_int_none Tryz.laysSort none 0 w).mono fun e w' ⟨he,hw⟩=>by
   subst hw
   exact ⟨_,G,he,Res.refl hG,rfl,[],none, .inl ⟨rfl,rfl,rfl⟩,fun p hp=>(by cases hp),by simp [Zc6]⟩
 ·obtain ⟨hb1,hb2⟩:=hod _ rfl
  obtain ⟨rfl,hI⟩:=Zds l xs h6
  have hE : Enc.int.n = 1:=rfl
  rw [hE,Nat.mul_one] at h5 h7
  have hcell : ∀ t,t < l.length → cs[t]? = some (.int .i64 l[t]!):=fun t ht=>by
   have:=congrArg (·[t]?) h7
   simp only [List.getElem?_take,if_pos ht,List.getElem?_map] at this
   rw [this,List.getElem?_eq_getElem ht,getElem!_pos l t ht]; rfl
  have hH : Holds (Value.int .i64) w b 0 l.toArray:=fun t ht=>by
   have ht' : t < l.length:=by simpa using ht
   refine ⟨?_,?_⟩
   ·rw [Nat.zero_add]
    simp only [World.cell?,hb1,Zbb]
    have:=hcell t ht'
    rw [getElem!_pos l t ht'] at this
    rw [getElem!_pos l.toArray t ht]
    simpa using this
   ·simp [World.frozen?,hb1,Zbb]
  have hcon:=Any.slices_Sort_int Tryz.laysSort b 0 cap l w hH (Array.getElem?_eq_some_iff.1 hb1).1 (by unfold reach at h9; omega)
  refine hcon.mono fun e w' ⟨he,n,os,hw⟩=>?_
  have hperm : (Zc6 l).Perm l:=List.mergeSort_perm _ _
  have hlen : (Zc6 l).length = l.length:=hperm.length_eq
  have hbl : b < w.heap.size:=(Array.getElem?_eq_some_iff.1 hb1).1
  obtain ⟨cs',hcs'⟩ : ∃ cs' : List Value,cs' = (putCells (Value.int .i64) 0 (Zc6 l).toArray cs.toArray).toList:=⟨_,rfl⟩
  have hget : ∀ k,w'.heap[k]? = if k < w.heap.size then (if b = k then some (.cells cs'.toArray (nat_lit 3) (0,0)) else w.heap[k]?) else os[k - w.heap.size]? :=fun k=>by
   subst hw
   have hah : (Go.Sort.ahead w n).heap = w.heap:=rfl
   simp only [putRow,mapBlock,grow,hah]
   rw [Array.getElem?_append]
   simp only [Array.size_modify]
   by_cases hk : k < w.heap.size
   ·rw [if_pos hk,if_pos hk,Array.getElem?_modify]
    by_cases hkb : b = k
    ·subst hkb
     rw [if_pos rfl,if_pos rfl,hb1]
     simp [Zbb,onCells,hcs',Zc6]
    ·rw [if_neg hkb,if_neg hkb]
   ·rw [if_neg hk,if_neg hk]
  have hres : Res [b] w G w' G:=by
   refine ⟨?_,G.le_refl,fun _ _=>rfl,fun k o hk=>?_⟩
   ·refine ⟨by subst hw; rfl,by subst hw; rfl,by subst hw; rfl,by subst hw; exact Nat.le_add_right _ _,?_,fun k hk hkb=>?_⟩
    ·subst hw
     have hah : (Go.Sort.ahead w n).heap = w.heap:=rfl
     simp [putRow,mapBlock,grow]
     try simp [hah]
    ·rw [hget,if_pos hk,if_neg (by simpa [eq_comm] using hkb)]
   ·have hk1:=hG.lt hk
    have hkb : b ≠ k:=fun e=>by subst e; simp only at hb2; rw [hb2] at hk; cases hk
    rw [hget,if_pos hk1,if_neg hkb]; exact hG k o hk
  have hI' : ∀ x ∈ Zc6 l,Z0 x:=fun x hx=>hI x (hperm.mem_iff.1 hx)
  refine ⟨_,G,he,hres,rfl,Zc6 l,some (b,nat_lit 3,cs'), .inr ⟨b,cs',cap,(Zc6 l).map (Value.int .i64),rfl,by rw [hlen],by rw [hlen]; exact h3,h4,?_,Zjz _ hI',?_,by rw [hlen]; exact h8,by rw [hlen]; exact h9⟩,fun p hp=>?_,rfl⟩
  ·subst hcs'; rw [hE]; simpa [putCells] using h5
  ·rw [hE,Nat.mul_one]
   apply List.ext_getElem?
   intro t
   rw [List.getElem?_take]
   by_cases ht : t < (Zc6 l).length
   ·have htc : t < cs.length:=by omega
    rw [if_pos ht,hcs']
    simp only [putCells,Array.getElem?_toList,Array.getElem?_mapIdx]
    simp only [List.getElem?_toArray]
    rw [List.getElem?_eq_getElem htc,List.getElem?_map,List.getElem?_eq_getElem ht]
    simp [ht]
   ·rw [if_neg ht,List.getElem?_eq_none]
    simp; omega
  ·obtain rfl:=Option.some.inj hp
   exact ⟨by rw [hget,if_pos hbl,if_pos rfl]; rfl,hb2⟩
end Go.Civ
namespace Go.Proofs
open Go.Shelf
def Tryz.ixByte_ren : Go.Shelf.Ren:=⟨fun | 137=>172 | 217=>211 | 266=>245 | n=>n,fun | 9=>9 | 5=>5 | 3=>3 | n=>n,fun | n=>n⟩
theorem Tryz.ixByte : Go.Proofs.Lays.n137 Tryz.prog Tryz.ixByte_ren:={
 mixed:=by kernel_rfl
 f137:=Tryz.func172.trans (congrArg some (by kernel_rfl))
 f217:=Tryz.func211.trans (congrArg some (by kernel_rfl))
 f266:=Tryz.func245.trans (congrArg some (by kernel_rfl))
 t3:=Tryz.underlying3
 a3:=Tryz.isAgg3
 z3:=Tryz.sizeOf3
 v3:=Tryz.zeroValue3
 t5:=Tryz.underlying5
 a5:=Tryz.isAgg5
 z5:=Tryz.sizeOf5
 v5:=Tryz.zeroValue5
 t9:=Tryz.underlying9
 a9:=Tryz.isAgg9
 z9:=Tryz.sizeOf9
 v9:=Tryz.zeroValue9 }
end Go.Proofs
set_option linter.unusedVariables false
namespace Go.Civ
open Go.Proofs Go.Shelf Go.RowKit
theorem Zn2 {G : GH} {w : World} (hG : G.In w) (s : List UInt8) (c : Int) : Calls Tryz.prog (nat_lit 172) #[Za s, .int .u8 c] w fun e w'=>∃ r G',e = .returned r ∧ Res [] w G w' G' ∧ r = .int .i64 (Lib.indexByte s c.toNat.toUInt8):=by
 refine (Any.strings_IndexByte Tryz.ixByte ⟨s.toArray⟩ c w).mono ?_
 rintro e w' ⟨rfl,rfl⟩
 exact ⟨_,G,rfl,Res.refl hG,rfl⟩
end Go.Civ
namespace Go.Civ
open Go.RowKit
set_option linter.unusedVariables false
section
variable {P : Program} {Q : Exit → Env → World → Prop} {ρ : Env} {w w0 : World} {ops : Array Oper} {rest : List Oper} {K : Env → World → Prop} {X : List Nat} {G0 G : GH} {L : Own}
variable {d : Nat} {ty : TypeId} {pos : String} {af : Array Edge} {g : Option (Nat × Bool)}
theorem Zwy {o : Oper} {w' : World} {v : Value} (hw : Region.wanted o (Zv ops ρ) = true) (hr : (execOp (ev ρ) o).run P w = .ok (.value v) w') (hd : o.dst = none)
  (k : K ρ w') : OW P ops o ρ w K:=⟨by simp only [oW,hw,hr,Zba,hd,Xj]; exact k⟩
theorem XA.takeF {α : Type} {E : Enc α} {G : GH} : ∀ {l : List α} {xs : List Value} (n : Nat),XA E G l xs → XA E G (l.take n) (xs.take (n * E.n))
 | [],xs,n,h=>by
  obtain rfl : xs = []:=h
  simp; rfl
 | x :: l,xs,0,h=>by simp; rfl
 | x :: l,xs,n + 1,⟨c,r,h1,h2,h3⟩=>by
  subst h1
  have hc:=E.len h2
  refine ⟨c,r.take (n * E.n),?_,h2,h3.takeF n⟩
  rw [List.take_append,hc]
  have e1 : (n + 1) * E.n - E.n = n * E.n:=by rw [Nat.add_mul]; omega
  have e2 : c.take ((n + 1) * E.n) = c:=List.take_of_length_le (by rw [hc,Nat.add_mul]; omega)
  rw [e1,e2]
theorem Znl {α : Type} {E : Enc α} {by_ : Nat} {t e e' : TypeId} {x hi : Operand} {v : Value} {l : List α} {o : OB} {ti : TI} (hs : ZS E by_ e' G v l o) (n : Nat) (hn : n ≤ l.length) (hu : P.underlying t = some (.slice e)) (ht : Yi P e = some ti) (hE : ti.size = E.n)
  (hw : Region.wanted ⟨some d, .slice t x none (some hi) none,ty,pos,af,g⟩ (Zv ops ρ) = true) (hx : ev ρ x = v) (hh : ev ρ hi = .int .i64 (n : Int))
  (k : ∀ v',ZS E by_ e' G v' (l.take n) o → K (ZB ρ d v') w) : OW P ops ⟨some d, .slice t x none (some hi) none,ty,pos,af,g⟩ ρ w K:=by
 have he:=ZgO hu
 have hu' : P.underlying t = some (.slice (P.elem t)):=by rw [he]; exact hu
 have hln : (l.take n).length = n:=by rw [List.length_take]; omega
 rcases hs with ⟨rfl,rfl,rfl⟩ | ⟨b,cs,cap,xs,rfl,rfl,h3,h4,h5,h6,h7,h8,h9⟩
 ·obtain rfl : n = 0:=by simpa using hn
  have run : (Instr.sliceAt t (.slice none 0 0) none (some (.int .i64 ((0 : Nat) : Int))) none).run P w = .ok (.slice none 0 0) w:=by
   rw [run_sliceAt_slice w t _ _ _ _ hu',run_slice_h w t none 0 0 hu' .i64 ((0 : Nat) : Int) (by omega) (by omega),he,X8 ht]; rfl
  refine WL.val hw ?_ rfl (k _ (.inl ⟨rfl,rfl,rfl⟩))
  simp only [execOp,hx,hh,Result.andThen,Sem.run_bind,Option.map_some,Option.map_none]
  rw [run]; rfl
 ·have run : (Instr.sliceAt t (.slice (some ⟨b,0,none⟩) l.length cap) none (some (.int .i64 (n : Int))) none).run P w = .ok (.slice (some ⟨b,0,none⟩) n cap) w:=by
   rw [run_sliceAt_slice w t _ _ _ _ hu',run_slice_h w t (some ⟨b,0,none⟩) l.length cap hu' .i64 (n : Int) (by omega) (by omega),he,X8 ht]
   simp only [Result.andThen,sliced]
   have : (if cap = 0 then (some ⟨b,0,none⟩ : Option Addr) else Option.map (fun p=>Addr.add p (0 * ti.size)) (some ⟨b,0,none⟩)) = some ⟨b,0,none⟩:=by
    split <;> simp [Addr.add]
   rw [this]; simp
  refine WL.val (v:= .slice (some ⟨b,0,none⟩) n cap) hw (by simp [execOp,hx,hh,run,Result.andThen]) rfl (k _ (.inr ⟨b,cs,cap,_,rfl,by rw [hln],by omega,h4,h5,h6.takeF n,?_,?_,by omega⟩))
  ·rw [← h7,hln,List.take_take]
   congr 1
   exact (Nat.min_eq_left (Nat.mul_le_mul_right _ hn)).symm
  ·rw [hln]; exact Nat.le_trans (Nat.mul_le_mul_right _ hn) h8
end
end Go.Civ
