/- Lemmas. -/
import Derived.Test.YtecneejegecmhaaGreatDoorK09
import Derived.JoinedOf
import Derived.Lib.Bytealg
set_option linter.unusedVariables false
set_option linter.unusedSimpArgs false
set_option linter.unnecessarySimpa false
namespace Go.Civ
open Go.RowKit Go.ChangeShapes Go.Deep
set_option linter.unusedVariables false
section
variable {H : Type} {enc : TypeId × Value → H} {P : Program} {w : World}
end
end Go.Civ
namespace Go.Civ
section
variable (P : Program) (f : FuncId) (fn : Func) (s : ChangeSpec) (c : OpenClaim)
def ZhF : Bool:=c.inPlace == P.inPlace f
def ZhG : Bool:=c.unfollowed == P.unfollowed f
def ZhH : Bool:=c.recurses == P.recurses f
def ZhI : Bool:=c.named == P.varsNamed f
theorem Zq6 {P : Program} {f : FuncId} {fn : Func} {s : ChangeSpec} {c : OpenClaim} (ha : ZhF P f c = true) (hb : ZhG P f c = true) (hc : ZhH P f c = true) (hd : ZhI P f c = true)
  (h1 : (c.wf (OpenSpec.ofChange s) && laidOutB P && mapsRowed P && fn.params.all (P.readableRec ·) && namedTie P c.named s.vars && (c.stops == []) && (P.stops == []) && (c.knobs == []) && (P.stopKnobs == [])) = true)
  (h2 : ((c.maps == (fn.params.toList ++ s.plain.varTypes P).any (P.mapsRec ·)) && (c.ifaces == (fn.params.toList ++ s.plain.varTypes P).any (P.ifacesRec ·)) && (c.mapsOut == P.mapsAmong fn.resultTypes.toList) &&
   (c.loops == (fn.params.toList ++ s.plain.varTypes P).any (P.loopsFrom ·)) && (c.wideKeys == (fn.params.toList ++ s.plain.varTypes P ++ fn.resultTypes.toList).any (P.wideKeysFrom ·))) = true)
  (h3 : (s.vars.all (P.varReadable ·) && fn.resultTypes.all (fun t=>P.readableRec t && decide (t < P.types.size)) && (c.ifacesOut == fn.resultTypes.toList.any (P.ifacesRec ·)) && (c.loopsOut == fn.resultTypes.toList.any (P.loopsFrom ·)) && (c.plainKeys == P.plainKeys) && c.shortTexts.isNone && P.stopsHeard && P.mayEnter && (c.lifted == P.liftsFinal) && (P.make == some c.make)) = true)
  (h4 : ((c.kinds == (if c.domain.isEmpty then [] else fn.params.toList.map fun t=>match P.underlying t with | some (.int k)=>some k | _=>none)) && (c.pinned == c.pinnedBy) &&
   (c.veiled == (fn.params.toList ++ s.plain.varTypes P ++ fn.resultTypes.toList).any (P.veiledRec ·)) && c.veiledFits P fn.params.toList (fn.params.toList ++ s.plain.varTypes P ++ fn.resultTypes.toList)) = true) : joinedFacts P f fn s c = true:=by
 unfold ZhF at ha
 unfold ZhG at hb
 unfold ZhH at hc
 unfold ZhI at hd
 unfold joinedFacts
 simp only [Bool.and_eq_true] at h1 h2 h3 h4 ⊢
 obtain ⟨⟨⟨⟨⟨⟨⟨⟨a1,a2⟩,a3⟩,a4⟩,a5⟩,a6⟩,a7⟩,a8⟩,a9⟩:=h1
 obtain ⟨⟨⟨⟨b1,b2⟩,b3⟩,b4⟩,b5⟩:=h2
 obtain ⟨⟨⟨⟨⟨⟨⟨⟨⟨c1,c2⟩,c3⟩,c4⟩,c5⟩,c6⟩,c7⟩,c8⟩,c9⟩,c10⟩:=h3
 obtain ⟨⟨⟨d1,d2⟩,d3⟩,d4⟩:=h4
 exact ⟨⟨⟨⟨⟨⟨⟨⟨⟨⟨⟨⟨⟨⟨⟨⟨⟨⟨⟨⟨⟨⟨⟨⟨⟨⟨⟨⟨⟨⟨⟨a1,a2⟩,a3⟩,a4⟩,a5⟩,a6⟩,a7⟩,a8⟩,a9⟩,ha⟩,hb⟩,hc⟩,hd⟩,b1⟩,b2⟩,b3⟩,b4⟩,b5⟩,c1⟩,c2⟩,c3⟩,c4⟩,c5⟩,c6⟩,c7⟩,c8⟩,c9⟩,c10⟩,d1⟩,d2⟩,d3⟩,d4⟩
end
end Go.Civ
namespace Go.Civ
set_option linter.unusedVariables false

structure IsPos (l : List Int) (x : Int) (i : Nat) : Prop where
 le : i ≤ l.length
 up : ∀ (j : Nat) y, i ≤ j → l[j]? = some y → x ≤ y
 low : ∀ y, 0 < i → l[i - 1]? = some y → y < x
theorem IsPos.unique {l : List Int} {x : Int} {i j : Nat} (h : IsPos l x i) (k : IsPos l x j) : i = j := by
 rcases Nat.lt_trichotomy i j with q | q | q
 ·have hj : j - 1 < l.length := by have := k.le; omega
  have h1 := h.up (j - 1) l[j - 1] (by omega) (List.getElem?_eq_getElem hj)
  have h2 := k.low l[j - 1] (by omega) (List.getElem?_eq_getElem hj)
  omega
 ·exact q
 ·have hi : i - 1 < l.length := by have := h.le; omega
  have h1 := k.up (i - 1) l[i - 1] (by omega) (List.getElem?_eq_getElem hi)
  have h2 := h.low l[i - 1] (by omega) (List.getElem?_eq_getElem hi)
  omega
def Zcy : List Int → Int → Nat
 | [], _ => 0
 | y :: r, x => if Zcy r x = 0 then (if y < x then 1 else 0) else Zcy r x + 1
theorem Zi2 : ∀ (l : List Int) (x : Int), IsPos l x (Zcy l x)
 | [], x => ⟨Nat.le_refl _, fun j y _ h => by simp at h, fun y h => by simp [Zcy] at h⟩
 | y :: r, x => by
  have ih := Zi2 r x
  simp only [Zcy]
  by_cases h0 : Zcy r x = 0
  ·rw [if_pos h0]
   rw [h0] at ih
   by_cases hy : y < x
   ·rw [if_pos hy]
    refine ⟨by simp, fun j z hj hz => ?_, fun z _ hz => ?_⟩
    ·cases j with
     | zero => omega
     | succ j => exact ih.up j z (by omega) (by simpa using hz)
    ·simp at hz; omega
   ·rw [if_neg hy]
    refine ⟨by simp, fun j z hj hz => ?_, fun z h => absurd h (by omega)⟩
    cases j with
    | zero => simp at hz; omega
    | succ j => exact ih.up j z (by omega) (by simpa using hz)
  ·rw [if_neg h0]
   refine ⟨by have := ih.le; simp; omega, fun j z hj hz => ?_, fun z _ hz => ?_⟩
   ·cases j with
    | zero => omega
    | succ j => exact ih.up j z (by omega) (by simpa using hz)
   ·have e : Zcy r x + 1 - 1 = (Zcy r x - 1) + 1 := by omega
    rw [e] at hz
    exact ih.low z (by omega) (by simpa using hz)
def Zdq (l : List Int) (x : Int) : List Int := if l[Zcy l x]? = some x then l else l.take (Zcy l x) ++ [x] ++ l.drop (Zcy l x)
theorem ZkB (l : List Int) (x : Int) : (Zdq l x).length ≤ l.length + 1 := by
 unfold Zdq; split
 ·omega
 ·have := (Zi2 l x).le; simp; omega
theorem ZkC {l : List Int} {x y : Int} : y ∈ Zdq l x ↔ y ∈ l ∨ y = x := by
 unfold Zdq
 split
 ·rename_i h
  constructor
  ·exact .inl
  ·rintro (h1 | rfl)
   ·exact h1
   ·exact List.mem_of_getElem? h
 ·rw [List.mem_append, List.mem_append, List.mem_singleton]
  constructor
  ·rintro ((h | h) | h)
   ·exact .inl (List.mem_of_mem_take h)
   ·exact .inr h
   ·exact .inl (List.mem_of_mem_drop h)
  ·rintro (h | h)
   ·rw [← List.take_append_drop (Zcy l x) l] at h
    rcases List.mem_append.1 h with k | k
    ·exact .inl (.inl k)
    ·exact .inr k
   ·exact .inl (.inr h)
theorem ZkD {l : List Int} {x : Int} (h : l.Pairwise (· < ·)) : (Zdq l x).Pairwise (· < ·) := by
 unfold Zdq
 split
 ·exact h
 ·rename_i hne
  have hp := Zi2 l x
  generalize Zcy l x = i at *
  have low : ∀ y ∈ l.take i, y < x := fun y hy => by
   obtain ⟨j, hj, rfl⟩ := List.getElem_of_mem hy
   simp only [List.length_take] at hj
   rw [List.getElem_take]
   have hil : i - 1 < l.length := by have := hp.le; omega
   have h1 := hp.low l[i - 1] (by omega) (List.getElem?_eq_getElem hil)
   by_cases e : j = i - 1
   ·subst e; exact h1
   ·have := List.pairwise_iff_getElem.1 h j (i - 1) (by omega) hil (by omega)
    omega
  have up : ∀ y ∈ l.drop i, x < y := fun y hy => by
   obtain ⟨j, hj, rfl⟩ := List.getElem_of_mem hy
   simp only [List.length_drop] at hj
   rw [List.getElem_drop]
   have h1 := hp.up (i + j) l[i + j] (by omega) (List.getElem?_eq_getElem (by omega))
   have h0 := hp.up i l[i] (by omega) (List.getElem?_eq_getElem (by omega))
   have hn : l[i] ≠ x := fun e => hne (by rw [List.getElem?_eq_getElem (by omega), e])
   by_cases e : j = 0
   ·subst e; simp only [Nat.add_zero]; omega
   ·have := List.pairwise_iff_getElem.1 h i (i + j) (by omega) (by omega) (by omega)
    omega
  rw [List.pairwise_append, List.pairwise_append]
  refine ⟨⟨h.sublist (List.take_sublist _ _), by simp, fun y hy z hz => ?_⟩, h.sublist (List.drop_sublist _ _), fun y hy z hz => ?_⟩
  ·rw [List.mem_singleton.1 hz]; exact low y hy
  ·rcases List.mem_append.1 hy with hy | hy
   ·have := low y hy; have := up z hz; omega
   ·rw [List.mem_singleton.1 hy]; exact up z hz

def Zf9 (l : List Int) (x : Int) (i : Nat) : Prop := ∀ (j : Nat) y, i ≤ j → l[j]? = some y → x ≤ y
theorem Zf9.start {l : List Int} {x : Int} : Zf9 l x l.length := fun j y h1 h2 => by have := (List.getElem?_eq_some_iff.1 h2).1; omega
theorem Zf9.step {l : List Int} {x y : Int} {i : Nat} (h : Zf9 l x i) (h1 : l[i - 1]? = some y) (hy : x ≤ y) : Zf9 l x (i - 1) := fun j z hj hz => by
 by_cases e : j = i - 1
 ·subst e; rw [h1] at hz; obtain rfl := Option.some.inj hz; exact hy
 ·exact h j z (by omega) hz
theorem Zf9.zero {l : List Int} {x : Int} {i : Nat} (h : Zf9 l x i) (hi : i = 0) : IsPos l x i := ⟨by omega, h, fun y h0 => by omega⟩
theorem Zf9.pos {l : List Int} {x y : Int} {i : Nat} (h : Zf9 l x i) (hi : i ≤ l.length) (h1 : l[i - 1]? = some y) (hy : y < x) : IsPos l x i :=
 ⟨hi, h, fun z _ hz => by rw [h1] at hz; obtain rfl := Option.some.inj hz; exact hy⟩
def Zao (l : List Span) : List Int := l.foldl (fun out s => Zdq (Zdq out s.a) s.b) []
theorem Znk (l : List Span) (s : Span) : Zao (l ++ [s]) = Zdq (Zdq (Zao l) s.a) s.b := by simp [Zao, List.foldl_append]
theorem ZfA : ∀ (n : Nat) (l : List Span), l.length = n → (Zao l).Pairwise (· < ·) ∧ (∀ y, y ∈ Zao l ↔ ∃ s ∈ l, y = s.a ∨ y = s.b) ∧ (Zao l).length ≤ 2 * l.length
 | 0, l, hn => by
  obtain rfl := List.length_eq_zero_iff.1 hn
  simp [Zao]
 | n + 1, l, hn => by
  obtain ⟨p, x, rfl⟩ : ∃ p x, l = p ++ [x] := by
   rcases List.eq_nil_or_concat l with rfl | ⟨p, x, h⟩
   ·simp at hn
   ·exact ⟨p, x, by simpa using h⟩
  obtain ⟨h1, h2, h3⟩ := ZfA n p (by simpa using hn)
  rw [Znk]
  refine ⟨ZkD (ZkD h1), fun y => ?_, ?_⟩
  ·rw [ZkC, ZkC, h2]
   constructor
   ·rintro ((⟨s, hs, e⟩ | e) | e)
    ·exact ⟨s, by simp [hs], e⟩
    ·exact ⟨x, by simp, .inl e⟩
    ·exact ⟨x, by simp, .inr e⟩
   ·rintro ⟨s, hs, e⟩
    rcases List.mem_append.1 hs with hs | hs
    ·exact .inl (.inl ⟨s, hs, e⟩)
    ·obtain rfl := List.mem_singleton.1 hs
     rcases e with e | e
     ·exact .inl (.inr e)
     ·exact .inr e
  ·have q1 := ZkB (Zao p) x.a
   have q2 := ZkB (Zdq (Zao p) x.a) x.b
   simp; omega
theorem ZoC (l : List Span) : (Zao l).Pairwise (· < ·) := (ZfA _ l rfl).1
theorem Zje {l : List Span} {y : Int} : y ∈ Zao l ↔ ∃ s ∈ l, y = s.a ∨ y = s.b := (ZfA _ l rfl).2.1 y
def inR (l : List Span) (x : Int) : Bool := l.any fun s => decide (s.a ≤ x) && decide (x < s.b)
theorem Zdh {l : List Span} {x : Int} : inR l x = true ↔ cover l x := by simp [inR, cover]
def ZkE (out : List Span) (s : Span) : List Span := match out[out.length - 1]? with
 | some p => if p.b = s.a then out.set (out.length - 1) ⟨p.a, s.b⟩ else out ++ [s]
 | none => out ++ [s]
theorem Zq7 {out : List Span} {s : Span} (h : out.length = 0) : ZkE out s = out ++ [s] := by
 obtain rfl := List.length_eq_zero_iff.1 h; rfl
theorem ZoD (o : List Span) (p s : Span) : ZkE (o ++ [p]) s = if p.b = s.a then o ++ [⟨p.a, s.b⟩] else o ++ [p] ++ [s] := by
 unfold ZkE
 have e : (o ++ [p]).length - 1 = o.length := by simp
 rw [e, List.getElem?_append_right (Nat.le_refl _)]
 simp only [Nat.sub_self, List.getElem?_cons_zero]
 split
 ·rw [List.set_append_right _ _ (Nat.le_refl _)]; simp
 ·rfl
def Zbm (kind : Int) (a b : Bool) : Bool := if kind = 1 then a || b else if kind = 2 then a && b else if kind = 3 then a && !b else !(a == b)
def Zaf (kind : Int) (a b : List Span) (es : List Int) : Nat → List Span
 | 0 => []
 | k + 1 => match es[k]?, es[k + 1]? with
  | some x, some y => if Zbm kind (inR a x) (inR b x) then ZkE (Zaf kind a b es k) ⟨x, y⟩ else Zaf kind a b es k
  | _, _ => Zaf kind a b es k
def ZjE (kind : Int) (a b : List Span) : List Span := Zaf kind a b (Zao (a ++ b)) ((Zao (a ++ b)).length - 1)
theorem ZoE {kind : Int} {a b : List Span} {es : List Int} {k : Nat} {x y : Int} (h1 : es[k]? = some x) (h2 : es[k + 1]? = some y) (h : Zbm kind (inR a x) (inR b x) = true) : Zaf kind a b es (k + 1) = ZkE (Zaf kind a b es k) ⟨x, y⟩ := by
 simp only [Zaf, h1, h2]; rw [if_pos h]
theorem Zq8 {kind : Int} {a b : List Span} {es : List Int} {k : Nat} {x y : Int} (h1 : es[k]? = some x) (h2 : es[k + 1]? = some y) (h : Zbm kind (inR a x) (inR b x) = false) : Zaf kind a b es (k + 1) = Zaf kind a b es k := by
 simp only [Zaf, h1, h2]; rw [if_neg (by rw [h]; simp)]
section
variable {es : List Int} (hs : es.Pairwise (· < ·))
include hs
theorem ZrV {i j : Nat} {x y : Int} (h1 : es[i]? = some x) (h2 : es[j]? = some y) (hij : i < j) : x < y := by
 obtain ⟨a, rfl⟩ := List.getElem?_eq_some_iff.1 h1
 obtain ⟨b, rfl⟩ := List.getElem?_eq_some_iff.1 h2
 exact List.pairwise_iff_getElem.1 hs i j a b hij
theorem ZkF {i : Nat} {u v y : Int} (h1 : es[i]? = some u) (h2 : es[i + 1]? = some v) (hy : y ∈ es) (h : y < v) : y ≤ u := by
 obtain ⟨j, hj⟩ := List.getElem?_of_mem hy
 rcases Nat.lt_or_ge i j with q | q
 ·rcases Nat.lt_or_ge (i + 1) j with r | r
  ·have := ZrV hs h2 hj r; omega
  ·have : j = i + 1 := by omega
   subst this; rw [h2] at hj; obtain rfl := Option.some.inj hj; omega
 ·rcases Nat.lt_or_ge j i with r | r
  ·have := ZrV hs hj h1 r; omega
  ·have : j = i := by omega
   subst this; rw [h1] at hj; obtain rfl := Option.some.inj hj; omega
theorem Zq9 {i : Nat} {u v y : Int} (h1 : es[i]? = some u) (h2 : es[i + 1]? = some v) (hy : y ∈ es) (h : u < y) : v ≤ y := by
 rcases Int.lt_or_le y v with q | q
 ·have := ZkF hs h1 h2 hy q; omega
 ·exact q
theorem Zj6 {l : List Span} (hl : ∀ s ∈ l, s.a ∈ es ∧ s.b ∈ es) {i : Nat} {u v x : Int} (h1 : es[i]? = some u) (h2 : es[i + 1]? = some v) (hx : u ≤ x) (hx' : x < v) : cover l x ↔ cover l u := by
 constructor
 ·rintro ⟨s, hsl, a1, a2⟩
  have := ZkF hs h1 h2 (hl s hsl).1 (by omega)
  exact ⟨s, hsl, this, by omega⟩
 ·rintro ⟨s, hsl, a1, a2⟩
  have := Zq9 hs h1 h2 (hl s hsl).2 a2
  exact ⟨s, hsl, by omega, by omega⟩
omit hs in
theorem Zmn : ∀ {es : List Int} {x p q : Int}, p ∈ es → q ∈ es → p ≤ x → x < q → es.Pairwise (· < ·) → ∃ (i : Nat) (u v : Int), es[i]? = some u ∧ es[i + 1]? = some v ∧ u ≤ x ∧ x < v
 | [], _, _, _, h, _, _, _, _ => by simp at h
 | [e], x, p, q, h1, h2, h3, h4, _ => by simp at h1 h2; omega
 | e :: f :: r, x, p, q, h1, h2, h3, h4, hp => by
  rcases Int.lt_or_le x f with k | k
  ·have hp' := List.pairwise_cons.1 hp
   refine ⟨0, e, f, rfl, rfl, ?_, k⟩
   rcases List.mem_cons.1 h1 with rfl | h1
   ·exact h3
   ·have := hp'.1 p h1; omega
  ·have hp' := List.pairwise_cons.1 hp
   have hq : q ∈ f :: r := by
    rcases List.mem_cons.1 h2 with rfl | h2
    ·have := hp'.1 f (by simp); omega
    ·exact h2
   obtain ⟨i, u, v, a1, a2, a3⟩ := Zmn (es := f :: r) (x := x) (p := f) (q := q) (by simp) hq k h4 hp'.2
   exact ⟨i + 1, u, v, by simpa using a1, by simpa using a2, a3⟩
end
structure CombInv (kind : Int) (a b : List Span) (es : List Int) (k : Nat) (out : List Span) : Prop where
 can : Can out
 top : ∀ s ∈ out, ∀ e, es[k]? = some e → s.b ≤ e
 cov : ∀ x, cover out x ↔ ∃ i u v, i < k ∧ es[i]? = some u ∧ es[i + 1]? = some v ∧ u ≤ x ∧ x < v ∧ Zbm kind (inR a u) (inR b u) = true
theorem Zjf {kind : Int} {a b : List Span} {es : List Int} (hs : es.Pairwise (· < ·)) : ∀ k, k < es.length → CombInv kind a b es k (Zaf kind a b es k)
 | 0, _ => ⟨⟨List.Pairwise.nil, by simp [Zaf]⟩, by simp [Zaf], fun x => by simp [Zaf, cover]⟩
 | k + 1, hk => by
  have ih := Zjf (kind := kind) (a := a) (b := b) hs k (by omega)
  have h1 : es[k]? = some es[k] := List.getElem?_eq_getElem (by omega)
  have h2 : es[k + 1]? = some es[k + 1] := List.getElem?_eq_getElem hk
  have hlt : es[k] < es[k + 1] := List.pairwise_iff_getElem.1 hs k (k + 1) (by omega) hk (by omega)
  have step : ∀ x, (∃ i u v, i < k + 1 ∧ es[i]? = some u ∧ es[i + 1]? = some v ∧ u ≤ x ∧ x < v ∧ Zbm kind (inR a u) (inR b u) = true) ↔
    (∃ i u v, i < k ∧ es[i]? = some u ∧ es[i + 1]? = some v ∧ u ≤ x ∧ x < v ∧ Zbm kind (inR a u) (inR b u) = true) ∨ (es[k] ≤ x ∧ x < es[k + 1] ∧ Zbm kind (inR a es[k]) (inR b es[k]) = true) := fun x => by
   constructor
   ·rintro ⟨i, u, v, hi, e1, e2, e3, e4, e5⟩
    by_cases e : i = k
    ·subst e
     rw [h1] at e1; rw [h2] at e2
     obtain rfl := Option.some.inj e1
     obtain rfl := Option.some.inj e2
     exact .inr ⟨e3, e4, e5⟩
    ·exact .inl ⟨i, u, v, by omega, e1, e2, e3, e4, e5⟩
   ·rintro (⟨i, u, v, hi, e1, e2, e3, e4, e5⟩ | ⟨e3, e4, e5⟩)
    ·exact ⟨i, u, v, by omega, e1, e2, e3, e4, e5⟩
    ·exact ⟨k, _, _, by omega, h1, h2, e3, e4, e5⟩
  cases hkp : Zbm kind (inR a es[k]) (inR b es[k]) with
  | false =>
   rw [Zq8 h1 h2 hkp]
   refine ⟨ih.can, fun s hs' e he => ?_, fun x => ?_⟩
   ·rw [h2] at he
    obtain rfl := Option.some.inj he
    have := ih.top s hs' _ h1; omega
   ·rw [step, ih.cov, hkp]; simp
  | true =>
   rw [ZoE h1 h2 hkp]
   rcases List.eq_nil_or_concat (Zaf kind a b es k) with h0 | ⟨o, q, h0⟩
   ·rw [h0] at ih ⊢
    rw [Zq7 rfl]
    refine ⟨⟨by simp, by simpa using hlt⟩, fun s hs' e he => ?_, fun x => ?_⟩
    ·rw [h2] at he
     obtain rfl := Option.some.inj he
     simp at hs'; subst hs'; exact Int.le_refl _
    ·rw [step, ← ih.cov, hkp, List.nil_append, ZdC]; simp [cover]
   ·have h0 : Zaf kind a b es k = o ++ [q] := by simpa using h0
    rw [h0] at ih ⊢
    have hap := List.pairwise_append.1 ih.can.apart
    have hq := ih.can.pos q (by simp)
    have hqt := ih.top q (by simp) _ h1
    rw [ZoD]
    by_cases hj : q.b = es[k]
    ·rw [if_pos hj]
     refine ⟨⟨List.pairwise_append.2 ⟨hap.1, by simp, fun u hu v hv => ?_⟩, fun s hs' => ?_⟩, fun s hs' e he => ?_, fun x => ?_⟩
     ·obtain rfl := List.mem_singleton.1 hv
      exact hap.2.2 u hu q (by simp)
     ·rcases List.mem_append.1 hs' with hs' | hs'
      ·exact ih.can.pos s (by simp [hs'])
      ·obtain rfl := List.mem_singleton.1 hs'
       simp only; omega
     ·rw [h2] at he
      obtain rfl := Option.some.inj he
      rcases List.mem_append.1 hs' with hs' | hs'
      ·have := ih.top s (by simp [hs']) _ h1; omega
      ·obtain rfl := List.mem_singleton.1 hs'; exact Int.le_refl _
     ·rw [step, ← ih.cov, hkp, Zca, Zca, or_assoc]
      refine or_congr Iff.rfl ?_
      rw [ZdC, ZdC]
      simp only [and_true]
      constructor <;> intro h <;> omega
    ·rw [if_neg hj]
     refine ⟨⟨List.pairwise_append.2 ⟨ih.can.apart, by simp, fun u hu v hv => ?_⟩, fun s hs' => ?_⟩, fun s hs' e he => ?_, fun x => ?_⟩
     ·obtain rfl := List.mem_singleton.1 hv
      rcases List.mem_append.1 hu with hu | hu
      ·have := hap.2.2 u hu q (by simp); simp only; omega
      ·obtain rfl := List.mem_singleton.1 hu; simp only; omega
     ·rcases List.mem_append.1 hs' with hs' | hs'
      ·exact ih.can.pos s hs'
      ·obtain rfl := List.mem_singleton.1 hs'; exact hlt
     ·rw [h2] at he
      obtain rfl := Option.some.inj he
      rcases List.mem_append.1 hs' with hs' | hs'
      ·have := ih.top s hs' _ h1; omega
      ·obtain rfl := List.mem_singleton.1 hs'; exact Int.le_refl _
     ·rw [step, ← ih.cov, hkp, Zca (r := o ++ [q]), ZdC]; simp
theorem ZoF {kind : Int} {a b : List Span} (h0 : Zbm kind false false = false) (ha : ∀ s ∈ a, s.a < s.b) (hb : ∀ s ∈ b, s.a < s.b) :
  Can (ZjE kind a b) ∧ ∀ x, cover (ZjE kind a b) x ↔ Zbm kind (inR a x) (inR b x) = true := by
 have hs := ZoC (a ++ b)
 have hl : ∀ s ∈ a ++ b, s.a ∈ Zao (a ++ b) ∧ s.b ∈ Zao (a ++ b) := fun s hs => ⟨Zje.2 ⟨s, hs, .inl rfl⟩, Zje.2 ⟨s, hs, .inr rfl⟩⟩
 unfold ZjE
 generalize Zao (a ++ b) = es at *
 have eqv : ∀ {l : List Span}, (∀ s ∈ l, s ∈ a ++ b) → ∀ {i : Nat} {u v x : Int}, es[i]? = some u → es[i + 1]? = some v → u ≤ x → x < v → inR l x = inR l u := fun hl' i u v x e1 e2 e3 e4 => by
  rw [Bool.eq_iff_iff, Zdh, Zdh]
  exact Zj6 hs (fun s hs' => hl s (hl' s hs')) e1 e2 e3 e4
 have fin : ∀ x, Zbm kind (inR a x) (inR b x) = true → ∃ i u v, es[i]? = some u ∧ es[i + 1]? = some v ∧ u ≤ x ∧ x < v := fun x hx => by
  have : cover (a ++ b) x := by
   rw [Zca, ← Zdh, ← Zdh]
   cases e1 : inR a x <;> cases e2 : inR b x <;> simp_all
  obtain ⟨s, hs', a1, a2⟩ := this
  obtain ⟨i, u, v, q⟩ := Zmn (hl s hs').1 (hl s hs').2 a1 a2 hs
  exact ⟨i, u, v, q⟩
 rcases Nat.eq_zero_or_pos es.length with hz | hpos
 ·rw [show es.length - 1 = 0 by omega]
  refine ⟨⟨List.Pairwise.nil, by simp [Zaf]⟩, fun x => ?_⟩
  simp only [Zaf]
  constructor
  ·rintro ⟨s, hs', _⟩; simp at hs'
  ·intro h
   obtain ⟨i, u, v, e1, _⟩ := fin x h
   have := (List.getElem?_eq_some_iff.1 e1).1; omega
 ·have inv := Zjf (kind := kind) (a := a) (b := b) hs (es.length - 1) (by omega)
  refine ⟨inv.can, fun x => ?_⟩
  rw [inv.cov]
  constructor
  ·rintro ⟨i, u, v, hi, e1, e2, e3, e4, e5⟩
   rw [eqv (l := a) (fun s hs => by simp [hs]) e1 e2 e3 e4, eqv (l := b) (fun s hs => by simp [hs]) e1 e2 e3 e4]; exact e5
  ·intro h
   obtain ⟨i, u, v, e1, e2, e3, e4⟩ := fin x h
   have := (List.getElem?_eq_some_iff.1 e2).1
   rw [eqv (l := a) (fun s hs => by simp [hs]) e1 e2 e3 e4, eqv (l := b) (fun s hs => by simp [hs]) e1 e2 e3 e4] at h
   exact ⟨i, u, v, by omega, e1, e2, e3, e4, h⟩
end Go.Civ
namespace Go.Civ
set_option linter.unusedVariables false

abbrev VV := List (List Val)
def Znl : VV → List Val → Nat
 | [], _ => 0
 | u :: r, v => if ZaQ cmpV u v < 0 then Znl r v + 1 else 0
def Z0x (out : VV) (v : List Val) : VV := if out[Znl out v]? = some v then out else out.take (Znl out v) ++ [v] ++ out.drop (Znl out v)
def ZqA (l : VV) : Prop := l.Pairwise fun x y => ZaQ cmpV x y < 0
structure Shift (out M : VV) (j : Nat) : Prop where
 len : M.length = out.length + 1
 low : ∀ i, i < j → M[i]? = out[i]?
 high : ∀ i, j < i → i ≤ out.length → M[i]? = out[i - 1]?
theorem Shift.start {out : VV} {u : List Val} : Shift out (out ++ [u]) out.length :=
 ⟨by simp, fun i hi => List.getElem?_append_left hi, fun i h1 h2 => by omega⟩
theorem Shift.step {out M : VV} {j : Nat} {x : List Val} (h : Shift out M j) (hj : 0 < j) (hx : M[j - 1]? = some x) : Shift out (M.set j x) (j - 1) := by
 have hjl : j - 1 < M.length := (List.getElem?_eq_some_iff.1 hx).1
 refine ⟨by rw [List.length_set]; exact h.len, fun i hi => ?_, fun i h1 h2 => ?_⟩
 ·rw [List.getElem?_set, if_neg (by omega)]; exact h.low i (by omega)
 ·rw [List.getElem?_set]
  by_cases e : j = i
  ·subst e
   rw [if_pos rfl]
   split
   ·rw [← hx]; exact h.low _ (by omega)
   ·have := h.len; omega
  ·rw [if_neg e]; exact h.high i (by omega) h2
theorem Shift.done {out M : VV} {k : Nat} {v : List Val} (h : Shift out M k) (hk : k ≤ out.length) : M.set k v = out.take k ++ [v] ++ out.drop k := by
 apply List.ext_getElem?
 intro i
 have hl := h.len
 rw [List.getElem?_set, List.append_assoc, List.getElem?_append, List.length_take, Nat.min_eq_left hk]
 by_cases e : k = i
 ·subst e
  rw [if_pos rfl, if_pos (by omega), if_neg (by omega)]; simp
 ·rw [if_neg e]
  by_cases q : i < k
  ·rw [if_pos q, List.getElem?_take, if_pos q]; exact h.low i q
  ·rw [if_neg q, List.getElem?_append, if_neg (by simp; omega), List.getElem?_drop]
   rcases Nat.lt_or_ge out.length i with r | r
   ·rw [List.getElem?_eq_none (by omega), List.getElem?_eq_none (by simp; omega)]
   ·rw [h.high i (by omega) r]; congr 1; simp; omega

end Go.Civ
namespace Go.Civ
open Go.RowKit
set_option linter.unusedVariables false
structure HGrp where
 v : List Val
 t : List HRow
def ZxI (tx : Int) (r : HRow) : Bool:=decide (r.r.x.a ≤ tx) && decide (tx < r.r.x.b)
def Zvj (l : List HRow) (tx : Int) : List Span:=(l.filter (ZxI tx)).map fun r=>r.r.d
def Zvk (l : List HRow) (tx : Int) : List Span:=ZxG (Zvj l tx)
def ZhJ (r : HRow) : Bool:=r.v.all Yo && ZF r.r.d && ZF r.r.x
def ZxJ (l : List HRow) : Prop:=∀ r ∈ l,ZhJ r = true
def ofV (l : List HRow) (v : List Val) : List HRow:=l.filter fun r=>decide (r.v = v)
def ZxK (l : List HRow) : VV:=l.foldl (fun out r=>Z0x out r.v) []
def Z0y (l : List HRow) : List HGrp:=(ZxK l).map fun v=>⟨v,ofV l v⟩
theorem ZlX {r : HRow} (h : ZhJ r = true) : r.v.all Yo = true ∧ ZF r.r.d = true ∧ ZF r.r.x = true:=by
 unfold ZhJ at h; simp only [Bool.and_eq_true] at h; exact ⟨h.1.1,h.1.2,h.2⟩
def ZqB (out : List HGrp) (i : Nat) (r : HRow) : List HGrp:=match out[i]? with
 | some g=>out.set i ⟨g.v,g.t ++ [r]⟩
 | none=>out
theorem ZtD {out : List HGrp} {i : Nat} {g : HGrp} (r : HRow) (h : out[i]? = some g) : ZqB out i r = out.set i ⟨g.v,g.t ++ [r]⟩:=by unfold ZqB; rw [h]
structure NS where
 out : List HRow
 now : List Span
 fr : Int
def Z0z (v : List Val) (now : List Span) (a b : Int) : List HRow:=now.map fun s=>⟨v,⟨s,⟨a,b⟩⟩⟩
def ZxL (v : List Val) (f : Int → List Span) (s : NS) (c : Int) : NS:=if s.now = f c then s else ⟨s.out ++ Z0z v s.now s.fr c,f c,c⟩
def Z00 (v : List Val) (f : Int → List Span) (cs : List Int) : NS:=cs.foldl (ZxL v f) ⟨[],[],0⟩
def ZxM (l : List HRow) : List Int:=Zao (l.map fun r=>r.r.x)
def ZxN (g : HGrp) : List HRow:=(Z00 g.v (Zvk g.t) (ZxM g.t)).out
def Znm (l : List HRow) : List HRow:=(Z0y l).flatMap ZxN
theorem ZxJ.d {l : List HRow} (h : ZxJ l) : ∀ r ∈ l,ZF r.r.d = true:=fun r hr=>(ZlX (h r hr)).2.1
end Go.Civ
namespace Go.Civ
open Go.RowKit
set_option linter.unusedVariables false
section
variable {P : Program} {Q : Exit → Env → World → Prop} {ρ : Env} {w : World} {ops : Array Oper} {rest : List Oper} {K : Env → World → Prop}
variable {d : Nat} {ty : TypeId} {pos : String} {af : Array Edge} {g : Option (Nat × Bool)} {G : GH}
theorem Zmo {t ty' : TypeId} {x y : Operand} {k : IntKind} (n r : Int) (h0 : 0 ≤ r) (h1 : r ≤ 64)
  (hw : Region.wanted ⟨some d, .binOp .shr t x y ty',ty,pos,af,g⟩ (Zu ops ρ) = true) (hx : ev ρ x = .int .i64 n) (hy : ev ρ y = .int k r)
  (kk : K (ZQ ρ d (.int .i64 (n / 2 ^ r.toNat))) w) : OW P ops ⟨some d, .binOp .shr t x y ty',ty,pos,af,g⟩ ρ w K:=by
 refine WL.val hw ?_ rfl kk
 have e : (Op.shift .shr .i64 n k r) = pure (.int .i64 (n / 2 ^ r.toNat)):=shift_shr .i64 k n r h0 (by simpa [IntKind.bits] using h1)
 simp [execOp,hx,hy,binOp,eqGuard,e]
theorem Zmp {t ty' : TypeId} {x y : Operand} (a b : Int)
  (hw : Region.wanted ⟨some d, .binOp .and t x y ty',ty,pos,af,g⟩ (Zu ops ρ) = true) (hx : ev ρ x = .int .i64 a) (hy : ev ρ y = .int .i64 b)
  (kk : K (ZQ ρ d (.int .i64 (Go.bits .and .i64 a b))) w) : OW P ops ⟨some d, .binOp .and t x y ty',ty,pos,af,g⟩ ρ w K:=by
 refine WL.val hw ?_ rfl kk
 simp [execOp,hx,hy,binOp,eqGuard,intBits_and]
end
theorem ZhK {b : Bool} (h : (!b) = false) : b = true:=by cases b with | true=>rfl | false=>cases h
theorem QJ.cast {w : World} {G : GH} {b e : Nat} {cs cs' : List Value} (h : QJ w G (some (b,e,cs))) (k : cs = cs') : QJ w G (some (b,e,cs')):=k ▸ h
end Go.Civ
namespace Go.Civ
open Go.RowKit
set_option linter.unusedVariables false
def YQ (c : Int) : Bool:=(decide (65 ≤ c) && decide (c ≤ 90)) || (decide (97 ≤ c) && decide (c ≤ 122))
def QE (c : Int) : Bool:=decide (48 ≤ c) && decide (c ≤ 57)
def ixM (c : Int) : Int:=Go.Lib.indexByte [95,47,43,45] c.toNat.toUInt8
def ZaG (c : UInt8) : Bool:=YQ (c.toNat : Int) || QE (c.toNat : Int) || decide (0 ≤ ixM (c.toNat : Int))
def X5 (s : List UInt8) : Bool:=decide (1 ≤ s.length) && decide (s.length ≤ 30) && YQ ((s.headD 0).toNat : Int) && s.all ZaG
theorem ZkI {s : List UInt8} {k : Nat} {c : UInt8} (h : s[k]? = some c) (hc : ZaG c = false) : X5 s = false:=by
 unfold X5; rw [Zew h hc]; simp
theorem Zcb {s : List UInt8} {c : UInt8} (h : s[0]? = some c) : s.headD 0 = c:=by
 cases s with
 | nil=>simp at h
 | cons x s=>simp at h; simpa using h
theorem Zmq {c : UInt8} (h : YQ (c.toNat : Int) = true) : ZaG c = true:=by unfold ZaG; rw [h]; rfl
theorem Zmr {c : UInt8} (h : QE (c.toNat : Int) = true) : ZaG c = true:=by unfold ZaG; rw [h]; simp
theorem ZtG {c : UInt8} (h : 0 ≤ Go.Lib.indexByte [95,47,43,45] (c.toNat : Int).toNat.toUInt8) : ZaG c = true:=by unfold ZaG ixM; rw [decide_eq_true h]; simp
theorem ZkJ {c : UInt8} (h1 : YQ (c.toNat : Int) = false) (h2 : QE (c.toNat : Int) = false) (h3 : Go.Lib.indexByte [95,47,43,45] (c.toNat : Int).toNat.toUInt8 < 0) : ZaG c = false:=by
 unfold ZaG ixM; rw [h1,h2,decide_eq_false (by omega)]; rfl
theorem ZdE {s : List UInt8} (h : (s.length : Int) < 1 ∨ 30 < (s.length : Int)) : X5 s = false:=by
 unfold X5
 rcases h with h | h
 ·rw [decide_eq_false (show ¬ 1 ≤ s.length by omega)]; simp
 ·rw [decide_eq_false (show ¬ s.length ≤ 30 by omega)]; simp
theorem Zjg {s : List UInt8} {c : UInt8} (h : s[0]? = some c) (hc : YQ (c.toNat : Int) = false) : X5 s = false:=by
 unfold X5; rw [Zcb h,hc]; simp
theorem Zjh {s : List UInt8} {c : UInt8} (h1 : 1 ≤ (s.length : Int)) (h2 : (s.length : Int) ≤ 30) (h : s[0]? = some c) (hc : YQ (c.toNat : Int) = true) (ha : s.all ZaG = true) : X5 s = true:=by
 unfold X5; rw [Zcb h,hc,ha,decide_eq_true (show 1 ≤ s.length by omega),decide_eq_true (show s.length ≤ 30 by omega)]; rfl
def Zcc (l : List (List UInt8)) (j : Nat) (s : List UInt8) : Bool:=X5 s && !(l.take j).any fun x=>decide (x = s)
def Zbo (l : List (List UInt8)) : Bool:=l.zipIdx.all fun p=>Zcc l p.2 p.1
theorem ZoG {l : List (List UInt8)} {j : Nat} {s : List UInt8} (h1 : X5 s = true) (h2 : ((l.take j).any fun x=>decide (x = s)) = false) : Zcc l j s = true:=by unfold Zcc; rw [h1,h2]; rfl
theorem ZoH {l : List (List UInt8)} {j : Nat} {s : List UInt8} (h1 : X5 s = false) : Zcc l j s = false:=by unfold Zcc; rw [h1]; rfl
theorem ZoI {l : List (List UInt8)} {j : Nat} {s : List UInt8} (h2 : ((l.take j).any fun x=>decide (x = s)) = true) : Zcc l j s = false:=by unfold Zcc; rw [h2]; simp
theorem QQ {α : Type} {P : Nat → α → Prop} {l : List α} {k : Nat} {y : α} (h : ∀ j,j < k → ∀ x,l[j]? = some x → P j x) (hk : l[k]? = some y) (hy : P k y) : ∀ j,j < k + 1 → ∀ x,l[j]? = some x → P j x:=fun j hj x hx=>by
 by_cases e : j = k
 ·subst e; rw [hk] at hx; obtain rfl:=Option.some.inj hx; exact hy
 ·exact h j (by omega) x hx
theorem ZkK {l : List (List UInt8)} {k : Nat} {s : List UInt8} (h : l[k]? = some s) (hs : Zcc l k s = false) : Zbo l = false:=by
 unfold Zbo
 rw [Bool.eq_false_iff]
 intro e
 rw [List.all_eq_true] at e
 have:=e (s,k) (List.mem_zipIdx_iff_getElem?.2 h)
 rw [this] at hs; cases hs
theorem ZoJ {l : List (List UInt8)} {k : Nat} (h : ∀ j,j < k → ∀ s,l[j]? = some s → Zcc l j s = true) (hk : l.length ≤ k) : Zbo l = true:=by
 unfold Zbo
 rw [List.all_eq_true]
 rintro ⟨s,j⟩ hm
 have hj:=List.mem_zipIdx_iff_getElem?.1 hm
 have:=(List.getElem?_eq_some_iff.1 hj).1
 exact h j (by simp at this ⊢; omega) s hj
def ixS (l : List (List UInt8)) (nm : List UInt8) : Int:=Qi (fun x=>decide (x = nm)) l
theorem ZtH {l : List (List UInt8)} {nm : List UInt8} : decide (0 ≤ ixS l nm) = l.any fun x=>decide (x = nm):=Zcu _ _
def ZeO (c : Col) : Bool:=decide (1 ≤ c.kind) && decide (c.kind ≤ 4)
def fkB (s : Schema) (f : Foreign) : Bool:=X5 f.table && decide (1 ≤ f.cols.length) && decide (f.cols.length ≤ 8) && Zbo f.cols && f.cols.all fun c=>decide (0 ≤ ixS (s.cols.map Col.name) c)
def Zbv (s : Schema) : Bool:=X5 s.name && decide (1 ≤ s.cols.length) && decide (s.cols.length ≤ 8) && decide (1 ≤ s.key) && decide (s.key ≤ s.cols.length) && decide (s.fks.length ≤ 8) && Zbo (s.cols.map Col.name)
def Qq (s : Schema) : Bool:=Zbv s && (s.cols.all ZeO && s.fks.all (fkB s))
theorem ZoK {c : Col} (h1 : 1 ≤ c.kind) (h2 : c.kind ≤ 4) : ZeO c = true:=by unfold ZeO; simp [h1,h2]
theorem ZtI {s : Schema} {f : Foreign} (h1 : X5 f.table = true) (h2 : 1 ≤ (f.cols.length : Int)) (h3 : (f.cols.length : Int) ≤ 8) (h4 : Zbo f.cols = true) (h5 : (f.cols.all fun c=>decide (0 ≤ ixS (s.cols.map Col.name) c)) = true) : fkB s f = true:=by
 unfold fkB; rw [h1,h4,h5,decide_eq_true (show 1 ≤ f.cols.length by omega),decide_eq_true (show f.cols.length ≤ 8 by omega)]; rfl
theorem ZtJ {s : Schema} {f : Foreign} (h1 : X5 f.table = false) : fkB s f = false:=by unfold fkB; rw [h1]; rfl
theorem Zms {s : Schema} {f : Foreign} (h : (f.cols.length : Int) < 1 ∨ 8 < (f.cols.length : Int)) : fkB s f = false:=by
 unfold fkB
 rcases h with h | h
 ·rw [decide_eq_false (show ¬ 1 ≤ f.cols.length by omega)]; simp
 ·rw [decide_eq_false (show ¬ f.cols.length ≤ 8 by omega)]; simp
theorem ZtK {s : Schema} {f : Foreign} (h1 : Zbo f.cols = false) : fkB s f = false:=by unfold fkB; rw [h1]; simp
theorem ZtL {s : Schema} {f : Foreign} {k : Nat} {c : List UInt8} (h : f.cols[k]? = some c) (hc : ixS (s.cols.map Col.name) c < 0) : fkB s f = false:=by
 unfold fkB; rw [Zew (p:=fun c=>decide (0 ≤ ixS (s.cols.map Col.name) c)) h (decide_eq_false (by omega))]; simp
theorem ZqD {s : Schema} (h1 : Zbv s = true) (h2 : s.cols.all ZeO = true) (h3 : s.fks.all (fkB s) = true) : Qq s = true:=by unfold Qq; rw [h1,h2,h3]; rfl
theorem Zji {s : Schema} {k : Nat} {c : Col} (h : s.cols[k]? = some c) (hc : c.kind < 1 ∨ 4 < c.kind) : Qq s = false:=by
 unfold Qq; rw [Zew (p:=ZeO) h (by unfold ZeO; rcases hc with hc | hc <;> simp <;> omega)]; simp
theorem Zex {s : Schema} {k : Nat} {f : Foreign} (h : s.fks[k]? = some f) (hc : fkB s f = false) : Qq s = false:=by
 unfold Qq; rw [Zew (p:=fkB s) h hc]; simp
theorem Zds {s : Schema} (h : Zbv s = false) : Qq s = false:=by unfold Qq; rw [h]; rfl
def ZqE (s : Schema) (v : List Val) : Int:=if Qq s && v.all Yo then (if eqF (fun (c : Col) (x : Val)=>decide (c.kind = x.k)) s.cols v then 0 else 13) else 1
theorem ZhL {α β : Type} {f : α → β → Bool} : ∀ {a : List α} {b : List β},eqF f a b = true → a.length = b.length
 | [],[],_=>rfl
 | [],_ :: _,h=>by simp [eqF] at h
 | _ :: _,[],h=>by simp [eqF] at h
 | x :: a,y :: b,h=>by simp [eqF] at h; simp [ZhL (f:=f) (a:=a) (b:=b) h.2]
theorem ZqF {s : Schema} {v : List Val} (h : ZqE s v = 0) : v.length ≤ 8 ∧ v.all Yo = true ∧ v.length = s.cols.length ∧ Qq s = true:=by
 unfold ZqE at h
 split at h
 ·rename_i h1
  split at h
  ·rename_i h2
   simp only [Bool.and_eq_true] at h1
   have h3:=ZhL h2
   have h4:=h1.1
   unfold Qq Zbv at h4
   simp only [Bool.and_eq_true,decide_eq_true_eq] at h4
   exact ⟨by omega,h1.2,h3.symm,h1.1⟩
  ·cases h
 ·cases h
def ZjF (s : Schema) (last : Int) (r : HRow) : Bool:=decide (ZqE s r.v = 0) && ZhJ r && decide (r.r.x.a ≤ last) && (decide (r.r.x.b ≤ last) || decide (r.r.x.b = 253402300800))
def Zey (t : Table) : Bool:=Qq t.s && decide (-62135596801 ≤ t.last) && decide (t.last < 253402300800) && decide (t.rows.length ≤ 500) && t.rows.all (ZjF t.s t.last) && decide (t.rows = Znm t.rows)
end Go.Civ
