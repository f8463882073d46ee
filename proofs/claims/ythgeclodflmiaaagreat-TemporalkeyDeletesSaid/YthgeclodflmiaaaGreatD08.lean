/- Lemmas. -/
import Derived.Test.YthgeclodflmiaaaGreatD03
import Derived.Test.YthgeclodflmiaaaGreatD06
import Derived.Test.YthgeclodflmiaaaGreatD07
import Derived.WalkKit
import Derived.KernelRfl
namespace Go.Civ
set_option linter.unusedVariables false

def cover (r : List Span) (x : Int) : Prop := ∃ s ∈ r, s.a ≤ x ∧ x < s.b
structure Can (r : List Span) : Prop where
 apart : r.Pairwise fun p q => p.b < q.a
 pos : ∀ s ∈ r, s.a < s.b
theorem Can.tail {s : Span} {r : List Span} (h : Can (s :: r)) : Can r := ⟨(List.pairwise_cons.1 h.apart).2, fun t ht => h.pos t (by simp [ht])⟩
theorem Xp {s : Span} {r : List Span} {x : Int} : cover (s :: r) x ↔ (s.a ≤ x ∧ x < s.b) ∨ cover r x := by simp [cover]
theorem Can.above {s : Span} {r : List Span} (h : Can (s :: r)) {x : Int} (hx : cover r x) : s.b < x := by
 obtain ⟨t, ht, h1, h2⟩ := hx
 have := (List.pairwise_cons.1 h.apart).1 t ht
 omega
theorem Can.unique : ∀ {r r' : List Span}, Can r → Can r' → (∀ x, cover r x ↔ cover r' x) → r = r'
 | [], [], _, _, _ => rfl
 | [], s :: r', _, h', h => by
  have := (h s.a).2 (Xp.2 (.inl ⟨by omega, h'.pos s (by simp)⟩))
  obtain ⟨_, ht, _⟩ := this; simp at ht
 | s :: r, [], h', _, h => by
  have := (h s.a).1 (Xp.2 (.inl ⟨by omega, h'.pos s (by simp)⟩))
  obtain ⟨_, ht, _⟩ := this; simp at ht
 | s :: r, s' :: r', h1, h2, h => by
  have p1 := h1.pos s (by simp)
  have p2 := h2.pos s' (by simp)
  have a1 : s'.a ≤ s.a := by
   rcases Xp.1 ((h s.a).1 (Xp.2 (.inl ⟨by omega, p1⟩))) with k | k
   ·exact k.1
   ·have := h2.above k; omega
  have a2 : s.a ≤ s'.a := by
   rcases Xp.1 ((h s'.a).2 (Xp.2 (.inl ⟨by omega, p2⟩))) with k | k
   ·exact k.1
   ·have := h1.above k; omega
  have b1 : s'.b ≤ s.b := by
   rcases Int.lt_or_le s.b s'.b with k | k
   ·rcases Xp.1 ((h s.b).2 (Xp.2 (.inl ⟨by omega, k⟩))) with k | k
    ·omega
    ·have := h1.above k; omega
   ·exact k
  have b2 : s.b ≤ s'.b := by
   rcases Int.lt_or_le s'.b s.b with k | k
   ·rcases Xp.1 ((h s'.b).1 (Xp.2 (.inl ⟨by omega, k⟩))) with k | k
    ·omega
    ·have := h2.above k; omega
   ·exact k
  have e : s = s' := by
   cases s; cases s'; simp only [Span.mk.injEq]; exact ⟨by simp only at a1 a2; omega, by simp only at b1 b2; omega⟩
  subst e
  rw [Can.unique h1.tail h2.tail fun x => ?_]
  constructor
  ·intro k
   have := h1.above k
   rcases Xp.1 ((h x).1 (Xp.2 (.inr k))) with q | q
   ·omega
   ·exact q
  ·intro k
   have := h2.above k
   rcases Xp.1 ((h x).2 (Xp.2 (.inr k))) with q | q
   ·omega
   ·exact q

def ZaG (out : List Span) (x : Span) : List Span :=
 match out[out.length - 1]? with
 | none => out ++ [x]
 | some p => if x.a ≤ p.b then out.set (out.length - 1) ⟨p.a, max p.b x.b⟩ else out ++ [x]
def Yy (l : List Span) : List Span := l.foldl ZaG []
def Ziu (l : List Span) : List Span := l.mergeSort fun x y => decide (x.a ≤ y.a)
def Zai (l : List Span) : List Span := Yy (Ziu l)

theorem Zqd (x : Span) : ZaG [] x = [x] := rfl
theorem Zo2 (out : List Span) (p x : Span) : ZaG (out ++ [p]) x = if x.a ≤ p.b then out ++ [⟨p.a, max p.b x.b⟩] else out ++ [p] ++ [x] := by
 unfold ZaG
 have e : (out ++ [p]).length - 1 = out.length := by simp
 rw [e, List.getElem?_append_right (Nat.le_refl _)]
 simp only [Nat.sub_self, List.getElem?_cons_zero]
 split
 ·rw [List.set_append_right _ _ (Nat.le_refl _)]; simp
 ·rfl
theorem Zhn (l : List Span) (x : Span) : Yy (l ++ [x]) = ZaG (Yy l) x := by simp [Yy, List.foldl_append]
theorem Ze2 {l : List Span} {k : Nat} {x : Span} (h : l[k]? = some x) : Yy (l.take (k + 1)) = ZaG (Yy (l.take k)) x := by
 rw [List.take_add_one, h]; exact Zhn _ _
theorem Zo3 {out : List Span} {x : Span} (h : out.length = 0) : ZaG out x = out ++ [x] := by
 obtain rfl := List.length_eq_zero_iff.1 h; rfl
theorem Zo4 {out : List Span} {x p : Span} (h : out[out.length - 1]? = some p) (hx : x.a ≤ p.b) : ZaG out x = out.set (out.length - 1) ⟨p.a, max p.b x.b⟩ := by
 unfold ZaG; rw [h]; simp [hx]
theorem Zns {out : List Span} {x p : Span} (h : out[out.length - 1]? = some p) (hx : p.b < x.a) : ZaG out x = out ++ [x] := by
 unfold ZaG; rw [h]; simp only; rw [if_neg (by omega)]
theorem XR {r t : List Span} {x : Int} : cover (r ++ t) x ↔ cover r x ∨ cover t x := by
 simp only [cover, List.mem_append]
 constructor
 ·rintro ⟨s, h | h, k⟩
  ·exact .inl ⟨s, h, k⟩
  ·exact .inr ⟨s, h, k⟩
 ·rintro (⟨s, h, k⟩ | ⟨s, h, k⟩)
  ·exact ⟨s, .inl h, k⟩
  ·exact ⟨s, .inr h, k⟩
theorem QP {s : Span} {x : Int} : cover [s] x ↔ s.a ≤ x ∧ x < s.b := by simp [cover]
theorem Zo5 {r t : List Span} (h : r.Perm t) {x : Int} : cover r x ↔ cover t x := by simp only [cover, h.mem_iff]

structure MInv (p out : List Span) : Prop where
 can : Can out
 cov : ∀ x, cover out x ↔ cover p x
 from_ : ∀ s ∈ out, ∃ q ∈ p, s.a = q.a
 len : out.length ≤ p.length
theorem Ziv : ∀ (n : Nat) (l : List Span), l.length = n → l.Pairwise (fun x y => x.a ≤ y.a) → (∀ s ∈ l, s.a < s.b) → MInv l (Yy l)
 | 0, l, hn, _, _ => by
  obtain rfl := List.length_eq_zero_iff.1 hn
  exact ⟨⟨List.Pairwise.nil, by simp [Yy]⟩, fun _ => Iff.rfl, by simp [Yy], Nat.le_refl _⟩
 | n + 1, l, hn, hs, hp => by
  obtain ⟨p, x, rfl⟩ : ∃ p x, l = p ++ [x] := by
   rcases List.eq_nil_or_concat l with rfl | ⟨p, x, h⟩
   ·simp at hn
   ·exact ⟨p, x, by simpa using h⟩
  have hs' := List.pairwise_append.1 hs
  have ih := Ziv n p (by simpa using hn) hs'.1 fun s h => hp s (by simp [h])
  have hx : x.a < x.b := hp x (by simp)
  rw [Zhn]
  rcases List.eq_nil_or_concat (Yy p) with h0 | ⟨o, q, h0⟩
  ·rw [h0, Zqd]
   rw [h0] at ih
   refine ⟨⟨by simp, by simpa using hx⟩, fun y => ?_, by simp, by simp⟩
   rw [XR, ← ih.cov y]
   simp [cover]
  ·have h0 : Yy p = o ++ [q] := by simpa using h0
   rw [h0] at ih ⊢
   have hap := List.pairwise_append.1 ih.can.apart
   have hq : q.a < q.b := ih.can.pos q (by simp)
   have hqx : q.a ≤ x.a := by
    obtain ⟨z, hz, e⟩ := ih.from_ q (by simp)
    rw [e]; exact hs'.2.2 z hz x (by simp)
   rw [Zo2]
   split
   ·rename_i hj
    have hm : max q.b x.b = if q.b ≤ x.b then x.b else q.b := by rw [Int.max_def]
    refine ⟨⟨List.pairwise_append.2 ⟨hap.1, by simp, fun u hu v hv => ?_⟩, fun s hs => ?_⟩, fun y => ?_, fun s hs => ?_, ?_⟩
    ·obtain rfl := List.mem_singleton.1 hv
     exact hap.2.2 u hu q (by simp)
    ·rcases List.mem_append.1 hs with hs | hs
     ·exact ih.can.pos s (by simp [hs])
     ·obtain rfl := List.mem_singleton.1 hs
      simp only; rw [hm]; split <;> omega
    ·rw [XR, XR, ← ih.cov y, XR, or_assoc]
     refine or_congr Iff.rfl ?_
     rw [QP, QP, QP]
     simp only; rw [hm]
     split <;> constructor <;> intro h <;> omega
    ·rcases List.mem_append.1 hs with hs | hs
     ·obtain ⟨z, hz, e⟩ := ih.from_ s (by simp [hs])
      exact ⟨z, by simp [hz], e⟩
     ·obtain rfl := List.mem_singleton.1 hs
      obtain ⟨z, hz, e⟩ := ih.from_ q (by simp)
      exact ⟨z, by simp [hz], e⟩
    ·have := ih.len; simp at this ⊢; omega
   ·rename_i hj
    refine ⟨⟨List.pairwise_append.2 ⟨ih.can.apart, by simp, fun u hu v hv => ?_⟩, fun s hs => ?_⟩, fun y => ?_, fun s hs => ?_, ?_⟩
    ·obtain rfl := List.mem_singleton.1 hv
     rcases List.mem_append.1 hu with hu | hu
     ·have := hap.2.2 u hu q (by simp); omega
     ·obtain rfl := List.mem_singleton.1 hu; omega
    ·rcases List.mem_append.1 hs with hs | hs
     ·exact ih.can.pos s hs
     ·obtain rfl := List.mem_singleton.1 hs; exact hx
    ·rw [XR (r := o ++ [q]), XR (r := p), ← ih.cov y]
    ·rcases List.mem_append.1 hs with hs | hs
     ·obtain ⟨z, hz, e⟩ := ih.from_ s hs
      exact ⟨z, by simp [hz], e⟩
     ·obtain rfl := List.mem_singleton.1 hs
      exact ⟨_, by simp, rfl⟩
    ·have := ih.len; simp at this ⊢; omega
theorem Zdp {l s : List Span} (hp : s.Perm l) (hs : s.Pairwise fun x y => x.a ≤ y.a) (hv : ∀ x ∈ l, x.a < x.b) : MInv l (Yy s) := by
 have h := Ziv s.length s rfl hs fun x hx => hv x (hp.mem_iff.1 hx)
 exact ⟨h.can, fun x => (h.cov x).trans (Zo5 hp), fun x hx => (h.from_ x hx).imp fun q k => ⟨hp.mem_iff.1 k.1, k.2⟩, by rw [← hp.length_eq]; exact h.len⟩
theorem Ziw (l : List Span) : (Ziu l).Perm l := List.mergeSort_perm _ _
theorem Zqe (l : List Span) : (Ziu l).Pairwise fun x y => x.a ≤ y.a := by
 have := List.pairwise_mergeSort (le := fun (x y : Span) => decide (x.a ≤ y.a)) (fun a b c h1 h2 => by simp at *; omega) (fun a b => by simp; omega) l
 exact this.imp fun h => by simpa using h
theorem Q7 {l : List Span} (hv : ∀ x ∈ l, x.a < x.b) : MInv l (Zai l) := Zdp (Ziw l) (Zqe l) hv
theorem ZlI {l s : List Span} (hp : s.Perm l) (hs : s.Pairwise fun x y => x.a ≤ y.a) (hv : ∀ x ∈ l, x.a < x.b) : Yy s = Zai l :=
 Can.unique (Zdp hp hs hv).can (Q7 hv).can fun x => ((Zdp hp hs hv).cov x).trans ((Q7 hv).cov x).symm
def Zsq (l : List Span) : Prop := l.Pairwise fun x y => x.a ≤ y.a
theorem Zqf (out : List Span) (x : Span) : (ZaG out x).length ≤ out.length + 1 := by
 unfold ZaG; split
 ·simp
 ·split <;> simp
theorem Zix (l : List Span) : (Yy l).length ≤ l.length := by
 rcases Nat.lt_or_ge 0 l.length with h | h
 ·have : ∀ (l out : List Span), (l.foldl ZaG out).length ≤ out.length + l.length := by
   intro l
   induction l with
   | nil => simp
   | cons x l ih => intro out; have := ih (ZaG out x); have := Zqf out x; simp; omega
  have := this l []; simpa [Yy] using this
 ·obtain rfl := List.length_eq_zero_iff.1 (by omega : l.length = 0); simp [Yy]
theorem YG {s : Span} (h : ZN s = true) : s.a < s.b := by unfold ZN at h; simp at h; omega
theorem Zo6 {s : Span} (h : ZN s = true) : -4398046511104 ≤ s.a ∧ s.a ≤ 4398046511104 := by unfold ZN at h; simp at h; omega
theorem Ziy {l l1 : List Span} {k : Nat} (h : l1.Perm l ∧ Zsq l1) (hB : ∀ s ∈ l, ZN s = true) (hk : l1.length ≤ k) : Yy (l1.take k) = Zai l := by
 rw [List.take_of_length_le hk]
 exact ZlI h.1 h.2 fun x hx => YG (hB x hx)
theorem Zgb {l : List Span} : (Zai l).length ≤ l.length := by
 have := Zix (Ziu l); rw [(Ziw l).length_eq] at this; exact this
end Go.Civ

namespace Go.Civ
set_option linter.unusedVariables false

structure TOrd {α : Type} (c : α → α → Int) : Prop where
 eq : ∀ x y, c x y = 0 ↔ x = y
 swap : ∀ x y, c x y < 0 ↔ 0 < c y x
 trans : ∀ x y z, c x y < 0 → c y z < 0 → c x z < 0
theorem TOrd.refl {α : Type} {c : α → α → Int} (h : TOrd c) (x : α) : c x x = 0 := (h.eq x x).2 rfl
theorem TOrd.asym {α : Type} {c : α → α → Int} (h : TOrd c) {x y : α} (k : c x y < 0) : ¬ c y x < 0 := by have := (h.swap x y).1 k; omega
theorem TOrd.le_trans {α : Type} {c : α → α → Int} (h : TOrd c) {x y z : α} (h1 : ¬ c y x < 0) (h2 : ¬ c z y < 0) : ¬ c z x < 0 := fun k => by
 
 by_cases e : c x y = 0
 ·obtain rfl := (h.eq x y).1 e; exact h2 k
 ·have hxy : c x y < 0 := by
   rcases Int.lt_or_le (c x y) 0 with q | q
   ·exact q
   ·exact absurd ((h.swap y x).2 (by omega)) h1
  exact h2 (h.trans z x y k hxy)
theorem Zb2 : TOrd Y5 where
 eq x y := by unfold Y5; split <;> (try split) <;> omega
 swap x y := by
  unfold Y5; repeat' split
  all_goals omega
 trans x y z := by
  unfold Y5; repeat' split
  all_goals omega
theorem Zce : ∀ a : List UInt8, Op.bytesLess a a = false
 | [] => rfl
 | x :: a => by simp [Op.bytesLess, Zce a]
theorem ZlJ : ∀ a b : List UInt8, Op.bytesLess a b = false → a = b ∨ Op.bytesLess b a = true
 | [], [], _ => .inl rfl
 | [], _ :: _, h => by simp [Op.bytesLess] at h
 | _ :: _, [], _ => .inr rfl
 | x :: a, y :: b, h => by
  simp only [Op.bytesLess, Bool.or_eq_false_iff, Bool.and_eq_false_iff, decide_eq_false_iff_not] at h
  by_cases e : x = y
  ·subst e
   rcases ZlJ a b (by simpa using h.2) with rfl | k
   ·exact .inl rfl
   ·exact .inr (by simp [Op.bytesLess, k])
  ·refine .inr ?_
   have : y < x := by
    have h1 := h.1
    rw [UInt8.lt_iff_toNat_lt] at h1 ⊢
    have : x.toNat ≠ y.toNat := fun q => e (UInt8.toNat_inj.1 q)
    omega
   simp [Op.bytesLess, this]
theorem Zh8 : ∀ a b c : List UInt8, Op.bytesLess a b = true → Op.bytesLess b c = true → Op.bytesLess a c = true
 | _, [], _, h, _ => by cases ‹List UInt8› <;> simp [Op.bytesLess] at h
 | _, _ :: _, [], _, h => by simp [Op.bytesLess] at h
 | [], _ :: _, _ :: _, _, _ => rfl
 | x :: a, y :: b, z :: c, h1, h2 => by
  simp only [Op.bytesLess, Bool.or_eq_true, Bool.and_eq_true, decide_eq_true_eq, beq_iff_eq] at h1 h2 ⊢
  rcases h1 with h1 | ⟨rfl, h1⟩ <;> rcases h2 with h2 | ⟨rfl, h2⟩
  ·left; rw [UInt8.lt_iff_toNat_lt] at *; omega
  ·exact .inl h1
  ·exact .inl h2
  ·exact .inr ⟨rfl, Zh8 a b c h1 h2⟩
theorem Zvy {a b : List UInt8} (h : Op.bytesLess a b = true) : Op.bytesLess b a = false := by
 cases k : Op.bytesLess b a with
 | false => rfl
 | true => have := Zh8 a b a h k; rw [Zce] at this; cases this
theorem ZnA {a b : List UInt8} : cmpS a b < 0 ↔ Op.bytesLess a b = true := by
 unfold cmpS; split
 ·simp [*]
 ·split
  ·rename_i h; subst h; simp [Zce]
  ·simp [*]
theorem Zsr : TOrd cmpS where
 eq x y := by
  unfold cmpS; split
  ·rename_i h; simp; rintro rfl; rw [Zce] at h; cases h
  ·split <;> simp [*]
 swap x y := by
  rw [ZnA]
  constructor
  ·intro h
   unfold cmpS
   rw [Zvy h, if_neg (by simp), if_neg]
   ·decide
   ·rintro rfl; rw [Zce] at h; cases h
  ·unfold cmpS
   intro h
   cases k : Op.bytesLess x y with
   | true => rfl
   | false =>
    rcases ZlJ x y k with rfl | q
    ·rw [Zce] at h; simp at h
    ·rw [q] at h; simp at h
 trans x y z h1 h2 := by rw [ZnA] at *; exact Zh8 x y z h1 h2
theorem TOrd.lex {α β γ : Type} {f : γ → α} {g : γ → β} {c : α → α → Int} {d : β → β → Int} (hc : TOrd c) (hd : TOrd d) (inj : ∀ x y, f x = f y → g x = g y → x = y) :
  TOrd fun x y => if c (f x) (f y) ≠ 0 then c (f x) (f y) else d (g x) (g y) where
 eq x y := by
  by_cases h : c (f x) (f y) = 0
  ·simp only [h]; simp only [ne_eq, not_true, if_false]
   rw [hd.eq]
   exact ⟨fun k => inj x y ((hc.eq _ _).1 h) k, fun k => by rw [k]⟩
  ·simp only [ne_eq, h, not_false_iff, if_true, false_iff]
   rintro rfl; exact h (hc.refl _)
 swap x y := by
  by_cases h : c (f x) (f y) = 0
  ·have h' : c (f y) (f x) = 0 := (hc.eq _ _).2 ((hc.eq _ _).1 h).symm
   simp only [h, h']; simp only [ne_eq, not_true, if_false]; exact hd.swap _ _
  ·have h' : c (f y) (f x) ≠ 0 := fun k => h ((hc.eq _ _).2 ((hc.eq _ _).1 k).symm)
   simp only [ne_eq, h, h', not_false_iff, if_true]; exact hc.swap _ _
 trans x y z := by
  by_cases h1 : c (f x) (f y) = 0
  ·have e1 := (hc.eq _ _).1 h1
   simp only [h1]; simp only [ne_eq, not_true, if_false, e1]
   by_cases h2 : c (f y) (f z) = 0
   ·simp only [h2]; simp only [not_true, if_false]; exact hd.trans _ _ _
   ·simp only [h2, not_false_iff, if_true]; exact fun _ k => k
  ·by_cases h2 : c (f y) (f z) = 0
   ·have e2 := (hc.eq _ _).1 h2
    simp only [ne_eq, h1, h2, not_false_iff, if_true]; simp only [not_true, if_false, ← e2, h1, not_false_iff, if_true]
    exact fun k _ => k
   ·simp only [ne_eq, h1, h2, not_false_iff, if_true]
    intro k1 k2
    have k3 := hc.trans _ _ _ k1 k2
    rw [if_pos (by omega)]; exact k3
def cmpNS (x y : Int × List UInt8) : Int := if Y5 x.1 y.1 ≠ 0 then Y5 x.1 y.1 else cmpS x.2 y.2
theorem Zqg : TOrd cmpNS := TOrd.lex (f := Prod.fst) (g := Prod.snd) Zb2 Zsr fun x y h1 h2 => Prod.ext h1 h2
theorem ZlK : TOrd cmpV :=
 TOrd.lex (f := Val.k) (g := fun x : Val => (x.n, x.s)) Zb2 Zqg fun x y h1 h2 => by
  cases x; cases y; simp at h1 h2; simp [h1, h2]
theorem ZlL {α : Type} {c : α → α → Int} (h : TOrd c) : TOrd (ZL c) where
 eq x y := by
  induction x generalizing y with
  | nil => cases y <;> simp [ZL]
  | cons a x ih =>
   cases y with
   | nil => simp [ZL]
   | cons b y =>
    simp only [ZL]
    by_cases e : c a b = 0
    ·obtain rfl := (h.eq a b).1 e
     simp only [e]; simp only [ne_eq, not_true, if_false, List.cons.injEq, true_and]; exact ih y
    ·simp only [ne_eq, e, not_false_iff, if_true, List.cons.injEq, false_iff]
     rintro ⟨rfl, _⟩; exact e (h.refl _)
 swap x y := by
  induction x generalizing y with
  | nil => cases y <;> simp [ZL]
  | cons a x ih =>
   cases y with
   | nil => simp [ZL]
   | cons b y =>
    simp only [ZL]
    by_cases e : c a b = 0
    ·obtain rfl := (h.eq a b).1 e
     simp only [e]; simp only [ne_eq, not_true, if_false]; exact ih y
    ·have e' : c b a ≠ 0 := fun k => e ((h.eq _ _).2 ((h.eq _ _).1 k).symm)
     simp only [ne_eq, e, e', not_false_iff, if_true]; exact h.swap a b
 trans x y z := by
  induction x generalizing y z with
  | nil => cases y <;> cases z <;> simp [ZL]
  | cons a x ih =>
   cases y with
   | nil => simp [ZL]
   | cons b y =>
    cases z with
    | nil => simp [ZL]
    | cons d z =>
     simp only [ZL]
     by_cases e1 : c a b = 0
     ·obtain rfl := (h.eq a b).1 e1
      simp only [e1]; simp only [ne_eq, not_true, if_false]
      by_cases e2 : c a d = 0
      ·simp only [e2]; simp only [not_true, if_false]; exact ih y z
      ·simp only [e2, not_false_iff, if_true]; exact fun _ k => k
     ·by_cases e2 : c b d = 0
      ·obtain rfl := (h.eq b d).1 e2
       simp only [ne_eq, e1, not_false_iff, if_true]; exact fun k _ => k
      ·simp only [ne_eq, e1, e2, not_false_iff, if_true]
       intro k1 k2
       have k3 := h.trans _ _ _ k1 k2
       rw [if_pos (by omega)]; exact k3
theorem ord : TOrd (ZL cmpV) := ZlL ZlK
theorem Q3 {a b : List Val} (ha : a.all Z4 = true) (hb : b.all Z4 = true) : XL a b = ZL cmpV a b := by unfold XL; simp [ha, hb]

def ZkW (out : List Group) (f : Fact) : List Group :=
 match out[out.length - 1]? with
 | none => out ++ [⟨f.v, [f.t]⟩]
 | some g => if XL g.v f.v = 0 then out.set (out.length - 1) ⟨g.v, g.t ++ [f.t]⟩ else out ++ [⟨f.v, [f.t]⟩]
def ZwI (l : List Fact) : List Group := l.foldl ZkW []
def Zyx (l : List Fact) : List Fact := l.mergeSort fun x y => decide (ZL cmpV x.v y.v ≤ 0)
def Zvz (l : List Group) : List Group := l.map fun g => ⟨g.v, Zai g.t⟩
def Zv0 (l : List Group) : List Fact := l.flatMap fun g => g.t.map fun s => ⟨g.v, s⟩
def grp (l : List Fact) : List Group := Zvz (ZwI (Zyx l))
def nf (l : List Fact) : List Fact := Zv0 (grp l)
def ZwJ (l : List Fact) : Prop := ∀ f ∈ l, f.v.all Z4 = true ∧ ZN f.t = true

theorem Zdq {α : Type} {c : α → α → Int} (h : TOrd c) : ∀ {a b : List α}, a.Pairwise (fun x y => c x y < 0) → b.Pairwise (fun x y => c x y < 0) → (∀ x, x ∈ a ↔ x ∈ b) → a = b
 | [], [], _, _, _ => rfl
 | [], y :: b, _, _, k => by have := (k y).2 (by simp); simp at this
 | x :: a, [], _, _, k => by have := (k x).1 (by simp); simp at this
 | x :: a, y :: b, ha, hb, k => by
  have ha' := List.pairwise_cons.1 ha
  have hb' := List.pairwise_cons.1 hb
  have e : x = y := by
   rcases List.mem_cons.1 ((k x).1 (by simp)) with e | h1
   ·exact e
   ·rcases List.mem_cons.1 ((k y).2 (by simp)) with e | h2
    ·exact e.symm
    ·exact absurd (hb'.1 x h1) (h.asym (ha'.1 y h2))
  subst e
  rw [Zdq h ha'.2 hb'.2 fun z => ?_]
  constructor
  ·intro hz
   rcases List.mem_cons.1 ((k z).1 (by simp [hz])) with e | h1
   ·subst e; have := ha'.1 z hz; rw [h.refl] at this; omega
   ·exact h1
  ·intro hz
   rcases List.mem_cons.1 ((k z).2 (by simp [hz])) with e | h1
   ·subst e; have := hb'.1 z hz; rw [h.refl] at this; omega
   ·exact h1
theorem ZwJ.perm {l l' : List Fact} (h : ZwJ l) (hp : l'.Perm l) : ZwJ l' := fun f hf => h f (hp.mem_iff.1 hf)
end Go.Civ

namespace Go.Civ
open Go.RowKit
set_option linter.unusedVariables false

def ZeL : Enc (List Val × Value) where
 n := 2
 rep G x cs := ∃ v, cs = [v, x.2] ∧ Sl ValE 32 G v x.1 ∧ x.2.oneCell' = true
 len := by rintro G x cs ⟨v, rfl, _⟩; rfl
 mono := by rintro G G' x cs hle ⟨v, rfl, h, k⟩; exact ⟨v, rfl, h.mono hle, k⟩
 one := by
  rintro G x cs ⟨v, rfl, h, k⟩ c hc
  simp at hc
  rcases hc with rfl | rfl
  ·exact h.oneC
  ·exact k
theorem ZbO {G : GH} {x : List Val × Value} {cs : List Value} (h : ZeL.rep G x cs) : ∃ v, cs = [v, x.2] ∧ Sl ValE 32 G v x.1 ∧ x.2.oneCell' = true := h
theorem Zgc {G : GH} (x : List Val × Value) {v : Value} (h1 : Sl ValE 32 G v x.1) (h2 : x.2.oneCell' = true) : ZeL.rep G x [v, x.2] := ⟨v, rfl, h1, h2⟩

structure GRel (G : GH) (gs : List Group) (L : List (List Val × Value)) (u : Value) (T : List Span) : Prop where
 len : L.length = gs.length
 val : ∀ (i : Nat) g, gs[i]? = some g → ∃ p, L[i]? = some p ∧ p.1 = g.v ∧ (i + 1 < gs.length → Sl SpanE 16 G p.2 g.t)
 last : ∀ g, gs[gs.length - 1]? = some g → (∃ p, L[gs.length - 1]? = some p ∧ p.2 = u) ∧ T = g.t
section
variable {G G' : GH} {gs : List Group} {L : List (List Val × Value)} {u : Value} {T : List Span} {f : Fact} {x : List Val × Value}
theorem GRel.mono (h : GRel G gs L u T) (k : G.le G') : GRel G' gs L u T :=
 ⟨h.len, fun i g hg => let ⟨p, h1, h2, h3⟩ := h.val i g hg; ⟨p, h1, h2, fun q => (h3 q).mono k⟩, h.last⟩
theorem GRel.nil : GRel G [] [] u T := ⟨rfl, fun i g h => by simp at h, fun g h => by simp at h⟩
theorem GRel.at (h : GRel G gs L u T) (hx : L[L.length - 1]? = some x) : ∃ g, gs[gs.length - 1]? = some g ∧ x.1 = g.v ∧ x.2 = u ∧ T = g.t := by
 have hl : L.length - 1 < L.length := (List.getElem?_eq_some_iff.1 hx).1
 rw [h.len] at hx hl
 obtain ⟨g, hg⟩ : ∃ g, gs[gs.length - 1]? = some g := ⟨_, List.getElem?_eq_getElem hl⟩
 obtain ⟨p, h1, h2, _⟩ := h.val _ g hg
 obtain ⟨⟨p', h3, h4⟩, h5⟩ := h.last g hg
 rw [hx] at h1 h3
 obtain rfl := Option.some.inj h1
 obtain rfl := Option.some.inj h3
 exact ⟨g, hg, h2, h4, h5⟩
theorem Zqh (h : gs.length = 0 ∨ ∃ g, gs[gs.length - 1]? = some g ∧ XL g.v f.v ≠ 0) : ZkW gs f = gs ++ [⟨f.v, [f.t]⟩] := by
 rcases h with h | ⟨g, hg, ho⟩
 ·obtain rfl := List.length_eq_zero_iff.1 h; rfl
 ·unfold ZkW; rw [hg]; simp [ho]
theorem GRel.done (h : GRel G gs L u T) (hf : Sl SpanE 16 G u T) : ∀ (i : Nat) g, gs[i]? = some g → ∃ p, L[i]? = some p ∧ p.1 = g.v ∧ Sl SpanE 16 G p.2 g.t := fun i g hg => by
 obtain ⟨p, h1, h2, h3⟩ := h.val i g hg
 refine ⟨p, h1, h2, ?_⟩
 have hi : i < gs.length := (List.getElem?_eq_some_iff.1 hg).1
 by_cases hq : i + 1 < gs.length
 ·exact h3 hq
 ·have e : i = gs.length - 1 := by omega
  subst e
  obtain ⟨⟨p', k1, k2⟩, k3⟩ := h.last g hg
  rw [h1] at k1; obtain rfl := Option.some.inj k1
  rw [k2, ← k3]; exact hf
theorem GRel.push {u' : Value} (h : GRel G gs L u T) (hf : Sl SpanE 16 G u T) (hc : L.length = 0 ∨ ∃ x, L[L.length - 1]? = some x ∧ XL x.1 f.v ≠ 0) : GRel G (ZkW gs f) (L ++ [(f.v, u')]) u' [f.t] := by
 have hc' : gs.length = 0 ∨ ∃ g, gs[gs.length - 1]? = some g ∧ XL g.v f.v ≠ 0 := by
  rcases hc with hc | ⟨x, hx, ho⟩
  ·exact .inl (by rw [← h.len]; exact hc)
  ·obtain ⟨g, hg, h1, _⟩ := h.at hx
   exact .inr ⟨g, hg, by rw [← h1]; exact ho⟩
 rw [Zqh hc']
 have hd := h.done hf
 refine ⟨by simp [h.len], fun i g hg => ?_, fun g hg => ?_⟩
 ·rw [List.getElem?_append] at hg
  split at hg
  ·rename_i hi
   obtain ⟨p, k1, k2, k3⟩ := hd i g hg
   exact ⟨p, by rw [List.getElem?_append, if_pos (by rw [h.len]; exact hi)]; exact k1, k2, fun _ => k3⟩
  ·rename_i hi
   have hi2 : i - gs.length < [(⟨f.v, [f.t]⟩ : Group)].length := (List.getElem?_eq_some_iff.1 hg).1
   have e : i = gs.length := by simp at hi2; omega
   subst e
   simp at hg; subst hg
   exact ⟨(f.v, u'), by rw [← h.len]; simp, rfl, fun q => by simp at q⟩
 ·simp at hg; subst hg
  exact ⟨⟨(f.v, u'), by simp [← h.len], rfl⟩, rfl⟩
theorem ZS.ofNew {α : Type} {E : Enc α} {by_ : Nat} {e : TypeId} {b : Nat} {cs : List Value} {l : List α} {n : Nat} (hf : XA E G l cs) (hn : n = l.length) (h1 : n * by_ ≤ reach) (h2 : n ≤ reach) : ZS E by_ e G (.slice (some ⟨b, 0, none⟩) n n) l (some (b, e, cs)) := by
 subst hn
 exact .inr ⟨b, cs, l.length, cs, rfl, rfl, Nat.le_refl _, by unfold reach at h2; unfold maxLen; omega, hf.len, hf, List.take_of_length_le (by rw [hf.len]; exact Nat.le_refl _), h1, h2⟩
end
end Go.Civ

namespace Go.Civ
set_option linter.unusedVariables false

def ZzK (l : List Fact) : Bool := decide (l.length ≤ 1000) && (decide (l.length = 0) || decide ((l.head?.elim [] Fact.v).length ≤ 8))
def ZzL (l : List Fact) : List Fact := if ZzK (nf l) then nf l else []
def Zyy (l : List Fact) : List Fact := if ZwB l then ZzL l else []
def atN (l : List Fact) (t : Int) : List (List Val) := (l.filter fun f => Zvr f.t t).map Fact.v
def atL (l : List Fact) (t : Int) : List (List Val) := atN (Zyy l) t
end Go.Civ
namespace Go.Civ
open Go.RowKit
set_option linter.unusedVariables false
structure Rect where
 d : Span
 x : Span
deriving DecidableEq
structure HRow where
 v : List Val
 r : Rect
deriving DecidableEq
structure Foreign where
 cols : List (List UInt8)
 table : List UInt8
deriving DecidableEq
structure Schema where
 name : List UInt8
 cols : List Col
 key : Int
 fks : List Foreign
deriving DecidableEq
structure Table where
 s : Schema
 rows : List HRow
 last : Int
deriving DecidableEq
def RectE : Enc Rect:=(Enc.pair SpanE SpanE).via fun x=>(x.d,x.x)
def HRowE : Enc HRow:=(Enc.pair (ValE.slice 32) RectE).via fun x=>(x.v,x.r)
def ForeignE : Enc Foreign:=(Enc.pair (Enc.str.slice 16) .str).via fun x=>(x.cols,x.table)
def SchemaE : Enc Schema:=(Enc.pair .str (Enc.pair (ColE.slice 24) (Enc.pair .int (ForeignE.slice 40)))).via fun x=>(x.name,x.cols,x.key,x.fks)
def TableE : Enc Table:=(Enc.pair SchemaE (Enc.pair (HRowE.slice 56) .int)).via fun x=>(x.s,x.rows,x.last)
section
variable {G : GH} {cs : List Value}
theorem Zo7 {x : Rect} (h : RectE.rep G x cs) : cs = [.int .i64 x.d.a, .int .i64 x.d.b, .int .i64 x.x.a, .int .i64 x.x.b] ∧ Z0 x.d.a ∧ Z0 x.d.b ∧ Z0 x.x.a ∧ Z0 x.x.b:=by
 obtain ⟨c1,c2,rfl,h1,h2⟩:=h
 obtain ⟨rfl,h3,h4⟩:=ZI h1
 obtain ⟨rfl,h5,h6⟩:=ZI h2
 exact ⟨rfl,h3,h4,h5,h6⟩
theorem Zss (x : Rect) (h1 : Z0 x.d.a) (h2 : Z0 x.d.b) (h3 : Z0 x.x.a) (h4 : Z0 x.x.b) : RectE.rep G x [.int .i64 x.d.a, .int .i64 x.d.b, .int .i64 x.x.a, .int .i64 x.x.b]:=
 ⟨_,_,rfl,Z1 x.d h1 h2,Z1 x.x h3 h4⟩
theorem Z7 {x : HRow} (h : HRowE.rep G x cs) : ∃ v,cs = [v, .int .i64 x.r.d.a, .int .i64 x.r.d.b, .int .i64 x.r.x.a, .int .i64 x.r.x.b] ∧ Sl ValE 32 G v x.v ∧ Z0 x.r.d.a ∧ Z0 x.r.d.b ∧ Z0 x.r.x.a ∧ Z0 x.r.x.b:=by
 obtain ⟨c1,c2,rfl,⟨v,rfl,h1⟩,h2⟩:=h
 obtain ⟨rfl,h3,h4,h5,h6⟩:=Zo7 h2
 exact ⟨v,rfl,h1,h3,h4,h5,h6⟩
theorem ZT (x : HRow) {v : Value} (h1 : Sl ValE 32 G v x.v) (h2 : Z0 x.r.d.a) (h3 : Z0 x.r.d.b) (h4 : Z0 x.r.x.a) (h5 : Z0 x.r.x.b) :
  HRowE.rep G x [v, .int .i64 x.r.d.a, .int .i64 x.r.d.b, .int .i64 x.r.x.a, .int .i64 x.r.x.b]:=⟨[v],_,rfl,⟨v,rfl,h1⟩,Zss x.r h2 h3 h4 h5⟩
theorem Xg {x : Foreign} (h : ForeignE.rep G x cs) : ∃ v,cs = [v,Za x.table] ∧ Sl Enc.str 16 G v x.cols ∧ x.table.length ≤ reach:=by
 obtain ⟨c1,c2,rfl,⟨v,rfl,h1⟩,rfl,h2⟩:=h
 exact ⟨v,rfl,h1,h2⟩
theorem QQ (x : Foreign) {v : Value} (h1 : Sl Enc.str 16 G v x.cols) (h2 : x.table.length ≤ reach) : ForeignE.rep G x [v,Za x.table]:=⟨[v],_,rfl,⟨v,rfl,h1⟩,rfl,h2⟩
theorem YZ {x : Schema} (h : SchemaE.rep G x cs) : ∃ v u,cs = [Za x.name,v, .int .i64 x.key,u] ∧ x.name.length ≤ reach ∧ Sl ColE 24 G v x.cols ∧ Z0 x.key ∧ Sl ForeignE 40 G u x.fks:=by
 obtain ⟨c1,c2,rfl,⟨rfl,h1⟩,c3,c4,rfl,⟨v,rfl,h2⟩,c5,c6,rfl,⟨rfl,h3⟩,u,rfl,h4⟩:=h
 exact ⟨v,u,rfl,h1,h2,h3,h4⟩
theorem Yo (x : Schema) {v u : Value} (h1 : x.name.length ≤ reach) (h2 : Sl ColE 24 G v x.cols) (h3 : Z0 x.key) (h4 : Sl ForeignE 40 G u x.fks) : SchemaE.rep G x [Za x.name,v, .int .i64 x.key,u]:=
 ⟨_,_,rfl,⟨rfl,h1⟩,_,_,rfl,⟨v,rfl,h2⟩,_,_,rfl,⟨rfl,h3⟩,u,rfl,h4⟩
theorem Zy {x : Table} (h : TableE.rep G x cs) : ∃ v u r,cs = [Za x.s.name,v, .int .i64 x.s.key,u,r, .int .i64 x.last] ∧ x.s.name.length ≤ reach ∧ Sl ColE 24 G v x.s.cols ∧ Z0 x.s.key ∧ Sl ForeignE 40 G u x.s.fks ∧ Sl HRowE 56 G r x.rows ∧ Z0 x.last:=by
 obtain ⟨c1,c2,rfl,h0,c3,c4,rfl,⟨r,rfl,h2⟩,rfl,h3⟩:=h
 obtain ⟨v,u,rfl,h4,h5,h6,h7⟩:=YZ h0
 exact ⟨v,u,r,rfl,h4,h5,h6,h7,h2,h3⟩
theorem Zo (x : Table) {v u r : Value} (h1 : x.s.name.length ≤ reach) (h2 : Sl ColE 24 G v x.s.cols) (h3 : Z0 x.s.key) (h4 : Sl ForeignE 40 G u x.s.fks) (h5 : Sl HRowE 56 G r x.rows) (h6 : Z0 x.last) :
  TableE.rep G x [Za x.s.name,v, .int .i64 x.s.key,u,r, .int .i64 x.last]:=⟨_,_,rfl,Yo x.s h1 h2 h3 h4,_,_,rfl,⟨r,rfl,h5⟩,rfl,h6⟩
end
def u63 (n : Int) : Nat:=(n + 9223372036854775808).toNat
def Ziz (n k : Nat) : UInt8:=UInt8.ofNat (n / 2 ^ k)
def Ze3 (n : Int) : List UInt8:=[56,48,40,32,24,16,8,0].map (Ziz (u63 n))
def ZbF (x : Val) : List UInt8:=UInt8.ofNat x.k.toNat :: (if x.k = 2 then x.s ++ [0] else if x.k = 3 then [UInt8.ofNat x.n.toNat] else Ze3 x.n)
def ZaX (l : List Val) : List UInt8:=l.flatMap ZbF
def QJ (l : List Val) : List UInt8:=if l.length ≤ 1000 ∧ l.all Z4 = true then ZaX l else []
theorem ZjR (n k : Nat) : (Ziz n k).toNat = n / 2 ^ k % 256:=by unfold Ziz; simp
theorem dig {a b k : Nat} (h : a / 2 ^ k % 256 = b / 2 ^ k % 256) (hk : a / 2 ^ (k + 8) = b / 2 ^ (k + 8)) : a / 2 ^ k = b / 2 ^ k:=by
 rw [Nat.pow_add,← Nat.div_div_eq_div_mul,← Nat.div_div_eq_div_mul] at hk
 generalize a / 2 ^ k = x at *
 generalize b / 2 ^ k = y at *
 have e : (2 : Nat) ^ 8 = 256:=rfl
 rw [e] at hk
 omega
theorem Zst {m n : Int} (hm : Z0 m) (hn : Z0 n) (h : Ze3 m = Ze3 n) : m = n:=by
 have e : ∀ k,k ∈ [56,48,40,32,24,16,8,0] → u63 m / 2 ^ k % 256 = u63 n / 2 ^ k % 256:=fun k hk=>by
  have:=List.map_inj_left.1 h k hk
  rw [← ZjR,← ZjR,this]
 have bm : u63 m < 2 ^ 64:=by unfold u63; have:=hm.1; have:=hm.2; omega
 have bn : u63 n < 2 ^ 64:=by unfold u63; have:=hn.1; have:=hn.2; omega
 have h64 : u63 m / 2 ^ (56 + 8) = u63 n / 2 ^ (56 + 8):=by rw [Nat.div_eq_of_lt bm,Nat.div_eq_of_lt bn]
 have h56:=dig (e 56 (by simp)) h64
 have h48:=dig (e 48 (by simp)) h56
 have h40:=dig (e 40 (by simp)) h48
 have h32:=dig (e 32 (by simp)) h40
 have h24:=dig (e 24 (by simp)) h32
 have h16:=dig (e 16 (by simp)) h24
 have h8:=dig (e 8 (by simp)) h16
 have h0:=dig (e 0 (by simp)) h8
 rw [Nat.pow_zero,Nat.div_one,Nat.div_one] at h0
 unfold u63 at h0
 have:=hm.1; have:=hn.1
 omega
theorem ZlM : ∀ {s t r r' : List UInt8},s.all okC = true → t.all okC = true → s ++ 0 :: r = t ++ 0 :: r' → s = t ∧ r = r'
 | [],[],r,r',_,_,h=>⟨rfl,(List.cons.inj h).2⟩
 | [],c :: t,r,r',_,h2,h=>by
  have e:=(List.cons.inj h).1
  subst e
  simp [okC] at h2
 | c :: s,[],r,r',h1,_,h=>by
  have e:=(List.cons.inj h).1
  subst e
  simp [okC] at h1
 | c :: s,c' :: t,r,r',h1,h2,h=>by
  have e:=List.cons.inj h
  simp only [List.all_cons,Bool.and_eq_true] at h1 h2
  obtain ⟨rfl,rfl⟩:=ZlM h1.2 h2.2 e.2
  exact ⟨by rw [e.1],rfl⟩
theorem ZeM {x : Val} (h : Z4 x = true) : (x.k = 1 ∧ x.s = []) ∨ (x.k = 2 ∧ x.n = 0 ∧ x.s.all okC = true) ∨ (x.k = 3 ∧ x.s = [] ∧ (x.n = 0 ∨ x.n = 1)) ∨ (x.k = 4 ∧ x.s = []):=by
 unfold Z4 at h
 by_cases h1 : x.k = 1
 ·simp [h1] at h; exact .inl ⟨h1,h⟩
 ·by_cases h2 : x.k = 2
  ·simp [h2] at h; exact .inr (.inl ⟨h2,h.1.1,by simpa using h.2⟩)
  ·by_cases h3 : x.k = 3
   ·simp [h3] at h; exact .inr (.inr (.inl ⟨h3,h.1,h.2⟩))
   ·by_cases h4 : x.k = 4
    ·simp [h4] at h; exact .inr (.inr (.inr ⟨h4,h.1.1⟩))
    ·simp [h1,h2,h3,h4] at h
theorem ZgG {x y : Val} (h1 : x.k = y.k) (h2 : x.n = y.n) (h3 : x.s = y.s) : x = y:=by cases x; cases y; simp_all
theorem Zsu {x y : Val} {r r' : List UInt8} (hx : Z4 x = true) (hy : Z4 y = true) (nx : Z0 x.n) (ny : Z0 y.n) (h : ZbF x ++ r = ZbF y ++ r') : x = y ∧ r = r':=by
 unfold ZbF at h
 rw [List.cons_append,List.cons_append] at h
 obtain ⟨hk,ht⟩:=List.cons.inj h
 have key : x.k = y.k:=by
  rcases ZeM hx with ⟨h1,_⟩ | ⟨h1,_⟩ | ⟨h1,_⟩ | ⟨h1,_⟩ <;> rcases ZeM hy with ⟨h2,_⟩ | ⟨h2,_⟩ | ⟨h2,_⟩ | ⟨h2,_⟩ <;> rw [h1,h2] at hk <;> first | exact h1.trans h2.symm | exact absurd hk (by decide)
 have eight : ∀ n m : Int,Z0 n → Z0 m → Ze3 n ++ r = Ze3 m ++ r' → n = m ∧ r = r':=fun n m hn hm e=>by
  obtain ⟨e1,e2⟩:=List.append_inj e (by simp [Ze3])
  exact ⟨Zst hn hm e1,e2⟩
 rcases ZeM hx with ⟨h1,h3⟩ | ⟨h1,h3,h5⟩ | ⟨h1,h3,h5⟩ | ⟨h1,h3⟩ <;> rcases ZeM hy with ⟨h2,h4⟩ | ⟨h2,h4,h6⟩ | ⟨h2,h4,h6⟩ | ⟨h2,h4⟩ <;> first | (exfalso; omega) | skip
 ·rw [h1,h2] at ht
  obtain ⟨e1,e2⟩:=eight _ _ nx ny (by simpa using ht)
  exact ⟨ZgG key e1 (h3.trans h4.symm),e2⟩
 ·rw [h1,h2] at ht
  obtain ⟨e1,e2⟩:=ZlM h5 h6 (by simpa using ht)
  exact ⟨ZgG key (h3.trans h4.symm) e1,e2⟩
 ·rw [h1,h2] at ht
  simp at ht
  refine ⟨ZgG key ?_ (h3.trans h4.symm),ht.2⟩
  rcases h5 with h5 | h5 <;> rcases h6 with h6 | h6 <;> rw [h5,h6] at ht <;> first | exact h5.trans h6.symm | exact absurd ht.1 (by decide)
 ·rw [h1,h2] at ht
  obtain ⟨e1,e2⟩:=eight _ _ nx ny (by simpa using ht)
  exact ⟨ZgG key e1 (h3.trans h4.symm),e2⟩
theorem ZlN : ∀ {l m : List Val},l.all Z4 = true → m.all Z4 = true → (∀ x ∈ l,Z0 x.n) → (∀ x ∈ m,Z0 x.n) → ZaX l = ZaX m → l = m
 | [],[],_,_,_,_,_=>rfl
 | [],y :: m,_,_,_,_,h=>by simp [ZaX,ZbF] at h
 | x :: l,[],_,_,_,_,h=>by simp [ZaX,ZbF] at h
 | x :: l,y :: m,h1,h2,h3,h4,h=>by
  simp only [List.all_cons,Bool.and_eq_true] at h1 h2
  simp only [ZaX,List.flatMap_cons] at h
  obtain ⟨rfl,e⟩:=Zsu h1.1 h2.1 (h3 x (by simp)) (h4 y (by simp)) h
  rw [ZlN h1.2 h2.2 (fun z hz=>h3 z (by simp [hz])) (fun z hz=>h4 z (by simp [hz])) e]
theorem Zsv {l m : List Val} (hl : l.length ≤ 1000) (hm : m.length ≤ 1000) (h1 : l.all Z4 = true) (h2 : m.all Z4 = true) (h3 : ∀ x ∈ l,Z0 x.n) (h4 : ∀ x ∈ m,Z0 x.n) (h : QJ l = QJ m) : l = m:=by
 unfold QJ at h
 rw [if_pos ⟨hl,h1⟩,if_pos ⟨hm,h2⟩] at h
 exact ZlN h1 h2 h3 h4 h
end Go.Civ
set_option linter.unusedVariables false
namespace Go.Civ
open Go.Proofs Go.Shelf Go.RowKit Go.Lib Go.Sort
theorem Zky {α : Type} (enc : α → List Value) (k : Nat) (hk0 : 0 < k) (hk : ∀ x,(enc x).length = k) : ∀ (l : List α) (t : Nat),(l.flatMap enc)[t]? = (l[t / k]?).bind fun x=>(enc x)[t % k]?
 | [],t=>by simp
 | x :: l,t=>by
  rw [List.flatMap_cons,List.getElem?_append]
  by_cases ht : t < k
  ·rw [if_pos (by rw [hk]; exact ht),Nat.div_eq_of_lt ht,Nat.mod_eq_of_lt ht]; rfl
  ·rw [if_neg (by rw [hk]; exact ht),hk,Zky enc k hk0 hk l (t - k),Nat.div_eq_sub_div (a:=t) hk0 (by omega),Nat.mod_eq_sub_mod (a:=t) (by omega),List.getElem?_cons_succ]
theorem Zkz {α : Type} [Inhabited α] (enc : α → List Value) (k : Nat) (hk0 : 0 < k) (hk : ∀ x,(enc x).length = k) (d : Array α) (t : Nat) (ht : t < d.size * k) : (d.toList.flatMap enc)[t]? = some ((flatK enc k d)[t]!):=by
 rw [Zky enc k hk0 hk,get_flatK enc k d t ht]
 have hd : t / k < d.size:=(Nat.div_lt_iff_lt_mul hk0).2 ht
 have e : d.toList[t / k]? = some d[t / k]! :=by
  rw [getElem!_pos d (t / k) hd,Array.getElem?_toList,Array.getElem?_eq_getElem hd]
 rw [e]
 simp only [Option.bind_some]
 have hl : t % k < (enc d[t / k]!).length:=by rw [hk]; exact Nat.mod_lt _ hk0
 rw [List.getElem?_eq_getElem hl,getElem!_pos (enc d[t / k]!) (t % k) hl]
abbrev Elt {α : Type} (E : Enc α) (G : GH) (V : α → Prop):={ p : α × List Value // E.rep G p.1 p.2 ∧ V p.1 }
section
variable {α : Type} {E : Enc α} {G : GH} {V : α → Prop}
theorem Zk0 : ∀ (l : List α) (xs : List Value),XA E G l xs → (∀ x ∈ l,V x) → ∃ dl : List (Elt E G V),dl.map (·.1.1) = l ∧ dl.flatMap (·.1.2) = xs
 | [],xs,h,_=>⟨[],rfl,by simpa using h.symm⟩
 | x :: l,xs,⟨c,r,h1,h2,h3⟩,hV=>by
  obtain ⟨dl,k1,k2⟩:=Zk0 l r h3 fun y hy=>hV y (by simp [hy])
  exact ⟨⟨(x,c),h2,hV x (by simp)⟩ :: dl,by simp [k1],by simp [k2,h1]⟩
theorem Zg3 : ∀ (dl : List (Elt E G V)),XA E G (dl.map (·.1.1)) (dl.flatMap (·.1.2))
 | []=>rfl
 | x :: l=>⟨x.1.2,_,rfl,x.2.1,Zg3 l⟩
theorem Kept.grow {w w' : World} (h : Kept [] w w') : ∃ q os',w' = grow (w.drewN q) os':=by
 refine ⟨w'.drawn - w.drawn,w'.heap.extract w.heap.size w'.heap.size,?_⟩
 obtain ⟨h1,h2,h3,h4,h5,h6⟩:=h
 obtain ⟨heap,tape,drawn,os,output⟩:=w
 obtain ⟨heap',tape',drawn',os',output'⟩:=w'
 simp only at h1 h2 h3 h4 h5 h6
 subst h1 h2 h3
 simp only [Go.Sort.grow,World.drewN]
 have e1 : drawn + (drawn' - drawn) = drawn':=by omega
 have e2 : heap ++ heap'.extract heap.size heap'.size = heap':=by
  apply Array.ext_getElem?
  intro i
  rw [Array.getElem?_append]
  split
  ·rename_i hi; exact (h6 i hi (by simp)).symm
  ·rename_i hi
   rw [Array.getElem?_extract]
   split
   ·congr 1; omega
   ·rw [Array.getElem?_eq_none]; omega
 rw [e1,e2]
end
theorem Zg4 {β : Type} [Inhabited β] (enc : β → List Value) (k : Nat) (w : World) (b n : Nat) (d : Array β) (os : Array Obj) {cs : List Value} {tid : TypeId} (hb : w.heap[b]? = some (.cells cs.toArray tid (0,0))) (i : Nat) :
  (sortWorldK enc k w b 0 n d os).heap[i]? = if i < w.heap.size then (if b = i then some (.cells (putCells id 0 (flatK enc k d) cs.toArray) tid (0,0)) else w.heap[i]?) else os[i - w.heap.size]? :=by
 have hah : (Go.Sort.ahead w n).heap = w.heap:=rfl
 simp only [sortWorldK,putRowK,putRow,mapBlock,Go.Sort.grow,hah]
 rw [Array.getElem?_append]
 simp only [Array.size_modify]
 by_cases hk : i < w.heap.size
 ·rw [if_pos hk,if_pos hk,Array.getElem?_modify]
  by_cases hkb : b = i
  ·subst hkb
   rw [if_pos rfl,if_pos rfl,hb]
   simp [onCells]
  ·rw [if_neg hkb,if_neg hkb]
 ·rw [if_neg hk,if_neg hk]
theorem ZmG {β : Type} [Inhabited β] (enc : β → List Value) (k : Nat) {w : World} {G : GH} (hG : G.In w) (b n : Nat) (d : Array β) (os : Array Obj) {cs : List Value} {tid : TypeId} (hb : w.heap[b]? = some (.cells cs.toArray tid (0,0))) (hg : G b = none) :
  Res [b] w G (sortWorldK enc k w b 0 n d os) G:=by
 refine ⟨⟨rfl,rfl,rfl,Nat.le_add_right _ _,?_,fun i hi hkb=>?_⟩,G.le_refl,fun _ _=>rfl,fun i o hk=>?_⟩
 ·have hah : (Go.Sort.ahead w n).heap = w.heap:=rfl
  simp [sortWorldK,putRowK,putRow,mapBlock,Go.Sort.grow]
  try simp [hah]
 ·rw [Zg4 enc k w b n d os hb,if_pos hi,if_neg (by simpa [eq_comm] using hkb)]
 ·have hk1:=hG.lt hk
  have hkb : b ≠ i:=fun e=>by subst e; rw [hg] at hk; cases hk
  rw [Zg4 enc k w b n d os hb,if_pos hk1,if_neg hkb]; exact hG i o hk
set_option maxHeartbeats 2000000 in
theorem ZnU {P : Program} {ρr : Ren} (Ls : SlLaysF0.n6 P ρr) {α : Type} {E : Enc α} {by_ : Nat} {tid : TypeId} (hk0 : 0 < E.n) (aE : ∀ w,(isAgg (ρr.t 24)).run P w = .ok true w) (zE : ∀ w,(Go.sizeOf (ρr.t 24)).run P w = .ok E.n w)
  (cf : α → α → Int) (V : α → Prop) (hirr : ∀ x,V x → ¬ cf x x < 0) (htr : ∀ x y z,V x → V y → V z → cf x y < 0 → cf y z < 0 → cf x z < 0) (hnt : ∀ x y z,V x → V y → V z → ¬ cf x y < 0 → ¬ cf y z < 0 → ¬ cf x z < 0)
  (gf : Nat) (eg : ∀ args w,(callFunc gf args).run P w = .ok (.enter gf args) w) {G : GH} {w : World} (hG : G.In w)
  (hcl : ∀ W,G.In W → ∀ x y cx cy,V x → V y → E.rep G x cx → E.rep G y cy → Calls P gf #[.agg cx.toArray, .agg cy.toArray] W fun e w'=>∃ r G',e = .returned r ∧ Res [] W G w' G' ∧ r = .int .i64 (cf x y))
  (x0 : α) (c0 : List Value) (h0 : E.rep G x0 c0) (hV0 : V x0) (l : List α) (hV : ∀ x ∈ l,V x) (vd : Value) (od : OB) (hvd : ZS E by_ tid G vd l od) (hod : XP w G od) :
  Calls P (ρr.f 6) #[vd, .func (.func gf) #[] #[]] w fun e w'=>∃ r G',e = .returned r ∧ Res (QU od) w G w' G' ∧ r = .tuple #[] ∧ ∃ (l' : List α) (o' : OB),ZS E by_ tid G' vd l' o' ∧ XP w' G' o' ∧ (l'.Perm l ∧ l'.Pairwise fun x y=>¬ cf y x < 0):=by
 rcases hvd with ⟨rfl,rfl,rfl⟩ | ⟨b,cs,cap,xs,rfl,rfl,h3,h4,h5,h6,h7,h8,h9⟩
 ·exact (AnyF.slices_SortFunc_none (P:=P) (ρ:=ρr) { Ls with } none 0 (.func (.func gf) #[] #[]) w).mono fun e w' ⟨he,hw⟩=>by
   subst hw
   exact ⟨_,G,he,Res.refl hG,rfl,[],none, .inl ⟨rfl,rfl,rfl⟩,fun p hp=>(by cases hp),List.Perm.refl _,List.Pairwise.nil⟩
 ·obtain ⟨hb1,hb2⟩:=hod _ rfl
  simp only [Zbb] at hb1
  obtain ⟨dl,rfl,rfl⟩:=Zk0 l xs h6 hV
  letI : Inhabited (Elt E G V):=⟨⟨(x0,c0),h0,hV0⟩⟩
  have hkE : ∀ x : Elt E G V,(x.1.2).length = E.n:=fun x=>E.len x.2.1
  have hsz : dl.toArray.size = (dl.map (·.1.1)).length:=by simp
  have hcell : ∀ t,t < dl.toArray.size * E.n → cs[t]? = some ((flatK (fun x : Elt E G V=>x.1.2) E.n dl.toArray)[t]!):=fun t ht=>by
   rw [← Zkz (fun x : Elt E G V=>x.1.2) E.n hk0 hkE dl.toArray t ht]
   have e7:=congrArg (·[t]?) h7
   rw [List.getElem?_take,if_pos (by rw [← hsz]; exact ht)] at e7
   exact e7
  have hH : HoldsK (fun x : Elt E G V=>x.1.2) E.n w b 0 dl.toArray:=fun t ht=>by
   rw [size_flatK] at ht
   refine ⟨?_,?_⟩
   ·rw [Nat.zero_add]
    simp only [World.cell?,hb1]
    have:=hcell t ht
    simpa using this
   ·simp [World.frozen?,hb1]
  have hO : SWO (ltOf fun x y : Elt E G V=>cf x.1.1 y.1.1):=
   ⟨fun x=>decide_eq_false (hirr _ x.2.2),fun x y z p q=>decide_eq_true (htr _ _ _ x.2.2 y.2.2 z.2.2 (of_decide_eq_true p) (of_decide_eq_true q)),fun x y z p q=>decide_eq_false (hnt _ _ _ x.2.2 y.2.2 z.2.2 (of_decide_eq_false p) (of_decide_eq_false q))⟩
  have hcon:=AnyQ.slices_SortFunc Ls E.n aE zE (fun x : Elt E G V=>x.1.2) hkE (fun x v hv=>E.one x.2.1 v hv) (fun x y=>cf x.1.1 y.1.1) hO gf #[] b 0 cap dl.toArray w eg
   (fun m os dk _ x y=>(hcl _ (ZmG _ _ hG b m dk os hb1 hb2).imm x.1.1 y.1.1 x.1.2 y.1.2 x.2.2 y.2.2 x.2.1 y.2.1).mono fun e w' ⟨r,G',he,hres,hr⟩=>⟨by rw [he,hr],hres.kept.grow⟩)
   hH (Array.getElem?_eq_some_iff.1 hb1).1 (by rw [hsz]; unfold reach at h9; omega)
  rw [hsz] at hcon
  refine hcon.mono fun e w' ⟨he,d',n,os,hp,hs,hw⟩=>?_
  obtain ⟨hp1,hp2,hp3⟩:=hp
  have hd' : d'.size = dl.length:=by simpa using hp1
  have hperm : d'.toList.Perm dl:=by
   have e1 : d'.extract 0 dl.toArray.size = d':=by rw [← hp1]; simp
   have e2 : dl.toArray.extract 0 dl.toArray.size = dl.toArray:=by simp
   rw [hsz.symm,e1,e2] at hp3; simpa using hp3
  have hbl : b < w.heap.size:=(Array.getElem?_eq_some_iff.1 hb1).1
  subst hw
  obtain ⟨cs',hcs'⟩ : ∃ cs' : List Value,cs' = (putCells id 0 (flatK (fun x : Elt E G V=>x.1.2) E.n d') cs.toArray).toList:=⟨_,rfl⟩
  have hres:=ZmG (fun x : Elt E G V=>x.1.2) E.n hG b n d' os hb1 hb2
  have hlen : (d'.toList.map (·.1.1)).length = (dl.map (·.1.1)).length:=by simp [hd']
  have hln : (dl.map (·.1.1)).length = dl.length:=by simp
  have h5' : cs.length = cap * E.n:=h5
  have hfl : (d'.toList.flatMap (·.1.2)).length = d'.size * E.n:=by
   have:=XA.len (Zg3 d'.toList); simpa using this
  have hcapd : d'.size * E.n ≤ cs.length:=by
   rw [h5']; exact Nat.mul_le_mul_right _ (by omega)
  refine ⟨_,G,he,hres,rfl,d'.toList.map (·.1.1),some (b,tid,cs'), .inr ⟨b,cs',cap,d'.toList.flatMap (·.1.2),rfl,by rw [hlen],by rw [hlen]; exact h3,h4,?_,Zg3 _,?_,by rw [hlen]; exact h8,by rw [hlen]; exact h9⟩,fun p hp=>?_,?_,?_⟩
  ·subst hcs'; simpa [putCells] using h5
  ·apply List.ext_getElem?
   intro t
   rw [List.getElem?_take]
   have hn2 : (d'.toList.map (·.1.1)).length * E.n = d'.size * E.n:=by simp
   rw [hn2]
   by_cases ht : t < d'.size * E.n
   ·have htc : t < cs.length:=by omega
    rw [if_pos ht,Zkz (fun x : Elt E G V=>x.1.2) E.n hk0 hkE d' t ht,hcs']
    simp only [putCells,Array.getElem?_toList,Array.getElem?_mapIdx,size_flatK]
    simp only [List.getElem?_toArray]
    rw [List.getElem?_eq_getElem htc]
    simp [ht]
   ·rw [if_neg ht,List.getElem?_eq_none]; omega
  ·obtain rfl:=Option.some.inj hp
   refine ⟨?_,hb2⟩
   rw [Zg4 _ _ w b n d' os hb1,if_pos hbl,if_pos rfl,hcs']; rfl
  ·exact hperm.map _
  ·rw [List.pairwise_map,List.pairwise_iff_getElem]
   intro i j hi hj hij
   have h:=hs i j (by omega) hij (by rw [← hsz,← hp1]; simpa using hj)
   have hi' : i < d'.size:=by simpa using hi
   have hj' : j < d'.size:=by simpa using hj
   rw [getElem!_pos d' i hi',getElem!_pos d' j hj'] at h
   have:=of_decide_eq_false h
   simpa only [Array.getElem_toList] using this
end Go.Civ
