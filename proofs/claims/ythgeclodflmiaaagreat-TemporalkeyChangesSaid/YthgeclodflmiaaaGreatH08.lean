/- Lemmas. -/
import Derived.Test.YthgeclodflmiaaaGreatH07
namespace Go.Civ
set_option linter.unusedVariables false

def cover (r : List Span) (x : Int) : Prop := ∃ s ∈ r, s.a ≤ x ∧ x < s.b
structure Can (r : List Span) : Prop where
 apart : r.Pairwise fun p q => p.b < q.a
 pos : ∀ s ∈ r, s.a < s.b
theorem Can.tail {s : Span} {r : List Span} (h : Can (s :: r)) : Can r := ⟨(List.pairwise_cons.1 h.apart).2, fun t ht => h.pos t (by simp [ht])⟩
theorem Xh {s : Span} {r : List Span} {x : Int} : cover (s :: r) x ↔ (s.a ≤ x ∧ x < s.b) ∨ cover r x := by simp [cover]
theorem Can.above {s : Span} {r : List Span} (h : Can (s :: r)) {x : Int} (hx : cover r x) : s.b < x := by
 obtain ⟨t, ht, h1, h2⟩ := hx
 have := (List.pairwise_cons.1 h.apart).1 t ht
 omega
theorem Can.unique : ∀ {r r' : List Span}, Can r → Can r' → (∀ x, cover r x ↔ cover r' x) → r = r'
 | [], [], _, _, _ => rfl
 | [], s :: r', _, h', h => by
  have := (h s.a).2 (Xh.2 (.inl ⟨by omega, h'.pos s (by simp)⟩))
  obtain ⟨_, ht, _⟩ := this; simp at ht
 | s :: r, [], h', _, h => by
  have := (h s.a).1 (Xh.2 (.inl ⟨by omega, h'.pos s (by simp)⟩))
  obtain ⟨_, ht, _⟩ := this; simp at ht
 | s :: r, s' :: r', h1, h2, h => by
  have p1 := h1.pos s (by simp)
  have p2 := h2.pos s' (by simp)
  have a1 : s'.a ≤ s.a := by
   rcases Xh.1 ((h s.a).1 (Xh.2 (.inl ⟨by omega, p1⟩))) with k | k
   ·exact k.1
   ·have := h2.above k; omega
  have a2 : s.a ≤ s'.a := by
   rcases Xh.1 ((h s'.a).2 (Xh.2 (.inl ⟨by omega, p2⟩))) with k | k
   ·exact k.1
   ·have := h1.above k; omega
  have b1 : s'.b ≤ s.b := by
   rcases Int.lt_or_le s.b s'.b with k | k
   ·rcases Xh.1 ((h s.b).2 (Xh.2 (.inl ⟨by omega, k⟩))) with k | k
    ·omega
    ·have := h1.above k; omega
   ·exact k
  have b2 : s.b ≤ s'.b := by
   rcases Int.lt_or_le s'.b s.b with k | k
   ·rcases Xh.1 ((h s'.b).1 (Xh.2 (.inl ⟨by omega, k⟩))) with k | k
    ·omega
    ·have := h2.above k; omega
   ·exact k
  have e : s = s' := by
   cases s; cases s'; simp only [Span.mk.injEq]; exact ⟨by simp only at a1 a2; omega, by simp only at b1 b2; omega⟩
  subst e
  rw [Can.unique h1.tail h2.tail fun x => ?_]
  constructor
  ·intro k
   have := h1.above k
   rcases Xh.1 ((h x).1 (Xh.2 (.inr k))) with q | q
   ·omega
   ·exact q
  ·intro k
   have := h2.above k
   rcases Xh.1 ((h x).2 (Xh.2 (.inr k))) with q | q
   ·omega
   ·exact q

def Zaf (out : List Span) (x : Span) : List Span :=
 match out[out.length - 1]? with
 | none => out ++ [x]
 | some p => if x.a ≤ p.b then out.set (out.length - 1) ⟨p.a, max p.b x.b⟩ else out ++ [x]
def Ym (l : List Span) : List Span := l.foldl Zaf []
def Zhr (l : List Span) : List Span := l.mergeSort fun x y => decide (x.a ≤ y.a)
def ZaM (l : List Span) : List Span := Ym (Zhr l)

theorem Zol (x : Span) : Zaf [] x = [x] := rfl
theorem ZmE (out : List Span) (p x : Span) : Zaf (out ++ [p]) x = if x.a ≤ p.b then out ++ [⟨p.a, max p.b x.b⟩] else out ++ [p] ++ [x] := by
 unfold Zaf
 have e : (out ++ [p]).length - 1 = out.length := by simp
 rw [e, List.getElem?_append_right (Nat.le_refl _)]
 simp only [Nat.sub_self, List.getElem?_cons_zero]
 split
 ·rw [List.set_append_right _ _ (Nat.le_refl _)]; simp
 ·rfl
theorem Zgs (l : List Span) (x : Span) : Ym (l ++ [x]) = Zaf (Ym l) x := by simp [Ym, List.foldl_append]
theorem ZdK {l : List Span} {k : Nat} {x : Span} (h : l[k]? = some x) : Ym (l.take (k + 1)) = Zaf (Ym (l.take k)) x := by
 rw [List.take_add_one, h]; exact Zgs _ _
theorem ZmF {out : List Span} {x : Span} (h : out.length = 0) : Zaf out x = out ++ [x] := by
 obtain rfl := List.length_eq_zero_iff.1 h; rfl
theorem ZmG {out : List Span} {x p : Span} (h : out[out.length - 1]? = some p) (hx : x.a ≤ p.b) : Zaf out x = out.set (out.length - 1) ⟨p.a, max p.b x.b⟩ := by
 unfold Zaf; rw [h]; simp [hx]
theorem ZlB {out : List Span} {x p : Span} (h : out[out.length - 1]? = some p) (hx : p.b < x.a) : Zaf out x = out ++ [x] := by
 unfold Zaf; rw [h]; simp only; rw [if_neg (by omega)]
theorem X9 {r t : List Span} {x : Int} : cover (r ++ t) x ↔ cover r x ∨ cover t x := by
 simp only [cover, List.mem_append]
 constructor
 ·rintro ⟨s, h | h, k⟩
  ·exact .inl ⟨s, h, k⟩
  ·exact .inr ⟨s, h, k⟩
 ·rintro (⟨s, h, k⟩ | ⟨s, h, k⟩)
  ·exact ⟨s, .inl h, k⟩
  ·exact ⟨s, .inr h, k⟩
theorem QC {s : Span} {x : Int} : cover [s] x ↔ s.a ≤ x ∧ x < s.b := by simp [cover]
theorem ZmH {r t : List Span} (h : r.Perm t) {x : Int} : cover r x ↔ cover t x := by simp only [cover, h.mem_iff]

structure MInv (p out : List Span) : Prop where
 can : Can out
 cov : ∀ x, cover out x ↔ cover p x
 from_ : ∀ s ∈ out, ∃ q ∈ p, s.a = q.a
 len : out.length ≤ p.length
theorem Zhs : ∀ (n : Nat) (l : List Span), l.length = n → l.Pairwise (fun x y => x.a ≤ y.a) → (∀ s ∈ l, s.a < s.b) → MInv l (Ym l)
 | 0, l, hn, _, _ => by
  obtain rfl := List.length_eq_zero_iff.1 hn
  exact ⟨⟨List.Pairwise.nil, by simp [Ym]⟩, fun _ => Iff.rfl, by simp [Ym], Nat.le_refl _⟩
 | n + 1, l, hn, hs, hp => by
  obtain ⟨p, x, rfl⟩ : ∃ p x, l = p ++ [x] := by
   rcases List.eq_nil_or_concat l with rfl | ⟨p, x, h⟩
   ·simp at hn
   ·exact ⟨p, x, by simpa using h⟩
  have hs' := List.pairwise_append.1 hs
  have ih := Zhs n p (by simpa using hn) hs'.1 fun s h => hp s (by simp [h])
  have hx : x.a < x.b := hp x (by simp)
  rw [Zgs]
  rcases List.eq_nil_or_concat (Ym p) with h0 | ⟨o, q, h0⟩
  ·rw [h0, Zol]
   rw [h0] at ih
   refine ⟨⟨by simp, by simpa using hx⟩, fun y => ?_, by simp, by simp⟩
   rw [X9, ← ih.cov y]
   simp [cover]
  ·have h0 : Ym p = o ++ [q] := by simpa using h0
   rw [h0] at ih ⊢
   have hap := List.pairwise_append.1 ih.can.apart
   have hq : q.a < q.b := ih.can.pos q (by simp)
   have hqx : q.a ≤ x.a := by
    obtain ⟨z, hz, e⟩ := ih.from_ q (by simp)
    rw [e]; exact hs'.2.2 z hz x (by simp)
   rw [ZmE]
   split
   ·rename_i hj
    have hm : max q.b x.b = if q.b ≤ x.b then x.b else q.b := by rw [Int.max_def]
    refine ⟨⟨List.pairwise_append.2 ⟨hap.1, by simp, fun u hu v hv => ?_⟩, fun s hs => ?_⟩, fun y => ?_, fun s hs => ?_, ?_⟩
    ·obtain rfl := List.mem_singleton.1 hv
     exact hap.2.2 u hu q (by simp)
    ·rcases List.mem_append.1 hs with hs | hs
     ·exact ih.can.pos s (by simp [hs])
     ·obtain rfl := List.mem_singleton.1 hs
      simp only; rw [hm]; split <;> omega
    ·rw [X9, X9, ← ih.cov y, X9, or_assoc]
     refine or_congr Iff.rfl ?_
     rw [QC, QC, QC]
     simp only; rw [hm]
     split <;> constructor <;> intro h <;> omega
    ·rcases List.mem_append.1 hs with hs | hs
     ·obtain ⟨z, hz, e⟩ := ih.from_ s (by simp [hs])
      exact ⟨z, by simp [hz], e⟩
     ·obtain rfl := List.mem_singleton.1 hs
      obtain ⟨z, hz, e⟩ := ih.from_ q (by simp)
      exact ⟨z, by simp [hz], e⟩
    ·have := ih.len; simp at this ⊢; omega
   ·rename_i hj
    refine ⟨⟨List.pairwise_append.2 ⟨ih.can.apart, by simp, fun u hu v hv => ?_⟩, fun s hs => ?_⟩, fun y => ?_, fun s hs => ?_, ?_⟩
    ·obtain rfl := List.mem_singleton.1 hv
     rcases List.mem_append.1 hu with hu | hu
     ·have := hap.2.2 u hu q (by simp); omega
     ·obtain rfl := List.mem_singleton.1 hu; omega
    ·rcases List.mem_append.1 hs with hs | hs
     ·exact ih.can.pos s hs
     ·obtain rfl := List.mem_singleton.1 hs; exact hx
    ·rw [X9 (r := o ++ [q]), X9 (r := p), ← ih.cov y]
    ·rcases List.mem_append.1 hs with hs | hs
     ·obtain ⟨z, hz, e⟩ := ih.from_ s hs
      exact ⟨z, by simp [hz], e⟩
     ·obtain rfl := List.mem_singleton.1 hs
      exact ⟨_, by simp, rfl⟩
    ·have := ih.len; simp at this ⊢; omega
theorem Zc0 {l s : List Span} (hp : s.Perm l) (hs : s.Pairwise fun x y => x.a ≤ y.a) (hv : ∀ x ∈ l, x.a < x.b) : MInv l (Ym s) := by
 have h := Zhs s.length s rfl hs fun x hx => hv x (hp.mem_iff.1 hx)
 exact ⟨h.can, fun x => (h.cov x).trans (ZmH hp), fun x hx => (h.from_ x hx).imp fun q k => ⟨hp.mem_iff.1 k.1, k.2⟩, by rw [← hp.length_eq]; exact h.len⟩
theorem Zht (l : List Span) : (Zhr l).Perm l := List.mergeSort_perm _ _
theorem Zom (l : List Span) : (Zhr l).Pairwise fun x y => x.a ≤ y.a := by
 have := List.pairwise_mergeSort (le := fun (x y : Span) => decide (x.a ≤ y.a)) (fun a b c h1 h2 => by simp at *; omega) (fun a b => by simp; omega) l
 exact this.imp fun h => by simpa using h
theorem QD {l : List Span} (hv : ∀ x ∈ l, x.a < x.b) : MInv l (ZaM l) := Zc0 (Zht l) (Zom l) hv
theorem Zks {l s : List Span} (hp : s.Perm l) (hs : s.Pairwise fun x y => x.a ≤ y.a) (hv : ∀ x ∈ l, x.a < x.b) : Ym s = ZaM l :=
 Can.unique (Zc0 hp hs hv).can (QD hv).can fun x => ((Zc0 hp hs hv).cov x).trans ((QD hv).cov x).symm
def Zqa (l : List Span) : Prop := l.Pairwise fun x y => x.a ≤ y.a
theorem Zon (out : List Span) (x : Span) : (Zaf out x).length ≤ out.length + 1 := by
 unfold Zaf; split
 ·simp
 ·split <;> simp
theorem Zhu (l : List Span) : (Ym l).length ≤ l.length := by
 rcases Nat.lt_or_ge 0 l.length with h | h
 ·have : ∀ (l out : List Span), (l.foldl Zaf out).length ≤ out.length + l.length := by
   intro l
   induction l with
   | nil => simp
   | cons x l ih => intro out; have := ih (Zaf out x); have := Zon out x; simp; omega
  have := this l []; simpa [Ym] using this
 ·obtain rfl := List.length_eq_zero_iff.1 (by omega : l.length = 0); simp [Ym]
theorem Xb {s : Span} (h : ZI s = true) : s.a < s.b := by unfold ZI at h; simp at h; omega
theorem ZmI {s : Span} (h : ZI s = true) : -4398046511104 ≤ s.a ∧ s.a ≤ 4398046511104 := by unfold ZI at h; simp at h; omega
theorem Zhv {l l1 : List Span} {k : Nat} (h : l1.Perm l ∧ Zqa l1) (hB : ∀ s ∈ l, ZI s = true) (hk : l1.length ≤ k) : Ym (l1.take k) = ZaM l := by
 rw [List.take_of_length_le hk]
 exact Zks h.1 h.2 fun x hx => Xb (hB x hx)
theorem ZiC {l : List Span} : (ZaM l).length ≤ l.length := by
 have := Zhu (Zhr l); rw [(Zht l).length_eq] at this; exact this
end Go.Civ

namespace Go.Civ
set_option linter.unusedVariables false

structure TOrd {α : Type} (c : α → α → Int) : Prop where
 eq : ∀ x y, c x y = 0 ↔ x = y
 swap : ∀ x y, c x y < 0 ↔ 0 < c y x
 trans : ∀ x y z, c x y < 0 → c y z < 0 → c x z < 0
theorem TOrd.refl {α : Type} {c : α → α → Int} (h : TOrd c) (x : α) : c x x = 0 := (h.eq x x).2 rfl
theorem TOrd.asym {α : Type} {c : α → α → Int} (h : TOrd c) {x y : α} (k : c x y < 0) : ¬ c y x < 0 := by have := (h.swap x y).1 k; omega
theorem TOrd.le_trans {α : Type} {c : α → α → Int} (h : TOrd c) {x y z : α} (h1 : ¬ c y x < 0) (h2 : ¬ c z y < 0) : ¬ c z x < 0 := fun k => by
 
 by_cases e : c x y = 0
 ·obtain rfl := (h.eq x y).1 e; exact h2 k
 ·have hxy : c x y < 0 := by
   rcases Int.lt_or_le (c x y) 0 with q | q
   ·exact q
   ·exact absurd ((h.swap y x).2 (by omega)) h1
  exact h2 (h.trans z x y k hxy)
theorem ZaN : TOrd Yu where
 eq x y := by unfold Yu; split <;> (try split) <;> omega
 swap x y := by
  unfold Yu; repeat' split
  all_goals omega
 trans x y z := by
  unfold Yu; repeat' split
  all_goals omega
theorem Zbw : ∀ a : List UInt8, Op.bytesLess a a = false
 | [] => rfl
 | x :: a => by simp [Op.bytesLess, Zbw a]
theorem Zkt : ∀ a b : List UInt8, Op.bytesLess a b = false → a = b ∨ Op.bytesLess b a = true
 | [], [], _ => .inl rfl
 | [], _ :: _, h => by simp [Op.bytesLess] at h
 | _ :: _, [], _ => .inr rfl
 | x :: a, y :: b, h => by
  simp only [Op.bytesLess, Bool.or_eq_false_iff, Bool.and_eq_false_iff, decide_eq_false_iff_not] at h
  by_cases e : x = y
  ·subst e
   rcases Zkt a b (by simpa using h.2) with rfl | k
   ·exact .inl rfl
   ·exact .inr (by simp [Op.bytesLess, k])
  ·refine .inr ?_
   have : y < x := by
    have h1 := h.1
    rw [UInt8.lt_iff_toNat_lt] at h1 ⊢
    have : x.toNat ≠ y.toNat := fun q => e (UInt8.toNat_inj.1 q)
    omega
   simp [Op.bytesLess, this]
theorem Zg7 : ∀ a b c : List UInt8, Op.bytesLess a b = true → Op.bytesLess b c = true → Op.bytesLess a c = true
 | _, [], _, h, _ => by cases ‹List UInt8› <;> simp [Op.bytesLess] at h
 | _, _ :: _, [], _, h => by simp [Op.bytesLess] at h
 | [], _ :: _, _ :: _, _, _ => rfl
 | x :: a, y :: b, z :: c, h1, h2 => by
  simp only [Op.bytesLess, Bool.or_eq_true, Bool.and_eq_true, decide_eq_true_eq, beq_iff_eq] at h1 h2 ⊢
  rcases h1 with h1 | ⟨rfl, h1⟩ <;> rcases h2 with h2 | ⟨rfl, h2⟩
  ·left; rw [UInt8.lt_iff_toNat_lt] at *; omega
  ·exact .inl h1
  ·exact .inl h2
  ·exact .inr ⟨rfl, Zg7 a b c h1 h2⟩
theorem ZsH {a b : List UInt8} (h : Op.bytesLess a b = true) : Op.bytesLess b a = false := by
 cases k : Op.bytesLess b a with
 | false => rfl
 | true => have := Zg7 a b a h k; rw [Zbw] at this; cases this
theorem ZlV {a b : List UInt8} : cmpS a b < 0 ↔ Op.bytesLess a b = true := by
 unfold cmpS; split
 ·simp [*]
 ·split
  ·rename_i h; subst h; simp [Zbw]
  ·simp [*]
theorem Zqb : TOrd cmpS where
 eq x y := by
  unfold cmpS; split
  ·rename_i h; simp; rintro rfl; rw [Zbw] at h; cases h
  ·split <;> simp [*]
 swap x y := by
  rw [ZlV]
  constructor
  ·intro h
   unfold cmpS
   rw [ZsH h, if_neg (by simp), if_neg]
   ·decide
   ·rintro rfl; rw [Zbw] at h; cases h
  ·unfold cmpS
   intro h
   cases k : Op.bytesLess x y with
   | true => rfl
   | false =>
    rcases Zkt x y k with rfl | q
    ·rw [Zbw] at h; simp at h
    ·rw [q] at h; simp at h
 trans x y z h1 h2 := by rw [ZlV] at *; exact Zg7 x y z h1 h2
theorem TOrd.lex {α β γ : Type} {f : γ → α} {g : γ → β} {c : α → α → Int} {d : β → β → Int} (hc : TOrd c) (hd : TOrd d) (inj : ∀ x y, f x = f y → g x = g y → x = y) :
  TOrd fun x y => if c (f x) (f y) ≠ 0 then c (f x) (f y) else d (g x) (g y) where
 eq x y := by
  by_cases h : c (f x) (f y) = 0
  ·simp only [h]; simp only [ne_eq, not_true, if_false]
   rw [hd.eq]
   exact ⟨fun k => inj x y ((hc.eq _ _).1 h) k, fun k => by rw [k]⟩
  ·simp only [ne_eq, h, not_false_iff, if_true, false_iff]
   rintro rfl; exact h (hc.refl _)
 swap x y := by
  by_cases h : c (f x) (f y) = 0
  ·have h' : c (f y) (f x) = 0 := (hc.eq _ _).2 ((hc.eq _ _).1 h).symm
   simp only [h, h']; simp only [ne_eq, not_true, if_false]; exact hd.swap _ _
  ·have h' : c (f y) (f x) ≠ 0 := fun k => h ((hc.eq _ _).2 ((hc.eq _ _).1 k).symm)
   simp only [ne_eq, h, h', not_false_iff, if_true]; exact hc.swap _ _
 trans x y z := by
  by_cases h1 : c (f x) (f y) = 0
  ·have e1 := (hc.eq _ _).1 h1
   simp only [h1]; simp only [ne_eq, not_true, if_false, e1]
   by_cases h2 : c (f y) (f z) = 0
   ·simp only [h2]; simp only [not_true, if_false]; exact hd.trans _ _ _
   ·simp only [h2, not_false_iff, if_true]; exact fun _ k => k
  ·by_cases h2 : c (f y) (f z) = 0
   ·have e2 := (hc.eq _ _).1 h2
    simp only [ne_eq, h1, h2, not_false_iff, if_true]; simp only [not_true, if_false, ← e2, h1, not_false_iff, if_true]
    exact fun k _ => k
   ·simp only [ne_eq, h1, h2, not_false_iff, if_true]
    intro k1 k2
    have k3 := hc.trans _ _ _ k1 k2
    rw [if_pos (by omega)]; exact k3
def cmpNS (x y : Int × List UInt8) : Int := if Yu x.1 y.1 ≠ 0 then Yu x.1 y.1 else cmpS x.2 y.2
theorem Zoo : TOrd cmpNS := TOrd.lex (f := Prod.fst) (g := Prod.snd) ZaN Zqb fun x y h1 h2 => Prod.ext h1 h2
theorem Zku : TOrd cmpV :=
 TOrd.lex (f := Val.k) (g := fun x : Val => (x.n, x.s)) ZaN Zoo fun x y h1 h2 => by
  cases x; cases y; simp at h1 h2; simp [h1, h2]
theorem Zkv {α : Type} {c : α → α → Int} (h : TOrd c) : TOrd (ZG c) where
 eq x y := by
  induction x generalizing y with
  | nil => cases y <;> simp [ZG]
  | cons a x ih =>
   cases y with
   | nil => simp [ZG]
   | cons b y =>
    simp only [ZG]
    by_cases e : c a b = 0
    ·obtain rfl := (h.eq a b).1 e
     simp only [e]; simp only [ne_eq, not_true, if_false, List.cons.injEq, true_and]; exact ih y
    ·simp only [ne_eq, e, not_false_iff, if_true, List.cons.injEq, false_iff]
     rintro ⟨rfl, _⟩; exact e (h.refl _)
 swap x y := by
  induction x generalizing y with
  | nil => cases y <;> simp [ZG]
  | cons a x ih =>
   cases y with
   | nil => simp [ZG]
   | cons b y =>
    simp only [ZG]
    by_cases e : c a b = 0
    ·obtain rfl := (h.eq a b).1 e
     simp only [e]; simp only [ne_eq, not_true, if_false]; exact ih y
    ·have e' : c b a ≠ 0 := fun k => e ((h.eq _ _).2 ((h.eq _ _).1 k).symm)
     simp only [ne_eq, e, e', not_false_iff, if_true]; exact h.swap a b
 trans x y z := by
  induction x generalizing y z with
  | nil => cases y <;> cases z <;> simp [ZG]
  | cons a x ih =>
   cases y with
   | nil => simp [ZG]
   | cons b y =>
    cases z with
    | nil => simp [ZG]
    | cons d z =>
     simp only [ZG]
     by_cases e1 : c a b = 0
     ·obtain rfl := (h.eq a b).1 e1
      simp only [e1]; simp only [ne_eq, not_true, if_false]
      by_cases e2 : c a d = 0
      ·simp only [e2]; simp only [not_true, if_false]; exact ih y z
      ·simp only [e2, not_false_iff, if_true]; exact fun _ k => k
     ·by_cases e2 : c b d = 0
      ·obtain rfl := (h.eq b d).1 e2
       simp only [ne_eq, e1, not_false_iff, if_true]; exact fun k _ => k
      ·simp only [ne_eq, e1, e2, not_false_iff, if_true]
       intro k1 k2
       have k3 := h.trans _ _ _ k1 k2
       rw [if_pos (by omega)]; exact k3
theorem ord : TOrd (ZG cmpV) := Zkv Zku
theorem Ql {a b : List Val} (ha : a.all Zz = true) (hb : b.all Zz = true) : X4 a b = ZG cmpV a b := by unfold X4; simp [ha, hb]

def Zj9 (out : List Group) (f : Fact) : List Group :=
 match out[out.length - 1]? with
 | none => out ++ [⟨f.v, [f.t]⟩]
 | some g => if X4 g.v f.v = 0 then out.set (out.length - 1) ⟨g.v, g.t ++ [f.t]⟩ else out ++ [⟨f.v, [f.t]⟩]
def Zua (l : List Fact) : List Group := l.foldl Zj9 []
def Zvx (l : List Fact) : List Fact := l.mergeSort fun x y => decide (ZG cmpV x.v y.v ≤ 0)
def ZsI (l : List Group) : List Group := l.map fun g => ⟨g.v, ZaM g.t⟩
def ZsJ (l : List Group) : List Fact := l.flatMap fun g => g.t.map fun s => ⟨g.v, s⟩
def grp (l : List Fact) : List Group := ZsI (Zua (Zvx l))
def nf (l : List Fact) : List Fact := ZsJ (grp l)
def Zub (l : List Fact) : Prop := ∀ f ∈ l, f.v.all Zz = true ∧ ZI f.t = true

theorem Zc1 {α : Type} {c : α → α → Int} (h : TOrd c) : ∀ {a b : List α}, a.Pairwise (fun x y => c x y < 0) → b.Pairwise (fun x y => c x y < 0) → (∀ x, x ∈ a ↔ x ∈ b) → a = b
 | [], [], _, _, _ => rfl
 | [], y :: b, _, _, k => by have := (k y).2 (by simp); simp at this
 | x :: a, [], _, _, k => by have := (k x).1 (by simp); simp at this
 | x :: a, y :: b, ha, hb, k => by
  have ha' := List.pairwise_cons.1 ha
  have hb' := List.pairwise_cons.1 hb
  have e : x = y := by
   rcases List.mem_cons.1 ((k x).1 (by simp)) with e | h1
   ·exact e
   ·rcases List.mem_cons.1 ((k y).2 (by simp)) with e | h2
    ·exact e.symm
    ·exact absurd (hb'.1 x h1) (h.asym (ha'.1 y h2))
  subst e
  rw [Zc1 h ha'.2 hb'.2 fun z => ?_]
  constructor
  ·intro hz
   rcases List.mem_cons.1 ((k z).1 (by simp [hz])) with e | h1
   ·subst e; have := ha'.1 z hz; rw [h.refl] at this; omega
   ·exact h1
  ·intro hz
   rcases List.mem_cons.1 ((k z).2 (by simp [hz])) with e | h1
   ·subst e; have := hb'.1 z hz; rw [h.refl] at this; omega
   ·exact h1
theorem Zub.perm {l l' : List Fact} (h : Zub l) (hp : l'.Perm l) : Zub l' := fun f hf => h f (hp.mem_iff.1 hf)
end Go.Civ

namespace Go.Civ
open Go.RowKit
set_option linter.unusedVariables false

def Zed : Enc (List Val × Value) where
 n := 2
 rep G x cs := ∃ v, cs = [v, x.2] ∧ Sl ValE 32 G v x.1 ∧ x.2.oneCell' = true
 len := by rintro G x cs ⟨v, rfl, _⟩; rfl
 mono := by rintro G G' x cs hle ⟨v, rfl, h, k⟩; exact ⟨v, rfl, h.mono hle, k⟩
 one := by
  rintro G x cs ⟨v, rfl, h, k⟩ c hc
  simp at hc
  rcases hc with rfl | rfl
  ·exact h.oneC
  ·exact k
theorem Zbf {G : GH} {x : List Val × Value} {cs : List Value} (h : Zed.rep G x cs) : ∃ v, cs = [v, x.2] ∧ Sl ValE 32 G v x.1 ∧ x.2.oneCell' = true := h
theorem Zfp {G : GH} (x : List Val × Value) {v : Value} (h1 : Sl ValE 32 G v x.1) (h2 : x.2.oneCell' = true) : Zed.rep G x [v, x.2] := ⟨v, rfl, h1, h2⟩

structure GRel (G : GH) (gs : List Group) (L : List (List Val × Value)) (u : Value) (T : List Span) : Prop where
 len : L.length = gs.length
 val : ∀ (i : Nat) g, gs[i]? = some g → ∃ p, L[i]? = some p ∧ p.1 = g.v ∧ (i + 1 < gs.length → Sl SpanE 16 G p.2 g.t)
 last : ∀ g, gs[gs.length - 1]? = some g → (∃ p, L[gs.length - 1]? = some p ∧ p.2 = u) ∧ T = g.t
section
variable {G G' : GH} {gs : List Group} {L : List (List Val × Value)} {u : Value} {T : List Span} {f : Fact} {x : List Val × Value}
theorem GRel.mono (h : GRel G gs L u T) (k : G.le G') : GRel G' gs L u T :=
 ⟨h.len, fun i g hg => let ⟨p, h1, h2, h3⟩ := h.val i g hg; ⟨p, h1, h2, fun q => (h3 q).mono k⟩, h.last⟩
theorem GRel.nil : GRel G [] [] u T := ⟨rfl, fun i g h => by simp at h, fun g h => by simp at h⟩
theorem GRel.at (h : GRel G gs L u T) (hx : L[L.length - 1]? = some x) : ∃ g, gs[gs.length - 1]? = some g ∧ x.1 = g.v ∧ x.2 = u ∧ T = g.t := by
 have hl : L.length - 1 < L.length := (List.getElem?_eq_some_iff.1 hx).1
 rw [h.len] at hx hl
 obtain ⟨g, hg⟩ : ∃ g, gs[gs.length - 1]? = some g := ⟨_, List.getElem?_eq_getElem hl⟩
 obtain ⟨p, h1, h2, _⟩ := h.val _ g hg
 obtain ⟨⟨p', h3, h4⟩, h5⟩ := h.last g hg
 rw [hx] at h1 h3
 obtain rfl := Option.some.inj h1
 obtain rfl := Option.some.inj h3
 exact ⟨g, hg, h2, h4, h5⟩
theorem Zop (h : gs.length = 0 ∨ ∃ g, gs[gs.length - 1]? = some g ∧ X4 g.v f.v ≠ 0) : Zj9 gs f = gs ++ [⟨f.v, [f.t]⟩] := by
 rcases h with h | ⟨g, hg, ho⟩
 ·obtain rfl := List.length_eq_zero_iff.1 h; rfl
 ·unfold Zj9; rw [hg]; simp [ho]
theorem GRel.done (h : GRel G gs L u T) (hf : Sl SpanE 16 G u T) : ∀ (i : Nat) g, gs[i]? = some g → ∃ p, L[i]? = some p ∧ p.1 = g.v ∧ Sl SpanE 16 G p.2 g.t := fun i g hg => by
 obtain ⟨p, h1, h2, h3⟩ := h.val i g hg
 refine ⟨p, h1, h2, ?_⟩
 have hi : i < gs.length := (List.getElem?_eq_some_iff.1 hg).1
 by_cases hq : i + 1 < gs.length
 ·exact h3 hq
 ·have e : i = gs.length - 1 := by omega
  subst e
  obtain ⟨⟨p', k1, k2⟩, k3⟩ := h.last g hg
  rw [h1] at k1; obtain rfl := Option.some.inj k1
  rw [k2, ← k3]; exact hf
theorem GRel.push {u' : Value} (h : GRel G gs L u T) (hf : Sl SpanE 16 G u T) (hc : L.length = 0 ∨ ∃ x, L[L.length - 1]? = some x ∧ X4 x.1 f.v ≠ 0) : GRel G (Zj9 gs f) (L ++ [(f.v, u')]) u' [f.t] := by
 have hc' : gs.length = 0 ∨ ∃ g, gs[gs.length - 1]? = some g ∧ X4 g.v f.v ≠ 0 := by
  rcases hc with hc | ⟨x, hx, ho⟩
  ·exact .inl (by rw [← h.len]; exact hc)
  ·obtain ⟨g, hg, h1, _⟩ := h.at hx
   exact .inr ⟨g, hg, by rw [← h1]; exact ho⟩
 rw [Zop hc']
 have hd := h.done hf
 refine ⟨by simp [h.len], fun i g hg => ?_, fun g hg => ?_⟩
 ·rw [List.getElem?_append] at hg
  split at hg
  ·rename_i hi
   obtain ⟨p, k1, k2, k3⟩ := hd i g hg
   exact ⟨p, by rw [List.getElem?_append, if_pos (by rw [h.len]; exact hi)]; exact k1, k2, fun _ => k3⟩
  ·rename_i hi
   have hi2 : i - gs.length < [(⟨f.v, [f.t]⟩ : Group)].length := (List.getElem?_eq_some_iff.1 hg).1
   have e : i = gs.length := by simp at hi2; omega
   subst e
   simp at hg; subst hg
   exact ⟨(f.v, u'), by rw [← h.len]; simp, rfl, fun q => by simp at q⟩
 ·simp at hg; subst hg
  exact ⟨⟨(f.v, u'), by simp [← h.len], rfl⟩, rfl⟩
theorem Ye.ofNew {α : Type} {E : Enc α} {by_ : Nat} {e : TypeId} {b : Nat} {cs : List Value} {l : List α} {n : Nat} (hf : X2 E G l cs) (hn : n = l.length) (h1 : n * by_ ≤ reach) (h2 : n ≤ reach) : Ye E by_ e G (.slice (some ⟨b, 0, none⟩) n n) l (some (b, e, cs)) := by
 subst hn
 exact .inr ⟨b, cs, l.length, cs, rfl, rfl, Nat.le_refl _, by unfold reach at h2; unfold maxLen; omega, hf.len, hf, List.take_of_length_le (by rw [hf.len]; exact Nat.le_refl _), h1, h2⟩
end
end Go.Civ

namespace Go.Civ
set_option linter.unusedVariables false

def Zw4 (l : List Fact) : Bool := decide (l.length ≤ 1000) && (decide (l.length = 0) || decide ((l.head?.elim [] Fact.v).length ≤ 8))
def Zw5 (l : List Fact) : List Fact := if Zw4 (nf l) then nf l else []
def Zvy (l : List Fact) : List Fact := if ZtT l then Zw5 l else []
def atN (l : List Fact) (t : Int) : List (List Val) := (l.filter fun f => ZsA f.t t).map Fact.v
def atL (l : List Fact) (t : Int) : List (List Val) := atN (Zvy l) t
end Go.Civ
