/- Lemmas. -/
import Derived.Test.YthgeclodflmiaaaGreatK07
namespace Go.Civ
set_option linter.unusedVariables false

def cover (r : List Span) (x : Int) : Prop := ∃ s ∈ r, s.a ≤ x ∧ x < s.b
structure Can (r : List Span) : Prop where
  apart : r.Pairwise fun p q => p.b < q.a
  pos : ∀ s ∈ r, s.a < s.b
theorem Can.tail {s : Span} {r : List Span} (h : Can (s :: r)) : Can r := ⟨(List.pairwise_cons.1 h.apart).2, fun t ht => h.pos t (by simp [ht])⟩
theorem cover_cons {s : Span} {r : List Span} {x : Int} : cover (s :: r) x ↔ (s.a ≤ x ∧ x < s.b) ∨ cover r x := by simp [cover]
theorem Can.above {s : Span} {r : List Span} (h : Can (s :: r)) {x : Int} (hx : cover r x) : s.b < x := by
  obtain ⟨t, ht, h1, h2⟩ := hx
  have := (List.pairwise_cons.1 h.apart).1 t ht
  omega
theorem Can.unique : ∀ {r r' : List Span}, Can r → Can r' → (∀ x, cover r x ↔ cover r' x) → r = r'
  | [], [], _, _, _ => rfl
  | [], s :: r', _, h', h => by
    have := (h s.a).2 (cover_cons.2 (.inl ⟨by omega, h'.pos s (by simp)⟩))
    obtain ⟨_, ht, _⟩ := this; simp at ht
  | s :: r, [], h', _, h => by
    have := (h s.a).1 (cover_cons.2 (.inl ⟨by omega, h'.pos s (by simp)⟩))
    obtain ⟨_, ht, _⟩ := this; simp at ht
  | s :: r, s' :: r', h1, h2, h => by
    have p1 := h1.pos s (by simp)
    have p2 := h2.pos s' (by simp)
    have a1 : s'.a ≤ s.a := by
      rcases cover_cons.1 ((h s.a).1 (cover_cons.2 (.inl ⟨by omega, p1⟩))) with k | k
      · exact k.1
      · have := h2.above k; omega
    have a2 : s.a ≤ s'.a := by
      rcases cover_cons.1 ((h s'.a).2 (cover_cons.2 (.inl ⟨by omega, p2⟩))) with k | k
      · exact k.1
      · have := h1.above k; omega
    have b1 : s'.b ≤ s.b := by
      rcases Int.lt_or_le s.b s'.b with k | k
      · rcases cover_cons.1 ((h s.b).2 (cover_cons.2 (.inl ⟨by omega, k⟩))) with k | k
        · omega
        · have := h1.above k; omega
      · exact k
    have b2 : s.b ≤ s'.b := by
      rcases Int.lt_or_le s'.b s.b with k | k
      · rcases cover_cons.1 ((h s'.b).1 (cover_cons.2 (.inl ⟨by omega, k⟩))) with k | k
        · omega
        · have := h2.above k; omega
      · exact k
    have e : s = s' := by
      cases s; cases s'; simp only [Span.mk.injEq]; exact ⟨by simp only at a1 a2; omega, by simp only at b1 b2; omega⟩
    subst e
    rw [Can.unique h1.tail h2.tail fun x => ?_]
    constructor
    · intro k
      have := h1.above k
      rcases cover_cons.1 ((h x).1 (cover_cons.2 (.inr k))) with q | q
      · omega
      · exact q
    · intro k
      have := h2.above k
      rcases cover_cons.1 ((h x).2 (cover_cons.2 (.inr k))) with q | q
      · omega
      · exact q

def mstep (out : List Span) (x : Span) : List Span :=
  match out[out.length - 1]? with
  | none => out ++ [x]
  | some p => if x.a ≤ p.b then out.set (out.length - 1) ⟨p.a, max p.b x.b⟩ else out ++ [x]
def mergeS (l : List Span) : List Span := l.foldl mstep []
def sortA (l : List Span) : List Span := l.mergeSort fun x y => decide (x.a ≤ y.a)
def canon (l : List Span) : List Span := mergeS (sortA l)

theorem mstep_nil (x : Span) : mstep [] x = [x] := rfl
theorem mstep_last (out : List Span) (p x : Span) : mstep (out ++ [p]) x = if x.a ≤ p.b then out ++ [⟨p.a, max p.b x.b⟩] else out ++ [p] ++ [x] := by
  unfold mstep
  have e : (out ++ [p]).length - 1 = out.length := by simp
  rw [e, List.getElem?_append_right (Nat.le_refl _)]
  simp only [Nat.sub_self, List.getElem?_cons_zero]
  split
  · rw [List.set_append_right _ _ (Nat.le_refl _)]; simp
  · rfl
theorem mergeS_snoc (l : List Span) (x : Span) : mergeS (l ++ [x]) = mstep (mergeS l) x := by simp [mergeS, List.foldl_append]
theorem mergeS_take {l : List Span} {k : Nat} {x : Span} (h : l[k]? = some x) : mergeS (l.take (k + 1)) = mstep (mergeS (l.take k)) x := by
  rw [List.take_add_one, h]; exact mergeS_snoc _ _
theorem mstep_push {out : List Span} {x : Span} (h : out.length = 0) : mstep out x = out ++ [x] := by
  obtain rfl := List.length_eq_zero_iff.1 h; rfl
theorem mstep_join {out : List Span} {x p : Span} (h : out[out.length - 1]? = some p) (hx : x.a ≤ p.b) : mstep out x = out.set (out.length - 1) ⟨p.a, max p.b x.b⟩ := by
  unfold mstep; rw [h]; simp [hx]
theorem mstep_push' {out : List Span} {x p : Span} (h : out[out.length - 1]? = some p) (hx : p.b < x.a) : mstep out x = out ++ [x] := by
  unfold mstep; rw [h]; simp only; rw [if_neg (by omega)]
theorem cover_append {r t : List Span} {x : Int} : cover (r ++ t) x ↔ cover r x ∨ cover t x := by
  simp only [cover, List.mem_append]
  constructor
  · rintro ⟨s, h | h, k⟩
    · exact .inl ⟨s, h, k⟩
    · exact .inr ⟨s, h, k⟩
  · rintro (⟨s, h, k⟩ | ⟨s, h, k⟩)
    · exact ⟨s, .inl h, k⟩
    · exact ⟨s, .inr h, k⟩
theorem cover_one {s : Span} {x : Int} : cover [s] x ↔ s.a ≤ x ∧ x < s.b := by simp [cover]
theorem cover_perm {r t : List Span} (h : r.Perm t) {x : Int} : cover r x ↔ cover t x := by simp only [cover, h.mem_iff]

structure MInv (p out : List Span) : Prop where
  can : Can out
  cov : ∀ x, cover out x ↔ cover p x
  from_ : ∀ s ∈ out, ∃ q ∈ p, s.a = q.a
  len : out.length ≤ p.length
theorem mergeS_inv : ∀ (n : Nat) (l : List Span), l.length = n → l.Pairwise (fun x y => x.a ≤ y.a) → (∀ s ∈ l, s.a < s.b) → MInv l (mergeS l)
  | 0, l, hn, _, _ => by
    obtain rfl := List.length_eq_zero_iff.1 hn
    exact ⟨⟨List.Pairwise.nil, by simp [mergeS]⟩, fun _ => Iff.rfl, by simp [mergeS], Nat.le_refl _⟩
  | n + 1, l, hn, hs, hp => by
    obtain ⟨p, x, rfl⟩ : ∃ p x, l = p ++ [x] := by
      rcases List.eq_nil_or_concat l with rfl | ⟨p, x, h⟩
      · simp at hn
      · exact ⟨p, x, by simpa using h⟩
    have hs' := List.pairwise_append.1 hs
    have ih := mergeS_inv n p (by simpa using hn) hs'.1 fun s h => hp s (by simp [h])
    have hx : x.a < x.b := hp x (by simp)
    rw [mergeS_snoc]
    rcases List.eq_nil_or_concat (mergeS p) with h0 | ⟨o, q, h0⟩
    · rw [h0, mstep_nil]
      rw [h0] at ih
      refine ⟨⟨by simp, by simpa using hx⟩, fun y => ?_, by simp, by simp⟩
      rw [cover_append, ← ih.cov y]
      simp [cover]
    · have h0 : mergeS p = o ++ [q] := by simpa using h0
      rw [h0] at ih ⊢
      have hap := List.pairwise_append.1 ih.can.apart
      have hq : q.a < q.b := ih.can.pos q (by simp)
      have hqx : q.a ≤ x.a := by
        obtain ⟨z, hz, e⟩ := ih.from_ q (by simp)
        rw [e]; exact hs'.2.2 z hz x (by simp)
      rw [mstep_last]
      split
      · rename_i hj
        have hm : max q.b x.b = if q.b ≤ x.b then x.b else q.b := by rw [Int.max_def]
        refine ⟨⟨List.pairwise_append.2 ⟨hap.1, by simp, fun u hu v hv => ?_⟩, fun s hs => ?_⟩, fun y => ?_, fun s hs => ?_, ?_⟩
        · obtain rfl := List.mem_singleton.1 hv
          exact hap.2.2 u hu q (by simp)
        · rcases List.mem_append.1 hs with hs | hs
          · exact ih.can.pos s (by simp [hs])
          · obtain rfl := List.mem_singleton.1 hs
            simp only; rw [hm]; split <;> omega
        · rw [cover_append, cover_append, ← ih.cov y, cover_append, or_assoc]
          refine or_congr Iff.rfl ?_
          rw [cover_one, cover_one, cover_one]
          simp only; rw [hm]
          split <;> constructor <;> intro h <;> omega
        · rcases List.mem_append.1 hs with hs | hs
          · obtain ⟨z, hz, e⟩ := ih.from_ s (by simp [hs])
            exact ⟨z, by simp [hz], e⟩
          · obtain rfl := List.mem_singleton.1 hs
            obtain ⟨z, hz, e⟩ := ih.from_ q (by simp)
            exact ⟨z, by simp [hz], e⟩
        · have := ih.len; simp at this ⊢; omega
      · rename_i hj
        refine ⟨⟨List.pairwise_append.2 ⟨ih.can.apart, by simp, fun u hu v hv => ?_⟩, fun s hs => ?_⟩, fun y => ?_, fun s hs => ?_, ?_⟩
        · obtain rfl := List.mem_singleton.1 hv
          rcases List.mem_append.1 hu with hu | hu
          · have := hap.2.2 u hu q (by simp); omega
          · obtain rfl := List.mem_singleton.1 hu; omega
        · rcases List.mem_append.1 hs with hs | hs
          · exact ih.can.pos s hs
          · obtain rfl := List.mem_singleton.1 hs; exact hx
        · rw [cover_append (r := o ++ [q]), cover_append (r := p), ← ih.cov y]
        · rcases List.mem_append.1 hs with hs | hs
          · obtain ⟨z, hz, e⟩ := ih.from_ s hs
            exact ⟨z, by simp [hz], e⟩
          · obtain rfl := List.mem_singleton.1 hs
            exact ⟨_, by simp, rfl⟩
        · have := ih.len; simp at this ⊢; omega
theorem mergeS_sorted {l s : List Span} (hp : s.Perm l) (hs : s.Pairwise fun x y => x.a ≤ y.a) (hv : ∀ x ∈ l, x.a < x.b) : MInv l (mergeS s) := by
  have h := mergeS_inv s.length s rfl hs fun x hx => hv x (hp.mem_iff.1 hx)
  exact ⟨h.can, fun x => (h.cov x).trans (cover_perm hp), fun x hx => (h.from_ x hx).imp fun q k => ⟨hp.mem_iff.1 k.1, k.2⟩, by rw [← hp.length_eq]; exact h.len⟩
theorem sortA_perm (l : List Span) : (sortA l).Perm l := List.mergeSort_perm _ _
theorem sortA_asc (l : List Span) : (sortA l).Pairwise fun x y => x.a ≤ y.a := by
  have := List.pairwise_mergeSort (le := fun (x y : Span) => decide (x.a ≤ y.a)) (fun a b c h1 h2 => by simp at *; omega) (fun a b => by simp; omega) l
  exact this.imp fun h => by simpa using h
theorem canon_inv {l : List Span} (hv : ∀ x ∈ l, x.a < x.b) : MInv l (canon l) := mergeS_sorted (sortA_perm l) (sortA_asc l) hv
theorem mergeS_canon {l s : List Span} (hp : s.Perm l) (hs : s.Pairwise fun x y => x.a ≤ y.a) (hv : ∀ x ∈ l, x.a < x.b) : mergeS s = canon l :=
  Can.unique (mergeS_sorted hp hs hv).can (canon_inv hv).can fun x => ((mergeS_sorted hp hs hv).cov x).trans ((canon_inv hv).cov x).symm
def AscA (l : List Span) : Prop := l.Pairwise fun x y => x.a ≤ y.a
theorem mstep_len (out : List Span) (x : Span) : (mstep out x).length ≤ out.length + 1 := by
  unfold mstep; split
  · simp
  · split <;> simp
theorem mergeS_len (l : List Span) : (mergeS l).length ≤ l.length := by
  rcases Nat.lt_or_ge 0 l.length with h | h
  · have : ∀ (l out : List Span), (l.foldl mstep out).length ≤ out.length + l.length := by
      intro l
      induction l with
      | nil => simp
      | cons x l ih => intro out; have := ih (mstep out x); have := mstep_len out x; simp; omega
    have := this l []; simpa [mergeS] using this
  · obtain rfl := List.length_eq_zero_iff.1 (by omega : l.length = 0); simp [mergeS]
theorem spanB_pos {s : Span} (h : spanB s = true) : s.a < s.b := by unfold spanB at h; simp at h; omega
theorem spanB_from {s : Span} (h : spanB s = true) : -4398046511104 ≤ s.a ∧ s.a ≤ 4398046511104 := by unfold spanB at h; simp at h; omega
theorem merged_ret {l l1 : List Span} {k : Nat} (h : l1.Perm l ∧ AscA l1) (hB : ∀ s ∈ l, spanB s = true) (hk : l1.length ≤ k) : mergeS (l1.take k) = canon l := by
  rw [List.take_of_length_le hk]
  exact mergeS_canon h.1 h.2 fun x hx => spanB_pos (hB x hx)
theorem canon_len {l : List Span} : (canon l).length ≤ l.length := by
  have := mergeS_len (sortA l); rw [(sortA_perm l).length_eq] at this; exact this
end Go.Civ

namespace Go.Civ
set_option linter.unusedVariables false

structure TOrd {α : Type} (c : α → α → Int) : Prop where
  eq : ∀ x y, c x y = 0 ↔ x = y
  swap : ∀ x y, c x y < 0 ↔ 0 < c y x
  trans : ∀ x y z, c x y < 0 → c y z < 0 → c x z < 0
theorem TOrd.refl {α : Type} {c : α → α → Int} (h : TOrd c) (x : α) : c x x = 0 := (h.eq x x).2 rfl
theorem TOrd.asym {α : Type} {c : α → α → Int} (h : TOrd c) {x y : α} (k : c x y < 0) : ¬ c y x < 0 := by have := (h.swap x y).1 k; omega
theorem TOrd.le_trans {α : Type} {c : α → α → Int} (h : TOrd c) {x y z : α} (h1 : ¬ c y x < 0) (h2 : ¬ c z y < 0) : ¬ c z x < 0 := fun k => by
  
  by_cases e : c x y = 0
  · obtain rfl := (h.eq x y).1 e; exact h2 k
  · have hxy : c x y < 0 := by
      rcases Int.lt_or_le (c x y) 0 with q | q
      · exact q
      · exact absurd ((h.swap y x).2 (by omega)) h1
    exact h2 (h.trans z x y k hxy)
theorem sgn_ord : TOrd sgn where
  eq x y := by unfold sgn; split <;> (try split) <;> omega
  swap x y := by unfold sgn; repeat' split
                 all_goals omega
  trans x y z := by unfold sgn; repeat' split
                    all_goals omega
theorem bl_irrefl : ∀ a : List UInt8, Op.bytesLess a a = false
  | [] => rfl
  | x :: a => by simp [Op.bytesLess, bl_irrefl a]
theorem bl_total : ∀ a b : List UInt8, Op.bytesLess a b = false → a = b ∨ Op.bytesLess b a = true
  | [], [], _ => .inl rfl
  | [], _ :: _, h => by simp [Op.bytesLess] at h
  | _ :: _, [], _ => .inr rfl
  | x :: a, y :: b, h => by
    simp only [Op.bytesLess, Bool.or_eq_false_iff, Bool.and_eq_false_iff, decide_eq_false_iff_not] at h
    by_cases e : x = y
    · subst e
      rcases bl_total a b (by simpa using h.2) with rfl | k
      · exact .inl rfl
      · exact .inr (by simp [Op.bytesLess, k])
    · refine .inr ?_
      have : y < x := by
        have h1 := h.1
        rw [UInt8.lt_iff_toNat_lt] at h1 ⊢
        have : x.toNat ≠ y.toNat := fun q => e (UInt8.toNat_inj.1 q)
        omega
      simp [Op.bytesLess, this]
theorem bl_trans : ∀ a b c : List UInt8, Op.bytesLess a b = true → Op.bytesLess b c = true → Op.bytesLess a c = true
  | _, [], _, h, _ => by cases ‹List UInt8› <;> simp [Op.bytesLess] at h
  | _, _ :: _, [], _, h => by simp [Op.bytesLess] at h
  | [], _ :: _, _ :: _, _, _ => rfl
  | x :: a, y :: b, z :: c, h1, h2 => by
    simp only [Op.bytesLess, Bool.or_eq_true, Bool.and_eq_true, decide_eq_true_eq, beq_iff_eq] at h1 h2 ⊢
    rcases h1 with h1 | ⟨rfl, h1⟩ <;> rcases h2 with h2 | ⟨rfl, h2⟩
    · left; rw [UInt8.lt_iff_toNat_lt] at *; omega
    · exact .inl h1
    · exact .inl h2
    · exact .inr ⟨rfl, bl_trans a b c h1 h2⟩
theorem bl_asym {a b : List UInt8} (h : Op.bytesLess a b = true) : Op.bytesLess b a = false := by
  cases k : Op.bytesLess b a with
  | false => rfl
  | true => have := bl_trans a b a h k; rw [bl_irrefl] at this; cases this
theorem cmpS_lt {a b : List UInt8} : cmpS a b < 0 ↔ Op.bytesLess a b = true := by
  unfold cmpS; split
  · simp [*]
  · split
    · rename_i h; subst h; simp [bl_irrefl]
    · simp [*]
theorem cmpS_ord : TOrd cmpS where
  eq x y := by
    unfold cmpS; split
    · rename_i h; simp; rintro rfl; rw [bl_irrefl] at h; cases h
    · split <;> simp [*]
  swap x y := by
    rw [cmpS_lt]
    constructor
    · intro h
      unfold cmpS
      rw [bl_asym h, if_neg (by simp), if_neg]
      · decide
      · rintro rfl; rw [bl_irrefl] at h; cases h
    · unfold cmpS
      intro h
      cases k : Op.bytesLess x y with
      | true => rfl
      | false =>
        rcases bl_total x y k with rfl | q
        · rw [bl_irrefl] at h; simp at h
        · rw [q] at h; simp at h
  trans x y z h1 h2 := by rw [cmpS_lt] at *; exact bl_trans x y z h1 h2
theorem TOrd.lex {α β γ : Type} {f : γ → α} {g : γ → β} {c : α → α → Int} {d : β → β → Int} (hc : TOrd c) (hd : TOrd d) (inj : ∀ x y, f x = f y → g x = g y → x = y) :
    TOrd fun x y => if c (f x) (f y) ≠ 0 then c (f x) (f y) else d (g x) (g y) where
  eq x y := by
    by_cases h : c (f x) (f y) = 0
    · simp only [h]; simp only [ne_eq, not_true, if_false]
      rw [hd.eq]
      exact ⟨fun k => inj x y ((hc.eq _ _).1 h) k, fun k => by rw [k]⟩
    · simp only [ne_eq, h, not_false_iff, if_true, false_iff]
      rintro rfl; exact h (hc.refl _)
  swap x y := by
    by_cases h : c (f x) (f y) = 0
    · have h' : c (f y) (f x) = 0 := (hc.eq _ _).2 ((hc.eq _ _).1 h).symm
      simp only [h, h']; simp only [ne_eq, not_true, if_false]; exact hd.swap _ _
    · have h' : c (f y) (f x) ≠ 0 := fun k => h ((hc.eq _ _).2 ((hc.eq _ _).1 k).symm)
      simp only [ne_eq, h, h', not_false_iff, if_true]; exact hc.swap _ _
  trans x y z := by
    by_cases h1 : c (f x) (f y) = 0
    · have e1 := (hc.eq _ _).1 h1
      simp only [h1]; simp only [ne_eq, not_true, if_false, e1]
      by_cases h2 : c (f y) (f z) = 0
      · simp only [h2]; simp only [not_true, if_false]; exact hd.trans _ _ _
      · simp only [h2, not_false_iff, if_true]; exact fun _ k => k
    · by_cases h2 : c (f y) (f z) = 0
      · have e2 := (hc.eq _ _).1 h2
        simp only [ne_eq, h1, h2, not_false_iff, if_true]; simp only [not_true, if_false, ← e2, h1, not_false_iff, if_true]
        exact fun k _ => k
      · simp only [ne_eq, h1, h2, not_false_iff, if_true]
        intro k1 k2
        have k3 := hc.trans _ _ _ k1 k2
        rw [if_pos (by omega)]; exact k3
def cmpNS (x y : Int × List UInt8) : Int := if sgn x.1 y.1 ≠ 0 then sgn x.1 y.1 else cmpS x.2 y.2
theorem cmpNS_ord : TOrd cmpNS := TOrd.lex (f := Prod.fst) (g := Prod.snd) sgn_ord cmpS_ord fun x y h1 h2 => Prod.ext h1 h2
theorem cmpV_ord : TOrd cmpV :=
  TOrd.lex (f := Val.k) (g := fun x : Val => (x.n, x.s)) sgn_ord cmpNS_ord fun x y h1 h2 => by
    cases x; cases y; simp at h1 h2; simp [h1, h2]
theorem cmpL_ord {α : Type} {c : α → α → Int} (h : TOrd c) : TOrd (cmpL c) where
  eq x y := by
    induction x generalizing y with
    | nil => cases y <;> simp [cmpL]
    | cons a x ih =>
      cases y with
      | nil => simp [cmpL]
      | cons b y =>
        simp only [cmpL]
        by_cases e : c a b = 0
        · obtain rfl := (h.eq a b).1 e
          simp only [e]; simp only [ne_eq, not_true, if_false, List.cons.injEq, true_and]; exact ih y
        · simp only [ne_eq, e, not_false_iff, if_true, List.cons.injEq, false_iff]
          rintro ⟨rfl, _⟩; exact e (h.refl _)
  swap x y := by
    induction x generalizing y with
    | nil => cases y <;> simp [cmpL]
    | cons a x ih =>
      cases y with
      | nil => simp [cmpL]
      | cons b y =>
        simp only [cmpL]
        by_cases e : c a b = 0
        · obtain rfl := (h.eq a b).1 e
          simp only [e]; simp only [ne_eq, not_true, if_false]; exact ih y
        · have e' : c b a ≠ 0 := fun k => e ((h.eq _ _).2 ((h.eq _ _).1 k).symm)
          simp only [ne_eq, e, e', not_false_iff, if_true]; exact h.swap a b
  trans x y z := by
    induction x generalizing y z with
    | nil => cases y <;> cases z <;> simp [cmpL]
    | cons a x ih =>
      cases y with
      | nil => simp [cmpL]
      | cons b y =>
        cases z with
        | nil => simp [cmpL]
        | cons d z =>
          simp only [cmpL]
          by_cases e1 : c a b = 0
          · obtain rfl := (h.eq a b).1 e1
            simp only [e1]; simp only [ne_eq, not_true, if_false]
            by_cases e2 : c a d = 0
            · simp only [e2]; simp only [not_true, if_false]; exact ih y z
            · simp only [e2, not_false_iff, if_true]; exact fun _ k => k
          · by_cases e2 : c b d = 0
            · obtain rfl := (h.eq b d).1 e2
              simp only [ne_eq, e1, not_false_iff, if_true]; exact fun k _ => k
            · simp only [ne_eq, e1, e2, not_false_iff, if_true]
              intro k1 k2
              have k3 := h.trans _ _ _ k1 k2
              rw [if_pos (by omega)]; exact k3
theorem ord : TOrd (cmpL cmpV) := cmpL_ord cmpV_ord
theorem ordV_valid {a b : List Val} (ha : a.all valB = true) (hb : b.all valB = true) : ordV a b = cmpL cmpV a b := by unfold ordV; simp [ha, hb]

def gstep (out : List Group) (f : Fact) : List Group :=
  match out[out.length - 1]? with
  | none => out ++ [⟨f.v, [f.t]⟩]
  | some g => if ordV g.v f.v = 0 then out.set (out.length - 1) ⟨g.v, g.t ++ [f.t]⟩ else out ++ [⟨f.v, [f.t]⟩]
def groupL (l : List Fact) : List Group := l.foldl gstep []
def sortF (l : List Fact) : List Fact := l.mergeSort fun x y => decide (cmpL cmpV x.v y.v ≤ 0)
def cgroups (l : List Group) : List Group := l.map fun g => ⟨g.v, canon g.t⟩
def listedL (l : List Group) : List Fact := l.flatMap fun g => g.t.map fun s => ⟨g.v, s⟩
def grp (l : List Fact) : List Group := cgroups (groupL (sortF l))
def nf (l : List Fact) : List Fact := listedL (grp l)
def Good (l : List Fact) : Prop := ∀ f ∈ l, f.v.all valB = true ∧ spanB f.t = true

theorem strict_unique {α : Type} {c : α → α → Int} (h : TOrd c) : ∀ {a b : List α}, a.Pairwise (fun x y => c x y < 0) → b.Pairwise (fun x y => c x y < 0) → (∀ x, x ∈ a ↔ x ∈ b) → a = b
  | [], [], _, _, _ => rfl
  | [], y :: b, _, _, k => by have := (k y).2 (by simp); simp at this
  | x :: a, [], _, _, k => by have := (k x).1 (by simp); simp at this
  | x :: a, y :: b, ha, hb, k => by
    have ha' := List.pairwise_cons.1 ha
    have hb' := List.pairwise_cons.1 hb
    have e : x = y := by
      rcases List.mem_cons.1 ((k x).1 (by simp)) with e | h1
      · exact e
      · rcases List.mem_cons.1 ((k y).2 (by simp)) with e | h2
        · exact e.symm
        · exact absurd (hb'.1 x h1) (h.asym (ha'.1 y h2))
    subst e
    rw [strict_unique h ha'.2 hb'.2 fun z => ?_]
    constructor
    · intro hz
      rcases List.mem_cons.1 ((k z).1 (by simp [hz])) with e | h1
      · subst e; have := ha'.1 z hz; rw [h.refl] at this; omega
      · exact h1
    · intro hz
      rcases List.mem_cons.1 ((k z).2 (by simp [hz])) with e | h1
      · subst e; have := hb'.1 z hz; rw [h.refl] at this; omega
      · exact h1
theorem Good.perm {l l' : List Fact} (h : Good l) (hp : l'.Perm l) : Good l' := fun f hf => h f (hp.mem_iff.1 hf)
end Go.Civ

namespace Go.Civ
open Go.RowKit
set_option linter.unusedVariables false

def GroupW : Enc (List Val × Value) where
  n := 2
  rep G x cs := ∃ v, cs = [v, x.2] ∧ Sl ValE 32 G v x.1 ∧ x.2.oneCell' = true
  len := by rintro G x cs ⟨v, rfl, _⟩; rfl
  mono := by rintro G G' x cs hle ⟨v, rfl, h, k⟩; exact ⟨v, rfl, h.mono hle, k⟩
  one := by
    rintro G x cs ⟨v, rfl, h, k⟩ c hc
    simp at hc
    rcases hc with rfl | rfl
    · exact h.oneC
    · exact k
theorem GroupW_open {G : GH} {x : List Val × Value} {cs : List Value} (h : GroupW.rep G x cs) : ∃ v, cs = [v, x.2] ∧ Sl ValE 32 G v x.1 ∧ x.2.oneCell' = true := h
theorem GroupW_mk {G : GH} (x : List Val × Value) {v : Value} (h1 : Sl ValE 32 G v x.1) (h2 : x.2.oneCell' = true) : GroupW.rep G x [v, x.2] := ⟨v, rfl, h1, h2⟩

structure GRel (G : GH) (gs : List Group) (L : List (List Val × Value)) (u : Value) (T : List Span) : Prop where
  len : L.length = gs.length
  val : ∀ (i : Nat) g, gs[i]? = some g → ∃ p, L[i]? = some p ∧ p.1 = g.v ∧ (i + 1 < gs.length → Sl SpanE 16 G p.2 g.t)
  last : ∀ g, gs[gs.length - 1]? = some g → (∃ p, L[gs.length - 1]? = some p ∧ p.2 = u) ∧ T = g.t
section
variable {G G' : GH} {gs : List Group} {L : List (List Val × Value)} {u : Value} {T : List Span} {f : Fact} {x : List Val × Value}
theorem GRel.mono (h : GRel G gs L u T) (k : G.le G') : GRel G' gs L u T :=
  ⟨h.len, fun i g hg => let ⟨p, h1, h2, h3⟩ := h.val i g hg; ⟨p, h1, h2, fun q => (h3 q).mono k⟩, h.last⟩
theorem GRel.nil : GRel G [] [] u T := ⟨rfl, fun i g h => by simp at h, fun g h => by simp at h⟩
theorem GRel.at (h : GRel G gs L u T) (hx : L[L.length - 1]? = some x) : ∃ g, gs[gs.length - 1]? = some g ∧ x.1 = g.v ∧ x.2 = u ∧ T = g.t := by
  have hl : L.length - 1 < L.length := (List.getElem?_eq_some_iff.1 hx).1
  rw [h.len] at hx hl
  obtain ⟨g, hg⟩ : ∃ g, gs[gs.length - 1]? = some g := ⟨_, List.getElem?_eq_getElem hl⟩
  obtain ⟨p, h1, h2, _⟩ := h.val _ g hg
  obtain ⟨⟨p', h3, h4⟩, h5⟩ := h.last g hg
  rw [hx] at h1 h3
  obtain rfl := Option.some.inj h1
  obtain rfl := Option.some.inj h3
  exact ⟨g, hg, h2, h4, h5⟩
theorem gstep_new (h : gs.length = 0 ∨ ∃ g, gs[gs.length - 1]? = some g ∧ ordV g.v f.v ≠ 0) : gstep gs f = gs ++ [⟨f.v, [f.t]⟩] := by
  rcases h with h | ⟨g, hg, ho⟩
  · obtain rfl := List.length_eq_zero_iff.1 h; rfl
  · unfold gstep; rw [hg]; simp [ho]
theorem GRel.done (h : GRel G gs L u T) (hf : Sl SpanE 16 G u T) : ∀ (i : Nat) g, gs[i]? = some g → ∃ p, L[i]? = some p ∧ p.1 = g.v ∧ Sl SpanE 16 G p.2 g.t := fun i g hg => by
  obtain ⟨p, h1, h2, h3⟩ := h.val i g hg
  refine ⟨p, h1, h2, ?_⟩
  have hi : i < gs.length := (List.getElem?_eq_some_iff.1 hg).1
  by_cases hq : i + 1 < gs.length
  · exact h3 hq
  · have e : i = gs.length - 1 := by omega
    subst e
    obtain ⟨⟨p', k1, k2⟩, k3⟩ := h.last g hg
    rw [h1] at k1; obtain rfl := Option.some.inj k1
    rw [k2, ← k3]; exact hf
theorem GRel.push {u' : Value} (h : GRel G gs L u T) (hf : Sl SpanE 16 G u T) (hc : L.length = 0 ∨ ∃ x, L[L.length - 1]? = some x ∧ ordV x.1 f.v ≠ 0) : GRel G (gstep gs f) (L ++ [(f.v, u')]) u' [f.t] := by
  have hc' : gs.length = 0 ∨ ∃ g, gs[gs.length - 1]? = some g ∧ ordV g.v f.v ≠ 0 := by
    rcases hc with hc | ⟨x, hx, ho⟩
    · exact .inl (by rw [← h.len]; exact hc)
    · obtain ⟨g, hg, h1, _⟩ := h.at hx
      exact .inr ⟨g, hg, by rw [← h1]; exact ho⟩
  rw [gstep_new hc']
  have hd := h.done hf
  refine ⟨by simp [h.len], fun i g hg => ?_, fun g hg => ?_⟩
  · rw [List.getElem?_append] at hg
    split at hg
    · rename_i hi
      obtain ⟨p, k1, k2, k3⟩ := hd i g hg
      exact ⟨p, by rw [List.getElem?_append, if_pos (by rw [h.len]; exact hi)]; exact k1, k2, fun _ => k3⟩
    · rename_i hi
      have hi2 : i - gs.length < [(⟨f.v, [f.t]⟩ : Group)].length := (List.getElem?_eq_some_iff.1 hg).1
      have e : i = gs.length := by simp at hi2; omega
      subst e
      simp at hg; subst hg
      exact ⟨(f.v, u'), by rw [← h.len]; simp, rfl, fun q => by simp at q⟩
  · simp at hg; subst hg
    exact ⟨⟨(f.v, u'), by simp [← h.len], rfl⟩, rfl⟩
theorem Row.ofNew {α : Type} {E : Enc α} {by_ : Nat} {e : TypeId} {b : Nat} {cs : List Value} {l : List α} {n : Nat} (hf : Flat E G l cs) (hn : n = l.length) (h1 : n * by_ ≤ reach) (h2 : n ≤ reach) : Row E by_ e G (.slice (some ⟨b, 0, none⟩) n n) l (some (b, e, cs)) := by
  subst hn
  exact .inr ⟨b, cs, l.length, cs, rfl, rfl, Nat.le_refl _, by unfold reach at h2; unfold maxLen; omega, hf.len, hf, List.take_of_length_le (by rw [hf.len]; exact Nat.le_refl _), h1, h2⟩
end
end Go.Civ

namespace Go.Civ
set_option linter.unusedVariables false

def fitB (l : List Fact) : Bool := decide (l.length ≤ 1000) && (decide (l.length = 0) || decide ((l.head?.elim [] Fact.v).length ≤ 8))
def finL (l : List Fact) : List Fact := if fitB (nf l) then nf l else []
def normL (l : List Fact) : List Fact := if validB l then finL l else []
def atN (l : List Fact) (t : Int) : List (List Val) := (l.filter fun f => spanHas f.t t).map Fact.v
def atL (l : List Fact) (t : Int) : List (List Val) := atN (normL l) t
end Go.Civ
