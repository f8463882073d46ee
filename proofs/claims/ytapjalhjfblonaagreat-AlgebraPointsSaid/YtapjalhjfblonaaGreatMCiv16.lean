/- Spans: canonical lists. -/
import Derived.Test.YtapjalhjfblonaaGreatMCiv12
namespace Go.Civ
set_option linter.unusedVariables false

def cover (r : List Span) (x : Int) : Prop := ∃ s ∈ r, s.a ≤ x ∧ x < s.b
/-- Sorted, apart, none empty. -/
structure Can (r : List Span) : Prop where
  apart : r.Pairwise fun p q => p.b < q.a
  pos : ∀ s ∈ r, s.a < s.b
theorem Can.tail {s : Span} {r : List Span} (h : Can (s :: r)) : Can r := ⟨(List.pairwise_cons.1 h.apart).2, fun t ht => h.pos t (by simp [ht])⟩
theorem cover_cons {s : Span} {r : List Span} {x : Int} : cover (s :: r) x ↔ (s.a ≤ x ∧ x < s.b) ∨ cover r x := by simp [cover]
theorem Can.above {s : Span} {r : List Span} (h : Can (s :: r)) {x : Int} (hx : cover r x) : s.b < x := by
  obtain ⟨t, ht, h1, h2⟩ := hx
  have := (List.pairwise_cons.1 h.apart).1 t ht
  omega
theorem Can.unique : ∀ {r r' : List Span}, Can r → Can r' → (∀ x, cover r x ↔ cover r' x) → r = r'
  | [], [], _, _, _ => rfl
  | [], s :: r', _, h', h => by
    have := (h s.a).2 (cover_cons.2 (.inl ⟨by omega, h'.pos s (by simp)⟩))
    obtain ⟨_, ht, _⟩ := this; simp at ht
  | s :: r, [], h', _, h => by
    have := (h s.a).1 (cover_cons.2 (.inl ⟨by omega, h'.pos s (by simp)⟩))
    obtain ⟨_, ht, _⟩ := this; simp at ht
  | s :: r, s' :: r', h1, h2, h => by
    have p1 := h1.pos s (by simp)
    have p2 := h2.pos s' (by simp)
    have a1 : s'.a ≤ s.a := by
      rcases cover_cons.1 ((h s.a).1 (cover_cons.2 (.inl ⟨by omega, p1⟩))) with k | k
      · exact k.1
      · have := h2.above k; omega
    have a2 : s.a ≤ s'.a := by
      rcases cover_cons.1 ((h s'.a).2 (cover_cons.2 (.inl ⟨by omega, p2⟩))) with k | k
      · exact k.1
      · have := h1.above k; omega
    have b1 : s'.b ≤ s.b := by
      rcases Int.lt_or_le s.b s'.b with k | k
      · rcases cover_cons.1 ((h s.b).2 (cover_cons.2 (.inl ⟨by omega, k⟩))) with k | k
        · omega
        · have := h1.above k; omega
      · exact k
    have b2 : s.b ≤ s'.b := by
      rcases Int.lt_or_le s'.b s.b with k | k
      · rcases cover_cons.1 ((h s'.b).1 (cover_cons.2 (.inl ⟨by omega, k⟩))) with k | k
        · omega
        · have := h2.above k; omega
      · exact k
    have e : s = s' := by
      cases s; cases s'; simp only [Span.mk.injEq]; exact ⟨by simp only at a1 a2; omega, by simp only at b1 b2; omega⟩
    subst e
    rw [Can.unique h1.tail h2.tail fun x => ?_]
    constructor
    · intro k
      have := h1.above k
      rcases cover_cons.1 ((h x).1 (cover_cons.2 (.inr k))) with q | q
      · omega
      · exact q
    · intro k
      have := h2.above k
      rcases cover_cons.1 ((h x).2 (cover_cons.2 (.inr k))) with q | q
      · omega
      · exact q

def mstep (out : List Span) (x : Span) : List Span :=
  match out[out.length - 1]? with
  | none => out ++ [x]
  | some p => if x.a ≤ p.b then out.set (out.length - 1) ⟨p.a, max p.b x.b⟩ else out ++ [x]
def mergeS (l : List Span) : List Span := l.foldl mstep []
def sortA (l : List Span) : List Span := l.mergeSort fun x y => decide (x.a ≤ y.a)
/-- The canonical list of what spans cover. -/
def canon (l : List Span) : List Span := mergeS (sortA l)

theorem mstep_nil (x : Span) : mstep [] x = [x] := rfl
theorem mstep_last (out : List Span) (p x : Span) : mstep (out ++ [p]) x = if x.a ≤ p.b then out ++ [⟨p.a, max p.b x.b⟩] else out ++ [p] ++ [x] := by
  unfold mstep
  have e : (out ++ [p]).length - 1 = out.length := by simp
  rw [e, List.getElem?_append_right (Nat.le_refl _)]
  simp only [Nat.sub_self, List.getElem?_cons_zero]
  split
  · rw [List.set_append_right _ _ (Nat.le_refl _)]; simp
  · rfl
theorem mergeS_snoc (l : List Span) (x : Span) : mergeS (l ++ [x]) = mstep (mergeS l) x := by simp [mergeS, List.foldl_append]
theorem mergeS_take {l : List Span} {k : Nat} {x : Span} (h : l[k]? = some x) : mergeS (l.take (k + 1)) = mstep (mergeS (l.take k)) x := by
  rw [List.take_add_one, h]; exact mergeS_snoc _ _
theorem mstep_push {out : List Span} {x : Span} (h : out.length = 0) : mstep out x = out ++ [x] := by
  obtain rfl := List.length_eq_zero_iff.1 h; rfl
theorem mstep_join {out : List Span} {x p : Span} (h : out[out.length - 1]? = some p) (hx : x.a ≤ p.b) : mstep out x = out.set (out.length - 1) ⟨p.a, max p.b x.b⟩ := by
  unfold mstep; rw [h]; simp [hx]
theorem mstep_push' {out : List Span} {x p : Span} (h : out[out.length - 1]? = some p) (hx : p.b < x.a) : mstep out x = out ++ [x] := by
  unfold mstep; rw [h]; simp only; rw [if_neg (by omega)]
theorem cover_append {r t : List Span} {x : Int} : cover (r ++ t) x ↔ cover r x ∨ cover t x := by
  simp only [cover, List.mem_append]
  constructor
  · rintro ⟨s, h | h, k⟩
    · exact .inl ⟨s, h, k⟩
    · exact .inr ⟨s, h, k⟩
  · rintro (⟨s, h, k⟩ | ⟨s, h, k⟩)
    · exact ⟨s, .inl h, k⟩
    · exact ⟨s, .inr h, k⟩
theorem cover_one {s : Span} {x : Int} : cover [s] x ↔ s.a ≤ x ∧ x < s.b := by simp [cover]
theorem cover_perm {r t : List Span} (h : r.Perm t) {x : Int} : cover r x ↔ cover t x := by simp only [cover, h.mem_iff]

structure MInv (p out : List Span) : Prop where
  can : Can out
  cov : ∀ x, cover out x ↔ cover p x
  from_ : ∀ s ∈ out, ∃ q ∈ p, s.a = q.a
  len : out.length ≤ p.length
theorem mergeS_inv : ∀ (n : Nat) (l : List Span), l.length = n → l.Pairwise (fun x y => x.a ≤ y.a) → (∀ s ∈ l, s.a < s.b) → MInv l (mergeS l)
  | 0, l, hn, _, _ => by
    obtain rfl := List.length_eq_zero_iff.1 hn
    exact ⟨⟨List.Pairwise.nil, by simp [mergeS]⟩, fun _ => Iff.rfl, by simp [mergeS], Nat.le_refl _⟩
  | n + 1, l, hn, hs, hp => by
    obtain ⟨p, x, rfl⟩ : ∃ p x, l = p ++ [x] := by
      rcases List.eq_nil_or_concat l with rfl | ⟨p, x, h⟩
      · simp at hn
      · exact ⟨p, x, by simpa using h⟩
    have hs' := List.pairwise_append.1 hs
    have ih := mergeS_inv n p (by simpa using hn) hs'.1 fun s h => hp s (by simp [h])
    have hx : x.a < x.b := hp x (by simp)
    rw [mergeS_snoc]
    rcases List.eq_nil_or_concat (mergeS p) with h0 | ⟨o, q, h0⟩
    · rw [h0, mstep_nil]
      rw [h0] at ih
      refine ⟨⟨by simp, by simpa using hx⟩, fun y => ?_, by simp, by simp⟩
      rw [cover_append, ← ih.cov y]
      simp [cover]
    · have h0 : mergeS p = o ++ [q] := by simpa using h0
      rw [h0] at ih ⊢
      have hap := List.pairwise_append.1 ih.can.apart
      have hq : q.a < q.b := ih.can.pos q (by simp)
      have hqx : q.a ≤ x.a := by
        obtain ⟨z, hz, e⟩ := ih.from_ q (by simp)
        rw [e]; exact hs'.2.2 z hz x (by simp)
      rw [mstep_last]
      split
      · rename_i hj
        have hm : max q.b x.b = if q.b ≤ x.b then x.b else q.b := by rw [Int.max_def]
        refine ⟨⟨List.pairwise_append.2 ⟨hap.1, by simp, fun u hu v hv => ?_⟩, fun s hs => ?_⟩, fun y => ?_, fun s hs => ?_, ?_⟩
        · obtain rfl := List.mem_singleton.1 hv
          exact hap.2.2 u hu q (by simp)
        · rcases List.mem_append.1 hs with hs | hs
          · exact ih.can.pos s (by simp [hs])
          · obtain rfl := List.mem_singleton.1 hs
            simp only; rw [hm]; split <;> omega
        · rw [cover_append, cover_append, ← ih.cov y, cover_append, or_assoc]
          refine or_congr Iff.rfl ?_
          rw [cover_one, cover_one, cover_one]
          simp only; rw [hm]
          split <;> constructor <;> intro h <;> omega
        · rcases List.mem_append.1 hs with hs | hs
          · obtain ⟨z, hz, e⟩ := ih.from_ s (by simp [hs])
            exact ⟨z, by simp [hz], e⟩
          · obtain rfl := List.mem_singleton.1 hs
            obtain ⟨z, hz, e⟩ := ih.from_ q (by simp)
            exact ⟨z, by simp [hz], e⟩
        · have := ih.len; simp at this ⊢; omega
      · rename_i hj
        refine ⟨⟨List.pairwise_append.2 ⟨ih.can.apart, by simp, fun u hu v hv => ?_⟩, fun s hs => ?_⟩, fun y => ?_, fun s hs => ?_, ?_⟩
        · obtain rfl := List.mem_singleton.1 hv
          rcases List.mem_append.1 hu with hu | hu
          · have := hap.2.2 u hu q (by simp); omega
          · obtain rfl := List.mem_singleton.1 hu; omega
        · rcases List.mem_append.1 hs with hs | hs
          · exact ih.can.pos s hs
          · obtain rfl := List.mem_singleton.1 hs; exact hx
        · rw [cover_append (r := o ++ [q]), cover_append (r := p), ← ih.cov y]
        · rcases List.mem_append.1 hs with hs | hs
          · obtain ⟨z, hz, e⟩ := ih.from_ s hs
            exact ⟨z, by simp [hz], e⟩
          · obtain rfl := List.mem_singleton.1 hs
            exact ⟨_, by simp, rfl⟩
        · have := ih.len; simp at this ⊢; omega
theorem mergeS_sorted {l s : List Span} (hp : s.Perm l) (hs : s.Pairwise fun x y => x.a ≤ y.a) (hv : ∀ x ∈ l, x.a < x.b) : MInv l (mergeS s) := by
  have h := mergeS_inv s.length s rfl hs fun x hx => hv x (hp.mem_iff.1 hx)
  exact ⟨h.can, fun x => (h.cov x).trans (cover_perm hp), fun x hx => (h.from_ x hx).imp fun q k => ⟨hp.mem_iff.1 k.1, k.2⟩, by rw [← hp.length_eq]; exact h.len⟩
theorem sortA_perm (l : List Span) : (sortA l).Perm l := List.mergeSort_perm _ _
theorem sortA_asc (l : List Span) : (sortA l).Pairwise fun x y => x.a ≤ y.a := by
  have := List.pairwise_mergeSort (le := fun (x y : Span) => decide (x.a ≤ y.a)) (fun a b c h1 h2 => by simp at *; omega) (fun a b => by simp; omega) l
  exact this.imp fun h => by simpa using h
theorem canon_inv {l : List Span} (hv : ∀ x ∈ l, x.a < x.b) : MInv l (canon l) := mergeS_sorted (sortA_perm l) (sortA_asc l) hv
/-- Whatever the order of the spans that begin together. -/
theorem mergeS_canon {l s : List Span} (hp : s.Perm l) (hs : s.Pairwise fun x y => x.a ≤ y.a) (hv : ∀ x ∈ l, x.a < x.b) : mergeS s = canon l :=
  Can.unique (mergeS_sorted hp hs hv).can (canon_inv hv).can fun x => ((mergeS_sorted hp hs hv).cov x).trans ((canon_inv hv).cov x).symm
theorem canon_perm {l l' : List Span} (hp : l.Perm l') (hv : ∀ x ∈ l, x.a < x.b) : canon l = canon l' :=
  Can.unique (canon_inv hv).can (canon_inv fun x hx => hv x (hp.mem_iff.2 hx)).can fun x => ((canon_inv hv).cov x).trans ((cover_perm hp).trans ((canon_inv fun x hx => hv x (hp.mem_iff.2 hx)).cov x).symm)
/-- Ascending by their beginnings. -/
def AscA (l : List Span) : Prop := l.Pairwise fun x y => x.a ≤ y.a
theorem mstep_len (out : List Span) (x : Span) : (mstep out x).length ≤ out.length + 1 := by
  unfold mstep; split
  · simp
  · split <;> simp
theorem mergeS_len (l : List Span) : (mergeS l).length ≤ l.length := by
  rcases Nat.lt_or_ge 0 l.length with h | h
  · have : ∀ (l out : List Span), (l.foldl mstep out).length ≤ out.length + l.length := by
      intro l
      induction l with
      | nil => simp
      | cons x l ih => intro out; have := ih (mstep out x); have := mstep_len out x; simp; omega
    have := this l []; simpa [mergeS] using this
  · obtain rfl := List.length_eq_zero_iff.1 (by omega : l.length = 0); simp [mergeS]
theorem spanB_pos {s : Span} (h : spanB s = true) : s.a < s.b := by unfold spanB at h; simp at h; omega
theorem spanB_from {s : Span} (h : spanB s = true) : -4398046511104 ≤ s.a ∧ s.a ≤ 4398046511104 := by unfold spanB at h; simp at h; omega
theorem merged_ret {l l1 : List Span} {k : Nat} (h : l1.Perm l ∧ AscA l1) (hB : ∀ s ∈ l, spanB s = true) (hk : l1.length ≤ k) : mergeS (l1.take k) = canon l := by
  rw [List.take_of_length_le hk]
  exact mergeS_canon h.1 h.2 fun x hx => spanB_pos (hB x hx)
theorem canon_len {l : List Span} : (canon l).length ≤ l.length := by
  have := mergeS_len (sortA l); rw [(sortA_perm l).length_eq] at this; exact this
end Go.Civ

/- The order of values, and groups of facts. -/
namespace Go.Civ
set_option linter.unusedVariables false

/-- A comparison that is a total order. -/
structure TOrd {α : Type} (c : α → α → Int) : Prop where
  eq : ∀ x y, c x y = 0 ↔ x = y
  swap : ∀ x y, c x y < 0 ↔ 0 < c y x
  trans : ∀ x y z, c x y < 0 → c y z < 0 → c x z < 0
theorem TOrd.refl {α : Type} {c : α → α → Int} (h : TOrd c) (x : α) : c x x = 0 := (h.eq x x).2 rfl
theorem TOrd.asym {α : Type} {c : α → α → Int} (h : TOrd c) {x y : α} (k : c x y < 0) : ¬ c y x < 0 := by have := (h.swap x y).1 k; omega
theorem TOrd.le_trans {α : Type} {c : α → α → Int} (h : TOrd c) {x y z : α} (h1 : ¬ c y x < 0) (h2 : ¬ c z y < 0) : ¬ c z x < 0 := fun k => by
  -- z < x; x ≤ y; y ≤ z
  by_cases e : c x y = 0
  · obtain rfl := (h.eq x y).1 e; exact h2 k
  · have hxy : c x y < 0 := by
      rcases Int.lt_or_le (c x y) 0 with q | q
      · exact q
      · exact absurd ((h.swap y x).2 (by omega)) h1
    exact h2 (h.trans z x y k hxy)
theorem sgn_ord : TOrd sgn where
  eq x y := by unfold sgn; split <;> (try split) <;> omega
  swap x y := by unfold sgn; repeat' split
                 all_goals omega
  trans x y z := by unfold sgn; repeat' split
                    all_goals omega
theorem bl_irrefl : ∀ a : List UInt8, Op.bytesLess a a = false
  | [] => rfl
  | x :: a => by simp [Op.bytesLess, bl_irrefl a]
theorem bl_total : ∀ a b : List UInt8, Op.bytesLess a b = false → a = b ∨ Op.bytesLess b a = true
  | [], [], _ => .inl rfl
  | [], _ :: _, h => by simp [Op.bytesLess] at h
  | _ :: _, [], _ => .inr rfl
  | x :: a, y :: b, h => by
    simp only [Op.bytesLess, Bool.or_eq_false_iff, Bool.and_eq_false_iff, decide_eq_false_iff_not] at h
    by_cases e : x = y
    · subst e
      rcases bl_total a b (by simpa using h.2) with rfl | k
      · exact .inl rfl
      · exact .inr (by simp [Op.bytesLess, k])
    · refine .inr ?_
      have : y < x := by
        have h1 := h.1
        rw [UInt8.lt_iff_toNat_lt] at h1 ⊢
        have : x.toNat ≠ y.toNat := fun q => e (UInt8.toNat_inj.1 q)
        omega
      simp [Op.bytesLess, this]
theorem bl_trans : ∀ a b c : List UInt8, Op.bytesLess a b = true → Op.bytesLess b c = true → Op.bytesLess a c = true
  | _, [], _, h, _ => by cases ‹List UInt8› <;> simp [Op.bytesLess] at h
  | _, _ :: _, [], _, h => by simp [Op.bytesLess] at h
  | [], _ :: _, _ :: _, _, _ => rfl
  | x :: a, y :: b, z :: c, h1, h2 => by
    simp only [Op.bytesLess, Bool.or_eq_true, Bool.and_eq_true, decide_eq_true_eq, beq_iff_eq] at h1 h2 ⊢
    rcases h1 with h1 | ⟨rfl, h1⟩ <;> rcases h2 with h2 | ⟨rfl, h2⟩
    · left; rw [UInt8.lt_iff_toNat_lt] at *; omega
    · exact .inl h1
    · exact .inl h2
    · exact .inr ⟨rfl, bl_trans a b c h1 h2⟩
theorem bl_asym {a b : List UInt8} (h : Op.bytesLess a b = true) : Op.bytesLess b a = false := by
  cases k : Op.bytesLess b a with
  | false => rfl
  | true => have := bl_trans a b a h k; rw [bl_irrefl] at this; cases this
theorem cmpS_lt {a b : List UInt8} : cmpS a b < 0 ↔ Op.bytesLess a b = true := by
  unfold cmpS; split
  · simp [*]
  · split
    · rename_i h; subst h; simp [bl_irrefl]
    · simp [*]
theorem cmpS_ord : TOrd cmpS where
  eq x y := by
    unfold cmpS; split
    · rename_i h; simp; rintro rfl; rw [bl_irrefl] at h; cases h
    · split <;> simp [*]
  swap x y := by
    rw [cmpS_lt]
    constructor
    · intro h
      unfold cmpS
      rw [bl_asym h, if_neg (by simp), if_neg]
      · decide
      · rintro rfl; rw [bl_irrefl] at h; cases h
    · unfold cmpS
      intro h
      cases k : Op.bytesLess x y with
      | true => rfl
      | false =>
        rcases bl_total x y k with rfl | q
        · rw [bl_irrefl] at h; simp at h
        · rw [q] at h; simp at h
  trans x y z h1 h2 := by rw [cmpS_lt] at *; exact bl_trans x y z h1 h2
/-- One comparison, and then another. -/
theorem TOrd.lex {α β γ : Type} {f : γ → α} {g : γ → β} {c : α → α → Int} {d : β → β → Int} (hc : TOrd c) (hd : TOrd d) (inj : ∀ x y, f x = f y → g x = g y → x = y) :
    TOrd fun x y => if c (f x) (f y) ≠ 0 then c (f x) (f y) else d (g x) (g y) where
  eq x y := by
    by_cases h : c (f x) (f y) = 0
    · simp only [h]; simp only [ne_eq, not_true, if_false]
      rw [hd.eq]
      exact ⟨fun k => inj x y ((hc.eq _ _).1 h) k, fun k => by rw [k]⟩
    · simp only [ne_eq, h, not_false_iff, if_true, false_iff]
      rintro rfl; exact h (hc.refl _)
  swap x y := by
    by_cases h : c (f x) (f y) = 0
    · have h' : c (f y) (f x) = 0 := (hc.eq _ _).2 ((hc.eq _ _).1 h).symm
      simp only [h, h']; simp only [ne_eq, not_true, if_false]; exact hd.swap _ _
    · have h' : c (f y) (f x) ≠ 0 := fun k => h ((hc.eq _ _).2 ((hc.eq _ _).1 k).symm)
      simp only [ne_eq, h, h', not_false_iff, if_true]; exact hc.swap _ _
  trans x y z := by
    by_cases h1 : c (f x) (f y) = 0
    · have e1 := (hc.eq _ _).1 h1
      simp only [h1]; simp only [ne_eq, not_true, if_false, e1]
      by_cases h2 : c (f y) (f z) = 0
      · simp only [h2]; simp only [not_true, if_false]; exact hd.trans _ _ _
      · simp only [h2, not_false_iff, if_true]; exact fun _ k => k
    · by_cases h2 : c (f y) (f z) = 0
      · have e2 := (hc.eq _ _).1 h2
        simp only [ne_eq, h1, h2, not_false_iff, if_true]; simp only [not_true, if_false, ← e2, h1, not_false_iff, if_true]
        exact fun k _ => k
      · simp only [ne_eq, h1, h2, not_false_iff, if_true]
        intro k1 k2
        have k3 := hc.trans _ _ _ k1 k2
        rw [if_pos (by omega)]; exact k3
def cmpNS (x y : Int × List UInt8) : Int := if sgn x.1 y.1 ≠ 0 then sgn x.1 y.1 else cmpS x.2 y.2
theorem cmpNS_ord : TOrd cmpNS := TOrd.lex (f := Prod.fst) (g := Prod.snd) sgn_ord cmpS_ord fun x y h1 h2 => Prod.ext h1 h2
theorem cmpV_ord : TOrd cmpV :=
  TOrd.lex (f := Val.k) (g := fun x : Val => (x.n, x.s)) sgn_ord cmpNS_ord fun x y h1 h2 => by
    cases x; cases y; simp at h1 h2; simp [h1, h2]
theorem cmpL_ord {α : Type} {c : α → α → Int} (h : TOrd c) : TOrd (cmpL c) where
  eq x y := by
    induction x generalizing y with
    | nil => cases y <;> simp [cmpL]
    | cons a x ih =>
      cases y with
      | nil => simp [cmpL]
      | cons b y =>
        simp only [cmpL]
        by_cases e : c a b = 0
        · obtain rfl := (h.eq a b).1 e
          simp only [e]; simp only [ne_eq, not_true, if_false, List.cons.injEq, true_and]; exact ih y
        · simp only [ne_eq, e, not_false_iff, if_true, List.cons.injEq, false_iff]
          rintro ⟨rfl, _⟩; exact e (h.refl _)
  swap x y := by
    induction x generalizing y with
    | nil => cases y <;> simp [cmpL]
    | cons a x ih =>
      cases y with
      | nil => simp [cmpL]
      | cons b y =>
        simp only [cmpL]
        by_cases e : c a b = 0
        · obtain rfl := (h.eq a b).1 e
          simp only [e]; simp only [ne_eq, not_true, if_false]; exact ih y
        · have e' : c b a ≠ 0 := fun k => e ((h.eq _ _).2 ((h.eq _ _).1 k).symm)
          simp only [ne_eq, e, e', not_false_iff, if_true]; exact h.swap a b
  trans x y z := by
    induction x generalizing y z with
    | nil => cases y <;> cases z <;> simp [cmpL]
    | cons a x ih =>
      cases y with
      | nil => simp [cmpL]
      | cons b y =>
        cases z with
        | nil => simp [cmpL]
        | cons d z =>
          simp only [cmpL]
          by_cases e1 : c a b = 0
          · obtain rfl := (h.eq a b).1 e1
            simp only [e1]; simp only [ne_eq, not_true, if_false]
            by_cases e2 : c a d = 0
            · simp only [e2]; simp only [not_true, if_false]; exact ih y z
            · simp only [e2, not_false_iff, if_true]; exact fun _ k => k
          · by_cases e2 : c b d = 0
            · obtain rfl := (h.eq b d).1 e2
              simp only [ne_eq, e1, not_false_iff, if_true]; exact fun k _ => k
            · simp only [ne_eq, e1, e2, not_false_iff, if_true]
              intro k1 k2
              have k3 := h.trans _ _ _ k1 k2
              rw [if_pos (by omega)]; exact k3
theorem ord : TOrd (cmpL cmpV) := cmpL_ord cmpV_ord
theorem ordV_valid {a b : List Val} (ha : a.all valB = true) (hb : b.all valB = true) : ordV a b = cmpL cmpV a b := by unfold ordV; simp [ha, hb]

/-! ### Groups -/
def gstep (out : List Group) (f : Fact) : List Group :=
  match out[out.length - 1]? with
  | none => out ++ [⟨f.v, [f.t]⟩]
  | some g => if ordV g.v f.v = 0 then out.set (out.length - 1) ⟨g.v, g.t ++ [f.t]⟩ else out ++ [⟨f.v, [f.t]⟩]
def groupL (l : List Fact) : List Group := l.foldl gstep []
def sortF (l : List Fact) : List Fact := l.mergeSort fun x y => decide (cmpL cmpV x.v y.v ≤ 0)
def cgroups (l : List Group) : List Group := l.map fun g => ⟨g.v, canon g.t⟩
def listedL (l : List Group) : List Fact := l.flatMap fun g => g.t.map fun s => ⟨g.v, s⟩
/-- The groups of facts, with canonical times. -/
def grp (l : List Fact) : List Group := cgroups (groupL (sortF l))
/-- The normal form of facts. -/
def nf (l : List Fact) : List Fact := listedL (grp l)
def Good (l : List Fact) : Prop := ∀ f ∈ l, f.v.all valB = true ∧ spanB f.t = true

theorem gstep_last (out : List Group) (g : Group) (f : Fact) : gstep (out ++ [g]) f = if ordV g.v f.v = 0 then out ++ [⟨g.v, g.t ++ [f.t]⟩] else out ++ [g] ++ [⟨f.v, [f.t]⟩] := by
  unfold gstep
  have e : (out ++ [g]).length - 1 = out.length := by simp
  rw [e, List.getElem?_append_right (Nat.le_refl _)]
  simp only [Nat.sub_self, List.getElem?_cons_zero]
  split
  · rw [List.set_append_right _ _ (Nat.le_refl _)]; simp
  · rfl
theorem groupL_snoc (l : List Fact) (f : Fact) : groupL (l ++ [f]) = gstep (groupL l) f := by simp [groupL, List.foldl_append]
theorem groupL_take {l : List Fact} {k : Nat} {f : Fact} (h : l[k]? = some f) : groupL (l.take (k + 1)) = gstep (groupL (l.take k)) f := by
  rw [List.take_add_one, h]; exact groupL_snoc _ _
/-- What groups of facts are. -/
structure GInv (l : List Fact) (out : List Group) : Prop where
  inc : out.Pairwise fun g h => cmpL cmpV g.v h.v < 0
  times : ∀ g ∈ out, g.t = (l.filter fun f => decide (f.v = g.v)).map Fact.t
  mem : ∀ v, (∃ g ∈ out, g.v = v) ↔ ∃ f ∈ l, f.v = v
def AscV (l : List Fact) : Prop := l.Pairwise fun x y => ¬ cmpL cmpV y.v x.v < 0
theorem groupL_inv : ∀ (n : Nat) (l : List Fact), l.length = n → (∀ f ∈ l, f.v.all valB = true) → AscV l → GInv l (groupL l)
  | 0, l, hn, _, _ => by
    obtain rfl := List.length_eq_zero_iff.1 hn
    exact ⟨List.Pairwise.nil, by simp [groupL], by simp [groupL]⟩
  | n + 1, l, hn, hv, hs => by
    obtain ⟨p, x, rfl⟩ : ∃ p x, l = p ++ [x] := by
      rcases List.eq_nil_or_concat l with rfl | ⟨p, x, h⟩
      · simp at hn
      · exact ⟨p, x, by simpa using h⟩
    have hs' := List.pairwise_append.1 hs
    have ih := groupL_inv n p (by simpa using hn) (fun f hf => hv f (by simp [hf])) hs'.1
    have hx : x.v.all valB = true := hv x (by simp)
    rw [groupL_snoc]
    rcases List.eq_nil_or_concat (groupL p) with h0 | ⟨o, q, h0⟩
    · rw [h0] at ih ⊢
      have hp : p = [] := by
        rcases p with _ | ⟨f, p⟩
        · rfl
        · obtain ⟨g, hg, _⟩ := (ih.mem f.v).2 ⟨f, by simp, rfl⟩; simp at hg
      subst hp
      exact ⟨by simp [gstep], by simp [gstep], by simp [gstep]⟩
    · have h0 : groupL p = o ++ [q] := by simpa using h0
      rw [h0] at ih ⊢
      have hap := List.pairwise_append.1 ih.inc
      obtain ⟨fq, hfq, eq⟩ := (ih.mem q.v).1 ⟨q, by simp, rfl⟩
      have hqv : q.v.all valB = true := by rw [← eq]; exact hv fq (by simp [hfq])
      have hqx : ¬ cmpL cmpV x.v q.v < 0 := by rw [← eq]; exact hs'.2.2 fq hfq x (by simp)
      rw [gstep_last, ordV_valid hqv hx]
      -- no group ahead of the last one has x's values
      have hne : ∀ g ∈ o, g.v ≠ x.v := fun g hg e => by
        have := hap.2.2 g hg q (by simp)
        rw [e] at this; exact hqx this
      split
      · rename_i hj
        have hj : q.v = x.v := (ord.eq _ _).1 hj
        refine ⟨List.pairwise_append.2 ⟨hap.1, by simp, fun u hu v hv => ?_⟩, fun g hg => ?_, fun v => ?_⟩
        · obtain rfl := List.mem_singleton.1 hv
          exact hap.2.2 u hu q (by simp)
        · rcases List.mem_append.1 hg with hg | hg
          · rw [List.filter_append, ih.times g (by simp [hg])]
            simp [Ne.symm (hne g hg)]
          · obtain rfl := List.mem_singleton.1 hg
            simp only
            rw [List.filter_append, ih.times q (by simp)]
            simp [hj]
        · constructor
          · rintro ⟨g, hg, rfl⟩
            rcases List.mem_append.1 hg with hg | hg
            · obtain ⟨f, hf, e⟩ := (ih.mem g.v).1 ⟨g, by simp [hg], rfl⟩
              exact ⟨f, by simp [hf], e⟩
            · obtain rfl := List.mem_singleton.1 hg
              exact ⟨x, by simp, hj.symm⟩
          · rintro ⟨f, hf, rfl⟩
            rcases List.mem_append.1 hf with hf | hf
            · obtain ⟨g, hg, e⟩ := (ih.mem f.v).2 ⟨f, hf, rfl⟩
              rcases List.mem_append.1 hg with hg | hg
              · exact ⟨g, by simp [hg], e⟩
              · obtain rfl := List.mem_singleton.1 hg
                exact ⟨_, List.mem_append.2 (.inr (List.mem_singleton.2 rfl)), e⟩
            · obtain rfl := List.mem_singleton.1 hf
              exact ⟨_, List.mem_append.2 (.inr (List.mem_singleton.2 rfl)), hj⟩
      · rename_i hj
        have hlt : cmpL cmpV q.v x.v < 0 := by
          rcases Int.lt_or_le (cmpL cmpV q.v x.v) 0 with k | k
          · exact k
          · exact absurd ((ord.swap _ _).2 (by omega)) hqx
        have hqne : q.v ≠ x.v := fun e => hj ((ord.eq _ _).2 e)
        refine ⟨List.pairwise_append.2 ⟨ih.inc, by simp, fun u hu v hv => ?_⟩, fun g hg => ?_, fun v => ?_⟩
        · obtain rfl := List.mem_singleton.1 hv
          rcases List.mem_append.1 hu with hu | hu
          · exact ord.trans _ _ _ (hap.2.2 u hu q (by simp)) hlt
          · obtain rfl := List.mem_singleton.1 hu; exact hlt
        · rcases List.mem_append.1 hg with hg | hg
          · rw [List.filter_append, ih.times g hg]
            have : g.v ≠ x.v := by
              rcases List.mem_append.1 hg with hg | hg
              · exact hne g hg
              · obtain rfl := List.mem_singleton.1 hg; exact hqne
            simp [Ne.symm this]
          · obtain rfl := List.mem_singleton.1 hg
            simp only
            have : p.filter (fun f => decide (f.v = x.v)) = [] := by
              rw [List.filter_eq_nil_iff]
              intro f hf e
              simp only [decide_eq_true_eq] at e
              obtain ⟨g, hg, eg⟩ := (ih.mem f.v).2 ⟨f, hf, rfl⟩
              rcases List.mem_append.1 hg with hg | hg
              · exact hne g hg (eg.trans e)
              · obtain rfl := List.mem_singleton.1 hg; exact hqne (eg.trans e)
            rw [List.filter_append, this]; simp
        · constructor
          · rintro ⟨g, hg, rfl⟩
            rcases List.mem_append.1 hg with hg | hg
            · obtain ⟨f, hf, e⟩ := (ih.mem g.v).1 ⟨g, hg, rfl⟩
              exact ⟨f, by simp [hf], e⟩
            · obtain rfl := List.mem_singleton.1 hg
              exact ⟨x, by simp, rfl⟩
          · rintro ⟨f, hf, rfl⟩
            rcases List.mem_append.1 hf with hf | hf
            · obtain ⟨g, hg, e⟩ := (ih.mem f.v).2 ⟨f, hf, rfl⟩
              exact ⟨g, List.mem_append.2 (.inl hg), e⟩
            · obtain rfl := List.mem_singleton.1 hf
              exact ⟨_, List.mem_append.2 (.inr (List.mem_singleton.2 rfl)), rfl⟩
theorem strict_unique {α : Type} {c : α → α → Int} (h : TOrd c) : ∀ {a b : List α}, a.Pairwise (fun x y => c x y < 0) → b.Pairwise (fun x y => c x y < 0) → (∀ x, x ∈ a ↔ x ∈ b) → a = b
  | [], [], _, _, _ => rfl
  | [], y :: b, _, _, k => by have := (k y).2 (by simp); simp at this
  | x :: a, [], _, _, k => by have := (k x).1 (by simp); simp at this
  | x :: a, y :: b, ha, hb, k => by
    have ha' := List.pairwise_cons.1 ha
    have hb' := List.pairwise_cons.1 hb
    have e : x = y := by
      rcases List.mem_cons.1 ((k x).1 (by simp)) with e | h1
      · exact e
      · rcases List.mem_cons.1 ((k y).2 (by simp)) with e | h2
        · exact e.symm
        · exact absurd (hb'.1 x h1) (h.asym (ha'.1 y h2))
    subst e
    rw [strict_unique h ha'.2 hb'.2 fun z => ?_]
    constructor
    · intro hz
      rcases List.mem_cons.1 ((k z).1 (by simp [hz])) with e | h1
      · subst e; have := ha'.1 z hz; rw [h.refl] at this; omega
      · exact h1
    · intro hz
      rcases List.mem_cons.1 ((k z).2 (by simp [hz])) with e | h1
      · subst e; have := hb'.1 z hz; rw [h.refl] at this; omega
      · exact h1
theorem GInv.vals {l l' : List Fact} {o o' : List Group} (h : GInv l o) (h' : GInv l' o') (hp : l.Perm l') : o.map Group.v = o'.map Group.v := by
  refine strict_unique ord (List.pairwise_map.2 h.inc) (List.pairwise_map.2 h'.inc) fun v => ?_
  simp only [List.mem_map]
  rw [h.mem, h'.mem]
  simp only [hp.mem_iff]
/-- Whatever the order of the facts with the same values, the canonical groups are the same. -/
theorem cgroups_unique {l l' : List Fact} {o o' : List Group} (h : GInv l o) (h' : GInv l' o') (hp : l.Perm l') (hg : Good l) : cgroups o = cgroups o' := by
  have hv := h.vals h' hp
  have hl : o.length = o'.length := by have := congrArg List.length hv; simpa using this
  unfold cgroups
  apply List.ext_getElem (by simp [hl])
  intro i h1 h2
  simp only [List.getElem_map]
  have hi : i < o.length := by simpa using h1
  have hi' : i < o'.length := by simpa using h2
  have ev : o[i].v = o'[i].v := by
    have := congrArg (·[i]?) hv
    simp only [List.getElem?_map, List.getElem?_eq_getElem hi, List.getElem?_eq_getElem hi', Option.map_some] at this
    exact Option.some.inj this
  have ht := h.times o[i] (List.getElem_mem hi)
  have ht' := h'.times o'[i] (List.getElem_mem hi')
  have hpt : o[i].t.Perm o'[i].t := by rw [ht, ht', ev]; exact (hp.filter _).map _
  rw [ev, canon_perm hpt fun s hs => ?_]
  rw [ht] at hs
  obtain ⟨f, hf, rfl⟩ := List.mem_map.1 hs
  exact spanB_pos (hg f (List.mem_filter.1 hf).1).2
theorem sortF_perm (l : List Fact) : (sortF l).Perm l := List.mergeSort_perm _ _
theorem Good.perm {l l' : List Fact} (h : Good l) (hp : l'.Perm l) : Good l' := fun f hf => h f (hp.mem_iff.1 hf)
theorem ascV_of {l : List Fact} (hg : Good l) (h : l.Pairwise fun x y => ¬ ordV y.v x.v < 0) : AscV l := by
  refine List.Pairwise.imp_of_mem (fun {x y} hx hy k => ?_) h
  rwa [ordV_valid (hg y hy).1 (hg x hx).1] at k
theorem sortF_asc (l : List Fact) : AscV (sortF l) := by
  have := List.pairwise_mergeSort (le := fun (x y : Fact) => decide (cmpL cmpV x.v y.v ≤ 0)) (fun a b c h1 h2 => ?_) (fun a b => ?_) l
  · refine this.imp fun {a b} h k => ?_
    have h' : cmpL cmpV a.v b.v ≤ 0 := by simpa using h
    have := (ord.swap b.v a.v).1 k
    omega
  · simp only [decide_eq_true_eq] at *
    have q1 : ¬ cmpL cmpV b.v a.v < 0 := fun k => by have := (ord.swap _ _).1 k; omega
    have q2 : ¬ cmpL cmpV c.v b.v < 0 := fun k => by have := (ord.swap _ _).1 k; omega
    have q3 := ord.le_trans q1 q2
    rcases Int.lt_or_le 0 (cmpL cmpV a.v c.v) with k | k
    · exact absurd ((ord.swap _ _).2 k) q3
    · exact k
  · simp only [Bool.or_eq_true, decide_eq_true_eq]
    rcases Int.lt_or_le 0 (cmpL cmpV a.v b.v) with k | k
    · right; have := (ord.swap b.v a.v).2 k; omega
    · exact .inl k
end Go.Civ

/- Groups that are being made: the last group's times are still written. -/
namespace Go.Civ
open Go.RowKit
set_option linter.unusedVariables false

def GroupW : Enc (List Val × Value) where
  n := 2
  rep G x cs := ∃ v, cs = [v, x.2] ∧ Sl ValE 32 G v x.1 ∧ x.2.oneCell' = true
  len := by rintro G x cs ⟨v, rfl, _⟩; rfl
  mono := by rintro G G' x cs hle ⟨v, rfl, h, k⟩; exact ⟨v, rfl, h.mono hle, k⟩
  one := by
    rintro G x cs ⟨v, rfl, h, k⟩ c hc
    simp at hc
    rcases hc with rfl | rfl
    · exact h.oneC
    · exact k
theorem GroupW_open {G : GH} {x : List Val × Value} {cs : List Value} (h : GroupW.rep G x cs) : ∃ v, cs = [v, x.2] ∧ Sl ValE 32 G v x.1 ∧ x.2.oneCell' = true := h
theorem GroupW_mk {G : GH} (x : List Val × Value) {v : Value} (h1 : Sl ValE 32 G v x.1) (h2 : x.2.oneCell' = true) : GroupW.rep G x [v, x.2] := ⟨v, rfl, h1, h2⟩

structure GRel (G : GH) (gs : List Group) (L : List (List Val × Value)) (u : Value) (T : List Span) : Prop where
  len : L.length = gs.length
  val : ∀ (i : Nat) g, gs[i]? = some g → ∃ p, L[i]? = some p ∧ p.1 = g.v ∧ (i + 1 < gs.length → Sl SpanE 16 G p.2 g.t)
  last : ∀ g, gs[gs.length - 1]? = some g → (∃ p, L[gs.length - 1]? = some p ∧ p.2 = u) ∧ T = g.t
section
variable {G G' : GH} {gs : List Group} {L : List (List Val × Value)} {u : Value} {T : List Span} {f : Fact} {x : List Val × Value}
theorem GRel.mono (h : GRel G gs L u T) (k : G.le G') : GRel G' gs L u T :=
  ⟨h.len, fun i g hg => let ⟨p, h1, h2, h3⟩ := h.val i g hg; ⟨p, h1, h2, fun q => (h3 q).mono k⟩, h.last⟩
theorem GRel.nil : GRel G [] [] u T := ⟨rfl, fun i g h => by simp at h, fun g h => by simp at h⟩
theorem GRel.at (h : GRel G gs L u T) (hx : L[L.length - 1]? = some x) : ∃ g, gs[gs.length - 1]? = some g ∧ x.1 = g.v ∧ x.2 = u ∧ T = g.t := by
  have hl : L.length - 1 < L.length := (List.getElem?_eq_some_iff.1 hx).1
  rw [h.len] at hx hl
  obtain ⟨g, hg⟩ : ∃ g, gs[gs.length - 1]? = some g := ⟨_, List.getElem?_eq_getElem hl⟩
  obtain ⟨p, h1, h2, _⟩ := h.val _ g hg
  obtain ⟨⟨p', h3, h4⟩, h5⟩ := h.last g hg
  rw [hx] at h1 h3
  obtain rfl := Option.some.inj h1
  obtain rfl := Option.some.inj h3
  exact ⟨g, hg, h2, h4, h5⟩
theorem gstep_join {g : Group} (hg : gs[gs.length - 1]? = some g) (ho : ordV g.v f.v = 0) : gstep gs f = gs.set (gs.length - 1) ⟨g.v, g.t ++ [f.t]⟩ := by
  unfold gstep; rw [hg]; simp [ho]
theorem gstep_new (h : gs.length = 0 ∨ ∃ g, gs[gs.length - 1]? = some g ∧ ordV g.v f.v ≠ 0) : gstep gs f = gs ++ [⟨f.v, [f.t]⟩] := by
  rcases h with h | ⟨g, hg, ho⟩
  · obtain rfl := List.length_eq_zero_iff.1 h; rfl
  · unfold gstep; rw [hg]; simp [ho]
theorem GRel.join {v2 : Value} (h : GRel G gs L u T) (hx : L[L.length - 1]? = some x) (ho : ordV x.1 f.v = 0) : GRel G (gstep gs f) (L.set (L.length - 1) (x.1, v2)) v2 (T ++ [f.t]) := by
  obtain ⟨g, hg, h1, h2, rfl⟩ := h.at hx
  have hl : gs.length - 1 < gs.length := (List.getElem?_eq_some_iff.1 hg).1
  rw [gstep_join hg (by rw [← h1]; exact ho)]
  refine ⟨by simp [h.len], fun i g' hg' => ?_, fun g' hg' => ?_⟩
  · rw [List.getElem?_set] at hg'
    rw [List.length_set]
    by_cases hi : gs.length - 1 = i
    · rw [if_pos hi, if_pos (by omega)] at hg'
      obtain rfl := Option.some.inj hg'
      refine ⟨(x.1, v2), ?_, h1, fun q => by omega⟩
      rw [List.getElem?_set, if_pos (by rw [h.len]; exact hi), if_pos (by rw [h.len]; omega)]
    · rw [if_neg hi] at hg'
      obtain ⟨p, k1, k2, k3⟩ := h.val i g' hg'
      exact ⟨p, by rw [List.getElem?_set, if_neg (by rw [h.len]; exact hi)]; exact k1, k2, k3⟩
  · rw [List.length_set, List.getElem?_set, if_pos rfl, if_pos hl] at hg'
    obtain rfl := Option.some.inj hg'
    refine ⟨⟨(x.1, v2), ?_, rfl⟩, rfl⟩
    rw [List.length_set, List.getElem?_set, if_pos (by rw [h.len]), if_pos (by rw [h.len]; omega)]
theorem GRel.done (h : GRel G gs L u T) (hf : Sl SpanE 16 G u T) : ∀ (i : Nat) g, gs[i]? = some g → ∃ p, L[i]? = some p ∧ p.1 = g.v ∧ Sl SpanE 16 G p.2 g.t := fun i g hg => by
  obtain ⟨p, h1, h2, h3⟩ := h.val i g hg
  refine ⟨p, h1, h2, ?_⟩
  have hi : i < gs.length := (List.getElem?_eq_some_iff.1 hg).1
  by_cases hq : i + 1 < gs.length
  · exact h3 hq
  · have e : i = gs.length - 1 := by omega
    subst e
    obtain ⟨⟨p', k1, k2⟩, k3⟩ := h.last g hg
    rw [h1] at k1; obtain rfl := Option.some.inj k1
    rw [k2, ← k3]; exact hf
theorem GRel.push {u' : Value} (h : GRel G gs L u T) (hf : Sl SpanE 16 G u T) (hc : L.length = 0 ∨ ∃ x, L[L.length - 1]? = some x ∧ ordV x.1 f.v ≠ 0) : GRel G (gstep gs f) (L ++ [(f.v, u')]) u' [f.t] := by
  have hc' : gs.length = 0 ∨ ∃ g, gs[gs.length - 1]? = some g ∧ ordV g.v f.v ≠ 0 := by
    rcases hc with hc | ⟨x, hx, ho⟩
    · exact .inl (by rw [← h.len]; exact hc)
    · obtain ⟨g, hg, h1, _⟩ := h.at hx
      exact .inr ⟨g, hg, by rw [← h1]; exact ho⟩
  rw [gstep_new hc']
  have hd := h.done hf
  refine ⟨by simp [h.len], fun i g hg => ?_, fun g hg => ?_⟩
  · rw [List.getElem?_append] at hg
    split at hg
    · rename_i hi
      obtain ⟨p, k1, k2, k3⟩ := hd i g hg
      exact ⟨p, by rw [List.getElem?_append, if_pos (by rw [h.len]; exact hi)]; exact k1, k2, fun _ => k3⟩
    · rename_i hi
      have hi2 : i - gs.length < [(⟨f.v, [f.t]⟩ : Group)].length := (List.getElem?_eq_some_iff.1 hg).1
      have e : i = gs.length := by simp at hi2; omega
      subst e
      simp at hg; subst hg
      exact ⟨(f.v, u'), by rw [← h.len]; simp, rfl, fun q => by simp at q⟩
  · simp at hg; subst hg
    exact ⟨⟨(f.v, u'), by simp [← h.len], rfl⟩, rfl⟩
theorem flat_groups {G : GH} : ∀ {L : List (List Val × Value)} {gs : List Group} {xs : List Value}, L.length = gs.length → (∀ (i : Nat) g, gs[i]? = some g → ∃ p, L[i]? = some p ∧ p.1 = g.v ∧ Sl SpanE 16 G p.2 g.t) → Flat GroupW G L xs → Flat GroupE G gs xs
  | [], [], _, _, _, h => h
  | [], _ :: _, _, h, _, _ => by simp at h
  | _ :: _, [], _, h, _, _ => by simp at h
  | p :: L, g :: gs, xs, hl, h, ⟨c, r, h1, ⟨v, h2, h3, h4⟩, h5⟩ => by
    obtain ⟨p', k1, k2, k3⟩ := h 0 g rfl
    simp at k1; subst k1
    refine ⟨c, r, h1, ?_, flat_groups (by simpa using hl) (fun i g hg => ?_) h5⟩
    · subst h2; exact GroupE_mk g (by rw [← k2]; exact h3) k3
    · obtain ⟨p', q1, q2⟩ := h (i + 1) g (by simpa using hg)
      exact ⟨p', by simpa using q1, q2⟩
theorem Row.groups {e : TypeId} {v : Value} {o : OB} (hr : Row GroupW 48 e G v L o) (hl : L.length = gs.length) (h : ∀ (i : Nat) g, gs[i]? = some g → ∃ p, L[i]? = some p ∧ p.1 = g.v ∧ Sl SpanE 16 G p.2 g.t) : Row GroupE 48 e G v gs o := by
  rcases hr with ⟨h1, h2, rfl⟩ | ⟨b, cs, cap, xs, h1, h2, h3, h4, h5, h6, h7, h8, h9⟩
  · refine .inl ⟨h1, h2, List.length_eq_zero_iff.1 (by simpa using hl.symm)⟩
  · exact .inr ⟨b, cs, cap, xs, h1, by rw [← hl]; exact h2, by rw [← hl]; exact h3, h4, h5, flat_groups hl h h6, by rw [← hl]; exact h7, by rw [← hl]; exact h8, by rw [← hl]; exact h9⟩
/-- A literal, as a row. -/
theorem Row.ofNew {α : Type} {E : Enc α} {by_ : Nat} {e : TypeId} {b : Nat} {cs : List Value} {l : List α} {n : Nat} (hf : Flat E G l cs) (hn : n = l.length) (h1 : n * by_ ≤ reach) (h2 : n ≤ reach) : Row E by_ e G (.slice (some ⟨b, 0, none⟩) n n) l (some (b, e, cs)) := by
  subst hn
  exact .inr ⟨b, cs, l.length, cs, rfl, rfl, Nat.le_refl _, by unfold reach at h2; unfold maxLen; omega, hf.len, hf, List.take_of_length_le (by rw [hf.len]; exact Nat.le_refl _), h1, h2⟩
end
theorem gstep_len (out : List Group) (f : Fact) : (gstep out f).length ≤ out.length + 1 := by
  unfold gstep; split
  · simp
  · split <;> simp
theorem groupL_len (l : List Fact) : (groupL l).length ≤ l.length := by
  have : ∀ (l : List Fact) (out : List Group), (l.foldl gstep out).length ≤ out.length + l.length := by
    intro l
    induction l with
    | nil => simp
    | cons x l ih => intro out; have := ih (gstep out x); have := gstep_len out x; simp; omega
  have := this l []; simpa [groupL] using this
/-- What the sort leaves, grouped. -/
theorem grp_of {l s : List Fact} (hg : Good l) (hp : s.Perm l) (hs : AscV s) : cgroups (groupL s) = grp l := by
  have hm := sortF_asc l
  exact cgroups_unique (groupL_inv _ s rfl (fun f hf => (hg f (hp.mem_iff.1 hf)).1) hs) (groupL_inv _ _ rfl (fun f hf => (hg f ((sortF_perm l).mem_iff.1 hf)).1) hm) (hp.trans (sortF_perm l).symm) (hg.perm hp)
/-- What the stable sort's contract says is ascending. -/
theorem ins_asc {l s : List Fact} {pf : Fact → Fact → Int} (hg : Good l) (h : Ins pf l s 0 l.length l.length) (hpf : ∀ x y, pf x y = ordV x.v y.v) : AscV s := by
  refine ascV_of (hg.perm h.perm) ?_
  rw [List.pairwise_iff_getElem]
  intro i j hi hj hij
  have := h.asc i j s[i] s[j] (Nat.zero_le _) hij (by rw [← h.perm.length_eq]; exact hj) (List.getElem?_eq_getElem hi) (List.getElem?_eq_getElem hj)
  rwa [hpf] at this
theorem ordV_A {l : List Fact} (hg : Good l) : ∀ x ∈ l, ∀ y ∈ l, ordV x.v y.v < 0 → ¬ ordV y.v x.v < 0 := fun x hx y hy h => by
  rw [ordV_valid (hg x hx).1 (hg y hy).1] at h; rw [ordV_valid (hg y hy).1 (hg x hx).1]; exact ord.asym h
theorem ordV_T {l : List Fact} (hg : Good l) : ∀ x ∈ l, ∀ y ∈ l, ∀ z ∈ l, ¬ ordV y.v x.v < 0 → ¬ ordV z.v y.v < 0 → ¬ ordV z.v x.v < 0 := fun x hx y hy z hz => by
  rw [ordV_valid (hg y hy).1 (hg x hx).1, ordV_valid (hg z hz).1 (hg y hy).1, ordV_valid (hg z hz).1 (hg x hx).1]; exact ord.le_trans
def cg (g : Group) : Group := ⟨g.v, canon g.t⟩
def cgs (gs : List Group) (k : Nat) : List Group := (gs.take k).map cg ++ gs.drop k
theorem cgs_zero (gs : List Group) : cgs gs 0 = gs := by simp [cgs]
theorem cgs_len (gs : List Group) (k : Nat) : (cgs gs k).length = gs.length := by simp [cgs]; omega
theorem cgs_at {gs : List Group} {k : Nat} {x : Group} (h : (cgs gs k)[k]? = some x) : gs[k]? = some x := by
  have hk : k < gs.length := by have := (List.getElem?_eq_some_iff.1 h).1; rwa [cgs_len] at this
  have e : ((gs.take k).map cg).length = k := by simp; omega
  unfold cgs at h
  rw [List.getElem?_append_right (by omega), e] at h
  simpa using h
theorem cgs_step {gs : List Group} {k : Nat} {x : Group} (h : (cgs gs k)[k]? = some x) : (cgs gs k).set k ⟨x.v, canon x.t⟩ = cgs gs (k + 1) := by
  have hg := cgs_at h
  have hk : k < gs.length := (List.getElem?_eq_some_iff.1 hg).1
  have e : ((gs.take k).map cg).length = k := by simp; omega
  unfold cgs
  rw [List.set_append_right _ _ (by omega), e, Nat.sub_self, List.drop_eq_getElem_cons hk, List.set_cons_zero, List.take_add_one, hg]
  rw [List.getElem?_eq_getElem hk] at hg
  simp [cg]
theorem cgs_all {gs : List Group} {k : Nat} (h : gs.length ≤ k) : cgs gs k = cgroups gs := by
  unfold cgs cgroups
  rw [List.take_of_length_le h, List.drop_eq_nil_of_le h]; simp [cg]
theorem groupL_times {l s : List Fact} (hg : Good l) (hp : s.Perm l) (hs : AscV s) : ∀ g ∈ groupL s, ∀ t ∈ g.t, spanB t = true := fun g h t ht => by
  have hi := groupL_inv _ s rfl (fun f hf => (hg f (hp.mem_iff.1 hf)).1) hs
  rw [hi.times g h] at ht
  obtain ⟨f, hf, rfl⟩ := List.mem_map.1 ht
  exact (hg f (hp.mem_iff.1 (List.mem_filter.1 hf).1)).2
end Go.Civ

/- Normal forms. -/
namespace Go.Civ
set_option linter.unusedVariables false

def fitB (l : List Fact) : Bool := decide (l.length ≤ 1000) && (decide (l.length = 0) || decide ((l.head?.elim [] Fact.v).length ≤ 8))
def finL (l : List Fact) : List Fact := if fitB (nf l) then nf l else []
def finE (l : List Fact) : Int := if fitB (nf l) then 0 else 5
def normL (l : List Fact) : List Fact := if validB l then finL l else []
def normE (l : List Fact) : Int := if validB l then finE l else 1
theorem listedL_append (a b : List Group) : listedL (a ++ b) = listedL a ++ listedL b := by simp [listedL]
theorem listedL_take {gs : List Group} {k : Nat} {g : Group} (h : gs[k]? = some g) : listedL (gs.take (k + 1)) = listedL (gs.take k) ++ g.t.map (Fact.mk g.v) := by
  rw [List.take_add_one, h, Option.toList_some, listedL_append]; simp [listedL]
theorem listedL_step {gs : List Group} {k j : Nat} {g : Group} (h : gs[k]? = some g) (hj : g.t.length ≤ j) : listedL (gs.take k) ++ (g.t.take j).map (Fact.mk g.v) = listedL (gs.take (k + 1)) := by
  rw [listedL_take h, List.take_of_length_le hj]
theorem map_take {g : Group} {k : Nat} {s : Span} (h : g.t[k]? = some s) : (g.t.take (k + 1)).map (Fact.mk g.v) = (g.t.take k).map (Fact.mk g.v) ++ [⟨g.v, s⟩] := by
  rw [List.take_add_one, h]; simp
theorem listed_part {gs : List Group} {k j : Nat} {g : Group} (h : gs[k]? = some g) (hj : j ≤ g.t.length) : (listedL (gs.take k) ++ (g.t.take j).map (Fact.mk g.v)).length + (g.t.length - j) ≤ (listedL gs).length := by
  have h1 := listedL_take h
  have h2 : listedL gs = listedL (gs.take (k + 1)) ++ listedL (gs.drop (k + 1)) := by rw [← listedL_append, List.take_append_drop]
  rw [h2, h1]; simp; omega
theorem listed_all {gs : List Group} {k : Nat} (h : gs.length ≤ k) : listedL (gs.take k) = listedL gs := by rw [List.take_of_length_le h]
def total (gs : List Group) : Nat := (gs.map fun g => g.t.length).sum
theorem total_append (a b : List Group) : total (a ++ b) = total a + total b := by simp [total]
theorem gstep_total (out : List Group) (f : Fact) : total (gstep out f) = total out + 1 := by
  rcases List.eq_nil_or_concat out with rfl | ⟨o, q, h⟩
  · simp [gstep, total]
  · have h : out = o ++ [q] := by simpa using h
    subst h
    rw [gstep_last]
    split
    · simp [total]; omega
    · simp [total]; omega
theorem groupL_total (l : List Fact) : total (groupL l) = l.length := by
  have : ∀ (l : List Fact) (out : List Group), total (l.foldl gstep out) = total out + l.length := by
    intro l
    induction l with
    | nil => simp
    | cons x l ih => intro out; have h1 := ih (gstep out x); have h2 := gstep_total out x; simp only [List.foldl_cons, List.length_cons]; omega
  have := this l []; simpa [groupL, total] using this
theorem listedL_len (gs : List Group) : (listedL gs).length = total gs := by simp [listedL, total, List.length_flatMap]
theorem cgroups_total (gs : List Group) : total (cgroups gs) ≤ total gs := by
  induction gs with
  | nil => simp [total, cgroups]
  | cons g gs ih =>
    have := canon_len (l := g.t)
    simp only [total, cgroups, List.map_cons, List.sum_cons] at *; omega
theorem nf_len (l : List Fact) : (nf l).length ≤ l.length := by
  unfold nf grp
  rw [listedL_len]
  have h1 := cgroups_total (groupL (sortF l))
  have h2 := groupL_total (sortF l)
  have h3 := (sortF_perm l).length_eq
  omega
theorem good_of_valid {l : List Fact} (h : validB l = true) : Good l := fun f hf => by
  unfold validB at h
  simp only [Bool.and_eq_true, List.all_eq_true] at h
  have := factB_eq.1 (h.2 f hf)
  exact ⟨this.2.2.2, this.1⟩
theorem fitB_false {l : List Fact} {x : Fact} (h1 : l.length ≤ 1000) (h0 : l[0]? = some x) : fitB l = decide (x.v.length ≤ 8) := by
  unfold fitB
  have hl : 0 < l.length := (List.getElem?_eq_some_iff.1 h0).1
  rw [List.head?_eq_getElem?, h0, decide_eq_true h1, decide_eq_false (by omega : ¬ l.length = 0)]; rfl
def atN (l : List Fact) (t : Int) : List (List Val) := (l.filter fun f => spanHas f.t t).map Fact.v
def atL (l : List Fact) (t : Int) : List (List Val) := atN (normL l) t
theorem atN_take {l : List Fact} {k : Nat} {x : Fact} {t : Int} (h : l[k]? = some x) : atN (l.take (k + 1)) t = atN (l.take k) t ++ (if spanHas x.t t then [x.v] else []) := by
  unfold atN
  rw [List.take_add_one, h, Option.toList_some, List.filter_append, List.map_append]
  congr 1
  cases e : spanHas x.t t <;> simp [e]
theorem atN_len (l : List Fact) (k : Nat) (t : Int) : (atN (l.take k) t).length ≤ l.length := by
  unfold atN
  rw [List.length_map]
  exact Nat.le_trans (List.length_filter_le _ _) (List.length_take_le' _ _)
theorem normL_len (l : List Fact) : (normL l).length ≤ l.length := by
  unfold normL finL
  have := nf_len l
  split
  · split
    · exact this
    · simp
  · simp
theorem valid_le {l : List Fact} (h : validB l = true) : l.length ≤ 1000 := by unfold validB at h; simp only [Bool.and_eq_true, decide_eq_true_eq] at h; exact h.1
theorem normL_le (l : List Fact) : (normL l).length ≤ 1000 := by
  cases h : validB l with
  | false => unfold normL; rw [h]; simp
  | true => exact Nat.le_trans (normL_len l) (valid_le h)
theorem atN_all {l : List Fact} {k : Nat} {t : Int} (h : (normL l).length ≤ k) : atN ((normL l).take k) t = atL l t := by rw [List.take_of_length_le h]; rfl
end Go.Civ
