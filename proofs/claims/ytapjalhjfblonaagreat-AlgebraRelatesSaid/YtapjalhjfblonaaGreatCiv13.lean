/- Spans: canonical lists. -/
import Derived.Test.YtapjalhjfblonaaGreatCiv12
namespace Go.Civ
set_option linter.unusedVariables false

def cover (r : List Span) (x : Int) : Prop := ∃ s ∈ r, s.a ≤ x ∧ x < s.b
/-- Sorted, apart, none empty. -/
structure Can (r : List Span) : Prop where
  apart : r.Pairwise fun p q => p.b < q.a
  pos : ∀ s ∈ r, s.a < s.b
theorem Can.tail {s : Span} {r : List Span} (h : Can (s :: r)) : Can r := ⟨(List.pairwise_cons.1 h.apart).2, fun t ht => h.pos t (by simp [ht])⟩
theorem cover_cons {s : Span} {r : List Span} {x : Int} : cover (s :: r) x ↔ (s.a ≤ x ∧ x < s.b) ∨ cover r x := by simp [cover]
theorem Can.above {s : Span} {r : List Span} (h : Can (s :: r)) {x : Int} (hx : cover r x) : s.b < x := by
  obtain ⟨t, ht, h1, h2⟩ := hx
  have := (List.pairwise_cons.1 h.apart).1 t ht
  omega
theorem Can.unique : ∀ {r r' : List Span}, Can r → Can r' → (∀ x, cover r x ↔ cover r' x) → r = r'
  | [], [], _, _, _ => rfl
  | [], s :: r', _, h', h => by
    have := (h s.a).2 (cover_cons.2 (.inl ⟨by omega, h'.pos s (by simp)⟩))
    obtain ⟨_, ht, _⟩ := this; simp at ht
  | s :: r, [], h', _, h => by
    have := (h s.a).1 (cover_cons.2 (.inl ⟨by omega, h'.pos s (by simp)⟩))
    obtain ⟨_, ht, _⟩ := this; simp at ht
  | s :: r, s' :: r', h1, h2, h => by
    have p1 := h1.pos s (by simp)
    have p2 := h2.pos s' (by simp)
    have a1 : s'.a ≤ s.a := by
      rcases cover_cons.1 ((h s.a).1 (cover_cons.2 (.inl ⟨by omega, p1⟩))) with k | k
      · exact k.1
      · have := h2.above k; omega
    have a2 : s.a ≤ s'.a := by
      rcases cover_cons.1 ((h s'.a).2 (cover_cons.2 (.inl ⟨by omega, p2⟩))) with k | k
      · exact k.1
      · have := h1.above k; omega
    have b1 : s'.b ≤ s.b := by
      rcases Int.lt_or_le s.b s'.b with k | k
      · rcases cover_cons.1 ((h s.b).2 (cover_cons.2 (.inl ⟨by omega, k⟩))) with k | k
        · omega
        · have := h1.above k; omega
      · exact k
    have b2 : s.b ≤ s'.b := by
      rcases Int.lt_or_le s'.b s.b with k | k
      · rcases cover_cons.1 ((h s'.b).1 (cover_cons.2 (.inl ⟨by omega, k⟩))) with k | k
        · omega
        · have := h2.above k; omega
      · exact k
    have e : s = s' := by
      cases s; cases s'; simp only [Span.mk.injEq]; exact ⟨by simp only at a1 a2; omega, by simp only at b1 b2; omega⟩
    subst e
    rw [Can.unique h1.tail h2.tail fun x => ?_]
    constructor
    · intro k
      have := h1.above k
      rcases cover_cons.1 ((h x).1 (cover_cons.2 (.inr k))) with q | q
      · omega
      · exact q
    · intro k
      have := h2.above k
      rcases cover_cons.1 ((h x).2 (cover_cons.2 (.inr k))) with q | q
      · omega
      · exact q

def mstep (out : List Span) (x : Span) : List Span :=
  match out[out.length - 1]? with
  | none => out ++ [x]
  | some p => if x.a ≤ p.b then out.set (out.length - 1) ⟨p.a, max p.b x.b⟩ else out ++ [x]
def mergeS (l : List Span) : List Span := l.foldl mstep []
def sortA (l : List Span) : List Span := l.mergeSort fun x y => decide (x.a ≤ y.a)
/-- The canonical list of what spans cover. -/
def canon (l : List Span) : List Span := mergeS (sortA l)

theorem mstep_nil (x : Span) : mstep [] x = [x] := rfl
theorem mstep_last (out : List Span) (p x : Span) : mstep (out ++ [p]) x = if x.a ≤ p.b then out ++ [⟨p.a, max p.b x.b⟩] else out ++ [p] ++ [x] := by
  unfold mstep
  have e : (out ++ [p]).length - 1 = out.length := by simp
  rw [e, List.getElem?_append_right (Nat.le_refl _)]
  simp only [Nat.sub_self, List.getElem?_cons_zero]
  split
  · rw [List.set_append_right _ _ (Nat.le_refl _)]; simp
  · rfl
theorem mergeS_snoc (l : List Span) (x : Span) : mergeS (l ++ [x]) = mstep (mergeS l) x := by simp [mergeS, List.foldl_append]
theorem mergeS_take {l : List Span} {k : Nat} {x : Span} (h : l[k]? = some x) : mergeS (l.take (k + 1)) = mstep (mergeS (l.take k)) x := by
  rw [List.take_add_one, h]; exact mergeS_snoc _ _
theorem mstep_push {out : List Span} {x : Span} (h : out.length = 0) : mstep out x = out ++ [x] := by
  obtain rfl := List.length_eq_zero_iff.1 h; rfl
theorem mstep_join {out : List Span} {x p : Span} (h : out[out.length - 1]? = some p) (hx : x.a ≤ p.b) : mstep out x = out.set (out.length - 1) ⟨p.a, max p.b x.b⟩ := by
  unfold mstep; rw [h]; simp [hx]
theorem mstep_push' {out : List Span} {x p : Span} (h : out[out.length - 1]? = some p) (hx : p.b < x.a) : mstep out x = out ++ [x] := by
  unfold mstep; rw [h]; simp only; rw [if_neg (by omega)]
theorem cover_append {r t : List Span} {x : Int} : cover (r ++ t) x ↔ cover r x ∨ cover t x := by
  simp only [cover, List.mem_append]
  constructor
  · rintro ⟨s, h | h, k⟩
    · exact .inl ⟨s, h, k⟩
    · exact .inr ⟨s, h, k⟩
  · rintro (⟨s, h, k⟩ | ⟨s, h, k⟩)
    · exact ⟨s, .inl h, k⟩
    · exact ⟨s, .inr h, k⟩
theorem cover_one {s : Span} {x : Int} : cover [s] x ↔ s.a ≤ x ∧ x < s.b := by simp [cover]
theorem cover_perm {r t : List Span} (h : r.Perm t) {x : Int} : cover r x ↔ cover t x := by simp only [cover, h.mem_iff]

structure MInv (p out : List Span) : Prop where
  can : Can out
  cov : ∀ x, cover out x ↔ cover p x
  from_ : ∀ s ∈ out, ∃ q ∈ p, s.a = q.a
  len : out.length ≤ p.length
theorem mergeS_inv : ∀ (n : Nat) (l : List Span), l.length = n → l.Pairwise (fun x y => x.a ≤ y.a) → (∀ s ∈ l, s.a < s.b) → MInv l (mergeS l)
  | 0, l, hn, _, _ => by
    obtain rfl := List.length_eq_zero_iff.1 hn
    exact ⟨⟨List.Pairwise.nil, by simp [mergeS]⟩, fun _ => Iff.rfl, by simp [mergeS], Nat.le_refl _⟩
  | n + 1, l, hn, hs, hp => by
    obtain ⟨p, x, rfl⟩ : ∃ p x, l = p ++ [x] := by
      rcases List.eq_nil_or_concat l with rfl | ⟨p, x, h⟩
      · simp at hn
      · exact ⟨p, x, by simpa using h⟩
    have hs' := List.pairwise_append.1 hs
    have ih := mergeS_inv n p (by simpa using hn) hs'.1 fun s h => hp s (by simp [h])
    have hx : x.a < x.b := hp x (by simp)
    rw [mergeS_snoc]
    rcases List.eq_nil_or_concat (mergeS p) with h0 | ⟨o, q, h0⟩
    · rw [h0, mstep_nil]
      rw [h0] at ih
      refine ⟨⟨by simp, by simpa using hx⟩, fun y => ?_, by simp, by simp⟩
      rw [cover_append, ← ih.cov y]
      simp [cover]
    · have h0 : mergeS p = o ++ [q] := by simpa using h0
      rw [h0] at ih ⊢
      have hap := List.pairwise_append.1 ih.can.apart
      have hq : q.a < q.b := ih.can.pos q (by simp)
      have hqx : q.a ≤ x.a := by
        obtain ⟨z, hz, e⟩ := ih.from_ q (by simp)
        rw [e]; exact hs'.2.2 z hz x (by simp)
      rw [mstep_last]
      split
      · rename_i hj
        have hm : max q.b x.b = if q.b ≤ x.b then x.b else q.b := by rw [Int.max_def]
        refine ⟨⟨List.pairwise_append.2 ⟨hap.1, by simp, fun u hu v hv => ?_⟩, fun s hs => ?_⟩, fun y => ?_, fun s hs => ?_, ?_⟩
        · obtain rfl := List.mem_singleton.1 hv
          exact hap.2.2 u hu q (by simp)
        · rcases List.mem_append.1 hs with hs | hs
          · exact ih.can.pos s (by simp [hs])
          · obtain rfl := List.mem_singleton.1 hs
            simp only; rw [hm]; split <;> omega
        · rw [cover_append, cover_append, ← ih.cov y, cover_append, or_assoc]
          refine or_congr Iff.rfl ?_
          rw [cover_one, cover_one, cover_one]
          simp only; rw [hm]
          split <;> constructor <;> intro h <;> omega
        · rcases List.mem_append.1 hs with hs | hs
          · obtain ⟨z, hz, e⟩ := ih.from_ s (by simp [hs])
            exact ⟨z, by simp [hz], e⟩
          · obtain rfl := List.mem_singleton.1 hs
            obtain ⟨z, hz, e⟩ := ih.from_ q (by simp)
            exact ⟨z, by simp [hz], e⟩
        · have := ih.len; simp at this ⊢; omega
      · rename_i hj
        refine ⟨⟨List.pairwise_append.2 ⟨ih.can.apart, by simp, fun u hu v hv => ?_⟩, fun s hs => ?_⟩, fun y => ?_, fun s hs => ?_, ?_⟩
        · obtain rfl := List.mem_singleton.1 hv
          rcases List.mem_append.1 hu with hu | hu
          · have := hap.2.2 u hu q (by simp); omega
          · obtain rfl := List.mem_singleton.1 hu; omega
        · rcases List.mem_append.1 hs with hs | hs
          · exact ih.can.pos s hs
          · obtain rfl := List.mem_singleton.1 hs; exact hx
        · rw [cover_append (r := o ++ [q]), cover_append (r := p), ← ih.cov y]
        · rcases List.mem_append.1 hs with hs | hs
          · obtain ⟨z, hz, e⟩ := ih.from_ s hs
            exact ⟨z, by simp [hz], e⟩
          · obtain rfl := List.mem_singleton.1 hs
            exact ⟨_, by simp, rfl⟩
        · have := ih.len; simp at this ⊢; omega
theorem mergeS_sorted {l s : List Span} (hp : s.Perm l) (hs : s.Pairwise fun x y => x.a ≤ y.a) (hv : ∀ x ∈ l, x.a < x.b) : MInv l (mergeS s) := by
  have h := mergeS_inv s.length s rfl hs fun x hx => hv x (hp.mem_iff.1 hx)
  exact ⟨h.can, fun x => (h.cov x).trans (cover_perm hp), fun x hx => (h.from_ x hx).imp fun q k => ⟨hp.mem_iff.1 k.1, k.2⟩, by rw [← hp.length_eq]; exact h.len⟩
theorem sortA_perm (l : List Span) : (sortA l).Perm l := List.mergeSort_perm _ _
theorem sortA_asc (l : List Span) : (sortA l).Pairwise fun x y => x.a ≤ y.a := by
  have := List.pairwise_mergeSort (le := fun (x y : Span) => decide (x.a ≤ y.a)) (fun a b c h1 h2 => by simp at *; omega) (fun a b => by simp; omega) l
  exact this.imp fun h => by simpa using h
theorem canon_inv {l : List Span} (hv : ∀ x ∈ l, x.a < x.b) : MInv l (canon l) := mergeS_sorted (sortA_perm l) (sortA_asc l) hv
/-- Whatever the order of the spans that begin together. -/
theorem mergeS_canon {l s : List Span} (hp : s.Perm l) (hs : s.Pairwise fun x y => x.a ≤ y.a) (hv : ∀ x ∈ l, x.a < x.b) : mergeS s = canon l :=
  Can.unique (mergeS_sorted hp hs hv).can (canon_inv hv).can fun x => ((mergeS_sorted hp hs hv).cov x).trans ((canon_inv hv).cov x).symm
theorem canon_perm {l l' : List Span} (hp : l.Perm l') (hv : ∀ x ∈ l, x.a < x.b) : canon l = canon l' :=
  Can.unique (canon_inv hv).can (canon_inv fun x hx => hv x (hp.mem_iff.2 hx)).can fun x => ((canon_inv hv).cov x).trans ((cover_perm hp).trans ((canon_inv fun x hx => hv x (hp.mem_iff.2 hx)).cov x).symm)
/-- Ascending by their beginnings. -/
def AscA (l : List Span) : Prop := l.Pairwise fun x y => x.a ≤ y.a
theorem mstep_len (out : List Span) (x : Span) : (mstep out x).length ≤ out.length + 1 := by
  unfold mstep; split
  · simp
  · split <;> simp
theorem mergeS_len (l : List Span) : (mergeS l).length ≤ l.length := by
  rcases Nat.lt_or_ge 0 l.length with h | h
  · have : ∀ (l out : List Span), (l.foldl mstep out).length ≤ out.length + l.length := by
      intro l
      induction l with
      | nil => simp
      | cons x l ih => intro out; have := ih (mstep out x); have := mstep_len out x; simp; omega
    have := this l []; simpa [mergeS] using this
  · obtain rfl := List.length_eq_zero_iff.1 (by omega : l.length = 0); simp [mergeS]
theorem spanB_pos {s : Span} (h : spanB s = true) : s.a < s.b := by unfold spanB at h; simp at h; omega
theorem spanB_from {s : Span} (h : spanB s = true) : -4398046511104 ≤ s.a ∧ s.a ≤ 4398046511104 := by unfold spanB at h; simp at h; omega
theorem merged_ret {l l1 : List Span} {k : Nat} (h : l1.Perm l ∧ AscA l1) (hB : ∀ s ∈ l, spanB s = true) (hk : l1.length ≤ k) : mergeS (l1.take k) = canon l := by
  rw [List.take_of_length_le hk]
  exact mergeS_canon h.1 h.2 fun x hx => spanB_pos (hB x hx)
theorem canon_len {l : List Span} : (canon l).length ≤ l.length := by
  have := mergeS_len (sortA l); rw [(sortA_perm l).length_eq] at this; exact this
end Go.Civ
