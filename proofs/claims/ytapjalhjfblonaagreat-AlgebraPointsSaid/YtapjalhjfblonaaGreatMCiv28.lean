/- Runs: the sweep over two canonical lists of spans. -/
import Derived.Test.YtapjalhjfblonaaGreatMCiv27
namespace Go.Civ
open Go.RowKit
set_option linter.unusedVariables false

section
variable {P : Program} {Q : Exit → Env → World → Prop} {ρ : Env} {w : World} {ops : Array Oper} {rest : List Oper} {K : Env → World → Prop}
variable {d : Nat} {ty : TypeId} {pos : String} {af : Array Edge} {g : Option (Nat × Bool)} {G : GH}
theorem WL.quoN {t ty' : TypeId} {x y : Operand} (a b : Nat) (hb : 0 < b) (ha : a ≤ 4 * reach)
    (hw : Region.wanted ⟨some d, .binOp .quo t x y ty', ty, pos, af, g⟩ (yieldE ops ρ) = true) (hx : ev ρ x = .int .i64 (a : Int)) (hy : ev ρ y = .int .i64 (b : Int))
    (kk : K (upd ρ d (.int .i64 ((a / b : Nat) : Int))) w) : OW P ops ⟨some d, .binOp .quo t x y ty', ty, pos, af, g⟩ ρ w K := by
  have h1 : a / b ≤ a := Nat.div_le_self a b
  have e1 : Int.tdiv (a : Int) (b : Int) = ((a / b : Nat) : Int) := by rw [Int.tdiv_eq_ediv_of_nonneg (by omega)]; simp
  generalize a / b = q at h1 e1 kk
  refine WL.val hw ?_ rfl kk
  have hI : I64 (q : Int) := by clear e1; exact ⟨by omega, by unfold reach at ha; omega⟩
  simp [execOp, hx, hy, binOp, run_guard_int, Op.intDiv, show b ≠ 0 by omega, e1, wrap_in hI, Result.andThen]
theorem WL.remN {t ty' : TypeId} {x y : Operand} (a b : Nat) (hb : 0 < b) (ha : a ≤ 4 * reach)
    (hw : Region.wanted ⟨some d, .binOp .rem t x y ty', ty, pos, af, g⟩ (yieldE ops ρ) = true) (hx : ev ρ x = .int .i64 (a : Int)) (hy : ev ρ y = .int .i64 (b : Int))
    (kk : K (upd ρ d (.int .i64 ((a % b : Nat) : Int))) w) : OW P ops ⟨some d, .binOp .rem t x y ty', ty, pos, af, g⟩ ρ w K := by
  have e1 : Int.tmod (a : Int) (b : Int) = ((a % b : Nat) : Int) := by rw [Int.tmod_eq_emod_of_nonneg (by omega)]; simp
  generalize a % b = q at e1 kk
  refine WL.val hw ?_ rfl kk
  simp [execOp, hx, hy, binOp, run_guard_int, Op.intDiv, show b ≠ 0 by omega, e1, Result.andThen]
end

theorem can_adj {l : List Span} (h : Can l) {k : Nat} {x y : Span} (hx : l[k - 1]? = some x) (hy : l[k]? = some y) (hk : 0 < k) (hge : x.b ≥ y.a) : False := by
  obtain ⟨h1, rfl⟩ := List.getElem?_eq_some_iff.1 hx
  obtain ⟨h2, rfl⟩ := List.getElem?_eq_some_iff.1 hy
  have := List.pairwise_iff_getElem.1 h.apart (k - 1) k h1 h2 (by omega)
  omega
def endAt (l : List Span) (n : Nat) : Int := if n = 2 * l.length then 8796093022208 else match l[n / 2]? with | some s => if n % 2 = 0 then s.a else s.b | none => 0
theorem endAt_end {l : List Span} {n : Nat} (h : n = 2 * l.length) : endAt l n = 8796093022208 := by unfold endAt; rw [if_pos h]
theorem endAt_a {l : List Span} {n : Nat} {s : Span} (h : n ≠ 2 * l.length) (hs : l[n / 2]? = some s) (h0 : n % 2 = 0) : endAt l n = s.a := by unfold endAt; rw [if_neg h, hs]; simp [h0]
theorem endAt_b {l : List Span} {n : Nat} {s : Span} (h : n ≠ 2 * l.length) (hs : l[n / 2]? = some s) (h0 : n % 2 ≠ 0) : endAt l n = s.b := by unfold endAt; rw [if_neg h, hs]; simp [h0]
/-- The first n ends of l are those that are at most T. -/
structure Behind (l : List Span) (n : Nat) (T : Int) : Prop where
  le : n ≤ 2 * l.length
  lo : ∀ (j : Nat) s, l[j]? = some s → (2 * j < n → s.a ≤ T) ∧ (2 * j + 1 < n → s.b ≤ T)
  hi : ∀ (j : Nat) s, l[j]? = some s → (n ≤ 2 * j → T < s.a) ∧ (n ≤ 2 * j + 1 → T < s.b)
theorem Behind.start {l : List Span} {T : Int} (h : ∀ s ∈ l, T < s.a ∧ T < s.b) : Behind l 0 T :=
  ⟨by omega, fun j s hs => ⟨fun h => by omega, fun h => by omega⟩, fun j s hs => ⟨fun _ => (h s (List.mem_of_getElem? hs)).1, fun _ => (h s (List.mem_of_getElem? hs)).2⟩⟩
theorem Behind.cover {l : List Span} {n : Nat} {T : Int} (h : Behind l n T) : cover l T ↔ n % 2 = 1 := by
  constructor
  · rintro ⟨s, hs, h1, h2⟩
    obtain ⟨j, hj, rfl⟩ := List.mem_iff_getElem.1 hs
    have e := List.getElem?_eq_getElem hj
    have a1 := (h.hi j _ e).1
    have a2 := (h.lo j _ e).2
    have b1 : ¬ n ≤ 2 * j := fun q => by have := a1 q; omega
    have b2 : ¬ 2 * j + 1 < n := fun q => by have := a2 q; omega
    omega
  · intro hn
    have hl := h.le
    have hj : n / 2 < l.length := by omega
    have e := List.getElem?_eq_getElem hj
    exact ⟨_, List.getElem_mem hj, (h.lo _ _ e).1 (by omega), (h.hi _ _ e).2 (by omega)⟩
theorem endAt_some {l : List Span} {n : Nat} (h : n < 2 * l.length) : ∃ s, l[n / 2]? = some s ∧ endAt l n = if n % 2 = 0 then s.a else s.b := by
  have hj : n / 2 < l.length := by omega
  refine ⟨_, List.getElem?_eq_getElem hj, ?_⟩
  unfold endAt; rw [if_neg (by omega), List.getElem?_eq_getElem hj]
theorem endAt_lt {l : List Span} {n : Nat} (h : n < 2 * l.length) (hv : ∀ s ∈ l, s.a < 8796093022208 ∧ s.b < 8796093022208) : endAt l n < 8796093022208 := by
  obtain ⟨s, hs, e⟩ := endAt_some h
  have := hv s (List.mem_of_getElem? hs)
  rw [e]; split <;> omega
theorem Behind.gt {l : List Span} {n : Nat} {T : Int} (h : Behind l n T) (hT : T < 8796093022208) : T < endAt l n := by
  by_cases hn : n = 2 * l.length
  · rw [endAt_end hn]; exact hT
  · have hl := h.le
    obtain ⟨s, hs, e⟩ := endAt_some (l := l) (n := n) (by omega)
    rw [e]
    have := h.hi _ _ hs
    split
    · exact this.1 (by omega)
    · exact this.2 (by omega)
/-- All later ends are at least the next one. -/
theorem endAt_min {l : List Span} {n : Nat} (hC : Can l) (hn : n < 2 * l.length) (j : Nat) (s : Span) (hs : l[j]? = some s) : (n ≤ 2 * j → endAt l n ≤ s.a) ∧ (n ≤ 2 * j + 1 → endAt l n ≤ s.b) ∧ (n < 2 * j → endAt l n < s.a) ∧ (n < 2 * j + 1 → endAt l n < s.b) := by
  obtain ⟨s0, h0, e⟩ := endAt_some hn
  have p0 := hC.pos s0 (List.mem_of_getElem? h0)
  have p1 := hC.pos s (List.mem_of_getElem? hs)
  have ap : n / 2 < j → s0.b < s.a := fun hlt => by
    obtain ⟨q1, rfl⟩ := List.getElem?_eq_some_iff.1 h0
    obtain ⟨q2, rfl⟩ := List.getElem?_eq_some_iff.1 hs
    exact List.pairwise_iff_getElem.1 hC.apart _ _ q1 q2 hlt
  have eq : n / 2 = j → s0 = s := fun he => by rw [he] at h0; exact Option.some.inj (h0.symm.trans hs)
  rw [e]
  by_cases hj : n / 2 = j
  · have := eq hj; subst this
    refine ⟨fun q => ?_, fun q => ?_, fun q => ?_, fun q => ?_⟩ <;> split <;> omega
  · refine ⟨fun q => ?_, fun q => ?_, fun q => ?_, fun q => ?_⟩ <;> (have := ap (by omega); split <;> omega)
theorem Behind.up {l : List Span} {n : Nat} {T T' : Int} (h : Behind l n T) (hC : Can l) (hT : T ≤ T') (hlt : T' < endAt l n ∨ n = 2 * l.length) : Behind l n T' := by
  refine ⟨h.le, fun j s hs => ⟨fun q => Int.le_trans ((h.lo j s hs).1 q) hT, fun q => Int.le_trans ((h.lo j s hs).2 q) hT⟩, fun j s hs => ?_⟩
  have hj := (List.getElem?_eq_some_iff.1 hs).1
  by_cases hn : n = 2 * l.length
  · exact ⟨fun q => by omega, fun q => by omega⟩
  · have hl := h.le
    have hm := endAt_min hC (n := n) (by omega) j s hs
    have hlt' : T' < endAt l n := by rcases hlt with h1 | h1 <;> omega
    exact ⟨fun q => by have := hm.1 q; omega, fun q => by have := hm.2.1 q; omega⟩
theorem Behind.step {l : List Span} {n : Nat} {T T' : Int} (h : Behind l n T) (hC : Can l) (hT : T ≤ T') (hn : n < 2 * l.length) (he : endAt l n = T') : Behind l (n + 1) T' := by
  refine ⟨by omega, fun j s hs => ?_, fun j s hs => ?_⟩
  · obtain ⟨s0, h0, e⟩ := endAt_some hn
    have eq : n / 2 = j → s0 = s := fun he => by rw [he] at h0; exact Option.some.inj (h0.symm.trans hs)
    constructor
    · intro q
      by_cases hq : 2 * j < n
      · exact Int.le_trans ((h.lo j s hs).1 hq) hT
      · have := eq (by omega); subst this
        rw [if_pos (by omega)] at e; omega
    · intro q
      by_cases hq : 2 * j + 1 < n
      · exact Int.le_trans ((h.lo j s hs).2 hq) hT
      · have := eq (by omega); subst this
        rw [if_neg (by omega)] at e; omega
  · have hm := endAt_min hC hn j s hs
    exact ⟨fun q => by have := hm.2.2.1 (by omega); omega, fun q => by have := hm.2.2.2 (by omega); omega⟩
def minusB (i k : Nat) : Bool := decide (((i % 2 : Nat) : Int) = 1) && !decide (((k % 2 : Nat) : Int) = 1)
structure Sweep (a b : List Span) (i k : Nat) (ins : Bool) (fr : Int) (out : List Span) (T : Int) : Prop where
  ba : Behind a i T
  bb : Behind b k T
  st : ins = minusB i k
  can : Can out
  top : ∀ s ∈ out, s.b ≤ fr ∧ (ins = true → s.b < fr)
  frT : fr ≤ T ∨ (ins = false ∧ out = [])
  cov : ∀ x, x < T → ((cover out x ∨ (ins = true ∧ fr ≤ x)) ↔ (cover a x ∧ ¬ cover b x))
  len : 2 * out.length + (if ins then 1 else 0) ≤ i + k
  tb : T < 8796093022208
  bds : -8796093022208 ≤ T ∧ -8796093022208 ≤ fr ∧ fr ≤ 8796093022208
theorem Sweep.start {a b : List Span} (ha : ∀ s ∈ a, spanV s = true) (hb : ∀ s ∈ b, spanV s = true) : Sweep a b 0 0 false 0 [] (-8796093022208) := by
  have sv : ∀ s : Span, spanV s = true → -8796093022208 < s.a ∧ -8796093022208 < s.b := fun s hs => by
    unfold spanV lineB at hs; simp at hs; omega
  refine ⟨Behind.start fun s hs => sv s (ha s hs), Behind.start fun s hs => sv s (hb s hs), rfl, ⟨List.Pairwise.nil, by simp⟩, by simp, .inr ⟨rfl, rfl⟩, fun x hx => ?_, by simp, by decide, by decide⟩
  constructor
  · rintro (⟨_, h, _⟩ | h)
    · simp at h
    · simp at h
  · rintro ⟨⟨s, hs, h1, h2⟩, _⟩
    have := sv s (ha s hs); omega
structure Adv (l : List Span) (i i' : Nat) (t : Int) : Prop where
  ok : (endAt l i = t ∧ i' = i + 1) ∨ (endAt l i ≠ t ∧ i' = i)
theorem Adv.yes {l : List Span} {i : Nat} {t : Int} (h : endAt l i = t) : Adv l i (i + 1) t := ⟨.inl ⟨h, rfl⟩⟩
theorem Adv.no {l : List Span} {i : Nat} {t : Int} (h : endAt l i ≠ t) : Adv l i i t := ⟨.inr ⟨h, rfl⟩⟩
structure Next (a b : List Span) (i k i' k' : Nat) (ins : Bool) (fr : Int) (out : List Span) (T t : Int) : Prop where
  ba : Behind a i' t
  bb : Behind b k' t
  lt : T < t
  tb : t < 8796093022208
  adv : i + k < i' + k'
  cov : ∀ x, x < t → ((cover out x ∨ (ins = true ∧ fr ≤ x)) ↔ (cover a x ∧ ¬ cover b x))
theorem Sweep.next {a b : List Span} {i k i' k' : Nat} {ins : Bool} {fr : Int} {out : List Span} {T t : Int} (h : Sweep a b i k ins fr out T)
    (hCa : Can a) (hCb : Can b) (ha : ∀ s ∈ a, spanV s = true) (hb : ∀ s ∈ b, spanV s = true)
    (ht : t = min (endAt a i) (endAt b k)) (hg : i < 2 * a.length ∨ k < 2 * b.length) (hi : Adv a i i' t) (hk : Adv b k k' t) : Next a b i k i' k' ins fr out T t := by
  have sv : ∀ s : Span, spanV s = true → s.a < 8796093022208 ∧ s.b < 8796093022208 := fun s hs => by
    unfold spanV lineB at hs; simp at hs; omega
  have la := h.ba.le; have lb := h.bb.le
  have ga := h.ba.gt h.tb; have gb := h.bb.gt h.tb
  have hla : ∀ n, n < 2 * a.length → endAt a n < 8796093022208 := fun n hn => endAt_lt hn fun s hs => sv s (ha s hs)
  have hlb : ∀ n, n < 2 * b.length → endAt b n < 8796093022208 := fun n hn => endAt_lt hn fun s hs => sv s (hb s hs)
  have tb : t < 8796093022208 := by
    rcases hg with q | q
    · have := hla i q; omega
    · have := hlb k q; omega
  have hlt : T < t := by omega
  have na : endAt a i = t → i < 2 * a.length := fun q => by
    rcases Nat.lt_or_ge i (2 * a.length) with c | c
    · exact c
    · have := endAt_end (l := a) (n := i) (by omega); omega
  have nb : endAt b k = t → k < 2 * b.length := fun q => by
    rcases Nat.lt_or_ge k (2 * b.length) with c | c
    · exact c
    · have := endAt_end (l := b) (n := k) (by omega); omega
  refine ⟨?_, ?_, hlt, tb, ?_, fun x hx => ?_⟩
  · rcases hi.ok with ⟨q, rfl⟩ | ⟨q, rfl⟩
    · exact h.ba.step hCa (by omega) (na q) q
    · exact h.ba.up hCa (by omega) (.inl (by omega))
  · rcases hk.ok with ⟨q, rfl⟩ | ⟨q, rfl⟩
    · exact h.bb.step hCb (by omega) (nb q) q
    · exact h.bb.up hCb (by omega) (.inl (by omega))
  · rcases hi.ok with ⟨q, rfl⟩ | ⟨q, rfl⟩ <;> rcases hk.ok with ⟨q', rfl⟩ | ⟨q', rfl⟩ <;> omega
  · rcases Int.lt_or_le x T with hxT | hxT
    · exact h.cov x hxT
    · have c1 := (h.ba.up hCa hxT (.inl (by omega))).cover
      have c2 := (h.bb.up hCb hxT (.inl (by omega))).cover
      have hst := h.st
      rw [c1, c2]
      constructor
      · rintro (⟨s, hs, h1, h2⟩ | ⟨q, _⟩)
        · have := (h.top s hs).1
          rcases h.frT with q | ⟨_, q⟩
          · omega
          · rw [q] at hs; simp at hs
        · rw [q] at hst; unfold minusB at hst; simp at hst; omega
      · intro q
        right
        have e : ins = true := by rw [hst]; unfold minusB; simp; omega
        refine ⟨e, ?_⟩
        rcases h.frT with q' | ⟨q', _⟩
        · omega
        · rw [e] at q'; cases q'
theorem Sweep.keep {a b : List Span} {i k i' k' : Nat} {ins : Bool} {fr : Int} {out : List Span} {T t : Int} (h : Sweep a b i k ins fr out T) (hn : Next a b i k i' k' ins fr out T t) {v : Bool} (hv : minusB i' k' = v) (he : (v == ins) = true) : Sweep a b i' k' ins fr out t :=
  ⟨hn.ba, hn.bb, (hv.trans (eq_of_beq he)).symm, h.can, h.top, by rcases h.frT with q | q; exact .inl (by have := hn.lt; omega); exact .inr q, hn.cov, by have := h.len; have := hn.adv; omega, hn.tb, by have := h.bds; have := hn.lt; omega⟩
theorem Sweep.open {a b : List Span} {i k i' k' : Nat} {fr : Int} {out : List Span} {T t : Int} (h : Sweep a b i k false fr out T) (hn : Next a b i k i' k' false fr out T t) (he : minusB i' k' = true) : Sweep a b i' k' true t out t := by
  have tp : ∀ s ∈ out, s.b < t := fun s hs => by
    have := (h.top s hs).1
    rcases h.frT with q | ⟨_, q⟩
    · have := hn.lt; omega
    · rw [q] at hs; simp at hs
  refine ⟨hn.ba, hn.bb, he.symm, h.can, fun s hs => ⟨by have := tp s hs; omega, fun _ => tp s hs⟩, .inl (by omega), fun x hx => ?_, by have := h.len; have := hn.adv; simp at this ⊢; simp at *; omega, hn.tb, by have := h.bds; have := hn.lt; have := hn.tb; omega⟩
  rw [← hn.cov x hx]
  constructor
  · rintro (q | ⟨_, q⟩)
    · exact .inl q
    · omega
  · rintro (q | ⟨q, _⟩)
    · exact .inl q
    · cases q
theorem Sweep.push {a b : List Span} {i k i' k' : Nat} {fr : Int} {out : List Span} {T t : Int} (h : Sweep a b i k true fr out T) (hn : Next a b i k i' k' true fr out T t) (he : minusB i' k' = false) : Sweep a b i' k' false t (out ++ [⟨fr, t⟩]) t := by
  have hfr : fr ≤ T := by
    rcases h.frT with q | ⟨q, _⟩
    · exact q
    · cases q
  have hlt := hn.lt
  refine ⟨hn.ba, hn.bb, he.symm, ⟨List.pairwise_append.2 ⟨h.can.apart, List.pairwise_singleton _ _, fun s hs q hq => ?_⟩, fun s hs => ?_⟩, fun s hs => ⟨?_, fun q => by cases q⟩, .inl (by omega), fun x hx => ?_, ?_, hn.tb, by have := h.bds; have := hn.tb; omega⟩
  · simp at hq; subst hq; exact (h.top s hs).2 rfl
  · rcases List.mem_append.1 hs with q | q
    · exact h.can.pos s q
    · simp at q; subst q; show fr < t; omega
  · rcases List.mem_append.1 hs with q | q
    · have := (h.top s q).1; omega
    · simp at q; subst q; show t ≤ t; omega
  · rw [← hn.cov x hx]
    constructor
    · rintro (⟨s, hs, h1, h2⟩ | ⟨q, _⟩)
      · rcases List.mem_append.1 hs with q | q
        · exact .inl ⟨s, q, h1, h2⟩
        · simp at q; subst q; exact .inr ⟨rfl, h1⟩
      · cases q
    · rintro (⟨s, hs, h1, h2⟩ | ⟨_, q⟩)
      · exact .inl ⟨s, List.mem_append_left _ hs, h1, h2⟩
      · exact .inl ⟨⟨fr, t⟩, by simp, q, hx⟩
  · have := h.len; have := hn.adv; simp at *; omega
theorem Sweep.flip {a b : List Span} {i k i' k' : Nat} {fr : Int} {out : List Span} {T t : Int} {ins v : Bool} (h : Sweep a b i k ins fr out T) (hn : Next a b i k i' k' ins fr out T t) (hv : minusB i' k' = v) (he : (v == ins) = false) (hi : ins = true) : Sweep a b i' k' v t (out ++ [⟨fr, t⟩]) t := by
  subst hi
  have e : v = false := by cases q : v with | false => rfl | true => rw [q] at he; cases he
  rw [e] at hv ⊢; exact h.push hn hv
theorem Sweep.flop {a b : List Span} {i k i' k' : Nat} {fr : Int} {out : List Span} {T t : Int} {ins v : Bool} (h : Sweep a b i k ins fr out T) (hn : Next a b i k i' k' ins fr out T t) (hv : minusB i' k' = v) (he : (v == ins) = false) (hi : ins = false) : Sweep a b i' k' v t out t := by
  subst hi
  have e : v = true := by cases q : v with | true => rfl | false => rw [q] at he; cases he
  rw [e] at hv ⊢; exact h.open hn hv
theorem Sweep.done {a b : List Span} {i k : Nat} {ins : Bool} {fr : Int} {out : List Span} {T : Int} (h : Sweep a b i k ins fr out T) (hCa : Can a) (hCb : Can b)
    (hi : ¬ (i < 2 * a.length)) (hk : ¬ (k < 2 * b.length)) : out = combR 3 a b ∧ out.length ≤ a.length + b.length := by
  have la := h.ba.le; have lb := h.bb.le
  have ei : i = 2 * a.length := by omega
  have ek : k = 2 * b.length := by omega
  have hst : ins = false := by rw [h.st]; unfold minusB; simp; omega
  obtain ⟨h1, h2⟩ := combR_inv (kind := 3) (a := a) (b := b) rfl hCa.pos hCb.pos
  refine ⟨Can.unique h.can h1 fun x => ?_, by have := h.len; omega⟩
  rw [h2 x]
  have key : (cover a x ∧ ¬ cover b x) ↔ keepB 3 (inR a x) (inR b x) = true := by
    rw [← inR_iff, ← inR_iff]
    simp [keepB]
  rw [← key]
  rcases Int.lt_or_le x T with q | q
  · rw [← h.cov x q, hst]; simp
  · have c1 := (h.ba.up hCa q (.inr ei)).cover
    constructor
    · rintro ⟨s, hs, u1, u2⟩
      have := (h.top s hs).1
      rcases h.frT with q' | ⟨_, q'⟩
      · omega
      · rw [q'] at hs; simp at hs
    · rintro ⟨u1, _⟩
      have := c1.1 u1; omega
def pairE (a b : List Fact) : Int := if !(validB a && validB b) then 1 else if decide (0 < a.length) && decide (0 < b.length) && !kindsB (headV a) (headV b) then 13 else 0
theorem pairE_1 {a b : List Fact} (h : validB a = false ∨ validB b = false) : pairE a b = 1 := by
  unfold pairE; rcases h with h | h <;> rw [h] <;> simp
theorem pairE_13 {a b : List Fact} {f g : Fact} (ha : validB a = true) (hb : validB b = true) (hf : a[0]? = some f) (hg : b[0]? = some g) (hk : kindsB f.v g.v = false) : pairE a b = 13 := by
  unfold pairE
  have la := (List.getElem?_eq_some_iff.1 hf).1
  have lb := (List.getElem?_eq_some_iff.1 hg).1
  rw [ha, hb, headV_of hf, headV_of hg, hk, decide_eq_true la, decide_eq_true lb]; rfl
theorem pairE_0 {a b : List Fact} {f g : Fact} (ha : validB a = true) (hb : validB b = true) (hf : a[0]? = some f) (hg : b[0]? = some g) (hk : kindsB f.v g.v = true) : pairE a b = 0 := by
  unfold pairE
  rw [ha, hb, headV_of hf, headV_of hg, hk]; simp
theorem pairE_0' {a b : List Fact} (ha : validB a = true) (hb : validB b = true) (h : a.length = 0 ∨ b.length = 0) : pairE a b = 0 := by
  unfold pairE
  rw [ha, hb]
  rcases h with h | h <;> rw [h] <;> simp
theorem pairE_valid {a b : List Fact} (h : pairE a b = 0) : validB a = true ∧ validB b = true := by
  unfold pairE at h
  cases ha : validB a <;> cases hb : validB b <;> simp [ha, hb] at h ⊢
theorem good_append {a b : List Fact} (ha : Good a) (hb : Good b) : Good (a ++ b) := fun f hf => by
  rcases List.mem_append.1 hf with h | h
  · exact ha f h
  · exact hb f h
def unionL (a b : List Fact) : List Fact := if pairE a b = 0 then finL (a ++ b) else []
def unionE (a b : List Fact) : Int := if pairE a b = 0 then finE (a ++ b) else pairE a b
def runionL (a b : List Fact) : List Fact := if pairE a b = 0 then doneL (a ++ b) else []
def runionE (a b : List Fact) : Int := if pairE a b = 0 then doneE (a ++ b) else pairE a b
theorem union_eq (a b : List Fact) : unionL a b = runionL a b ∧ unionE a b = runionE a b := by
  unfold unionL unionE runionL runionE
  by_cases h : pairE a b = 0
  · obtain ⟨ha, hb⟩ := pairE_valid h
    have := fin_done (good_append (good_of_valid ha) (good_of_valid hb)) fun f hf => (List.mem_append.1 hf).elim (valid_wide ha f) (valid_wide hb f)
    rw [if_pos h, if_pos h, if_pos h, if_pos h]; exact this
  · rw [if_neg h, if_neg h, if_neg h, if_neg h]; exact ⟨rfl, rfl⟩
/-! During -/
def duringF (l : List Fact) (s : Span) : List Fact := l.flatMap fun f => if meetB f.t s then [⟨f.v, meetS f.t s⟩] else []
theorem duringF_take {l : List Fact} {s : Span} {k : Nat} {f : Fact} (h : l[k]? = some f) : duringF (l.take (k + 1)) s = duringF (l.take k) s ++ if meetB f.t s then [⟨f.v, meetS f.t s⟩] else [] := by
  unfold duringF; rw [List.take_add_one, h]; simp
theorem duringF_yes {l : List Fact} {s : Span} {k : Nat} {f : Fact} (h : l[k]? = some f) (hm : meetB f.t s = true) : duringF (l.take (k + 1)) s = duringF (l.take k) s ++ [⟨f.v, meetS f.t s⟩] := by
  rw [duringF_take h, hm]; rfl
theorem duringF_no {l : List Fact} {s : Span} {k : Nat} {f : Fact} (h : l[k]? = some f) (hm : meetB f.t s = false) : duringF (l.take (k + 1)) s = duringF (l.take k) s := by
  rw [duringF_take h, hm]; simp
theorem duringF_all {l : List Fact} {s : Span} {k : Nat} (h : l.length ≤ k) : duringF (l.take k) s = duringF l s := by rw [List.take_of_length_le h]
theorem duringF_len (l : List Fact) (s : Span) : (duringF l s).length ≤ l.length := by
  induction l with
  | nil => simp [duringF]
  | cons f l ih =>
    have e : duringF (f :: l) s = (if meetB f.t s then [⟨f.v, meetS f.t s⟩] else []) ++ duringF l s := by simp [duringF]
    rw [e, List.length_append, List.length_cons]
    split <;> simp <;> omega
theorem duringF_takeLen (l : List Fact) (s : Span) (k : Nat) : (duringF (l.take k) s).length ≤ l.length := Nat.le_trans (duringF_len _ _) (List.length_take_le' _ _)
theorem duringF_mem {l : List Fact} {s : Span} {h : Fact} (hh : h ∈ duringF l s) : ∃ f ∈ l, meetB f.t s = true ∧ h = ⟨f.v, meetS f.t s⟩ := by
  unfold duringF at hh
  obtain ⟨f, hf, q⟩ := List.mem_flatMap.1 hh
  cases hm : meetB f.t s with
  | true => rw [hm] at q; simp at q; exact ⟨f, hf, hm, q⟩
  | false => rw [hm] at q; simp at q
theorem duringF_good {l : List Fact} {s : Span} (hl : Good l) : Good (duringF l s) := fun h hh => by
  obtain ⟨f, hf, hm, rfl⟩ := duringF_mem hh
  refine ⟨(hl f hf).1, ?_⟩
  have hs := (hl f hf).2
  show spanB (meetS f.t s) = true
  unfold meetS; rw [hm]
  unfold meetB at hm
  simp only [Bool.and_eq_true, decide_eq_true_eq] at hm
  have := hm.2
  unfold spanB at hs ⊢
  simp at hs ⊢
  omega
def durL (l : List Fact) (s : Span) : List Fact := if validB l && spanB s then finL (duringF l s) else []
def durE (l : List Fact) (s : Span) : Int := if validB l && spanB s then finE (duringF l s) else 1
def rdurL (l : List Fact) (s : Span) : List Fact := if validB l && spanB s then doneL (duringF l s) else []
def rdurE (l : List Fact) (s : Span) : Int := if validB l && spanB s then doneE (duringF l s) else 1
theorem dur_no {l : List Fact} {s : Span} (h : validB l = false ∨ spanB s = false) : (durL l s = [] ∧ durE l s = 1) ∧ (rdurL l s = [] ∧ rdurE l s = 1) := by
  unfold durL durE rdurL rdurE
  rcases h with h | h <;> rw [h] <;> simp
theorem dur_yes {l : List Fact} {s : Span} (h : validB l = true) (hs : spanB s = true) : (durL l s = finL (duringF l s) ∧ durE l s = finE (duringF l s)) ∧ (rdurL l s = doneL (duringF l s) ∧ rdurE l s = doneE (duringF l s)) := by
  unfold durL durE rdurL rdurE
  rw [h, hs]; simp
theorem dur_eq (l : List Fact) (s : Span) : durL l s = rdurL l s ∧ durE l s = rdurE l s := by
  cases h : validB l with
  | false => have := dur_no (l := l) (s := s) (.inl h); exact ⟨this.1.1.trans this.2.1.symm, this.1.2.trans this.2.2.symm⟩
  | true =>
    cases hs : spanB s with
    | false => have := dur_no (l := l) (s := s) (.inr hs); exact ⟨this.1.1.trans this.2.1.symm, this.1.2.trans this.2.2.symm⟩
    | true =>
      have := dur_yes h hs
      have q := fin_done (duringF_good (s := s) (good_of_valid h)) fun f hf => by
        obtain ⟨g, hg, _, rfl⟩ := duringF_mem hf
        exact valid_wide h g hg
      exact ⟨this.1.1.trans (q.1.trans this.2.1.symm), this.1.2.trans (q.2.trans this.2.2.symm)⟩
/-! the place of a list of values among groups -/
def posG : List Group → List Val → Nat
  | [], _ => 0
  | u :: r, v => if ordV u.v v < 0 then posG r v + 1 else 0
theorem posG_at : ∀ {out : List Group} {v : List Val} {k : Nat}, k ≤ out.length → (∀ j, j < k → ∀ u, out[j]? = some u → ordV u.v v < 0) → (∀ u, out[k]? = some u → ¬ ordV u.v v < 0) → posG out v = k
  | [], v, k, hk, _, _ => by simp at hk; simp [posG, hk]
  | u :: r, v, 0, _, _, h => by simp only [posG]; rw [if_neg (h u rfl)]
  | u :: r, v, k + 1, hk, h0, h => by
    simp only [posG]; rw [if_pos (h0 0 (by omega) u rfl), posG_at (k := k) (by simpa using hk) (fun j hj u hu => h0 (j + 1) (by omega) u (by simpa using hu)) (fun u hu => h u (by simpa using hu))]
def foundG (out : List Group) (v : List Val) : Bool := match out[posG out v]? with | some y => decide (ordV y.v v = 0) | none => false
theorem foundG_at {out : List Group} {v : List Val} {k : Nat} {y : Group} (hk : posG out v = k) (hy : out[k]? = some y) : foundG out v = decide (ordV y.v v = 0) := by unfold foundG; rw [hk, hy]
theorem foundG_none {out : List Group} {v : List Val} {k : Nat} (hk : posG out v = k) (hy : out.length ≤ k) : foundG out v = false := by unfold foundG; rw [hk, List.getElem?_eq_none hy]
/-- Sorted, as far as v can tell. -/
def MonoG (gs : List Group) (v : List Val) : Prop := ∀ (p q : Nat) (x y : Group), p < q → gs[p]? = some x → gs[q]? = some y → ordV y.v v < 0 → ordV x.v v < 0
/-- All before i are less than v. -/
def LowG (gs : List Group) (v : List Val) (i : Nat) : Prop := ∀ (j : Nat), j < i → ∀ (u : Group), gs[j]? = some u → ordV u.v v < 0
def HighG (gs : List Group) (v : List Val) (i : Nat) : Prop := ∀ (j : Nat), i ≤ j → ∀ (u : Group), gs[j]? = some u → ¬ ordV u.v v < 0
theorem LowG.zero {gs : List Group} {v : List Val} : LowG gs v 0 := fun j hj => by omega
theorem HighG.all {gs : List Group} {v : List Val} : HighG gs v gs.length := fun j hj u hu => by have := (List.getElem?_eq_some_iff.1 hu).1; omega
theorem LowG.step {gs : List Group} {v : List Val} {h : Nat} {x : Group} (hs : MonoG gs v) (hx : gs[h]? = some x) (hc : ordV x.v v < 0) : LowG gs v (h + 1) := fun j hj u hu => by
  by_cases e : j = h
  · subst e; rw [hx] at hu; cases hu; exact hc
  · exact hs j h u x (by omega) hu hx hc
theorem HighG.step {gs : List Group} {v : List Val} {h : Nat} {x : Group} (hs : MonoG gs v) (hx : gs[h]? = some x) (hc : 0 ≤ ordV x.v v) : HighG gs v h := fun j hj u hu k => by
  by_cases e : j = h
  · subst e; rw [hx] at hu; cases hu; omega
  · have := hs h j x u (by omega) hx hu k; omega
theorem posG_of {gs : List Group} {v : List Val} {i j : Nat} (h1 : LowG gs v i) (h2 : HighG gs v j) (hij : i = j) (hj : j ≤ gs.length) : posG gs v = i := by
  subst hij; exact posG_at hj h1 fun u hu => h2 i (Nat.le_refl _) u hu
/-! the difference -/
def exStep (tk : List Group) (x : Group) : Group := match tk[posG tk x.v]? with | some y => if ordV y.v x.v = 0 then ⟨x.v, combR 3 x.t y.t⟩ else x | none => x
theorem exStep_yes {tk : List Group} {x y : Group} (hy : tk[posG tk x.v]? = some y) (hf : foundG tk x.v = true) : exStep tk x = ⟨x.v, combR 3 x.t y.t⟩ := by
  rw [foundG_at rfl hy] at hf
  unfold exStep; rw [hy]; simp only []; rw [if_pos (of_decide_eq_true hf)]
theorem exStep_no {tk : List Group} {x : Group} (hf : foundG tk x.v = false) : exStep tk x = x := by
  unfold foundG at hf
  unfold exStep
  cases h : tk[posG tk x.v]? with
  | none => rfl
  | some y => rw [h] at hf; simp only [] at hf ⊢; rw [if_neg (of_decide_eq_false hf)]
theorem found_lt {tk : List Group} {v : List Val} (hf : foundG tk v = true) : posG tk v < tk.length := by
  unfold foundG at hf
  cases h : tk[posG tk v]? with
  | none => rw [h] at hf; cases hf
  | some y => exact (List.getElem?_eq_some_iff.1 h).1
def exN (tk gs : List Group) (k : Nat) : List Group := (gs.take k).map (exStep tk) ++ gs.drop k
theorem exN_zero (tk gs : List Group) : exN tk gs 0 = gs := by simp [exN]
theorem exN_len (tk gs : List Group) (k : Nat) : (exN tk gs k).length = gs.length := by simp [exN]; omega
theorem exN_at {tk gs : List Group} {k : Nat} {x : Group} (h : (exN tk gs k)[k]? = some x) : gs[k]? = some x := by
  have hk : k < gs.length := by have := (List.getElem?_eq_some_iff.1 h).1; rwa [exN_len] at this
  have e : ((gs.take k).map (exStep tk)).length = k := by simp; omega
  unfold exN at h
  rw [List.getElem?_append_right (by omega), e] at h
  simpa using h
theorem exN_step {tk gs : List Group} {k : Nat} {x y : Group} (h : (exN tk gs k)[k]? = some x) (hy : y = exStep tk x) : (exN tk gs k).set k y = exN tk gs (k + 1) := by
  have hg := exN_at h
  have hk : k < gs.length := (List.getElem?_eq_some_iff.1 hg).1
  have e : ((gs.take k).map (exStep tk)).length = k := by simp; omega
  unfold exN
  rw [List.set_append_right _ _ (by omega), e, Nat.sub_self, List.drop_eq_getElem_cons hk, List.set_cons_zero, List.take_add_one, hg]
  simp [hy]
theorem exN_skip {tk gs : List Group} {k : Nat} {x : Group} (h : (exN tk gs k)[k]? = some x) (hy : exStep tk x = x) : exN tk gs k = exN tk gs (k + 1) := by
  rw [← exN_step h hy.symm]
  obtain ⟨hk, e⟩ := List.getElem?_eq_some_iff.1 h
  rw [← e]; exact (List.set_getElem_self hk).symm
theorem exN_all {tk gs : List Group} {k : Nat} (h : gs.length ≤ k) : exN tk gs k = gs.map (exStep tk) := by
  unfold exN
  rw [List.take_of_length_le h, List.drop_eq_nil_of_le h]; simp
def exG (a b : List Fact) : List Group := (grp a).map (exStep (grp b))
def excL (a b : List Fact) : List Fact := if pairE a b = 0 ∧ fitB (listedL (exG a b)) = true then listedL (exG a b) else []
def excE (a b : List Fact) : Int := if pairE a b = 0 then (if fitB (listedL (exG a b)) = true then 0 else 5) else pairE a b
def rexF (a b : List Fact) : List Fact := (vals a).flatMap fun v => (combR 3 (canon (timesOf a v)) (canon (timesOf b v))).map (Fact.mk v)
def rexcL (a b : List Fact) : List Fact := if pairE a b = 0 then doneL (rexF a b) else []
def rexcE (a b : List Fact) : Int := if pairE a b = 0 then doneE (rexF a b) else pairE a b
theorem grp_vals {l : List Fact} (h : Good l) : grp l = (vals l).map fun v => ⟨v, canon (timesOf l v)⟩ := by
  unfold grp cgroups
  rw [vals_groups h, List.map_map]
  refine List.map_congr_left fun g hg => ?_
  show (⟨g.v, canon g.t⟩ : Group) = ⟨g.v, canon (timesOf l g.v)⟩
  rw [group_times h hg]
theorem vals_val {l : List Fact} (h : Good l) {v : List Val} (hv : v ∈ vals l) : v.all valB = true := by
  obtain ⟨f, hf, rfl⟩ := ((vals_inv _ l rfl).2.1 v).1 hv
  exact (h f hf).1
theorem posG_map {vs : VV} {f : List Val → List Span} {v : List Val} (hv : v.all valB = true) (h : ∀ u ∈ vs, u.all valB = true) : posG (vs.map fun u => ⟨u, f u⟩) v = posV vs v := by
  induction vs with
  | nil => rfl
  | cons u r ih =>
    simp only [List.map_cons, posG, posV]
    rw [ordV_valid (h u (by simp)) hv, ih fun w hw => h w (by simp [hw])]
theorem grp_mono {l : List Fact} (h : Good l) {v : List Val} (hv : v.all valB = true) : MonoG (grp l) v := fun p q x y hpq hx hy hlt => by
  rw [grp_vals h, List.getElem?_map, Option.map_eq_some_iff] at hx hy
  obtain ⟨u, hu, rfl⟩ := hx
  obtain ⟨w, hw, rfl⟩ := hy
  have vu := vals_val h (List.mem_of_getElem? hu)
  have vw := vals_val h (List.mem_of_getElem? hw)
  simp only [] at hlt ⊢
  rw [ordV_valid vu hv]
  rw [ordV_valid vw hv] at hlt
  obtain ⟨h1, rfl⟩ := List.getElem?_eq_some_iff.1 hu
  obtain ⟨h2, rfl⟩ := List.getElem?_eq_some_iff.1 hw
  have := List.pairwise_iff_getElem.1 (vals_inv _ l rfl).1 p q h1 h2 hpq
  exact ord.trans _ _ _ this hlt
theorem canon_nil : canon [] = [] := by simp [canon, sortA, mergeS]
theorem comb_nil {r : List Span} (h : Can r) : combR 3 r [] = r := by
  obtain ⟨h1, h2⟩ := combR_inv (kind := 3) (a := r) (b := []) rfl h.pos (by simp)
  refine Can.unique h1 h fun x => ?_
  rw [h2, ← inR_iff]
  simp [keepB, inR]
theorem canT {l : List Fact} (h : Good l) (v : List Val) : MInv (timesOf l v) (canon (timesOf l v)) := canon_inv fun x hx => spanB_pos (timesOf_good h v x hx)
theorem exStep_is {a b : List Fact} (ha : Good a) (hb : Good b) {v : List Val} (hv : v ∈ vals a) :
    exStep (grp b) ⟨v, canon (timesOf a v)⟩ = ⟨v, combR 3 (canon (timesOf a v)) (canon (timesOf b v))⟩ := by
  have vv := vals_val ha hv
  have hp : posG (grp b) v = posV (vals b) v := by rw [grp_vals hb]; exact posG_map vv fun u hu => vals_val hb hu
  obtain ⟨h1, h2, h3⟩ := posV_is (vals b) v
  have none_ : v ∉ vals b → exStep (grp b) ⟨v, canon (timesOf a v)⟩ = ⟨v, canon (timesOf a v)⟩ → exStep (grp b) ⟨v, canon (timesOf a v)⟩ = ⟨v, combR 3 (canon (timesOf a v)) (canon (timesOf b v))⟩ := fun hn he => by
    have e : timesOf b v = [] := by
      unfold timesOf
      rw [List.map_eq_nil_iff, List.filter_eq_nil_iff]
      intro f hf
      have : f.v ≠ v := fun q => hn (((vals_inv _ b rfl).2.1 v).2 ⟨f, hf, q⟩)
      simpa using this
    rw [he, e, canon_nil, comb_nil (canT ha v).can]
  have hu : (grp b)[posG (grp b) v]? = ((vals b)[posV (vals b) v]?).map fun u => ⟨u, canon (timesOf b u)⟩ := by rw [hp, grp_vals hb, List.getElem?_map]
  cases hq : (vals b)[posV (vals b) v]? with
  | none =>
    rw [hq] at hu
    refine none_ (fun hm => ?_) (by unfold exStep; simp only []; rw [hu]; rfl)
    obtain ⟨j, hj, e⟩ := List.mem_iff_getElem.1 hm
    have hl := List.getElem?_eq_none_iff.1 hq
    have := h2 j (by omega) v (by rw [List.getElem?_eq_getElem hj, e])
    rw [ord.refl] at this; omega
  | some u =>
    rw [hq] at hu
    have vu := vals_val hb (List.mem_of_getElem? hq)
    by_cases e : u = v
    · subst e
      unfold exStep; simp only []; rw [hu]
      simp only [Option.map_some]
      rw [if_pos (by rw [ordV_valid vu vv]; exact ord.refl _)]
    · refine none_ (fun hm => ?_) (by unfold exStep; simp only []; rw [hu]; simp only [Option.map_some]; rw [if_neg (by rw [ordV_valid vu vv]; exact fun q => e ((ord.eq _ _).1 q))])
      obtain ⟨j, hj, e2⟩ := List.mem_iff_getElem.1 hm
      have hj? : (vals b)[j]? = some v := by rw [List.getElem?_eq_getElem hj, e2]
      rcases Nat.lt_trichotomy j (posV (vals b) v) with c | c | c
      · have := h2 j c v hj?
        rw [ord.refl] at this; omega
      · subst c; rw [hq] at hj?; exact e (Option.some.inj hj?)
      · have h3' := h3 u hq
        obtain ⟨g1, rfl⟩ := List.getElem?_eq_some_iff.1 hq
        have := List.pairwise_iff_getElem.1 (vals_inv _ b rfl).1 _ j g1 hj c
        rw [e2] at this; exact h3' this
theorem exG_is {a b : List Fact} (ha : Good a) (hb : Good b) : exG a b = (vals a).map fun v => ⟨v, combR 3 (canon (timesOf a v)) (canon (timesOf b v))⟩ := by
  unfold exG
  rw [grp_vals ha, List.map_map]
  exact List.map_congr_left fun v hv => exStep_is ha hb hv
theorem exF_is {a b : List Fact} (ha : Good a) (hb : Good b) : listedL (exG a b) = rexF a b := by
  rw [exG_is ha hb]; unfold listedL rexF; rw [List.flatMap_map]
/-! what is listed so is normal -/
theorem timesOf_append (a b : List Fact) (v : List Val) : timesOf (a ++ b) v = timesOf a v ++ timesOf b v := by simp [timesOf]
theorem timesOf_mk (t : List Span) (u v : List Val) : timesOf (t.map (Fact.mk u)) v = if u = v then t else [] := by
  unfold timesOf
  by_cases h : u = v
  · rw [if_pos h, List.filter_eq_self.2 (by intro f hf; obtain ⟨s, _, rfl⟩ := List.mem_map.1 hf; simpa using h), List.map_map]
    exact List.map_id _
  · rw [if_neg h, List.filter_eq_nil_iff.2 (by intro f hf; obtain ⟨s, _, rfl⟩ := List.mem_map.1 hf; simpa using h)]; rfl
def runsF (vs : VV) (f : List Val → List Span) : List Fact := vs.flatMap fun v => (f v).map (Fact.mk v)
theorem timesOf_runs {vs : VV} {f : List Val → List Span} (hi : IncV vs) {v : List Val} : timesOf (runsF vs f) v = if v ∈ vs then f v else [] := by
  induction vs with
  | nil => rfl
  | cons u r ih =>
    have e : runsF (u :: r) f = (f u).map (Fact.mk u) ++ runsF r f := by simp [runsF]
    rw [e, timesOf_append, timesOf_mk, ih (List.pairwise_cons.1 hi).2]
    by_cases h : u = v
    · subst h
      have : u ∉ r := fun hm => by have := (List.pairwise_cons.1 hi).1 u hm; rw [ord.refl] at this; omega
      simp [this]
    · have h' : ¬ v = u := fun q => h q.symm
      simp [h, h']
theorem rnf_runs {vs : VV} {f : List Val → List Span} (hi : IncV vs) (hc : ∀ v ∈ vs, Can (f v)) : rnf (runsF vs f) = runsF vs f := by
  have e : vals (runsF vs f) = vs.filter fun v => decide (f v ≠ []) := by
    refine strict_unique ord (vals_inv _ _ rfl).1 (hi.filter _) fun v => ?_
    rw [(vals_inv _ _ rfl).2.1, List.mem_filter]
    constructor
    · rintro ⟨g, hg, rfl⟩
      unfold runsF at hg
      obtain ⟨u, hu, q⟩ := List.mem_flatMap.1 hg
      obtain ⟨s, hs, rfl⟩ := List.mem_map.1 q
      exact ⟨hu, decide_eq_true (fun z => by simp only [] at z; rw [z] at hs; simp at hs)⟩
    · rintro ⟨hu, q⟩
      have q := of_decide_eq_true q
      obtain ⟨s, r, hs⟩ := List.exists_cons_of_ne_nil q
      exact ⟨⟨v, s⟩, List.mem_flatMap.2 ⟨v, hu, List.mem_map.2 ⟨s, by rw [hs]; simp, rfl⟩⟩, rfl⟩
  unfold rnf
  rw [e]
  have key : ∀ ws : VV, (∀ v ∈ ws, v ∈ vs) → (ws.filter fun v => decide (f v ≠ [])).flatMap (fun v => (canon (timesOf (runsF vs f) v)).map (Fact.mk v)) = runsF ws f := fun ws => by
    induction ws with
    | nil => intro _; rfl
    | cons u r ih =>
      intro hws
      have ih := ih fun v hv => hws v (by simp [hv])
      have hu := hws u (by simp)
      have e1 : runsF (u :: r) f = (f u).map (Fact.mk u) ++ runsF r f := by simp [runsF]
      have e2 : canon (timesOf (runsF vs f) u) = f u := by
        rw [timesOf_runs hi, if_pos hu]
        have c := canon_inv (l := f u) (hc u hu).pos
        exact Can.unique c.can (hc u hu) c.cov
      rw [e1]
      by_cases h : f u = []
      · rw [List.filter_cons_of_neg (by simp [h]), ih, h]; rfl
      · rw [List.filter_cons_of_pos (by simp [h]), List.flatMap_cons, ih, e2]
  exact key vs fun v hv => hv
theorem comb_good {a b : List Span} (ha : ∀ s ∈ a, spanB s = true) (ca : Can a) (cb : Can b) : Can (combR 3 a b) ∧ ∀ s ∈ combR 3 a b, spanB s = true := by
  obtain ⟨h1, h2⟩ := combR_inv (kind := 3) (a := a) (b := b) rfl ca.pos cb.pos
  refine ⟨h1, fun s hs => ?_⟩
  have hp := h1.pos s hs
  have c1 : cover a s.a := by
    have := (h2 s.a).1 ⟨s, hs, by omega, hp⟩
    rw [← inR_iff]; simp [keepB] at this; exact this.1
  have c2 : cover a (s.b - 1) := by
    have := (h2 (s.b - 1)).1 ⟨s, hs, by omega, by omega⟩
    rw [← inR_iff]; simp [keepB] at this; exact this.1
  obtain ⟨p, hp1, p1, p2⟩ := c1
  obtain ⟨q, hq1, q1, q2⟩ := c2
  have b1 := ha p hp1
  have b2 := ha q hq1
  unfold spanB at b1 b2 ⊢
  simp at b1 b2 ⊢
  omega
theorem canon_good {l : List Span} (h : ∀ s ∈ l, spanB s = true) : ∀ s ∈ canon l, spanB s = true := fun s hs => by
  have hc := canon_inv fun x hx => spanB_pos (h x hx)
  have hp := hc.can.pos s hs
  obtain ⟨p, hp1, p1, p2⟩ := (hc.cov s.a).1 ⟨s, hs, by omega, hp⟩
  obtain ⟨q, hq1, q1, q2⟩ := (hc.cov (s.b - 1)).1 ⟨s, hs, by omega, by omega⟩
  have b1 := h p hp1
  have b2 := h q hq1
  unfold spanB at b1 b2 ⊢
  simp at b1 b2 ⊢
  omega
theorem rexF_good {a b : List Fact} (ha : Good a) (hb : Good b) : Good (rexF a b) := fun g hg => by
  unfold rexF at hg
  obtain ⟨v, hv, q⟩ := List.mem_flatMap.1 hg
  obtain ⟨s, hs, rfl⟩ := List.mem_map.1 q
  exact ⟨vals_val ha hv, (comb_good (canon_good (timesOf_good ha v)) (canT ha v).can (canT hb v).can).2 s hs⟩
theorem rnf_rexF {a b : List Fact} (ha : Good a) (hb : Good b) : rnf (rexF a b) = rexF a b :=
  rnf_runs (vals_inv _ a rfl).1 fun v _ => (comb_good (canon_good (timesOf_good ha v)) (canT ha v).can (canT hb v).can).1
theorem exc_eq (a b : List Fact) : excL a b = rexcL a b ∧ excE a b = rexcE a b := by
  unfold excL excE rexcL rexcE
  by_cases h : pairE a b = 0
  · obtain ⟨va, vb⟩ := pairE_valid h
    have ha := good_of_valid va
    have hb := good_of_valid vb
    have q := fin_done (rexF_good ha hb) fun f hf => by
      unfold rexF at hf
      obtain ⟨v, hv, q⟩ := List.mem_flatMap.1 hf
      obtain ⟨s, hs, rfl⟩ := List.mem_map.1 q
      obtain ⟨g, hg, rfl⟩ := ((vals_inv _ a rfl).2.1 v).1 hv
      exact valid_wide va g hg
    rw [exF_is ha hb, if_pos h, if_pos h, if_pos h]
    unfold finL finE at q
    rw [← rnf_nf (rexF_good ha hb), rnf_rexF ha hb] at q
    refine ⟨?_, q.2⟩
    rw [← q.1]
    by_cases f : fitB (rexF a b) = true
    · rw [if_pos ⟨h, f⟩, if_pos f]
    · rw [if_neg (fun z => f z.2), if_neg f]
  · rw [if_neg (fun z => h z.1), if_neg h, if_neg h, if_neg h]; exact ⟨rfl, rfl⟩
theorem comb_len {a b : List Span} : (combR 3 a b).length ≤ 2 * (a.length + b.length) := by
  have h1 := endsR_len (a ++ b)
  have h2 := combS_len (kind := 3) (a := a) (b := b) (es := endsR (a ++ b)) ((endsR (a ++ b)).length - 1)
  unfold combR
  rw [List.length_append] at h1
  omega
def rexN (a b : List Fact) (vs : VV) : List Fact := vs.flatMap fun v => (combR 3 (canon (timesOf a v)) (canon (timesOf b v))).map (Fact.mk v)
theorem rexN_take {a b : List Fact} {vs : VV} {k : Nat} {v : List Val} (h : vs[k]? = some v) : rexN a b (vs.take (k + 1)) = rexN a b (vs.take k) ++ (combR 3 (canon (timesOf a v)) (canon (timesOf b v))).map (Fact.mk v) := by
  unfold rexN; rw [List.take_add_one, h]; simp
theorem rexN_all {a b : List Fact} {k : Nat} (h : (vals a).length ≤ k) : rexN a b ((vals a).take k) = rexF a b := by rw [List.take_of_length_le h]; rfl
def sumT (l : List Fact) (vs : VV) : Nat := (vs.map fun v => (timesOf l v).length).sum
theorem one_val (u : List Val) : ∀ {vs : VV}, IncV vs → (vs.map fun v => if u = v then 1 else 0).sum ≤ 1
  | [], _ => by simp
  | v :: r, h => by
    have hr := List.pairwise_cons.1 h
    have ih := one_val u hr.2
    rw [List.map_cons, List.sum_cons]
    by_cases e : u = v
    · subst e
      have z : (r.map fun v => if u = v then 1 else 0).sum = 0 := by
        have hz : ∀ v ∈ r, u ≠ v := fun v hv q => by subst q; have := hr.1 u hv; rw [ord.refl] at this; omega
        clear ih h hr
        induction r with
        | nil => rfl
        | cons w r ih => rw [List.map_cons, List.sum_cons, if_neg (hz w (by simp)), ih fun v hv => hz v (by simp [hv])]
      rw [z]; simp
    · rw [if_neg e]; omega
theorem sumT_cons (f : Fact) (l : List Fact) (vs : VV) : sumT (f :: l) vs = (vs.map fun v => if f.v = v then 1 else 0).sum + sumT l vs := by
  unfold sumT
  induction vs with
  | nil => rfl
  | cons v r ih =>
    simp only [List.map_cons, List.sum_cons]
    have e : (timesOf (f :: l) v).length = (if f.v = v then 1 else 0) + (timesOf l v).length := by
      unfold timesOf
      by_cases q : f.v = v
      · rw [List.filter_cons_of_pos (by simp [q]), if_pos q]; simp; omega
      · rw [List.filter_cons_of_neg (by simp [q]), if_neg q]; simp
    rw [ih, e]; omega
theorem sumT_le {vs : VV} (h : IncV vs) : ∀ l : List Fact, sumT l vs ≤ l.length
  | [] => by
    unfold sumT
    have : ∀ vs : VV, (vs.map fun v => (timesOf [] v).length).sum = 0 := fun vs => by
      induction vs with
      | nil => rfl
      | cons v r ih => rw [List.map_cons, List.sum_cons, ih]; rfl
    rw [this]; simp
  | f :: l => by
    have := sumT_le h l
    have := one_val f.v h
    rw [sumT_cons, List.length_cons]; omega
theorem rexN_len (a b : List Fact) (vs : VV) : (rexN a b vs).length ≤ 2 * (sumT a vs + sumT b vs) := by
  induction vs with
  | nil => simp [rexN]
  | cons v r ih =>
    have e : rexN a b (v :: r) = (combR 3 (canon (timesOf a v)) (canon (timesOf b v))).map (Fact.mk v) ++ rexN a b r := by simp [rexN]
    have h1 := comb_len (a := canon (timesOf a v)) (b := canon (timesOf b v))
    have h2 := canon_len (l := timesOf a v)
    have h3 := canon_len (l := timesOf b v)
    have s1 : ∀ l, sumT l (v :: r) = (timesOf l v).length + sumT l r := fun l => by simp [sumT]
    rw [e, List.length_append, List.length_map, s1, s1]; omega
theorem rexN_takeLen (a b : List Fact) (k : Nat) : (rexN a b ((vals a).take k)).length ≤ 2 * (a.length + b.length) := by
  have hi : IncV ((vals a).take k) := (vals_inv _ a rfl).1.sublist (List.take_sublist _ _)
  have h1 := rexN_len a b ((vals a).take k)
  have h2 := sumT_le hi a
  have h3 := sumT_le hi b
  omega
theorem rexF_len (a b : List Fact) : (rexF a b).length ≤ 2 * (a.length + b.length) := by
  have := rexN_takeLen a b (vals a).length
  rwa [List.take_length] at this
theorem rex_partLen {a b : List Fact} {k j : Nat} {v : List Val} (h : (vals a)[k]? = some v) : (rexN a b ((vals a).take k) ++ ((combR 3 (canon (timesOf a v)) (canon (timesOf b v))).take j).map (Fact.mk v)).length ≤ 2 * (a.length + b.length) := by
  have h1 := rexN_takeLen a b (k + 1)
  rw [rexN_take h] at h1
  simp only [List.length_append, List.length_map, List.length_take] at h1 ⊢
  omega
theorem grp_ok {l : List Fact} (h : validB l = true) {g : Group} {k : Nat} (hg : (grp l)[k]? = some g) : Can g.t ∧ (∀ s ∈ g.t, spanV s = true) ∧ g.t.length ≤ 1000 ∧ g.v.all valB = true := by
  have hG := good_of_valid h
  have hl := valid_le h
  rw [grp_vals hG, List.getElem?_map, Option.map_eq_some_iff] at hg
  obtain ⟨u, hu, rfl⟩ := hg
  have h2 := canon_len (l := timesOf l u)
  have h3 := timesOf_len l u
  refine ⟨(canT hG u).can, fun s hs => spanB_V (canon_good (timesOf_good hG u) s hs), ?_, vals_val hG (List.mem_of_getElem? hu)⟩
  show (canon (timesOf l u)).length ≤ 1000
  omega
theorem grp_len {l : List Fact} (h : validB l = true) : (grp l).length ≤ 1000 := by
  have hl := valid_le h
  have := vals_len l
  rw [grp_vals (good_of_valid h), List.length_map]; omega
theorem exc_len {a b : List Fact} (ha : validB a = true) (hb : validB b = true) : (listedL ((grp a).map (exStep (grp b)))).length ≤ 4000 := by
  have := exF_is (good_of_valid ha) (good_of_valid hb)
  unfold exG at this
  rw [this]
  have := rexF_len a b
  have := valid_le ha
  have := valid_le hb
  omega
theorem exc_1 {a b : List Fact} (h : pairE a b ≠ 0) : excL a b = [] ∧ excE a b = pairE a b := by
  unfold excL excE; rw [if_neg (fun z => h z.1), if_neg h]; exact ⟨rfl, rfl⟩
theorem exc_2 {a b : List Fact} {k : Nat} (h : pairE a b = 0) (hk : (grp a).length ≤ k) (f : fitB (listedL (exN (grp b) (grp a) k)) = false) : excL a b = [] ∧ excE a b = 5 := by
  rw [exN_all hk] at f
  unfold excL excE exG; rw [if_neg (fun z => by rw [f] at z; cases z.2), if_pos h, f]; exact ⟨rfl, rfl⟩
theorem exc_3 {a b : List Fact} {k : Nat} (h : pairE a b = 0) (hk : (grp a).length ≤ k) (f : fitB (listedL (exN (grp b) (grp a) k)) = true) : excL a b = listedL (exN (grp b) (grp a) k) ∧ excE a b = 0 := by
  rw [exN_all hk] at f ⊢
  unfold excL excE exG; rw [if_pos ⟨h, f⟩, if_pos h, if_pos f]; exact ⟨rfl, rfl⟩
def bothL (mi : Bool) (a b : List Fact) : List Fact := bif mi then rexcL a b else runionL a b
def bothE (mi : Bool) (a b : List Fact) : Int := bif mi then rexcE a b else runionE a b
theorem both_no {mi : Bool} {a b : List Fact} {r : Int} (h : pairE a b = r) (h0 : r ≠ 0) : bothL mi a b = [] ∧ bothE mi a b = r := by
  have h1 : pairE a b ≠ 0 := by rw [h]; exact h0
  unfold bothL bothE rexcL rexcE runionL runionE
  rw [if_neg h1, if_neg h1, if_neg h1, if_neg h1, h]; cases mi <;> exact ⟨rfl, rfl⟩
theorem both_u {mi : Bool} {a b : List Fact} (h : pairE a b = 0) (hm : mi = false) : bothL mi a b = doneL (a ++ b) ∧ bothE mi a b = doneE (a ++ b) := by
  subst hm
  unfold bothL bothE runionL runionE
  rw [if_pos h, if_pos h]; exact ⟨rfl, rfl⟩
theorem both_x {mi : Bool} {a b : List Fact} (h : pairE a b = 0) (hm : mi = true) : bothL mi a b = doneL (rexF a b) ∧ bothE mi a b = doneE (rexF a b) := by
  subst hm
  unfold bothL bothE rexcL rexcE
  rw [if_pos h, if_pos h]; exact ⟨rfl, rfl⟩
theorem union_no {a b : List Fact} (h : pairE a b ≠ 0) : unionL a b = [] ∧ unionE a b = pairE a b := by
  unfold unionL unionE; rw [if_neg h, if_neg h]; exact ⟨rfl, rfl⟩
theorem union_yes {a b : List Fact} (h : pairE a b = 0) : unionL a b = finL ([a, b].flatten) ∧ unionE a b = finE ([a, b].flatten) := by
  have e : [a, b].flatten = a ++ b := by simp
  unfold unionL unionE; rw [if_pos h, if_pos h, e]; exact ⟨rfl, rfl⟩
theorem sets_eq {a b : List Fact} {s : Span} : unionE a b = bothE false a b ∧ unionL a b = bothL false a b ∧ excE a b = bothE true a b ∧ excL a b = bothL true a b ∧ durE a s = rdurE a s ∧ durL a s = rdurL a s :=
  ⟨(union_eq a b).2, (union_eq a b).1, (exc_eq a b).2, (exc_eq a b).1, (dur_eq a s).2, (dur_eq a s).1⟩
end Go.Civ
