/- Lemmas: Civ24, Civ26, Civ27, Civ38, Shelf2. -/
import Derived.Test.YtjjkgobhlfmhhaaGreatU09
import Derived.Test.YtjjkgobhlfmhhaaGreatU12
import Derived.Test.YtjjkgobhlfmhhaaGreatU13
import Derived.Test.YtjjkgobhlfmhhaaGreatU14
import Derived.Shelf.Slices.CompactI
import Derived.Ground.Names2Prog
import Derived.Test.YtjjkgobhlfmhhaaGreatProg
namespace Go.Civ
set_option linter.unusedVariables false

theorem cmpS_cons (x y : UInt8) (a b : List UInt8) : cmpS (x :: a) (y :: b) = if x = y then cmpS a b else sgn (x.toNat : Int) (y.toNat : Int) := by
  unfold cmpS
  by_cases e : x = y
  · subst e
    rw [if_pos rfl]
    simp [Op.bytesLess]
  · rw [if_neg e]
    have hn : x.toNat ≠ y.toNat := fun q => e (UInt8.toNat_inj.1 q)
    simp only [Op.bytesLess, List.cons.injEq, e, false_and, if_false]
    have hbe : (x == y) = false := by simpa using e
    rw [hbe]
    simp only [Bool.false_and, Bool.or_false, decide_eq_true_eq]
    unfold sgn
    by_cases k : x < y
    · rw [if_pos k, if_pos (by rw [UInt8.lt_iff_toNat_lt] at k; omega)]
    · rw [if_neg k, if_neg (by rw [UInt8.lt_iff_toNat_lt] at k; omega), if_pos (by rw [UInt8.lt_iff_toNat_lt] at k; omega)]
theorem cmpS_at : ∀ {a b : List UInt8} {k : Nat} {x y : UInt8}, (∀ j, j < k → ∀ c d, a[j]? = some c → b[j]? = some d → c = d) → a[k]? = some x → b[k]? = some y → (x.toNat : Int) ≠ (y.toNat : Int) → cmpS a b = sgn (x.toNat : Int) (y.toNat : Int)
  | c :: a, d :: b, 0, x, y, _, h1, h2, h => by
    simp at h1 h2; subst h1 h2
    rw [cmpS_cons, if_neg fun e => h (by rw [e])]
  | c :: a, d :: b, k + 1, x, y, h0, h1, h2, h => by
    have e := h0 0 (by omega) c d rfl rfl
    rw [cmpS_cons, if_pos e]
    exact cmpS_at (k := k) (fun j hj c d hc hd => h0 (j + 1) (by omega) c d (by simpa using hc) (by simpa using hd)) (by simpa using h1) (by simpa using h2) h
  | [], _, _, _, _, _, h1, _, _ => by simp at h1
  | _ :: _, [], _, _, _, _, _, h2, _ => by simp at h2
theorem cmpS_end : ∀ {a b : List UInt8} {k : Nat}, (∀ j, j < k → ∀ c d, a[j]? = some c → b[j]? = some d → c = d) → (a.length ≤ k ∨ b.length ≤ k) → cmpS a b = sgn (a.length : Int) (b.length : Int)
  | [], [], _, _, _ => by simp [cmpS, Op.bytesLess, sgn]
  | [], _ :: _, _, _, _ => by unfold sgn; rw [if_pos (by simp only [List.length_nil, List.length_cons]; omega)]; simp [cmpS, Op.bytesLess]
  | _ :: _, [], _, _, _ => by unfold sgn; rw [if_neg (by simp only [List.length_nil, List.length_cons]; omega), if_pos (by simp only [List.length_nil, List.length_cons]; omega)]; simp [cmpS, Op.bytesLess]
  | c :: a, d :: b, k, h0, h => by
    have hk : 0 < k := by simp at h; omega
    have e := h0 0 hk c d rfl rfl
    rw [cmpS_cons, if_pos e, cmpS_end (k := k - 1) (fun j hj c d hc hd => h0 (j + 1) (by omega) c d (by simpa using hc) (by simpa using hd)) (by simp at h; omega)]
    unfold sgn; simp only [List.length_cons]
    split <;> split <;> (try split) <;> (try split) <;> omega
theorem sgn_ne {a b : Int} (h : a ≠ b) : sgn a b ≠ 0 := fun e => h ((sgn_ord.eq a b).1 e)
theorem cmpV_k {x y : Val} (h : x.k ≠ y.k) : cmpV x y = sgn x.k y.k := by unfold cmpV; rw [if_pos (sgn_ne h)]
theorem cmpV_n {x y : Val} (h : x.k = y.k) (h2 : x.n ≠ y.n) : cmpV x y = sgn x.n y.n := by
  unfold cmpV; rw [if_neg (by rw [h, sgn_ord.refl]; simp), if_pos (sgn_ne h2)]
theorem cmpV_s {x y : Val} (h : x.k = y.k) (h2 : x.n = y.n) : cmpV x y = cmpS x.s y.s := by
  unfold cmpV; rw [if_neg (by rw [h, sgn_ord.refl]; simp), if_neg (by rw [h2, sgn_ord.refl]; simp)]
theorem cmpL_end' {α β : Type} {f : α → β → Int} {a : List α} {b : List β} {k : Nat} (h : ∀ j, j < k → ∀ x y, a[j]? = some x → b[j]? = some y → f x y = 0) (hk : a.length ≤ k ∨ b.length ≤ k) : cmpL f a b = sgn (a.length : Int) (b.length : Int) :=
  cmpL_end fun j x y hx hy => h j (by have := (List.getElem?_eq_some_iff.1 hx).1; have := (List.getElem?_eq_some_iff.1 hy).1; omega) x y hx hy

abbrev VV := List (List Val)
def posV : VV → List Val → Nat
  | [], _ => 0
  | u :: r, v => if cmpL cmpV u v < 0 then posV r v + 1 else 0
theorem posV_at : ∀ {out : VV} {v : List Val} {k : Nat}, k ≤ out.length → (∀ j, j < k → ∀ u, out[j]? = some u → cmpL cmpV u v < 0) → (∀ u, out[k]? = some u → ¬ cmpL cmpV u v < 0) → posV out v = k
  | [], v, k, hk, _, _ => by simp at hk; simp [posV, hk]
  | u :: r, v, 0, _, _, h => by simp only [posV]; rw [if_neg (h u rfl)]
  | u :: r, v, k + 1, hk, h0, h => by
    simp only [posV]; rw [if_pos (h0 0 (by omega) u rfl), posV_at (k := k) (by simpa using hk) (fun j hj u hu => h0 (j + 1) (by omega) u (by simpa using hu)) (fun u hu => h u (by simpa using hu))]
theorem posV_is : ∀ (out : VV) (v : List Val), posV out v ≤ out.length ∧ (∀ j, j < posV out v → ∀ u, out[j]? = some u → cmpL cmpV u v < 0) ∧ (∀ u, out[posV out v]? = some u → ¬ cmpL cmpV u v < 0)
  | [], v => ⟨by simp [posV], fun j hj => by simp [posV] at hj, fun u hu => by simp at hu⟩
  | u :: r, v => by
    obtain ⟨h1, h2, h3⟩ := posV_is r v
    simp only [posV]
    split
    · rename_i hu
      refine ⟨by simpa using h1, fun j hj w hw => ?_, fun w hw => h3 w (by simpa using hw)⟩
      cases j with
      | zero => simp at hw; subst hw; exact hu
      | succ j => exact h2 j (by omega) w (by simpa using hw)
    · rename_i hu
      exact ⟨by omega, fun j hj => absurd hj (by omega), fun w hw => by simp at hw; subst hw; exact hu⟩
def insV (out : VV) (v : List Val) : VV := if out[posV out v]? = some v then out else out.take (posV out v) ++ [v] ++ out.drop (posV out v)
theorem insV_len (out : VV) (v : List Val) : (insV out v).length ≤ out.length + 1 := by
  unfold insV; split
  · omega
  · have := (posV_is out v).1; simp; omega
theorem insV_mem {out : VV} {v u : List Val} : u ∈ insV out v ↔ u ∈ out ∨ u = v := by
  unfold insV
  split
  · rename_i h
    constructor
    · exact .inl
    · rintro (h1 | rfl)
      · exact h1
      · exact List.mem_of_getElem? h
  · rw [List.mem_append, List.mem_append, List.mem_singleton]
    constructor
    · rintro ((h | h) | h)
      · exact .inl (List.mem_of_mem_take h)
      · exact .inr h
      · exact .inl (List.mem_of_mem_drop h)
    · rintro (h | h)
      · rw [← List.take_append_drop (posV out v) out] at h
        rcases List.mem_append.1 h with k | k
        · exact .inl (.inl k)
        · exact .inr k
      · exact .inl (.inr h)
def IncV (l : VV) : Prop := l.Pairwise fun x y => cmpL cmpV x y < 0
theorem insV_inc {out : VV} {v : List Val} (h : IncV out) : IncV (insV out v) := by
  unfold insV
  split
  · exact h
  · rename_i hne
    obtain ⟨hp1, hp2, hp3⟩ := posV_is out v
    generalize posV out v = i at *
    have low : ∀ u ∈ out.take i, cmpL cmpV u v < 0 := fun u hu => by
      obtain ⟨j, hj, rfl⟩ := List.getElem_of_mem hu
      simp only [List.length_take] at hj
      rw [List.getElem_take]
      exact hp2 j (by omega) _ (List.getElem?_eq_getElem (by omega))
    have up : ∀ u ∈ out.drop i, cmpL cmpV v u < 0 := fun u hu => by
      obtain ⟨j, hj, rfl⟩ := List.getElem_of_mem hu
      simp only [List.length_drop] at hj
      rw [List.getElem_drop]
      have h0 := hp3 out[i] (List.getElem?_eq_getElem (by omega))
      have hn : out[i] ≠ v := fun e => hne (by rw [List.getElem?_eq_getElem (by omega), e])
      have h1 : cmpL cmpV v out[i] < 0 := by
        rcases Int.lt_or_le (cmpL cmpV v out[i]) 0 with k | k
        · exact k
        · exfalso
          by_cases e : cmpL cmpV v out[i] = 0
          · exact hn ((ord.eq _ _).1 e).symm
          · exact h0 ((ord.swap _ _).2 (by omega))
      by_cases e : j = 0
      · subst e; simpa using h1
      · exact ord.trans _ _ _ h1 (List.pairwise_iff_getElem.1 h i (i + j) (by omega) (by omega) (by omega))
    unfold IncV
    rw [List.pairwise_append, List.pairwise_append]
    refine ⟨⟨List.Pairwise.sublist (List.take_sublist _ _) h, by simp, fun y hy z hz => ?_⟩, List.Pairwise.sublist (List.drop_sublist _ _) h, fun y hy z hz => ?_⟩
    · rw [List.mem_singleton.1 hz]; exact low y hy
    · rcases List.mem_append.1 hy with hy | hy
      · exact ord.trans _ _ _ (low y hy) (up z hz)
      · rw [List.mem_singleton.1 hy]; exact up z hz
theorem vals_found {out : VV} {v : List Val} {k : Nat} (hk : k ≤ out.length) (h0 : ∀ j, j < k → ∀ u, out[j]? = some u → cmpL cmpV u v < 0) {u : List Val} (h1 : out[k]? = some u) (h2 : ¬ cmpL cmpV u v < 0) (h3 : u = v) : insV out v = out := by
  subst h3
  unfold insV
  rw [posV_at hk h0 (fun w hw => by rw [h1] at hw; obtain rfl := Option.some.inj hw; exact h2), if_pos h1]
theorem vals_put {out : VV} {v : List Val} {k : Nat} (hk : k ≤ out.length) (h0 : ∀ j, j < k → ∀ u, out[j]? = some u → cmpL cmpV u v < 0) (h2 : ∀ u, out[k]? = some u → ¬ cmpL cmpV u v < 0) (h3 : out[k]? ≠ some v) : insV out v = out.take k ++ [v] ++ out.drop k := by
  unfold insV
  rw [posV_at hk h0 h2, if_neg h3]
structure Shift (out M : VV) (j : Nat) : Prop where
  len : M.length = out.length + 1
  low : ∀ i, i < j → M[i]? = out[i]?
  high : ∀ i, j < i → i ≤ out.length → M[i]? = out[i - 1]?
theorem Shift.start {out : VV} {u : List Val} : Shift out (out ++ [u]) out.length :=
  ⟨by simp, fun i hi => List.getElem?_append_left hi, fun i h1 h2 => by omega⟩
theorem Shift.step {out M : VV} {j : Nat} {x : List Val} (h : Shift out M j) (hj : 0 < j) (hx : M[j - 1]? = some x) : Shift out (M.set j x) (j - 1) := by
  have hjl : j - 1 < M.length := (List.getElem?_eq_some_iff.1 hx).1
  refine ⟨by rw [List.length_set]; exact h.len, fun i hi => ?_, fun i h1 h2 => ?_⟩
  · rw [List.getElem?_set, if_neg (by omega)]; exact h.low i (by omega)
  · rw [List.getElem?_set]
    by_cases e : j = i
    · subst e
      rw [if_pos rfl]
      split
      · rw [← hx]; exact h.low _ (by omega)
      · have := h.len; omega
    · rw [if_neg e]; exact h.high i (by omega) h2
theorem Shift.done {out M : VV} {k : Nat} {v : List Val} (h : Shift out M k) (hk : k ≤ out.length) : M.set k v = out.take k ++ [v] ++ out.drop k := by
  apply List.ext_getElem?
  intro i
  have hl := h.len
  rw [List.getElem?_set, List.append_assoc, List.getElem?_append, List.length_take, Nat.min_eq_left hk]
  by_cases e : k = i
  · subst e
    rw [if_pos rfl, if_pos (by omega), if_neg (by omega)]; simp
  · rw [if_neg e]
    by_cases q : i < k
    · rw [if_pos q, List.getElem?_take, if_pos q]; exact h.low i q
    · rw [if_neg q, List.getElem?_append, if_neg (by simp; omega), List.getElem?_drop]
      rcases Nat.lt_or_ge out.length i with r | r
      · rw [List.getElem?_eq_none (by omega), List.getElem?_eq_none (by simp; omega)]
      · rw [h.high i (by omega) r]; congr 1; simp; omega

theorem spanB_V {s : Span} (h : spanB s = true) : spanV s = true := by
  have hp := spanB_pos h
  unfold spanB at h
  simp only [Bool.and_eq_true, decide_eq_true_eq] at h
  rw [spanV_B s h.1.1 h.2]; exact decide_eq_true hp
theorem u8_eq {c d : UInt8} (h : (c.toNat : Int) = (d.toNat : Int)) : c = d := UInt8.toNat_inj.1 (by omega)
end Go.Civ
namespace Go.Civ
open Go.RowKit
set_option linter.unusedVariables false

theorem wrap_u {n : Int} (h0 : 0 ≤ n) (h : n ≤ 9223372036854775807) : IntKind.u64.wrap n = n := by
  simp only [IntKind.wrap, IntKind.signed, IntKind.bits]
  simp
  omega
section
variable {P : Program} {Q : Exit → Env → World → Prop} {ρ : Env} {w : World} {ops : Array Oper} {rest : List Oper} {K : Env → World → Prop}
variable {d : Nat} {ty : TypeId} {pos : String} {af : Array Edge} {g : Option (Nat × Bool)} {G : GH}
theorem WL.toU {t t' : TypeId} {x : Operand} (n : Nat) {k : IntKind} (hs : P.underlying t = some (.int k)) (h : P.underlying t' = some (.int .u64)) (hb : n ≤ 4 * reach)
    (hw : Region.wanted ⟨some d, .convert t t' x, ty, pos, af, g⟩ (yieldE ops ρ) = true) (hx : ev ρ x = .int .i64 (n : Int))
    (kk : K (upd ρ d (.int .u64 (n : Int))) w) : OW P ops ⟨some d, .convert t t' x, ty, pos, af, g⟩ ρ w K := by
  refine WL.val hw ?_ rfl kk
  have e : IntKind.u64.wrap (n : Int) = (n : Int) := wrap_u (by omega) (by unfold reach at hb; omega)
  simp [execOp, hx, convert, underlying_run hs, underlying_run h, Conv.intToInt, Result.andThen, e]
theorem WL.half {t ty' : TypeId} {x y : Operand} (n : Nat)
    (hw : Region.wanted ⟨some d, .binOp .shr t x y ty', ty, pos, af, g⟩ (yieldE ops ρ) = true) (hx : ev ρ x = .int .u64 (n : Int)) (hy : ev ρ y = .int .u64 1)
    (kk : K (upd ρ d (.int .u64 ((n / 2 : Nat) : Int))) w) : OW P ops ⟨some d, .binOp .shr t x y ty', ty, pos, af, g⟩ ρ w K := by
  refine WL.val hw ?_ rfl kk
  have e : (Op.shift .shr .u64 (n : Int) .u64 1) = pure (.int .u64 ((n / 2 : Nat) : Int)) := by
    rw [shift_shr .u64 .u64 (n : Int) 1 (by decide) (by decide)]; simp
  simp [execOp, hx, hy, binOp, eqGuard, e]
theorem WL.ofU {t t' : TypeId} {x : Operand} (n : Nat) {k : IntKind} (hs : P.underlying t = some (.int k)) (h : P.underlying t' = some (.int .i64)) (hb : n ≤ 4 * reach)
    (hw : Region.wanted ⟨some d, .convert t t' x, ty, pos, af, g⟩ (yieldE ops ρ) = true) (hx : ev ρ x = .int .u64 (n : Int))
    (kk : K (upd ρ d (.int .i64 (n : Int))) w) : OW P ops ⟨some d, .convert t t' x, ty, pos, af, g⟩ ρ w K :=
  WL.convInt (n : Int) hs h ⟨by omega, by unfold reach at hb; omega⟩ hw hx kk
end
section
variable {α : Type} {pf : α → α → Int} {l L M : List α}
def LoF (l : List α) (i lo : Nat) (p : α → Prop) : Prop := i = lo ∨ ∃ y, l[i - 1]? = some y ∧ p y
def HiF (l : List α) (j hi : Nat) (p : α → Prop) : Prop := j = hi ∨ ∃ y, l[j]? = some y ∧ p y
def C1F (pf : α → α → Int) (l : List α) (s lo n : Nat) : Prop := s = lo ∨ ∃ u v, l[s - 1]? = some u ∧ l[n - s]? = some v ∧ ¬ pf v u < 0
def C2F (pf : α → α → Int) (l : List α) (r hi n : Nat) : Prop := r = hi ∨ ∃ u v, l[r]? = some u ∧ l[n - r - 1]? = some v ∧ pf v u < 0
theorem LoF.start {i lo : Nat} {p : α → Prop} (h : i = lo) : LoF l i lo p := .inl h
theorem HiF.start {i lo : Nat} {p : α → Prop} (h : i = lo) : HiF l i lo p := .inl h
theorem C1F.start {s n : Nat} : C1F pf l s s n := .inl rfl
theorem C2F.start {s n : Nat} : C2F pf l s s n := .inl rfl
theorem LoF.step {h lo : Nat} {y : α} {p : α → Prop} (hy : l[h]? = some y) (hp : p y) : LoF l (h + 1) lo p := .inr ⟨y, hy, hp⟩
theorem HiF.step {h hi : Nat} {y : α} {p : α → Prop} (hy : l[h]? = some y) (hp : p y) : HiF l h hi p := .inr ⟨y, hy, hp⟩
theorem C1F.step {c n lo : Nat} {u v : α} (hu : l[c]? = some u) (hv : l[n - 1 - c]? = some v) (h : 0 ≤ pf v u) : C1F pf l (c + 1) lo n :=
  .inr ⟨u, v, hu, by rw [show n - (c + 1) = n - 1 - c by omega]; exact hv, by omega⟩
theorem C2F.step {c n hi : Nat} {u v : α} (hu : l[c]? = some u) (hv : l[n - 1 - c]? = some v) (h : pf v u < 0) : C2F pf l c hi n :=
  .inr ⟨u, v, hu, by rw [show n - c - 1 = n - 1 - c by omega]; exact hv, h⟩
inductive Blks (pf : α → α → Int) (L : List α) (bs n : Nat) : Nat → Prop
  | fin {a : Nat} : n ≤ a → Blks pf L bs n a
  | step {a : Nat} : Asc pf L a (min (a + bs) n) → Blks pf L bs n (a + bs) → Blks pf L bs n a
inductive Done (pf : α → α → Int) (L : List α) (bs : Nat) : Nat → Prop
  | zero : Done pf L bs 0
  | snoc {a : Nat} : Done pf L bs a → Asc pf L a (a + bs) → Done pf L bs (a + bs)
variable {bs n a : Nat}
theorem Blks.frame (h : Blks pf L bs n a) (k : ∀ p, a ≤ p → M[p]? = L[p]?) : Blks pf M bs n a := by
  induction h with
  | fin h => exact .fin h
  | step h1 h2 ih => exact .step (h1.frame fun p hp _ => k p hp) (ih fun p hp => k p (by omega))
theorem Done.frame (h : Done pf L bs a) (k : ∀ p, p < a → M[p]? = L[p]?) : Done pf M bs a := by
  induction h with
  | zero => exact .zero
  | snoc h1 h2 ih => exact .snoc (ih fun p hp => k p (by omega)) (h2.frame fun p _ hp => k p hp)
theorem Done.blks (h : Done pf L bs a) (ha : a ≤ n) (k : Blks pf L bs n a) : Blks pf L bs n 0 := by
  induction h with
  | zero => exact k
  | snoc h1 h2 ih => exact ih (by omega) (.step (by rw [Nat.min_eq_left ha]; exact h2) k)
theorem Blks.head (h : Blks pf L bs n a) (ha : a < n) : Asc pf L a (min (a + bs) n) ∧ Blks pf L bs n (a + bs) := by
  cases h with
  | fin h => omega
  | step h1 h2 => exact ⟨h1, h2⟩
theorem Blks.last (h : Asc pf L a n) (ha : n ≤ a + bs) : Blks pf L bs n a := .step (by rw [Nat.min_eq_right ha]; exact h) (.fin ha)
theorem Blks.rest (h : Blks pf L bs n a) (h2 : a + bs < n) (h3 : n < a + 2 * bs) : Asc pf L a (a + bs) ∧ Asc pf L (a + bs) n := by
  obtain ⟨k1, k2⟩ := h.head (by omega)
  obtain ⟨k3, _⟩ := k2.head h2
  rw [Nat.min_eq_left (by omega)] at k1
  rw [Nat.min_eq_right (by omega)] at k3
  exact ⟨k1, k3⟩
theorem Blks.one (h : Blks pf L bs n a) (h2 : n ≤ a + bs) : Asc pf L a n := by
  rcases Nat.lt_or_ge a n with k | k
  · have := (h.head k).1
    rwa [Nat.min_eq_right h2] at this
  · exact Asc.empty (by omega)
theorem Done.ins (h : Done pf L bs a) (k : Ins pf L M a (a + bs) (a + bs)) : Done pf M bs (a + bs) := .snoc (h.frame fun p hp => k.frame p (by omega)) k.asc
theorem Done.last (h : Done pf L bs a) (k : Ins pf L M a n n) (ha : a ≤ n) (hn : n ≤ a + bs) : Blks pf M bs n 0 := (h.frame (M := M) fun p hp => k.frame p (by omega)).blks ha (.last k.asc hn)
end
end Go.Civ
namespace Go.Civ
open Go.RowKit
set_option linter.unusedVariables false

section
variable {P : Program} {Q : Exit → Env → World → Prop} {ρ : Env} {w : World} {ops : Array Oper} {rest : List Oper} {K : Env → World → Prop}
variable {d : Nat} {ty : TypeId} {pos : String} {af : Array Edge} {g : Option (Nat × Bool)} {G : GH}
end
theorem not_ft {b : Bool} (h : (!b) = false) : b = true := by cases b with | true => rfl | false => cases h
theorem Lent.cast {w : World} {G : GH} {b e : Nat} {cs cs' : List Value} (h : Lent w G (some (b, e, cs))) (k : cs = cs') : Lent w G (some (b, e, cs')) := k ▸ h

end Go.Civ
namespace Go.Civ
open Go.RowKit
set_option linter.unusedVariables false

def colsN (ns : List (List UInt8)) (l : List Val) (k : Nat) : List Col := ((ns.zip l).take k).map fun p => ⟨p.1, p.2.k⟩
def colsOf (ns : List (List UInt8)) (l : List Val) : List Col := (ns.zip l).map fun p => ⟨p.1, p.2.k⟩
theorem colsN_step {ns : List (List UInt8)} {l : List Val} {k : Nat} {n : List UInt8} {v : Val} (h1 : ns[k]? = some n) (h2 : l[k]? = some v) : colsN ns l (k + 1) = colsN ns l k ++ [⟨n, v.k⟩] := by
  unfold colsN
  have e : (ns.zip l)[k]? = some (n, v) := List.getElem?_zip_eq_some.2 ⟨h1, h2⟩
  rw [List.take_add_one, e]; simp
theorem colsN_len (ns : List (List UInt8)) (l : List Val) (k : Nat) : (colsN ns l k).length ≤ k := by unfold colsN; rw [List.length_map]; exact List.length_take_le _ _
theorem colsN_all {ns : List (List UInt8)} {l : List Val} {k : Nat} (h : ns.length ≤ k) : colsN ns l k = colsOf ns l := by
  unfold colsN colsOf; rw [List.take_of_length_le (by rw [List.length_zip]; omega)]
theorem colsOf_len {ns : List (List UInt8)} {l : List Val} (h : ns.length = l.length) : (colsOf ns l).length = l.length := by unfold colsOf; rw [List.length_map, List.length_zip]; omega
def hldG (ns : List (List UInt8)) (l : List Val) : Bool := decide (ns.length = l.length) && decide (ns.length ≤ 100) && l.all valB
def hldE (d : Nat) (c : Cond) (ns : List (List UInt8)) (l : List Val) : Int := bif hldG ns l then checkF d c (colsOf ns l) else 1
def hldB (d : Nat) (c : Cond) (ns : List (List UInt8)) (l : List Val) : Bool := bif hldG ns l then (bif decide (checkF d c (colsOf ns l) = 0) then meanF d c (colsOf ns l) l else false) else false
section
variable {d : Nat} {c : Cond} {ns : List (List UInt8)} {l : List Val}
theorem hld_no (h : ns.length ≠ l.length ∨ 100 < ns.length ∨ l.all valB = false) : hldB d c ns l = false ∧ hldE d c ns l = 1 := by
  have : hldG ns l = false := by
    unfold hldG
    rcases h with h | h | h
    · rw [decide_eq_false h]; rfl
    · rw [decide_eq_false (by omega : ¬ ns.length ≤ 100)]; simp
    · rw [h]; simp
  unfold hldB hldE; rw [this]; exact ⟨rfl, rfl⟩
theorem hld_g (h1 : ns.length = l.length) (h2 : ns.length ≤ 100) (h3 : l.all valB = true) : hldG ns l = true := by unfold hldG; rw [decide_eq_true h1, decide_eq_true h2, h3]; rfl
theorem hld_err (hg : hldG ns l = true) (h : checkF d c (colsOf ns l) ≠ 0) : hldB d c ns l = false ∧ hldE d c ns l = checkF d c (colsOf ns l) := by
  unfold hldB hldE; rw [hg, decide_eq_false h]; exact ⟨rfl, rfl⟩
theorem hld_ok (hg : hldG ns l = true) (h : checkF d c (colsOf ns l) = 0) : hldB d c ns l = meanF d c (colsOf ns l) l ∧ hldE d c ns l = 0 := by
  unfold hldB hldE; rw [hg, decide_eq_true h, h]; exact ⟨rfl, rfl⟩
theorem hld_err' {cols : List Col} (hc : cols = colsOf ns l) (hg : hldG ns l = true) (h : checkF d c cols ≠ 0) : hldB d c ns l = false ∧ hldE d c ns l = checkF d c cols := by subst hc; exact hld_err hg h
theorem hld_ok' {cols : List Col} (hc : cols = colsOf ns l) (hg : hldG ns l = true) (h : checkF d c cols = 0) : hldB d c ns l = meanF d c cols l ∧ hldE d c ns l = 0 := by subst hc; exact hld_ok hg h
theorem check_well {cs : List Col} (h : checkF d c cs = 0) : wellF d c ∧ typedF d c cs = 0 := by
  unfold checkF at h
  by_cases g : nodesF d c 1 ≤ 60
  · rw [if_pos g] at h; exact ⟨well_of (by omega) (by omega) g, h⟩
  · rw [if_neg g] at h; omega
end
section
variable {d : Nat} {c : Cond} {cs : List Col} {l : List Fact} {k : Nat} {f : Fact}
end
section
variable {d : Nat} {c : Cond} {cs : List Col} {l : List Fact}
end
end Go.Civ

namespace Go.Civ
set_option linter.unusedVariables false
end Go.Civ

namespace Go.Civ
set_option linter.unusedVariables false
section
variable {l : List Fact} {ps : List Int} {k j : Nat} {f : Fact} {i : Int}
end
end Go.Civ
namespace Go.Proofs
open Go.Shelf
def Tryz.laysCompact_ren : Go.Shelf.Ren := ⟨fun | 20 => 160 | n => n, fun | 22 => 135 | 3 => 3 | 4 => 4 | 0 => 0 | n => n, fun | n => n⟩
theorem Tryz.laysCompact : Go.Proofs.Lays2.n20 Tryz.prog Tryz.laysCompact_ren := {
  mixed := by kernel_rfl
  f20 := Tryz.func160.trans (congrArg some (by kernel_rfl))
  t0 := Tryz.underlying0
  a0 := Tryz.isAgg0
  z0 := Tryz.sizeOf0
  v0 := Tryz.zeroValue0
  t3 := Tryz.underlying3
  a3 := Tryz.isAgg3
  z3 := Tryz.sizeOf3
  v3 := Tryz.zeroValue3
  t4 := Tryz.underlying4
  a4 := Tryz.isAgg4
  z4 := Tryz.sizeOf4
  v4 := Tryz.zeroValue4
  t22 := Tryz.underlying135
  a22 := Tryz.isAgg135
  z22 := Tryz.sizeOf135
  v22 := Tryz.zeroValue135
  i3 := by kernel_rfl }
end Go.Proofs
