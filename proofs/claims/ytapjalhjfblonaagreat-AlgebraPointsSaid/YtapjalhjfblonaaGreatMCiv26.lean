/- Numbers halved; blocks in order. -/
import Derived.Test.YtapjalhjfblonaaGreatMCiv22
import Derived.Test.YtapjalhjfblonaaGreatMCiv25
namespace Go.Civ
open Go.RowKit
set_option linter.unusedVariables false

theorem wrap_u {n : Int} (h0 : 0 ≤ n) (h : n ≤ 9223372036854775807) : IntKind.u64.wrap n = n := by
  simp only [IntKind.wrap, IntKind.signed, IntKind.bits]
  simp
  omega
section
variable {P : Program} {Q : Exit → Env → World → Prop} {ρ : Env} {w : World} {ops : Array Oper} {rest : List Oper} {K : Env → World → Prop}
variable {d : Nat} {ty : TypeId} {pos : String} {af : Array Edge} {g : Option (Nat × Bool)} {G : GH}
theorem WL.toU {t t' : TypeId} {x : Operand} (n : Nat) {k : IntKind} (hs : P.underlying t = some (.int k)) (h : P.underlying t' = some (.int .u64)) (hb : n ≤ 4 * reach)
    (hw : Region.wanted ⟨some d, .convert t t' x, ty, pos, af, g⟩ (yieldE ops ρ) = true) (hx : ev ρ x = .int .i64 (n : Int))
    (kk : K (upd ρ d (.int .u64 (n : Int))) w) : OW P ops ⟨some d, .convert t t' x, ty, pos, af, g⟩ ρ w K := by
  refine WL.val hw ?_ rfl kk
  have e : IntKind.u64.wrap (n : Int) = (n : Int) := wrap_u (by omega) (by unfold reach at hb; omega)
  simp [execOp, hx, convert, underlying_run hs, underlying_run h, Conv.intToInt, Result.andThen, e]
theorem WL.half {t ty' : TypeId} {x y : Operand} (n : Nat)
    (hw : Region.wanted ⟨some d, .binOp .shr t x y ty', ty, pos, af, g⟩ (yieldE ops ρ) = true) (hx : ev ρ x = .int .u64 (n : Int)) (hy : ev ρ y = .int .u64 1)
    (kk : K (upd ρ d (.int .u64 ((n / 2 : Nat) : Int))) w) : OW P ops ⟨some d, .binOp .shr t x y ty', ty, pos, af, g⟩ ρ w K := by
  refine WL.val hw ?_ rfl kk
  have e : (Op.shift .shr .u64 (n : Int) .u64 1) = pure (.int .u64 ((n / 2 : Nat) : Int)) := by
    rw [shift_shr .u64 .u64 (n : Int) 1 (by decide) (by decide)]; simp
  simp [execOp, hx, hy, binOp, eqGuard, e]
theorem WL.ofU {t t' : TypeId} {x : Operand} (n : Nat) {k : IntKind} (hs : P.underlying t = some (.int k)) (h : P.underlying t' = some (.int .i64)) (hb : n ≤ 4 * reach)
    (hw : Region.wanted ⟨some d, .convert t t' x, ty, pos, af, g⟩ (yieldE ops ρ) = true) (hx : ev ρ x = .int .u64 (n : Int))
    (kk : K (upd ρ d (.int .i64 (n : Int))) w) : OW P ops ⟨some d, .convert t t' x, ty, pos, af, g⟩ ρ w K :=
  WL.convInt (n : Int) hs h ⟨by omega, by unfold reach at hb; omega⟩ hw hx kk
theorem WL.subN {t ty' : TypeId} {x y : Operand} (a b : Nat) (hba : b ≤ a) (hn : a ≤ 4 * reach)
    (hw : Region.wanted ⟨some d, .binOp .sub t x y ty', ty, pos, af, g⟩ (yieldE ops ρ) = true) (hx : ev ρ x = .int .i64 (a : Int)) (hy : ev ρ y = .int .i64 (b : Int))
    (kk : K (upd ρ d (.int .i64 ((a - b : Nat) : Int))) w) : OW P ops ⟨some d, .binOp .sub t x y ty', ty, pos, af, g⟩ ρ w K := by
  have e : ((a : Int) - (b : Int)) = ((a - b : Nat) : Int) := by omega
  refine WL.ar .sub rfl a b hw hx hy ⟨?_, ?_⟩ (by simp only [Ar.f, e]; exact kk)
  · simp only [Ar.f, e]; omega
  · simp only [Ar.f, e, reach] at *; omega
end
section
variable {α : Type} {pf : α → α → Int} {l L M : List α}
def LoF (l : List α) (i lo : Nat) (p : α → Prop) : Prop := i = lo ∨ ∃ y, l[i - 1]? = some y ∧ p y
def HiF (l : List α) (j hi : Nat) (p : α → Prop) : Prop := j = hi ∨ ∃ y, l[j]? = some y ∧ p y
def C1F (pf : α → α → Int) (l : List α) (s lo n : Nat) : Prop := s = lo ∨ ∃ u v, l[s - 1]? = some u ∧ l[n - s]? = some v ∧ ¬ pf v u < 0
def C2F (pf : α → α → Int) (l : List α) (r hi n : Nat) : Prop := r = hi ∨ ∃ u v, l[r]? = some u ∧ l[n - r - 1]? = some v ∧ pf v u < 0
theorem LoF.start {i lo : Nat} {p : α → Prop} (h : i = lo) : LoF l i lo p := .inl h
theorem HiF.start {i lo : Nat} {p : α → Prop} (h : i = lo) : HiF l i lo p := .inl h
theorem C1F.start {s n : Nat} : C1F pf l s s n := .inl rfl
theorem C2F.start {s n : Nat} : C2F pf l s s n := .inl rfl
theorem LoF.step {h lo : Nat} {y : α} {p : α → Prop} (hy : l[h]? = some y) (hp : p y) : LoF l (h + 1) lo p := .inr ⟨y, hy, hp⟩
theorem HiF.step {h hi : Nat} {y : α} {p : α → Prop} (hy : l[h]? = some y) (hp : p y) : HiF l h hi p := .inr ⟨y, hy, hp⟩
theorem C1F.step {c n lo : Nat} {u v : α} (hu : l[c]? = some u) (hv : l[n - 1 - c]? = some v) (h : 0 ≤ pf v u) : C1F pf l (c + 1) lo n :=
  .inr ⟨u, v, hu, by rw [show n - (c + 1) = n - 1 - c by omega]; exact hv, by omega⟩
theorem C2F.step {c n hi : Nat} {u v : α} (hu : l[c]? = some u) (hv : l[n - 1 - c]? = some v) (h : pf v u < 0) : C2F pf l c hi n :=
  .inr ⟨u, v, hu, by rw [show n - c - 1 = n - 1 - c by omega]; exact hv, h⟩
theorem merge_upF {a b i j k : Nat} {x : α} (hA : OrdA pf l) (hT : OrdT pf l) (hx : l[a]? = some x) (hs : Asc pf l (a + 1) b) (hi1 : a + 1 ≤ i) (hi2 : i ≤ b) (hb : b ≤ l.length)
    (lo : LoF l i (a + 1) fun y => pf y x < 0) (hi : HiF l j b fun y => ¬ pf y x < 0) (hij : i = j) (hik : i = k + 1) (h : Moved l M (rotIx a (a + 1) (k + 1))) : Ins pf l M a b b := by
  subst hij; subst hik; exact merge_up hA hT hx hs hi1 hi2 hb lo hi h
theorem merge_downF {a m i j k b : Nat} {x : α} (hA : OrdA pf l) (hT : OrdT pf l) (hx : l[m]? = some x) (hs : Asc pf l a m) (hi1 : a ≤ i) (hi2 : i ≤ m)
    (lo : LoF l i a fun y => ¬ pf x y < 0) (hi : HiF l j m fun y => pf x y < 0) (hij : i = j) (hik : i = k) (hb : b = m + 1) (h : Moved l M (rotIx k m (m + 1))) : Ins pf l M a b b := by
  subst hij; subst hik; subst hb; exact merge_down hA hT hx hs hi1 hi2 lo hi h
theorem halvesF {a s r m e b n lo hi mid : Nat} (hA : OrdA pf l) (hT : OrdT pf l) (hs1 : Asc pf l a m) (hs2 : Asc pf l m b) (h1 : a ≤ s) (h2 : s ≤ m) (h3 : m ≤ e) (h4 : e ≤ b) (hb : b ≤ l.length)
    (hsr : s = r) (hen : e = n - s) (hmid : s + (e - m) = mid) (c1 : C1F pf l s lo n) (k1 : s = lo → s = a ∨ e = b) (c2 : C2F pf l r hi n) (k2 : r = hi → s = m ∨ e = m)
    (h : Moved l M (rotIx s m e)) : Halves pf l M a s mid e b := by
  subst hsr; subst hen; subst hmid
  refine halves hA hT hs1 hs2 h1 h2 h3 h4 hb ?_ ?_ h
  · rcases c1 with q | q
    · rcases k1 q with q | q
      · exact .inl q
      · exact .inr (.inl q)
    · exact .inr (.inr q)
  · rcases c2 with q | q
    · rcases k2 q with q | q
      · exact .inl q
      · exact .inr (.inl q)
    · exact .inr (.inr q)
theorem Moved.idR {s m e : Nat} (h : s = m ∨ e ≤ m) : Moved l l (rotIx s m e) := Moved.refl fun p _ => by unfold rotIx; (repeat' split) <;> omega

/-- From a on, in steps of bs, every block is ascending. -/
inductive Blks (pf : α → α → Int) (L : List α) (bs n : Nat) : Nat → Prop
  | fin {a : Nat} : n ≤ a → Blks pf L bs n a
  | step {a : Nat} : Asc pf L a (min (a + bs) n) → Blks pf L bs n (a + bs) → Blks pf L bs n a
/-- Up to a, in steps of bs, every block is ascending. -/
inductive Done (pf : α → α → Int) (L : List α) (bs : Nat) : Nat → Prop
  | zero : Done pf L bs 0
  | snoc {a : Nat} : Done pf L bs a → Asc pf L a (a + bs) → Done pf L bs (a + bs)
variable {bs n a : Nat}
theorem Blks.frame (h : Blks pf L bs n a) (k : ∀ p, a ≤ p → M[p]? = L[p]?) : Blks pf M bs n a := by
  induction h with
  | fin h => exact .fin h
  | step h1 h2 ih => exact .step (h1.frame fun p hp _ => k p hp) (ih fun p hp => k p (by omega))
theorem Done.frame (h : Done pf L bs a) (k : ∀ p, p < a → M[p]? = L[p]?) : Done pf M bs a := by
  induction h with
  | zero => exact .zero
  | snoc h1 h2 ih => exact .snoc (ih fun p hp => k p (by omega)) (h2.frame fun p _ hp => k p hp)
theorem Done.blks (h : Done pf L bs a) (ha : a ≤ n) (k : Blks pf L bs n a) : Blks pf L bs n 0 := by
  induction h with
  | zero => exact k
  | snoc h1 h2 ih => exact ih (by omega) (.step (by rw [Nat.min_eq_left ha]; exact h2) k)
theorem Blks.head (h : Blks pf L bs n a) (ha : a < n) : Asc pf L a (min (a + bs) n) ∧ Blks pf L bs n (a + bs) := by
  cases h with
  | fin h => omega
  | step h1 h2 => exact ⟨h1, h2⟩
theorem Blks.last (h : Asc pf L a n) (ha : n ≤ a + bs) : Blks pf L bs n a := .step (by rw [Nat.min_eq_right ha]; exact h) (.fin ha)
theorem Blks.two (h : Blks pf L bs n a) (h1 : 1 ≤ bs) (h2 : a + 2 * bs ≤ n) : Asc pf L a (a + bs) ∧ Asc pf L (a + bs) (a + 2 * bs) ∧ Blks pf L bs n (a + 2 * bs) := by
  obtain ⟨k1, k2⟩ := h.head (by omega)
  obtain ⟨k3, k4⟩ := k2.head (by omega)
  rw [Nat.min_eq_left (by omega)] at k1 k3
  rw [show a + bs + bs = a + 2 * bs by omega] at k3 k4
  exact ⟨k1, k3, k4⟩
theorem Blks.rest (h : Blks pf L bs n a) (h2 : a + bs < n) (h3 : n < a + 2 * bs) : Asc pf L a (a + bs) ∧ Asc pf L (a + bs) n := by
  obtain ⟨k1, k2⟩ := h.head (by omega)
  obtain ⟨k3, _⟩ := k2.head h2
  rw [Nat.min_eq_left (by omega)] at k1
  rw [Nat.min_eq_right (by omega)] at k3
  exact ⟨k1, k3⟩
theorem Blks.one (h : Blks pf L bs n a) (h2 : n ≤ a + bs) : Asc pf L a n := by
  rcases Nat.lt_or_ge a n with k | k
  · have := (h.head k).1
    rwa [Nat.min_eq_right h2] at this
  · exact Asc.empty (by omega)
/-- Two blocks have become one. -/
theorem Blks.merged (h : Blks pf L bs n a) (h1 : 1 ≤ bs) (h2 : a + 2 * bs ≤ n) (k : Ins pf L M a (a + 2 * bs) (a + 2 * bs)) : Blks pf M bs n (a + 2 * bs) := (h.two h1 h2).2.2.frame fun p hp => k.frame p (by omega)
theorem Done.merged (h : Done pf L (2 * bs) a) (k : Ins pf L M a (a + 2 * bs) (a + 2 * bs)) : Done pf M (2 * bs) (a + 2 * bs) := .snoc (h.frame fun p hp => k.frame p (by omega)) k.asc
theorem Done.ins (h : Done pf L bs a) (k : Ins pf L M a (a + bs) (a + bs)) : Done pf M bs (a + bs) := .snoc (h.frame fun p hp => k.frame p (by omega)) k.asc
theorem Done.last (h : Done pf L bs a) (k : Ins pf L M a n n) (ha : a ≤ n) (hn : n ≤ a + bs) : Blks pf M bs n 0 := (h.frame (M := M) fun p hp => k.frame p (by omega)).blks ha (.last k.asc hn)
theorem Done.stay (h : Done pf L bs a) (k : Asc pf L a n) (ha : a ≤ n) (hn : n ≤ a + bs) : Blks pf L bs n 0 := h.blks ha (.last k hn)
theorem blks_ins (h : Blks pf M bs n 0) (hp : M.Perm l) (hn : n ≤ bs) (hl : n = l.length) : Ins pf l M 0 n n :=
  ⟨hp, fun p hp' => by rw [List.getElem?_eq_none (by rw [hp.length_eq]; omega), List.getElem?_eq_none (by omega)], h.one (by omega)⟩
end
end Go.Civ
