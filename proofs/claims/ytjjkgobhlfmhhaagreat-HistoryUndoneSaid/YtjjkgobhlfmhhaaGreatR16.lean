/- Lemmas: Civ19, Civ24, Civ26, Civ27, Civ38, Sr, Shelf2, Shelf4, Si. -/
import Derived.Test.YtjjkgobhlfmhhaaGreatR03
import Derived.Test.YtjjkgobhlfmhhaaGreatR11
import Derived.Test.YtjjkgobhlfmhhaaGreatR12
import Derived.Test.YtjjkgobhlfmhhaaGreatR13
import Derived.Test.YtjjkgobhlfmhhaaGreatR15
import Derived.Shelf.Sort.Plain
import Derived.Shelf.Slices.CompactI
import Derived.Ground.Names2Prog
import Derived.Test.YtjjkgobhlfmhhaaGreatProg
import Derived.Shelf.Small.Strs
import Derived.Ground.NamesProg
namespace Go.Civ
set_option linter.unusedVariables false

abbrev VV := List (List Val)
def posV : VV → List Val → Nat
  | [], _ => 0
  | u :: r, v => if cmpL cmpV u v < 0 then posV r v + 1 else 0
theorem posV_is : ∀ (out : VV) (v : List Val), posV out v ≤ out.length ∧ (∀ j, j < posV out v → ∀ u, out[j]? = some u → cmpL cmpV u v < 0) ∧ (∀ u, out[posV out v]? = some u → ¬ cmpL cmpV u v < 0)
  | [], v => ⟨by simp [posV], fun j hj => by simp [posV] at hj, fun u hu => by simp at hu⟩
  | u :: r, v => by
    obtain ⟨h1, h2, h3⟩ := posV_is r v
    simp only [posV]
    split
    · rename_i hu
      refine ⟨by simpa using h1, fun j hj w hw => ?_, fun w hw => h3 w (by simpa using hw)⟩
      cases j with
      | zero => simp at hw; subst hw; exact hu
      | succ j => exact h2 j (by omega) w (by simpa using hw)
    · rename_i hu
      exact ⟨by omega, fun j hj => absurd hj (by omega), fun w hw => by simp at hw; subst hw; exact hu⟩
def insV (out : VV) (v : List Val) : VV := if out[posV out v]? = some v then out else out.take (posV out v) ++ [v] ++ out.drop (posV out v)
theorem insV_len (out : VV) (v : List Val) : (insV out v).length ≤ out.length + 1 := by
  unfold insV; split
  · omega
  · have := (posV_is out v).1; simp; omega
theorem insV_mem {out : VV} {v u : List Val} : u ∈ insV out v ↔ u ∈ out ∨ u = v := by
  unfold insV
  split
  · rename_i h
    constructor
    · exact .inl
    · rintro (h1 | rfl)
      · exact h1
      · exact List.mem_of_getElem? h
  · rw [List.mem_append, List.mem_append, List.mem_singleton]
    constructor
    · rintro ((h | h) | h)
      · exact .inl (List.mem_of_mem_take h)
      · exact .inr h
      · exact .inl (List.mem_of_mem_drop h)
    · rintro (h | h)
      · rw [← List.take_append_drop (posV out v) out] at h
        rcases List.mem_append.1 h with k | k
        · exact .inl (.inl k)
        · exact .inr k
      · exact .inl (.inr h)
def IncV (l : VV) : Prop := l.Pairwise fun x y => cmpL cmpV x y < 0
theorem insV_inc {out : VV} {v : List Val} (h : IncV out) : IncV (insV out v) := by
  unfold insV
  split
  · exact h
  · rename_i hne
    obtain ⟨hp1, hp2, hp3⟩ := posV_is out v
    generalize posV out v = i at *
    have low : ∀ u ∈ out.take i, cmpL cmpV u v < 0 := fun u hu => by
      obtain ⟨j, hj, rfl⟩ := List.getElem_of_mem hu
      simp only [List.length_take] at hj
      rw [List.getElem_take]
      exact hp2 j (by omega) _ (List.getElem?_eq_getElem (by omega))
    have up : ∀ u ∈ out.drop i, cmpL cmpV v u < 0 := fun u hu => by
      obtain ⟨j, hj, rfl⟩ := List.getElem_of_mem hu
      simp only [List.length_drop] at hj
      rw [List.getElem_drop]
      have h0 := hp3 out[i] (List.getElem?_eq_getElem (by omega))
      have hn : out[i] ≠ v := fun e => hne (by rw [List.getElem?_eq_getElem (by omega), e])
      have h1 : cmpL cmpV v out[i] < 0 := by
        rcases Int.lt_or_le (cmpL cmpV v out[i]) 0 with k | k
        · exact k
        · exfalso
          by_cases e : cmpL cmpV v out[i] = 0
          · exact hn ((ord.eq _ _).1 e).symm
          · exact h0 ((ord.swap _ _).2 (by omega))
      by_cases e : j = 0
      · subst e; simpa using h1
      · exact ord.trans _ _ _ h1 (List.pairwise_iff_getElem.1 h i (i + j) (by omega) (by omega) (by omega))
    unfold IncV
    rw [List.pairwise_append, List.pairwise_append]
    refine ⟨⟨List.Pairwise.sublist (List.take_sublist _ _) h, by simp, fun y hy z hz => ?_⟩, List.Pairwise.sublist (List.drop_sublist _ _) h, fun y hy z hz => ?_⟩
    · rw [List.mem_singleton.1 hz]; exact low y hy
    · rcases List.mem_append.1 hy with hy | hy
      · exact ord.trans _ _ _ (low y hy) (up z hz)
      · rw [List.mem_singleton.1 hy]; exact up z hz
structure Shift (out M : VV) (j : Nat) : Prop where
  len : M.length = out.length + 1
  low : ∀ i, i < j → M[i]? = out[i]?
  high : ∀ i, j < i → i ≤ out.length → M[i]? = out[i - 1]?
theorem Shift.start {out : VV} {u : List Val} : Shift out (out ++ [u]) out.length :=
  ⟨by simp, fun i hi => List.getElem?_append_left hi, fun i h1 h2 => by omega⟩
theorem Shift.step {out M : VV} {j : Nat} {x : List Val} (h : Shift out M j) (hj : 0 < j) (hx : M[j - 1]? = some x) : Shift out (M.set j x) (j - 1) := by
  have hjl : j - 1 < M.length := (List.getElem?_eq_some_iff.1 hx).1
  refine ⟨by rw [List.length_set]; exact h.len, fun i hi => ?_, fun i h1 h2 => ?_⟩
  · rw [List.getElem?_set, if_neg (by omega)]; exact h.low i (by omega)
  · rw [List.getElem?_set]
    by_cases e : j = i
    · subst e
      rw [if_pos rfl]
      split
      · rw [← hx]; exact h.low _ (by omega)
      · have := h.len; omega
    · rw [if_neg e]; exact h.high i (by omega) h2
theorem Shift.done {out M : VV} {k : Nat} {v : List Val} (h : Shift out M k) (hk : k ≤ out.length) : M.set k v = out.take k ++ [v] ++ out.drop k := by
  apply List.ext_getElem?
  intro i
  have hl := h.len
  rw [List.getElem?_set, List.append_assoc, List.getElem?_append, List.length_take, Nat.min_eq_left hk]
  by_cases e : k = i
  · subst e
    rw [if_pos rfl, if_pos (by omega), if_neg (by omega)]; simp
  · rw [if_neg e]
    by_cases q : i < k
    · rw [if_pos q, List.getElem?_take, if_pos q]; exact h.low i q
    · rw [if_neg q, List.getElem?_append, if_neg (by simp; omega), List.getElem?_drop]
      rcases Nat.lt_or_ge out.length i with r | r
      · rw [List.getElem?_eq_none (by omega), List.getElem?_eq_none (by simp; omega)]
      · rw [h.high i (by omega) r]; congr 1; simp; omega

theorem spanB_V {s : Span} (h : spanB s = true) : spanV s = true := by
  have hp := spanB_pos h
  unfold spanB at h
  simp only [Bool.and_eq_true, decide_eq_true_eq] at h
  rw [spanV_B s h.1.1 h.2]; exact decide_eq_true hp
end Go.Civ
namespace Go.Civ
open Go.RowKit
set_option linter.unusedVariables false

theorem wrap_u {n : Int} (h0 : 0 ≤ n) (h : n ≤ 9223372036854775807) : IntKind.u64.wrap n = n := by
  simp only [IntKind.wrap, IntKind.signed, IntKind.bits]
  simp
  omega
section
variable {P : Program} {Q : Exit → Env → World → Prop} {ρ : Env} {w : World} {ops : Array Oper} {rest : List Oper} {K : Env → World → Prop}
variable {d : Nat} {ty : TypeId} {pos : String} {af : Array Edge} {g : Option (Nat × Bool)} {G : GH}
theorem WL.toU {t t' : TypeId} {x : Operand} (n : Nat) {k : IntKind} (hs : P.underlying t = some (.int k)) (h : P.underlying t' = some (.int .u64)) (hb : n ≤ 4 * reach)
    (hw : Region.wanted ⟨some d, .convert t t' x, ty, pos, af, g⟩ (yieldE ops ρ) = true) (hx : ev ρ x = .int .i64 (n : Int))
    (kk : K (upd ρ d (.int .u64 (n : Int))) w) : OW P ops ⟨some d, .convert t t' x, ty, pos, af, g⟩ ρ w K := by
  refine WL.val hw ?_ rfl kk
  have e : IntKind.u64.wrap (n : Int) = (n : Int) := wrap_u (by omega) (by unfold reach at hb; omega)
  simp [execOp, hx, convert, underlying_run hs, underlying_run h, Conv.intToInt, Result.andThen, e]
theorem WL.half {t ty' : TypeId} {x y : Operand} (n : Nat)
    (hw : Region.wanted ⟨some d, .binOp .shr t x y ty', ty, pos, af, g⟩ (yieldE ops ρ) = true) (hx : ev ρ x = .int .u64 (n : Int)) (hy : ev ρ y = .int .u64 1)
    (kk : K (upd ρ d (.int .u64 ((n / 2 : Nat) : Int))) w) : OW P ops ⟨some d, .binOp .shr t x y ty', ty, pos, af, g⟩ ρ w K := by
  refine WL.val hw ?_ rfl kk
  have e : (Op.shift .shr .u64 (n : Int) .u64 1) = pure (.int .u64 ((n / 2 : Nat) : Int)) := by
    rw [shift_shr .u64 .u64 (n : Int) 1 (by decide) (by decide)]; simp
  simp [execOp, hx, hy, binOp, eqGuard, e]
theorem WL.ofU {t t' : TypeId} {x : Operand} (n : Nat) {k : IntKind} (hs : P.underlying t = some (.int k)) (h : P.underlying t' = some (.int .i64)) (hb : n ≤ 4 * reach)
    (hw : Region.wanted ⟨some d, .convert t t' x, ty, pos, af, g⟩ (yieldE ops ρ) = true) (hx : ev ρ x = .int .u64 (n : Int))
    (kk : K (upd ρ d (.int .i64 (n : Int))) w) : OW P ops ⟨some d, .convert t t' x, ty, pos, af, g⟩ ρ w K :=
  WL.convInt (n : Int) hs h ⟨by omega, by unfold reach at hb; omega⟩ hw hx kk
end
section
variable {α : Type} {pf : α → α → Int} {l L M : List α}
def LoF (l : List α) (i lo : Nat) (p : α → Prop) : Prop := i = lo ∨ ∃ y, l[i - 1]? = some y ∧ p y
def HiF (l : List α) (j hi : Nat) (p : α → Prop) : Prop := j = hi ∨ ∃ y, l[j]? = some y ∧ p y
def C1F (pf : α → α → Int) (l : List α) (s lo n : Nat) : Prop := s = lo ∨ ∃ u v, l[s - 1]? = some u ∧ l[n - s]? = some v ∧ ¬ pf v u < 0
def C2F (pf : α → α → Int) (l : List α) (r hi n : Nat) : Prop := r = hi ∨ ∃ u v, l[r]? = some u ∧ l[n - r - 1]? = some v ∧ pf v u < 0
theorem LoF.start {i lo : Nat} {p : α → Prop} (h : i = lo) : LoF l i lo p := .inl h
theorem HiF.start {i lo : Nat} {p : α → Prop} (h : i = lo) : HiF l i lo p := .inl h
theorem C1F.start {s n : Nat} : C1F pf l s s n := .inl rfl
theorem C2F.start {s n : Nat} : C2F pf l s s n := .inl rfl
theorem LoF.step {h lo : Nat} {y : α} {p : α → Prop} (hy : l[h]? = some y) (hp : p y) : LoF l (h + 1) lo p := .inr ⟨y, hy, hp⟩
theorem HiF.step {h hi : Nat} {y : α} {p : α → Prop} (hy : l[h]? = some y) (hp : p y) : HiF l h hi p := .inr ⟨y, hy, hp⟩
theorem C1F.step {c n lo : Nat} {u v : α} (hu : l[c]? = some u) (hv : l[n - 1 - c]? = some v) (h : 0 ≤ pf v u) : C1F pf l (c + 1) lo n :=
  .inr ⟨u, v, hu, by rw [show n - (c + 1) = n - 1 - c by omega]; exact hv, by omega⟩
theorem C2F.step {c n hi : Nat} {u v : α} (hu : l[c]? = some u) (hv : l[n - 1 - c]? = some v) (h : pf v u < 0) : C2F pf l c hi n :=
  .inr ⟨u, v, hu, by rw [show n - c - 1 = n - 1 - c by omega]; exact hv, h⟩
inductive Blks (pf : α → α → Int) (L : List α) (bs n : Nat) : Nat → Prop
  | fin {a : Nat} : n ≤ a → Blks pf L bs n a
  | step {a : Nat} : Asc pf L a (min (a + bs) n) → Blks pf L bs n (a + bs) → Blks pf L bs n a
inductive Done (pf : α → α → Int) (L : List α) (bs : Nat) : Nat → Prop
  | zero : Done pf L bs 0
  | snoc {a : Nat} : Done pf L bs a → Asc pf L a (a + bs) → Done pf L bs (a + bs)
variable {bs n a : Nat}
theorem Blks.frame (h : Blks pf L bs n a) (k : ∀ p, a ≤ p → M[p]? = L[p]?) : Blks pf M bs n a := by
  induction h with
  | fin h => exact .fin h
  | step h1 h2 ih => exact .step (h1.frame fun p hp _ => k p hp) (ih fun p hp => k p (by omega))
theorem Done.frame (h : Done pf L bs a) (k : ∀ p, p < a → M[p]? = L[p]?) : Done pf M bs a := by
  induction h with
  | zero => exact .zero
  | snoc h1 h2 ih => exact .snoc (ih fun p hp => k p (by omega)) (h2.frame fun p _ hp => k p hp)
theorem Done.blks (h : Done pf L bs a) (ha : a ≤ n) (k : Blks pf L bs n a) : Blks pf L bs n 0 := by
  induction h with
  | zero => exact k
  | snoc h1 h2 ih => exact ih (by omega) (.step (by rw [Nat.min_eq_left ha]; exact h2) k)
theorem Blks.head (h : Blks pf L bs n a) (ha : a < n) : Asc pf L a (min (a + bs) n) ∧ Blks pf L bs n (a + bs) := by
  cases h with
  | fin h => omega
  | step h1 h2 => exact ⟨h1, h2⟩
theorem Blks.last (h : Asc pf L a n) (ha : n ≤ a + bs) : Blks pf L bs n a := .step (by rw [Nat.min_eq_right ha]; exact h) (.fin ha)
theorem Blks.rest (h : Blks pf L bs n a) (h2 : a + bs < n) (h3 : n < a + 2 * bs) : Asc pf L a (a + bs) ∧ Asc pf L (a + bs) n := by
  obtain ⟨k1, k2⟩ := h.head (by omega)
  obtain ⟨k3, _⟩ := k2.head h2
  rw [Nat.min_eq_left (by omega)] at k1
  rw [Nat.min_eq_right (by omega)] at k3
  exact ⟨k1, k3⟩
theorem Blks.one (h : Blks pf L bs n a) (h2 : n ≤ a + bs) : Asc pf L a n := by
  rcases Nat.lt_or_ge a n with k | k
  · have := (h.head k).1
    rwa [Nat.min_eq_right h2] at this
  · exact Asc.empty (by omega)
theorem Done.ins (h : Done pf L bs a) (k : Ins pf L M a (a + bs) (a + bs)) : Done pf M bs (a + bs) := .snoc (h.frame fun p hp => k.frame p (by omega)) k.asc
theorem Done.last (h : Done pf L bs a) (k : Ins pf L M a n n) (ha : a ≤ n) (hn : n ≤ a + bs) : Blks pf M bs n 0 := (h.frame (M := M) fun p hp => k.frame p (by omega)).blks ha (.last k.asc hn)
end
end Go.Civ
namespace Go.Civ
open Go.RowKit
set_option linter.unusedVariables false

section
variable {P : Program} {Q : Exit → Env → World → Prop} {ρ : Env} {w : World} {ops : Array Oper} {rest : List Oper} {K : Env → World → Prop}
variable {d : Nat} {ty : TypeId} {pos : String} {af : Array Edge} {g : Option (Nat × Bool)} {G : GH}
end
theorem not_ft {b : Bool} (h : (!b) = false) : b = true := by cases b with | true => rfl | false => cases h
theorem Lent.cast {w : World} {G : GH} {b e : Nat} {cs cs' : List Value} (h : Lent w G (some (b, e, cs))) (k : cs = cs') : Lent w G (some (b, e, cs')) := k ▸ h

end Go.Civ
namespace Go.Civ
open Go.RowKit
set_option linter.unusedVariables false

def colsN (ns : List (List UInt8)) (l : List Val) (k : Nat) : List Col := ((ns.zip l).take k).map fun p => ⟨p.1, p.2.k⟩
def colsOf (ns : List (List UInt8)) (l : List Val) : List Col := (ns.zip l).map fun p => ⟨p.1, p.2.k⟩
theorem colsN_step {ns : List (List UInt8)} {l : List Val} {k : Nat} {n : List UInt8} {v : Val} (h1 : ns[k]? = some n) (h2 : l[k]? = some v) : colsN ns l (k + 1) = colsN ns l k ++ [⟨n, v.k⟩] := by
  unfold colsN
  have e : (ns.zip l)[k]? = some (n, v) := List.getElem?_zip_eq_some.2 ⟨h1, h2⟩
  rw [List.take_add_one, e]; simp
theorem colsN_len (ns : List (List UInt8)) (l : List Val) (k : Nat) : (colsN ns l k).length ≤ k := by unfold colsN; rw [List.length_map]; exact List.length_take_le _ _
theorem colsN_all {ns : List (List UInt8)} {l : List Val} {k : Nat} (h : ns.length ≤ k) : colsN ns l k = colsOf ns l := by
  unfold colsN colsOf; rw [List.take_of_length_le (by rw [List.length_zip]; omega)]
theorem colsOf_len {ns : List (List UInt8)} {l : List Val} (h : ns.length = l.length) : (colsOf ns l).length = l.length := by unfold colsOf; rw [List.length_map, List.length_zip]; omega
def hldG (ns : List (List UInt8)) (l : List Val) : Bool := decide (ns.length = l.length) && decide (ns.length ≤ 100) && l.all valB
def hldE (d : Nat) (c : Cond) (ns : List (List UInt8)) (l : List Val) : Int := bif hldG ns l then checkF d c (colsOf ns l) else 1
def hldB (d : Nat) (c : Cond) (ns : List (List UInt8)) (l : List Val) : Bool := bif hldG ns l then (bif decide (checkF d c (colsOf ns l) = 0) then meanF d c (colsOf ns l) l else false) else false
section
variable {d : Nat} {c : Cond} {ns : List (List UInt8)} {l : List Val}
theorem hld_no (h : ns.length ≠ l.length ∨ 100 < ns.length ∨ l.all valB = false) : hldB d c ns l = false ∧ hldE d c ns l = 1 := by
  have : hldG ns l = false := by
    unfold hldG
    rcases h with h | h | h
    · rw [decide_eq_false h]; rfl
    · rw [decide_eq_false (by omega : ¬ ns.length ≤ 100)]; simp
    · rw [h]; simp
  unfold hldB hldE; rw [this]; exact ⟨rfl, rfl⟩
theorem hld_g (h1 : ns.length = l.length) (h2 : ns.length ≤ 100) (h3 : l.all valB = true) : hldG ns l = true := by unfold hldG; rw [decide_eq_true h1, decide_eq_true h2, h3]; rfl
theorem hld_err (hg : hldG ns l = true) (h : checkF d c (colsOf ns l) ≠ 0) : hldB d c ns l = false ∧ hldE d c ns l = checkF d c (colsOf ns l) := by
  unfold hldB hldE; rw [hg, decide_eq_false h]; exact ⟨rfl, rfl⟩
theorem hld_ok (hg : hldG ns l = true) (h : checkF d c (colsOf ns l) = 0) : hldB d c ns l = meanF d c (colsOf ns l) l ∧ hldE d c ns l = 0 := by
  unfold hldB hldE; rw [hg, decide_eq_true h, h]; exact ⟨rfl, rfl⟩
theorem hld_err' {cols : List Col} (hc : cols = colsOf ns l) (hg : hldG ns l = true) (h : checkF d c cols ≠ 0) : hldB d c ns l = false ∧ hldE d c ns l = checkF d c cols := by subst hc; exact hld_err hg h
theorem hld_ok' {cols : List Col} (hc : cols = colsOf ns l) (hg : hldG ns l = true) (h : checkF d c cols = 0) : hldB d c ns l = meanF d c cols l ∧ hldE d c ns l = 0 := by subst hc; exact hld_ok hg h
theorem check_well {cs : List Col} (h : checkF d c cs = 0) : wellF d c ∧ typedF d c cs = 0 := by
  unfold checkF at h
  by_cases g : nodesF d c 1 ≤ 60
  · rw [if_pos g] at h; exact ⟨well_of (by omega) (by omega) g, h⟩
  · rw [if_neg g] at h; omega
end
theorem cols_eq : ∀ {v : List Val} {cs : List Col}, v.map Val.k = cs.map Col.kind → colsOf (cs.map Col.name) v = cs
  | [], [], _ => rfl
  | [], _ :: _, h => by simp at h
  | _ :: _, [], h => by simp at h
  | x :: a, y :: b, h => by
    simp at h
    have := cols_eq h.2
    unfold colsOf at this ⊢
    simp [this, h.1]
section
variable {d : Nat} {c : Cond} {cs : List Col} {l : List Fact} {k : Nat} {f : Fact}
end
section
variable {d : Nat} {c : Cond} {cs : List Col} {l : List Fact}
end
end Go.Civ

namespace Go.Civ
set_option linter.unusedVariables false
end Go.Civ

namespace Go.Civ
set_option linter.unusedVariables false
section
variable {l : List Fact} {ps : List Int} {k j : Nat} {f : Fact} {i : Int}
end
end Go.Civ
set_option linter.unusedVariables false
namespace Go.Civ
open Go.Proofs Go.Shelf Go.RowKit Go.Lib Go.Sort

theorem flatInt {G : GH} : ∀ (l : List Int), (∀ x ∈ l, I64 x) → Flat Enc.int G l (l.map (Value.int .i64))
  | [], _ => rfl
  | x :: l, h => ⟨[.int .i64 x], l.map (Value.int .i64), rfl, ⟨rfl, h x (by simp)⟩, flatInt l fun y hy => h y (by simp [hy])⟩
theorem flatInt_cells {G : GH} : ∀ (l : List Int) (xs : List Value), Flat Enc.int G l xs → xs = l.map (Value.int .i64) ∧ ∀ x ∈ l, I64 x
  | [], xs, h => ⟨h, by simp⟩
  | x :: l, xs, ⟨c, r, h1, h2, h3⟩ => by
    obtain ⟨rfl, hb⟩ := h2
    obtain ⟨rfl, h4⟩ := flatInt_cells l r h3
    refine ⟨h1, fun y hy => ?_⟩
    rcases List.mem_cons.1 hy with rfl | hy
    · exact hb
    · exact h4 y hy
def sortI (l : List Int) : List Int := l.mergeSort fun x y => decide (x ≤ y)

set_option maxHeartbeats 1000000 in
theorem c_SortI {G : GH} {w : World} (hG : G.In w) (l : List Int) (vd : Value) (od : OB) (hvd : Row Enc.int 8 (nat_lit 3) G vd l od) (hod : Lent w G od) :
    Calls Tryz.prog (nat_lit 159) #[vd] w fun e w' => ∃ r G', e = .returned r ∧ Res (blk od) w G w' G' ∧ r = .tuple #[] ∧ ∃ (l' : List Int) (o' : OB), Row Enc.int 8 (nat_lit 3) G' vd l' o' ∧ Lent w' G' o' ∧ l' = sortI l := by
  rcases hvd with ⟨rfl, rfl, rfl⟩ | ⟨b, cs, cap, xs, rfl, rfl, h3, h4, h5, h6, h7, h8, h9⟩
  · exact (Any.slices_Sort_int_none Tryz.laysSort none 0 w).mono fun e w' ⟨he, hw⟩ => by
      subst hw
      exact ⟨_, G, he, Res.refl hG, rfl, [], none, .inl ⟨rfl, rfl, rfl⟩, fun p hp => (by cases hp), by simp [sortI]⟩
  · obtain ⟨hb1, hb2⟩ := hod _ rfl
    obtain ⟨rfl, hI⟩ := flatInt_cells l xs h6
    have hE : Enc.int.n = 1 := rfl
    rw [hE, Nat.mul_one] at h5 h7
    have hcell : ∀ t, t < l.length → cs[t]? = some (.int .i64 l[t]!) := fun t ht => by
      have := congrArg (·[t]?) h7
      simp only [List.getElem?_take, if_pos ht, List.getElem?_map] at this
      rw [this, List.getElem?_eq_getElem ht, getElem!_pos l t ht]; rfl
    have hH : Holds (Value.int .i64) w b 0 l.toArray := fun t ht => by
      have ht' : t < l.length := by simpa using ht
      refine ⟨?_, ?_⟩
      · rw [Nat.zero_add]
        simp only [World.cell?, hb1, objOf]
        have := hcell t ht'
        rw [getElem!_pos l t ht'] at this
        rw [getElem!_pos l.toArray t ht]
        simpa using this
      · simp [World.frozen?, hb1, objOf]
    have hcon := Any.slices_Sort_int Tryz.laysSort b 0 cap l w hH (Array.getElem?_eq_some_iff.1 hb1).1 (by unfold reach at h9; omega)
    refine hcon.mono fun e w' ⟨he, n, os, hw⟩ => ?_
    have hperm : (sortI l).Perm l := List.mergeSort_perm _ _
    have hlen : (sortI l).length = l.length := hperm.length_eq
    have hbl : b < w.heap.size := (Array.getElem?_eq_some_iff.1 hb1).1
    obtain ⟨cs', hcs'⟩ : ∃ cs' : List Value, cs' = (putCells (Value.int .i64) 0 (sortI l).toArray cs.toArray).toList := ⟨_, rfl⟩
    have hget : ∀ k, w'.heap[k]? = if k < w.heap.size then (if b = k then some (.cells cs'.toArray (nat_lit 3) (0, 0)) else w.heap[k]?) else os[k - w.heap.size]? := fun k => by
      subst hw
      have hah : (Go.Sort.ahead w n).heap = w.heap := rfl
      simp only [putRow, mapBlock, grow, hah]
      rw [Array.getElem?_append]
      simp only [Array.size_modify]
      by_cases hk : k < w.heap.size
      · rw [if_pos hk, if_pos hk, Array.getElem?_modify]
        by_cases hkb : b = k
        · subst hkb
          rw [if_pos rfl, if_pos rfl, hb1]
          simp [objOf, onCells, hcs', sortI]
        · rw [if_neg hkb, if_neg hkb]
      · rw [if_neg hk, if_neg hk]
    have hres : Res [b] w G w' G := by
      refine ⟨?_, G.le_refl, fun _ _ => rfl, fun k o hk => ?_⟩
      · refine ⟨by subst hw; rfl, by subst hw; rfl, by subst hw; rfl, by subst hw; exact Nat.le_add_right _ _, ?_, fun k hk hkb => ?_⟩
        · subst hw
          have hah : (Go.Sort.ahead w n).heap = w.heap := rfl
          simp [putRow, mapBlock, grow]
          try simp [hah]
        · rw [hget, if_pos hk, if_neg (by simpa [eq_comm] using hkb)]
      · have hk1 := hG.lt hk
        have hkb : b ≠ k := fun e => by subst e; simp only at hb2; rw [hb2] at hk; cases hk
        rw [hget, if_pos hk1, if_neg hkb]; exact hG k o hk
    have hI' : ∀ x ∈ sortI l, I64 x := fun x hx => hI x (hperm.mem_iff.1 hx)
    refine ⟨_, G, he, hres, rfl, sortI l, some (b, nat_lit 3, cs'), .inr ⟨b, cs', cap, (sortI l).map (Value.int .i64), rfl, by rw [hlen], by rw [hlen]; exact h3, h4, ?_, flatInt _ hI', ?_, by rw [hlen]; exact h8, by rw [hlen]; exact h9⟩, fun p hp => ?_, rfl⟩
    · subst hcs'; rw [hE]; simpa [putCells] using h5
    · rw [hE, Nat.mul_one]
      apply List.ext_getElem?
      intro t
      rw [List.getElem?_take]
      by_cases ht : t < (sortI l).length
      · have htc : t < cs.length := by omega
        rw [if_pos ht, hcs']
        simp only [putCells, Array.getElem?_toList, Array.getElem?_mapIdx]
        simp only [List.getElem?_toArray]
        rw [List.getElem?_eq_getElem htc, List.getElem?_map, List.getElem?_eq_getElem ht]
        simp [ht]
      · rw [if_neg ht, List.getElem?_eq_none]
        simp; omega
    · obtain rfl := Option.some.inj hp
      exact ⟨by rw [hget, if_pos hbl, if_pos rfl]; rfl, hb2⟩
end Go.Civ
namespace Go.Proofs
open Go.Shelf
def Tryz.laysCompact_ren : Go.Shelf.Ren := ⟨fun | 20 => 160 | n => n, fun | 22 => 135 | 3 => 3 | 4 => 4 | 0 => 0 | n => n, fun | n => n⟩
theorem Tryz.laysCompact : Go.Proofs.Lays2.n20 Tryz.prog Tryz.laysCompact_ren := {
  mixed := by kernel_rfl
  f20 := Tryz.func160.trans (congrArg some (by kernel_rfl))
  t0 := Tryz.underlying0
  a0 := Tryz.isAgg0
  z0 := Tryz.sizeOf0
  v0 := Tryz.zeroValue0
  t3 := Tryz.underlying3
  a3 := Tryz.isAgg3
  z3 := Tryz.sizeOf3
  v3 := Tryz.zeroValue3
  t4 := Tryz.underlying4
  a4 := Tryz.isAgg4
  z4 := Tryz.sizeOf4
  v4 := Tryz.zeroValue4
  t22 := Tryz.underlying135
  a22 := Tryz.isAgg135
  z22 := Tryz.sizeOf135
  v22 := Tryz.zeroValue135
  i3 := by kernel_rfl }
end Go.Proofs
namespace Go.Proofs
open Go.Shelf
def Tryz.ixByte_ren : Go.Shelf.Ren := ⟨fun | 137 => 123 | 217 => 163 | 266 => 192 | n => n, fun | 9 => 9 | 5 => 5 | 3 => 3 | n => n, fun | n => n⟩
theorem Tryz.ixByte : Go.Proofs.Lays.n137 Tryz.prog Tryz.ixByte_ren := {
  mixed := by kernel_rfl
  f137 := Tryz.func123.trans (congrArg some (by kernel_rfl))
  f217 := Tryz.func163.trans (congrArg some (by kernel_rfl))
  f266 := Tryz.func192.trans (congrArg some (by kernel_rfl))
  t3 := Tryz.underlying3
  a3 := Tryz.isAgg3
  z3 := Tryz.sizeOf3
  v3 := Tryz.zeroValue3
  t5 := Tryz.underlying5
  a5 := Tryz.isAgg5
  z5 := Tryz.sizeOf5
  v5 := Tryz.zeroValue5
  t9 := Tryz.underlying9
  a9 := Tryz.isAgg9
  z9 := Tryz.sizeOf9
  v9 := Tryz.zeroValue9 }
end Go.Proofs
set_option linter.unusedVariables false
namespace Go.Civ
open Go.Proofs Go.Shelf Go.RowKit
theorem c_IndexByte {G : GH} {w : World} (hG : G.In w) (s : List UInt8) (c : Int) : Calls Tryz.prog (nat_lit 123) #[strV s, .int .u8 c] w fun e w' => ∃ r G', e = .returned r ∧ Res [] w G w' G' ∧ r = .int .i64 (Lib.indexByte s c.toNat.toUInt8) := by
  refine (Any.strings_IndexByte Tryz.ixByte ⟨s.toArray⟩ c w).mono ?_
  rintro e w' ⟨rfl, rfl⟩
  exact ⟨_, G, rfl, Res.refl hG, rfl⟩
end Go.Civ
