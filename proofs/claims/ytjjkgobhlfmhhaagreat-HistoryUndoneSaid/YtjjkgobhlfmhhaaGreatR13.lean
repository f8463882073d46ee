/- Lemmas: Civ34. -/
import Derived.Test.YtjjkgobhlfmhhaaGreatR08
namespace Go.Civ
open Go.RowKit Go.ChangeShapes Go.Deep
set_option linter.unusedVariables false

structure Cond where
  kind : Int
  col : List UInt8
  oth : List UInt8
  v : Val
  l : List Cond
def CondR (R : Enc Cond) (G : GH) (c : Cond) (cs : List Value) : Prop :=
  ∃ lv, cs = [.int .i64 c.kind, strV c.col, strV c.oth, .int .i64 c.v.k, .int .i64 c.v.n, strV c.v.s, lv] ∧ I64 c.kind ∧ c.col.length ≤ reach ∧ c.oth.length ≤ reach ∧ I64 c.v.k ∧ I64 c.v.n ∧ c.v.s.length ≤ reach ∧ Sl R 96 G lv c.l
abbrev CondP := { R : GH → Cond → List Value → Prop // (∀ {G x cs}, R G x cs → cs.length = 7) ∧ (∀ {G G' x cs}, G.le G' → R G x cs → R G' x cs) ∧ (∀ {G x cs}, R G x cs → ∀ c ∈ cs, c.oneCell' = true) }
def CondP.enc (R : CondP) : Enc Cond := ⟨7, R.1, R.2.1, R.2.2.1, R.2.2.2⟩
def CondP.up (R : CondP) : CondP :=
  ⟨CondR R.enc, fun ⟨_, h, _⟩ => by rw [h]; rfl, fun hle ⟨lv, h1, h2, h3, h4, h5, h6, h7, h8⟩ => ⟨lv, h1, h2, h3, h4, h5, h6, h7, h8.mono hle⟩, fun ⟨lv, h1, _, _, _, _, _, _, h8⟩ c hc => by
    rw [h1] at hc
    simp at hc
    rcases hc with rfl | rfl | rfl | rfl | rfl | rfl | rfl
    · rfl
    · rfl
    · rfl
    · rfl
    · rfl
    · rfl
    · exact Sl.oneC h8⟩
def CondX : Nat → CondP
  | 0 => ⟨fun _ _ _ => False, fun h => h.elim, fun _ h => h.elim, fun h => h.elim⟩
  | d + 1 => (CondX d).up
def CondE (d : Nat) : Enc Cond := ⟨7, (CondX d).1, (CondX d).2.1, (CondX d).2.2.1, (CondX d).2.2.2⟩
section
variable {G : GH} {c : Cond} {cs : List Value} {d : Nat}
theorem CondE_zero (h : (CondE 0).rep G c cs) : False := h
theorem CondE_succ : (CondE (d + 1)).rep G c cs ↔ CondR (CondE d) G c cs := Iff.rfl
theorem CondE_step (h : (CondE (d + 1)).rep G c cs) : ∃ lv, cs = [.int .i64 c.kind, strV c.col, strV c.oth, .int .i64 c.v.k, .int .i64 c.v.n, strV c.v.s, lv] ∧ I64 c.kind ∧ c.col.length ≤ reach ∧ c.oth.length ≤ reach ∧ I64 c.v.k ∧ I64 c.v.n ∧ c.v.s.length ≤ reach ∧ Sl (CondE d) 96 G lv c.l := h
theorem CondE_open (h : (CondE d).rep G c cs) : ∃ lv, cs = [.int .i64 c.kind, strV c.col, strV c.oth, .int .i64 c.v.k, .int .i64 c.v.n, strV c.v.s, lv] ∧ I64 c.kind ∧ c.col.length ≤ reach ∧ c.oth.length ≤ reach ∧ I64 c.v.k ∧ I64 c.v.n ∧ c.v.s.length ≤ reach ∧ lv.oneCell' = true := by
  cases d with
  | zero => exact (CondE_zero h).elim
  | succ d => obtain ⟨lv, h1, h2, h3, h4, h5, h6, h7, h8⟩ := CondE_step h; exact ⟨lv, h1, h2, h3, h4, h5, h6, h7, Sl.oneC h8⟩
theorem CondE_up (h : (CondE d).rep G c cs) : (CondE (d + 1)).rep G c cs := by
  induction d generalizing c cs with
  | zero => exact (CondE_zero h).elim
  | succ d ih =>
    obtain ⟨lv, h1, h2, h3, h4, h5, h6, h7, a, cap, h8, h9, h10, h11, h12⟩ := CondE_step h
    refine ⟨lv, h1, h2, h3, h4, h5, h6, h7, a, cap, h8, h9, h10, h11, fun i x hx => ?_⟩
    obtain ⟨a0, e1, e2, cs0, hc0, hr0⟩ := h12 i x hx
    exact ⟨a0, e1, e2, cs0, hc0, ih hr0⟩
theorem CondE_le {d' : Nat} (h : (CondE d).rep G c cs) (hd : d ≤ d') : (CondE d').rep G c cs := by
  induction d' with
  | zero => obtain rfl : d = 0 := by omega
            exact h
  | succ n ih =>
    by_cases q : d = n + 1
    · subst q; exact h
    · exact CondE_up (ih (by omega))
end
section
variable {P : Program} {N : Nat} {Q : Exit → Env → World → Prop} {ρ : Env} {w : World} {ops : Array Oper} {rest : List Oper} {K : Env → World → Prop} {d : Nat} {ty : TypeId} {pos : String} {af : Array Edge} {g : Option (Nat × Bool)}
theorem WL.nilCheck {x : Operand} (a : Addr) (hw : Region.wanted ⟨some d, .nilCheck x, ty, pos, af, g⟩ (yieldE ops ρ) = true) (hx : ev ρ x = .pointer (some a))
    (k : K (upd ρ d (.pointer (some a))) w) : OW P ops ⟨some d, .nilCheck x, ty, pos, af, g⟩ ρ w K := by
  refine WL.val hw ?_ rfl k
  simp [execOp, hx]
end
section
variable {H : Type} {enc : TypeId × Value → H} {P : Program} {w : World}
end
end Go.Civ

namespace Go.Civ
open Go.RowKit
set_option linter.unusedVariables false

abbrev zeroV : Val := ⟨0, 0, []⟩
def arity (k : Int) : Nat := if k = 4 then 1 else if k = 5 then 2 else if k = 6 then 2 else 0
def isCmp (c : Cond) : Bool := decide (c.kind = 1) || decide (c.kind = 2)
def isOp (c : Cond) : Bool := decide (c.kind = 3) || decide (c.kind = 4) || decide (c.kind = 5) || decide (c.kind = 6)
def plainB (c : Cond) : Bool :=
  bif isCmp c then !decide (c.col = []) && decide (c.l.length = 0) && (bif decide (c.oth = []) then valB c.v else decide (c.v = zeroV))
  else bif isOp c then decide (c.col = []) && decide (c.oth = []) && decide (c.v = zeroV) && decide (c.l.length = arity c.kind)
  else false
def findC (l : List Col) (nm : List UInt8) : Int := idxF (fun x => decide (x.name = nm)) l
theorem findC_lt {l : List Col} {nm : List UInt8} : findC l nm < (l.length : Int) := by
  unfold findC idxF
  cases h : l.findIdx? fun x => decide (x.name = nm) with
  | none => show (-1 : Int) < _; omega
  | some i => have := (List.findIdx?_eq_some_iff_getElem.1 h).1; show (i : Int) < _; omega
theorem findC_yes {l : List Col} {nm : List UInt8} {k : Nat} {x : Col} (hx : l[k]? = some x) (hn : x.name = nm) (h : ∀ j, j < k → ∀ x, l[j]? = some x → decide (x.name = nm) = false) : findC l nm = (k : Int) :=
  idxF_some k hx (decide_eq_true hn) h
def kindAt (l : List Col) (i : Int) : Int := match l[i.toNat]? with | some x => x.kind | none => 0
def typ1 (c : Cond) (l : List Col) : Int :=
  bif !isCmp c then 0 else if findC l c.col < 0 then 7 else bif !decide (c.oth = []) && decide (findC l c.oth < 0) then 7
  else if (bif decide (c.oth = []) then c.v.k else kindAt l (findC l c.oth)) ≠ kindAt l (findC l c.col) then 13 else 0
def firstE (f : Cond → Int) : List Cond → Int
  | [] => 0
  | x :: r => if f x ≠ 0 then f x else firstE f r
def typedF : Nat → Cond → List Col → Int
  | 0, _, _ => 0
  | d + 1, c, l => if typ1 c l ≠ 0 then typ1 c l else firstE (fun x => typedF d x l) c.l
theorem firstE_stop {f : Cond → Int} : ∀ {l : List Cond} {k : Nat} {x : Cond}, (∀ j, j < k → ∀ y, l[j]? = some y → f y = 0) → l[k]? = some x → f x ≠ 0 → firstE f l = f x
  | [], k, x, _, h, _ => by simp at h
  | y :: l, 0, x, _, h, hx => by
    simp at h; subst h
    rw [firstE, if_pos hx]
  | y :: l, k + 1, x, hp, h, hx => by
    rw [firstE, if_neg (by rw [hp 0 (by omega) y (by simp)]; simp)]
    exact firstE_stop (k := k) (fun j hj z hz => hp (j + 1) (by omega) z (by simpa using hz)) (by simpa using h) hx
theorem firstE_all {f : Cond → Int} : ∀ {l : List Cond} {k : Nat}, (∀ j, j < k → ∀ y, l[j]? = some y → f y = 0) → l.length ≤ k → firstE f l = 0
  | [], _, _, _ => rfl
  | y :: l, k, hp, hk => by
    simp at hk
    rw [firstE, if_neg (by rw [hp 0 (by omega) y (by simp)]; simp)]
    exact firstE_all (k := k - 1) (fun j hj z hz => hp (j + 1) (by omega) z (by simpa using hz)) (by omega)
theorem typ1_bd {c : Cond} {l : List Col} : typ1 c l = 0 ∨ typ1 c l = 7 ∨ typ1 c l = 13 := by
  unfold typ1
  cases isCmp c
  · exact .inl rfl
  · simp only [Bool.not_true, cond_false]
    split
    · exact .inr (.inl rfl)
    · cases (!decide (c.oth = []) && decide (findC l c.oth < 0))
      · simp only [cond_false]
        split
        · exact .inr (.inr rfl)
        · exact .inl rfl
      · exact .inr (.inl rfl)
theorem firstE_bd {f : Cond → Int} (h : ∀ x, f x = 0 ∨ f x = 7 ∨ f x = 13) : ∀ l, firstE f l = 0 ∨ firstE f l = 7 ∨ firstE f l = 13
  | [] => .inl rfl
  | x :: r => by rw [firstE]; split; exact h x; exact firstE_bd h r
theorem typedF_bd : ∀ {d : Nat} {c : Cond} {l : List Col}, typedF d c l = 0 ∨ typedF d c l = 7 ∨ typedF d c l = 13
  | 0, c, l => .inl rfl
  | d + 1, c, l => by rw [typedF]; split; exact typ1_bd; exact firstE_bd (fun x => typedF_bd) _
theorem typedF_I64 {d : Nat} {c : Cond} {l : List Col} : I64 (typedF d c l) := by rcases typedF_bd (d := d) (c := c) (l := l) with h | h | h <;> rw [h] <;> constructor <;> decide
section
variable {d : Nat} {c : Cond} {l : List Col} {k : Nat}
theorem typ_no (h1 : c.kind ≠ 1) (h2 : c.kind ≠ 2) : typ1 c l = 0 := by unfold typ1 isCmp; rw [decide_eq_false h1, decide_eq_false h2]; rfl
theorem isCmp_yes (h : c.kind = 1 ∨ c.kind = 2) : isCmp c = true := by unfold isCmp; rcases h with h | h <;> rw [h] <;> rfl
theorem typ_7 (h : c.kind = 1 ∨ c.kind = 2) (hf : findC l c.col < 0) : typ1 c l = 7 := by unfold typ1; rw [isCmp_yes h, if_pos hf]; rfl
theorem typ_7o (h : c.kind = 1 ∨ c.kind = 2) (hf : 0 ≤ findC l c.col) (ho : c.oth ≠ []) (hg : findC l c.oth < 0) : typ1 c l = 7 := by unfold typ1; rw [isCmp_yes h, if_neg (by omega), decide_eq_false ho, decide_eq_true hg]; rfl
theorem typ_v (h : c.kind = 1 ∨ c.kind = 2) (hf : 0 ≤ findC l c.col) (ho : c.oth = []) {x : Col} (hx : l[(findC l c.col).toNat]? = some x) : typ1 c l = if c.v.k ≠ x.kind then 13 else 0 := by
  unfold typ1 kindAt; rw [isCmp_yes h, if_neg (by omega), decide_eq_true ho, hx]; rfl
theorem typ_o (h : c.kind = 1 ∨ c.kind = 2) (hf : 0 ≤ findC l c.col) (ho : c.oth ≠ []) (hg : 0 ≤ findC l c.oth) {x y : Col} (hx : l[(findC l c.col).toNat]? = some x) (hy : l[(findC l c.oth).toNat]? = some y) : typ1 c l = if y.kind ≠ x.kind then 13 else 0 := by
  unfold typ1 kindAt; rw [isCmp_yes h, if_neg (by omega), decide_eq_false ho, decide_eq_false (by omega : ¬ findC l c.oth < 0), hx, hy]; rfl
theorem typed_1 {e : Int} (h : typ1 c l = e) (he : e ≠ 0) : typedF (d + 1) c l = e := by rw [typedF, h, if_pos he]
theorem typed_2 {x : Cond} (h : typ1 c l = 0) (hp : ∀ j, j < k → ∀ y, c.l[j]? = some y → typedF d y l = 0) (hx : c.l[k]? = some x) (hn : typedF d x l ≠ 0) : typedF (d + 1) c l = typedF d x l := by
  rw [typedF, h, if_neg (by simp)]; exact firstE_stop (f := fun x => typedF d x l) hp hx hn
theorem typed_3 (h : typ1 c l = 0) (hp : ∀ j, j < k → ∀ y, c.l[j]? = some y → typedF d y l = 0) (hk : c.l.length ≤ k) : typedF (d + 1) c l = 0 := by
  rw [typedF, h, if_neg (by simp)]; exact firstE_all (f := fun x => typedF d x l) hp hk
end
end Go.Civ

namespace Go.Civ
open Go.RowKit
set_option linter.unusedVariables false

def nodesL (f : Cond → Int) : List Cond → Int → Int
  | [], n => n
  | x :: r, n => if n ≤ 60 then nodesL f r (n + f x) else n
def nodesF : Nat → Cond → Int → Int
  | 0, _, _ => 61
  | d + 1, c, dep => if 12 < dep then 61 else if plainB c = false then 61 else nodesL (fun x => nodesF d x (dep + 1)) c.l 1
theorem nodesL_bd {f : Cond → Int} {M : Int} (h0 : ∀ x, 1 ≤ f x ∧ f x ≤ M) : ∀ {l : List Cond} {n : Int}, 1 ≤ n → n ≤ 60 + M → 1 ≤ nodesL f l n ∧ nodesL f l n ≤ 60 + M
  | [], n, h1, h2 => ⟨h1, h2⟩
  | x :: r, n, h1, h2 => by
    rw [nodesL]
    have := h0 x
    by_cases h : n ≤ 60
    · rw [if_pos h]; exact nodesL_bd h0 (by omega) (by omega)
    · rw [if_neg h]; exact ⟨h1, h2⟩
theorem nodesF_b : ∀ (d : Nat) (c : Cond) (dep : Int), (0 ≤ dep ∧ dep ≤ 13) → 1 ≤ nodesF d c dep ∧ nodesF d c dep ≤ 61 + 60 * (13 - dep)
  | 0, c, dep, h => by rw [nodesF]; omega
  | d + 1, c, dep, h => by
    rw [nodesF]
    by_cases h1 : 12 < dep
    · rw [if_pos h1]; omega
    · rw [if_neg h1]
      by_cases h2 : plainB c = false
      · rw [if_pos h2]; omega
      · rw [if_neg h2]
        have := nodesL_bd (f := fun x => nodesF d x (dep + 1)) (M := 61 + 60 * (13 - (dep + 1))) (fun x => nodesF_b d x (dep + 1) (by omega)) (l := c.l) (n := 1) (by omega) (by omega)
        omega
section
variable {d : Nat} {c : Cond} {dep : Int} {k : Nat}
end

def formedL (f : Cond → Int → Bool × Int) : List Cond → Int → Bool × Int
  | [], n => (true, n)
  | x :: r, n => bif (f x n).1 then formedL f r (f x n).2 else (false, (f x n).2)
def formedF : Nat → Cond → Int → Int → Bool × Int
  | 0, _, _, n => (false, n)
  | d + 1, c, dep, n => if 60 < n + 1 ∨ 12 < dep then (false, n + 1) else bif plainB c then formedL (fun x m => formedF d x (dep + 1) m) c.l (n + 1) else (false, n + 1)
theorem formedL_append {f : Cond → Int → Bool × Int} : ∀ {l r : List Cond} {n : Int}, formedL f (l ++ r) n = bif (formedL f l n).1 then formedL f r (formedL f l n).2 else (false, (formedL f l n).2)
  | [], r, n => rfl
  | y :: l, r, n => by
    rw [List.cons_append, formedL, formedL]
    cases (f y n).1
    · rfl
    · simp only [cond_true]; exact formedL_append
theorem formedL_take {f : Cond → Int → Bool × Int} {l : List Cond} {k : Nat} {x : Cond} {n m : Int} (hx : l[k]? = some x) (h : formedL f (l.take k) n = (true, m)) (hf : (f x m).1 = true) : formedL f (l.take (k + 1)) n = (true, (f x m).2) := by
  rw [List.take_add_one, hx, Option.toList_some, formedL_append, h]; simp [formedL, hf]
theorem formedL_stop {f : Cond → Int → Bool × Int} {l : List Cond} {k : Nat} {x : Cond} {n m : Int} (hx : l[k]? = some x) (h : formedL f (l.take k) n = (true, m)) (hf : (f x m).1 = false) : formedL f l n = (false, (f x m).2) := by
  have hk := (List.getElem?_eq_some_iff.1 hx).1
  have e : l = l.take k ++ x :: l.drop (k + 1) := by
    have := List.take_append_drop k l
    rw [List.drop_eq_getElem_cons hk, (List.getElem?_eq_some_iff.1 hx).2] at this
    exact this.symm
  conv => lhs; rw [e, formedL_append, h]
  simp [formedL, hf]
theorem formedF_up : ∀ {d : Nat} {c : Cond} {dep n : Int}, (formedF d c dep n).1 = true → n + 1 ≤ (formedF d c dep n).2 ∧ (formedF d c dep n).2 ≤ 60
  | 0, c, dep, n, h => by cases h
  | d + 1, c, dep, n, h => by
    rw [formedF] at h ⊢
    by_cases h1 : 60 < n + 1 ∨ 12 < dep
    · rw [if_pos h1] at h; cases h
    · rw [if_neg h1] at h ⊢
      cases h2 : plainB c with
      | false => rw [h2] at h; cases h
      | true =>
        rw [h2] at h
        simp only [cond_true] at h ⊢
        have key : ∀ (l : List Cond) (m : Int), m ≤ 60 → (formedL (fun x m => formedF d x (dep + 1) m) l m).1 = true → m ≤ (formedL (fun x m => formedF d x (dep + 1) m) l m).2 ∧ (formedL (fun x m => formedF d x (dep + 1) m) l m).2 ≤ 60 := by
          intro l
          induction l with
          | nil => intro m hm _; exact ⟨Int.le_refl _, hm⟩
          | cons x r ih =>
            intro m hm hh
            rw [formedL] at hh ⊢
            cases h3 : (formedF d x (dep + 1) m).1 with
            | false => rw [h3] at hh; cases hh
            | true =>
              rw [h3] at hh
              simp only [cond_true] at hh ⊢
              have a := formedF_up h3
              have b := ih _ a.2 hh
              omega
        exact key _ _ (by omega) h
theorem nodesL_ge {f : Cond → Int} (h0 : ∀ x, 0 ≤ f x) : ∀ {l : List Cond} {n : Int}, n ≤ nodesL f l n
  | [], n => Int.le_refl _
  | x :: r, n => by
    rw [nodesL]; have := h0 x
    by_cases h : n ≤ 60
    · rw [if_pos h]; have := nodesL_ge h0 (l := r) (n := n + f x); omega
    · rw [if_neg h]; exact Int.le_refl _
theorem formed_nodes : ∀ {d : Nat} {c : Cond} {dep n : Int}, 0 ≤ n → 0 ≤ dep → dep ≤ 13 → (formedF d c dep n).1 = decide (n + nodesF d c dep ≤ 60) ∧ ((formedF d c dep n).1 = true → (formedF d c dep n).2 = n + nodesF d c dep)
  | 0, c, dep, n, h0, h1, h2 => by rw [formedF, nodesF, decide_eq_false (by omega)]; exact ⟨rfl, fun h => by cases h⟩
  | d + 1, c, dep, n, h0, h1, h2 => by
    rw [formedF, nodesF]
    by_cases g1 : 12 < dep
    · rw [if_pos (.inr g1), if_pos g1, decide_eq_false (by omega)]; exact ⟨rfl, fun h => by cases h⟩
    · rw [if_neg g1]
      cases g2 : plainB c with
      | false =>
        rw [if_pos rfl, decide_eq_false (by omega)]
        by_cases g3 : 60 < n + 1 ∨ 12 < dep
        · rw [if_pos g3]; exact ⟨rfl, fun h => by cases h⟩
        · rw [if_neg g3]; exact ⟨rfl, fun h => by cases h⟩
      | true =>
        rw [if_neg (show ¬ (true = false) by simp)]
        have pos : ∀ x, 1 ≤ nodesF d x (dep + 1) := fun x => (nodesF_b d x (dep + 1) (by omega)).1
        have ge := nodesL_ge (f := fun x => nodesF d x (dep + 1)) (fun x => by have := pos x; omega) (l := c.l) (n := 1)
        by_cases g3 : 60 < n + 1 ∨ 12 < dep
        · rw [if_pos g3, decide_eq_false (by omega)]; exact ⟨rfl, fun h => by cases h⟩
        · rw [if_neg g3]
          simp only [cond_true]
          have key : ∀ (l : List Cond) (m : Int), 1 ≤ m → n + m ≤ 60 → (formedL (fun x m => formedF d x (dep + 1) m) l (n + m)).1 = decide (n + nodesL (fun x => nodesF d x (dep + 1)) l m ≤ 60) ∧ ((formedL (fun x m => formedF d x (dep + 1) m) l (n + m)).1 = true → (formedL (fun x m => formedF d x (dep + 1) m) l (n + m)).2 = n + nodesL (fun x => nodesF d x (dep + 1)) l m) := by
            intro l
            induction l with
            | nil => intro m hm hn; rw [formedL, nodesL, decide_eq_true hn]; exact ⟨rfl, fun _ => rfl⟩
            | cons x r ih =>
              intro m hm hn
              rw [formedL, nodesL, if_pos (by omega)]
              have a := formed_nodes (d := d) (c := x) (dep := dep + 1) (n := n + m) (by omega) (by omega) (by omega)
              have hx := pos x
              have ge2 := nodesL_ge (f := fun x => nodesF d x (dep + 1)) (fun x => by have := pos x; omega) (l := r) (n := m + nodesF d x (dep + 1))
              by_cases g4 : n + m + nodesF d x (dep + 1) ≤ 60
              · have a1 : (formedF d x (dep + 1) (n + m)).1 = true := by rw [a.1]; exact decide_eq_true g4
                rw [a1, a.2 a1]
                simp only [cond_true]
                have := ih (m + nodesF d x (dep + 1)) (by omega) (by omega)
                rw [show n + m + nodesF d x (dep + 1) = n + (m + nodesF d x (dep + 1)) by omega]
                exact this
              · have a1 : (formedF d x (dep + 1) (n + m)).1 = false := by rw [a.1]; exact decide_eq_false g4
                rw [a1]
                simp only [cond_false]
                rw [decide_eq_false (by omega)]; exact ⟨rfl, fun h => by cases h⟩
          exact key c.l 1 (by omega) (by omega)
section
variable {d : Nat} {c : Cond} {dep n : Int} {k : Nat}
theorem form_1 (h : 60 < n + 1 ∨ 12 < dep) : formedF (d + 1) c dep n = (false, n + 1) := by rw [formedF, if_pos h]
theorem form_2 (h1 : n + 1 ≤ 60) (h2 : dep ≤ 12) (h3 : plainB c = false) : formedF (d + 1) c dep n = (false, n + 1) := by rw [formedF, if_neg (by omega), h3]; rfl
theorem form_3 {x : Cond} {m : Int} (h1 : n + 1 ≤ 60) (h2 : dep ≤ 12) (h3 : plainB c = true) (hx : c.l[k]? = some x) (h : formedL (fun x m => formedF d x (dep + 1) m) (c.l.take k) (n + 1) = (true, m)) (hf : (formedF d x (dep + 1) m).1 = false) : formedF (d + 1) c dep n = (false, (formedF d x (dep + 1) m).2) := by
  rw [formedF, if_neg (by omega), h3]; exact formedL_stop hx h hf
theorem form_4 {m : Int} (h1 : n + 1 ≤ 60) (h2 : dep ≤ 12) (h3 : plainB c = true) (hk : c.l.length ≤ k) (h : formedL (fun x m => formedF d x (dep + 1) m) (c.l.take k) (n + 1) = (true, m)) : formedF (d + 1) c dep n = (true, m) := by
  rw [formedF, if_neg (by omega), h3]; rw [List.take_of_length_le hk] at h; exact h
end
def checkF (d : Nat) (c : Cond) (l : List Col) : Int := if nodesF d c 1 ≤ 60 then typedF d c l else 1
theorem formed_0 {d : Nat} {c : Cond} : (formedF d c 1 0).1 = decide (nodesF d c 1 ≤ 60) := by
  have := (formed_nodes (d := d) (c := c) (dep := 1) (n := 0) (by omega) (by omega) (by omega)).1
  rw [this]; congr 1; rw [Int.zero_add]

def wellF : Nat → Cond → Prop
  | 0, _ => False
  | d + 1, c => plainB c = true ∧ ∀ x ∈ c.l, wellF d x
theorem well_of : ∀ {d : Nat} {c : Cond} {dep : Int}, 0 ≤ dep → dep ≤ 13 → nodesF d c dep ≤ 60 → wellF d c
  | 0, c, dep, _, _, h => by rw [nodesF] at h; omega
  | d + 1, c, dep, h0, h1, h => by
    rw [nodesF] at h
    by_cases g1 : 12 < dep
    · rw [if_pos g1] at h; omega
    · rw [if_neg g1] at h
      cases g2 : plainB c with
      | false => rw [if_pos g2] at h; omega
      | true =>
        rw [if_neg (by rw [g2]; simp)] at h
        refine ⟨g2, ?_⟩
        have pos : ∀ x, 1 ≤ nodesF d x (dep + 1) := fun x => (nodesF_b d x (dep + 1) (by omega)).1
        have key : ∀ (l : List Cond) (m : Int), 1 ≤ m → nodesL (fun x => nodesF d x (dep + 1)) l m ≤ 60 → ∀ x ∈ l, nodesF d x (dep + 1) ≤ 60 := by
          intro l
          induction l with
          | nil => intro m _ _ x hx; simp at hx
          | cons y r ih =>
            intro m hm hh x hx
            rw [nodesL] at hh
            have hy := pos y
            by_cases g3 : m ≤ 60
            · rw [if_pos g3] at hh
              have ge := nodesL_ge (f := fun x => nodesF d x (dep + 1)) (fun x => by have := pos x; omega) (l := r) (n := m + nodesF d y (dep + 1))
              rcases List.mem_cons.1 hx with rfl | hx
              · omega
              · exact ih _ (by omega) hh x hx
            · rw [if_neg g3] at hh; omega
        exact fun x hx => well_of (dep := dep + 1) (by omega) (by omega) (key c.l 1 (by omega) h x hx)
theorem firstE_mem {f : Cond → Int} : ∀ {l : List Cond}, firstE f l = 0 → ∀ x ∈ l, f x = 0
  | [], _, x, hx => by simp at hx
  | y :: l, h, x, hx => by
    rw [firstE] at h
    by_cases g : f y = 0
    · rw [if_neg (by simp [g])] at h
      rcases List.mem_cons.1 hx with rfl | hx
      · exact g
      · exact firstE_mem h x hx
    · rw [if_pos g] at h; exact absurd h g
theorem typed_own {d : Nat} {c : Cond} {l : List Col} (h : typedF (d + 1) c l = 0) : typ1 c l = 0 := by
  rw [typedF] at h
  by_cases g : typ1 c l = 0
  · exact g
  · rw [if_pos g] at h; exact h
theorem typed_child {d : Nat} {c x : Cond} {l : List Col} (h : typedF (d + 1) c l = 0) (hx : x ∈ c.l) : typedF d x l = 0 := by
  have g := typed_own h
  rw [typedF, if_neg (by simp [g])] at h
  exact firstE_mem (f := fun x => typedF d x l) h x hx
def valAt (v : List Val) (i : Int) : Val := match v[i.toNat]? with | some x => x | none => zeroV
def cmpM (c : Cond) (l : List Col) (v : List Val) : Int := cmpV (valAt v (findC l c.col)) (bif decide (c.oth = []) then c.v else valAt v (findC l c.oth))
def meanF : Nat → Cond → List Col → List Val → Bool
  | 0, _, _, _ => true
  | d + 1, c, l, v =>
    bif isCmp c then (decide (cmpM c l v = 0) && decide (c.kind = 1)) || (decide (cmpM c l v < 0) && decide (c.kind = 2))
    else if c.kind = 4 then (match c.l[0]? with | some x => !meanF d x l v | none => true)
    else if c.kind = 5 then (match c.l[0]?, c.l[1]? with | some x, some y => meanF d x l v && meanF d y l v | _, _ => true)
    else if c.kind = 6 then (match c.l[0]?, c.l[1]? with | some x, some y => meanF d x l v || meanF d y l v | _, _ => true)
    else true
theorem plain_len {c : Cond} (h : plainB c = true) (hk : c.kind = 3 ∨ c.kind = 4 ∨ c.kind = 5 ∨ c.kind = 6) : c.l.length = arity c.kind := by
  unfold plainB at h
  have h1 : isCmp c = false := by unfold isCmp; rw [decide_eq_false (by omega), decide_eq_false (by omega)]; rfl
  rw [h1] at h
  simp only [cond_false] at h
  cases h2 : isOp c with
  | false => rw [h2] at h; cases h
  | true => rw [h2] at h; simp only [cond_true, Bool.and_eq_true, decide_eq_true_eq] at h; exact h.2
section
variable {d : Nat} {c x y : Cond} {l : List Col} {v : List Val}
theorem well_4 (h : wellF (d + 1) c) (hk : c.kind = 4) : c.l.length = 1 := by rw [plain_len h.1 (by omega), hk]; rfl
theorem well_5 (h : wellF (d + 1) c) (hk : c.kind = 5) : c.l.length = 2 := by rw [plain_len h.1 (by omega), hk]; rfl
theorem well_6 (h : wellF (d + 1) c) (hk : c.kind = 6) : c.l.length = 2 := by rw [plain_len h.1 (by omega), hk]; rfl
theorem typ_find (h : typ1 c l = 0) (hk : c.kind = 1 ∨ c.kind = 2) : 0 ≤ findC l c.col ∧ (c.oth ≠ [] → 0 ≤ findC l c.oth) := by
  by_cases g : findC l c.col < 0
  · rw [typ_7 hk g] at h; omega
  · refine ⟨by omega, fun ho => ?_⟩
    by_cases g2 : findC l c.oth < 0
    · rw [typ_7o hk (by omega) ho g2] at h; omega
    · omega
theorem notCmp (h1 : c.kind ≠ 1) (h2 : c.kind ≠ 2) : isCmp c = false := by unfold isCmp; rw [decide_eq_false h1, decide_eq_false h2]; rfl
theorem mean_cmp (hk : c.kind = 1 ∨ c.kind = 2) : meanF (d + 1) c l v = ((decide (cmpM c l v = 0) && decide (c.kind = 1)) || (decide (cmpM c l v < 0) && decide (c.kind = 2))) := by rw [meanF, isCmp_yes hk]; rfl
theorem mean_4 (hk : c.kind = 4) (hx : c.l[0]? = some x) : meanF (d + 1) c l v = !meanF d x l v := by rw [meanF, notCmp (by omega) (by omega), hx]; simp [hk]
theorem mean_5 (hk : c.kind = 5) (hx : c.l[0]? = some x) (hy : c.l[1]? = some y) : meanF (d + 1) c l v = (meanF d x l v && meanF d y l v) := by rw [meanF, notCmp (by omega) (by omega), hx, hy]; simp [hk]
theorem mean_6 (hk : c.kind = 6) (hx : c.l[0]? = some x) (hy : c.l[1]? = some y) : meanF (d + 1) c l v = (meanF d x l v || meanF d y l v) := by rw [meanF, notCmp (by omega) (by omega), hx, hy]; simp [hk]
theorem mean_5f (hk : c.kind = 5) (hx : c.l[0]? = some x) (hal : c.l.length = 2) (h : meanF d x l v = false) : meanF (d + 1) c l v = false := by
  rw [mean_5 hk hx (List.getElem?_eq_getElem (by omega : 1 < c.l.length)), h]; rfl
theorem mean_6t (hk : c.kind = 6) (hx : c.l[0]? = some x) (hal : c.l.length = 2) (h : meanF d x l v = true) : meanF (d + 1) c l v = true := by
  rw [mean_6 hk hx (List.getElem?_eq_getElem (by omega : 1 < c.l.length)), h]; rfl
theorem mean_t (h1 : c.kind ≠ 1) (h2 : c.kind ≠ 2) (h4 : c.kind ≠ 4) (h5 : c.kind ≠ 5) (h6 : c.kind ≠ 6) : meanF (d + 1) c l v = true := by rw [meanF, notCmp h1 h2, if_neg h4, if_neg h5, if_neg h6]; rfl
theorem cmpM_v {x : Val} (hx : v[(findC l c.col).toNat]? = some x) (ho : c.oth = []) : cmpM c l v = cmpV x c.v := by unfold cmpM valAt; rw [hx, decide_eq_true ho]; rfl
theorem cmpM_o {x y : Val} (hx : v[(findC l c.col).toNat]? = some x) (ho : c.oth ≠ []) (hy : v[(findC l c.oth).toNat]? = some y) : cmpM c l v = cmpV x y := by unfold cmpM valAt; rw [hx, decide_eq_false ho, hy]; rfl
end
end Go.Civ
