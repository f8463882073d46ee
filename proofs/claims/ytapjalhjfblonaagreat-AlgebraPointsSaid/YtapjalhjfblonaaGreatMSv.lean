/- What the functions of the layers compute, in plain words. -/
import Derived.Test.YtapjalhjfblonaaGreatMCiv9
import Derived.Laws.StructEq
import Derived.Test.YtapjalhjfblonaaGreatProg
import Derived.WalkKit
import Derived.Below
import Derived.Shelf.GgClosure.StringsRunes
namespace Go.Civ
set_option linter.unusedVariables false

def sgn (a b : Int) : Int := if a < b then -1 else if b < a then 1 else 0
def cmpOr (l : List Int) : Int := (l.find? fun x => decide (x ≠ 0)).getD 0
def cmpS (a b : List UInt8) : Int := if Op.bytesLess a b then -1 else if a = b then 0 else 1
def cmpV (x y : Val) : Int := if sgn x.k y.k ≠ 0 then sgn x.k y.k else if sgn x.n y.n ≠ 0 then sgn x.n y.n else cmpS x.s y.s
def okC (c : UInt8) : Bool := decide (32 ≤ c.toNat) && decide (c.toNat ≤ 126)
def valB (x : Val) : Bool :=
  if x.k = 1 then decide (x.s = [])
  else if x.k = 2 then decide (x.n = 0) && decide (x.s.length ≤ 30) && x.s.all okC
  else if x.k = 3 then decide (x.s = []) && (decide (x.n = 0) || decide (x.n = 1))
  else if x.k = 4 then decide (x.s = []) && decide (-62135596800 ≤ x.n) && decide (x.n ≤ 253402300800)
  else false
def cmpL {α β : Type} (f : α → β → Int) : List α → List β → Int
  | [], [] => 0
  | [], _ :: _ => -1
  | _ :: _, [] => 1
  | x :: a, y :: b => if f x y ≠ 0 then f x y else cmpL f a b
def ordV (a b : List Val) : Int := if a.all valB && b.all valB then cmpL cmpV a b else 0
def eqF {α β : Type} (f : α → β → Bool) : List α → List β → Bool
  | [], [] => true
  | x :: a, y :: b => f x y && eqF f a b
  | _, _ => false
def lineB (x : Int) : Bool := decide (-4398046511104 ≤ x) && decide (x ≤ 4398046511104)
def spanV (s : Span) : Bool := lineB s.a && lineB s.b && decide (s.a < s.b)
def spanB (s : Span) : Bool := decide (-62135596800 ≤ s.a) && decide (s.a < s.b) && decide (s.b ≤ 253402300800)
def spanHas (s : Span) (x : Int) : Bool := spanV s && decide (s.a ≤ x) && decide (x < s.b)
def kindsB (a b : List Val) : Bool := eqF (fun x y => decide (x.k = y.k)) a b
def factB (v : List Val) (f : Fact) : Bool := spanB f.t && decide (f.v.length ≤ 8) && kindsB f.v v && f.v.all valB
def validB (l : List Fact) : Bool := decide (l.length ≤ 1000) && l.all fun f => factB (l.head?.elim [] Fact.v) f

theorem PairE_mk {G : GH} (x : Int × Int) (h1 : I64 x.1) (h2 : I64 x.2) : PairE.rep G x [.int .i64 x.1, .int .i64 x.2] := ⟨_, _, rfl, ⟨rfl, h1⟩, rfl, h2⟩
theorem ColE_mk {G : GH} (x : Col) (h1 : x.name.length ≤ reach) (h2 : I64 x.kind) : ColE.rep G x [strV x.name, .int .i64 x.kind] := ⟨_, _, rfl, ⟨rfl, h1⟩, rfl, h2⟩
theorem Row.bound {α : Type} {E : Enc α} {by_ : Nat} {e : TypeId} {G : GH} {v : Value} {l : List α} {o : Option (Nat × TypeId × List Value)} (h : Row E by_ e G v l o) : l.length ≤ reach := by
  rcases h with ⟨_, _, rfl⟩ | ⟨b, cs, cap, xs, _, _, _, _, _, _, _, _, h9⟩
  · simp [reach]
  · exact h9

/-! ### Steps through lists -/
theorem lt_step {α : Type} {P : α → Prop} {l : List α} {k : Nat} {y : α} (h : ∀ j, j < k → ∀ x, l[j]? = some x → P x) (hk : l[k]? = some y) (hy : P y) : ∀ j, j < k + 1 → ∀ x, l[j]? = some x → P x := fun j hj x hx => by
  by_cases e : j = k
  · subst e; rw [hk] at hx; obtain rfl := Option.some.inj hx; exact hy
  · exact h j (by omega) x hx
theorem lt_step2 {α β : Type} {P : α → β → Prop} {a : List α} {b : List β} {k : Nat} {u : α} {v : β} (h : ∀ j, j < k → ∀ x y, a[j]? = some x → b[j]? = some y → P x y) (hk : a[k]? = some u) (hk' : b[k]? = some v) (hy : P u v) : ∀ j, j < k + 1 → ∀ x y, a[j]? = some x → b[j]? = some y → P x y := fun j hj x y hx hy' => by
  by_cases e : j = k
  · subst e; rw [hk] at hx; rw [hk'] at hy'; obtain rfl := Option.some.inj hx; obtain rfl := Option.some.inj hy'; exact hy
  · exact h j (by omega) x y hx hy'
theorem lt_all {α : Type} {P : α → Prop} {l : List α} {k : Nat} (h : ∀ j, j < k → ∀ x, l[j]? = some x → P x) (hk : l.length ≤ k) : ∀ x ∈ l, P x := fun x hx => by
  obtain ⟨j, hj⟩ := List.getElem?_of_mem hx
  exact h j (Nat.lt_of_lt_of_le (List.getElem?_eq_some_iff.1 hj).1 hk) x hj
theorem idxF_none' {α : Type} {p : α → Bool} {l : List α} {k : Nat} (h : ∀ j, j < k → ∀ x, l[j]? = some x → p x = false) (hk : l.length ≤ k) : idxF p l = -1 :=
  idxF_none fun j x hj => h j (Nat.lt_of_lt_of_le (List.getElem?_eq_some_iff.1 hj).1 hk) x hj
theorem all_no {α : Type} {p : α → Bool} {l : List α} {k : Nat} {x : α} (hk : l[k]? = some x) (hx : p x = false) : l.all p = false := by
  rw [List.all_eq_false]; exact ⟨x, List.mem_of_getElem? hk, by simp [hx]⟩
theorem all_yes {α : Type} {p : α → Bool} {l : List α} {k : Nat} (h : ∀ j, j < k → ∀ x, l[j]? = some x → p x = true) (hk : l.length ≤ k) : l.all p = true := by
  rw [List.all_eq_true]; exact lt_all h hk
theorem any_not {α : Type} (p : α → Bool) (l : List α) : (!l.any fun x => !p x) = l.all p := by simp [List.any_eq_not_all_not]

theorem eqF_len {α β : Type} {f : α → β → Bool} : ∀ {a : List α} {b : List β}, a.length ≠ b.length → eqF f a b = false
  | [], [], h => absurd rfl h
  | x :: a, y :: b, h => by simp only [eqF]; rw [eqF_len (by simpa using h)]; simp
  | [], _ :: _, _ => rfl
  | _ :: _, [], _ => rfl
theorem eqF_no {α β : Type} {f : α → β → Bool} : ∀ {a : List α} {b : List β} {k : Nat} {x : α} {y : β}, a[k]? = some x → b[k]? = some y → f x y = false → eqF f a b = false
  | u :: a, v :: b, 0, x, y, h1, h2, h => by simp at h1 h2; subst h1 h2; simp [eqF, h]
  | u :: a, v :: b, k + 1, x, y, h1, h2, h => by simp only [eqF]; rw [eqF_no (k := k) (by simpa using h1) (by simpa using h2) h]; simp
  | [], _, _, _, _, h1, _, _ => by simp at h1
  | _ :: _, [], _, _, _, _, h2, _ => by simp at h2
theorem eqF_all {α β : Type} {f : α → β → Bool} : ∀ {a : List α} {b : List β}, a.length = b.length → (∀ (j : Nat) x y, a[j]? = some x → b[j]? = some y → f x y = true) → eqF f a b = true
  | [], [], _, _ => rfl
  | x :: a, y :: b, h, k => by
    simp only [eqF, Bool.and_eq_true]
    exact ⟨k 0 x y rfl rfl, eqF_all (by simpa using h) fun j u v hu hv => k (j + 1) u v (by simpa using hu) (by simpa using hv)⟩
theorem eqF_yes {α β : Type} {f : α → β → Bool} {a : List α} {b : List β} {k : Nat} (hl : a.length = b.length) (h : ∀ j, j < k → ∀ x y, a[j]? = some x → b[j]? = some y → f x y = true) (hk : a.length ≤ k) : eqF f a b = true :=
  eqF_all hl fun j x y hx hy => h j (Nat.lt_of_lt_of_le (List.getElem?_eq_some_iff.1 hx).1 hk) x y hx hy
theorem eqF_eq {α : Type} [DecidableEq α] : ∀ {a b : List α}, eqF (fun x y => decide (x = y)) a b = decide (a = b)
  | [], [] => by simp [eqF]
  | x :: a, y :: b => by simp only [eqF]; rw [eqF_eq]; simp [Bool.decide_and]
  | [], _ :: _ => by simp [eqF]
  | _ :: _, [] => by simp [eqF]

theorem cmpL_at {α β : Type} {f : α → β → Int} : ∀ {a : List α} {b : List β} {k : Nat} {x : α} {y : β}, (∀ j, j < k → ∀ x y, a[j]? = some x → b[j]? = some y → f x y = 0) → a[k]? = some x → b[k]? = some y → f x y ≠ 0 → cmpL f a b = f x y
  | u :: a, v :: b, 0, x, y, _, h1, h2, h => by simp at h1 h2; subst h1 h2; simp [cmpL, h]
  | u :: a, v :: b, k + 1, x, y, h0, h1, h2, h => by
    simp only [cmpL]
    rw [if_neg (by simpa using h0 0 (by omega) u v rfl rfl)]
    exact cmpL_at (k := k) (fun j hj x y hx hy => h0 (j + 1) (by omega) x y (by simpa using hx) (by simpa using hy)) (by simpa using h1) (by simpa using h2) h
  | [], _, _, _, _, _, h1, _, _ => by simp at h1
  | _ :: _, [], _, _, _, _, _, h2, _ => by simp at h2
theorem cmpL_end {α β : Type} {f : α → β → Int} : ∀ {a : List α} {b : List β}, (∀ (j : Nat) x y, a[j]? = some x → b[j]? = some y → f x y = 0) → cmpL f a b = sgn a.length b.length
  | [], [], _ => by simp [cmpL, sgn]
  | [], _ :: _, _ => by simp only [cmpL, sgn, List.length_nil, List.length_cons]; rw [if_pos (by omega)]
  | _ :: _, [], _ => by simp only [cmpL, sgn, List.length_nil, List.length_cons]; rw [if_neg (by omega), if_pos (by omega)]
  | x :: a, y :: b, h => by
    simp only [cmpL]
    rw [if_neg (by simpa using h 0 x y rfl rfl), cmpL_end fun j u v hu hv => h (j + 1) u v (by simpa using hu) (by simpa using hv)]
    unfold sgn; simp only [List.length_cons]; split <;> split <;> (try split) <;> (try split) <;> omega
theorem cmpL_long {α β : Type} {f : α → β → Int} {a : List α} {b : List β} {k : Nat} (h : ∀ j, j < k → ∀ x y, a[j]? = some x → b[j]? = some y → f x y = 0) (hb : b.length ≤ k) (ha : k < a.length) : cmpL f a b = 1 := by
  rw [cmpL_end fun j x y hx hy => h j (Nat.lt_of_lt_of_le (List.getElem?_eq_some_iff.1 hy).1 hb) x y hx hy]
  unfold sgn; rw [if_neg (by omega), if_pos (by omega)]
theorem cmpL_short {α β : Type} {f : α → β → Int} {a : List α} {b : List β} {k : Nat} (h : ∀ j, j < k → ∀ x y, a[j]? = some x → b[j]? = some y → f x y = 0) (ha : a.length ≤ k) (hb : a.length < b.length) : cmpL f a b = -1 := by
  rw [cmpL_end fun j x y hx hy => h j (Nat.lt_of_lt_of_le (List.getElem?_eq_some_iff.1 hx).1 ha) x y hx hy]
  unfold sgn; rw [if_pos (by omega)]
theorem cmpL_same {α β : Type} {f : α → β → Int} {a : List α} {b : List β} {k : Nat} (h : ∀ j, j < k → ∀ x y, a[j]? = some x → b[j]? = some y → f x y = 0) (ha : a.length ≤ k) (hb : b.length ≤ a.length) (hk : k ≤ b.length) : cmpL f a b = 0 := by
  rw [cmpL_end fun j x y hx hy => h j (Nat.lt_of_lt_of_le (List.getElem?_eq_some_iff.1 hx).1 ha) x y hx hy]
  unfold sgn; rw [if_neg (by omega), if_neg (by omega)]
theorem cmpOr_at {l : List Int} {k : Nat} {x : Int} (h : ∀ j, j < k → ∀ x, l[j]? = some x → x = 0) (hk : l[k]? = some x) (hx : x ≠ 0) : cmpOr l = x := by
  unfold cmpOr
  induction l generalizing k with
  | nil => simp at hk
  | cons y l ih =>
    cases k with
    | zero => simp at hk; subst hk; simp [hx]
    | succ k =>
      have h0 := h 0 (by omega) y rfl
      rw [List.find?_cons_of_neg (by simp [h0])]
      exact ih (k := k) (fun j hj x hx => h (j + 1) (by omega) x (by simpa using hx)) (by simpa using hk)
theorem cmpOr_none {l : List Int} {k : Nat} (h : ∀ j, j < k → ∀ x, l[j]? = some x → x = 0) (hk : l.length ≤ k) : cmpOr l = 0 := by
  unfold cmpOr
  rw [List.find?_eq_none.2 fun x hx => by simp [lt_all h hk x hx]]; rfl
theorem cmpOr3 (a b c : Int) : cmpOr [a, b, c] = if a ≠ 0 then a else if b ≠ 0 then b else c := by
  unfold cmpOr
  by_cases ha : a = 0 <;> by_cases hb : b = 0 <;> by_cases hc : c = 0 <;> simp [List.find?, ha, hb, hc]

/-! ### Orders -/
theorem I64_sgn (a b : Int) : I64 (sgn a b) := by unfold sgn; split <;> (try split) <;> constructor <;> decide
theorem I64_cmpS (a b : List UInt8) : I64 (cmpS a b) := by unfold cmpS; split <;> (try split) <;> constructor <;> decide
theorem I64_cmpV (x y : Val) : I64 (cmpV x y) := by unfold cmpV; split <;> (try split) <;> first | exact I64_sgn _ _ | exact I64_cmpS _ _
theorem I64_cmpL {α β : Type} {f : α → β → Int} (hf : ∀ x y, I64 (f x y)) : ∀ (a : List α) (b : List β), I64 (cmpL f a b)
  | [], [] => by simp [cmpL]; exact I64_0
  | [], _ :: _ => by simp [cmpL]; constructor <;> decide
  | _ :: _, [] => by simp [cmpL]; constructor <;> decide
  | x :: a, y :: b => by simp only [cmpL]; split; exact hf _ _; exact I64_cmpL hf a b
theorem I64_ordV (a b : List Val) : I64 (ordV a b) := by unfold ordV; split; exact I64_cmpL I64_cmpV _ _; exact I64_0
theorem okS {s : List UInt8} : (s.all okC) = true ↔ ∀ c ∈ s, 32 ≤ c.toNat ∧ c.toNat ≤ 126 := by simp [okC]
theorem factB_eq {v : List Val} {f : Fact} : factB v f = true ↔ spanB f.t = true ∧ f.v.length ≤ 8 ∧ kindsB f.v v = true ∧ f.v.all valB = true := by
  unfold factB; simp only [Bool.and_eq_true, decide_eq_true_eq, and_assoc]
theorem span_of {x : Span} : ∀ {b : Bool}, b = spanB x → b = spanB x := fun h => h
theorem spanV_B (x : Span) (h : -62135596800 ≤ x.a) (k : x.b ≤ 253402300800) : spanV x = decide (x.a < x.b) := by
  unfold spanV lineB
  by_cases e : x.a < x.b <;> simp [e] <;> omega
def greatB (l : List Fact) : Bool := decide (20 < l.length) || l.any fun f => decide (10 < f.v.length)
theorem valB_text {x : Val} (h2 : x.k = 2) (hn : x.n = 0) (hl : x.s.length ≤ 30) (hs : x.s.all okC = true) : valB x = true := by
  unfold valB; rw [if_neg (by omega), if_pos h2]; simp [hn, hl, hs]
theorem valB_bad {x : Val} {k : Nat} {c : UInt8} (h2 : x.k = 2) (hk : x.s[k]? = some c) (hc : okC c = false) : valB x = false := by
  unfold valB; rw [if_neg (by omega), if_pos h2, all_no hk hc]; simp
def rfactB (v : List Val) (f : Fact) : Bool := decide (f.v.length ≤ 8) && f.v.all valB && spanB f.t && kindsB v f.v
theorem rfact_len {v : List Val} {f : Fact} (h : 8 < (f.v.length : Int)) : rfactB v f = false := by unfold rfactB; rw [decide_eq_false (by omega)]; simp
theorem rfact_val {v : List Val} {f : Fact} (h : f.v.all valB = false) : rfactB v f = false := by unfold rfactB; rw [h]; simp
theorem rfact_span {v : List Val} {f : Fact} (h : spanB f.t = false) : rfactB v f = false := by unfold rfactB; rw [h]; simp
theorem rfact_kinds {v : List Val} {f : Fact} (h : kindsB v f.v = false) : rfactB v f = false := by unfold rfactB; rw [h]; simp
theorem rfact_yes {v : List Val} {f : Fact} (h1 : (f.v.length : Int) ≤ 8) (h2 : f.v.all valB = true) (h3 : spanB f.t = true) (h4 : kindsB v f.v = true) : rfactB v f = true := by unfold rfactB; rw [h2, h3, h4]; simp; omega
def rvalidB (l : List Fact) : Bool := decide (l.length ≤ 1000) && l.all (rfactB (l.head?.elim [] Fact.v))

/-! ### '==' of structs -/
section
open Go.RowKit
variable {P : Program} {N : Nat} {Q : Exit → Env → World → Prop} {ρ : Env} {w : World} {ops : Array Oper} {rest : List Oper} {K : Env → World → Prop}
variable {d : Nat} {ty : TypeId} {pos : String} {af : Array Edge} {g : Option (Nat × Bool)}
theorem WL.aggEq {t ty' : TypeId} {x y : Operand} {X Y : Array Value} {b : Bool} (h : ∀ w, (Op.equalIn 10000 t (.agg X) (.agg Y)).run P w = .ok b w) (hg : P.eqGuardType P.depth t = false)
    (hw : Region.wanted ⟨some d, .binOp .eql t x y ty', ty, pos, af, g⟩ (yieldE ops ρ) = true) (hx : ev ρ x = .agg X) (hy : ev ρ y = .agg Y)
    (kk : K (upd ρ d (.bool b)) w) : OW P ops ⟨some d, .binOp .eql t x y ty', ty, pos, af, g⟩ ρ w K := by
  refine WL.val hw ?_ rfl kk
  simp [execOp, hx, hy, run_eqGuard_agg w _ t _ _ X Y hg, run_eql_struct, h, Result.andThen]
theorem WL.aggEqN {t ty' : TypeId} {x y : Operand} {X Y : Array Value} {b : Bool} (h : ∀ w, (Op.equalIn 10000 t (.agg X) (.agg Y)).run P w = .ok b w) (hg : P.eqGuardType P.depth t = false)
    (hw : Region.wanted ⟨some d, .binOp .neq t x y ty', ty, pos, af, g⟩ (yieldE ops ρ) = true) (hx : ev ρ x = .agg X) (hy : ev ρ y = .agg Y)
    (kk : K (upd ρ d (.bool (!b))) w) : OW P ops ⟨some d, .binOp .neq t x y ty', ty, pos, af, g⟩ ρ w K := by
  refine WL.val hw ?_ rfl kk
  simp [execOp, hx, hy, run_eqGuard_agg w _ t _ _ X Y hg, run_neq_struct, h, Result.andThen]
theorem WL.aggEqV {t ty' : TypeId} {x y : Operand} {X Y : Array Value} {b : Bool} (r : Bool) (h : ∀ w, (Op.equalIn 10000 t (.agg X) (.agg Y)).run P w = .ok b w) (hg : P.eqGuardType P.depth t = false) (hr : b = r)
    (hw : Region.wanted ⟨some d, .binOp .eql t x y ty', ty, pos, af, g⟩ (yieldE ops ρ) = true) (hx : ev ρ x = .agg X) (hy : ev ρ y = .agg Y)
    (kk : K (upd ρ d (.bool r)) w) : OW P ops ⟨some d, .binOp .eql t x y ty', ty, pos, af, g⟩ ρ w K := by
  subst hr; exact WL.aggEq h hg hw hx hy kk
theorem WL.aggEqNV {t ty' : TypeId} {x y : Operand} {X Y : Array Value} {b : Bool} (r : Bool) (h : ∀ w, (Op.equalIn 10000 t (.agg X) (.agg Y)).run P w = .ok b w) (hg : P.eqGuardType P.depth t = false) (hr : (!b) = r)
    (hw : Region.wanted ⟨some d, .binOp .neq t x y ty', ty, pos, af, g⟩ (yieldE ops ρ) = true) (hx : ev ρ x = .agg X) (hy : ev ρ y = .agg Y)
    (kk : K (upd ρ d (.bool r)) w) : OW P ops ⟨some d, .binOp .neq t x y ty', ty, pos, af, g⟩ ρ w K := by
  subst hr; exact WL.aggEqN h hg hw hx hy kk
theorem strV_beq (a b : List UInt8) : ((⟨a.toArray⟩ : ByteArray).toList == (⟨b.toArray⟩ : ByteArray).toList) = decide (a = b) := by
  rw [ByteArray.toList_mk, ByteArray.toList_mk, Bool.eq_iff_iff]; simp
end
end Go.Civ
set_option linter.unusedVariables false
namespace Go.Civ
open Go.Proofs Go.Shelf Go.RowKit Go.Lib

theorem below_drewNg (w : World) : ∀ n, Below w.heap.size w (w.drewN n)
  | 0 => Below.refl _ _
  | n + 1 => (below_drewNg w n).drew
def pR (r : Nat) : Bool := decide (r < 32) || decide (126 < r)

set_option maxHeartbeats 1000000 in
theorem rune_of (r : Nat) (W : World) : Calls Tryz.prog 160 #[.int .i32 (r : Int)] W fun e w' => e = .returned (.bool (pR r)) ∧ ∃ q, w' = W.drewN q := by
  by_cases h1 : r < 32 <;> by_cases h2 : 126 < r
  all_goals
    have z1 : (r : Int) < 32 ↔ r < 32 := by omega
    have z2 : (126 : Int) < (r : Int) ↔ 126 < r := by omega
    go_enter Tryz.func160, Tryz.ntmps160
    go_wp2
    all_goals first | (exfalso; omega) | (go_ret; exact ⟨by simp [pR, h1, h2], 0, rfl⟩)
set_option maxHeartbeats 2000000 in
set_option maxRecDepth 1000000 in
theorem strIndexFunc (s : ByteArray) (w : World) :
    Calls Tryz.prog 199 #[.string s, .func (.func 160) #[] #[], .bool true] w fun e w' => e = .returned (.int .i64 (Lib.idxFunc pR true s)) ∧ Below w.heap.size w w' := by
  have e160 : ∀ args w, (callFunc 160 args).run Tryz.prog w = .ok (.enter 160 args) w := enters_of Tryz.func160 (by kernel_rfl) rfl
  go_enter Tryz.func199, Tryz.ntmps199
  go_wp2
  go_loopg [] s.size (fun gf wx => ∃ pos : Nat, wx.heap[w.heap.size]? = some (.stringIter s pos) ∧ Below w.heap.size w wx ∧ Lib.idxFuncFrom pR true s gf pos = Lib.idxFunc pR true s ∧ s.size ≤ pos + gf)
  case atStart => exact ⟨0, World.iter_heap w s 0, (Below.refl _ w).alloc (Nat.le_refl _) _, rfl, by omega⟩
  case round =>
    obtain ⟨pos, hit, hbw, hleft, hfu⟩ := hrel
    by_cases hps : pos < s.size
    · obtain ⟨g', rfl⟩ : ∃ g', gk = g' + 1 := ⟨gk - 1, by omega⟩
      have hnx : ∀ ty, (Instr.next (.pointer (some ⟨w.heap.size, 0, none⟩)) true ty).run Tryz.prog wr = _ := fun ty => Lib.run_next_any_at wr w.heap.size s pos ty hit hps
      have hwd := Lib.width_pos s pos
      obtain ⟨R, hR⟩ : ∃ R, (Utf8.decode s pos).1 = R := ⟨_, rfl⟩
      obtain ⟨K, hK⟩ : ∃ K, (Utf8.decode s pos).2 = K := ⟨_, rfl⟩
      simp only [Lib.idxFuncFrom, hps, if_true, hR, hK] at hleft
      rw [hR, hK] at hnx
      rw [hK] at hwd
      have hit2 := Lib.iterAt_heap wr w.heap.size s pos (pos + K) hit
      have hbw2 := Lib.below_iterAt hbw (k := w.heap.size) (Nat.le_refl _) s (pos + K)
      obtain ⟨W, hWd⟩ : ∃ W, wr.iterAt w.heap.size s (pos + K) = W := ⟨_, rfl⟩
      rw [hWd] at hnx hit2 hbw2
      have hltW : w.heap.size < W.heap.size := (Array.getElem?_eq_some_iff.1 hit2).1
      have cS : Calls Tryz.prog 160 (#[.int .i32 (R : Int)] ++ #[]) W _ := rune_of R W
      cases hsp : pR R <;> rw [hsp] at cS <;> simp only [hsp, if_true, Bool.false_eq_true, if_false] at hleft
      · go_wp2_with (go_at_fn 160; refine cS.mono ?_; rintro e W' ⟨rfl, q, rfl⟩)
        have hbc := below_drewNg W q
        go_roundg g'
        case measure => omega
        case rel => exact ⟨pos + K, (hbc.block _ hltW).trans hit2, (hbw2.trans (hbc.mono hbw2.size)), hleft, by omega⟩
      · go_wp2_with (go_at_fn 160; refine cS.mono ?_; rintro e W' ⟨rfl, q, rfl⟩)
        have hbc := below_drewNg W q
        go_ret
        exact ⟨by rw [← hleft] <;> rfl, (hbw2.trans (hbc.mono hbw2.size))⟩
    · have hnx : ∀ ty, (Instr.next (.pointer (some ⟨w.heap.size, 0, none⟩)) true ty).run Tryz.prog wr = _ := fun ty => Lib.run_next_end_at wr w.heap.size s pos ty hit hps
      rw [Lib.idxFuncFrom_end pR true s gk pos hps] at hleft
      go_wp2
      go_ret
      exact ⟨by rw [← hleft] <;> rfl, hbw⟩

theorem dec_big (n b0 b1 b2 b3 : Nat) (h : 128 ≤ b0) : 128 ≤ (Lib.decodeN n b0 b1 b2 b3).1 := by
  unfold Lib.decodeN

  repeat' split
  all_goals simp_all
  all_goals omega
theorem get_at (s : List UInt8) (i : Nat) (c : UInt8) (h : s[i]? = some c) : (⟨s.toArray⟩ : ByteArray).get! i = c := by
  obtain ⟨hl, he⟩ := List.getElem?_eq_some_iff.1 h
  show (s.toArray)[i]! = c
  simp [hl, he]
theorem idx_all (s : List UInt8) : ∀ (f pos : Nat), s.length ≤ pos + f → (0 ≤ Lib.idxFuncFrom pR true ⟨s.toArray⟩ f pos ↔ ¬ ∀ c ∈ s.drop pos, okC c = true)
  | 0, pos, h => by
    have : s.drop pos = [] := List.drop_eq_nil_of_le (by omega)
    simp [Lib.idxFuncFrom, this]
  | f + 1, pos, h => by
    have hsz : (⟨s.toArray⟩ : ByteArray).size = s.length := by simp [ByteArray.size]
    unfold Lib.idxFuncFrom
    by_cases hp : pos < s.length
    · obtain ⟨c, hc⟩ : ∃ c, s[pos]? = some c := ⟨_, List.getElem?_eq_getElem hp⟩
      have hd : s.drop pos = c :: s.drop (pos + 1) := by
        rw [List.drop_eq_getElem_cons hp]; rw [List.getElem?_eq_getElem hp] at hc; rw [Option.some.inj hc]
      rw [if_pos (by rw [hsz]; exact hp), hd, Lib.decode_at, get_at s pos c hc]
      by_cases hb : c.toNat < 128
      · rw [show Lib.decodeN ((⟨s.toArray⟩ : ByteArray).size - pos) c.toNat ((⟨s.toArray⟩ : ByteArray).get! (pos + 1)).toNat ((⟨s.toArray⟩ : ByteArray).get! (pos + 2)).toNat ((⟨s.toArray⟩ : ByteArray).get! (pos + 3)).toNat = (c.toNat, 1) from by simp [Lib.decodeN, hb]]
        have ih := idx_all s f (pos + 1) (by omega)
        by_cases ho : okC c = true
        · have : pR c.toNat = false := by simp [okC, pR] at *; omega
          simp only [this]
          rw [if_neg (by simp), ih]; simp [ho]
        · have : pR c.toNat = true := by simp [okC, pR] at *; omega
          simp only [this, if_true]
          simp [ho]
      · have h2 := dec_big ((⟨s.toArray⟩ : ByteArray).size - pos) c.toNat ((⟨s.toArray⟩ : ByteArray).get! (pos + 1)).toNat ((⟨s.toArray⟩ : ByteArray).get! (pos + 2)).toNat ((⟨s.toArray⟩ : ByteArray).get! (pos + 3)).toNat (by omega)
        have h3 : pR (Lib.decodeN ((⟨s.toArray⟩ : ByteArray).size - pos) c.toNat ((⟨s.toArray⟩ : ByteArray).get! (pos + 1)).toNat ((⟨s.toArray⟩ : ByteArray).get! (pos + 2)).toNat ((⟨s.toArray⟩ : ByteArray).get! (pos + 3)).toNat).1 = true := by simp [pR]; omega
        have ho : okC c = false := by simp [okC]; omega
        rw [if_pos h3]; simp [ho]
    · have : s.drop pos = [] := List.drop_eq_nil_of_le (by omega)
      rw [if_neg (by rw [hsz]; exact hp)]
      simp [this]
theorem idx_ok (s : List UInt8) : decide (0 ≤ Lib.idxFunc pR true ⟨s.toArray⟩) = !s.all okC := by
  have h := idx_all s s.length 0 (by omega)
  unfold Lib.idxFunc
  have hsz : (⟨s.toArray⟩ : ByteArray).size = s.length := by simp [ByteArray.size]
  rw [hsz, Bool.eq_iff_iff]
  simp only [decide_eq_true_eq, h, List.drop_zero, Bool.not_eq_true', ← Bool.not_eq_true, List.all_eq_true]

set_option maxHeartbeats 2000000 in
theorem strIndexFuncTop (s : ByteArray) (w : World) :
    Calls Tryz.prog 188 #[.string s, .func (.func 160) #[] #[]] w fun e w' => e = .returned (.int .i64 (Lib.idxFunc pR true s)) ∧ Below w.heap.size w w' := by
  have cI := strIndexFunc s w
  have e199 : ∀ args w, (callFunc 199 args).run Tryz.prog w = .ok (.enter 199 args) w := enters_of Tryz.func199 (by kernel_rfl) rfl
  go_enter Tryz.func188, Tryz.ntmps188
  go_wp2_with (go_at_fn 199; refine cI.mono ?_; rintro e w' ⟨rfl, hb⟩)
  go_ret
  exact ⟨rfl, hb⟩
set_option maxHeartbeats 2000000 in
theorem strContainsFunc (s : ByteArray) (w : World) :
    Calls Tryz.prog 159 #[.string s, .func (.func 160) #[] #[]] w fun e w' => e = .returned (.bool (decide (0 ≤ Lib.idxFunc pR true s))) ∧ Below w.heap.size w w' := by
  have cI := strIndexFuncTop s w
  have e188 : ∀ args w, (callFunc 188 args).run Tryz.prog w = .ok (.enter 188 args) w := enters_of Tryz.func188 (by kernel_rfl) rfl
  obtain ⟨I, hI⟩ : ∃ I, Lib.idxFunc pR true s = I := ⟨_, rfl⟩
  rw [hI] at cI ⊢
  go_enter Tryz.func159, Tryz.ntmps159
  go_wp2_with (go_at_fn 188; refine cI.mono ?_; rintro e w' ⟨rfl, hb⟩)
  go_ret
  exact ⟨rfl, hb⟩
theorem res_of_below {w w' : World} {G : GH} (hG : G.In w) (h : Below w.heap.size w w') : Res [] w G w' G :=
  ⟨⟨h.os, h.tape, h.output, h.size, fun k hk _ => h.block k hk⟩, G.le_refl, fun _ _ => rfl, fun b o hb => (h.block b (hG.lt hb)).trans (hG b o hb)⟩
theorem c_ContainsS {G : GH} {w : World} (hG : G.In w) (s : List UInt8) : Calls Tryz.prog (nat_lit 159) #[strV s, .func (.func 160) #[] #[]] w fun e w' => ∃ r G', e = .returned r ∧ Res [] w G w' G' ∧ r = .bool (!s.all okC) :=
  (strContainsFunc ⟨s.toArray⟩ w).mono fun e w' ⟨he, hb⟩ => ⟨_, G, he, res_of_below hG hb, by rw [idx_ok]⟩
end Go.Civ
