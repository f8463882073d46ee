/- Lemmas: Civ10, Shelf. -/
import Derived.Test.YtjjkgobhlfmhhaaGreatU05
import Derived.Laws.StructEq
import Derived.Shelf.SlSortCmp.NoneTotal
import Derived.Shelf.Slices.In.SortAlone
import Derived.Shelf.Slices.In.SortNone
import Derived.Ground.SlsfProg
import Derived.Ground.NamesProg
import Derived.Test.YtjjkgobhlfmhhaaGreatProg
namespace Go.Civ
set_option linter.unusedVariables false

def sgn (a b : Int) : Int := if a < b then -1 else if b < a then 1 else 0
def cmpOr (l : List Int) : Int := (l.find? fun x => decide (x ≠ 0)).getD 0
def cmpS (a b : List UInt8) : Int := if Op.bytesLess a b then -1 else if a = b then 0 else 1
def cmpV (x y : Val) : Int := if sgn x.k y.k ≠ 0 then sgn x.k y.k else if sgn x.n y.n ≠ 0 then sgn x.n y.n else cmpS x.s y.s
def okC (c : UInt8) : Bool := decide (32 ≤ c.toNat) && decide (c.toNat ≤ 126)
def valB (x : Val) : Bool :=
  if x.k = 1 then decide (x.s = [])
  else if x.k = 2 then decide (x.n = 0) && decide (x.s.length ≤ 30) && x.s.all okC
  else if x.k = 3 then decide (x.s = []) && (decide (x.n = 0) || decide (x.n = 1))
  else if x.k = 4 then decide (x.s = []) && decide (-62135596800 ≤ x.n) && decide (x.n ≤ 253402300800)
  else false
def cmpL {α β : Type} (f : α → β → Int) : List α → List β → Int
  | [], [] => 0
  | [], _ :: _ => -1
  | _ :: _, [] => 1
  | x :: a, y :: b => if f x y ≠ 0 then f x y else cmpL f a b
def ordV (a b : List Val) : Int := if a.all valB && b.all valB then cmpL cmpV a b else 0
def eqF {α β : Type} (f : α → β → Bool) : List α → List β → Bool
  | [], [] => true
  | x :: a, y :: b => f x y && eqF f a b
  | _, _ => false
def lineB (x : Int) : Bool := decide (-4398046511104 ≤ x) && decide (x ≤ 4398046511104)
def spanV (s : Span) : Bool := lineB s.a && lineB s.b && decide (s.a < s.b)
def spanB (s : Span) : Bool := decide (-62135596800 ≤ s.a) && decide (s.a < s.b) && decide (s.b ≤ 253402300800)
def spanHas (s : Span) (x : Int) : Bool := spanV s && decide (s.a ≤ x) && decide (x < s.b)
def kindsB (a b : List Val) : Bool := eqF (fun x y => decide (x.k = y.k)) a b
def factB (v : List Val) (f : Fact) : Bool := spanB f.t && decide (f.v.length ≤ 8) && kindsB f.v v && f.v.all valB
def validB (l : List Fact) : Bool := decide (l.length ≤ 1000) && l.all fun f => factB (l.head?.elim [] Fact.v) f

theorem ColE_mk {G : GH} (x : Col) (h1 : x.name.length ≤ reach) (h2 : I64 x.kind) : ColE.rep G x [strV x.name, .int .i64 x.kind] := ⟨_, _, rfl, ⟨rfl, h1⟩, rfl, h2⟩
theorem Row.bound {α : Type} {E : Enc α} {by_ : Nat} {e : TypeId} {G : GH} {v : Value} {l : List α} {o : Option (Nat × TypeId × List Value)} (h : Row E by_ e G v l o) : l.length ≤ reach := by
  rcases h with ⟨_, _, rfl⟩ | ⟨b, cs, cap, xs, _, _, _, _, _, _, _, _, h9⟩
  · simp [reach]
  · exact h9

theorem lt_step {α : Type} {P : α → Prop} {l : List α} {k : Nat} {y : α} (h : ∀ j, j < k → ∀ x, l[j]? = some x → P x) (hk : l[k]? = some y) (hy : P y) : ∀ j, j < k + 1 → ∀ x, l[j]? = some x → P x := fun j hj x hx => by
  by_cases e : j = k
  · subst e; rw [hk] at hx; obtain rfl := Option.some.inj hx; exact hy
  · exact h j (by omega) x hx
theorem lt_step2 {α β : Type} {P : α → β → Prop} {a : List α} {b : List β} {k : Nat} {u : α} {v : β} (h : ∀ j, j < k → ∀ x y, a[j]? = some x → b[j]? = some y → P x y) (hk : a[k]? = some u) (hk' : b[k]? = some v) (hy : P u v) : ∀ j, j < k + 1 → ∀ x y, a[j]? = some x → b[j]? = some y → P x y := fun j hj x y hx hy' => by
  by_cases e : j = k
  · subst e; rw [hk] at hx; rw [hk'] at hy'; obtain rfl := Option.some.inj hx; obtain rfl := Option.some.inj hy'; exact hy
  · exact h j (by omega) x y hx hy'
theorem lt_all {α : Type} {P : α → Prop} {l : List α} {k : Nat} (h : ∀ j, j < k → ∀ x, l[j]? = some x → P x) (hk : l.length ≤ k) : ∀ x ∈ l, P x := fun x hx => by
  obtain ⟨j, hj⟩ := List.getElem?_of_mem hx
  exact h j (Nat.lt_of_lt_of_le (List.getElem?_eq_some_iff.1 hj).1 hk) x hj
theorem idxF_none' {α : Type} {p : α → Bool} {l : List α} {k : Nat} (h : ∀ j, j < k → ∀ x, l[j]? = some x → p x = false) (hk : l.length ≤ k) : idxF p l = -1 :=
  idxF_none fun j x hj => h j (Nat.lt_of_lt_of_le (List.getElem?_eq_some_iff.1 hj).1 hk) x hj
theorem all_no {α : Type} {p : α → Bool} {l : List α} {k : Nat} {x : α} (hk : l[k]? = some x) (hx : p x = false) : l.all p = false := by
  rw [List.all_eq_false]; exact ⟨x, List.mem_of_getElem? hk, by simp [hx]⟩
theorem all_yes {α : Type} {p : α → Bool} {l : List α} {k : Nat} (h : ∀ j, j < k → ∀ x, l[j]? = some x → p x = true) (hk : l.length ≤ k) : l.all p = true := by
  rw [List.all_eq_true]; exact lt_all h hk
theorem any_not {α : Type} (p : α → Bool) (l : List α) : (!l.any fun x => !p x) = l.all p := by simp [List.any_eq_not_all_not]

theorem eqF_len {α β : Type} {f : α → β → Bool} : ∀ {a : List α} {b : List β}, a.length ≠ b.length → eqF f a b = false
  | [], [], h => absurd rfl h
  | x :: a, y :: b, h => by simp only [eqF]; rw [eqF_len (by simpa using h)]; simp
  | [], _ :: _, _ => rfl
  | _ :: _, [], _ => rfl
theorem eqF_no {α β : Type} {f : α → β → Bool} : ∀ {a : List α} {b : List β} {k : Nat} {x : α} {y : β}, a[k]? = some x → b[k]? = some y → f x y = false → eqF f a b = false
  | u :: a, v :: b, 0, x, y, h1, h2, h => by simp at h1 h2; subst h1 h2; simp [eqF, h]
  | u :: a, v :: b, k + 1, x, y, h1, h2, h => by simp only [eqF]; rw [eqF_no (k := k) (by simpa using h1) (by simpa using h2) h]; simp
  | [], _, _, _, _, h1, _, _ => by simp at h1
  | _ :: _, [], _, _, _, _, h2, _ => by simp at h2
theorem eqF_all {α β : Type} {f : α → β → Bool} : ∀ {a : List α} {b : List β}, a.length = b.length → (∀ (j : Nat) x y, a[j]? = some x → b[j]? = some y → f x y = true) → eqF f a b = true
  | [], [], _, _ => rfl
  | x :: a, y :: b, h, k => by
    simp only [eqF, Bool.and_eq_true]
    exact ⟨k 0 x y rfl rfl, eqF_all (by simpa using h) fun j u v hu hv => k (j + 1) u v (by simpa using hu) (by simpa using hv)⟩
theorem eqF_yes {α β : Type} {f : α → β → Bool} {a : List α} {b : List β} {k : Nat} (hl : a.length = b.length) (h : ∀ j, j < k → ∀ x y, a[j]? = some x → b[j]? = some y → f x y = true) (hk : a.length ≤ k) : eqF f a b = true :=
  eqF_all hl fun j x y hx hy => h j (Nat.lt_of_lt_of_le (List.getElem?_eq_some_iff.1 hx).1 hk) x y hx hy
theorem eqF_eq {α : Type} [DecidableEq α] : ∀ {a b : List α}, eqF (fun x y => decide (x = y)) a b = decide (a = b)
  | [], [] => by simp [eqF]
  | x :: a, y :: b => by simp only [eqF]; rw [eqF_eq]; simp [Bool.decide_and]
  | [], _ :: _ => by simp [eqF]
  | _ :: _, [] => by simp [eqF]

theorem cmpL_at {α β : Type} {f : α → β → Int} : ∀ {a : List α} {b : List β} {k : Nat} {x : α} {y : β}, (∀ j, j < k → ∀ x y, a[j]? = some x → b[j]? = some y → f x y = 0) → a[k]? = some x → b[k]? = some y → f x y ≠ 0 → cmpL f a b = f x y
  | u :: a, v :: b, 0, x, y, _, h1, h2, h => by simp at h1 h2; subst h1 h2; simp [cmpL, h]
  | u :: a, v :: b, k + 1, x, y, h0, h1, h2, h => by
    simp only [cmpL]
    rw [if_neg (by simpa using h0 0 (by omega) u v rfl rfl)]
    exact cmpL_at (k := k) (fun j hj x y hx hy => h0 (j + 1) (by omega) x y (by simpa using hx) (by simpa using hy)) (by simpa using h1) (by simpa using h2) h
  | [], _, _, _, _, _, h1, _, _ => by simp at h1
  | _ :: _, [], _, _, _, _, _, h2, _ => by simp at h2
theorem cmpL_end {α β : Type} {f : α → β → Int} : ∀ {a : List α} {b : List β}, (∀ (j : Nat) x y, a[j]? = some x → b[j]? = some y → f x y = 0) → cmpL f a b = sgn a.length b.length
  | [], [], _ => by simp [cmpL, sgn]
  | [], _ :: _, _ => by simp only [cmpL, sgn, List.length_nil, List.length_cons]; rw [if_pos (by omega)]
  | _ :: _, [], _ => by simp only [cmpL, sgn, List.length_nil, List.length_cons]; rw [if_neg (by omega), if_pos (by omega)]
  | x :: a, y :: b, h => by
    simp only [cmpL]
    rw [if_neg (by simpa using h 0 x y rfl rfl), cmpL_end fun j u v hu hv => h (j + 1) u v (by simpa using hu) (by simpa using hv)]
    unfold sgn; simp only [List.length_cons]; split <;> split <;> (try split) <;> (try split) <;> omega
theorem cmpL_long {α β : Type} {f : α → β → Int} {a : List α} {b : List β} {k : Nat} (h : ∀ j, j < k → ∀ x y, a[j]? = some x → b[j]? = some y → f x y = 0) (hb : b.length ≤ k) (ha : k < a.length) : cmpL f a b = 1 := by
  rw [cmpL_end fun j x y hx hy => h j (Nat.lt_of_lt_of_le (List.getElem?_eq_some_iff.1 hy).1 hb) x y hx hy]
  unfold sgn; rw [if_neg (by omega), if_pos (by omega)]
theorem cmpL_short {α β : Type} {f : α → β → Int} {a : List α} {b : List β} {k : Nat} (h : ∀ j, j < k → ∀ x y, a[j]? = some x → b[j]? = some y → f x y = 0) (ha : a.length ≤ k) (hb : a.length < b.length) : cmpL f a b = -1 := by
  rw [cmpL_end fun j x y hx hy => h j (Nat.lt_of_lt_of_le (List.getElem?_eq_some_iff.1 hx).1 ha) x y hx hy]
  unfold sgn; rw [if_pos (by omega)]
theorem cmpL_same {α β : Type} {f : α → β → Int} {a : List α} {b : List β} {k : Nat} (h : ∀ j, j < k → ∀ x y, a[j]? = some x → b[j]? = some y → f x y = 0) (ha : a.length ≤ k) (hb : b.length ≤ a.length) (hk : k ≤ b.length) : cmpL f a b = 0 := by
  rw [cmpL_end fun j x y hx hy => h j (Nat.lt_of_lt_of_le (List.getElem?_eq_some_iff.1 hx).1 ha) x y hx hy]
  unfold sgn; rw [if_neg (by omega), if_neg (by omega)]
theorem cmpOr_at {l : List Int} {k : Nat} {x : Int} (h : ∀ j, j < k → ∀ x, l[j]? = some x → x = 0) (hk : l[k]? = some x) (hx : x ≠ 0) : cmpOr l = x := by
  unfold cmpOr
  induction l generalizing k with
  | nil => simp at hk
  | cons y l ih =>
    cases k with
    | zero => simp at hk; subst hk; simp [hx]
    | succ k =>
      have h0 := h 0 (by omega) y rfl
      rw [List.find?_cons_of_neg (by simp [h0])]
      exact ih (k := k) (fun j hj x hx => h (j + 1) (by omega) x (by simpa using hx)) (by simpa using hk)
theorem cmpOr_none {l : List Int} {k : Nat} (h : ∀ j, j < k → ∀ x, l[j]? = some x → x = 0) (hk : l.length ≤ k) : cmpOr l = 0 := by
  unfold cmpOr
  rw [List.find?_eq_none.2 fun x hx => by simp [lt_all h hk x hx]]; rfl
theorem cmpOr3 (a b c : Int) : cmpOr [a, b, c] = if a ≠ 0 then a else if b ≠ 0 then b else c := by
  unfold cmpOr
  by_cases ha : a = 0 <;> by_cases hb : b = 0 <;> by_cases hc : c = 0 <;> simp [List.find?, ha, hb, hc]

theorem I64_sgn (a b : Int) : I64 (sgn a b) := by unfold sgn; split <;> (try split) <;> constructor <;> decide
theorem I64_cmpS (a b : List UInt8) : I64 (cmpS a b) := by unfold cmpS; split <;> (try split) <;> constructor <;> decide
theorem spanV_B (x : Span) (h : -62135596800 ≤ x.a) (k : x.b ≤ 253402300800) : spanV x = decide (x.a < x.b) := by
  unfold spanV lineB
  by_cases e : x.a < x.b <;> simp [e] <;> omega
theorem valB_text {x : Val} (h2 : x.k = 2) (hn : x.n = 0) (hl : x.s.length ≤ 30) (hs : x.s.all okC = true) : valB x = true := by
  unfold valB; rw [if_neg (by omega), if_pos h2]; simp [hn, hl, hs]
theorem valB_bad {x : Val} {k : Nat} {c : UInt8} (h2 : x.k = 2) (hk : x.s[k]? = some c) (hc : okC c = false) : valB x = false := by
  unfold valB; rw [if_neg (by omega), if_pos h2, all_no hk hc]; simp
section
open Go.RowKit
variable {P : Program} {N : Nat} {Q : Exit → Env → World → Prop} {ρ : Env} {w : World} {ops : Array Oper} {rest : List Oper} {K : Env → World → Prop}
variable {d : Nat} {ty : TypeId} {pos : String} {af : Array Edge} {g : Option (Nat × Bool)}
theorem WL.aggEq {t ty' : TypeId} {x y : Operand} {X Y : Array Value} {b : Bool} (h : ∀ w, (Op.equalIn 10000 t (.agg X) (.agg Y)).run P w = .ok b w) (hg : P.eqGuardType P.depth t = false)
    (hw : Region.wanted ⟨some d, .binOp .eql t x y ty', ty, pos, af, g⟩ (yieldE ops ρ) = true) (hx : ev ρ x = .agg X) (hy : ev ρ y = .agg Y)
    (kk : K (upd ρ d (.bool b)) w) : OW P ops ⟨some d, .binOp .eql t x y ty', ty, pos, af, g⟩ ρ w K := by
  refine WL.val hw ?_ rfl kk
  simp [execOp, hx, hy, run_eqGuard_agg w _ t _ _ X Y hg, run_eql_struct, h, Result.andThen]
theorem WL.aggEqN {t ty' : TypeId} {x y : Operand} {X Y : Array Value} {b : Bool} (h : ∀ w, (Op.equalIn 10000 t (.agg X) (.agg Y)).run P w = .ok b w) (hg : P.eqGuardType P.depth t = false)
    (hw : Region.wanted ⟨some d, .binOp .neq t x y ty', ty, pos, af, g⟩ (yieldE ops ρ) = true) (hx : ev ρ x = .agg X) (hy : ev ρ y = .agg Y)
    (kk : K (upd ρ d (.bool (!b))) w) : OW P ops ⟨some d, .binOp .neq t x y ty', ty, pos, af, g⟩ ρ w K := by
  refine WL.val hw ?_ rfl kk
  simp [execOp, hx, hy, run_eqGuard_agg w _ t _ _ X Y hg, run_neq_struct, h, Result.andThen]
theorem WL.aggEqNV {t ty' : TypeId} {x y : Operand} {X Y : Array Value} {b : Bool} (r : Bool) (h : ∀ w, (Op.equalIn 10000 t (.agg X) (.agg Y)).run P w = .ok b w) (hg : P.eqGuardType P.depth t = false) (hr : (!b) = r)
    (hw : Region.wanted ⟨some d, .binOp .neq t x y ty', ty, pos, af, g⟩ (yieldE ops ρ) = true) (hx : ev ρ x = .agg X) (hy : ev ρ y = .agg Y)
    (kk : K (upd ρ d (.bool r)) w) : OW P ops ⟨some d, .binOp .neq t x y ty', ty, pos, af, g⟩ ρ w K := by
  subst hr; exact WL.aggEqN h hg hw hx hy kk
end
end Go.Civ
namespace Go.Proofs
open Go.Shelf
def Tryz.sortSp_ren : Go.Shelf.Ren := ⟨fun | 6 => 175 | 15 => 116 | 14 => 206 | 28 => 154 | 29 => 155 | 20 => 221 | 21 => 222 | 22 => 223 | 23 => 224 | 24 => 225 | 25 => 226 | 26 => 227 | 27 => 228 | 46 => 234 | 47 => 185 | 48 => 186 | 49 => 235 | 50 => 236 | 57 => 238 | n => n, fun | 22 => 129 | 24 => 38 | 25 => 206 | 3 => 3 | 39 => 149 | 0 => 0 | 53 => 187 | 55 => 189 | 4 => 4 | 46 => 181 | 45 => 180 | 50 => 167 | 5 => 5 | 9 => 9 | 66 => 210 | 70 => 120 | 76 => 224 | 77 => 225 | n => n, fun | n => n⟩
theorem Tryz.sortSp : Go.Proofs.SlLaysF0.n6 Tryz.prog Tryz.sortSp_ren := {
  mixed := by kernel_rfl
  f6 := ⟨Tryz.f175.name, by decide, Tryz.func175.trans (congrArg some (by kernel_rfl))⟩
  f14 := ⟨Tryz.f206.name, by decide, Tryz.func206.trans (congrArg some (by kernel_rfl))⟩
  f15 := Tryz.func116.trans (congrArg some (by kernel_rfl))
  f20 := ⟨Tryz.f221.name, by decide, Tryz.func221.trans (congrArg some (by kernel_rfl))⟩
  f21 := ⟨Tryz.f222.name, by decide, Tryz.func222.trans (congrArg some (by kernel_rfl))⟩
  f22 := ⟨Tryz.f223.name, by decide, Tryz.func223.trans (congrArg some (by kernel_rfl))⟩
  f23 := ⟨Tryz.f224.name, by decide, Tryz.func224.trans (congrArg some (by kernel_rfl))⟩
  f24 := ⟨Tryz.f225.name, by decide, Tryz.func225.trans (congrArg some (by kernel_rfl))⟩
  f25 := ⟨Tryz.f226.name, by decide, Tryz.func226.trans (congrArg some (by kernel_rfl))⟩
  f26 := ⟨Tryz.f227.name, by decide, Tryz.func227.trans (congrArg some (by kernel_rfl))⟩
  f27 := ⟨Tryz.f228.name, by decide, Tryz.func228.trans (congrArg some (by kernel_rfl))⟩
  f28 := Tryz.func154.trans (congrArg some (by kernel_rfl))
  f29 := Tryz.func155.trans (congrArg some (by kernel_rfl))
  f46 := ⟨Tryz.f234.name, by decide, Tryz.func234.trans (congrArg some (by kernel_rfl))⟩
  f47 := Tryz.func185.trans (congrArg some (by kernel_rfl))
  f48 := Tryz.func186.trans (congrArg some (by kernel_rfl))
  f49 := ⟨Tryz.f235.name, by decide, Tryz.func235.trans (congrArg some (by kernel_rfl))⟩
  f50 := ⟨Tryz.f236.name, by decide, Tryz.func236.trans (congrArg some (by kernel_rfl))⟩
  f57 := ⟨Tryz.f238.name, by decide, Tryz.func238.trans (congrArg some (by kernel_rfl))⟩
  t0 := Tryz.underlying0
  a0 := Tryz.isAgg0
  z0 := Tryz.sizeOf0
  v0 := Tryz.zeroValue0
  t3 := Tryz.underlying3
  a3 := Tryz.isAgg3
  z3 := Tryz.sizeOf3
  v3 := Tryz.zeroValue3
  t4 := Tryz.underlying4
  a4 := Tryz.isAgg4
  z4 := Tryz.sizeOf4
  v4 := Tryz.zeroValue4
  t5 := Tryz.underlying5
  a5 := Tryz.isAgg5
  z5 := Tryz.sizeOf5
  v5 := Tryz.zeroValue5
  t9 := Tryz.underlying9
  a9 := Tryz.isAgg9
  z9 := Tryz.sizeOf9
  v9 := Tryz.zeroValue9
  t22 := Tryz.underlying129
  a22 := Tryz.isAgg129
  z22 := Tryz.sizeOf129
  v22 := Tryz.zeroValue129
  t25 := Tryz.underlying206
  a25 := Tryz.isAgg206
  z25 := Tryz.sizeOf206
  v25 := Tryz.zeroValue206
  t39 := Tryz.underlying149
  a39 := Tryz.isAgg149
  z39 := Tryz.sizeOf149
  v39 := Tryz.zeroValue149
  t45 := Tryz.underlying180
  a45 := Tryz.isAgg180
  z45 := Tryz.sizeOf180
  v45 := Tryz.zeroValue180
  t46 := Tryz.underlying181
  a46 := Tryz.isAgg181
  z46 := Tryz.sizeOf181
  v46 := Tryz.zeroValue181
  t50 := Tryz.underlying167
  a50 := Tryz.isAgg167
  z50 := Tryz.sizeOf167
  v50 := Tryz.zeroValue167
  t53 := Tryz.underlying187
  a53 := Tryz.isAgg187
  z53 := Tryz.sizeOf187
  v53 := Tryz.zeroValue187
  t55 := Tryz.underlying189
  a55 := Tryz.isAgg189
  z55 := Tryz.sizeOf189
  v55 := Tryz.zeroValue189
  t66 := Tryz.underlying210
  a66 := Tryz.isAgg210
  z66 := Tryz.sizeOf210
  v66 := Tryz.zeroValue210
  t70 := Tryz.underlying120
  a70 := Tryz.isAgg120
  z70 := Tryz.sizeOf120
  v70 := Tryz.zeroValue120
  t76 := Tryz.underlying224
  a76 := Tryz.isAgg224
  z76 := Tryz.sizeOf224
  v76 := Tryz.zeroValue224
  t77 := Tryz.underlying225
  a77 := Tryz.isAgg225
  z77 := Tryz.sizeOf225
  v77 := Tryz.zeroValue225 }
def Tryz.sortGr_ren : Go.Shelf.Ren := ⟨fun | 6 => 131 | 15 => 116 | 14 => 170 | 28 => 154 | 29 => 155 | 20 => 196 | 21 => 197 | 22 => 198 | 23 => 199 | 24 => 200 | 25 => 201 | 26 => 202 | 27 => 203 | 46 => 218 | 47 => 185 | 48 => 186 | 49 => 219 | 50 => 220 | 57 => 233 | n => n, fun | 22 => 125 | 24 => 128 | 25 => 169 | 3 => 3 | 39 => 149 | 0 => 0 | 53 => 187 | 55 => 189 | 4 => 4 | 46 => 181 | 45 => 180 | 50 => 167 | 5 => 5 | 9 => 9 | 66 => 210 | 70 => 120 | 76 => 224 | 77 => 225 | n => n, fun | n => n⟩
theorem Tryz.sortGr : Go.Proofs.SlLaysF0.n6 Tryz.prog Tryz.sortGr_ren := {
  mixed := by kernel_rfl
  f6 := ⟨Tryz.f131.name, by decide, Tryz.func131.trans (congrArg some (by kernel_rfl))⟩
  f14 := ⟨Tryz.f170.name, by decide, Tryz.func170.trans (congrArg some (by kernel_rfl))⟩
  f15 := Tryz.func116.trans (congrArg some (by kernel_rfl))
  f20 := ⟨Tryz.f196.name, by decide, Tryz.func196.trans (congrArg some (by kernel_rfl))⟩
  f21 := ⟨Tryz.f197.name, by decide, Tryz.func197.trans (congrArg some (by kernel_rfl))⟩
  f22 := ⟨Tryz.f198.name, by decide, Tryz.func198.trans (congrArg some (by kernel_rfl))⟩
  f23 := ⟨Tryz.f199.name, by decide, Tryz.func199.trans (congrArg some (by kernel_rfl))⟩
  f24 := ⟨Tryz.f200.name, by decide, Tryz.func200.trans (congrArg some (by kernel_rfl))⟩
  f25 := ⟨Tryz.f201.name, by decide, Tryz.func201.trans (congrArg some (by kernel_rfl))⟩
  f26 := ⟨Tryz.f202.name, by decide, Tryz.func202.trans (congrArg some (by kernel_rfl))⟩
  f27 := ⟨Tryz.f203.name, by decide, Tryz.func203.trans (congrArg some (by kernel_rfl))⟩
  f28 := Tryz.func154.trans (congrArg some (by kernel_rfl))
  f29 := Tryz.func155.trans (congrArg some (by kernel_rfl))
  f46 := ⟨Tryz.f218.name, by decide, Tryz.func218.trans (congrArg some (by kernel_rfl))⟩
  f47 := Tryz.func185.trans (congrArg some (by kernel_rfl))
  f48 := Tryz.func186.trans (congrArg some (by kernel_rfl))
  f49 := ⟨Tryz.f219.name, by decide, Tryz.func219.trans (congrArg some (by kernel_rfl))⟩
  f50 := ⟨Tryz.f220.name, by decide, Tryz.func220.trans (congrArg some (by kernel_rfl))⟩
  f57 := ⟨Tryz.f233.name, by decide, Tryz.func233.trans (congrArg some (by kernel_rfl))⟩
  t0 := Tryz.underlying0
  a0 := Tryz.isAgg0
  z0 := Tryz.sizeOf0
  v0 := Tryz.zeroValue0
  t3 := Tryz.underlying3
  a3 := Tryz.isAgg3
  z3 := Tryz.sizeOf3
  v3 := Tryz.zeroValue3
  t4 := Tryz.underlying4
  a4 := Tryz.isAgg4
  z4 := Tryz.sizeOf4
  v4 := Tryz.zeroValue4
  t5 := Tryz.underlying5
  a5 := Tryz.isAgg5
  z5 := Tryz.sizeOf5
  v5 := Tryz.zeroValue5
  t9 := Tryz.underlying9
  a9 := Tryz.isAgg9
  z9 := Tryz.sizeOf9
  v9 := Tryz.zeroValue9
  t22 := Tryz.underlying125
  a22 := Tryz.isAgg125
  z22 := Tryz.sizeOf125
  v22 := Tryz.zeroValue125
  t25 := Tryz.underlying169
  a25 := Tryz.isAgg169
  z25 := Tryz.sizeOf169
  v25 := Tryz.zeroValue169
  t39 := Tryz.underlying149
  a39 := Tryz.isAgg149
  z39 := Tryz.sizeOf149
  v39 := Tryz.zeroValue149
  t45 := Tryz.underlying180
  a45 := Tryz.isAgg180
  z45 := Tryz.sizeOf180
  v45 := Tryz.zeroValue180
  t46 := Tryz.underlying181
  a46 := Tryz.isAgg181
  z46 := Tryz.sizeOf181
  v46 := Tryz.zeroValue181
  t50 := Tryz.underlying167
  a50 := Tryz.isAgg167
  z50 := Tryz.sizeOf167
  v50 := Tryz.zeroValue167
  t53 := Tryz.underlying187
  a53 := Tryz.isAgg187
  z53 := Tryz.sizeOf187
  v53 := Tryz.zeroValue187
  t55 := Tryz.underlying189
  a55 := Tryz.isAgg189
  z55 := Tryz.sizeOf189
  v55 := Tryz.zeroValue189
  t66 := Tryz.underlying210
  a66 := Tryz.isAgg210
  z66 := Tryz.sizeOf210
  v66 := Tryz.zeroValue210
  t70 := Tryz.underlying120
  a70 := Tryz.isAgg120
  z70 := Tryz.sizeOf120
  v70 := Tryz.zeroValue120
  t76 := Tryz.underlying224
  a76 := Tryz.isAgg224
  z76 := Tryz.sizeOf224
  v76 := Tryz.zeroValue224
  t77 := Tryz.underlying225
  a77 := Tryz.isAgg225
  z77 := Tryz.sizeOf225
  v77 := Tryz.zeroValue225 }
def Tryz.laysSort_ren : Go.Shelf.Ren := ⟨fun | 189 => 159 | 125 => 116 | 257 => 191 | 128 => 154 | 129 => 155 | 294 => 208 | 295 => 209 | 296 => 210 | 297 => 211 | 298 => 212 | 299 => 213 | 216 => 214 | 300 => 215 | 301 => 216 | 328 => 229 | 329 => 185 | 330 => 186 | 331 => 230 | 332 => 231 | 215 => 189 | 343 => 237 | n => n, fun | 28 => 135 | 3 => 3 | 46 => 149 | 0 => 0 | 51 => 187 | 53 => 189 | 4 => 4 | 183 => 181 | 182 => 180 | 131 => 167 | 5 => 5 | 9 => 9 | 218 => 210 | 222 => 120 | 228 => 224 | 229 => 225 | n => n, fun | n => n⟩
theorem Tryz.laysSort : Go.Proofs.Lays.n189 Tryz.prog Tryz.laysSort_ren := {
  mixed := by kernel_rfl
  f125 := Tryz.func116.trans (congrArg some (by kernel_rfl))
  f128 := Tryz.func154.trans (congrArg some (by kernel_rfl))
  f129 := Tryz.func155.trans (congrArg some (by kernel_rfl))
  f189 := Tryz.func159.trans (congrArg some (by kernel_rfl))
  f215 := Tryz.func189.trans (congrArg some (by kernel_rfl))
  f216 := Tryz.func214.trans (congrArg some (by kernel_rfl))
  f257 := Tryz.func191.trans (congrArg some (by kernel_rfl))
  f294 := Tryz.func208.trans (congrArg some (by kernel_rfl))
  f295 := Tryz.func209.trans (congrArg some (by kernel_rfl))
  f296 := Tryz.func210.trans (congrArg some (by kernel_rfl))
  f297 := Tryz.func211.trans (congrArg some (by kernel_rfl))
  f298 := Tryz.func212.trans (congrArg some (by kernel_rfl))
  f299 := Tryz.func213.trans (congrArg some (by kernel_rfl))
  f300 := Tryz.func215.trans (congrArg some (by kernel_rfl))
  f301 := Tryz.func216.trans (congrArg some (by kernel_rfl))
  f328 := Tryz.func229.trans (congrArg some (by kernel_rfl))
  f329 := Tryz.func185.trans (congrArg some (by kernel_rfl))
  f330 := Tryz.func186.trans (congrArg some (by kernel_rfl))
  f331 := Tryz.func230.trans (congrArg some (by kernel_rfl))
  f332 := Tryz.func231.trans (congrArg some (by kernel_rfl))
  f343 := Tryz.func237.trans (congrArg some (by kernel_rfl))
  t0 := Tryz.underlying0
  a0 := Tryz.isAgg0
  z0 := Tryz.sizeOf0
  v0 := Tryz.zeroValue0
  t3 := Tryz.underlying3
  a3 := Tryz.isAgg3
  z3 := Tryz.sizeOf3
  v3 := Tryz.zeroValue3
  t4 := Tryz.underlying4
  a4 := Tryz.isAgg4
  z4 := Tryz.sizeOf4
  v4 := Tryz.zeroValue4
  t5 := Tryz.underlying5
  a5 := Tryz.isAgg5
  z5 := Tryz.sizeOf5
  v5 := Tryz.zeroValue5
  t9 := Tryz.underlying9
  a9 := Tryz.isAgg9
  z9 := Tryz.sizeOf9
  v9 := Tryz.zeroValue9
  t28 := Tryz.underlying135
  a28 := Tryz.isAgg135
  z28 := Tryz.sizeOf135
  v28 := Tryz.zeroValue135
  t46 := Tryz.underlying149
  a46 := Tryz.isAgg149
  z46 := Tryz.sizeOf149
  v46 := Tryz.zeroValue149
  t51 := Tryz.underlying187
  a51 := Tryz.isAgg187
  z51 := Tryz.sizeOf187
  v51 := Tryz.zeroValue187
  t53 := Tryz.underlying189
  a53 := Tryz.isAgg189
  z53 := Tryz.sizeOf189
  v53 := Tryz.zeroValue189
  t131 := Tryz.underlying167
  a131 := Tryz.isAgg167
  z131 := Tryz.sizeOf167
  v131 := Tryz.zeroValue167
  t182 := Tryz.underlying180
  a182 := Tryz.isAgg180
  z182 := Tryz.sizeOf180
  v182 := Tryz.zeroValue180
  t183 := Tryz.underlying181
  a183 := Tryz.isAgg181
  z183 := Tryz.sizeOf181
  v183 := Tryz.zeroValue181
  t218 := Tryz.underlying210
  a218 := Tryz.isAgg210
  z218 := Tryz.sizeOf210
  v218 := Tryz.zeroValue210
  t222 := Tryz.underlying120
  a222 := Tryz.isAgg120
  z222 := Tryz.sizeOf120
  v222 := Tryz.zeroValue120
  t228 := Tryz.underlying224
  a228 := Tryz.isAgg224
  z228 := Tryz.sizeOf224
  v228 := Tryz.zeroValue224
  t229 := Tryz.underlying225
  a229 := Tryz.isAgg225
  z229 := Tryz.sizeOf225
  v229 := Tryz.zeroValue225 }
end Go.Proofs
