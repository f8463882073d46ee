/- Lemmas. -/
import Derived.Test.YtcopkjhdncdnmaaGreatDoorP06
import Derived.Laws.StructEq
set_option linter.unusedSimpArgs false
namespace Go.Civ
set_option linter.unusedVariables false
def sgn (a b : Int) : Int:=if a < b then -1 else if b < a then 1 else 0
def cmpS (a b : List UInt8) : Int:=if Op.bytesLess a b then -1 else if a = b then 0 else 1
def cmpV (x y : Val) : Int:=if sgn x.k y.k ≠ 0 then sgn x.k y.k else if sgn x.n y.n ≠ 0 then sgn x.n y.n else cmpS x.s y.s
def okC (c : UInt8) : Bool:=decide (32 ≤ c.toNat) && decide (c.toNat ≤ 126)
def Y1 (x : Val) : Bool:=
 if x.k = 1 then decide (x.s = [])
 else if x.k = 2 then decide (x.n = 0) && decide (x.s.length ≤ 30) && x.s.all okC
 else if x.k = 3 then decide (x.s = []) && (decide (x.n = 0) || decide (x.n = 1))
 else if x.k = 4 then decide (x.s = []) && decide (-62135596800 ≤ x.n) && decide (x.n ≤ 253402300800)
 else false
def ZaS {α β : Type} (f : α → β → Int) : List α → List β → Int
 | [],[]=>0
 | [],_ :: _=>-1
 | _ :: _,[]=>1
 | x :: a,y :: b=>if f x y ≠ 0 then f x y else ZaS f a b
def ZeG (a b : List Val) : Int:=if a.all Y1 && b.all Y1 then ZaS cmpV a b else 0
def eqF {α β : Type} (f : α → β → Bool) : List α → List β → Bool
 | [],[]=>true
 | x :: a,y :: b=>f x y && eqF f a b
 | _,_=>false
def ZiM (x : Int) : Bool:=decide (-4398046511104 ≤ x) && decide (x ≤ 4398046511104)
def ZdX (s : Span) : Bool:=ZiM s.a && ZiM s.b && decide (s.a < s.b)
def Yj (s : Span) : Bool:=decide (-62135596800 ≤ s.a) && decide (s.a < s.b) && decide (s.b ≤ 253402300800)
theorem Zoi {G : GH} (x : Int × Int) (h1 : ZM x.1) (h2 : ZM x.2) : ZaZ.rep G x [.int .i64 x.1, .int .i64 x.2]:=⟨_,_,rfl,⟨rfl,h1⟩,rfl,h2⟩
theorem Xz {G : GH} (x : Col) (h1 : x.name.length ≤ reach) (h2 : ZM x.kind) : ColE.rep G x [Zb x.name, .int .i64 x.kind]:=⟨_,_,rfl,⟨rfl,h1⟩,rfl,h2⟩
theorem YH.bound {α : Type} {E : Enc α} {by_ : Nat} {e : TypeId} {G : GH} {v : Value} {l : List α} {o : Option (Nat × TypeId × List Value)} (h : YH E by_ e G v l o) : l.length ≤ reach:=by
 rcases h with ⟨_,_,rfl⟩ | ⟨b,cs,cap,xs,_,_,_,_,_,_,_,_,h9⟩
 ·simp [reach]
 ·exact h9
theorem Yz {α : Type} {P : α → Prop} {l : List α} {k : Nat} {y : α} (h : ∀ j,j < k → ∀ x,l[j]? = some x → P x) (hk : l[k]? = some y) (hy : P y) : ∀ j,j < k + 1 → ∀ x,l[j]? = some x → P x:=fun j hj x hx=>by
 by_cases e : j = k
 ·subst e; rw [hk] at hx; obtain rfl:=Option.some.inj hx; exact hy
 ·exact h j (by omega) x hx
theorem ZgD {α β : Type} {P : α → β → Prop} {a : List α} {b : List β} {k : Nat} {u : α} {v : β} (h : ∀ j,j < k → ∀ x y,a[j]? = some x → b[j]? = some y → P x y) (hk : a[k]? = some u) (hk' : b[k]? = some v) (hy : P u v) : ∀ j,j < k + 1 → ∀ x y,a[j]? = some x → b[j]? = some y → P x y:=fun j hj x y hx hy'=>by
 by_cases e : j = k
 ·subst e; rw [hk] at hx; rw [hk'] at hy'; obtain rfl:=Option.some.inj hx; obtain rfl:=Option.some.inj hy'; exact hy
 ·exact h j (by omega) x y hx hy'
theorem ZqH {α : Type} {P : α → Prop} {l : List α} {k : Nat} (h : ∀ j,j < k → ∀ x,l[j]? = some x → P x) (hk : l.length ≤ k) : ∀ x ∈ l,P x:=fun x hx=>by
 obtain ⟨j,hj⟩:=List.getElem?_of_mem hx
 exact h j (Nat.lt_of_lt_of_le (List.getElem?_eq_some_iff.1 hj).1 hk) x hj
theorem QO {α : Type} {p : α → Bool} {l : List α} {k : Nat} (h : ∀ j,j < k → ∀ x,l[j]? = some x → p x = false) (hk : l.length ≤ k) : YP p l = -1:=
 ZmI fun j x hj=>h j (Nat.lt_of_lt_of_le (List.getElem?_eq_some_iff.1 hj).1 hk) x hj
theorem ZeM {α : Type} {p : α → Bool} {l : List α} {k : Nat} {x : α} (hk : l[k]? = some x) (hx : p x = false) : l.all p = false:=by
 rw [List.all_eq_false]; exact ⟨x,List.mem_of_getElem? hk,by simp [hx]⟩
theorem Ys {α : Type} {p : α → Bool} {l : List α} {k : Nat} (h : ∀ j,j < k → ∀ x,l[j]? = some x → p x = true) (hk : l.length ≤ k) : l.all p = true:=by
 rw [List.all_eq_true]; exact ZqH h hk
theorem ZfY {α β : Type} {f : α → β → Bool} : ∀ {a : List α} {b : List β},a.length ≠ b.length → eqF f a b = false
 | [],[],h=>absurd rfl h
 | x :: a,y :: b,h=>by simp only [eqF]; rw [ZfY (by simpa using h)]; simp
 | [],_ :: _,_=>rfl
 | _ :: _,[],_=>rfl
theorem Zf5 {α β : Type} {f : α → β → Bool} : ∀ {a : List α} {b : List β} {k : Nat} {x : α} {y : β},a[k]? = some x → b[k]? = some y → f x y = false → eqF f a b = false
 | u :: a,v :: b,0,x,y,h1,h2,h=>by simp at h1 h2; subst h1 h2; simp [eqF,h]
 | u :: a,v :: b,k + 1,x,y,h1,h2,h=>by simp only [eqF]; rw [Zf5 (k:=k) (by simpa using h1) (by simpa using h2) h]; simp
 | [],_,_,_,_,h1,_,_=>by simp at h1
 | _ :: _,[],_,_,_,_,h2,_=>by simp at h2
theorem ZkT {α β : Type} {f : α → β → Bool} : ∀ {a : List α} {b : List β},a.length = b.length → (∀ (j : Nat) x y,a[j]? = some x → b[j]? = some y → f x y = true) → eqF f a b = true
 | [],[],_,_=>rfl
 | x :: a,y :: b,h,k=>by
  simp only [eqF,Bool.and_eq_true]
  exact ⟨k 0 x y rfl rfl,ZkT (by simpa using h) fun j u v hu hv=>k (j + 1) u v (by simpa using hu) (by simpa using hv)⟩
theorem ZhO {α β : Type} {f : α → β → Bool} {a : List α} {b : List β} {k : Nat} (hl : a.length = b.length) (h : ∀ j,j < k → ∀ x y,a[j]? = some x → b[j]? = some y → f x y = true) (hk : a.length ≤ k) : eqF f a b = true:=
 ZkT hl fun j x y hx hy=>h j (Nat.lt_of_lt_of_le (List.getElem?_eq_some_iff.1 hx).1 hk) x y hx hy
theorem Zbf {α : Type} [DecidableEq α] : ∀ {a b : List α},eqF (fun x y=>decide (x = y)) a b = decide (a = b)
 | [],[]=>by simp [eqF]
 | x :: a,y :: b=>by simp only [eqF]; rw [Zbf]; simp [Bool.decide_and]
 | [],_ :: _=>by simp [eqF]
 | _ :: _,[]=>by simp [eqF]
theorem XO {x : Val} (h2 : x.k = 2) (hn : x.n = 0) (hl : x.s.length ≤ 30) (hs : x.s.all okC = true) : Y1 x = true:=by
 unfold Y1; rw [if_neg (by omega),if_pos h2]; simp [hn,hl,hs]
theorem Qe {x : Val} {k : Nat} {c : UInt8} (h2 : x.k = 2) (hk : x.s[k]? = some c) (hc : okC c = false) : Y1 x = false:=by
 unfold Y1; rw [if_neg (by omega),if_pos h2,ZeM hk hc]; simp
section
open Go.RowKit
variable {P : Program} {N : Nat} {Q : Exit → Env → World → Prop} {ρ : Env} {w : World} {ops : Array Oper} {rest : List Oper} {K : Env → World → Prop}
variable {d : Nat} {ty : TypeId} {pos : String} {af : Array Edge} {g : Option (Nat × Bool)}
theorem Zfd {t ty' : TypeId} {x y : Operand} {X Y : Array Value} {b : Bool} (h : ∀ w,(Op.equalIn 10000 t (.agg X) (.agg Y)).run P w = .ok b w) (hg : P.eqGuardType P.depth t = false)
  (hw : Region.wanted ⟨some d, .binOp .eql t x y ty',ty,pos,af,g⟩ (ZI ops ρ) = true) (hx : ev ρ x = .agg X) (hy : ev ρ y = .agg Y)
  (kk : K (Yq ρ d (.bool b)) w) : OW P ops ⟨some d, .binOp .eql t x y ty',ty,pos,af,g⟩ ρ w K:=by
 refine WL.val hw ?_ rfl kk
 simp [execOp,hx,hy,run_eqGuard_agg w _ t _ _ X Y hg,run_eql_struct,h,Result.andThen]
theorem ZcP {t ty' : TypeId} {x y : Operand} {X Y : Array Value} {b : Bool} (h : ∀ w,(Op.equalIn 10000 t (.agg X) (.agg Y)).run P w = .ok b w) (hg : P.eqGuardType P.depth t = false)
  (hw : Region.wanted ⟨some d, .binOp .neq t x y ty',ty,pos,af,g⟩ (ZI ops ρ) = true) (hx : ev ρ x = .agg X) (hy : ev ρ y = .agg Y)
  (kk : K (Yq ρ d (.bool (!b))) w) : OW P ops ⟨some d, .binOp .neq t x y ty',ty,pos,af,g⟩ ρ w K:=by
 refine WL.val hw ?_ rfl kk
 simp [execOp,hx,hy,run_eqGuard_agg w _ t _ _ X Y hg,run_neq_struct,h,Result.andThen]
theorem Zir {t ty' : TypeId} {x y : Operand} {X Y : Array Value} {b : Bool} (r : Bool) (h : ∀ w,(Op.equalIn 10000 t (.agg X) (.agg Y)).run P w = .ok b w) (hg : P.eqGuardType P.depth t = false) (hr : b = r)
  (hw : Region.wanted ⟨some d, .binOp .eql t x y ty',ty,pos,af,g⟩ (ZI ops ρ) = true) (hx : ev ρ x = .agg X) (hy : ev ρ y = .agg Y)
  (kk : K (Yq ρ d (.bool r)) w) : OW P ops ⟨some d, .binOp .eql t x y ty',ty,pos,af,g⟩ ρ w K:=by
 subst hr; exact Zfd h hg hw hx hy kk
theorem Zbq {t ty' : TypeId} {x y : Operand} {X Y : Array Value} {b : Bool} (r : Bool) (h : ∀ w,(Op.equalIn 10000 t (.agg X) (.agg Y)).run P w = .ok b w) (hg : P.eqGuardType P.depth t = false) (hr : (!b) = r)
  (hw : Region.wanted ⟨some d, .binOp .neq t x y ty',ty,pos,af,g⟩ (ZI ops ρ) = true) (hx : ev ρ x = .agg X) (hy : ev ρ y = .agg Y)
  (kk : K (Yq ρ d (.bool r)) w) : OW P ops ⟨some d, .binOp .neq t x y ty',ty,pos,af,g⟩ ρ w K:=by
 subst hr; exact ZcP h hg hw hx hy kk
end
end Go.Civ
