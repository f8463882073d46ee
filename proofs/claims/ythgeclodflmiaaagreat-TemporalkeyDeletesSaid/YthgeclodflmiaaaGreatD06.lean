/- Lemmas. -/
import Derived.Test.YthgeclodflmiaaaGreatD05
import Derived.Laws.StructEq
import Derived.Shelf.SlSortCmp.NoneTotal
import Derived.Shelf.Slices.In.SortAlone
import Derived.Shelf.Slices.In.SortNone
import Derived.Ground.SlsfProg
import Derived.Ground.NamesProg
import Derived.Test.YthgeclodflmiaaaGreatProg
namespace Go.Civ
set_option linter.unusedVariables false
def Y5 (a b : Int) : Int:=if a < b then -1 else if b < a then 1 else 0
def Qf (l : List Int) : Int:=(l.find? fun x=>decide (x ≠ 0)).getD 0
def cmpS (a b : List UInt8) : Int:=if Op.bytesLess a b then -1 else if a = b then 0 else 1
def cmpV (x y : Val) : Int:=if Y5 x.k y.k ≠ 0 then Y5 x.k y.k else if Y5 x.n y.n ≠ 0 then Y5 x.n y.n else cmpS x.s y.s
def okC (c : UInt8) : Bool:=decide (32 ≤ c.toNat) && decide (c.toNat ≤ 126)
def Z4 (x : Val) : Bool:=
 if x.k = 1 then decide (x.s = [])
 else if x.k = 2 then decide (x.n = 0) && decide (x.s.length ≤ 30) && x.s.all okC
 else if x.k = 3 then decide (x.s = []) && (decide (x.n = 0) || decide (x.n = 1))
 else if x.k = 4 then decide (x.s = []) && decide (-62135596800 ≤ x.n) && decide (x.n ≤ 253402300800)
 else false
def ZL {α β : Type} (f : α → β → Int) : List α → List β → Int
 | [],[]=>0
 | [],_ :: _=>-1
 | _ :: _,[]=>1
 | x :: a,y :: b=>if f x y ≠ 0 then f x y else ZL f a b
def XL (a b : List Val) : Int:=if a.all Z4 && b.all Z4 then ZL cmpV a b else 0
def eqF {α β : Type} (f : α → β → Bool) : List α → List β → Bool
 | [],[]=>true
 | x :: a,y :: b=>f x y && eqF f a b
 | _,_=>false
def ZbW (x : Int) : Bool:=decide (-4398046511104 ≤ x) && decide (x ≤ 4398046511104)
def XD (s : Span) : Bool:=ZbW s.a && ZbW s.b && decide (s.a < s.b)
def ZN (s : Span) : Bool:=decide (-62135596800 ≤ s.a) && decide (s.a < s.b) && decide (s.b ≤ 253402300800)
def Zvr (s : Span) (x : Int) : Bool:=XD s && decide (s.a ≤ x) && decide (x < s.b)
def ZwA (a b : List Val) : Bool:=eqF (fun x y=>decide (x.k = y.k)) a b
def Zyv (v : List Val) (f : Fact) : Bool:=ZN f.t && decide (f.v.length ≤ 8) && ZwA f.v v && f.v.all Z4
def ZwB (l : List Fact) : Bool:=decide (l.length ≤ 1000) && l.all fun f=>Zyv (l.head?.elim [] Fact.v) f
theorem ZeJ {G : GH} (x : Col) (h1 : x.name.length ≤ reach) (h2 : Z0 x.kind) : ColE.rep G x [Za x.name, .int .i64 x.kind]:=⟨_,_,rfl,⟨rfl,h1⟩,rfl,h2⟩
theorem ZS.bound {α : Type} {E : Enc α} {by_ : Nat} {e : TypeId} {G : GH} {v : Value} {l : List α} {o : Option (Nat × TypeId × List Value)} (h : ZS E by_ e G v l o) : l.length ≤ reach:=by
 rcases h with ⟨_,_,rfl⟩ | ⟨b,cs,cap,xs,_,_,_,_,_,_,_,_,h9⟩
 ·simp [reach]
 ·exact h9
theorem ZW {α : Type} {P : α → Prop} {l : List α} {k : Nat} {y : α} (h : ∀ j,j < k → ∀ x,l[j]? = some x → P x) (hk : l[k]? = some y) (hy : P y) : ∀ j,j < k + 1 → ∀ x,l[j]? = some x → P x:=fun j hj x hx=>by
 by_cases e : j = k
 ·subst e; rw [hk] at hx; obtain rfl:=Option.some.inj hx; exact hy
 ·exact h j (by omega) x hx
theorem QT {α β : Type} {P : α → β → Prop} {a : List α} {b : List β} {k : Nat} {u : α} {v : β} (h : ∀ j,j < k → ∀ x y,a[j]? = some x → b[j]? = some y → P x y) (hk : a[k]? = some u) (hk' : b[k]? = some v) (hy : P u v) : ∀ j,j < k + 1 → ∀ x y,a[j]? = some x → b[j]? = some y → P x y:=fun j hj x y hx hy'=>by
 by_cases e : j = k
 ·subst e; rw [hk] at hx; rw [hk'] at hy'; obtain rfl:=Option.some.inj hx; obtain rfl:=Option.some.inj hy'; exact hy
 ·exact h j (by omega) x y hx hy'
theorem ZpV {α : Type} {P : α → Prop} {l : List α} {k : Nat} (h : ∀ j,j < k → ∀ x,l[j]? = some x → P x) (hk : l.length ≤ k) : ∀ x ∈ l,P x:=fun x hx=>by
 obtain ⟨j,hj⟩:=List.getElem?_of_mem hx
 exact h j (Nat.lt_of_lt_of_le (List.getElem?_eq_some_iff.1 hj).1 hk) x hj
theorem Q2 {α : Type} {p : α → Bool} {l : List α} {k : Nat} (h : ∀ j,j < k → ∀ x,l[j]? = some x → p x = false) (hk : l.length ≤ k) : Qi p l = -1:=
 ZpT fun j x hj=>h j (Nat.lt_of_lt_of_le (List.getElem?_eq_some_iff.1 hj).1 hk) x hj
theorem ZfV {α : Type} {p : α → Bool} {l : List α} {k : Nat} {x : α} (hk : l[k]? = some x) (hx : p x = false) : l.all p = false:=by
 rw [List.all_eq_false]; exact ⟨x,List.mem_of_getElem? hk,by simp [hx]⟩
theorem Y4 {α : Type} {p : α → Bool} {l : List α} {k : Nat} (h : ∀ j,j < k → ∀ x,l[j]? = some x → p x = true) (hk : l.length ≤ k) : l.all p = true:=by
 rw [List.all_eq_true]; exact ZpV h hk
theorem Zn7 {α : Type} (p : α → Bool) (l : List α) : (!l.any fun x=>!p x) = l.all p:=by simp [List.any_eq_not_all_not]
theorem Qa {α β : Type} {f : α → β → Bool} : ∀ {a : List α} {b : List β},a.length ≠ b.length → eqF f a b = false
 | [],[],h=>absurd rfl h
 | x :: a,y :: b,h=>by simp only [eqF]; rw [Qa (by simpa using h)]; simp
 | [],_ :: _,_=>rfl
 | _ :: _,[],_=>rfl
theorem Q6 {α β : Type} {f : α → β → Bool} : ∀ {a : List α} {b : List β} {k : Nat} {x : α} {y : β},a[k]? = some x → b[k]? = some y → f x y = false → eqF f a b = false
 | u :: a,v :: b,0,x,y,h1,h2,h=>by simp at h1 h2; subst h1 h2; simp [eqF,h]
 | u :: a,v :: b,k + 1,x,y,h1,h2,h=>by simp only [eqF]; rw [Q6 (k:=k) (by simpa using h1) (by simpa using h2) h]; simp
 | [],_,_,_,_,h1,_,_=>by simp at h1
 | _ :: _,[],_,_,_,_,h2,_=>by simp at h2
theorem Zn8 {α β : Type} {f : α → β → Bool} : ∀ {a : List α} {b : List β},a.length = b.length → (∀ (j : Nat) x y,a[j]? = some x → b[j]? = some y → f x y = true) → eqF f a b = true
 | [],[],_,_=>rfl
 | x :: a,y :: b,h,k=>by
  simp only [eqF,Bool.and_eq_true]
  exact ⟨k 0 x y rfl rfl,Zn8 (by simpa using h) fun j u v hu hv=>k (j + 1) u v (by simpa using hu) (by simpa using hv)⟩
theorem Qr {α β : Type} {f : α → β → Bool} {a : List α} {b : List β} {k : Nat} (hl : a.length = b.length) (h : ∀ j,j < k → ∀ x y,a[j]? = some x → b[j]? = some y → f x y = true) (hk : a.length ≤ k) : eqF f a b = true:=
 Zn8 hl fun j x y hx hy=>h j (Nat.lt_of_lt_of_le (List.getElem?_eq_some_iff.1 hx).1 hk) x y hx hy
theorem XE {α : Type} [DecidableEq α] : ∀ {a b : List α},eqF (fun x y=>decide (x = y)) a b = decide (a = b)
 | [],[]=>by simp [eqF]
 | x :: a,y :: b=>by simp only [eqF]; rw [XE]; simp [Bool.decide_and]
 | [],_ :: _=>by simp [eqF]
 | _ :: _,[]=>by simp [eqF]
theorem Zjj {α β : Type} {f : α → β → Int} : ∀ {a : List α} {b : List β} {k : Nat} {x : α} {y : β},(∀ j,j < k → ∀ x y,a[j]? = some x → b[j]? = some y → f x y = 0) → a[k]? = some x → b[k]? = some y → f x y ≠ 0 → ZL f a b = f x y
 | u :: a,v :: b,0,x,y,_,h1,h2,h=>by simp at h1 h2; subst h1 h2; simp [ZL,h]
 | u :: a,v :: b,k + 1,x,y,h0,h1,h2,h=>by
  simp only [ZL]
  rw [if_neg (by simpa using h0 0 (by omega) u v rfl rfl)]
  exact Zjj (k:=k) (fun j hj x y hx hy=>h0 (j + 1) (by omega) x y (by simpa using hx) (by simpa using hy)) (by simpa using h1) (by simpa using h2) h
 | [],_,_,_,_,_,h1,_,_=>by simp at h1
 | _ :: _,[],_,_,_,_,_,h2,_=>by simp at h2
theorem ZdM {α β : Type} {f : α → β → Int} : ∀ {a : List α} {b : List β},(∀ (j : Nat) x y,a[j]? = some x → b[j]? = some y → f x y = 0) → ZL f a b = Y5 a.length b.length
 | [],[],_=>by simp [ZL,Y5]
 | [],_ :: _,_=>by simp only [ZL,Y5,List.length_nil,List.length_cons]; rw [if_pos (by omega)]
 | _ :: _,[],_=>by simp only [ZL,Y5,List.length_nil,List.length_cons]; rw [if_neg (by omega),if_pos (by omega)]
 | x :: a,y :: b,h=>by
  simp only [ZL]
  rw [if_neg (by simpa using h 0 x y rfl rfl),ZdM fun j u v hu hv=>h (j + 1) u v (by simpa using hu) (by simpa using hv)]
  unfold Y5; simp only [List.length_cons]; split <;> split <;> (try split) <;> (try split) <;> omega
theorem ZpW {α β : Type} {f : α → β → Int} {a : List α} {b : List β} {k : Nat} (h : ∀ j,j < k → ∀ x y,a[j]? = some x → b[j]? = some y → f x y = 0) (hb : b.length ≤ k) (ha : k < a.length) : ZL f a b = 1:=by
 rw [ZdM fun j x y hx hy=>h j (Nat.lt_of_lt_of_le (List.getElem?_eq_some_iff.1 hy).1 hb) x y hx hy]
 unfold Y5; rw [if_neg (by omega),if_pos (by omega)]
theorem Zoz {α β : Type} {f : α → β → Int} {a : List α} {b : List β} {k : Nat} (h : ∀ j,j < k → ∀ x y,a[j]? = some x → b[j]? = some y → f x y = 0) (ha : a.length ≤ k) (hb : a.length < b.length) : ZL f a b = -1:=by
 rw [ZdM fun j x y hx hy=>h j (Nat.lt_of_lt_of_le (List.getElem?_eq_some_iff.1 hx).1 ha) x y hx hy]
 unfold Y5; rw [if_pos (by omega)]
theorem ZpX {α β : Type} {f : α → β → Int} {a : List α} {b : List β} {k : Nat} (h : ∀ j,j < k → ∀ x y,a[j]? = some x → b[j]? = some y → f x y = 0) (ha : a.length ≤ k) (hb : b.length ≤ a.length) (hk : k ≤ b.length) : ZL f a b = 0:=by
 rw [ZdM fun j x y hx hy=>h j (Nat.lt_of_lt_of_le (List.getElem?_eq_some_iff.1 hx).1 ha) x y hx hy]
 unfold Y5; rw [if_neg (by omega),if_neg (by omega)]
theorem Zl8 {l : List Int} {k : Nat} {x : Int} (h : ∀ j,j < k → ∀ x,l[j]? = some x → x = 0) (hk : l[k]? = some x) (hx : x ≠ 0) : Qf l = x:=by
 unfold Qf
 induction l generalizing k with
 | nil=>simp at hk
 | cons y l ih=>
  cases k with
  | zero=>simp at hk; subst hk; simp [hx]
  | succ k=>
   have h0:=h 0 (by omega) y rfl
   rw [List.find?_cons_of_neg (by simp [h0])]
   exact ih (k:=k) (fun j hj x hx=>h (j + 1) (by omega) x (by simpa using hx)) (by simpa using hk)
theorem Zil {l : List Int} {k : Nat} (h : ∀ j,j < k → ∀ x,l[j]? = some x → x = 0) (hk : l.length ≤ k) : Qf l = 0:=by
 unfold Qf
 rw [List.find?_eq_none.2 fun x hx=>by simp [ZpV h hk x hx]]; rfl
theorem ZpY (a b c : Int) : Qf [a,b,c] = if a ≠ 0 then a else if b ≠ 0 then b else c:=by
 unfold Qf
 by_cases ha : a = 0 <;> by_cases hb : b = 0 <;> by_cases hc : c = 0 <;> simp [List.find?,ha,hb,hc]
theorem ZeK (a b : Int) : Z0 (Y5 a b):=by unfold Y5; split <;> (try split) <;> constructor <;> decide
theorem Zl9 (a b : List UInt8) : Z0 (cmpS a b):=by unfold cmpS; split <;> (try split) <;> constructor <;> decide
theorem Zsn (x y : Val) : Z0 (cmpV x y):=by unfold cmpV; split <;> (try split) <;> first | exact ZeK _ _ | exact Zl9 _ _
theorem ZlA {α β : Type} {f : α → β → Int} (hf : ∀ x y,Z0 (f x y)) : ∀ (a : List α) (b : List β),Z0 (ZL f a b)
 | [],[]=>by simp [ZL]; exact ZP
 | [],_ :: _=>by simp [ZL]; constructor <;> decide
 | _ :: _,[]=>by simp [ZL]; constructor <;> decide
 | x :: a,y :: b=>by simp only [ZL]; split; exact hf _ _; exact ZlA hf a b
theorem Zso (a b : List Val) : Z0 (XL a b):=by unfold XL; split; exact ZlA Zsn _ _; exact ZP
theorem Zvs (x : Span) (h : -62135596800 ≤ x.a) (k : x.b ≤ 253402300800) : XD x = decide (x.a < x.b):=by
 unfold XD ZbW
 by_cases e : x.a < x.b <;> simp [e] <;> omega
section
open Go.RowKit
variable {P : Program} {N : Nat} {Q : Exit → Env → World → Prop} {ρ : Env} {w : World} {ops : Array Oper} {rest : List Oper} {K : Env → World → Prop}
variable {d : Nat} {ty : TypeId} {pos : String} {af : Array Edge} {g : Option (Nat × Bool)}
theorem Zh6 {t ty' : TypeId} {x y : Operand} {X Y : Array Value} {b : Bool} (h : ∀ w,(Op.equalIn 10000 t (.agg X) (.agg Y)).run P w = .ok b w) (hg : P.eqGuardType P.depth t = false)
  (hw : Region.wanted ⟨some d, .binOp .eql t x y ty',ty,pos,af,g⟩ (Zv ops ρ) = true) (hx : ev ρ x = .agg X) (hy : ev ρ y = .agg Y)
  (kk : K (ZB ρ d (.bool b)) w) : OW P ops ⟨some d, .binOp .eql t x y ty',ty,pos,af,g⟩ ρ w K:=by
 refine WL.val hw ?_ rfl kk
 simp [execOp,hx,hy,run_eqGuard_agg w _ t _ _ X Y hg,run_eql_struct,h,Result.andThen]
theorem Zdh {t ty' : TypeId} {x y : Operand} {X Y : Array Value} {b : Bool} (h : ∀ w,(Op.equalIn 10000 t (.agg X) (.agg Y)).run P w = .ok b w) (hg : P.eqGuardType P.depth t = false)
  (hw : Region.wanted ⟨some d, .binOp .neq t x y ty',ty,pos,af,g⟩ (Zv ops ρ) = true) (hx : ev ρ x = .agg X) (hy : ev ρ y = .agg Y)
  (kk : K (ZB ρ d (.bool (!b))) w) : OW P ops ⟨some d, .binOp .neq t x y ty',ty,pos,af,g⟩ ρ w K:=by
 refine WL.val hw ?_ rfl kk
 simp [execOp,hx,hy,run_eqGuard_agg w _ t _ _ X Y hg,run_neq_struct,h,Result.andThen]
theorem XV {t ty' : TypeId} {x y : Operand} {X Y : Array Value} {b : Bool} (r : Bool) (h : ∀ w,(Op.equalIn 10000 t (.agg X) (.agg Y)).run P w = .ok b w) (hg : P.eqGuardType P.depth t = false) (hr : (!b) = r)
  (hw : Region.wanted ⟨some d, .binOp .neq t x y ty',ty,pos,af,g⟩ (Zv ops ρ) = true) (hx : ev ρ x = .agg X) (hy : ev ρ y = .agg Y)
  (kk : K (ZB ρ d (.bool r)) w) : OW P ops ⟨some d, .binOp .neq t x y ty',ty,pos,af,g⟩ ρ w K:=by
 subst hr; exact Zdh h hg hw hx hy kk
end
end Go.Civ
namespace Go.Proofs
open Go.Shelf
def Tryz.sortSp_ren : Go.Shelf.Ren:=⟨fun | 6=>189 | 15=>167 | 14=>227 | 28=>208 | 29=>209 | 20=>254 | 21=>255 | 22=>256 | 23=>257 | 24=>258 | 25=>259 | 26=>260 | 27=>261 | 46=>270 | 47=>241 | 48=>242 | 49=>271 | 50=>272 | 57=>275 | n=>n,fun | 22=>71 | 24=>33 | 25=>227 | 3=>3 | 39=>207 | 0=>0 | 53=>243 | 55=>245 | 4=>4 | 46=>237 | 45=>236 | 50=>183 | 5=>5 | 9=>9 | 66=>264 | 70=>90 | 76=>281 | 77=>282 | n=>n,fun | n=>n⟩
theorem Tryz.sortSp : Go.Proofs.SlLaysF0.n6 Tryz.prog Tryz.sortSp_ren:={
 mixed:=by kernel_rfl
 f6:=⟨Tryz.f189.name,by decide,Tryz.func189.trans (congrArg some (by kernel_rfl))⟩
 f14:=⟨Tryz.f227.name,by decide,Tryz.func227.trans (congrArg some (by kernel_rfl))⟩
 f15:=Tryz.func167.trans (congrArg some (by kernel_rfl))
 f20:=⟨Tryz.f254.name,by decide,Tryz.func254.trans (congrArg some (by kernel_rfl))⟩
 f21:=⟨Tryz.f255.name,by decide,Tryz.func255.trans (congrArg some (by kernel_rfl))⟩
 f22:=⟨Tryz.f256.name,by decide,Tryz.func256.trans (congrArg some (by kernel_rfl))⟩
 f23:=⟨Tryz.f257.name,by decide,Tryz.func257.trans (congrArg some (by kernel_rfl))⟩
 f24:=⟨Tryz.f258.name,by decide,Tryz.func258.trans (congrArg some (by kernel_rfl))⟩
 f25:=⟨Tryz.f259.name,by decide,Tryz.func259.trans (congrArg some (by kernel_rfl))⟩
 f26:=⟨Tryz.f260.name,by decide,Tryz.func260.trans (congrArg some (by kernel_rfl))⟩
 f27:=⟨Tryz.f261.name,by decide,Tryz.func261.trans (congrArg some (by kernel_rfl))⟩
 f28:=Tryz.func208.trans (congrArg some (by kernel_rfl))
 f29:=Tryz.func209.trans (congrArg some (by kernel_rfl))
 f46:=⟨Tryz.f270.name,by decide,Tryz.func270.trans (congrArg some (by kernel_rfl))⟩
 f47:=Tryz.func241.trans (congrArg some (by kernel_rfl))
 f48:=Tryz.func242.trans (congrArg some (by kernel_rfl))
 f49:=⟨Tryz.f271.name,by decide,Tryz.func271.trans (congrArg some (by kernel_rfl))⟩
 f50:=⟨Tryz.f272.name,by decide,Tryz.func272.trans (congrArg some (by kernel_rfl))⟩
 f57:=⟨Tryz.f275.name,by decide,Tryz.func275.trans (congrArg some (by kernel_rfl))⟩
 t0:=Tryz.underlying0
 a0:=Tryz.isAgg0
 z0:=Tryz.sizeOf0
 v0:=Tryz.zeroValue0
 t3:=Tryz.underlying3
 a3:=Tryz.isAgg3
 z3:=Tryz.sizeOf3
 v3:=Tryz.zeroValue3
 t4:=Tryz.underlying4
 a4:=Tryz.isAgg4
 z4:=Tryz.sizeOf4
 v4:=Tryz.zeroValue4
 t5:=Tryz.underlying5
 a5:=Tryz.isAgg5
 z5:=Tryz.sizeOf5
 v5:=Tryz.zeroValue5
 t9:=Tryz.underlying9
 a9:=Tryz.isAgg9
 z9:=Tryz.sizeOf9
 v9:=Tryz.zeroValue9
 t22:=Tryz.underlying71
 a22:=Tryz.isAgg71
 z22:=Tryz.sizeOf71
 v22:=Tryz.zeroValue71
 t25:=Tryz.underlying227
 a25:=Tryz.isAgg227
 z25:=Tryz.sizeOf227
 v25:=Tryz.zeroValue227
 t39:=Tryz.underlying207
 a39:=Tryz.isAgg207
 z39:=Tryz.sizeOf207
 v39:=Tryz.zeroValue207
 t45:=Tryz.underlying236
 a45:=Tryz.isAgg236
 z45:=Tryz.sizeOf236
 v45:=Tryz.zeroValue236
 t46:=Tryz.underlying237
 a46:=Tryz.isAgg237
 z46:=Tryz.sizeOf237
 v46:=Tryz.zeroValue237
 t50:=Tryz.underlying183
 a50:=Tryz.isAgg183
 z50:=Tryz.sizeOf183
 v50:=Tryz.zeroValue183
 t53:=Tryz.underlying243
 a53:=Tryz.isAgg243
 z53:=Tryz.sizeOf243
 v53:=Tryz.zeroValue243
 t55:=Tryz.underlying245
 a55:=Tryz.isAgg245
 z55:=Tryz.sizeOf245
 v55:=Tryz.zeroValue245
 t66:=Tryz.underlying264
 a66:=Tryz.isAgg264
 z66:=Tryz.sizeOf264
 v66:=Tryz.zeroValue264
 t70:=Tryz.underlying90
 a70:=Tryz.isAgg90
 z70:=Tryz.sizeOf90
 v70:=Tryz.zeroValue90
 t76:=Tryz.underlying281
 a76:=Tryz.isAgg281
 z76:=Tryz.sizeOf281
 v76:=Tryz.zeroValue281
 t77:=Tryz.underlying282
 a77:=Tryz.isAgg282
 z77:=Tryz.sizeOf282
 v77:=Tryz.zeroValue282 }
def Tryz.sortGr_ren : Go.Shelf.Ren:=⟨fun | 6=>138 | 15=>167 | 14=>185 | 28=>208 | 29=>209 | 20=>218 | 21=>219 | 22=>220 | 23=>221 | 24=>222 | 25=>223 | 26=>224 | 27=>225 | 46=>251 | 47=>241 | 48=>242 | 49=>252 | 50=>253 | 57=>269 | n=>n,fun | 22=>133 | 24=>136 | 25=>185 | 3=>3 | 39=>207 | 0=>0 | 53=>243 | 55=>245 | 4=>4 | 46=>237 | 45=>236 | 50=>183 | 5=>5 | 9=>9 | 66=>264 | 70=>90 | 76=>281 | 77=>282 | n=>n,fun | n=>n⟩
theorem Tryz.sortGr : Go.Proofs.SlLaysF0.n6 Tryz.prog Tryz.sortGr_ren:={
 mixed:=by kernel_rfl
 f6:=⟨Tryz.f138.name,by decide,Tryz.func138.trans (congrArg some (by kernel_rfl))⟩
 f14:=⟨Tryz.f185.name,by decide,Tryz.func185.trans (congrArg some (by kernel_rfl))⟩
 f15:=Tryz.func167.trans (congrArg some (by kernel_rfl))
 f20:=⟨Tryz.f218.name,by decide,Tryz.func218.trans (congrArg some (by kernel_rfl))⟩
 f21:=⟨Tryz.f219.name,by decide,Tryz.func219.trans (congrArg some (by kernel_rfl))⟩
 f22:=⟨Tryz.f220.name,by decide,Tryz.func220.trans (congrArg some (by kernel_rfl))⟩
 f23:=⟨Tryz.f221.name,by decide,Tryz.func221.trans (congrArg some (by kernel_rfl))⟩
 f24:=⟨Tryz.f222.name,by decide,Tryz.func222.trans (congrArg some (by kernel_rfl))⟩
 f25:=⟨Tryz.f223.name,by decide,Tryz.func223.trans (congrArg some (by kernel_rfl))⟩
 f26:=⟨Tryz.f224.name,by decide,Tryz.func224.trans (congrArg some (by kernel_rfl))⟩
 f27:=⟨Tryz.f225.name,by decide,Tryz.func225.trans (congrArg some (by kernel_rfl))⟩
 f28:=Tryz.func208.trans (congrArg some (by kernel_rfl))
 f29:=Tryz.func209.trans (congrArg some (by kernel_rfl))
 f46:=⟨Tryz.f251.name,by decide,Tryz.func251.trans (congrArg some (by kernel_rfl))⟩
 f47:=Tryz.func241.trans (congrArg some (by kernel_rfl))
 f48:=Tryz.func242.trans (congrArg some (by kernel_rfl))
 f49:=⟨Tryz.f252.name,by decide,Tryz.func252.trans (congrArg some (by kernel_rfl))⟩
 f50:=⟨Tryz.f253.name,by decide,Tryz.func253.trans (congrArg some (by kernel_rfl))⟩
 f57:=⟨Tryz.f269.name,by decide,Tryz.func269.trans (congrArg some (by kernel_rfl))⟩
 t0:=Tryz.underlying0
 a0:=Tryz.isAgg0
 z0:=Tryz.sizeOf0
 v0:=Tryz.zeroValue0
 t3:=Tryz.underlying3
 a3:=Tryz.isAgg3
 z3:=Tryz.sizeOf3
 v3:=Tryz.zeroValue3
 t4:=Tryz.underlying4
 a4:=Tryz.isAgg4
 z4:=Tryz.sizeOf4
 v4:=Tryz.zeroValue4
 t5:=Tryz.underlying5
 a5:=Tryz.isAgg5
 z5:=Tryz.sizeOf5
 v5:=Tryz.zeroValue5
 t9:=Tryz.underlying9
 a9:=Tryz.isAgg9
 z9:=Tryz.sizeOf9
 v9:=Tryz.zeroValue9
 t22:=Tryz.underlying133
 a22:=Tryz.isAgg133
 z22:=Tryz.sizeOf133
 v22:=Tryz.zeroValue133
 t25:=Tryz.underlying185
 a25:=Tryz.isAgg185
 z25:=Tryz.sizeOf185
 v25:=Tryz.zeroValue185
 t39:=Tryz.underlying207
 a39:=Tryz.isAgg207
 z39:=Tryz.sizeOf207
 v39:=Tryz.zeroValue207
 t45:=Tryz.underlying236
 a45:=Tryz.isAgg236
 z45:=Tryz.sizeOf236
 v45:=Tryz.zeroValue236
 t46:=Tryz.underlying237
 a46:=Tryz.isAgg237
 z46:=Tryz.sizeOf237
 v46:=Tryz.zeroValue237
 t50:=Tryz.underlying183
 a50:=Tryz.isAgg183
 z50:=Tryz.sizeOf183
 v50:=Tryz.zeroValue183
 t53:=Tryz.underlying243
 a53:=Tryz.isAgg243
 z53:=Tryz.sizeOf243
 v53:=Tryz.zeroValue243
 t55:=Tryz.underlying245
 a55:=Tryz.isAgg245
 z55:=Tryz.sizeOf245
 v55:=Tryz.zeroValue245
 t66:=Tryz.underlying264
 a66:=Tryz.isAgg264
 z66:=Tryz.sizeOf264
 v66:=Tryz.zeroValue264
 t70:=Tryz.underlying90
 a70:=Tryz.isAgg90
 z70:=Tryz.sizeOf90
 v70:=Tryz.zeroValue90
 t76:=Tryz.underlying281
 a76:=Tryz.isAgg281
 z76:=Tryz.sizeOf281
 v76:=Tryz.zeroValue281
 t77:=Tryz.underlying282
 a77:=Tryz.isAgg282
 z77:=Tryz.sizeOf282
 v77:=Tryz.zeroValue282 }
def Tryz.sortPt_ren : Go.Shelf.Ren:=⟨fun | 6=>116 | 15=>167 | 14=>166 | 28=>208 | 29=>209 | 20=>200 | 21=>201 | 22=>202 | 23=>203 | 24=>204 | 25=>205 | 26=>206 | 27=>207 | 46=>240 | 47=>241 | 48=>242 | 49=>243 | 50=>244 | 57=>267 | n=>n,fun | 22=>160 | 24=>105 | 25=>164 | 3=>3 | 39=>207 | 0=>0 | 53=>243 | 55=>245 | 4=>4 | 46=>237 | 45=>236 | 50=>183 | 5=>5 | 9=>9 | 66=>264 | 70=>90 | 76=>281 | 77=>282 | n=>n,fun | n=>n⟩
theorem Tryz.sortPt : Go.Proofs.SlLaysF0.n6 Tryz.prog Tryz.sortPt_ren:={
 mixed:=by kernel_rfl
 f6:=⟨Tryz.f116.name,by decide,Tryz.func116.trans (congrArg some (by kernel_rfl))⟩
 f14:=⟨Tryz.f166.name,by decide,Tryz.func166.trans (congrArg some (by kernel_rfl))⟩
 f15:=Tryz.func167.trans (congrArg some (by kernel_rfl))
 f20:=⟨Tryz.f200.name,by decide,Tryz.func200.trans (congrArg some (by kernel_rfl))⟩
 f21:=⟨Tryz.f201.name,by decide,Tryz.func201.trans (congrArg some (by kernel_rfl))⟩
 f22:=⟨Tryz.f202.name,by decide,Tryz.func202.trans (congrArg some (by kernel_rfl))⟩
 f23:=⟨Tryz.f203.name,by decide,Tryz.func203.trans (congrArg some (by kernel_rfl))⟩
 f24:=⟨Tryz.f204.name,by decide,Tryz.func204.trans (congrArg some (by kernel_rfl))⟩
 f25:=⟨Tryz.f205.name,by decide,Tryz.func205.trans (congrArg some (by kernel_rfl))⟩
 f26:=⟨Tryz.f206.name,by decide,Tryz.func206.trans (congrArg some (by kernel_rfl))⟩
 f27:=⟨Tryz.f207.name,by decide,Tryz.func207.trans (congrArg some (by kernel_rfl))⟩
 f28:=Tryz.func208.trans (congrArg some (by kernel_rfl))
 f29:=Tryz.func209.trans (congrArg some (by kernel_rfl))
 f46:=⟨Tryz.f240.name,by decide,Tryz.func240.trans (congrArg some (by kernel_rfl))⟩
 f47:=Tryz.func241.trans (congrArg some (by kernel_rfl))
 f48:=Tryz.func242.trans (congrArg some (by kernel_rfl))
 f49:=⟨Tryz.f243.name,by decide,Tryz.func243.trans (congrArg some (by kernel_rfl))⟩
 f50:=⟨Tryz.f244.name,by decide,Tryz.func244.trans (congrArg some (by kernel_rfl))⟩
 f57:=⟨Tryz.f267.name,by decide,Tryz.func267.trans (congrArg some (by kernel_rfl))⟩
 t0:=Tryz.underlying0
 a0:=Tryz.isAgg0
 z0:=Tryz.sizeOf0
 v0:=Tryz.zeroValue0
 t3:=Tryz.underlying3
 a3:=Tryz.isAgg3
 z3:=Tryz.sizeOf3
 v3:=Tryz.zeroValue3
 t4:=Tryz.underlying4
 a4:=Tryz.isAgg4
 z4:=Tryz.sizeOf4
 v4:=Tryz.zeroValue4
 t5:=Tryz.underlying5
 a5:=Tryz.isAgg5
 z5:=Tryz.sizeOf5
 v5:=Tryz.zeroValue5
 t9:=Tryz.underlying9
 a9:=Tryz.isAgg9
 z9:=Tryz.sizeOf9
 v9:=Tryz.zeroValue9
 t22:=Tryz.underlying160
 a22:=Tryz.isAgg160
 z22:=Tryz.sizeOf160
 v22:=Tryz.zeroValue160
 t25:=Tryz.underlying164
 a25:=Tryz.isAgg164
 z25:=Tryz.sizeOf164
 v25:=Tryz.zeroValue164
 t39:=Tryz.underlying207
 a39:=Tryz.isAgg207
 z39:=Tryz.sizeOf207
 v39:=Tryz.zeroValue207
 t45:=Tryz.underlying236
 a45:=Tryz.isAgg236
 z45:=Tryz.sizeOf236
 v45:=Tryz.zeroValue236
 t46:=Tryz.underlying237
 a46:=Tryz.isAgg237
 z46:=Tryz.sizeOf237
 v46:=Tryz.zeroValue237
 t50:=Tryz.underlying183
 a50:=Tryz.isAgg183
 z50:=Tryz.sizeOf183
 v50:=Tryz.zeroValue183
 t53:=Tryz.underlying243
 a53:=Tryz.isAgg243
 z53:=Tryz.sizeOf243
 v53:=Tryz.zeroValue243
 t55:=Tryz.underlying245
 a55:=Tryz.isAgg245
 z55:=Tryz.sizeOf245
 v55:=Tryz.zeroValue245
 t66:=Tryz.underlying264
 a66:=Tryz.isAgg264
 z66:=Tryz.sizeOf264
 v66:=Tryz.zeroValue264
 t70:=Tryz.underlying90
 a70:=Tryz.isAgg90
 z70:=Tryz.sizeOf90
 v70:=Tryz.zeroValue90
 t76:=Tryz.underlying281
 a76:=Tryz.isAgg281
 z76:=Tryz.sizeOf281
 v76:=Tryz.zeroValue281
 t77:=Tryz.underlying282
 a77:=Tryz.isAgg282
 z77:=Tryz.sizeOf282
 v77:=Tryz.zeroValue282 }
def Tryz.laysSort_ren : Go.Shelf.Ren:=⟨fun | 189=>145 | 125=>167 | 257=>192 | 128=>208 | 129=>209 | 294=>228 | 295=>229 | 296=>230 | 297=>231 | 298=>232 | 299=>233 | 216=>234 | 300=>235 | 301=>236 | 328=>262 | 329=>241 | 330=>242 | 331=>263 | 332=>264 | 215=>210 | 343=>273 | n=>n,fun | 28=>113 | 3=>3 | 46=>207 | 0=>0 | 51=>243 | 53=>245 | 4=>4 | 183=>237 | 182=>236 | 131=>183 | 5=>5 | 9=>9 | 218=>264 | 222=>90 | 228=>281 | 229=>282 | n=>n,fun | n=>n⟩
theorem Tryz.laysSort : Go.Proofs.Lays.n189 Tryz.prog Tryz.laysSort_ren:={
 mixed:=by kernel_rfl
 f125:=Tryz.func167.trans (congrArg some (by kernel_rfl))
 f128:=Tryz.func208.trans (congrArg some (by kernel_rfl))
 f129:=Tryz.func209.trans (congrArg some (by kernel_rfl))
 f189:=Tryz.func145.trans (congrArg some (by kernel_rfl))
 f215:=Tryz.func210.trans (congrArg some (by kernel_rfl))
 f216:=Tryz.func234.trans (congrArg some (by kernel_rfl))
 f257:=Tryz.func192.trans (congrArg some (by kernel_rfl))
 f294:=Tryz.func228.trans (congrArg some (by kernel_rfl))
 f295:=Tryz.func229.trans (congrArg some (by kernel_rfl))
 f296:=Tryz.func230.trans (congrArg some (by kernel_rfl))
 f297:=Tryz.func231.trans (congrArg some (by kernel_rfl))
 f298:=Tryz.func232.trans (congrArg some (by kernel_rfl))
 f299:=Tryz.func233.trans (congrArg some (by kernel_rfl))
 f300:=Tryz.func235.trans (congrArg some (by kernel_rfl))
 f301:=Tryz.func236.trans (congrArg some (by kernel_rfl))
 f328:=Tryz.func262.trans (congrArg some (by kernel_rfl))
 f329:=Tryz.func241.trans (congrArg some (by kernel_rfl))
 f330:=Tryz.func242.trans (congrArg some (by kernel_rfl))
 f331:=Tryz.func263.trans (congrArg some (by kernel_rfl))
 f332:=Tryz.func264.trans (congrArg some (by kernel_rfl))
 f343:=Tryz.func273.trans (congrArg some (by kernel_rfl))
 t0:=Tryz.underlying0
 a0:=Tryz.isAgg0
 z0:=Tryz.sizeOf0
 v0:=Tryz.zeroValue0
 t3:=Tryz.underlying3
 a3:=Tryz.isAgg3
 z3:=Tryz.sizeOf3
 v3:=Tryz.zeroValue3
 t4:=Tryz.underlying4
 a4:=Tryz.isAgg4
 z4:=Tryz.sizeOf4
 v4:=Tryz.zeroValue4
 t5:=Tryz.underlying5
 a5:=Tryz.isAgg5
 z5:=Tryz.sizeOf5
 v5:=Tryz.zeroValue5
 t9:=Tryz.underlying9
 a9:=Tryz.isAgg9
 z9:=Tryz.sizeOf9
 v9:=Tryz.zeroValue9
 t28:=Tryz.underlying113
 a28:=Tryz.isAgg113
 z28:=Tryz.sizeOf113
 v28:=Tryz.zeroValue113
 t46:=Tryz.underlying207
 a46:=Tryz.isAgg207
 z46:=Tryz.sizeOf207
 v46:=Tryz.zeroValue207
 t51:=Tryz.underlying243
 a51:=Tryz.isAgg243
 z51:=Tryz.sizeOf243
 v51:=Tryz.zeroValue243
 t53:=Tryz.underlying245
 a53:=Tryz.isAgg245
 z53:=Tryz.sizeOf245
 v53:=Tryz.zeroValue245
 t131:=Tryz.underlying183
 a131:=Tryz.isAgg183
 z131:=Tryz.sizeOf183
 v131:=Tryz.zeroValue183
 t182:=Tryz.underlying236
 a182:=Tryz.isAgg236
 z182:=Tryz.sizeOf236
 v182:=Tryz.zeroValue236
 t183:=Tryz.underlying237
 a183:=Tryz.isAgg237
 z183:=Tryz.sizeOf237
 v183:=Tryz.zeroValue237
 t218:=Tryz.underlying264
 a218:=Tryz.isAgg264
 z218:=Tryz.sizeOf264
 v218:=Tryz.zeroValue264
 t222:=Tryz.underlying90
 a222:=Tryz.isAgg90
 z222:=Tryz.sizeOf90
 v222:=Tryz.zeroValue90
 t228:=Tryz.underlying281
 a228:=Tryz.isAgg281
 z228:=Tryz.sizeOf281
 v228:=Tryz.zeroValue281
 t229:=Tryz.underlying282
 a229:=Tryz.isAgg282
 z229:=Tryz.sizeOf282
 v229:=Tryz.zeroValue282 }
end Go.Proofs
