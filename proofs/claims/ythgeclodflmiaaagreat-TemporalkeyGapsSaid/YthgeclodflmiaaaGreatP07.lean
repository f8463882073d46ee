/- Lemmas. -/
import Derived.Test.YthgeclodflmiaaaGreatP06
import Derived.Laws.StructEq
import Derived.Laws.Cover3
namespace Go.Civ
set_option linter.unusedVariables false
def Y2 (a b : Int) : Int:=if a < b then -1 else if b < a then 1 else 0
def Qh (l : List Int) : Int:=(l.find? fun x=>decide (x ≠ 0)).getD 0
def cmpS (a b : List UInt8) : Int:=if Op.bytesLess a b then -1 else if a = b then 0 else 1
def cmpV (x y : Val) : Int:=if Y2 x.k y.k ≠ 0 then Y2 x.k y.k else if Y2 x.n y.n ≠ 0 then Y2 x.n y.n else cmpS x.s y.s
def okC (c : UInt8) : Bool:=decide (32 ≤ c.toNat) && decide (c.toNat ≤ 126)
def Z9 (x : Val) : Bool:=
 if x.k = 1 then decide (x.s = [])
 else if x.k = 2 then decide (x.n = 0) && decide (x.s.length ≤ 30) && x.s.all okC
 else if x.k = 3 then decide (x.s = []) && (decide (x.n = 0) || decide (x.n = 1))
 else if x.k = 4 then decide (x.s = []) && decide (-62135596800 ≤ x.n) && decide (x.n ≤ 253402300800)
 else false
def Yi {α β : Type} (f : α → β → Int) : List α → List β → Int
 | [],[]=>0
 | [],_ :: _=>-1
 | _ :: _,[]=>1
 | x :: a,y :: b=>if f x y ≠ 0 then f x y else Yi f a b
def YU (a b : List Val) : Int:=if a.all Z9 && b.all Z9 then Yi cmpV a b else 0
def Q0 {α β : Type} (f : α → β → Bool) : List α → List β → Bool
 | [],[]=>true
 | x :: a,y :: b=>f x y && Q0 f a b
 | _,_=>false
def Zaz (x : Int) : Bool:=decide (-4398046511104 ≤ x) && decide (x ≤ 4398046511104)
def YM (s : Span) : Bool:=Zaz s.a && Zaz s.b && decide (s.a < s.b)
def ZC (s : Span) : Bool:=decide (-62135596800 ≤ s.a) && decide (s.a < s.b) && decide (s.b ≤ 253402300800)
def Zqm (s : Span) (x : Int) : Bool:=YM s && decide (s.a ≤ x) && decide (x < s.b)
def Zrm (a b : List Val) : Bool:=Q0 (fun x y=>decide (x.k = y.k)) a b
def Zs9 (v : List Val) (f : Fact) : Bool:=ZC f.t && decide (f.v.length ≤ 8) && Zrm f.v v && f.v.all Z9
def Zrn (l : List Fact) : Bool:=decide (l.length ≤ 1000) && l.all fun f=>Zs9 (l.head?.elim [] Fact.v) f
theorem ZgP {G : GH} (x : Col) (h1 : x.name.length ≤ reach) (h2 : Zy x.kind) : ColE.rep G x [Zd x.name, .int .i64 x.kind]:=⟨_,_,rfl,⟨rfl,h1⟩,rfl,h2⟩
theorem ZS.bound {α : Type} {E : Enc α} {by_ : Nat} {e : TypeId} {G : GH} {v : Value} {l : List α} {o : Option (Nat × TypeId × List Value)} (h : ZS E by_ e G v l o) : l.length ≤ reach:=by
 rcases h with ⟨_,_,rfl⟩ | ⟨b,cs,cap,xs,_,_,_,_,_,_,_,_,h9⟩
 ·simp [reach]
 ·exact h9
theorem YV {α : Type} {P : α → Prop} {l : List α} {k : Nat} {y : α} (h : ∀ j,j < k → ∀ x,l[j]? = some x → P x) (hk : l[k]? = some y) (hy : P y) : ∀ j,j < k + 1 → ∀ x,l[j]? = some x → P x:=fun j hj x hx=>by
 by_cases e : j = k
 ·subst e; rw [hk] at hx; obtain rfl:=Option.some.inj hx; exact hy
 ·exact h j (by omega) x hx
theorem Za2 {α β : Type} {P : α → β → Prop} {a : List α} {b : List β} {k : Nat} {u : α} {v : β} (h : ∀ j,j < k → ∀ x y,a[j]? = some x → b[j]? = some y → P x y) (hk : a[k]? = some u) (hk' : b[k]? = some v) (hy : P u v) : ∀ j,j < k + 1 → ∀ x y,a[j]? = some x → b[j]? = some y → P x y:=fun j hj x y hx hy'=>by
 by_cases e : j = k
 ·subst e; rw [hk] at hx; rw [hk'] at hy'; obtain rfl:=Option.some.inj hx; obtain rfl:=Option.some.inj hy'; exact hy
 ·exact h j (by omega) x y hx hy'
theorem Zme {α : Type} {P : α → Prop} {l : List α} {k : Nat} (h : ∀ j,j < k → ∀ x,l[j]? = some x → P x) (hk : l.length ≤ k) : ∀ x ∈ l,P x:=fun x hx=>by
 obtain ⟨j,hj⟩:=List.getElem?_of_mem hx
 exact h j (Nat.lt_of_lt_of_le (List.getElem?_eq_some_iff.1 hj).1 hk) x hj
theorem Q7 {α : Type} {p : α → Bool} {l : List α} {k : Nat} (h : ∀ j,j < k → ∀ x,l[j]? = some x → p x = false) (hk : l.length ≤ k) : Q6 p l = -1:=
 Zmd fun j x hj=>h j (Nat.lt_of_lt_of_le (List.getElem?_eq_some_iff.1 hj).1 hk) x hj
theorem Zec {α : Type} {p : α → Bool} {l : List α} {k : Nat} {x : α} (hk : l[k]? = some x) (hx : p x = false) : l.all p = false:=by
 rw [List.all_eq_false]; exact ⟨x,List.mem_of_getElem? hk,by simp [hx]⟩
theorem Ye {α : Type} {p : α → Bool} {l : List α} {k : Nat} (h : ∀ j,j < k → ∀ x,l[j]? = some x → p x = true) (hk : l.length ≤ k) : l.all p = true:=by
 rw [List.all_eq_true]; exact Zme h hk
theorem Zkn {α : Type} (p : α → Bool) (l : List α) : (!l.any fun x=>!p x) = l.all p:=by simp [List.any_eq_not_all_not]
theorem Zag {α β : Type} {f : α → β → Bool} : ∀ {a : List α} {b : List β},a.length ≠ b.length → Q0 f a b = false
 | [],[],h=>absurd rfl h
 | x :: a,y :: b,h=>by simp only [Q0]; rw [Zag (by simpa using h)]; simp
 | [],_ :: _,_=>rfl
 | _ :: _,[],_=>rfl
theorem ZaG {α β : Type} {f : α → β → Bool} : ∀ {a : List α} {b : List β} {k : Nat} {x : α} {y : β},a[k]? = some x → b[k]? = some y → f x y = false → Q0 f a b = false
 | u :: a,v :: b,0,x,y,h1,h2,h=>by simp at h1 h2; subst h1 h2; simp [Q0,h]
 | u :: a,v :: b,k + 1,x,y,h1,h2,h=>by simp only [Q0]; rw [ZaG (k:=k) (by simpa using h1) (by simpa using h2) h]; simp
 | [],_,_,_,_,h1,_,_=>by simp at h1
 | _ :: _,[],_,_,_,_,h2,_=>by simp at h2
theorem Zko {α β : Type} {f : α → β → Bool} : ∀ {a : List α} {b : List β},a.length = b.length → (∀ (j : Nat) x y,a[j]? = some x → b[j]? = some y → f x y = true) → Q0 f a b = true
 | [],[],_,_=>rfl
 | x :: a,y :: b,h,k=>by
  simp only [Q0,Bool.and_eq_true]
  exact ⟨k 0 x y rfl rfl,Zko (by simpa using h) fun j u v hu hv=>k (j + 1) u v (by simpa using hu) (by simpa using hv)⟩
theorem Za5 {α β : Type} {f : α → β → Bool} {a : List α} {b : List β} {k : Nat} (hl : a.length = b.length) (h : ∀ j,j < k → ∀ x y,a[j]? = some x → b[j]? = some y → f x y = true) (hk : a.length ≤ k) : Q0 f a b = true:=
 Zko hl fun j x y hx hy=>h j (Nat.lt_of_lt_of_le (List.getElem?_eq_some_iff.1 hx).1 hk) x y hx hy
theorem Qi {α : Type} [DecidableEq α] : ∀ {a b : List α},Q0 (fun x y=>decide (x = y)) a b = decide (a = b)
 | [],[]=>by simp [Q0]
 | x :: a,y :: b=>by simp only [Q0]; rw [Qi]; simp [Bool.decide_and]
 | [],_ :: _=>by simp [Q0]
 | _ :: _,[]=>by simp [Q0]
theorem Zkp {α β : Type} {f : α → β → Int} : ∀ {a : List α} {b : List β} {k : Nat} {x : α} {y : β},(∀ j,j < k → ∀ x y,a[j]? = some x → b[j]? = some y → f x y = 0) → a[k]? = some x → b[k]? = some y → f x y ≠ 0 → Yi f a b = f x y
 | u :: a,v :: b,0,x,y,_,h1,h2,h=>by simp at h1 h2; subst h1 h2; simp [Yi,h]
 | u :: a,v :: b,k + 1,x,y,h0,h1,h2,h=>by
  simp only [Yi]
  rw [if_neg (by simpa using h0 0 (by omega) u v rfl rfl)]
  exact Zkp (k:=k) (fun j hj x y hx hy=>h0 (j + 1) (by omega) x y (by simpa using hx) (by simpa using hy)) (by simpa using h1) (by simpa using h2) h
 | [],_,_,_,_,_,h1,_,_=>by simp at h1
 | _ :: _,[],_,_,_,_,_,h2,_=>by simp at h2
theorem Zdp {α β : Type} {f : α → β → Int} : ∀ {a : List α} {b : List β},(∀ (j : Nat) x y,a[j]? = some x → b[j]? = some y → f x y = 0) → Yi f a b = Y2 a.length b.length
 | [],[],_=>by simp [Yi,Y2]
 | [],_ :: _,_=>by simp only [Yi,Y2,List.length_nil,List.length_cons]; rw [if_pos (by omega)]
 | _ :: _,[],_=>by simp only [Yi,Y2,List.length_nil,List.length_cons]; rw [if_neg (by omega),if_pos (by omega)]
 | x :: a,y :: b,h=>by
  simp only [Yi]
  rw [if_neg (by simpa using h 0 x y rfl rfl),Zdp fun j u v hu hv=>h (j + 1) u v (by simpa using hu) (by simpa using hv)]
  unfold Y2; simp only [List.length_cons]; split <;> split <;> (try split) <;> (try split) <;> omega
theorem Zmf {α β : Type} {f : α → β → Int} {a : List α} {b : List β} {k : Nat} (h : ∀ j,j < k → ∀ x y,a[j]? = some x → b[j]? = some y → f x y = 0) (hb : b.length ≤ k) (ha : k < a.length) : Yi f a b = 1:=by
 rw [Zdp fun j x y hx hy=>h j (Nat.lt_of_lt_of_le (List.getElem?_eq_some_iff.1 hy).1 hb) x y hx hy]
 unfold Y2; rw [if_neg (by omega),if_pos (by omega)]
theorem ZkT {α β : Type} {f : α → β → Int} {a : List α} {b : List β} {k : Nat} (h : ∀ j,j < k → ∀ x y,a[j]? = some x → b[j]? = some y → f x y = 0) (ha : a.length ≤ k) (hb : a.length < b.length) : Yi f a b = -1:=by
 rw [Zdp fun j x y hx hy=>h j (Nat.lt_of_lt_of_le (List.getElem?_eq_some_iff.1 hx).1 ha) x y hx hy]
 unfold Y2; rw [if_pos (by omega)]
theorem Zmg {α β : Type} {f : α → β → Int} {a : List α} {b : List β} {k : Nat} (h : ∀ j,j < k → ∀ x y,a[j]? = some x → b[j]? = some y → f x y = 0) (ha : a.length ≤ k) (hb : b.length ≤ a.length) (hk : k ≤ b.length) : Yi f a b = 0:=by
 rw [Zdp fun j x y hx hy=>h j (Nat.lt_of_lt_of_le (List.getElem?_eq_some_iff.1 hx).1 ha) x y hx hy]
 unfold Y2; rw [if_neg (by omega),if_neg (by omega)]
theorem ZiC {l : List Int} {k : Nat} {x : Int} (h : ∀ j,j < k → ∀ x,l[j]? = some x → x = 0) (hk : l[k]? = some x) (hx : x ≠ 0) : Qh l = x:=by
 unfold Qh
 induction l generalizing k with
 | nil=>simp at hk
 | cons y l ih=>
  cases k with
  | zero=>simp at hk; subst hk; simp [hx]
  | succ k=>
   have h0:=h 0 (by omega) y rfl
   rw [List.find?_cons_of_neg (by simp [h0])]
   exact ih (k:=k) (fun j hj x hx=>h (j + 1) (by omega) x (by simpa using hx)) (by simpa using hk)
theorem ZfV {l : List Int} {k : Nat} (h : ∀ j,j < k → ∀ x,l[j]? = some x → x = 0) (hk : l.length ≤ k) : Qh l = 0:=by
 unfold Qh
 rw [List.find?_eq_none.2 fun x hx=>by simp [Zme h hk x hx]]; rfl
theorem Zmh (a b c : Int) : Qh [a,b,c] = if a ≠ 0 then a else if b ≠ 0 then b else c:=by
 unfold Qh
 by_cases ha : a = 0 <;> by_cases hb : b = 0 <;> by_cases hc : c = 0 <;> simp [List.find?,ha,hb,hc]
theorem ZcX (a b : Int) : Zy (Y2 a b):=by unfold Y2; split <;> (try split) <;> constructor <;> decide
theorem ZiD (a b : List UInt8) : Zy (cmpS a b):=by unfold cmpS; split <;> (try split) <;> constructor <;> decide
theorem ZnU (x y : Val) : Zy (cmpV x y):=by unfold cmpV; split <;> (try split) <;> first | exact ZcX _ _ | exact ZiD _ _
theorem ZiE {α β : Type} {f : α → β → Int} (hf : ∀ x y,Zy (f x y)) : ∀ (a : List α) (b : List β),Zy (Yi f a b)
 | [],[]=>by simp [Yi]; exact ZN
 | [],_ :: _=>by simp [Yi]; constructor <;> decide
 | _ :: _,[]=>by simp [Yi]; constructor <;> decide
 | x :: a,y :: b=>by simp only [Yi]; split; exact hf _ _; exact ZiE hf a b
theorem ZnV (a b : List Val) : Zy (YU a b):=by unfold YU; split; exact ZiE ZnU _ _; exact ZN
theorem Zqn (x : Span) (h : -62135596800 ≤ x.a) (k : x.b ≤ 253402300800) : YM x = decide (x.a < x.b):=by
 unfold YM Zaz
 by_cases e : x.a < x.b <;> simp [e] <;> omega
section
open Go.RowKit
variable {P : Program} {N : Nat} {Q : Exit → Env → World → Prop} {ρ : Env} {w : World} {ops : Array Oper} {rest : List Oper} {K : Env → World → Prop}
variable {d : Nat} {ty : TypeId} {pos : String} {af : Array Edge} {g : Option (Nat × Bool)}
theorem Zdq {t ty' : TypeId} {x y : Operand} {X Y : Array Value} {b : Bool} (h : ∀ w,(Op.equalIn 10000 t (.agg X) (.agg Y)).run P w = .ok b w) (hg : P.eqGuardType P.depth t = false)
  (hw : Region.wanted ⟨some d, .binOp .eql t x y ty',ty,pos,af,g⟩ (Zo ops ρ) = true) (hx : ev ρ x = .agg X) (hy : ev ρ y = .agg Y)
  (kk : K (Z6 ρ d (.bool b)) w) : OW P ops ⟨some d, .binOp .eql t x y ty',ty,pos,af,g⟩ ρ w K:=by
 refine WL.val hw ?_ rfl kk
 simp [execOp,hx,hy,run_eqGuard_agg w _ t _ _ X Y hg,run_eql_struct,h,Result.andThen]
theorem Zmi {t ty' : TypeId} {x y : Operand} {X Y : Array Value} {b : Bool} (h : ∀ w,(Op.equalIn 10000 t (.agg X) (.agg Y)).run P w = .ok b w) (hg : P.eqGuardType P.depth t = false)
  (hw : Region.wanted ⟨some d, .binOp .neq t x y ty',ty,pos,af,g⟩ (Zo ops ρ) = true) (hx : ev ρ x = .agg X) (hy : ev ρ y = .agg Y)
  (kk : K (Z6 ρ d (.bool (!b))) w) : OW P ops ⟨some d, .binOp .neq t x y ty',ty,pos,af,g⟩ ρ w K:=by
 refine WL.val hw ?_ rfl kk
 simp [execOp,hx,hy,run_eqGuard_agg w _ t _ _ X Y hg,run_neq_struct,h,Result.andThen]
theorem Zah {t ty' : TypeId} {x y : Operand} {X Y : Array Value} {b : Bool} (r : Bool) (h : ∀ w,(Op.equalIn 10000 t (.agg X) (.agg Y)).run P w = .ok b w) (hg : P.eqGuardType P.depth t = false) (hr : (!b) = r)
  (hw : Region.wanted ⟨some d, .binOp .neq t x y ty',ty,pos,af,g⟩ (Zo ops ρ) = true) (hx : ev ρ x = .agg X) (hy : ev ρ y = .agg Y)
  (kk : K (Z6 ρ d (.bool r)) w) : OW P ops ⟨some d, .binOp .neq t x y ty',ty,pos,af,g⟩ ρ w K:=by
 subst hr; exact Zmi h hg hw hx hy kk
end
end Go.Civ
namespace Go.Civ
open Go.RowKit
set_option linter.unusedVariables false
abbrev OB:=Option (Nat × TypeId × List Value)
def blk : OB → List Nat | none=>[] | some p=>[p.1]
def ZeO (w w' : World) (G : GH) (o : OB) : Prop:=∀ p,o = some p → w.heap.size ≤ p.1 ∧ w'.heap[p.1]? = some (Zac p.2) ∧ G p.1 = none
def QW (w : World) (G : GH) (o : OB) : Prop:=∀ p,o = some p → w.heap[p.1]? = some (Zac p.2) ∧ G p.1 = none
theorem FnI2.up {P : Program} {α β : Type} {A : GH → Value → α → Prop} {B : GH → Value → β → Prop} {fid : Nat} {cap : Array Value} {G G' : GH} {on : α → β → Prop} {pf : α → β → Int} (h : FnI2 P A B fid cap G on pf) (k : G.le G') : FnI2 P A B fid cap G' on pf:=
 ⟨h.body,fun G2 w' v u x y hle=>h.call G2 w' v u x y (k.trans hle)⟩
theorem FnB2.up {P : Program} {α β : Type} {A : GH → Value → α → Prop} {B : GH → Value → β → Prop} {fid : Nat} {cap : Array Value} {G G' : GH} {on : α → β → Prop} {pf : α → β → Bool} (h : FnB2 P A B fid cap G on pf) (k : G.le G') : FnB2 P A B fid cap G' on pf:=
 ⟨h.body,fun G2 w' v u x y hle=>h.call G2 w' v u x y (k.trans hle)⟩
section
variable {w0 w w' : World} {X : List Nat} {G0 G G' : GH} {L : Own} {o : OB}
theorem St.freshAt (h : St w0 [] G0 G L w) (i : Nat) (hi : L[i]? = some o) : ZeO w0 w G o:=fun p hp=>by
 subst hp; exact ⟨h.mine hi,h.own i p hi,(h.sep i p hi).2⟩
theorem St.lentAt (h : St w0 X G0 G L w) (i : Nat) (hi : L[i]? = some o) : QW w G o:=fun p hp=>by
 subst hp; exact ⟨h.own i p hi,(h.sep i p hi).2⟩
theorem St.adoptO (h : St w0 X G0 G L w) (r : Res [] w G w' G') (ho : ZeO w w' G' o) : St w0 X G0 G' (o :: L) w':=by
 cases o with
 | none=>exact (h.call r).pad
 | some p=>
  obtain ⟨b,e,cs⟩:=p
  obtain ⟨h1,h2,h3⟩:=ho _ rfl
  exact h.adopt r h2 h1 h3
theorem St.callRow (h : St w0 X G0 G L w) (i : Nat) (hi : L[i]? = some o) {o' : OB} (r : Res (blk o) w G w' G') {α : Type} {E : Enc α} {by_ : Nat} {e : TypeId} {v : Value} {l l' : List α}
  (h1 : ZS E by_ e G v l o) (h2 : ZS E by_ e G' v l' o') (hl : QW w' G' o') : St w0 X G0 G' (L.set i o') w':=by
 rcases h1 with ⟨rfl,rfl,rfl⟩ | ⟨b,cs,cap,xs,rfl,rfl,_⟩
 ·rcases h2 with ⟨rfl,_,rfl⟩ | ⟨b,cs,cap,xs,rfl,hv,_⟩
  ·exact (h.call r).drop i
  ·simp at hv
 ·rcases h2 with ⟨rfl,hv,rfl⟩ | ⟨b',cs',cap',xs',rfl,hv,_⟩
  ·simp at hv
  ·simp at hv
   obtain ⟨rfl,_⟩:=hv
   exact h.callX i hi cs' r (hl _ rfl).1
theorem ZS.cells1 {α : Type} {E : Enc α} {by_ : Nat} {e : TypeId} {v : Value} {l : List α} (h : ZS E by_ e G v l o) : v.cells = [v].toArray:=by obtain ⟨a,cap,rfl⟩:=h.shape; rfl
theorem ElPtr.inj {α : Type} {E : Enc α} {v : Value} {n : Nat} {p q : Addr} (h : ElPtr E v n p) (k : ElPtr E v n q) : p = q:=by
 obtain ⟨a,l,c,rfl,_,rfl⟩:=h.ex
 obtain ⟨a',l',c',e,_,rfl⟩:=k.ex
 simp at e; rw [e.1]
theorem Sl.oneC {α : Type} {E : Enc α} {by_ : Nat} {v : Value} {l : List α} (h : Sl E by_ G v l) : v.oneCell' = true:=by obtain ⟨a,cap,rfl,_⟩:=h; rfl
theorem ZS.oneC {α : Type} {E : Enc α} {by_ : Nat} {e : TypeId} {v : Value} {l : List α} (h : ZS E by_ e G v l o) : v.oneCell' = true:=by obtain ⟨a,cap,rfl⟩:=h.shape; rfl
theorem ZS.len {α : Type} {E : Enc α} {by_ : Nat} {e : TypeId} {v : Value} {l l' : List α} {o' : OB} (h1 : ZS E by_ e G v l o) (h2 : ZS E by_ e G' v l' o') : l'.length = l.length:=by
 obtain ⟨a,c,h⟩:=h1.shape
 obtain ⟨a',c',h'⟩:=h2.shape
 rw [h] at h'; simp at h'; omega
end
section
variable {P : Program} {N : Nat} {Q : Exit → Env → World → Prop} {ρ : Env} {w : World} {ops : Array Oper} {rest : List Oper} {K : Env → World → Prop}
variable {d : Nat} {ty : TypeId} {pos : String} {af : Array Edge} {g : Option (Nat × Bool)} {G : GH}
theorem WL.addN {t ty' : TypeId} {x y : Operand} (a b : Nat) (hn : a + b ≤ 4 * reach)
  (hw : Region.wanted ⟨some d, .binOp .add t x y ty',ty,pos,af,g⟩ (Zo ops ρ) = true) (hx : ev ρ x = .int .i64 (a : Int)) (hy : ev ρ y = .int .i64 (b : Int))
  (kk : K (Z6 ρ d (.int .i64 ((a + b : Nat) : Int))) w) : OW P ops ⟨some d, .binOp .add t x y ty',ty,pos,af,g⟩ ρ w K:=by
 refine Zdi .add rfl a b hw hx hy ⟨?_,?_⟩ kk
 ·simp only [Ar.f]; omega
 ·simp only [Ar.f,reach] at *; omega
theorem ZeP {t ty' : TypeId} {x y : Operand} (a b : Nat) (hn : a * b ≤ 4 * reach)
  (hw : Region.wanted ⟨some d, .binOp .mul t x y ty',ty,pos,af,g⟩ (Zo ops ρ) = true) (hx : ev ρ x = .int .i64 (a : Int)) (hy : ev ρ y = .int .i64 (b : Int))
  (kk : K (Z6 ρ d (.int .i64 ((a * b : Nat) : Int))) w) : OW P ops ⟨some d, .binOp .mul t x y ty',ty,pos,af,g⟩ ρ w K:=by
 have e : ((a : Int) * (b : Int)) = ((a * b : Nat) : Int):=by simp
 refine Zdi .mul rfl a b hw hx hy ⟨?_,?_⟩ (by simp only [Ar.f,e]; exact kk)
 ·simp only [Ar.f,e]; omega
 ·simp only [Ar.f,e,reach] at *; omega
theorem ZfW (op : BinOp) (t : TypeId) (x y : Operand) (a b : Option Addr) (l c m n : Nat) : (eqGuard op t x y (.slice a l c) (.slice b m n)).run P w = .ok () w:=by
 unfold eqGuard; split <;> simp
theorem Zfw {α : Type} {E : Enc α} {by_ : Nat} {t e ty' : TypeId} {x y : Operand} {v : Value} {l : List α} (hs : Sl E by_ G v l) (hu : P.underlying t = some (.slice e))
  (hw : Region.wanted ⟨some d, .binOp .eql t x y ty',ty,pos,af,g⟩ (Zo ops ρ) = true) (hx : ev ρ x = v) (hy : ev ρ y = .slice none 0 0)
  (kN : l = [] → K (Z6 ρ d (.bool true)) w) (kS : K (Z6 ρ d (.bool false)) w) : OW P ops ⟨some d, .binOp .eql t x y ty',ty,pos,af,g⟩ ρ w K:=by
 obtain ⟨a,cap,rfl,h1,h2,h3,h4⟩:=hs
 have run : (binOp .eql t (.slice a l.length cap) (.slice none 0 0)).run P w = .ok (.bool a.isNone) w:=by
  simp only [binOp]
  simp [run_equal_slice_nil w t e a l.length cap hu]
 have go : ∀ b,a.isNone = b → K (Z6 ρ d (.bool b)) w → OW P ops ⟨some d, .binOp .eql t x y ty',ty,pos,af,g⟩ ρ w K:=fun b hb kk=>by
  subst hb
  refine WL.val hw ?_ rfl kk
  simp [execOp,hx,hy,ZfW,run,Result.andThen]
 cases a with
 | some a=>exact go false rfl kS
 | none=>
  refine go true rfl (kN ?_)
  cases l with
  | nil=>rfl
  | cons x l=>obtain ⟨p,hp,_⟩:=h4 0 x rfl; cases hp
end
end Go.Civ
namespace Go.Civ
set_option linter.unusedVariables false
section
variable {α : Type}
theorem ZiF {l : List α} {i : Nat} {x : α} (h : l[i]? = some x) (y : α) : (x :: l.set i y).Perm (y :: l):=by
 induction l generalizing i with
 | nil=>simp at h
 | cons z l ih=>
  cases i with
  | zero=>simp at h; subst h; exact List.Perm.swap _ _ _
  | succ i=>
   have:=ih (i:=i) (by simpa using h)
   simp only [List.set_cons_succ]
   exact (List.Perm.swap _ _ _).trans ((this.cons z).trans (List.Perm.swap _ _ _))
theorem Zhr {l : List α} {i j : Nat} {x y : α} (hij : i ≠ j) (hi : l[i]? = some x) (hj : l[j]? = some y) : ((l.set i y).set j x).Perm l:=by
 have h1:=ZiF hi y
 have hj' : (l.set i y)[j]? = some y:=by rw [List.getElem?_set]; rw [if_neg hij]; exact hj
 have h2:=ZiF hj' x
 exact (List.perm_cons y).1 (h2.trans h1)
def Asc (pf : α → α → Int) (L : List α) (a i : Nat) : Prop:=∀ p q x y,a ≤ p → p < q → q < i → L[p]? = some x → L[q]? = some y → ¬ pf y x < 0
structure Ins (pf : α → α → Int) (l L : List α) (a b i : Nat) : Prop where
 perm : L.Perm l
 frame : ∀ p,p < a ∨ b ≤ p → L[p]? = l[p]?
 asc : Asc pf L a i
structure Ins2 (pf : α → α → Int) (l L : List α) (a b i j : Nat) : Prop where
 perm : L.Perm l
 frame : ∀ p,p < a ∨ b ≤ p → L[p]? = l[p]?
 inv : ∀ p q x y,a ≤ p → p < q → q ≤ i → q ≠ j → L[p]? = some x → L[q]? = some y → ¬ pf y x < 0
variable {pf : α → α → Int} {l L : List α} {a b i j : Nat}
theorem Ins.len (h : Ins pf l L a b i) : L.length = l.length:=h.perm.length_eq
theorem Ins2.len (h : Ins2 pf l L a b i j) : L.length = l.length:=h.perm.length_eq
theorem Ins.start : Ins pf l l a b (a + 1):=⟨List.Perm.refl _,fun _ _=>rfl,fun p q x y h1 h2 h3=>by omega⟩
theorem Ins.enter (h : Ins pf l L a b i) : Ins2 pf l L a b i i:=⟨h.perm,h.frame,fun p q x y h1 h2 h3 h4=>h.asc p q x y h1 h2 (by omega)⟩
theorem Ins2.step (h : Ins2 pf l L a b i j) (hA : ∀ x ∈ l,∀ y ∈ l,pf x y < 0 → ¬ pf y x < 0) (haj : a < j) (hji : j ≤ i) (hib : i < b) {x y : α} (hx : L[j]? = some x) (hy : L[j - 1]? = some y) (hlt : pf x y < 0) :
  Ins2 pf l ((L.set j y).set (j - 1) x) a b i (j - 1):=by
 have hjl : j < L.length:=(List.getElem?_eq_some_iff.1 hx).1
 have get : ∀ p,((L.set j y).set (j - 1) x)[p]? = if p = j - 1 then some x else if p = j then some y else L[p]? :=fun p=>by
  rw [List.getElem?_set]
  by_cases h1 : j - 1 = p
  ·subst h1; rw [if_pos rfl,if_pos (by simp; omega),if_pos rfl]
  ·rw [if_neg h1,if_neg (Ne.symm h1),List.getElem?_set]
   by_cases h2 : j = p
   ·subst h2; rw [if_pos rfl,if_pos hjl,if_pos rfl]
   ·rw [if_neg h2,if_neg (Ne.symm h2)]
 refine ⟨(Zhr (by omega) hx hy).trans h.perm,fun p hp=>?_,fun p q u v h1 h2 h3 h4 hu hv=>?_⟩
 ·rw [get,if_neg (by omega),if_neg (by omega)]; exact h.frame p hp
 ·rw [get] at hu hv
  rw [if_neg (by omega)] at hv
  by_cases hq : q = j
  ·subst hq
   rw [if_pos rfl] at hv; obtain rfl:=Option.some.inj hv
   by_cases hp : p = q - 1
   ·rw [if_pos hp] at hu; obtain rfl:=Option.some.inj hu
    exact hA _ (h.perm.mem_iff.1 (List.mem_of_getElem? hx)) _ (h.perm.mem_iff.1 (List.mem_of_getElem? hy)) hlt
   ·rw [if_neg hp,if_neg (by omega)] at hu
    exact h.inv p (q - 1) u y h1 (by omega) (by omega) (by omega) hu hy
  ·rw [if_neg hq] at hv
   by_cases hp : p = j - 1
   ·subst hp; rw [if_pos rfl] at hu; obtain rfl:=Option.some.inj hu
    exact h.inv j q x v (by omega) (by omega) h3 hq hx hv
   ·rw [if_neg hp] at hu
    by_cases hp2 : p = j
    ·subst hp2; rw [if_pos rfl] at hu; obtain rfl:=Option.some.inj hu
     exact h.inv (p - 1) q y v (by omega) (by omega) h3 hq hy hv
    ·rw [if_neg hp2] at hu
     exact h.inv p q u v h1 h2 h3 hq hu hv
theorem Ins2.first (h : Ins2 pf l L a b i j) (hj : j ≤ a) : Ins pf l L a b (i + 1):=
 ⟨h.perm,h.frame,fun p q x y h1 h2 h3=>h.inv p q x y h1 h2 (by omega) (by omega)⟩
theorem Ins.zero {n : Nat} : Ins pf l l 0 n 0:=⟨List.Perm.refl _,fun _ _=>rfl,fun p q x y h1 h2 h3=>by omega⟩
end
end Go.Civ
