/- Lemmas. -/
import Derived.Test.YtcopkjhdncdnmaaGreatDoorP31
set_option linter.unusedSimpArgs false
namespace Go.Civ
open Go.RowKit
set_option linter.unusedVariables false
section
variable {n : Nat} {q : Query} {l : List Schema} {ins : List (List Col)} {a b x y : List Col} {k : Nat} {s : Schema} {ns : List Str} {t : Str}
theorem Zr3 (h : l[k]? = some s) (hn : s.name = t) (h2 : ∀ j,j < k → ∀ s,l[j]? = some s → ¬ s.name = t) : YQ l t = some s:=by
 unfold YQ
 rw [List.find?_eq_some_iff_getElem]
 obtain ⟨hl,he⟩:=List.getElem?_eq_some_iff.1 h
 refine ⟨decide_eq_true hn,k,hl,he,fun j hj=>?_⟩
 rw [decide_eq_false (h2 j hj _ (List.getElem?_eq_getElem (by omega)))]; rfl
theorem ZoJ (h2 : ∀ j,j < k → ∀ s,l[j]? = some s → ¬ s.name = t) (hk : l.length ≤ k) : YQ l t = none:=by
 unfold YQ
 rw [List.find?_eq_none]
 intro s hs
 obtain ⟨i,hi⟩:=List.getElem?_of_mem hs
 have:=h2 i (Nat.lt_of_lt_of_le (List.getElem?_eq_some_iff.1 hi).1 hk) s hi
 simpa using this
theorem Zp0 (hk : q.kind = 1) (h : l[k]? = some s) (hn : s.name = q.table) (h2 : ∀ j,j < k → ∀ s,l[j]? = some s → ¬ s.name = q.table) : s.cols = (YM n q l ins).1 ∧ 0 = (YM n q l ins).2:=by
 have e:=Zr3 h hn h2
 have h3:=Zmb (n:=n) (ins:=ins) hk (by rw [e]; rfl)
 rw [e] at h3; exact h3
theorem Zp1 (hk : q.kind = 1) (h2 : ∀ j,j < k → ∀ s,l[j]? = some s → ¬ s.name = q.table) (hl : l.length ≤ k) : [] = (YM n q l ins).1 ∧ 7 = (YM n q l ins).2:=
 Zma hk (by rw [ZoJ h2 hl]; rfl)
theorem Zr4 (h : Xk a ns = false) : [] = (Yl a ns).1 ∧ 7 = (Yl a ns).2:=by unfold Yl; rw [h]; exact ⟨rfl,rfl⟩
theorem Ztw (h : Xk a ns = true) : (Yl a ns).1 = (Yl a ns).1 ∧ 0 = (Yl a ns).2:=⟨rfl,(ZG h).symm⟩
theorem ZnB (h : Xk a q.cols = false) : [] = (QM q a).1 ∧ 7 = (QM q a).2:=by unfold QM; rw [h]; exact ⟨rfl,rfl⟩
theorem Zs3 (h : Xk a ns = true) (hs : ns[k]? = some t) : 0 ≤ Zx a t:=of_decide_eq_true (List.all_eq_true.1 h t (List.mem_of_getElem? hs))
theorem Zp2 (hk : q.kind = 10) (h0 : ins[0]? = some a) (h1 : ins[1]? = some b) (hd : Zbk ([] ++ a ++ b) = false) (hn : ∀ a ∈ ins,ND a) : [] = (YM n q l ins).1 ∧ 8 = (YM n q l ins).2:=by
 rw [List.nil_append,Zn6 (hn a (List.mem_of_getElem? h0)) (hn b (List.mem_of_getElem? h1))] at hd
 exact Zh6 hk h1 (by rw [QE h0]; simpa using hd)
theorem Zp3 (hk : q.kind = 10) (h0 : ins[0]? = some a) (h1 : ins[1]? = some b) (hd : Zbk ([] ++ a ++ b) = true) (hn : ∀ a ∈ ins,ND a) : Qa ([] ++ a ++ b) = YM n q l ins:=by
 rw [List.nil_append,Zn6 (hn a (List.mem_of_getElem? h0)) (hn b (List.mem_of_getElem? h1))] at hd
 rw [← Zh7 hk h0 h1 (by rw [QE h0]; simpa using hd)]; simp
end
end Go.Civ
namespace Go.Civ
open Go.RowKit
set_option linter.unusedVariables false
def ZR (a b : Span) : Span × Bool:=if min a.b b.b ≤ max a.a b.a then (⟨0,0⟩,false) else (⟨max a.a b.a,min a.b b.b⟩,true)
def Zk (q : Query) (l : List Query) : Query:=⟨q.kind,q.table,q.cols,q.names,q.cond,q.rel,q.fn,q.span,l⟩
abbrev ZA (q : Query) : Query:=Zk q []
theorem Zlq (c : Cond) : Cond.mk c.kind c.col c.oth c.v c.l = c:=by cases c; rfl
theorem Zqo (q : Query) : Query.mk q.kind q.table q.cols q.names q.cond q.rel q.fn q.span q.l = q:=by cases q; rfl
section
variable {a b : Span} {n : Nat} {q : Query} {l : List Schema} {k : Nat}
theorem ZhA (h : min a.b b.b ≤ max a.a b.a) : Span.mk 0 0 = (ZR a b).1 ∧ false = (ZR a b).2:=by unfold ZR; rw [if_pos h]; exact ⟨rfl,rfl⟩
theorem ZhB (h : ¬ min a.b b.b ≤ max a.a b.a) : Span.mk (max a.a b.a) (min a.b b.b) = (ZR a b).1 ∧ true = (ZR a b).2:=by unfold ZR; rw [if_neg h]; exact ⟨rfl,rfl⟩
theorem ZhC (hs : smQ n q) : (ZP n q l).1.length ≤ 20:=by
 unfold ZP
 split
 ·rename_i h1
  split
  ·rename_i h2; exact ZhY (ZhZ h2) (ZfL h1 hs)
  ·simp
 ·simp
end
end Go.Civ
namespace Go.Civ
open Go.RowKit
set_option linter.unusedVariables false
def arQ (q : Query) : Prop:=(q.kind = 2 ∨ q.kind = 3 ∨ q.kind = 4 ∨ q.kind = 8 ∨ q.kind = 9 → 1 ≤ q.l.length) ∧ (q.kind = 5 ∨ q.kind = 6 ∨ q.kind = 7 ∨ q.kind = 10 → 2 ≤ q.l.length)
inductive WfQ : Query → Prop
 | mk (q : Query) : arQ q → (∀ x,x ∈ q.l → WfQ x) → WfQ q
theorem WfQ.ar {q : Query} (h : WfQ q) : arQ q:=by cases h; assumption
theorem WfQ.kid {q x : Query} (h : WfQ q) (hx : x ∈ q.l) : WfQ x:=by cases h with | mk _ _ h2=>exact h2 x hx
theorem szQ {q x : Query} (h : x ∈ q.l) : SizeOf.sizeOf x < SizeOf.sizeOf q:=by
 have:=List.sizeOf_lt_of_mem h
 cases q; simp at this ⊢; omega
theorem ZdM {α β : Type} (f : α → β) (l : List α) (k : Nat) : (l.attach.take k).map (fun y=>f y.1) = (l.take k).map f:=by
 rw [List.map_take,List.map_take]
 congr 1
 simp
def Zt (nd x : Query) : Query:=
 if x.kind = 2 ∨ x.kind = 3 ∨ x.kind = 4 ∨ x.kind = 9 then Zk x ((x.l.attach.take 1).map fun y=>Zt nd y.1)
 else if x.kind = 5 ∨ x.kind = 6 ∨ x.kind = 7 then Zk x ((x.l.attach.take 2).map fun y=>Zt nd y.1)
 else if x.kind = 8 ∧ (ZR nd.span x.span).2 = true then Zk ⟨nd.kind,nd.table,nd.cols,nd.names,nd.cond,nd.rel,nd.fn,(ZR nd.span x.span).1,nd.l⟩ (x.l.take 1)
 else Zk nd [x]
termination_by SizeOf.sizeOf x
decreasing_by all_goals exact szQ y.2
section
variable {nd x y z : Query}
theorem ZeQ : Zt nd x = if x.kind = 2 ∨ x.kind = 3 ∨ x.kind = 4 ∨ x.kind = 9 then Zk x ((x.l.take 1).map (Zt nd))
  else if x.kind = 5 ∨ x.kind = 6 ∨ x.kind = 7 then Zk x ((x.l.take 2).map (Zt nd))
  else if x.kind = 8 ∧ (ZR nd.span x.span).2 = true then Zk ⟨nd.kind,nd.table,nd.cols,nd.names,nd.cond,nd.rel,nd.fn,(ZR nd.span x.span).1,nd.l⟩ (x.l.take 1)
  else Zk nd [x]:=by
 rw [Zt,ZdM (Zt nd),ZdM (Zt nd)]
theorem ZgR {α : Type} {l : List α} {a : α} (h : l[0]? = some a) : l.take 1 = [a]:=by
 cases l with
 | nil=>cases h
 | cons b l=>obtain rfl:=Option.some.inj h; rfl
theorem Zmi {α : Type} {l : List α} {a b : α} (h : l[0]? = some a) (h2 : l[1]? = some b) : l.take 2 = [a,b]:=by
 match l,h,h2 with
 | c :: d :: l,h,h2=>obtain rfl:=Option.some.inj h; obtain rfl:=Option.some.inj h2; rfl
theorem ZdN (hk : x.kind = 2 ∨ x.kind = 3 ∨ x.kind = 4 ∨ x.kind = 9) (h : x.l[0]? = some y) : Zk x [Zt nd y] = Zt nd x:=by rw [ZeQ (x:=x),if_pos hk,ZgR h]; rfl
theorem ZfP (hk : x.kind = 5 ∨ x.kind = 6 ∨ x.kind = 7) (h : x.l[0]? = some y) (h2 : x.l[1]? = some z) : Zk x [Zt nd y,Zt nd z] = Zt nd x:=by rw [ZeQ (x:=x),if_neg (by omega),if_pos hk,Zmi h h2]; rfl
theorem Zmj (hk : x.kind = 8) (hm : (ZR nd.span x.span).2 = true) (h : x.l[0]? = some y) : Zk ⟨nd.kind,nd.table,nd.cols,nd.names,nd.cond,nd.rel,nd.fn,(ZR nd.span x.span).1,nd.l⟩ [y] = Zt nd x:=by
 rw [ZeQ (x:=x),if_neg (by omega),if_neg (by omega),if_pos ⟨hk,hm⟩,ZgR h]
theorem Zmk (hk : x.kind = 8) (hm : (ZR nd.span x.span).2 = false) : Zk nd [x] = Zt nd x:=by
 rw [ZeQ (x:=x),if_neg (by omega),if_neg (by omega),if_neg (by rw [hm]; simp)]
theorem Zkn (h2 : ¬ x.kind = 2) (h3 : ¬ x.kind = 3) (h4 : ¬ x.kind = 4) (h9 : ¬ x.kind = 9) (h5 : ¬ x.kind = 5) (h6 : ¬ x.kind = 6) (h7 : ¬ x.kind = 7) (h8 : ¬ x.kind = 8) : Zk nd [x] = Zt nd x:=by
 rw [ZeQ (x:=x),if_neg (by omega),if_neg (by omega),if_neg (fun e=>h8 e.1)]
end
end Go.Civ
namespace Go.Civ
open Go.RowKit
set_option linter.unusedVariables false
def X8 (c : Cond) : List Str:=(if c.col = [] then [] else [c.col]) ++ (if c.oth = [] then [] else [c.oth])
def Yy : Nat → Cond → List Str
 | 0,_=>[]
 | n + 1,c=>X8 c ++ (c.l.map (Yy n)).flatten
def Qq (n : Nat) (c : Cond) (l : List Str) : Bool:=(Yy n c).all fun s=>decide (0 ≤ YT l s)
def Q3 (cols names : List Str) (s : Str) : Str:=if s ≠ [] ∧ 0 ≤ YT names s then (cols[(YT names s).toNat]?).getD [] else s
abbrev bkS (q : Query) (s : Str) : Str:=Q3 q.cols q.names s
def Zz : Nat → Cond → Query → Cond
 | 0,c,_=>c
 | n + 1,c,q=>⟨c.kind,bkS q c.col,bkS q c.oth,c.v,c.l.map fun x=>Zz n x q⟩
section
variable {n k : Nat} {c x : Cond} {q : Query} {s t a b : Str} {l : List Str}
theorem Zcy (h : 0 ≤ YT l s) : (YT l s).toNat < l.length:=by
 have : YT l s ≠ -1:=by omega
 obtain ⟨m,hm,y,hy,_⟩:=Zia (show YP (fun x=>decide (x = s)) l ≠ -1 from this)
 have hm2 : YT l s = (m : Int):=hm
 have:=(List.getElem?_eq_some_iff.1 hy).1
 omega
theorem Zfu (h : s = []) : s = bkS q s:=by unfold bkS Q3; rw [if_neg (fun e=>e.1 h)]
theorem ZeD (h : YT q.names s < 0) : s = bkS q s:=by unfold bkS Q3; rw [if_neg (fun e=>by omega)]
theorem ZfQ (h : ¬ s = []) (h2 : 0 ≤ YT q.names s) (hx : q.cols[(YT q.names s).toNat]? = some t) : t = bkS q s:=by unfold bkS Q3; rw [if_pos ⟨h,h2⟩,hx]; rfl
theorem ZcN (h1 : a = bkS q c.col) (h2 : b = bkS q c.oth) (hk : c.l.length ≤ k) : Cond.mk c.kind a b c.v ((c.l.take k).map fun x=>Zz n x q) = Zz (n + 1) c q:=by
 rw [Zz,h1,h2,List.take_of_length_le hk]
theorem ZaR (h : c.l[k]? = some x) : (c.l.take (k + 1)).map (fun x=>Zz n x q) = (c.l.take k).map (fun x=>Zz n x q) ++ [Zz n x q]:=by rw [List.take_add_one,h]; simp
theorem Zr6 (h : c.col = []) (h2 : c.oth = []) : [] = X8 c:=by unfold X8; rw [if_pos h,if_pos h2]; rfl
theorem Zr7 (h : ¬ c.col = []) (h2 : c.oth = []) : [c.col] = X8 c:=by unfold X8; rw [if_neg h,if_pos h2]; rfl
theorem Zr8 (h : c.col = []) (h2 : ¬ c.oth = []) : [c.oth] = X8 c:=by unfold X8; rw [if_pos h,if_neg h2]; rfl
theorem Zr9 (h : ¬ c.col = []) (h2 : ¬ c.oth = []) : [c.col,c.oth] = X8 c:=by unfold X8; rw [if_neg h,if_neg h2]; rfl
theorem XY (h : c.l[k]? = some x) : X8 c ++ ((c.l.take (k + 1)).map (Yy n)).flatten = X8 c ++ ((c.l.take k).map (Yy n)).flatten ++ Yy n x:=by
 rw [List.take_add_one,h]; simp
theorem ZeR (hk : c.l.length ≤ k) : X8 c ++ ((c.l.take k).map (Yy n)).flatten = Yy (n + 1) c:=by rw [List.take_of_length_le hk]; rfl
theorem Zcp : (X8 c ++ ((c.l.take k).map (Yy n)).flatten).length ≤ (Yy (n + 1) c).length:=by
 have e : (c.l.map (Yy n)).flatten = ((c.l.take k).map (Yy n)).flatten ++ ((c.l.drop k).map (Yy n)).flatten:=by
  rw [← List.flatten_append,← List.map_append,List.take_append_drop]
 rw [Yy,e,List.length_append,List.length_append,List.length_append]
 omega
theorem Zgn (h : x ∈ c.l) : (Yy n x).length ≤ (Yy (n + 1) c).length:=by
 rw [Yy]
 obtain ⟨a,b,e⟩:=List.append_of_mem h
 rw [e]; simp; omega
theorem Zs4 : (X8 c).length ≤ (Yy (n + 1) c).length:=by rw [Yy]; simp
theorem Ztx (h : (Yy n c)[k]? = some s) (h2 : YT l s < 0) : false = Qq n c l:=(List.all_eq_false.2 ⟨s,List.mem_of_getElem? h,by rw [decide_eq_false (by omega)]; simp⟩).symm
theorem Zty (h : ∀ j,j < k → ∀ s,(Yy n c)[j]? = some s → 0 ≤ YT l s) (hk : (Yy n c).length ≤ k) : true = Qq n c l:=(List.all_eq_true.2 fun x hx=>by
 obtain ⟨i,hi⟩:=List.getElem?_of_mem hx
 exact decide_eq_true (h i (Nat.lt_of_lt_of_le (List.getElem?_eq_some_iff.1 hi).1 hk) x hi)).symm
theorem Zs5 {cols names : List Str} (h : s = []) : s = Q3 cols names s:=by unfold Q3; rw [if_neg (fun e=>e.1 h)]
theorem Zs6 {cols names : List Str} (h : YT names s < 0) : s = Q3 cols names s:=by unfold Q3; rw [if_neg (fun e=>by omega)]
theorem Ztz {cols names : List Str} (h : ¬ s = []) (h2 : 0 ≤ YT names s) (hx : cols[(YT names s).toNat]? = some t) : t = Q3 cols names s:=by unfold Q3; rw [if_pos ⟨h,h2⟩,hx]; rfl
theorem Sl.strs {G : GH} {v : Value} (h : Sl Enc.str 16 G v l) : ∀ x ∈ l,x.length ≤ reach:=fun x hx=>by
 obtain ⟨i,hi⟩:=List.getElem?_of_mem hx
 obtain ⟨a,cap,_,_,_,_,h5⟩:=h
 obtain ⟨p,_,_,cs,_,hr⟩:=h5 i x hi
 exact hr.2
theorem ZnG {cols names : List Str} (hs : s.length ≤ reach) (hc : ∀ x ∈ cols,x.length ≤ reach) : (Q3 cols names s).length ≤ reach:=by
 unfold Q3
 split
 ·cases e : cols[(YT names s).toNat]? with
  | none=>simp
  | some x=>exact hc x (List.mem_of_getElem? e)
 ·exact hs
end
end Go.Civ
namespace Go.Civ
open Go.RowKit
set_option linter.unusedVariables false
noncomputable abbrev Yu (c : Cond) : Nat:=SizeOf.sizeOf c
noncomputable abbrev Yc (q : Query) : Nat:=SizeOf.sizeOf q
noncomputable abbrev Zfv (c : Cond) : List Str:=Yy (Yu c) c
noncomputable abbrev Za0 (c : Cond) (l : List Str) : Bool:=Qq (Yu c) c l
noncomputable abbrev Zd9 (c : Cond) (q : Query) : Cond:=Zz (Yu c) c q
noncomputable abbrev ZbP (S : List Schema) (q : Query) : List Str:=(ZP (Yc q) q S).1.map Col.name
abbrev Zic (nd : Query) (c : Cond) : Query:=⟨nd.kind,nd.table,nd.cols,nd.names,c,nd.rel,nd.fn,nd.span,nd.l⟩
theorem Zko : ∀ {n m : Nat} {c : Cond},Xn c n → Xn c m → Yy n c = Yy m c
 | 0,_,c,h,_=>(XC h).elim
 | _ + 1,0,c,_,h=>(XC h).elim
 | n + 1,m + 1,c,h,k=>by
  rw [Yy,Yy]
  congr 2
  exact List.map_congr_left fun x hx=>Zko (YR h hx) (YR k hx)
theorem Zkp {α β : Type} {f g : α → List β} : ∀ {l : List α},(∀ x ∈ l,(f x).length ≤ (g x).length) → ((l.map f).flatten).length ≤ ((l.map g).flatten).length
 | [],_=>Nat.le_refl _
 | x :: l,h=>by
  simp only [List.map_cons,List.flatten_cons,List.length_append]
  have:=Zkp fun y hy=>h y (List.mem_cons_of_mem _ hy)
  have:=h x List.mem_cons_self
  omega
theorem Zlt (q : Query) : bkS q [] = []:=(Zfu rfl).symm
theorem Zqr {c : Cond} {q : Query} {l : List Cond} : (X8 ⟨c.kind,bkS q c.col,bkS q c.oth,c.v,l⟩).length ≤ (X8 c).length:=by
 unfold X8
 simp only [List.length_append]
 have h : ∀ s : Str,(if bkS q s = [] then [] else [bkS q s]).length ≤ (if s = [] then [] else [s]).length:=fun s=>by
  by_cases e : s = []
  ·rw [if_pos e,e,Zlt,if_pos rfl]; exact Nat.le_refl _
  ·rw [if_neg e]; split <;> simp
 have h1:=h c.col
 have h2:=h c.oth
 omega
theorem Zkq {q : Query} : ∀ {n m : Nat} {c : Cond},Xn c m → (Yy n (Zz m c q)).length ≤ (Yy m c).length
 | 0,_,_,_=>Nat.zero_le _
 | n + 1,0,c,h=>(XC h).elim
 | n + 1,m + 1,c,h=>by
  rw [Zz,Yy,Yy,List.length_append,List.length_append,List.map_map]
  have h1:=Zqr (c:=c) (q:=q) (l:=c.l.map fun x=>Zz m x q)
  have h2 : ((c.l.map (Yy n ∘ fun x=>Zz m x q)).flatten).length ≤ ((c.l.map (Yy m)).flatten).length:=Zkp fun x hx=>Zkq (YR h hx)
  exact Nat.add_le_add h1 h2
theorem ZoM {c : Cond} : (X8 c).length ≤ 2:=by unfold X8; split <;> split <;> simp
theorem ZnH : ∀ {n : Nat} {c : Cond} {dep : Int},(0 ≤ dep ∧ dep ≤ 13) → Ya n c dep ≤ 60 → ((Yy n c).length : Int) ≤ 2 * Ya n c dep
 | 0,c,dep,_,h=>by rw [Ya] at h; omega
 | n + 1,c,dep,hd,h=>by
  rw [Ya] at h ⊢
  by_cases g1 : 12 < dep
  ·rw [if_pos g1] at h; omega
  ·rw [if_neg g1] at h ⊢
   by_cases g2 : Z2 c = false
   ·rw [if_pos g2] at h; omega
   ·rw [if_neg g2] at h ⊢
    have hp : ∀ y,0 ≤ Ya n y (dep + 1):=fun y=>by have:=(ZbN n y (dep + 1) (by omega)).1; omega
    have key : ∀ (l : List Cond) (m : Int),0 ≤ m → Y6 (fun x=>Ya n x (dep + 1)) l m ≤ 60 → (((l.map (Yy n)).flatten).length : Int) + 2 * m ≤ 2 * Y6 (fun x=>Ya n x (dep + 1)) l m:=by
     intro l
     induction l with
     | nil=>intro m _ _; simp [Y6]
     | cons x l ih=>
      intro m h0 hm
      rw [Y6] at hm ⊢
      by_cases e : m ≤ 60
      ·rw [if_pos e] at hm ⊢
       have hx:=hp x
       have h1:=ih _ (show 0 ≤ m + Ya n x (dep + 1) by omega) hm
       have h3:=ZcS hp (l:=l) (n:=m + Ya n x (dep + 1))
       have h2:=ZnH (n:=n) (c:=x) (dep:=dep + 1) (by omega) (by omega)
       simp only [List.map_cons,List.flatten_cons,List.length_append]
       omega
      ·rw [if_neg e] at hm; omega
    have h1:=key c.l 1 (by omega) h
    have h2:=ZoM (c:=c)
    rw [Yy,List.length_append]
    omega
def GdN (q : Query) : Prop:=q.cols.length ≤ 20 ∧ q.names.length ≤ 20 ∧ (q.kind = 4 → q.names.length = q.cols.length) ∧ (q.kind = 3 ∨ q.kind = 4 ∨ q.kind = 9 → X7 q.cols = true) ∧ (q.kind = 2 → (Zfv q.cond).length ≤ 1000000)
inductive GdQ : Query → Prop
 | mk (q : Query) : GdN q → arQ q → (∀ x,x ∈ q.l → GdQ x) → GdQ q
section
variable {q x y z nd : Query} {n : Nat} {l : List Schema} {S : List Schema}
theorem GdQ.node (h : GdQ q) : GdN q:=by cases h; assumption
theorem GdQ.ar (h : GdQ q) : arQ q:=by cases h; assumption
theorem GdQ.kid (h : GdQ q) (hx : x ∈ q.l) : GdQ x:=by cases h with | mk _ _ _ h2=>exact h2 x hx
theorem GdQ.wf : ∀ {q : Query},GdQ q → WfQ q
 | _, .mk q _ h1 h2=> .mk q h1 fun x hx=>(h2 x hx).wf
theorem GdQ.sm : ∀ {n : Nat} {q : Query},GdQ q → smQ n q
 | 0,_,_=>trivial
 | n + 1,q,h=>⟨h.node.1,h.node.2.1,fun x hx=>(h.kid hx).sm⟩
theorem Zqs (h : Xc n q = true) (hk : q.kind = 4) : X7 q.cols = true:=by rw [ZaK hk] at h; simp only [Bool.and_eq_true] at h; exact h.1.2.1
theorem ZrA (h : Xc n q = true) (hk : q.kind = 2) : Ya n q.cond 1 ≤ 60:=by
 rw [Zfl hk] at h; simp only [Bool.and_eq_true] at h
 have:=h.1; unfold ZaW at this; simp only [Bool.and_eq_true] at this
 exact of_decide_eq_true this.1
theorem Zgo : ∀ {n : Nat} {q : Query},Xx q n → okQ n q → GdQ q
 | 0,q,_,h=>h.elim
 | n + 1,q,hn,⟨h1,h2,h3,h4⟩=>by
  refine .mk q ⟨h2,h3,Zjb h1,fun hk=>?_,fun hk=>?_⟩ ⟨fun hk=>QF h1 (by omega),fun hk=>Nat.le_of_eq (op2 h1 hk).symm⟩ fun x hx=>Zgo (Yp hn hx) (h4 x hx)
  ·rcases hk with hk | hk | hk
   ·exact Zgm h1 (.inl hk)
   ·exact Zqs h1 hk
   ·exact Zgm h1 (.inr hk)
  ·have h5:=ZrA h1 hk
   have h6:=ZnH (n:=n + 1) (c:=q.cond) (dep:=1) (by decide) h5
   rw [show Zfv q.cond = Yy (n + 1) q.cond from Zko (Nat.le_refl _) (Zbs hn)]
   omega
theorem Zqt {s : Span} (h : GdN nd) : GdN ⟨nd.kind,nd.table,nd.cols,nd.names,nd.cond,nd.rel,nd.fn,s,nd.l⟩:=h
theorem Zs7 {q : Query} (hk : q.kind ≠ 5 ∧ q.kind ≠ 6 ∧ q.kind ≠ 7 ∧ q.kind ≠ 10) (hl : 1 ≤ q.l.length) : arQ q:=⟨fun _=>hl,fun h=>by omega⟩
theorem Zs8 {q : Query} (hl : 2 ≤ q.l.length) : arQ q:=⟨fun _=>by omega,fun h=>hl⟩
theorem ZeJ (h : GdN q) (hk : q.kind ≠ 5 ∧ q.kind ≠ 6 ∧ q.kind ≠ 7 ∧ q.kind ≠ 10) (hx : GdQ x) : GdQ (Zk q [x]):=
 .mk _ h (Zs7 hk (Nat.le_refl _)) fun y hy=>by rw [List.mem_singleton.1 hy]; exact hx
theorem Zml (h : GdN q) (hx : GdQ x) (hy : GdQ y) : GdQ (Zk q [x,y]):=
 .mk _ h (Zs8 (Nat.le_refl _)) fun z hz=>by
  rcases List.mem_cons.1 hz with rfl | hz
  ·exact hx
  ·rw [List.mem_singleton.1 hz]; exact hy
theorem Xw {α : Type} {l : List α} {k : Nat} (h : k < l.length) : ∃ y,l[k]? = some y:=⟨_,List.getElem?_eq_getElem h⟩
theorem ZhE : ∀ {x : Query},GdQ x → GdN nd → nd.kind = 8 → GdQ (Zt nd x)
 | _, .mk x h1 h2 h3,hn,hk=>by
  by_cases c1 : x.kind = 2 ∨ x.kind = 3 ∨ x.kind = 4 ∨ x.kind = 9
  ·obtain ⟨y,hy⟩:=Xw (l:=x.l) (k:=0) (h2.1 (by omega))
   rw [← ZdN c1 hy]
   exact ZeJ h1 (by omega) (ZhE (h3 y (List.mem_of_getElem? hy)) hn hk)
  by_cases c2 : x.kind = 5 ∨ x.kind = 6 ∨ x.kind = 7
  ·have hl:=h2.2 (by omega)
   obtain ⟨y,hy⟩:=Xw (l:=x.l) (k:=0) (by omega)
   obtain ⟨z,hz⟩:=Xw (l:=x.l) (k:=1) (by omega)
   rw [← ZfP c2 hy hz]
   exact Zml h1 (ZhE (h3 y (List.mem_of_getElem? hy)) hn hk) (ZhE (h3 z (List.mem_of_getElem? hz)) hn hk)
  by_cases c3 : x.kind = 8
  ·cases c4 : (ZR nd.span x.span).2 with
   | false=>rw [← Zmk c3 c4]; exact ZeJ hn (by omega) (.mk x h1 h2 h3)
   | true=>
    obtain ⟨y,hy⟩:=Xw (l:=x.l) (k:=0) (h2.1 (by omega))
    rw [← Zmj c3 c4 hy]
    exact ZeJ (Zqt hn) (show nd.kind ≠ 5 ∧ nd.kind ≠ 6 ∧ nd.kind ≠ 7 ∧ nd.kind ≠ 10 by omega) (h3 y (List.mem_of_getElem? hy))
  rw [← Zkn (by omega) (by omega) (by omega) (by omega) (by omega) (by omega) (by omega) c3]
  exact ZeJ hn (by omega) (.mk x h1 h2 h3)
end
noncomputable def Zp (S : List Schema) (nd x : Query) : Query:=
 if x.kind = 3 ∨ (x.kind = 9 ∧ Za0 nd.cond x.cols = true) then Zk x ((x.l.attach.take 1).map fun y=>Zp S nd y.1)
 else if x.kind = 4 then Zk x ((x.l.attach.take 1).map fun y=>Zp S (Zic nd (Zd9 nd.cond x)) y.1)
 else if x.kind = 6 ∨ x.kind = 7 then Zk x ((x.l.attach.take 2).map fun y=>Zp S nd y.1)
 else if (x.kind = 5 ∨ x.kind = 10) ∧ Za0 nd.cond (ZbP S ((x.l[0]?).getD noQ)) = true then Zk x (((x.l.attach.take 1).map fun y=>Zp S nd y.1) ++ (x.l.take 2).drop 1)
 else if (x.kind = 5 ∨ x.kind = 10) ∧ Za0 nd.cond (ZbP S ((x.l[1]?).getD noQ)) = true then Zk x (x.l.take 1 ++ (((x.l.attach.take 2).map fun y=>Zp S nd y.1)).drop 1)
 else Zk nd [x]
termination_by SizeOf.sizeOf x
decreasing_by all_goals exact szQ y.2
section
variable {q x y z nd : Query} {n : Nat} {S : List Schema}
theorem Zbz : Zp S nd x = if x.kind = 3 ∨ (x.kind = 9 ∧ Za0 nd.cond x.cols = true) then Zk x ((x.l.take 1).map (Zp S nd))
 else if x.kind = 4 then Zk x ((x.l.take 1).map (Zp S (Zic nd (Zd9 nd.cond x))))
 else if x.kind = 6 ∨ x.kind = 7 then Zk x ((x.l.take 2).map (Zp S nd))
 else if (x.kind = 5 ∨ x.kind = 10) ∧ Za0 nd.cond (ZbP S ((x.l[0]?).getD noQ)) = true then Zk x ((x.l.take 1).map (Zp S nd) ++ (x.l.take 2).drop 1)
 else if (x.kind = 5 ∨ x.kind = 10) ∧ Za0 nd.cond (ZbP S ((x.l[1]?).getD noQ)) = true then Zk x (x.l.take 1 ++ ((x.l.take 2).map (Zp S nd)).drop 1)
 else Zk nd [x]:=by
 rw [Zp,ZdM (Zp S nd),ZdM (Zp S nd),ZdM (Zp S (Zic nd (Zd9 nd.cond x)))]
theorem Zmm (hk : x.kind = 3) (h : x.l[0]? = some y) : Zk x [Zp S nd y] = Zp S nd x:=by rw [Zbz (x:=x),if_pos (.inl hk),ZgR h]; rfl
theorem Zmn (hk : x.kind = 9) (hw : Za0 nd.cond x.cols = true) (h : x.l[0]? = some y) : Zk x [Zp S nd y] = Zp S nd x:=by rw [Zbz (x:=x),if_pos (.inr ⟨hk,hw⟩),ZgR h]; rfl
theorem Zmo (hk : x.kind = 4) (h : x.l[0]? = some y) : Zk x [Zp S (Zic nd (Zd9 nd.cond x)) y] = Zp S nd x:=by rw [Zbz (x:=x),if_neg (by omega),if_pos hk,ZgR h]; rfl
theorem Zid (hk : x.kind = 6 ∨ x.kind = 7) (h : x.l[0]? = some y) (h2 : x.l[1]? = some z) : Zk x [Zp S nd y,Zp S nd z] = Zp S nd x:=by rw [Zbz (x:=x),if_neg (by omega),if_neg (by omega),if_pos hk,Zmi h h2]; rfl
theorem Zie (hk : x.kind = 5 ∨ x.kind = 10) (h : x.l[0]? = some y) (h2 : x.l[1]? = some z) (hw : Za0 nd.cond (ZbP S y) = true) : Zk x [Zp S nd y,z] = Zp S nd x:=by
 rw [Zbz (x:=x),if_neg (by omega),if_neg (by omega),if_neg (by omega),if_pos ⟨hk,by rw [h]; exact hw⟩,ZgR h,Zmi h h2]; rfl
theorem Zif (hk : x.kind = 5 ∨ x.kind = 10) (h : x.l[0]? = some y) (h2 : x.l[1]? = some z) (hw : Za0 nd.cond (ZbP S y) = false) (hw2 : Za0 nd.cond (ZbP S z) = true) : Zk x [y,Zp S nd z] = Zp S nd x:=by
 rw [Zbz (x:=x),if_neg (by omega),if_neg (by omega),if_neg (by omega),if_neg (fun e=>by rw [h] at e; exact absurd (hw.symm.trans e.2) (by simp)),if_pos ⟨hk,by rw [h2]; exact hw2⟩,ZgR h,Zmi h h2]; rfl
theorem Zig (hk : x.kind = 5 ∨ x.kind = 10) (h : x.l[0]? = some y) (h2 : x.l[1]? = some z) (hw : Za0 nd.cond (ZbP S y) = false) (hw2 : Za0 nd.cond (ZbP S z) = false) : Zk nd [x] = Zp S nd x:=by
 rw [Zbz (x:=x),if_neg (by omega),if_neg (by omega),if_neg (by omega),if_neg (fun e=>by rw [h] at e; exact absurd (hw.symm.trans e.2) (by simp)),if_neg (fun e=>by rw [h2] at e; exact absurd (hw2.symm.trans e.2) (by simp))]
theorem Zmp (hk : x.kind = 9) (hw : Za0 nd.cond x.cols = false) : Zk nd [x] = Zp S nd x:=by
 rw [Zbz (x:=x),if_neg (fun e=>by rcases e with e | e; omega; exact absurd (hw.symm.trans e.2) (by simp)),if_neg (by omega),if_neg (by omega),if_neg (fun e=>by omega),if_neg (fun e=>by omega)]
theorem Zkr (h3 : ¬ x.kind = 3) (h4 : ¬ x.kind = 4) (h6 : ¬ x.kind = 6) (h7 : ¬ x.kind = 7) (h9 : ¬ x.kind = 9) (h5 : ¬ x.kind = 5) (h10 : ¬ x.kind = 10) : Zk nd [x] = Zp S nd x:=by
 rw [Zbz (x:=x),if_neg (by omega),if_neg h4,if_neg (by omega),if_neg (fun e=>by omega),if_neg (fun e=>by omega)]
theorem Qn (c : Cond) : Xn c (Yu c):=Nat.le_refl _
theorem YU (q : Query) : Xx q (Yc q):=Nat.le_refl _
theorem ZgS (h : (Zfv nd.cond).length ≤ 1000000) : (Zfv (Zd9 nd.cond x)).length ≤ 1000000:=Nat.le_trans (Zkq (Qn _)) h
theorem ZrB (hn : GdN nd) (hk : nd.kind = 2) : GdN (Zic nd (Zd9 nd.cond x)):=⟨hn.1,hn.2.1,hn.2.2.1,hn.2.2.2.1,fun _=>ZgS (hn.2.2.2.2 hk)⟩
theorem ZcV : ∀ {x nd : Query},GdQ x → GdN nd → nd.kind = 2 → GdQ (Zp S nd x)
 | _,nd, .mk x h1 h2 h3,hn,hk=>by
  have hx : GdQ x:= .mk x h1 h2 h3
  by_cases c3 : x.kind = 3
  ·obtain ⟨y,hy⟩:=Xw (l:=x.l) (k:=0) (h2.1 (by omega))
   rw [← Zmm c3 hy]
   exact ZeJ h1 (by omega) (ZcV (h3 y (List.mem_of_getElem? hy)) hn hk)
  by_cases c9 : x.kind = 9
  ·cases c : Za0 nd.cond x.cols with
   | false=>rw [← Zmp c9 c]; exact ZeJ hn (by omega) hx
   | true=>
    obtain ⟨y,hy⟩:=Xw (l:=x.l) (k:=0) (h2.1 (by omega))
    rw [← Zmn c9 c hy]
    exact ZeJ h1 (by omega) (ZcV (h3 y (List.mem_of_getElem? hy)) hn hk)
  by_cases c4 : x.kind = 4
  ·obtain ⟨y,hy⟩:=Xw (l:=x.l) (k:=0) (h2.1 (by omega))
   rw [← Zmo c4 hy]
   exact ZeJ h1 (by omega) (ZcV (h3 y (List.mem_of_getElem? hy)) (ZrB hn hk) hk)
  by_cases c6 : x.kind = 6 ∨ x.kind = 7
  ·have hl:=h2.2 (by omega)
   obtain ⟨y,hy⟩:=Xw (l:=x.l) (k:=0) (by omega)
   obtain ⟨z,hz⟩:=Xw (l:=x.l) (k:=1) (by omega)
   rw [← Zid c6 hy hz]
   exact Zml h1 (ZcV (h3 y (List.mem_of_getElem? hy)) hn hk) (ZcV (h3 z (List.mem_of_getElem? hz)) hn hk)
  by_cases c5 : x.kind = 5 ∨ x.kind = 10
  ·have hl:=h2.2 (by omega)
   obtain ⟨y,hy⟩:=Xw (l:=x.l) (k:=0) (by omega)
   obtain ⟨z,hz⟩:=Xw (l:=x.l) (k:=1) (by omega)
   cases c : Za0 nd.cond (ZbP S y) with
   | true=>rw [← Zie c5 hy hz c]; exact Zml h1 (ZcV (h3 y (List.mem_of_getElem? hy)) hn hk) (h3 z (List.mem_of_getElem? hz))
   | false=>
    cases c' : Za0 nd.cond (ZbP S z) with
    | true=>rw [← Zif c5 hy hz c c']; exact Zml h1 (h3 y (List.mem_of_getElem? hy)) (ZcV (h3 z (List.mem_of_getElem? hz)) hn hk)
    | false=>rw [← Zig c5 hy hz c c']; exact ZeJ hn (by omega) hx
  rw [← Zkr c3 c4 (by omega) (by omega) c9 (by omega) (by omega)]
  exact ZeJ hn (by omega) hx
end
noncomputable def ZD (S : List Schema) (q : Query) : Query:=
 if q.kind = 8 then Zt (ZA q) (((q.l.attach.map fun y=>ZD S y.1)[0]?).getD noQ)
 else if q.kind = 2 then Zp S (ZA q) (((q.l.attach.map fun y=>ZD S y.1)[0]?).getD noQ)
 else Zk q (q.l.attach.map fun y=>ZD S y.1)
termination_by SizeOf.sizeOf q
decreasing_by all_goals exact szQ y.2
section
variable {q x y z nd : Query} {n : Nat} {S : List Schema}
theorem Zqu {α β : Type} (f : α → β) (l : List α) : (l.attach.map fun y=>f y.1) = l.map f:=by simp
theorem ZgT : ZD S q = if q.kind = 8 then Zt (ZA q) (((q.l.map (ZD S))[0]?).getD noQ) else if q.kind = 2 then Zp S (ZA q) (((q.l.map (ZD S))[0]?).getD noQ) else Zk q (q.l.map (ZD S)):=by
 rw [ZD,Zqu (ZD S)]
theorem Zks (hk : q.kind = 8) (h : (q.l.map (ZD S))[0]? = some y) : Zt (ZA q) y = ZD S q:=by rw [ZgT (q:=q),if_pos hk,h]; rfl
theorem Zkt (hk : q.kind = 2) (h : (q.l.map (ZD S))[0]? = some y) : Zp S (ZA q) y = ZD S q:=by rw [ZgT (q:=q),if_neg (by omega),if_pos hk,h]; rfl
theorem Zku (h8 : ¬ q.kind = 8) (h2 : ¬ q.kind = 2) : Zk q (q.l.map (ZD S)) = ZD S q:=by rw [ZgT (q:=q),if_neg h8,if_neg h2]
theorem Zs9 (h8 : ¬ q.kind = 8) (h2 : ¬ q.kind = 2) : Zk (ZA q) (q.l.map (ZD S)) = ZD S q:=Zku h8 h2
theorem Zcz : ∀ {q : Query},GdQ q → GdQ (ZD S q)
 | _, .mk q h1 h2 h3=>by
  by_cases c8 : q.kind = 8
  ·obtain ⟨y,hy⟩:=Xw (l:=q.l) (k:=0) (h2.1 (by omega))
   rw [← Zks c8 (y:=ZD S y) (by simp [hy])]
   exact ZhE (Zcz (h3 y (List.mem_of_getElem? hy))) h1 c8
  by_cases c2 : q.kind = 2
  ·obtain ⟨y,hy⟩:=Xw (l:=q.l) (k:=0) (h2.1 (by omega))
   rw [← Zkt c2 (y:=ZD S y) (by simp [hy])]
   exact ZcV (Zcz (h3 y (List.mem_of_getElem? hy))) h1 c2
  rw [← Zku c8 c2]
  refine .mk _ h1 ⟨fun hk=>?_,fun hk=>?_⟩ fun x hx=>?_
  ·show 1 ≤ (q.l.map (ZD S)).length
   rw [List.length_map]; exact h2.1 hk
  ·show 2 ≤ (q.l.map (ZD S)).length
   rw [List.length_map]; exact h2.2 hk
  ·obtain ⟨y,hy,rfl⟩:=List.mem_map.1 hx
   exact Zcz (h3 y hy)
theorem Zlu {k : Nat} (h : q.l[k]? = some x) : (q.l.take (k + 1)).map (ZD S) = (q.l.take k).map (ZD S) ++ [ZD S x]:=by rw [List.take_add_one,h]; simp
noncomputable def Yv (q : Query) (S : List Schema) : Query × Int:=
 if (ZP (Yc q) q S).2 ≠ 0 then (noQ,(ZP (Yc q) q S).2) else if Qp (Yc (ZD S q)) (ZD S q) = true then (ZD S q,0) else (q,0)
theorem ZhF (h : (ZP (Yc q) q S).2 ≠ 0) : noQ = (Yv q S).1 ∧ (ZP (Yc q) q S).2 = (Yv q S).2:=by unfold Yv; rw [if_pos h]; exact ⟨rfl,rfl⟩
theorem Zgp (h : (ZP (Yc q) q S).2 = 0) (h2 : Qp (Yc (ZD S q)) (ZD S q) = true) : ZD S q = (Yv q S).1 ∧ 0 = (Yv q S).2:=by unfold Yv; rw [if_neg (fun e=>e h),if_pos h2]; exact ⟨rfl,rfl⟩
theorem ZhG (h : (ZP (Yc q) q S).2 = 0) (h2 : Qp (Yc (ZD S q)) (ZD S q) = false) : q = (Yv q S).1 ∧ 0 = (Yv q S).2:=by unfold Yv; rw [if_neg (fun e=>e h),if_neg (by rw [h2]; simp)]; exact ⟨rfl,rfl⟩
theorem ZeS {n : Nat} (h : (ZP n q S).2 = 0) : QG S = true ∧ Qp n q = true:=by
 unfold ZP at h
 split at h
 ·split at h
  ·exact ⟨‹_›,‹_›⟩
  ·simp at h
 ·simp at h
theorem ZhH {n : Nat} (hn : Xx q n) (h : (ZP n q S).2 = 0) (hs : smQ n q) : GdQ q:=Zgo hn (ZfL (ZeS h).2 hs)
theorem Zjd {k : Nat} (hq : GdQ q) (h : (q.l.map (ZD S))[k]? = some y) : GdQ y:=by
 obtain ⟨x,hx,rfl⟩:=List.mem_map.1 (List.mem_of_getElem? h)
 exact Zcz (hq.kid hx)
end
end Go.Civ
