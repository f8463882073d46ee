/- Lemmas. -/
import Derived.Test.YtecneejegecmhaaGreatDoorK14
import Derived.Laws.DeepStrings4
import Derived.Laws.Concat
set_option linter.unusedVariables false
set_option linter.unusedSimpArgs false
set_option linter.unnecessarySimpa false
namespace Go.Civ
open Go.RowKit
set_option linter.unusedVariables false
def ZX (a b : Span) : Span × Bool:=if min a.b b.b ≤ max a.a b.a then (⟨0,0⟩,false) else (⟨max a.a b.a,min a.b b.b⟩,true)
def Ym (q : Query) (l : List Query) : Query:=⟨q.kind,q.table,q.cols,q.names,q.cond,q.rel,q.fn,q.span,l⟩
abbrev ZU (q : Query) : Query:=Ym q []
theorem Zuc (c : Cond) : Cond.mk c.kind c.col c.oth c.v c.l = c:=by cases c; rfl
theorem Zud (q : Query) : Query.mk q.kind q.table q.cols q.names q.cond q.rel q.fn q.span q.l = q:=by cases q; rfl
section
variable {a b : Span} {n : Nat} {q : Query} {l : List Schema} {k : Nat}
theorem Zpd (h : min a.b b.b ≤ max a.a b.a) : Span.mk 0 0 = (ZX a b).1 ∧ false = (ZX a b).2:=by unfold ZX; rw [if_pos h]; exact ⟨rfl,rfl⟩
theorem Zpe (h : ¬ min a.b b.b ≤ max a.a b.a) : Span.mk (max a.a b.a) (min a.b b.b) = (ZX a b).1 ∧ true = (ZX a b).2:=by unfold ZX; rw [if_neg h]; exact ⟨rfl,rfl⟩
end
end Go.Civ
namespace Go.Civ
open Go.RowKit
set_option linter.unusedVariables false
def arQ (q : Query) : Prop:=(q.kind = 2 ∨ q.kind = 3 ∨ q.kind = 4 ∨ q.kind = 8 ∨ q.kind = 9 → 1 ≤ q.l.length) ∧ (q.kind = 5 ∨ q.kind = 6 ∨ q.kind = 7 ∨ q.kind = 10 → 2 ≤ q.l.length)
inductive WfQ : Query → Prop
 | mk (q : Query) : arQ q → (∀ x,x ∈ q.l → WfQ x) → WfQ q
theorem WfQ.ar {q : Query} (h : WfQ q) : arQ q:=by cases h; assumption
theorem WfQ.kid {q x : Query} (h : WfQ q) (hx : x ∈ q.l) : WfQ x:=by cases h with | mk _ _ h2=>exact h2 x hx
theorem szQ {q x : Query} (h : x ∈ q.l) : SizeOf.sizeOf x < SizeOf.sizeOf q:=by
 have:=List.sizeOf_lt_of_mem h
 cases q; simp at this ⊢; omega
theorem Zc0 {α β : Type} (f : α → β) (l : List α) (k : Nat) : (l.attach.take k).map (fun y=>f y.1) = (l.take k).map f:=by
 rw [List.map_take,List.map_take]
 congr 1
 simp
def XY (nd x : Query) : Query:=
 if x.kind = 2 ∨ x.kind = 3 ∨ x.kind = 4 ∨ x.kind = 9 then Ym x ((x.l.attach.take 1).map fun y=>XY nd y.1)
 else if x.kind = 5 ∨ x.kind = 6 ∨ x.kind = 7 then Ym x ((x.l.attach.take 2).map fun y=>XY nd y.1)
 else if x.kind = 8 ∧ (ZX nd.span x.span).2 = true then Ym ⟨nd.kind,nd.table,nd.cols,nd.names,nd.cond,nd.rel,nd.fn,(ZX nd.span x.span).1,nd.l⟩ (x.l.take 1)
 else Ym nd [x]
termination_by SizeOf.sizeOf x
decreasing_by all_goals exact szQ y.2
section
variable {nd x y z : Query}
theorem Zgw : XY nd x = if x.kind = 2 ∨ x.kind = 3 ∨ x.kind = 4 ∨ x.kind = 9 then Ym x ((x.l.take 1).map (XY nd))
  else if x.kind = 5 ∨ x.kind = 6 ∨ x.kind = 7 then Ym x ((x.l.take 2).map (XY nd))
  else if x.kind = 8 ∧ (ZX nd.span x.span).2 = true then Ym ⟨nd.kind,nd.table,nd.cols,nd.names,nd.cond,nd.rel,nd.fn,(ZX nd.span x.span).1,nd.l⟩ (x.l.take 1)
  else Ym nd [x]:=by
 rw [XY,Zc0 (XY nd),Zc0 (XY nd)]
theorem ZvW {α : Type} {l : List α} {a : α} (h : l[0]? = some a) : l.take 1 = [a]:=by
 cases l with
 | nil=>cases h
 | cons b l=>obtain rfl:=Option.some.inj h; rfl
theorem Z0I {α : Type} {l : List α} {a b : α} (h : l[0]? = some a) (h2 : l[1]? = some b) : l.take 2 = [a,b]:=by
 match l,h,h2 with
 | c :: d :: l,h,h2=>obtain rfl:=Option.some.inj h; obtain rfl:=Option.some.inj h2; rfl
theorem ZqQ (hk : x.kind = 2 ∨ x.kind = 3 ∨ x.kind = 4 ∨ x.kind = 9) (h : x.l[0]? = some y) : Ym x [XY nd y] = XY nd x:=by rw [Zgw (x:=x),if_pos hk,ZvW h]; rfl
theorem ZvX (hk : x.kind = 8) (hm : (ZX nd.span x.span).2 = true) (h : x.l[0]? = some y) : Ym ⟨nd.kind,nd.table,nd.cols,nd.names,nd.cond,nd.rel,nd.fn,(ZX nd.span x.span).1,nd.l⟩ [y] = XY nd x:=by
 rw [Zgw (x:=x),if_neg (by omega),if_neg (by omega),if_pos ⟨hk,hm⟩,ZvW h]
theorem ZvY (hk : x.kind = 8) (hm : (ZX nd.span x.span).2 = false) : Ym nd [x] = XY nd x:=by
 rw [Zgw (x:=x),if_neg (by omega),if_neg (by omega),if_neg (by rw [hm]; simp)]
theorem ZqR (h2 : ¬ x.kind = 2) (h3 : ¬ x.kind = 3) (h4 : ¬ x.kind = 4) (h9 : ¬ x.kind = 9) (h5 : ¬ x.kind = 5) (h6 : ¬ x.kind = 6) (h7 : ¬ x.kind = 7) (h8 : ¬ x.kind = 8) : Ym nd [x] = XY nd x:=by
 rw [Zgw (x:=x),if_neg (by omega),if_neg (by omega),if_neg (fun e=>h8 e.1)]
end
end Go.Civ
namespace Go.Civ
set_option linter.unusedVariables false
abbrev sJ : Str:=[44,32]
def Z2 (sep : Str) (l : List Str) : Str:=sep.intercalate l
def ZbK (s : Str) : Str:=s.flatMap fun c=>if c = 34 ∨ c = 92 then [92,c] else [c]
abbrev Zhb : Str:=[102,111,114,101,118,101,114]
noncomputable def Yk (t : Int) : Str:=if t = 253402300800 then Zhb else ZeQ (X7 t)
noncomputable def QK (v : Val) : Str:=
 if v.k = 1 then Z8 v.n 1 else if v.k = 3 then (if v.n = 1 then [116,114,117,101] else [102,97,108,115,101]) else if v.k = 4 then Yk v.n else [34] ++ ZbK v.s ++ [34]
def opr (ks : List Int) (p : Int × Str) : Str:=if p.1 ∈ ks then [40] ++ p.2 ++ [41] else p.2
def Zhc (ts : List (Int × Str)) (i : Nat) : Int × Str:=(ts[i]?).getD (0,[])
noncomputable def txK (c : Cond) (ts : List (Int × Str)) : Str:=
 if c.kind = 3 then [97,108,119,97,121,115]
 else if c.kind = 4 then [110,111,116,32] ++ opr [5,6] (Zhc ts 0)
 else if c.kind = 5 then opr [6] (Zhc ts 0) ++ [32,97,110,100,32] ++ opr [6,5] (Zhc ts 1)
 else if c.kind = 6 then opr [] (Zhc ts 0) ++ [32,111,114,32] ++ opr [6] (Zhc ts 1)
 else c.col ++ (if c.kind = 1 then [32,61,32] else [32,60,32]) ++ (if c.oth = [] then QK c.v else c.oth)
theorem szC {q x : Cond} (h : x ∈ q.l) : SizeOf.sizeOf x < SizeOf.sizeOf q:=by
 have:=List.sizeOf_lt_of_mem h
 cases q; simp at this ⊢; omega
theorem Zue {α β : Type} (f : α → β) (l : List α) : l.attach.map (fun y=>f y.1) = l.map f:=by simp
noncomputable def YL (c : Cond) : Str:=txK c (c.l.attach.map fun y=>(y.1.kind,YL y.1))
termination_by SizeOf.sizeOf c
decreasing_by exact szC y.2
noncomputable def ZN (ks : List Int) (x : Cond) : Str:=if x.kind ∈ ks then [40] ++ YL x ++ [41] else YL x
section
variable {c x y : Cond}
theorem ZfI : YL c = txK c (c.l.map fun y=>(y.kind,YL y)):=by rw [YL,Zue (fun y=>(y.kind,YL y))]
theorem ZfJ {i : Nat} (h : c.l[i]? = some x) : Zhc (c.l.map fun y=>(y.kind,YL y)) i = (x.kind,YL x):=by unfold Zhc; rw [List.getElem?_map,h]; rfl
theorem ZfK {ks : List Int} : opr ks (x.kind,YL x) = ZN ks x:=rfl
theorem ZqS (h : c.kind = 3) : [97,108,119,97,121,115] = YL c:=by rw [ZfI,txK,if_pos h]
theorem Znt (h : c.kind = 4) (h0 : c.l[0]? = some x) : [110,111,116,32] ++ ZN [5,6] x = YL c:=by
 rw [ZfI,txK,if_neg (by omega),if_pos h,ZfJ h0,ZfK]
theorem Zed (h : c.kind = 5) (h0 : c.l[0]? = some x) (h1 : c.l[1]? = some y) : ZN [6] x ++ [32,97,110,100,32] ++ ZN [6,5] y = YL c:=by
 rw [ZfI,txK,if_neg (by omega),if_neg (by omega),if_pos h,ZfJ h0,ZfJ h1,ZfK,ZfK]
theorem ZfL (h : c.kind = 6) (h0 : c.l[0]? = some x) (h1 : c.l[1]? = some y) : ZN [] x ++ [32,111,114,32] ++ ZN [6] y = YL c:=by
 rw [ZfI,txK,if_neg (by omega),if_neg (by omega),if_neg (by omega),if_pos h,ZfJ h0,ZfJ h1,ZfK,ZfK]
theorem Zlf (h3 : ¬ c.kind = 3) (h4 : ¬ c.kind = 4) (h5 : ¬ c.kind = 5) (h6 : ¬ c.kind = 6) : c.col ++ (if c.kind = 1 then [32,61,32] else [32,60,32]) ++ (if c.oth = [] then QK c.v else c.oth) = YL c:=by
 rw [ZfI,txK,if_neg h3,if_neg h4,if_neg h5,if_neg h6]
theorem ZvZ {ks : List Int} (h : x.kind ∈ ks) : [40] ++ YL x ++ [41] = ZN ks x:=by unfold ZN; rw [if_pos h]
theorem Zwa {ks : List Int} (h : ¬ x.kind ∈ ks) : YL x = ZN ks x:=by unfold ZN; rw [if_neg h]
theorem Zpg : ZN [5,6] x = ZN [6,5] x:=by
 unfold ZN
 by_cases h5 : x.kind = 5 <;> by_cases h6 : x.kind = 6 <;> simp [h5,h6]
end
def fnN (f : Int) : Str:=if f = 1 then [99,111,117,110,116] else if f = 2 then [115,117,109] else if f = 3 then [109,105,110] else [109,97,120]
def relN : List Str:=[[98,101,102,111,114,101],[109,101,101,116,115],[111,118,101,114,108,97,112,115],[115,116,97,114,116,115],[100,117,114,105,110,103],[102,105,110,105,115,104,101,115],[101,113,117,97,108,115],[102,105,110,105,115,104,101,100,98,121],[99,111,110,116,97,105,110,115],[115,116,97,114,116,101,100,98,121],[111,118,101,114,108,97,112,112,101,100,98,121],[109,101,116,98,121],[97,102,116,101,114]]
def Zhd (r : Int) (i : Nat) : Bool:=decide (Go.bits .and .i64 (r / 2 ^ i) 1 = 1)
def XA (r : Int) (k : Nat) : List Str:=(relN.take k).zipIdx.filterMap fun p=>if Zhd r p.2 = true then some p.1 else none
def Qy (cs ns : List Str) : List Str:=(cs.zip ns).map fun p=>p.1 ++ [32,116,111,32] ++ p.2
def Zbw (q : Query) : List Str:=
 [[103,114,111,117,112]] ++ (if q.cols = [] then [] else [Z2 sJ q.cols]) ++ [fnN q.fn] ++ (if 1 < q.names.length then [(q.names[0]?).getD []] else []) ++ [[97,115],(q.names[q.names.length - 1]?).getD []]
noncomputable def Ya (q : Query) : Str:=
 if q.kind = 1 then [115,99,97,110,32] ++ q.table
 else if q.kind = 2 then [115,101,108,101,99,116,32,40] ++ YL q.cond ++ [41]
 else if q.kind = 3 then [112,114,111,106,101,99,116,32] ++ Z2 sJ q.cols
 else if q.kind = 4 then [114,101,110,97,109,101,32] ++ Z2 sJ (Qy q.cols q.names)
 else if q.kind = 5 then [106,111,105,110]
 else if q.kind = 6 then [117,110,105,111,110]
 else if q.kind = 7 then [101,120,99,101,112,116]
 else if q.kind = 8 then [100,117,114,105,110,103,32] ++ Yk q.span.a ++ [32,116,111,32] ++ Yk q.span.b
 else if q.kind = 9 then Z2 [32] (Zbw q)
 else [114,101,108,97,116,101,32] ++ Z2 sJ (XA q.rel 13)
def ZeU : List Str → Str
 | []=>[]
 | [a]=>[32,111,102,32] ++ a
 | a :: b :: _=>[32,40] ++ a ++ [44,32] ++ b ++ [41]
noncomputable def Z0 (q : Query) : Str:=Ya q ++ ZeU ((q.l.attach.take 2).map fun y=>Z0 y.1)
termination_by SizeOf.sizeOf q
decreasing_by exact szQ y.2
theorem ZfM {q : Query} : Z0 q = Ya q ++ ZeU ((q.l.take 2).map Z0):=by rw [Z0,Zc0 Z0]
section
variable {q x y : Query}
theorem Zuf {α : Type} {l : List α} (h : (l.length : Int) = 0) : l.take 2 = []:=by
 cases l with
 | nil=>rfl
 | cons a l=>simp at h; omega
theorem Zug {α : Type} {l : List α} {a : α} (h : (l.length : Int) = 1) (h0 : l[0]? = some a) : l.take 2 = [a]:=by
 match l,h,h0 with
 | [b],_,h0=>obtain rfl:=Option.some.inj h0; rfl
theorem ZqT (h : (q.l.length : Int) = 0) : Ya q = Z0 q:=by rw [ZfM (q:=q),Zuf h]; simp [ZeU]
theorem ZqU (h : (q.l.length : Int) = 1) (h0 : q.l[0]? = some x) : Ya q ++ [32,111,102,32] ++ Z0 x = Z0 q:=by
 rw [ZfM (q:=q),Zug h h0]; simp only [List.map_cons,List.map_nil,ZeU,List.append_assoc]
theorem ZqV (h0 : q.l[0]? = some x) (h1 : q.l[1]? = some y) : Ya q ++ [32,40] ++ Z0 x ++ [44,32] ++ Z0 y ++ [41] = Z0 q:=by
 rw [ZfM (q:=q),Z0I h0 h1]; simp only [List.map_cons,List.map_nil,ZeU,List.append_assoc]
end
end Go.Civ
namespace Go.Civ
open Go.RowKit
set_option linter.unusedVariables false
section
variable {P : Program} {Q : Exit → Env → World → Prop} {ρ : Env} {w w0 : World} {ops : Array Oper} {rest : List Oper} {K : Env → World → Prop}
variable {d : Nat} {ty : TypeId} {pos : String} {af : Array Edge} {g : Option (Nat × Bool)} {G G0 : GH} {X : List Nat} {L : Own}
theorem Zh {t ty' : TypeId} {x y : Operand} (a b : List UInt8) (h : a.length + b.length ≤ 9223372036854775807)
  (hw : Region.wanted ⟨some d, .binOp .add t x y ty',ty,pos,af,g⟩ (Zu ops ρ) = true) (hx : ev ρ x = Za a) (hy : ev ρ y = Za b)
  (kk : K (ZQ ρ d (Za (a ++ b))) w) : OW P ops ⟨some d, .binOp .add t x y ty',ty,pos,af,g⟩ ρ w K:=by
 refine WL.val hw ?_ rfl kk
 have e : (Op.stringOp .add ⟨a.toArray⟩ ⟨b.toArray⟩).run P w = .ok (.string ⟨(a ++ b).toArray⟩) w:=by
  rw [run_string_add_sum w _ _ (by simp [ByteArray.size]; omega),ByteArray.mk_append_mk]
 have e2 : (binOp .add t (Za a) (Za b)).run P w = .ok (Za (a ++ b)) w:=by
  have : binOp .add t (Za a) (Za b) = Op.stringOp .add ⟨a.toArray⟩ ⟨b.toArray⟩:=by simp [binOp,Za]
  rw [this,e]; rfl
 simp [execOp,hx,hy,Zfx,e2,Result.andThen]
theorem Zdi {t ty' : TypeId} {x y : Operand} (a b : Int) (hb : 1 ≤ b) (ha : Zj a)
  (hw : Region.wanted ⟨some d, .binOp .quo t x y ty',ty,pos,af,g⟩ (Zu ops ρ) = true) (hx : ev ρ x = .int .i64 a) (hy : ev ρ y = .int .i64 b)
  (kk : K (ZQ ρ d (.int .i64 (a.tdiv b))) w) : OW P ops ⟨some d, .binOp .quo t x y ty',ty,pos,af,g⟩ ρ w K:=by
 have hI : Zj (a.tdiv b):=by
  have h1 : (a.tdiv b).natAbs ≤ a.natAbs:=by rw [Int.natAbs_tdiv]; exact Nat.div_le_self _ _
  have h2 : 0 ≤ a → 0 ≤ a.tdiv b:=fun h=>Int.tdiv_nonneg h (by omega)
  have h5 : a ≤ 0 → 0 ≤ (-a).tdiv b:=fun h=>Int.tdiv_nonneg (by omega) (by omega)
  rw [Int.neg_tdiv] at h5
  obtain ⟨h3,h4⟩:=ha
  generalize a.tdiv b = q at h1 h2 h5
  constructor <;> omega
 refine WL.val hw ?_ rfl kk
 simp [execOp,hx,hy,binOp,XV,Op.intDiv,show b ≠ 0 by omega,Zmg hI,Result.andThen]
theorem Zgx {t ty' : TypeId} {x y : Operand} (a b : Int) (hb : 1 ≤ b)
  (hw : Region.wanted ⟨some d, .binOp .rem t x y ty',ty,pos,af,g⟩ (Zu ops ρ) = true) (hx : ev ρ x = .int .i64 a) (hy : ev ρ y = .int .i64 b)
  (kk : K (ZQ ρ d (.int .i64 (a.tmod b))) w) : OW P ops ⟨some d, .binOp .rem t x y ty',ty,pos,af,g⟩ ρ w K:=by
 refine WL.val hw ?_ rfl kk
 simp [execOp,hx,hy,binOp,XV,Op.intDiv,show b ≠ 0 by omega,Result.andThen]
theorem Zwb {a b : Int} (h : 0 ≤ a) : a.tdiv b = a / b:=Int.tdiv_eq_ediv_of_nonneg h
theorem Zwc {a b : Int} (h : 0 ≤ a) : a.tmod b = a % b:=Int.tmod_eq_emod_of_nonneg h
theorem YZ {t ty' : TypeId} {x y : Operand} (a b : Int) (hb : 1 ≤ b) (h0 : 0 ≤ a) (ha : Zj a)
  (hw : Region.wanted ⟨some d, .binOp .quo t x y ty',ty,pos,af,g⟩ (Zu ops ρ) = true) (hx : ev ρ x = .int .i64 a) (hy : ev ρ y = .int .i64 b)
  (kk : K (ZQ ρ d (.int .i64 (a / b))) w) : OW P ops ⟨some d, .binOp .quo t x y ty',ty,pos,af,g⟩ ρ w K:=
 Zdi a b hb ha hw hx hy (by rw [Zwb h0]; exact kk)
theorem XG {t ty' : TypeId} {x y : Operand} (a b : Int) (hb : 1 ≤ b) (h0 : 0 ≤ a)
  (hw : Region.wanted ⟨some d, .binOp .rem t x y ty',ty,pos,af,g⟩ (Zu ops ρ) = true) (hx : ev ρ x = .int .i64 a) (hy : ev ρ y = .int .i64 b)
  (kk : K (ZQ ρ d (.int .i64 (a % b))) w) : OW P ops ⟨some d, .binOp .rem t x y ty',ty,pos,af,g⟩ ρ w K:=
 Zgx a b hb hw hx hy (by rw [Zwc h0]; exact kk)
theorem ZqW (s : List UInt8) (n : Nat) (h : n ≤ s.length) : (⟨s.toArray⟩ : ByteArray).extract 0 n = ⟨(s.take n).toArray⟩:=by
 have e:=Lib.extract_toList ⟨s.toArray⟩ 0 n
 cases q : (⟨s.toArray⟩ : ByteArray).extract 0 n with
 | mk data=>
  rw [q] at e
  have e2 : data.toList = s.take n:=by rw [ByteArray.toList_mk] at e; simpa using e
  rw [← e2]
theorem Zuh (s : List UInt8) (a b : Nat) : (⟨s.toArray⟩ : ByteArray).extract a b = ⟨((s.drop a).take (b - a)).toArray⟩:=by
 have e:=Lib.extract_toList ⟨s.toArray⟩ a b
 cases q : (⟨s.toArray⟩ : ByteArray).extract a b with
 | mk data=>
  rw [q] at e
  have e2 : data.toList = (s.drop a).take (b - a):=by rw [ByteArray.toList_mk] at e; simpa using e
  rw [← e2]
theorem ZqX {t : TypeId} {x h : Operand} (s : List UInt8) (n : Nat) (hn : n ≤ s.length) (hu : P.underlying t = some .string)
  (hw : Region.wanted ⟨some d, .slice t x none (some h) none,ty,pos,af,g⟩ (Zu ops ρ) = true) (hx : ev ρ x = Za s) (hh : ev ρ h = .int .i64 (n : Int))
  (kk : K (ZQ ρ d (Za (s.take n))) w) : OW P ops ⟨some d, .slice t x none (some h) none,ty,pos,af,g⟩ ρ w K:=by
 refine WL.val hw ?_ rfl kk
 have hs : ((⟨s.toArray⟩ : ByteArray).size : Int) = s.length:=by simp [ByteArray.size]
 have e:=run_slice_string_h w t ⟨s.toArray⟩ hu .i64 (n : Int) (by omega) (by rw [hs]; omega)
 rw [Int.toNat_natCast,ZqW s n hn] at e
 simp [execOp,hx,hh,Za,run_sliceAt_string w t _ _ _ _ hu,e,Result.andThen]
theorem Zhe {t : TypeId} {x l h : Operand} (s : List UInt8) (n : Nat) (c : UInt8) (hc : s[n]? = some c) (hu : P.underlying t = some .string)
  (hw : Region.wanted ⟨some d, .slice t x (some l) (some h) none,ty,pos,af,g⟩ (Zu ops ρ) = true) (hx : ev ρ x = Za s) (hl : ev ρ l = .int .i64 (n : Int)) (hh : ev ρ h = .int .i64 ((n + 1 : Nat) : Int))
  (kk : K (ZQ ρ d (Za [c])) w) : OW P ops ⟨some d, .slice t x (some l) (some h) none,ty,pos,af,g⟩ ρ w K:=by
 refine WL.val hw ?_ rfl kk
 have hlt:=(List.getElem?_eq_some_iff.1 hc).1
 have hs : (⟨s.toArray⟩ : ByteArray).size = s.length:=by simp [ByteArray.size]
 have e2 : (s.drop n).take (n + 1 - n) = [c]:=by
  rw [show n + 1 - n = 1 by omega,List.drop_eq_getElem_cons hlt]
  rw [List.getElem?_eq_getElem hlt] at hc
  rw [Option.some.inj hc]; rfl
 have e : (Instr.slice t (.string ⟨s.toArray⟩) (some (.int .i64 (n : Int))) (some (.int .i64 ((n + 1 : Nat) : Int))) none).run P w = .ok (Za [c]) w:=by
  rw [run_slice_string_if w t _ .i64 .i64 _ _ hu]
  rw [if_pos (by rw [hs]; omega),if_pos (by omega),Int.toNat_natCast,Int.toNat_natCast,Zuh,e2]; rfl
 simp only [Za] at e
 rw [show ((n + 1 : Nat) : Int) = (n : Int) + 1 by omega] at e hh
 simp [execOp,hx,hl,hh,Za,run_sliceAt_string w t _ _ _ _ hu,e,Result.andThen]
def Zhf (P : Program) (t : TypeId) (G : GH) (v : Value) (f : Str → Int) : Prop:=
 ∀ w,G.In w → ∀ s : Str,s.length ≤ reach → (Instr.lookup t v (Za s) false).run P w = .ok (.int .i64 (f s)) w ∧ Zj (f s)
theorem Zhf.mono {t : TypeId} {v : Value} {f : Str → Int} {G' : GH} (hle : G.le G') (h : Zhf P t G v f) : Zhf P t G' v f:=
 fun w hw=>h w fun b o hb=>hw b o (hle b o hb)
theorem ZhP {t : TypeId} {m x : Operand} {v : Value} {f : Str → Int} (s : Str) (hm : Zhf P t G v f) (hS : St w0 X G0 G L w) (hs : s.length ≤ reach)
  (hw : Region.wanted ⟨some d, .lookup t m x false,ty,pos,af,g⟩ (Zu ops ρ) = true) (he : ev ρ m = v) (hx : ev ρ x = Za s)
  (kk : Zj (f s) → K (ZQ ρ d (.int .i64 (f s))) w) : OW P ops ⟨some d, .lookup t m x false,ty,pos,af,g⟩ ρ w K:=by
 obtain ⟨h1,h2⟩:=hm w hS.imm s hs
 refine WL.val hw ?_ rfl (kk h2)
 simp [execOp,he,hx,h1,Result.andThen]
end
theorem Zjr {w w' : World} {G : GH} (hG : G.In w) (h : Below w.heap.size w w') : Res [] w G w' G:=
 ⟨⟨h.os,h.tape,h.output,trivial,h.size,fun k hk _=>h.block k hk⟩,G.le_refl,fun _ _=>rfl,fun b o hb=>(h.block b (hG.lt hb)).trans (hG b o hb)⟩
def ZcN : Enc Dat:=(Enc.pair .int (Enc.pair .int .int)).via fun x=>(x.y,x.m,x.d)
def Zi7 : Enc Tim:=(Enc.pair .int (Enc.pair .int .int)).via fun x=>(x.h,x.m,x.s)
def Zhg : Enc Mom:=(Enc.pair ZcN Zi7).via fun x=>(x.d,x.t)
section
variable {G : GH} {cs : List Value}
theorem QZ {x : Dat} (h : ZcN.rep G x cs) : cs = [.int .i64 x.y, .int .i64 x.m, .int .i64 x.d] ∧ Zj x.y ∧ Zj x.m ∧ Zj x.d:=by
 obtain ⟨_,_,rfl,⟨rfl,h1⟩,_,_,rfl,⟨rfl,h2⟩,rfl,h3⟩:=h
 exact ⟨rfl,h1,h2,h3⟩
theorem Qw (x : Dat) (h1 : Zj x.y) (h2 : Zj x.m) (h3 : Zj x.d) : ZcN.rep G x [.int .i64 x.y, .int .i64 x.m, .int .i64 x.d]:=⟨_,_,rfl,⟨rfl,h1⟩,_,_,rfl,⟨rfl,h2⟩,rfl,h3⟩
theorem ZdN {x : Tim} (h : Zi7.rep G x cs) : cs = [.int .i64 x.h, .int .i64 x.m, .int .i64 x.s] ∧ Zj x.h ∧ Zj x.m ∧ Zj x.s:=by
 obtain ⟨_,_,rfl,⟨rfl,h1⟩,_,_,rfl,⟨rfl,h2⟩,rfl,h3⟩:=h
 exact ⟨rfl,h1,h2,h3⟩
theorem Zdj (x : Tim) (h1 : Zj x.h) (h2 : Zj x.m) (h3 : Zj x.s) : Zi7.rep G x [.int .i64 x.h, .int .i64 x.m, .int .i64 x.s]:=⟨_,_,rfl,⟨rfl,h1⟩,_,_,rfl,⟨rfl,h2⟩,rfl,h3⟩
theorem ZbS {x : Mom} (h : Zhg.rep G x cs) : cs = [.int .i64 x.d.y, .int .i64 x.d.m, .int .i64 x.d.d, .int .i64 x.t.h, .int .i64 x.t.m, .int .i64 x.t.s] ∧ Zj x.d.y ∧ Zj x.d.m ∧ Zj x.d.d ∧ Zj x.t.h ∧ Zj x.t.m ∧ Zj x.t.s:=by
 obtain ⟨_,_,rfl,h1,h2⟩:=h
 obtain ⟨rfl,a,b,c⟩:=QZ h1
 obtain ⟨rfl,a',b',c'⟩:=ZdN h2
 exact ⟨rfl,a,b,c,a',b',c'⟩
theorem Zdk (x : Mom) (h1 : Zj x.d.y) (h2 : Zj x.d.m) (h3 : Zj x.d.d) (h4 : Zj x.t.h) (h5 : Zj x.t.m) (h6 : Zj x.t.s) : Zhg.rep G x [.int .i64 x.d.y, .int .i64 x.d.m, .int .i64 x.d.d, .int .i64 x.t.h, .int .i64 x.t.m, .int .i64 x.t.s]:=
 ⟨_,_,rfl,Qw x.d h1 h2 h3,Zdj x.t h4 h5 h6⟩
end
end Go.Civ
