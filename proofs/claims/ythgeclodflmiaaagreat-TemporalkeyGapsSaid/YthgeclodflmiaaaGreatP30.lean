/- Lemmas. -/
import Derived.Test.YthgeclodflmiaaaGreatP29
namespace Go.Civ
open Go.RowKit
open Go.Lib (compact)
set_option linter.unusedVariables false
section
variable (M : List Val → List Val → Bool) (l : List HRow)
def YH (r : HRow) (fr : Int) : List Int:=(l.filter fun o=>decide (Yj r fr < o.r.x.b) && M r.v o.v).map fun o=>o.r.x.b
def ZdI (r : HRow) (fr : Int) : List Int:=compact (X2 (Yj r fr :: YH M l r fr))
def Yg (t : List HRow) (fr : Int) : List Pt:=t.filterMap fun r=>XC M l r (ZdI M l r fr)
def ZdJ (t : List HRow) (fr : Int) : Option Pt:=match Yg M l t fr with
 | []=>none
 | q :: r=>some (YN (q :: r))
end
section
variable {M : List Val → List Val → Bool} {l t : List HRow} {v : List Val} {x y fr : Int} {r : HRow} {p : Pt}
theorem Zn2 : (ZdI M l r fr).Pairwise (· < ·):=(ZcR (Zc8 _)).inc
theorem ZhT {z : Int} : z ∈ ZdI M l r fr ↔ Zit M l r fr z:=by
 unfold ZdI Zit YH
 rw [Zfj (Zc8 _),(Zdw _).mem_iff,List.mem_cons,List.mem_map]
 constructor
 ·rintro (h | ⟨o,ho,e⟩)
  ·exact .inl h
  ·rw [List.mem_filter,Bool.and_eq_true,decide_eq_true_eq] at ho
   exact .inr ⟨o,ho.1,ho.2.1,ho.2.2,e⟩
 ·rintro (h | ⟨o,ho,h1,h2,e⟩)
  ·exact .inl h
  ·exact .inr ⟨o,List.mem_filter.2 ⟨ho,by rw [Bool.and_eq_true,decide_eq_true_eq]; exact ⟨h1,h2⟩⟩,e⟩
theorem ZdK : p ∈ Yg M l t fr ↔ ∃ r ∈ t,XC M l r (ZdI M l r fr) = some p:=List.mem_filterMap
theorem Zpn (hgt : ZA t) : VP (Yg M l t fr):=fun p hp=>by
 obtain ⟨r,hr,h⟩:=ZdK.1 hp
 rw [(ZbC h).2.2.1]; exact (ZU (hgt r hr)).1
theorem ZeF (hgl : ZA l) (hgt : ZA t) (hp : p ∈ Yg M l t fr) :
  ZgJ M l t p.v p.vd p.tx ∧ fr ≤ p.tx ∧ (p.tx = fr ∨ (∃ q ∈ t,q.r.x.a = p.tx) ∨ ∃ o ∈ l,o.r.x.b = p.tx) ∧ ((∃ q ∈ t,q.r.d.a = p.vd) ∨ ∃ o ∈ l,o.r.d.b = p.vd):=by
 obtain ⟨r,hr,h⟩:=ZdK.1 hp
 exact Zn0 hgl hgt hr (fun z hz=>ZhT.1 hz) h
theorem ZgK (hgl : ZA l) (hgt : ZA t) (hf : fr ≤ x) (h : ZgJ M l t v y x) : ∃ p ∈ Yg M l t fr,p.v = v ∧ (p.tx < x ∨ (p.tx = x ∧ p.vd ≤ y)):=by
 obtain ⟨r,hr,e,k⟩:=ZjK (fr:=fr) hgl hgt hf h
 obtain ⟨p,hp,hq⟩:=k _ Zn2 (fun z=>ZhT)
 exact ⟨p,ZdK.2 ⟨r,hr,hp⟩,by rw [(ZbC hp).2.2.1,e],hq⟩
theorem ZhU (h : Yg M l t fr = []) : ZdJ M l t fr = none:=by unfold ZdJ; rw [h]
theorem ZeG (h : Yg M l t fr ≠ []) : ZdJ M l t fr = some (YN (Yg M l t fr)):=by
 unfold ZdJ
 cases e : Yg M l t fr with
 | nil=>exact absurd e h
 | cons a r=>rfl
end
def YY (s : Schema) (cs : List (List UInt8)) (v : List Val) : List Val:=cs.map fun c=>Zdr v (Yy (s.cols.map Col.name) c)
def XY (s : Schema) (cs : List (List UInt8)) (v u : List Val) : Bool:=decide (u.take cs.length = YY s cs v)
def ZeH (s : Schema) (f : Foreign) : Bool:=s.fks.any fun g=>decide (g.table = f.table) && decide (g.cols = f.cols)
def Zbu (t o : Schema) (j : Nat) (c : List UInt8) : Bool:=decide (Zed t.cols (Yy (t.cols.map Col.name) c) = Zed o.cols (j : Int))
def Zpo (t o : Schema) (cs : List (List UInt8)) : Bool:=cs.zipIdx.all fun p=>Zbu t o p.2 p.1
def YP (t o : Schema) (f : Foreign) : Bool:=ZeH t f && (decide (f.table = o.name) && (decide ((f.cols.length : Int) = o.key) && Zpo t o f.cols))
section
variable {s t o : Schema} {f : Foreign} {cs : List (List UInt8)} {c : List UInt8} {v u : List Val} {k : Nat}
theorem ZfH (hs : Yl s = true) (h : ZeH s f = true) : ∀ c ∈ f.cols,0 ≤ Yy (s.cols.map Col.name) c:=fun c hc=>by
 unfold ZeH at h
 rw [List.any_eq_true] at h
 obtain ⟨g,hg,e⟩:=h
 rw [Bool.and_eq_true,decide_eq_true_eq,decide_eq_true_eq] at e
 unfold Yl at hs
 simp only [Bool.and_eq_true,List.all_eq_true] at hs
 have h2:=hs.2.2 g hg
 unfold fkB at h2
 simp only [Bool.and_eq_true,List.all_eq_true,decide_eq_true_eq] at h2
 exact h2.2 c (by rw [e.2]; exact hc)
theorem Zsw {l : List (List UInt8)} : (Yy l c).toNat < l.length ∨ Yy l c < 0:=by
 unfold Yy Q6
 split
 ·rename_i i hi
  left
  have:=(List.findIdx?_eq_some_iff_getElem.1 hi).1
  omega
 ·right; decide
theorem Zdg (h : 0 ≤ Yy (s.cols.map Col.name) c) : (Yy (s.cols.map Col.name) c).toNat < s.cols.length:=by
 rcases Zsw (c:=c) (l:=s.cols.map Col.name) with k | k
 ·rwa [List.length_map] at k
 ·omega
theorem Zn3 (hs : Yl t = true) (h : YP t o f = true) : (∀ c ∈ f.cols,0 ≤ Yy (t.cols.map Col.name) c) ∧ (f.cols.length : Int) = o.key:=by
 unfold YP at h
 simp only [Bool.and_eq_true,decide_eq_true_eq] at h
 exact ⟨ZfH hs h.1,h.2.2.1⟩
theorem ZcV {l : List Col} {i : Int} {x : Col} (h : l[i.toNat]? = some x) : Zed l i = x.kind:=by unfold Zed; rw [h]
theorem ZgL {l : List Col} {i : Nat} {x : Col} (h : l[i]? = some x) : Zed l (i : Int) = x.kind:=ZcV (by simpa using h)
theorem Zn4 {j : Nat} {x z : Col} (h1 : t.cols[(Yy (t.cols.map Col.name) c).toNat]? = some x) (h2 : o.cols[j]? = some z) (h : x.kind = z.kind) : Zbu t o j c = true:=by
 unfold Zbu; rw [ZcV h1,ZgL h2]; exact decide_eq_true h
theorem Zn5 {j : Nat} {x z : Col} (h1 : t.cols[(Yy (t.cols.map Col.name) c).toNat]? = some x) (h2 : o.cols[j]? = some z) (h : x.kind ≠ z.kind) : Zbu t o j c = false:=by
 unfold Zbu; rw [ZcV h1,ZgL h2]; exact decide_eq_false h
theorem Zn6 {α : Type} {P : Nat → α → Bool} {l : List α} {x : α} (h : l[k]? = some x) (hx : P k x = false) : (l.zipIdx.all fun p=>P p.2 p.1) = false:=by
 rw [Bool.eq_false_iff]
 intro e
 rw [List.all_eq_true] at e
 have:=e (x,k) (List.mem_zipIdx_iff_getElem?.2 h)
 rw [hx] at this; cases this
theorem ZlR {α : Type} {P : Nat → α → Bool} {l : List α} (h : ∀ j,j < k → ∀ x,l[j]? = some x → P j x = true) (hk : l.length ≤ k) : (l.zipIdx.all fun p=>P p.2 p.1) = true:=by
 rw [List.all_eq_true]
 rintro ⟨x,j⟩ hm
 have hj:=List.mem_zipIdx_iff_getElem?.1 hm
 have:=(List.getElem?_eq_some_iff.1 hj).1
 exact h j (by simp at this ⊢; omega) x hj
theorem Zn7 (h : ZeH t f = false) : false = YP t o f:=by unfold YP; rw [h]; rfl
theorem Zn8 (h : f.table ≠ o.name) : false = YP t o f:=by unfold YP; rw [decide_eq_false h]; simp
theorem Zn9 (h : (f.cols.length : Int) ≠ o.key) : false = YP t o f:=by unfold YP; rw [decide_eq_false h]; simp
theorem ZnA (h : f.cols[k]? = some c) (h2 : Zbu t o k c = false) : false = YP t o f:=by unfold YP Zpo; rw [Zn6 (P:=fun j c=>Zbu t o j c) h h2]; simp
theorem ZnB (h1 : ZeH t f = true) (h2 : f.table = o.name) (h3 : (f.cols.length : Int) = o.key) (h4 : ∀ j,j < k → ∀ c,f.cols[j]? = some c → Zbu t o j c = true) (hk : f.cols.length ≤ k) : true = YP t o f:=by
 unfold YP Zpo; rw [h1,decide_eq_true h2,decide_eq_true h3,ZlR (P:=fun j c=>Zbu t o j c) h4 hk]; rfl
theorem ZdL {i : Int} {x : Val} (h : v[i.toNat]? = some x) : Zdr v i = x:=by unfold Zdr; rw [h]
theorem Ztz {a b : Val} (h : cs[k]? = some c) (h1 : v[(Yy (s.cols.map Col.name) c).toNat]? = some a) (h2 : u[k]? = some b) (hne : a ≠ b) : false = XY s cs v u:=by
 refine (decide_eq_false fun e=>hne ?_).symm
 have hk:=(List.getElem?_eq_some_iff.1 h).1
 have:=congrArg (fun (l : List Val)=>l[k]?) e
 simp only [YY,List.getElem?_map,h,Option.map_some,List.getElem?_take,if_pos hk,h2] at this
 rw [ZdL h1] at this
 exact (Option.some.inj this).symm
theorem Zsx (hl : cs.length ≤ u.length) (h : ∀ j,j < k → ∀ c,cs[j]? = some c → u[j]? = some (Zdr v (Yy (s.cols.map Col.name) c))) (hk : cs.length ≤ k) : true = XY s cs v u:=by
 refine (decide_eq_true ?_).symm
 apply List.ext_getElem?
 intro i
 unfold YY
 rw [List.getElem?_take,List.getElem?_map]
 split
 ·rename_i hi
  have hc : cs[i]? = some cs[i]:=List.getElem?_eq_getElem hi
  rw [h i (by omega) _ hc,hc]; rfl
 ·rw [List.getElem?_eq_none (by omega)]; rfl
theorem Zrf {a b : Val} (h : ∀ j,j < k → ∀ c,cs[j]? = some c → u[j]? = some (Zdr v (Yy (s.cols.map Col.name) c))) (hc : cs[k]? = some c) (h1 : v[(Yy (s.cols.map Col.name) c).toNat]? = some a) (h2 : u[k]? = some b) (e : a = b) :
  ∀ j,j < k + 1 → ∀ c,cs[j]? = some c → u[j]? = some (Zdr v (Yy (s.cols.map Col.name) c)):=fun j hj d hd=>by
 by_cases q : j = k
 ·subst q
  rw [hc] at hd
  obtain rfl:=Option.some.inj hd
  rw [ZdL h1,h2,e]
 ·exact h j (by omega) d hd
end
end Go.Civ
namespace Go.Civ
open Go.RowKit
open Go.Lib (compact)
set_option linter.unusedVariables false
structure Link where
 t : Table
 o : Table
 f : Foreign
def ZgM : Enc Link:=(Enc.pair TableE (Enc.pair TableE ForeignE)).via fun x=>(x.t,x.o,x.f)
section
variable {G : GH} {cs : List Value}
theorem ZdM {x : Link} (h : ZgM.rep G x cs) : ∃ v u r v' u' r' c,cs = [Zd x.t.s.name,v, .int .i64 x.t.s.key,u,r, .int .i64 x.t.last,Zd x.o.s.name,v', .int .i64 x.o.s.key,u',r', .int .i64 x.o.last,c,Zd x.f.table] ∧
  x.t.s.name.length ≤ reach ∧ Sl ColE 24 G v x.t.s.cols ∧ Zy x.t.s.key ∧ Sl ForeignE 40 G u x.t.s.fks ∧ Sl HRowE 56 G r x.t.rows ∧ Zy x.t.last ∧
  x.o.s.name.length ≤ reach ∧ Sl ColE 24 G v' x.o.s.cols ∧ Zy x.o.s.key ∧ Sl ForeignE 40 G u' x.o.s.fks ∧ Sl HRowE 56 G r' x.o.rows ∧ Zy x.o.last ∧ Sl Enc.str 16 G c x.f.cols ∧ x.f.table.length ≤ reach:=by
 obtain ⟨c1,c2,rfl,h1,c3,c4,rfl,h2,h3⟩:=h
 obtain ⟨v,u,r,rfl,a1,a2,a3,a4,a5,a6⟩:=Z0 h1
 obtain ⟨v',u',r',rfl,b1,b2,b3,b4,b5,b6⟩:=Z0 h2
 obtain ⟨c,rfl,d1,d2⟩:=Y1 h3
 exact ⟨v,u,r,v',u',r',c,rfl,a1,a2,a3,a4,a5,a6,b1,b2,b3,b4,b5,b6,d1,d2⟩
theorem Zcz (x : Link) {v u r v' u' r' c : Value} (a1 : x.t.s.name.length ≤ reach) (a2 : Sl ColE 24 G v x.t.s.cols) (a3 : Zy x.t.s.key) (a4 : Sl ForeignE 40 G u x.t.s.fks) (a5 : Sl HRowE 56 G r x.t.rows) (a6 : Zy x.t.last)
  (b1 : x.o.s.name.length ≤ reach) (b2 : Sl ColE 24 G v' x.o.s.cols) (b3 : Zy x.o.s.key) (b4 : Sl ForeignE 40 G u' x.o.s.fks) (b5 : Sl HRowE 56 G r' x.o.rows) (b6 : Zy x.o.last) (d1 : Sl Enc.str 16 G c x.f.cols) (d2 : x.f.table.length ≤ reach) :
  ZgM.rep G x [Zd x.t.s.name,v, .int .i64 x.t.s.key,u,r, .int .i64 x.t.last,Zd x.o.s.name,v', .int .i64 x.o.s.key,u',r', .int .i64 x.o.last,c,Zd x.f.table]:=
 ⟨_,_,rfl,Zl x.t a1 a2 a3 a4 a5 a6,_,_,rfl,Zl x.o b1 b2 b3 b4 b5 b6,Xc x.f d1 d2⟩
end
theorem ZdN {s : Schema} (h : Yl s = true) : 1 ≤ s.key ∧ s.key ≤ s.cols.length:=by
 unfold Yl XB at h
 simp only [Bool.and_eq_true,decide_eq_true_eq] at h
 obtain ⟨⟨⟨⟨⟨⟨_,h2⟩,h3⟩,h4⟩,h5⟩,h6⟩,h7⟩:=h.1
 exact ⟨h4,h5⟩
structure LinkOk (x : Link) : Prop where
 t : Zm x.t = true
 o : Zm x.o = true
 cols : ∀ c ∈ x.f.cols,0 ≤ Yy (x.t.s.cols.map Col.name) c
 key : (x.f.cols.length : Int) = x.o.s.key
abbrev lM (x : Link) : List Val → List Val → Bool:=XY x.t.s x.f.cols
def YK (x : Link) (fr : Int) : Option Pt:=ZdJ (lM x) x.o.rows x.t.rows fr
theorem Zbv {t o : Table} {f : Foreign} (h1 : Zm t = true) (h2 : Zm o = true) (h3 : YP t.s o.s f = true) : LinkOk ⟨t,o,f⟩:=by
 have hf:=Zn3 (Y3 h1).1 h3
 exact ⟨h1,h2,hf.1,hf.2⟩
section
variable {x : Link} {v : List Val} {r : HRow}
theorem LinkOk.len (h : LinkOk x) (hr : r ∈ x.t.rows) : x.t.s.cols.length ≤ r.v.length:=by
 have:=QK h.t hr
 have h4:=this.2.2.2.1
 omega
theorem LinkOk.olen (h : LinkOk x) (hr : r ∈ x.o.rows) : x.f.cols.length ≤ r.v.length:=by
 have h1:=QK h.o hr
 have h2:=ZdN (Y3 h.o).1
 have h3:=h.key
 have h4:=h1.2.2.2.1
 omega
end
section
variable {M : List Val → List Val → Bool} {l t : List HRow} {v : List Val} {x tx fr : Int} {r o : HRow} {k : Nat} {ts : List Int}
theorem Zpp (h : l[k]? = some o) (h1 : Xf tx o.r.x = true) (h2 : M v o.v = true) : Qw M (l.take (k + 1)) v tx = Qw M (l.take k) v tx ++ [o.r.d]:=by
 have h3 : Y6 tx o = true:=h1
 rw [List.take_add_one,h]; unfold Qw; simp [h3,h2]
theorem ZkF (h : l[k]? = some o) (h1 : Xf tx o.r.x = false ∨ M v o.v = false) : Qw M (l.take (k + 1)) v tx = Qw M (l.take k) v tx:=by
 have h3 : (Y6 tx o && M v o.v) = false:=by
  have e : Y6 tx o = Xf tx o.r.x:=rfl
  rw [e]; rcases h1 with h1 | h1 <;> rw [h1] <;> simp
 rw [List.take_add_one,h]; unfold Qw; simp [h3]
theorem ZfI (l : List HRow) (v : List Val) (tx : Int) : (Qw M l v tx).length ≤ l.length:=by unfold Qw; rw [List.length_map]; exact List.length_filter_le _ _
theorem ZjL (l : List HRow) (v : List Val) (tx : Int) (k : Nat) : (Qw M (l.take k) v tx).length ≤ l.length:=Nat.le_trans (ZfI _ _ _) (List.length_take_le' _ _)
theorem ZnC (h : l[k]? = some o) (h1 : Yj r fr < o.r.x.b) (h2 : M r.v o.v = true) : YH M (l.take (k + 1)) r fr = YH M (l.take k) r fr ++ [o.r.x.b]:=by
 rw [List.take_add_one,h]; unfold YH; simp [h1,h2]
theorem ZjM (h : l[k]? = some o) (h1 : o.r.x.b ≤ Yj r fr ∨ M r.v o.v = false) : YH M (l.take (k + 1)) r fr = YH M (l.take k) r fr:=by
 have h3 : (decide (Yj r fr < o.r.x.b) && M r.v o.v) = false:=by
  rcases h1 with h1 | h1
  ·rw [decide_eq_false (by omega)]; rfl
  ·rw [h1]; simp
 rw [List.take_add_one,h]; unfold YH; simp [h3]
theorem ZnD (l : List HRow) (k : Nat) : (YH M (l.take k) r fr).length ≤ l.length:=by
 unfold YH; rw [List.length_map]; exact Nat.le_trans (List.length_filter_le _ _) (List.length_take_le' _ _)
theorem Zhk {α : Type} {l : List α} {a : α} (h : l[k]? = some a) : l.drop k = a :: l.drop (k + 1):=by
 obtain ⟨h1,h2⟩:=List.getElem?_eq_some_iff.1 h
 rw [List.drop_eq_getElem_cons h1,h2]
theorem Zpq (h : ts[k]? = some x) (h1 : Xf x r.r.x = false) : XC M l r (ts.drop k) = none:=by rw [Zhk h]; unfold XC; rw [if_neg (by rw [h1]; simp)]
theorem Zpr {s : Span} (h : ts[k]? = some x) (h1 : Xf x r.r.x = true) (h2 : (Yk M l r.v r.r.d x)[0]? = some s) : XC M l r (ts.drop k) = some ⟨x,s.a,r.v⟩:=by
 rw [Zhk h]
 unfold XC
 rw [if_pos h1]
 cases e : Yk M l r.v r.r.d x with
 | nil=>rw [e] at h2; cases h2
 | cons a q=>rw [e] at h2; obtain rfl:=Option.some.inj h2; rfl
theorem ZnE (h : ts[k]? = some x) (h1 : Xf x r.r.x = true) (h2 : ((Yk M l r.v r.r.d x).length : Int) ≤ 0) : XC M l r (ts.drop k) = XC M l r (ts.drop (k + 1)):=by
 have e : Yk M l r.v r.r.d x = []:=List.length_eq_zero_iff.1 (by omega)
 rw [Zhk h]
 show (if Xf x r.r.x then (match Yk M l r.v r.r.d x with | s :: _=>some ⟨x,s.a,r.v⟩ | []=>XC M l r (ts.drop (k + 1))) else none) = _
 rw [if_pos h1,e]
theorem Zps (h : ts.length ≤ k) : XC M l r (ts.drop k) = none:=by rw [List.drop_eq_nil_of_le h]; rfl
theorem ZgN (h : t[k]? = some r) (h1 : XC M l r (ZdI M l r fr) = none) : Yg M l (t.take (k + 1)) fr = Yg M l (t.take k) fr:=by
 rw [List.take_add_one,h]; unfold Yg; simp [List.filterMap_append,h1]
theorem ZlS {p : Pt} (h : t[k]? = some r) (h1 : XC M l r (ZdI M l r fr) = some p) : Yg M l (t.take (k + 1)) fr = Yg M l (t.take k) fr ++ [p]:=by
 rw [List.take_add_one,h]; unfold Yg; simp [List.filterMap_append,h1]
theorem ZnF (t : List HRow) (k : Nat) : (Yg M l (t.take k) fr).length ≤ t.length:=by
 unfold Yg; exact Nat.le_trans (List.length_filterMap_le _ _) (List.length_take_le' _ _)
theorem Zqf (h : ((Yg M l (t.take k) fr).length : Int) = 0) (hk : t.length ≤ k) : Pt.mk 0 0 [] = ZD (ZdJ M l t fr) ∧ false = (ZdJ M l t fr).isSome:=by
 rw [List.take_of_length_le hk] at h
 rw [ZhU (List.length_eq_zero_iff.1 (by omega))]; exact ⟨rfl,rfl⟩
theorem Zqg (h : ((Yg M l (t.take k) fr).length : Int) ≠ 0) (hk : t.length ≤ k) : YN (Yg M l (t.take k) fr) = ZD (ZdJ M l t fr) ∧ true = (ZdJ M l t fr).isSome:=by
 rw [List.take_of_length_le hk] at h ⊢
 rw [ZeG (fun e=>h (by rw [e]; rfl))]; exact ⟨rfl,rfl⟩
end
end Go.Civ
namespace Go.Civ
open Go.RowKit
open Go.Lib (compact)
section
variable {M : List Val → List Val → Bool} {l : List HRow} {r : HRow} {fr : Int}
theorem ZnG : (compact (X2 (Yj r fr :: YH M l r fr))).length ≤ l.length + 1:=by
 have h1:=Zfk (X2 (Yj r fr :: YH M l r fr))
 have h2 : (YH M l r fr).length ≤ l.length:=by unfold YH; rw [List.length_map]; exact List.length_filter_le _ _
 have h3:=(Zdw (Yj r fr :: YH M l r fr)).length_eq
 simp only [List.length_cons] at h3
 omega
theorem Zsy {α : Type} {l : List α} (h : ((l.length : Nat) : Int) ≠ 0) : l ≠ []:=fun e=>h (by rw [e]; rfl)
theorem Zpt {q : List Pt} {x : Pt} (h : q[0]? = some x) : x = YN (q.take 1):=by
 cases q with
 | nil=>cases h
 | cons a r=>obtain rfl:=Option.some.inj h; rfl
theorem ZhV {q : List Pt} {x : Pt} {k : Nat} (h : q[k]? = some x) (hk : 1 ≤ k) : YN (q.take (k + 1)) = QE (YN (q.take k)) x:=by
 cases q with
 | nil=>cases h
 | cons a r=>exact Znc h hk
end
end Go.Civ
