/- Lemmas. -/
import Derived.Test.YthgeclodflmiaaaGreatP27
import Derived.Test.YthgeclodflmiaaaGreatP28
import Derived.Test.YthgeclodflmiaaaGreatProg
import Derived.KernelRfl
import Derived.WalkKit
namespace Go.Civ
open Go.RowKit
set_option linter.unusedVariables false
section
variable {G : GH} {cs : List Value}
def PtE : Enc Pt:=(Enc.pair .int (Enc.pair .int (ValE.slice 32))).via fun x=>(x.tx,x.vd,x.v)
theorem XQ {x : Pt} (h : PtE.rep G x cs) : ∃ v,cs = [.int .i64 x.tx, .int .i64 x.vd,v] ∧ Zy x.tx ∧ Zy x.vd ∧ Sl ValE 32 G v x.v:=by
 obtain ⟨c1,c2,rfl,⟨rfl,h1⟩,c3,c4,rfl,⟨rfl,h2⟩,v,rfl,h3⟩:=h
 exact ⟨v,rfl,h1,h2,h3⟩
theorem Xo (x : Pt) {v : Value} (h1 : Zy x.tx) (h2 : Zy x.vd) (h3 : Sl ValE 32 G v x.v) : PtE.rep G x [.int .i64 x.tx, .int .i64 x.vd,v]:=
 ⟨_,_,rfl,⟨rfl,h1⟩,_,_,rfl,⟨rfl,h2⟩,v,rfl,h3⟩
end
def XR (x y : Pt) : Int:=if Y2 x.tx y.tx ≠ 0 then Y2 x.tx y.tx else if Y2 x.vd y.vd ≠ 0 then Y2 x.vd y.vd else YU x.v y.v
def bef2 (x y : Int × List Val) : Int:=if Y2 x.1 y.1 ≠ 0 then Y2 x.1 y.1 else Yi cmpV x.2 y.2
def befL (x y : Pt) : Int:=if Y2 x.tx y.tx ≠ 0 then Y2 x.tx y.tx else bef2 (x.vd,x.v) (y.vd,y.v)
theorem ZoX : TOrd bef2:=TOrd.lex (f:=Prod.fst) (g:=Prod.snd) ZcY (ZiJ ZiI) fun x y h1 h2=>Prod.ext h1 h2
theorem Qu : TOrd befL:=TOrd.lex (f:=Pt.tx) (g:=fun x : Pt=>(x.vd,x.v)) ZcY ZoX fun x y h1 h2=>by
 cases x; cases y; simp at h1 h2; simp [h1,h2]
theorem Qo {x y : Pt} (hx : x.v.all Z9 = true) (hy : y.v.all Z9 = true) : XR x y = befL x y:=by
 unfold XR befL bef2; rw [XE hx hy]
def VP (l : List Pt) : Prop:=∀ p ∈ l,p.v.all Z9 = true
def QE (m q : Pt) : Pt:=if XR q m < 0 then q else m
def Zg8 : Pt:=⟨0,0,[]⟩
def YN : List Pt → Pt
 | []=>Zg8
 | p :: r=>r.foldl QE p
theorem ZdD : ∀ (r : List Pt) (p : Pt),p.v.all Z9 = true → VP r → (r.foldl QE p = p ∨ r.foldl QE p ∈ r) ∧ ¬ XR p (r.foldl QE p) < 0 ∧ ∀ q ∈ r,¬ XR q (r.foldl QE p) < 0
 | [],p,hp,_=>⟨.inl rfl,by show ¬ XR p p < 0; rw [Qo hp hp,Qu.refl]; omega,fun q hq=>by cases hq⟩
 | x :: r,p,hp,hr=>by
  have hx:=hr x (by simp)
  have hr2 : VP r:=fun q hq=>hr q (by simp [hq])
  by_cases e : XR x p < 0
  ·have e1 : QE p x = x:=if_pos e
   obtain ⟨h1,h2,h3⟩:=ZdD r x hx hr2
   rw [List.foldl_cons,e1]
   have hm : (r.foldl QE x).v.all Z9 = true:=by rcases h1 with h | h; (rw [h]; exact hx); exact hr2 _ h
   refine ⟨.inr ?_,?_,fun q hq=>?_⟩
   ·rcases h1 with h | h
    ·rw [h]; simp
    ·exact List.mem_cons_of_mem _ h
   ·intro k
    rw [Qo hp hm] at k; rw [Qo hx hp] at e; rw [Qo hx hm] at h2
    exact h2 (Qu.trans _ _ _ e k)
   ·rcases List.mem_cons.1 hq with rfl | hq
    ·exact h2
    ·exact h3 q hq
  ·have e1 : QE p x = p:=if_neg e
   obtain ⟨h1,h2,h3⟩:=ZdD r p hp hr2
   rw [List.foldl_cons,e1]
   have hm : (r.foldl QE p).v.all Z9 = true:=by rcases h1 with h | h; (rw [h]; exact hp); exact hr2 _ h
   refine ⟨?_,h2,fun q hq=>?_⟩
   ·rcases h1 with h | h
    ·exact .inl h
    ·exact .inr (List.mem_cons_of_mem _ h)
   ·rcases List.mem_cons.1 hq with rfl | hq
    ·rw [Qo hx hm]; rw [Qo hx hp] at e; rw [Qo hp hm] at h2
     exact Qu.le_trans h2 e
    ·exact h3 q hq
theorem Zcb {l : List Pt} (hV : VP l) (hne : l ≠ []) : YN l ∈ l ∧ ∀ q ∈ l,¬ XR q (YN l) < 0:=by
 cases l with
 | nil=>exact absurd rfl hne
 | cons p r=>
  obtain ⟨h1,h2,h3⟩:=ZdD r p (hV p (by simp)) fun q hq=>hV q (by simp [hq])
  refine ⟨?_,fun q hq=>?_⟩
  ·show r.foldl QE p ∈ _
   rcases h1 with h | h
   ·rw [h]; simp
   ·exact List.mem_cons_of_mem _ h
  ·rcases List.mem_cons.1 hq with rfl | hq
   ·exact h2
   ·exact h3 q hq
theorem ZoY {x y : Pt} (hx : x.v.all Z9 = true) (hy : y.v.all Z9 = true) (h1 : ¬ XR x y < 0) (h2 : ¬ XR y x < 0) : x = y:=by
 rw [Qo hx hy] at h1; rw [Qo hy hx] at h2
 refine (Qu.eq x y).1 ?_
 have:=Qu.swap y x
 have:=Qu.swap x y
 omega
theorem Znc {p x : Pt} {r : List Pt} {k : Nat} (h : (p :: r)[k]? = some x) (hk : 1 ≤ k) : YN ((p :: r).take (k + 1)) = QE (YN ((p :: r).take k)) x:=by
 obtain ⟨j,rfl⟩ : ∃ j,k = j + 1:=⟨k - 1,by omega⟩
 rw [List.getElem?_cons_succ] at h
 rw [List.take_succ_cons,List.take_succ_cons]
 show (r.take (j + 1)).foldl QE p = QE ((r.take j).foldl QE p) x
 rw [List.take_add_one,h]; simp [List.foldl_append]
def ZD : Option Pt → Pt
 | none=>Zg8
 | some p=>p
def Yt : Option Pt → HRow
 | none=>⟨[],⟨⟨0,0⟩,⟨0,0⟩⟩⟩
 | some p=>⟨p.v,⟨⟨p.vd,p.vd + 1⟩,⟨p.tx,p.tx + 1⟩⟩⟩
def Zg9 (k : Nat) (l : List HRow) : Option Pt:=match YX k l with
 | []=>none
 | q :: r=>some ⟨(YN (q :: r)).tx,(YN (q :: r)).vd,(Zfa k l (YN (q :: r)).tx (YN (q :: r)).vd).getD []⟩
def Zr (t : Table) : Option Pt:=Zg9 t.s.key.toNat t.rows
def YA (t : Table) : Bool:=Zm t && (Zr t).isNone
def Z8 (t : Table) : HRow:=if Zm t then Yt (Zr t) else Yt none
def Zan (k : Nat) (l : List HRow) (i : Nat) : List Pt:=(List.range i).flatMap (ZcG k l)
def Zao (k : Nat) (a : HRow) (m : List HRow) : List Pt:=(m.filter (ovB k a)).map (ZdC a)
section
variable {k i j : Nat} {l m : List HRow} {a b : HRow}
theorem ZlL (h : l[i]? = some a) : Zan k l (i + 1) = Zan k l i ++ Zao k a (l.take i):=by
 unfold Zan Zao
 rw [List.range_succ,List.flatMap_append]
 congr 1
 simp [ZcG,h]
theorem Ze5 (h : l.length ≤ i) : Zan k l i = YX k l:=by
 unfold Zan YX
 obtain ⟨d,rfl⟩ : ∃ d,i = l.length + d:=⟨i - l.length,by omega⟩
 induction d with
 | zero=>rfl
 | succ d ih=>
  rw [← Nat.add_assoc,List.range_succ,List.flatMap_append,ih (by omega)]
  simp [ZcG]
theorem ZhI : (Zao k a m).length ≤ m.length:=by unfold Zao; rw [List.length_map]; exact List.length_filter_le _ _
theorem Ze6 (hl : l.length ≤ 500) : ∀ i,(Zan k l i).length ≤ 500 * i
 | 0=>by simp [Zan]
 | i + 1=>by
  have ih:=Ze6 hl i
  unfold Zan at ih ⊢
  rw [List.range_succ,List.flatMap_append,List.length_append]
  have : ([i].flatMap (ZcG k l)).length ≤ 500:=by
   simp only [List.flatMap_cons,List.flatMap_nil,List.append_nil]
   unfold ZcG
   split
   ·rename_i x _
    have h1:=ZhI (k:=k) (a:=x) (m:=l.take i)
    have h2:=List.length_take_le' i l
    unfold Zao at h1
    omega
   ·simp
  omega
theorem ZcH (hb : m[j]? = some b) (h1 : Xf (max a.r.x.a b.r.x.a) a.r.x = true) (h2 : Xf (max a.r.x.a b.r.x.a) b.r.x = true) (h3 : Xf (max a.r.d.a b.r.d.a) a.r.d = true) (h4 : Xf (max a.r.d.a b.r.d.a) b.r.d = true)
  (h5 : decide (a.v.take k = b.v.take k) = true) : Zao k a (m.take (j + 1)) = Zao k a (m.take j) ++ [ZdC a b]:=by
 unfold Zao
 rw [List.take_add_one,hb,List.filter_append,List.map_append]
 have : ovB k a b = true:=by unfold ovB; rw [h1,h2,h3,h4,h5]; rfl
 simp [this]
theorem Qv (hb : m[j]? = some b) (h : Xf (max a.r.x.a b.r.x.a) a.r.x = false ∨ Xf (max a.r.x.a b.r.x.a) b.r.x = false ∨ Xf (max a.r.d.a b.r.d.a) a.r.d = false ∨ Xf (max a.r.d.a b.r.d.a) b.r.d = false ∨ decide (a.v.take k = b.v.take k) = false) :
  Zao k a (m.take (j + 1)) = Zao k a (m.take j):=by
 unfold Zao
 rw [List.take_add_one,hb,List.filter_append,List.map_append]
 have : ovB k a b = false:=by unfold ovB; rcases h with h | h | h | h | h <;> rw [h] <;> simp
 simp [this]
theorem Zfb (h : YU b.v a.v < 0) : ZdC a b = ⟨max a.r.x.a b.r.x.a,max a.r.d.a b.r.d.a,b.v⟩:=by unfold ZdC; rw [if_pos h]
theorem Zfc (h : 0 ≤ YU b.v a.v) : ZdC a b = ⟨max a.r.x.a b.r.x.a,max a.r.d.a b.r.d.a,a.v⟩:=by unfold ZdC; rw [if_neg (by omega)]
theorem ZgA (hg : ZA l) : VP (YX k l):=fun p hp=>by
 obtain ⟨i,j,a,b,ha,hb,_,_,rfl⟩:=Zk4.1 hp
 have h1:=(ZU (hg a (List.mem_of_getElem? ha))).1
 have h2:=(ZU (hg b (List.mem_of_getElem? hb))).1
 unfold ZdC
 simp only
 split
 ·exact h2
 ·exact h1
end
section
variable {k : Nat} {l : List HRow} {q : List Pt} {x : Pt}
theorem ZoZ (hg : ZA l) (hp : q.Perm (YX k l)) (hs : q.Pairwise fun x y=>¬ XR y x < 0) (h0 : q[0]? = some x) : x = YN (YX k l) ∧ YX k l ≠ [] ∧ x ∈ YX k l:=by
 have hx : x ∈ YX k l:=hp.subset (List.mem_of_getElem? h0)
 have hne : YX k l ≠ []:=fun e=>by rw [e] at hx; cases hx
 have hV:=ZgA (k:=k) hg
 obtain ⟨h1,h2⟩:=Zcb hV hne
 refine ⟨?_,hne,hx⟩
 cases q with
 | nil=>cases h0
 | cons y r=>
  obtain rfl:=Option.some.inj h0
  have hmin : ∀ z ∈ y :: r,¬ XR z y < 0:=fun z hz=>by
   rcases List.mem_cons.1 hz with rfl | hz
   ·rw [Qo (hV _ hx) (hV _ hx),Qu.refl]; omega
   ·exact (List.pairwise_cons.1 hs).1 z hz
  exact ZoY (hV _ hx) (hV _ h1) (h2 _ hx) (hmin _ (hp.symm.subset h1))
theorem ZgB (h : YX k l = []) : Zg9 k l = none:=by unfold Zg9; rw [h]
theorem Zcc (h : YX k l ≠ []) : Zg9 k l = some ⟨(YN (YX k l)).tx,(YN (YX k l)).vd,(Zfa k l (YN (YX k l)).tx (YN (YX k l)).vd).getD []⟩:=by
 unfold Zg9
 cases e : YX k l with
 | nil=>exact absurd e h
 | cons a r=>rfl
theorem Ze7 {k j : Nat} {v : List Val} : ∀ {l : VV},(∀ i,i < j → ∀ x,l[i]? = some x → (l.drop (i + 1)).any (fun y=>decide (x.take k = y.take k)) = false) → l[j]? = some v → (∃ w ∈ l.drop (j + 1),v.take k = w.take k) → Zas k l = some v
 | [],_,h,_=>by cases h
 | x :: r,h1,h2,⟨w,hw,e⟩=>by
  unfold Zas
  cases j with
  | zero=>
   obtain rfl:=Option.some.inj h2
   rw [if_pos]
   rw [List.any_eq_true]
   exact ⟨w,by simpa using hw,decide_eq_true e.symm⟩
  | succ j=>
   have h0:=h1 0 (by omega) x rfl
   rw [if_neg]
   ·exact Ze7 (j:=j) (fun i hi y hy=>by simpa using h1 (i + 1) (by omega) y (by simpa using hy)) (by simpa using h2) ⟨w,by simpa using hw,e⟩
   ·rw [List.any_eq_true]
    rintro ⟨y,hy,e2⟩
    rw [List.any_eq_false] at h0
    exact h0 y (by simpa using hy) (by have:=of_decide_eq_true e2; exact decide_eq_true this.symm)
theorem Znd {k : Nat} : ∀ {l : VV},(∀ i x,l[i]? = some x → (l.drop (i + 1)).any (fun y=>decide (x.take k = y.take k)) = false) → Zas k l = none
 | [],_=>rfl
 | x :: r,h=>by
  unfold Zas
  have h0:=h 0 x rfl
  rw [if_neg]
  ·exact Znd fun i y hy=>by simpa using h (i + 1) y (by simpa using hy)
  ·rw [List.any_eq_true]
   rintro ⟨y,hy,e2⟩
   rw [List.any_eq_false] at h0
   exact h0 y (by simpa using hy) (by have:=of_decide_eq_true e2; exact decide_eq_true this.symm)
end
section
variable {t : Table} {q : List Pt} {x : Pt}
theorem Ze8 (hv : Zm t = true) {p : Pt} (hp : p ∈ YX t.s.key.toNat t.rows) : ZB p.tx = true ∧ ZB p.vd = true:=by
 obtain ⟨hg,_,_,hn⟩:=ZE hv
 obtain ⟨_,⟨r,hr,e1⟩,s,hs,e2⟩:=Ze4 hg hn hp
 have a:=(ZU (hg r hr)).2.2
 have b:=(ZU (hg s hs)).2.1
 unfold ZC at a b
 simp at a b
 unfold ZB
 simp only [Bool.and_eq_true,decide_eq_true_eq]
 omega
theorem Zne (hv : Zm t = true) (hp : q.Perm (YX t.s.key.toNat t.rows)) (hs : q.Pairwise fun x y=>¬ XR y x < 0) (h0 : q[0]? = some x) :
  ZB x.tx = true ∧ ZB x.vd = true ∧ (∀ v,Zas t.s.key.toNat (Zz t x.vd x.tx) = some v → Zr t = some ⟨x.tx,x.vd,v⟩) ∧ Zas t.s.key.toNat (Zz t x.vd x.tx) ≠ none:=by
 obtain ⟨hg,_,_,hn⟩:=ZE hv
 obtain ⟨e,hne,hx⟩:=ZoZ hg hp hs h0
 obtain ⟨i1,i2⟩:=Ze8 hv hx
 have hsn : Zz t x.vd x.tx = QG t.rows x.vd x.tx:=by unfold Zz; rw [hv,i1,i2]; rfl
 have hd : Zas t.s.key.toNat (Zz t x.vd x.tx) = Zfa t.s.key.toNat t.rows x.tx x.vd:=by rw [hsn,Ze3 (ZdB hg _ _)]; rfl
 refine ⟨i1,i2,fun v h=>?_,?_⟩
 ·unfold Zr
  rw [Zcc hne,← e,← hd,h]; rfl
 ·rw [hd]; exact (Ze4 hg hn hx).1
theorem Zhg (hv : Zm t = true) : ∀ r ∈ t.rows,t.s.key ≤ r.v.length:=fun r hr=>by
 have h:=QK hv hr
 have hs : Yl t.s = true:=by rw [Za8] at hv; unfold XP at hv; simp only [Bool.and_eq_true] at hv; exact hv.1.1.1.1.1
 unfold Yl XB at hs
 simp only [Bool.and_eq_true,decide_eq_true_eq] at hs
 rw [h.2.2.2.1]; exact hs.1.1.1.2
theorem Zk5 (hv : Zm t = true) : 1 ≤ t.s.key:=by
 have hs : Yl t.s = true:=by rw [Za8] at hv; unfold XP at hv; simp only [Bool.and_eq_true] at hv; exact hv.1.1.1.1.1
 unfold Yl XB at hs
 simp only [Bool.and_eq_true,decide_eq_true_eq] at hs
 exact hs.1.1.1.1.2
theorem Zpa (hv : Zm t = true) {a y : Int} (hy : ZB y = true) (ha : ZB a = true) : ∀ v ∈ Zz t a y,t.s.key ≤ v.length:=fun v h=>by
 rw [Qn hv ha hy] at h
 obtain ⟨r,hr,rfl,_⟩:=h
 exact Zhg hv r hr
theorem Znf {k : Nat} (h : ((Zan t.s.key.toNat t.rows k).length : Int) = 0) (hk : t.rows.length ≤ k) : Pt.mk 0 0 [] = ZD (Zr t) ∧ false = (Zr t).isSome:=by
 rw [Ze5 hk] at h
 have : Zr t = none:=ZgB (List.length_eq_zero_iff.1 (by omega))
 rw [this]; exact ⟨rfl,rfl⟩
theorem ZgC {v : List Val} (h : ZB x.tx = true ∧ ZB x.vd = true ∧ (∀ v,Zas t.s.key.toNat (Zz t x.vd x.tx) = some v → Zr t = some ⟨x.tx,x.vd,v⟩) ∧ Zas t.s.key.toNat (Zz t x.vd x.tx) ≠ none) (hd : Zas t.s.key.toNat (Zz t x.vd x.tx) = some v) : Pt.mk x.tx x.vd v = ZD (Zr t) ∧ true = (Zr t).isSome:=by
 rw [h.2.2.1 v hd]; exact ⟨rfl,rfl⟩
theorem ZqS {α : Type} {p : α → Bool} {l : List α} {k : Nat} (h : ∀ j,j < k → ∀ x,l[j]? = some x → p x = false) (hk : l.length ≤ k) : l.any p = false:=by
 rw [List.any_eq_false]
 intro x hx
 obtain ⟨i,hi⟩:=List.getElem?_of_mem hx
 obtain ⟨hlt,_⟩:=List.getElem?_eq_some_iff.1 hi
 rw [h i (by omega) x hi]; simp
theorem Zk6 {k j : Nat} {l : VV} (h : ∀ i,i < j → ∀ x,l[i]? = some x → (l.drop (i + 1)).any (fun y=>decide (x.take k = y.take k)) = false) (hj : l.length ≤ j) : Zas k l = none:=
 Znd fun i x hx=>by
  obtain ⟨hlt,_⟩:=List.getElem?_eq_some_iff.1 hx
  exact h i (by omega) x hx
theorem ZdE (h : YX t.s.key.toNat t.rows = []) : Zr t = none:=ZgB h
end
end Go.Civ
namespace Go.Civ
open Go.RowKit
set_option linter.unusedVariables false
section
variable {x y : Int} {l out : List Int} {k : Nat}
def DnI (out : List Int) (x : Int) (k : Nat) : Prop:=∀ j,j < k → ∀ u,out[j]? = some u → u < x
theorem DnI.step {u : Int} (h : DnI out x k) (hu : out[k]? = some u) (h1 : u < x) : DnI out x (k + 1):=fun j hj w hw=>by
 by_cases e : j = k
 ·subst e; rw [hu] at hw; obtain rfl:=Option.some.inj hw; exact h1
 ·exact h j (by omega) w hw
end
section
variable {k : Nat} {l : VV}
end
def ZaX (r : HRow) : Bool:=decide (r.v.length = 0) && decide (r.r = ⟨⟨0,0⟩,⟨0,0⟩⟩)
section
variable {t : Table}
end
end Go.Civ
set_option linter.unusedVariables false
set_option linter.unusedSimpArgs false
set_option maxRecDepth 100000
set_option maxHeartbeats 4000000
namespace Go.Civ
open Go.Proofs
theorem ZlP {G : GH} {w : World} (hG : G.In w) (l : List HRow) (vl : Value) (hvl : Sl HRowE 56 G vl l) (hgood : ZA l) (hlen : ∀ r ∈ l,r.v.length ≤ 1000) (hl : l.length ≤ 2000) : CL Tryz.prog (nat_lit 66) #[vl] [] w G fun G' w' r=>∃ o,ZS HRowE 56 (nat_lit 37) G' r (ZO l) o ∧ ZeO w w' G' o:=by
 refine Zg ft [] Tryz.func66 rfl rfl ?_
 have hS:=St.start (X:=[]) hG
 refine Z3 hS Zln rfl rfl rfl (ZdF hS.imm l _ hvl hgood hlen hl) (fun w1 G1 r1 hpost1 hS1 hle1=>?_)
 have bd1:=hpost1.bound
 refine Zi hpost1 QP rfl rfl ?_
 have hS3:=hS1.pad
 refine LP.go ft [] (fun m ρ1 w1=>∃ (k1 : Nat),∃ (v1 : Value) (o1 : OB),∃ (G2 : GH),m = (ZT l).length - k1 ∧ G1.le G2 ∧ St w [] G G2 [o1] w1 ∧ ZS HRowE 56 37 G2 v1 (ZbZ ((ZT l).take k1)) o1 ∧ FR ρ1 [(3,v1),(7,r1),(8, .int .i64 (((ZT l).length : Nat) : Int)),(9, .int .i64 (k1 : Int))] ∧ k1 ≤ (ZT l).length) _ ⟨0,(.slice none 0 0),none,G1,rfl,(G1.le_refl),hS3,(ZS.nil HRowE 56 37 G1),⟨rfl,rfl,rfl,rfl,trivial⟩,(by omega)⟩ ?_
 rintro m ρ1 w2 ⟨k1,v1,o1,G2,rfl,hle2,hS2,hr1,hF9,f1⟩
 refine hF9.set ?_
 clear hF9
 have hgl:=@Zbp l
 have hpl:=ZdT (k:=k1) (fun g hg=>Nat.le_trans (Zgu g hg) hl) (Nat.le_trans hgl hl)
 refine Zq (k1 : Int) (((ZT l).length : Nat) : Int) rfl rfl rfl (fun h1=>?_) (fun h1=>?_)
 ·refine WL.indexAddr (hpost1.mono hle2) k1 (by omega) QP Xm rfl rfl rfl rfl (fun p1 x1 hx1 he1=>?_)
  obtain ⟨cs1,hc1,hr2⟩:=he1
  obtain ⟨v2,v3,rfl,hs1,hs2⟩:=Q9 hr2
  refine Zc hS2 hc1 [v2,v3] Xm rfl rfl rfl rfl rfl ?_
  refine WL.alloc hS2 Xm rfl rfl (fun b1 w3 hn1 hS4=>?_)
  refine WL.store hS4 0 _ _ _ 0 _ [v2,v3] [v2,v3] _ rfl rfl Xm rfl (Nat.le_of_ble_eq_true rfl) (by simp only [List.all_cons,List.all_nil,hs1.oneC,hs2.oneC,Bool.true_and] <;> rfl) rfl rfl rfl rfl rfl (fun w4 hS5=>?_)
  obtain ⟨G3,hle3,hc2,hS6⟩:=hS5.shutB hn1
  have hok:=ZeX hgood hl (by assumption : (ZT l)[k1]? = some _); have hgn:=Zev hok.2
  refine Zc hS6 hc2 [v2,v3] Xm rfl rfl rfl rfl rfl ?_
  refine Z3 hS6 ZpC rfl rfl rfl (ZhN hS6.imm x1 _ (Zdy x1 (hs1.mono hle3) (hs2.mono hle3)) hok.1 hok.2) (fun w5 G4 r2 hpost2 hS7 hle4=>?_)
  refine Zb5 YE rfl rfl rfl (hr1.mono (hle3.trans hle4)) hS7 0 rfl hpost2 (by have hreach : reach = 140737488355328:=rfl; (show _ * 56 ≤ _; omega)) (by have hreach : reach = 140737488355328:=rfl; omega) rfl rfl rfl (fun v4 o2 w6 hr3 hS8=>?_)
  refine Zk k1 (by have hreach : reach = 140737488355328:=rfl; omega) rfl rfl rfl ?_
  exact BK.mk' _ ⟨k1 + 1,v4,o2,G4,rfl,(hle2.trans (hle3.trans hle4)),hS8,(ZS.cast hr3 (by (rw [Zgt ‹_›]))),⟨rfl,rfl,rfl,rfl,trivial⟩,(by omega)⟩ (show (ZT l).length - (k1 + 1) < (ZT l).length - k1 by omega)
 exact RT hS2 rfl ⟨_,ZS.cast hr1 (by rw [List.take_of_length_le (by omega)]; rfl),hS2.freshAt 0 rfl⟩
theorem ZlQ {G : GH} {w : World} (hG : G.In w) (l : List HRow) (vl : Value) (hvl : Sl HRowE 56 G vl l) (hlen : ∀ r ∈ l,r.v.length ≤ 1000) : CL Tryz.prog (nat_lit 76) #[vl] [] w G fun G' w' r=>∃ r0 r1,r = .tuple #[r0,r1] ∧ (∃ o,ZS HRowE 56 (nat_lit 37) G' r0 (X8 l) o ∧ ZeO w w' G' o) ∧ r1 = .int .i64 (Qm l):=by
 refine Zg ft [] Tryz.func76 rfl rfl ?_
 have hS:=St.start (X:=[]) hG
 have bd1:=hvl.bound
 refine Zi hvl YB rfl rfl ?_
 refine YD (l.length : Int) 1000 rfl rfl rfl (fun h1=>?_) (fun h1=>?_)
 ·exact RT hS rfl ⟨_,_,rfl,⟨none,ZS.cast (ZS.nil _ _ _ _) (by exact (ZhA (by omega)).1.symm),fun _ h=>by cases h⟩,(congrArg (Value.int .i64) (by exact (ZhA (by omega)).2.symm))⟩
 refine Zj hS Zr5 rfl rfl rfl (Zfr hS.imm l (fun x8=>!Yh x8) _ hvl 132 #[] ⟨ZsT,fun G8 w8 v8 x8 hle8 hG8 hon8 hA8=>by obtain ⟨cs_x8,rfl,hr_x8⟩:=hA8; exact ZlM hG8 x8 cs_x8 hr_x8⟩) (fun w1 G1 hS1 hle1=>?_)
 refine WL.split (fun (h2 : (l.any (fun x8=>!Yh x8)) = true)=>?_) (fun (h2 : (l.any (fun x8=>!Yh x8)) = false)=>?_)
 ·exact RT hS1 rfl ⟨_,_,rfl,⟨none,ZS.cast (ZS.nil _ _ _ _) (by exact (ZhB (by omega) ‹_›).1.symm),fun _ h=>by cases h⟩,(congrArg (Value.int .i64) (by exact (ZhB (by omega) ‹_›).2.symm))⟩
 refine QO Zlj rfl rfl rfl (ZlP hS1.imm l _ (hvl.mono hle1) (Zfp ‹_›) hlen (by omega)) (fun w2 G2 r1 hres1 hpost1=>?_)
 have hS2:=hS1.call hres1
 have hle2:=hres1.le
 obtain ⟨o1,hr1,hf1⟩:=hpost1
 have hS3:=hS1.adoptO hres1 hf1
 have bd2:=hr1.bound
 refine Qc hr1 YB rfl rfl ?_
 refine YD (((ZO l).length : Nat) : Int) 500 rfl rfl rfl (fun h3=>?_) (fun h3=>?_)
 ·exact RT hS3 rfl ⟨_,_,rfl,⟨none,ZS.cast (ZS.nil _ _ _ _) (by exact (Zgz (by omega) ‹_› (by omega)).1.symm),fun _ h=>by cases h⟩,(congrArg (Value.int .i64) (by exact (Zgz (by omega) ‹_› (by omega)).2.symm))⟩
 exact RT hS3 rfl ⟨_,_,rfl,⟨_,ZS.cast hr1 (by exact (ZfB (by omega) ‹_› (by omega)).1.symm),hS3.freshAt 0 rfl⟩,(congrArg (Value.int .i64) (by exact (ZfB (by omega) ‹_› (by omega)).2.symm))⟩
end Go.Civ
namespace Go.Civ
open Go.RowKit
set_option linter.unusedVariables false
section
variable (M : List Val → List Val → Bool) (l : List HRow)
def Qw (v : List Val) (tx : Int) : List Span:=(l.filter fun o=>Y6 tx o && M v o.v).map fun o=>o.r.d
def Yk (v : List Val) (d : Span) (tx : Int) : List Span:=Yb 3 [d] (XD (Qw M l v tx))
def ZgJ (t : List HRow) (v : List Val) (vd tx : Int) : Prop:=Qt t v vd tx ∧ ∀ u,M v u = true → ¬ Qt l u vd tx
def XC (r : HRow) : List Int → Option Pt
 | []=>none
 | x :: ts=>if Xf x r.r.x then (match Yk M l r.v r.r.d x with
  | s :: _=>some ⟨x,s.a,r.v⟩
  | []=>XC r ts) else none
def Yj (r : HRow) (fr : Int) : Int:=max r.r.x.a fr
def Zit (r : HRow) (fr : Int) (x : Int) : Prop:=x = Yj r fr ∨ ∃ o ∈ l,Yj r fr < o.r.x.b ∧ M r.v o.v = true ∧ o.r.x.b = x
end
section
variable {M : List Val → List Val → Bool} {l t : List HRow} {v : List Val} {d : Span} {tx vd fr : Int} {r : HRow} {ts : List Int}
theorem ZcK (hg : ZA l) : ∀ s ∈ Qw M l v tx,ZC s = true:=fun s hs=>by
 obtain ⟨o,ho,rfl⟩:=List.mem_map.1 hs
 exact (ZU (hg o (List.mem_filter.1 ho).1)).2.1
theorem Za4 (hg : ZA l) (hd : d.a < d.b) : Can (Yk M l v d tx) ∧ ∀ x,cover (Yk M l v d tx) x ↔ (d.a ≤ x ∧ x < d.b) ∧ ¬ ∃ o ∈ l,Y6 tx o = true ∧ M v o.v = true ∧ o.r.d.a ≤ x ∧ x < o.r.d.b:=by
 have c:=X5 fun s hs=>Yp (ZcK (M:=M) (v:=v) (tx:=tx) hg s hs)
 have h:=Za7 (kind:=3) rfl (a:=[d]) (b:=XD (Qw M l v tx)) (by simpa using hd) c.can.pos
 refine ⟨h.1,fun x=>(h.2 x).trans ?_⟩
 have e1 : Y0 [d] x = true ↔ d.a ≤ x ∧ x < d.b:=by rw [XL,XH]
 have e2 : Y0 (XD (Qw M l v tx)) x = true ↔ ∃ o ∈ l,Y6 tx o = true ∧ M v o.v = true ∧ o.r.d.a ≤ x ∧ x < o.r.d.b:=by
  rw [XL,c.cov]
  unfold cover Qw
  constructor
  ·rintro ⟨s,hs,k⟩
   obtain ⟨o,ho,rfl⟩:=List.mem_map.1 hs
   rw [List.mem_filter,Bool.and_eq_true] at ho
   exact ⟨o,ho.1,ho.2.1,ho.2.2,k⟩
  ·rintro ⟨o,ho,k1,k2,k3⟩
   exact ⟨o.r.d,List.mem_map.2 ⟨o,List.mem_filter.2 ⟨ho,by rw [k1,k2]; rfl⟩,rfl⟩,k3⟩
 rw [← e1,← e2]
 simp [XW]
theorem ZhR (hg : ZA l) (hd : d.a < d.b) {s : Span} {q : List Span} (h : Yk M l v d tx = s :: q) : cover (Yk M l v d tx) s.a ∧ (∀ x,cover (Yk M l v d tx) x → s.a ≤ x) ∧ (s.a = d.a ∨ ∃ o ∈ l,o.r.d.b = s.a):=by
 have I:=Za4 (M:=M) (v:=v) (tx:=tx) hg hd
 have hc:=I.1
 rw [h] at hc
 have hp:=hc.pos s (by simp)
 have c1 : cover (Yk M l v d tx) s.a:=by rw [h]; exact ⟨s,by simp,Int.le_refl _,hp⟩
 have c2 : ∀ x,cover (Yk M l v d tx) x → s.a ≤ x:=fun x hx=>by
  rw [h] at hx
  rcases Y5.1 hx with k | k
  ·exact k.1
  ·have:=hc.above k; omega
 refine ⟨c1,c2,?_⟩
 obtain ⟨k1,k2⟩:=(I.2 s.a).1 c1
 by_cases e : s.a = d.a
 ·exact .inl e
 ·right
  have n1 : ¬ cover (Yk M l v d tx) (s.a - 1):=fun k=>by have:=c2 _ k; omega
  rw [I.2] at n1
  have : ∃ o ∈ l,Y6 tx o = true ∧ M v o.v = true ∧ o.r.d.a ≤ s.a - 1 ∧ s.a - 1 < o.r.d.b:=by
   refine Classical.byContradiction fun q=>n1 ⟨⟨by omega,by omega⟩,q⟩
  obtain ⟨o,ho,q1,q2,q3,q4⟩:=this
  refine ⟨o,ho,?_⟩
  have : ¬ (o.r.d.a ≤ s.a ∧ s.a < o.r.d.b):=fun k=>k2 ⟨o,ho,q1,q2,k⟩
  omega
theorem ZbC : ∀ {ts : List Int} {p : Pt},XC M l r ts = some p → p.tx ∈ ts ∧ Xf p.tx r.r.x = true ∧ p.v = r.v ∧ ∃ s q,Yk M l r.v r.r.d p.tx = s :: q ∧ p.vd = s.a
 | [],p,h=>by cases h
 | x :: ts,p,h=>by
  unfold XC at h
  split at h
  ·rename_i hx
   split at h
   ·rename_i s q hl
    obtain rfl:=Option.some.inj h
    exact ⟨by simp,hx,rfl,s,q,hl,rfl⟩
   ·obtain ⟨a,b⟩:=ZbC h
    exact ⟨List.mem_cons_of_mem _ a,b⟩
  ·cases h
theorem ZkE : ∀ {ts : List Int} {x : Int},ts.Pairwise (· < ·) → x ∈ ts → x < r.r.x.b → (∀ y ∈ ts,r.r.x.a ≤ y) → Yk M l r.v r.r.d x ≠ [] → ∃ p,XC M l r ts = some p ∧ p.tx ≤ x
 | [],x,_,h,_,_,_=>by cases h
 | y :: ts,x,hp,h,hx,ha,hl=>by
  obtain ⟨hp1,hp2⟩:=List.pairwise_cons.1 hp
  have hyx : y ≤ x:=by
   rcases List.mem_cons.1 h with e | h
   ·omega
   ·have:=hp1 x h; omega
  have hy : Xf y r.r.x = true:=Zhf.2 ⟨ha y (by simp),by omega⟩
  unfold XC
  rw [if_pos hy]
  split
  ·exact ⟨_,rfl,hyx⟩
  ·rename_i e
   rcases List.mem_cons.1 h with e2 | h
   ·subst e2; exact absurd e hl
   ·exact ZkE hp2 h hx (fun z hz=>ha z (by simp [hz])) hl
theorem Zn0 (hgl : ZA l) (hgt : ZA t) (hr : r ∈ t) {p : Pt} (hts : ∀ x ∈ ts,Zit M l r fr x) (h : XC M l r ts = some p) :
  ZgJ M l t p.v p.vd p.tx ∧ fr ≤ p.tx ∧ (p.tx = fr ∨ (∃ q ∈ t,q.r.x.a = p.tx) ∨ ∃ o ∈ l,o.r.x.b = p.tx) ∧ ((∃ q ∈ t,q.r.d.a = p.vd) ∨ ∃ o ∈ l,o.r.d.b = p.vd):=by
 obtain ⟨h1,h2,h3,s,q,h4,h5⟩:=ZbC h
 have hd:=Yp (ZU (hgt r hr)).2.1
 obtain ⟨c1,c2,c3⟩:=ZhR hgl hd h4
 obtain ⟨k1,k2⟩:=((Za4 hgl hd).2 s.a).1 c1
 rw [Zhf] at h2
 refine ⟨⟨⟨r,hr,h3.symm,QD.2 ⟨by rw [h5]; exact k1.1,by rw [h5]; exact k1.2,h2.1,h2.2⟩⟩,fun u hu=>?_⟩,?_,?_,?_⟩
 ·rintro ⟨o,ho,ho1,ho2⟩
  obtain ⟨z1,z2,z3,z4⟩:=QD.1 ho2
  refine k2 ⟨o,ho,by unfold Y6; simp; exact ⟨z3,z4⟩,by rw [ho1,← h3]; exact hu,by rw [h5] at z1 z2; exact ⟨z1,z2⟩⟩
 ·rcases hts _ h1 with e | ⟨o,ho,e1,_,e2⟩
  ·rw [e]; unfold Yj; omega
  ·unfold Yj at e1; omega
 ·rcases hts _ h1 with e | ⟨o,ho,e1,_,e2⟩
  ·unfold Yj at e
   rcases Int.le_total r.r.x.a fr with z | z
   ·left; omega
   ·right; left; exact ⟨r,hr,by omega⟩
  ·right; right; exact ⟨o,ho,e2⟩
 ·rcases c3 with c3 | ⟨o,ho,c3⟩
  ·left; exact ⟨r,hr,by rw [h5]; exact c3.symm⟩
  ·right; exact ⟨o,ho,by rw [h5]; exact c3⟩
theorem ZhS : ∀ {ts : List Int} {x : Int},(∃ y ∈ ts,y ≤ x) → ∃ y ∈ ts,y ≤ x ∧ ∀ z ∈ ts,z ≤ x → z ≤ y
 | [],x,⟨y,hy,_⟩=>by cases hy
 | a :: ts,x,h=>by
  by_cases q : ∃ y ∈ ts,y ≤ x
  ·obtain ⟨y,hy,h1,h2⟩:=ZhS q
   by_cases e : a ≤ x ∧ y < a
   ·refine ⟨a,by simp,e.1,fun z hz hzx=>?_⟩
    rcases List.mem_cons.1 hz with k | k
    ·omega
    ·have:=h2 z k hzx; omega
   ·refine ⟨y,by simp [hy],h1,fun z hz hzx=>?_⟩
    rcases List.mem_cons.1 hz with k | k
    ·omega
    ·exact h2 z k hzx
  ·obtain ⟨y,hy,hyx⟩:=h
   rcases List.mem_cons.1 hy with k | k
   ·subst k
    refine ⟨y,by simp,hyx,fun z hz hzx=>?_⟩
    rcases List.mem_cons.1 hz with k | k
    ·omega
    ·exact absurd ⟨z,k,hzx⟩ q
   ·exact absurd ⟨y,k,hyx⟩ q
theorem ZjK (hgl : ZA l) (hgt : ZA t) (hf : fr ≤ tx) (h : ZgJ M l t v vd tx) : ∃ r ∈ t,r.v = v ∧ ∀ ts : List Int,ts.Pairwise (· < ·) → (∀ x,x ∈ ts ↔ Zit M l r fr x) → ∃ p,XC M l r ts = some p ∧ (p.tx < tx ∨ (p.tx = tx ∧ p.vd ≤ vd)):=by
 obtain ⟨⟨r,hr,hv,hh⟩,hn⟩:=h
 refine ⟨r,hr,hv,fun ts hp hm=>?_⟩
 obtain ⟨a1,a2,a3,a4⟩:=QD.1 hh
 have hd:=Yp (ZU (hgt r hr)).2.1
 have hs : Yj r fr ≤ tx:=by unfold Yj; omega
 obtain ⟨y,hy,hyx,hlast⟩:=ZhS ⟨Yj r fr,(hm _).2 (.inl rfl),hs⟩
 have hge : ∀ z ∈ ts,Yj r fr ≤ z:=fun z hz=>by
  rcases (hm z).1 hz with e | ⟨o,_,e1,_,e2⟩ <;> omega
 have hc : cover (Yk M l r.v r.r.d y) vd:=by
  rw [(Za4 hgl hd).2]
  refine ⟨⟨a1,a2⟩,?_⟩
  rintro ⟨o,ho,q1,q2,q3,q4⟩
  unfold Y6 at q1
  simp at q1
  have hsy:=hge y hy
  have hob : tx < o.r.x.b:=by
   rcases Int.lt_or_le tx o.r.x.b with z | z
   ·exact z
   ·have:=hlast _ ((hm _).2 (.inr ⟨o,ho,by omega,q2,rfl⟩)) z; omega
  exact hn o.v (by rw [← hv]; exact q2) ⟨o,ho,rfl,QD.2 ⟨q3,q4,by omega,hob⟩⟩
 have hne : Yk M l r.v r.r.d y ≠ []:=fun e=>by rw [e] at hc; obtain ⟨_,k,_⟩:=hc; cases k
 obtain ⟨p,hp1,hp2⟩:=ZkE hp hy (by omega) (fun z hz=>by have:=hge z hz; unfold Yj at this; omega) hne
 refine ⟨p,hp1,?_⟩
 by_cases e : p.tx = tx
 ·right
  refine ⟨e,?_⟩
  have ey : y = tx:=by omega
  obtain ⟨_,_,_,s,q,h4,h5⟩:=ZbC hp1
  rw [h5]
  refine (ZhR hgl hd h4).2.1 vd ?_
  rw [e,← ey]; exact hc
 ·left; omega
end
end Go.Civ
namespace Go.Civ
open Go.RowKit
set_option linter.unusedVariables false
section
variable (M : List Val → List Val → Bool)
def Qp (l : List HRow) (tx : Int) (fs : List Fact) : List Fact:=fs.flatMap fun f=>(Yk M l f.v f.t tx).map (Fact.mk f.v)
end
section
variable {M : List Val → List Val → Bool} {l : List HRow} {v : List Val} {tx x : Int}
theorem Zn1 (hg : ZA l) : ∀ f ∈ QI l tx,f.t.a < f.t.b:=fun f hf=>by
 obtain ⟨g,hgm,h⟩:=List.mem_flatMap.1 hf
 obtain ⟨s,hs,rfl⟩:=List.mem_map.1 h
 exact (QC (Zew hg g hgm) tx).pos s hs
end
end Go.Civ
