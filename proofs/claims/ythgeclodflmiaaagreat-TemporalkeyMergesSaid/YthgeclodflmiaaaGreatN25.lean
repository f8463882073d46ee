/- Lemmas. -/
import Derived.Test.YthgeclodflmiaaaGreatN24
namespace Go.Civ
open Go.RowKit
set_option linter.unusedVariables false
def QN (a : Int) (s : Span) : Bool:=decide (s.a ≤ a) && decide (a < s.b)
def rrL (l : List HRow) (a x : Int) : VV:=(QP l a x).map HRow.v
theorem Zh9 {α : Type} {v : α} {a : Int} : ∀ {l : List Span},Can l → (l.filter (QN a)).map (fun _=>v) = if YC l a then [v] else []
 | [],_=>rfl
 | s :: l,h=>by
  have ih:=Zh9 (v:=v) (a:=a) h.tail
  rw [List.filter_cons]
  have ec : YC (s :: l) a = (QN a s || YC l a):=rfl
  cases hs : QN a s with
  | true=>
   have h2 : YC l a = false:=by
    rw [Bool.eq_false_iff]; intro e
    have:=h.above (Zag.1 e)
    unfold QN at hs; simp at hs; omega
   rw [h2] at ih
   rw [ec,hs,h2,if_pos rfl,List.map_cons,ih]; rfl
  | false=>
   rw [ec,hs,Bool.false_or]
   exact ih
theorem Zfz {α β : Type} {f g : α → List β} : ∀ {l : List α},(∀ x ∈ l,f x = g x) → l.flatMap f = l.flatMap g
 | [],_=>rfl
 | x :: l,h=>by rw [List.flatMap_cons,List.flatMap_cons,h x (by simp),Zfz fun y hy=>h y (by simp [hy])]
theorem Zmc {α β : Type} {p : α → Bool} {f : α → β} : ∀ (l : List α),(l.flatMap fun g=>if p g then [f g] else []) = (l.filter p).map f
 | []=>rfl
 | x :: l=>by
  rw [List.flatMap_cons,Zmc l,List.filter_cons]
  cases p x <;> rfl
theorem Zpp {v : List Val} {a x : Int} : ∀ {m : List HRow},(∀ r ∈ m,r.v = v) → (m.filter (XL a x)).map HRow.v = ((Yw m x).filter (QN a)).map fun _=>v
 | [],_=>rfl
 | r :: m,h=>by
  have ih:=Zpp (a:=a) (x:=x) (m:=m) fun q hq=>h q (by simp [hq])
  have hv:=h r (by simp)
  have e : XL a x r = (QN a r.r.d && YU x r):=rfl
  unfold Yw at ih ⊢
  rw [List.filter_cons,List.filter_cons,e]
  cases h1 : YU x r with
  | true=>
   rw [if_pos rfl,List.map_cons,List.filter_cons,Bool.and_true]
   cases h2 : QN a r.r.d with
   | true=>rw [if_pos rfl,if_pos rfl,List.map_cons,List.map_cons,ih,hv]
   | false=>exact ih
  | false=>rw [Bool.and_false]; exact ih
theorem ZiP {l : List HRow} (hg : ZA l) (a x : Int) : rrL (Z5 l) a x = Za7 l a x:=by
 unfold rrL QP Za7 Ys
 rw [ZbX,List.filter_flatMap,List.map_flatMap,List.filter_map,List.map_map]
 have e : (HGrp.v ∘ fun v=>(⟨v,YG l v⟩ : HGrp)) = id:=rfl
 rw [e,← Zmc]
 refine Zfz fun v hv=>?_
 rw [Zpp fun r hr=>(Zh8 hr).1]
 have e2 : Yw (nvH l v) x = Z4 (YG l v) x:=ZeG (hg.of v) v x
 rw [e2,Zh9 (ZbB (hg.of v) x)]
 rfl
end Go.Civ
namespace Go.Civ
open Go.RowKit
set_option linter.unusedVariables false
def ZaT (k : Nat) : VV → Option (List Val)
 | []=>none
 | x :: r=>if r.any (fun y=>decide (y.take k = x.take k)) then some x else ZaT k r
def ZT (k : Nat) : VV → Option (List Val)
 | x :: y :: r=>if x.take k = y.take k then some x else ZT k (y :: r)
 | _=>none
theorem ZiQ {x y : List Val} : ∀ {k : Nat},ZI cmpV x y ≤ 0 → ZI cmpV (x.take k) (y.take k) ≤ 0:=by
 induction x generalizing y with
 | nil=>
  intro k h
  cases y with
  | nil=>simpa using h
  | cons b y=>cases k <;> simp [ZI]
 | cons a x ih=>
  intro k h
  cases k with
  | zero=>simp [ZI]
  | succ k=>
   cases y with
   | nil=>simp [ZI] at h
   | cons b y=>
    simp only [List.take_succ_cons]
    unfold ZI at h ⊢
    split
    ·rename_i q; rw [if_pos q] at h; exact h
    ·rename_i q; rw [if_neg q] at h; exact ih h
theorem Zl9 {k : Nat} {x y z : List Val} (h1 : ZI cmpV x y < 0) (h2 : ZI cmpV y z < 0) (h : x.take k = z.take k) : x.take k = y.take k:=by
 have a:=ZiQ (k:=k) (Int.le_of_lt h1)
 have b:=ZiQ (k:=k) (Int.le_of_lt h2)
 rw [← h] at b
 rcases Int.lt_or_le (ZI cmpV (x.take k) (y.take k)) 0 with q | q
 ·have:=(ord.swap _ _).1 q; omega
 ·exact (ord.eq _ _).1 (by omega)
theorem Zf0 {k : Nat} : ∀ {l : VV},Za5 l → ZaT k l = ZT k l
 | [],_=>rfl
 | [x],_=>rfl
 | x :: y :: r,h=>by
  obtain ⟨h1,h2⟩:=List.pairwise_cons.1 h
  have ih:=Zf0 (k:=k) h2
  unfold ZaT ZT
  by_cases e : x.take k = y.take k
  ·rw [if_pos e,if_pos]
   rw [List.any_cons,decide_eq_true e.symm]; rfl
  ·rw [if_neg e,if_neg,ih]
   rw [Bool.not_eq_true,List.any_eq_false]
   intro z hz hq
   have hq:=of_decide_eq_true hq
   rcases List.mem_cons.1 hz with rfl | hz
   ·exact e hq.symm
   ·have h3:=(List.pairwise_cons.1 h2).1 z hz
    exact e (Zl9 (h1 y (by simp)) h3 hq.symm)
theorem ZeK {k : Nat} {v : List Val} : ∀ {l : VV},Za5 l → ZT k l = some v → v ∈ l ∧ ∃ w ∈ l,w ≠ v ∧ w.take k = v.take k
 | [],_,h=>by cases h
 | [x],_,h=>by cases h
 | x :: y :: r,hi,h=>by
  obtain ⟨h1,h2⟩:=List.pairwise_cons.1 hi
  unfold ZT at h
  split at h
  ·rename_i e
   obtain rfl:=Option.some.inj h
   refine ⟨by simp,y,by simp,fun q=>?_,e.symm⟩
   have:=h1 y (by simp)
   rw [q,ord.refl] at this; omega
  ·obtain ⟨a,w,b,c,d⟩:=ZeK h2 h
   exact ⟨List.mem_cons_of_mem _ a,w,List.mem_cons_of_mem _ b,c,d⟩
theorem ZhA {k : Nat} : ∀ {l : VV},Za5 l → ZT k l = none → ∀ v ∈ l,∀ w ∈ l,w ≠ v → w.take k ≠ v.take k
 | l,hi,h=>by
  rw [← Zf0 hi] at h
  intro v hv w hw hne e
  have key : ∀ {l : VV},ZaT k l = none → l.Pairwise fun x y=>y.take k ≠ x.take k:=by
   intro l
   induction l with
   | nil=>intro _; exact List.Pairwise.nil
   | cons x r ih=>
    intro h
    unfold ZaT at h
    split at h
    ·cases h
    ·rename_i q
     rw [Bool.not_eq_true,List.any_eq_false] at q
     exact List.pairwise_cons.2 ⟨fun y hy e=>q y hy (decide_eq_true e),ih h⟩
  obtain ⟨i,hi1⟩:=List.getElem?_of_mem hv
  obtain ⟨j,hj1⟩:=List.getElem?_of_mem hw
  obtain ⟨i1,rfl⟩:=List.getElem?_eq_some_iff.1 hi1
  obtain ⟨j1,rfl⟩:=List.getElem?_eq_some_iff.1 hj1
  have hp:=List.pairwise_iff_getElem.1 (key h)
  rcases Nat.lt_trichotomy i j with q | q | q
  ·exact hp i j i1 j1 q e
  ·subst q; exact hne rfl
  ·exact hp j i j1 i1 q e.symm
end Go.Civ
namespace Go.Civ
open Go.RowKit
set_option linter.unusedVariables false
structure Pt where
 tx : Int
 vd : Int
 v : List Val
def ovB (k : Nat) (a b : HRow) : Bool:=QN (max a.r.x.a b.r.x.a) a.r.x && QN (max a.r.x.a b.r.x.a) b.r.x && QN (max a.r.d.a b.r.d.a) a.r.d && QN (max a.r.d.a b.r.d.a) b.r.d && decide (a.v.take k = b.v.take k)
def ZdM (a b : HRow) : Pt:=⟨max a.r.x.a b.r.x.a,max a.r.d.a b.r.d.a,if Xr b.v a.v < 0 then b.v else a.v⟩
def Zd3 (k : Nat) (l : List HRow) (i : Nat) : List Pt:=match l[i]? with
 | some a=>((l.take i).filter (ovB k a)).map (ZdM a)
 | none=>[]
def Xc (k : Nat) (l : List HRow) : List Pt:=(List.range l.length).flatMap (Zd3 k l)
def QR (k : Nat) (l : List HRow) (tx vd : Int) : Option (List Val):=ZT k (Za7 l vd tx)
def ZhC (a b c d : Int) : Prop:=a < c ∨ (a = c ∧ b < d)
theorem Ztq {x : Int} {s : Span} : QN x s = true ↔ s.a ≤ x ∧ x < s.b:=by unfold QN; simp
theorem Zpq {k : Nat} {a b : HRow} : ovB k a b = true ↔ XL (max a.r.d.a b.r.d.a) (max a.r.x.a b.r.x.a) a = true ∧ XL (max a.r.d.a b.r.d.a) (max a.r.x.a b.r.x.a) b = true ∧ a.v.take k = b.v.take k:=by
 unfold ovB
 simp only [Bool.and_eq_true,decide_eq_true_eq,Ztq,Xa]
 constructor
 ·rintro ⟨⟨⟨⟨h1,h2⟩,h3⟩,h4⟩,h5⟩; exact ⟨⟨h3.1,h3.2,h1.1,h1.2⟩,⟨h4.1,h4.2,h2.1,h2.2⟩,h5⟩
 ·rintro ⟨⟨h1,h2,h3,h4⟩,⟨h5,h6,h7,h8⟩,h9⟩; exact ⟨⟨⟨⟨⟨h3,h4⟩,h7,h8⟩,h1,h2⟩,h5,h6⟩,h9⟩
section
variable {k : Nat} {l : List HRow} {tx vd : Int}
theorem Zn3 (hg : ZA l) (hn : l = Z5 l) (vd tx : Int) : l.Pairwise fun x y=>XL vd tx x = true → XL vd tx y = true → x.v ≠ y.v:=by
 have h:=ZiP hg vd tx
 rw [← hn] at h
 have nd : (rrL l vd tx).Nodup:=by rw [h]; exact (Zbo hg vd tx).nodup
 unfold rrL QP at nd
 unfold List.Nodup at nd
 rw [List.pairwise_map,List.pairwise_filter] at nd
 exact nd.imp fun {x y} q=>fun h1 h2=>q h1 h2
theorem Zik {p : Pt} : p ∈ Xc k l ↔ ∃ (i j : Nat) (a b : HRow),l[i]? = some a ∧ l[j]? = some b ∧ j < i ∧ ovB k a b = true ∧ p = ZdM a b:=by
 unfold Xc
 rw [List.mem_flatMap]
 constructor
 ·rintro ⟨i,hi,hp⟩
  unfold Zd3 at hp
  split at hp
  ·rename_i a ha
   obtain ⟨b,hb,rfl⟩:=List.mem_map.1 hp
   obtain ⟨hb1,hb2⟩:=List.mem_filter.1 hb
   obtain ⟨j,hj⟩:=List.getElem?_of_mem hb1
   rw [List.getElem?_take] at hj
   split at hj
   ·rename_i hji; exact ⟨i,j,a,b,ha,hj,hji,hb2,rfl⟩
   ·cases hj
  ·cases hp
 ·rintro ⟨i,j,a,b,ha,hb,hji,ho,rfl⟩
  refine ⟨i,List.mem_range.2 (List.getElem?_eq_some_iff.1 ha).1,?_⟩
  unfold Zd3
  rw [ha]
  exact List.mem_map.2 ⟨b,List.mem_filter.2 ⟨List.mem_of_getElem? (by rw [List.getElem?_take,if_pos hji]; exact hb),ho⟩,rfl⟩
theorem Zd4 (hg : ZA l) (hn : l = Z5 l) {p : Pt} (hp : p ∈ Xc k l) : QR k l p.tx p.vd ≠ none ∧ (∃ r ∈ l,r.r.x.a = p.tx) ∧ ∃ r ∈ l,r.r.d.a = p.vd:=by
 obtain ⟨i,j,a,b,ha,hb,hji,ho,rfl⟩:=Zik.1 hp
 obtain ⟨h1,h2,h3⟩:=Zpq.1 ho
 have ma:=List.mem_of_getElem? ha
 have mb:=List.mem_of_getElem? hb
 refine ⟨fun e=>?_,?_,?_⟩
 ·obtain ⟨i1,ea⟩:=List.getElem?_eq_some_iff.1 ha
  obtain ⟨j1,eb⟩:=List.getElem?_eq_some_iff.1 hb
  have hne:=List.pairwise_iff_getElem.1 (Zn3 hg hn (max a.r.d.a b.r.d.a) (max a.r.x.a b.r.x.a)) j i j1 i1 hji
  rw [ea,eb] at hne
  have hne:=hne h2 h1
  exact ZhA (Zbo hg _ _) e b.v ((QI hg).2 ⟨b,mb,rfl,h2⟩) a.v ((QI hg).2 ⟨a,ma,rfl,h1⟩) (Ne.symm hne) h3
 ·rcases Int.le_total a.r.x.a b.r.x.a with q | q
  ·exact ⟨b,mb,by show b.r.x.a = max a.r.x.a b.r.x.a; omega⟩
  ·exact ⟨a,ma,by show a.r.x.a = max a.r.x.a b.r.x.a; omega⟩
 ·rcases Int.le_total a.r.d.a b.r.d.a with q | q
  ·exact ⟨b,mb,by show b.r.d.a = max a.r.d.a b.r.d.a; omega⟩
  ·exact ⟨a,ma,by show a.r.d.a = max a.r.d.a b.r.d.a; omega⟩
theorem ZiR (hg : ZA l) {v : List Val} (h : QR k l tx vd = some v) : ∃ p ∈ Xc k l,p.tx ≤ tx ∧ p.vd ≤ vd:=by
 obtain ⟨h1,w,h2,h3,h4⟩:=ZeK (Zbo hg _ _) h
 obtain ⟨a,ma,ea,ha⟩:=(QI hg).1 h1
 obtain ⟨b,mb,eb,hb⟩:=(QI hg).1 h2
 have go : ∀ (x y : HRow) (i j : Nat),l[i]? = some x → l[j]? = some y → j < i → XL vd tx x = true → XL vd tx y = true → x.v.take k = y.v.take k → ∃ p ∈ Xc k l,p.tx ≤ tx ∧ p.vd ≤ vd:=by
  intro x y i j hx hy hji h5 h6 h7
  obtain ⟨a1,a2,a3,a4⟩:=Xa.1 h5
  obtain ⟨b1,b2,b3,b4⟩:=Xa.1 h6
  refine ⟨ZdM x y,Zik.2 ⟨i,j,x,y,hx,hy,hji,Zpq.2 ⟨Xa.2 ?_,Xa.2 ?_,h7⟩,rfl⟩,?_,?_⟩
  ·refine ⟨?_,?_,?_,?_⟩ <;> omega
  ·refine ⟨?_,?_,?_,?_⟩ <;> omega
  ·show max x.r.x.a y.r.x.a ≤ tx; omega
  ·show max x.r.d.a y.r.d.a ≤ vd; omega
 obtain ⟨i,hi⟩:=List.getElem?_of_mem ma
 obtain ⟨j,hj⟩:=List.getElem?_of_mem mb
 rcases Nat.lt_trichotomy j i with q | q | q
 ·exact go a b i j hi hj q ha hb (by rw [ea,eb]; exact h4.symm)
 ·subst q
  rw [hi] at hj
  obtain rfl:=Option.some.inj hj
  exact absurd (ea.symm.trans eb) (Ne.symm h3)
 ·exact go b a j i hj hi q hb ha (by rw [ea,eb]; exact h4)
theorem Zn4 (hg : ZA l) {m : Pt} (hmin : ∀ q ∈ Xc k l,¬ ZhC q.tx q.vd m.tx m.vd) (h : ZhC tx vd m.tx m.vd) : QR k l tx vd = none:=by
 cases e : QR k l tx vd with
 | none=>rfl
 | some v=>
  obtain ⟨p,hp,h1,h2⟩:=ZiR hg e
  refine absurd ?_ (hmin p hp)
  unfold ZhC at h ⊢
  omega
theorem ZiS (hg : ZA l) (h : Xc k l = []) (tx vd : Int) : QR k l tx vd = none:=by
 cases e : QR k l tx vd with
 | none=>rfl
 | some v=>
  obtain ⟨p,hp,_⟩:=ZiR hg e
  rw [h] at hp; cases hp
end
end Go.Civ
namespace Go.Civ
open Go.RowKit
set_option linter.unusedVariables false
section
variable {G : GH} {cs : List Value}
def PtE : Enc Pt:=(Enc.pair .int (Enc.pair .int (ValE.slice 32))).via fun x=>(x.tx,x.vd,x.v)
theorem ZbZ {x : Pt} (h : PtE.rep G x cs) : ∃ v,cs = [.int .i64 x.tx, .int .i64 x.vd,v] ∧ Zv x.tx ∧ Zv x.vd ∧ Sl ValE 32 G v x.v:=by
 obtain ⟨c1,c2,rfl,⟨rfl,h1⟩,c3,c4,rfl,⟨rfl,h2⟩,v,rfl,h3⟩:=h
 exact ⟨v,rfl,h1,h2,h3⟩
theorem Zbc (x : Pt) {v : Value} (h1 : Zv x.tx) (h2 : Zv x.vd) (h3 : Sl ValE 32 G v x.v) : PtE.rep G x [.int .i64 x.tx, .int .i64 x.vd,v]:=
 ⟨_,_,rfl,⟨rfl,h1⟩,_,_,rfl,⟨rfl,h2⟩,v,rfl,h3⟩
end
def Zam (x y : Pt) : Int:=if Y1 x.tx y.tx ≠ 0 then Y1 x.tx y.tx else if Y1 x.vd y.vd ≠ 0 then Y1 x.vd y.vd else Xr x.v y.v
def bef2 (x y : Int × List Val) : Int:=if Y1 x.1 y.1 ≠ 0 then Y1 x.1 y.1 else ZI cmpV x.2 y.2
def befL (x y : Pt) : Int:=if Y1 x.tx y.tx ≠ 0 then Y1 x.tx y.tx else bef2 (x.vd,x.v) (y.vd,y.v)
theorem Zrm : TOrd bef2:=TOrd.lex (f:=Prod.fst) (g:=Prod.snd) ZaH (Zkb Zeq) fun x y h1 h2=>Prod.ext h1 h2
theorem QJ : TOrd befL:=TOrd.lex (f:=Pt.tx) (g:=fun x : Pt=>(x.vd,x.v)) ZaH Zrm fun x y h1 h2=>by
 cases x; cases y; simp at h1 h2; simp [h1,h2]
theorem QA {x y : Pt} (hx : x.v.all Zy = true) (hy : y.v.all Zy = true) : Zam x y = befL x y:=by
 unfold Zam befL bef2; rw [Qk hx hy]
def VP (l : List Pt) : Prop:=∀ p ∈ l,p.v.all Zy = true
def Zcf (m q : Pt) : Pt:=if Zam q m < 0 then q else m
def ZhD : Pt:=⟨0,0,[]⟩
def ZcW : List Pt → Pt
 | []=>ZhD
 | p :: r=>r.foldl Zcf p
theorem ZeL : ∀ (r : List Pt) (p : Pt),p.v.all Zy = true → VP r → (r.foldl Zcf p = p ∨ r.foldl Zcf p ∈ r) ∧ ¬ Zam p (r.foldl Zcf p) < 0 ∧ ∀ q ∈ r,¬ Zam q (r.foldl Zcf p) < 0
 | [],p,hp,_=>⟨.inl rfl,by show ¬ Zam p p < 0; rw [QA hp hp,QJ.refl]; omega,fun q hq=>by cases hq⟩
 | x :: r,p,hp,hr=>by
  have hx:=hr x (by simp)
  have hr2 : VP r:=fun q hq=>hr q (by simp [hq])
  by_cases e : Zam x p < 0
  ·have e1 : Zcf p x = x:=if_pos e
   obtain ⟨h1,h2,h3⟩:=ZeL r x hx hr2
   rw [List.foldl_cons,e1]
   have hm : (r.foldl Zcf x).v.all Zy = true:=by rcases h1 with h | h; (rw [h]; exact hx); exact hr2 _ h
   refine ⟨.inr ?_,?_,fun q hq=>?_⟩
   ·rcases h1 with h | h
    ·rw [h]; simp
    ·exact List.mem_cons_of_mem _ h
   ·intro k
    rw [QA hp hm] at k; rw [QA hx hp] at e; rw [QA hx hm] at h2
    exact h2 (QJ.trans _ _ _ e k)
   ·rcases List.mem_cons.1 hq with rfl | hq
    ·exact h2
    ·exact h3 q hq
  ·have e1 : Zcf p x = p:=if_neg e
   obtain ⟨h1,h2,h3⟩:=ZeL r p hp hr2
   rw [List.foldl_cons,e1]
   have hm : (r.foldl Zcf p).v.all Zy = true:=by rcases h1 with h | h; (rw [h]; exact hp); exact hr2 _ h
   refine ⟨?_,h2,fun q hq=>?_⟩
   ·rcases h1 with h | h
    ·exact .inl h
    ·exact .inr (List.mem_cons_of_mem _ h)
   ·rcases List.mem_cons.1 hq with rfl | hq
    ·rw [QA hx hm]; rw [QA hx hp] at e; rw [QA hp hm] at h2
     exact QJ.le_trans h2 e
    ·exact h3 q hq
theorem ZeM {l : List Pt} (hV : VP l) (hne : l ≠ []) : ZcW l ∈ l ∧ ∀ q ∈ l,¬ Zam q (ZcW l) < 0:=by
 cases l with
 | nil=>exact absurd rfl hne
 | cons p r=>
  obtain ⟨h1,h2,h3⟩:=ZeL r p (hV p (by simp)) fun q hq=>hV q (by simp [hq])
  refine ⟨?_,fun q hq=>?_⟩
  ·show r.foldl Zcf p ∈ _
   rcases h1 with h | h
   ·rw [h]; simp
   ·exact List.mem_cons_of_mem _ h
  ·rcases List.mem_cons.1 hq with rfl | hq
   ·exact h2
   ·exact h3 q hq
theorem Zrn {x y : Pt} (hx : x.v.all Zy = true) (hy : y.v.all Zy = true) (h1 : ¬ Zam x y < 0) (h2 : ¬ Zam y x < 0) : x = y:=by
 rw [QA hx hy] at h1; rw [QA hy hx] at h2
 refine (QJ.eq x y).1 ?_
 have:=QJ.swap y x
 have:=QJ.swap x y
 omega
theorem Ztr {q m : Pt} (h : ¬ Zam q m < 0) : ¬ ZhC q.tx q.vd m.tx m.vd:=by
 intro k
 apply h
 unfold Zam Y1
 unfold ZhC at k
 rcases k with k | ⟨k1,k2⟩
 ·rw [if_pos k]; simp
 ·rw [k1,if_neg (Int.lt_irrefl _),if_neg (Int.lt_irrefl _),if_pos k2]; simp
def Yr : Option Pt → Pt
 | none=>ZhD
 | some p=>p
def Yv : Option Pt → HRow
 | none=>⟨[],⟨⟨0,0⟩,⟨0,0⟩⟩⟩
 | some p=>⟨p.v,⟨⟨p.vd,p.vd + 1⟩,⟨p.tx,p.tx + 1⟩⟩⟩
def ZfR (k : Nat) (l : List HRow) : Option Pt:=match Xc k l with
 | []=>none
 | q :: r=>some ⟨(ZcW (q :: r)).tx,(ZcW (q :: r)).vd,(QR k l (ZcW (q :: r)).tx (ZcW (q :: r)).vd).getD []⟩
def Zt (t : Table) : Option Pt:=ZfR t.s.key.toNat t.rows
def YA (t : Table) : Bool:=Z3 t && (Zt t).isNone
def Xx (t : Table) : HRow:=if Z3 t then Yv (Zt t) else Yv none
def ZaM (k : Nat) (l : List HRow) (i : Nat) : List Pt:=(List.range i).flatMap (Zd3 k l)
def ZaN (k : Nat) (a : HRow) (m : List HRow) : List Pt:=(m.filter (ovB k a)).map (ZdM a)
section
variable {k i j : Nat} {l m : List HRow} {a b : HRow}
theorem Zn5 (h : l[i]? = some a) : ZaM k l (i + 1) = ZaM k l i ++ ZaN k a (l.take i):=by
 unfold ZaM ZaN
 rw [List.range_succ,List.flatMap_append]
 congr 1
 simp [Zd3,h]
theorem Zf1 (h : l.length ≤ i) : ZaM k l i = Xc k l:=by
 unfold ZaM Xc
 obtain ⟨d,rfl⟩ : ∃ d,i = l.length + d:=⟨i - l.length,by omega⟩
 induction d with
 | zero=>rfl
 | succ d ih=>
  rw [← Nat.add_assoc,List.range_succ,List.flatMap_append,ih (by omega)]
  simp [Zd3]
theorem ZiT : (ZaN k a m).length ≤ m.length:=by unfold ZaN; rw [List.length_map]; exact List.length_filter_le _ _
theorem Zf2 (hl : l.length ≤ 500) : ∀ i,(ZaM k l i).length ≤ 500 * i
 | 0=>by simp [ZaM]
 | i + 1=>by
  have ih:=Zf2 hl i
  unfold ZaM at ih ⊢
  rw [List.range_succ,List.flatMap_append,List.length_append]
  have : ([i].flatMap (Zd3 k l)).length ≤ 500:=by
   simp only [List.flatMap_cons,List.flatMap_nil,List.append_nil]
   unfold Zd3
   split
   ·rename_i x _
    have h1:=ZiT (k:=k) (a:=x) (m:=l.take i)
    have h2:=List.length_take_le' i l
    unfold ZaN at h1
    omega
   ·simp
  omega
theorem Zd5 (hb : m[j]? = some b) (h1 : QN (max a.r.x.a b.r.x.a) a.r.x = true) (h2 : QN (max a.r.x.a b.r.x.a) b.r.x = true) (h3 : QN (max a.r.d.a b.r.d.a) a.r.d = true) (h4 : QN (max a.r.d.a b.r.d.a) b.r.d = true)
  (h5 : decide (a.v.take k = b.v.take k) = true) : ZaN k a (m.take (j + 1)) = ZaN k a (m.take j) ++ [ZdM a b]:=by
 unfold ZaN
 rw [List.take_add_one,hb,List.filter_append,List.map_append]
 have : ovB k a b = true:=by unfold ovB; rw [h1,h2,h3,h4,h5]; rfl
 simp [this]
theorem QK (hb : m[j]? = some b) (h : QN (max a.r.x.a b.r.x.a) a.r.x = false ∨ QN (max a.r.x.a b.r.x.a) b.r.x = false ∨ QN (max a.r.d.a b.r.d.a) a.r.d = false ∨ QN (max a.r.d.a b.r.d.a) b.r.d = false ∨ decide (a.v.take k = b.v.take k) = false) :
  ZaN k a (m.take (j + 1)) = ZaN k a (m.take j):=by
 unfold ZaN
 rw [List.take_add_one,hb,List.filter_append,List.map_append]
 have : ovB k a b = false:=by unfold ovB; rcases h with h | h | h | h | h <;> rw [h] <;> simp
 simp [this]
theorem ZfS (h : Xr b.v a.v < 0) : ZdM a b = ⟨max a.r.x.a b.r.x.a,max a.r.d.a b.r.d.a,b.v⟩:=by unfold ZdM; rw [if_pos h]
theorem ZfT (h : 0 ≤ Xr b.v a.v) : ZdM a b = ⟨max a.r.x.a b.r.x.a,max a.r.d.a b.r.d.a,a.v⟩:=by unfold ZdM; rw [if_neg (by omega)]
theorem ZhE (hg : ZA l) : VP (Xc k l):=fun p hp=>by
 obtain ⟨i,j,a,b,ha,hb,_,_,rfl⟩:=Zik.1 hp
 have h1:=(ZY (hg a (List.mem_of_getElem? ha))).1
 have h2:=(ZY (hg b (List.mem_of_getElem? hb))).1
 unfold ZdM
 simp only
 split
 ·exact h2
 ·exact h1
end
section
variable {k : Nat} {l : List HRow} {q : List Pt} {x : Pt}
theorem Zro (hg : ZA l) (hp : q.Perm (Xc k l)) (hs : q.Pairwise fun x y=>¬ Zam y x < 0) (h0 : q[0]? = some x) : x = ZcW (Xc k l) ∧ Xc k l ≠ [] ∧ x ∈ Xc k l:=by
 have hx : x ∈ Xc k l:=hp.subset (List.mem_of_getElem? h0)
 have hne : Xc k l ≠ []:=fun e=>by rw [e] at hx; cases hx
 have hV:=ZhE (k:=k) hg
 obtain ⟨h1,h2⟩:=ZeM hV hne
 refine ⟨?_,hne,hx⟩
 cases q with
 | nil=>cases h0
 | cons y r=>
  obtain rfl:=Option.some.inj h0
  have hmin : ∀ z ∈ y :: r,¬ Zam z y < 0:=fun z hz=>by
   rcases List.mem_cons.1 hz with rfl | hz
   ·rw [QA (hV _ hx) (hV _ hx),QJ.refl]; omega
   ·exact (List.pairwise_cons.1 hs).1 z hz
  exact Zrn (hV _ hx) (hV _ h1) (h2 _ hx) (hmin _ (hp.symm.subset h1))
theorem Zc7 (h : Xc k l = []) : ZfR k l = none:=by unfold ZfR; rw [h]
theorem ZbG (h : Xc k l ≠ []) : ZfR k l = some ⟨(ZcW (Xc k l)).tx,(ZcW (Xc k l)).vd,(QR k l (ZcW (Xc k l)).tx (ZcW (Xc k l)).vd).getD []⟩:=by
 unfold ZfR
 cases e : Xc k l with
 | nil=>exact absurd e h
 | cons a r=>rfl
theorem Zf3 {k j : Nat} {v : List Val} : ∀ {l : VV},(∀ i,i < j → ∀ x,l[i]? = some x → (l.drop (i + 1)).any (fun y=>decide (x.take k = y.take k)) = false) → l[j]? = some v → (∃ w ∈ l.drop (j + 1),v.take k = w.take k) → ZaT k l = some v
 | [],_,h,_=>by cases h
 | x :: r,h1,h2,⟨w,hw,e⟩=>by
  unfold ZaT
  cases j with
  | zero=>
   obtain rfl:=Option.some.inj h2
   rw [if_pos]
   rw [List.any_eq_true]
   exact ⟨w,by simpa using hw,decide_eq_true e.symm⟩
  | succ j=>
   have h0:=h1 0 (by omega) x rfl
   rw [if_neg]
   ·exact Zf3 (j:=j) (fun i hi y hy=>by simpa using h1 (i + 1) (by omega) y (by simpa using hy)) (by simpa using h2) ⟨w,by simpa using hw,e⟩
   ·rw [List.any_eq_true]
    rintro ⟨y,hy,e2⟩
    rw [List.any_eq_false] at h0
    exact h0 y (by simpa using hy) (by have:=of_decide_eq_true e2; exact decide_eq_true this.symm)
theorem Zpr {k : Nat} : ∀ {l : VV},(∀ i x,l[i]? = some x → (l.drop (i + 1)).any (fun y=>decide (x.take k = y.take k)) = false) → ZaT k l = none
 | [],_=>rfl
 | x :: r,h=>by
  unfold ZaT
  have h0:=h 0 x rfl
  rw [if_neg]
  ·exact Zpr fun i y hy=>by simpa using h (i + 1) y (by simpa using hy)
  ·rw [List.any_eq_true]
   rintro ⟨y,hy,e2⟩
   rw [List.any_eq_false] at h0
   exact h0 y (by simpa using hy) (by have:=of_decide_eq_true e2; exact decide_eq_true this.symm)
end
section
variable {t : Table} {q : List Pt} {x : Pt}
theorem ZiU (hv : Z3 t = true) {p : Pt} (hp : p ∈ Xc t.s.key.toNat t.rows) : Yu p.tx = true ∧ Yu p.vd = true:=by
 obtain ⟨hg,_,_,hn⟩:=ZS hv
 obtain ⟨_,⟨r,hr,e1⟩,s,hs,e2⟩:=Zd4 hg hn hp
 have a:=(ZY (hg r hr)).2.2
 have b:=(ZY (hg s hs)).2.1
 unfold ZC at a b
 simp at a b
 unfold Yu
 simp only [Bool.and_eq_true,decide_eq_true_eq]
 omega
theorem Zps (hv : Z3 t = true) (hp : q.Perm (Xc t.s.key.toNat t.rows)) (hs : q.Pairwise fun x y=>¬ Zam y x < 0) (h0 : q[0]? = some x) :
  Yu x.tx = true ∧ Yu x.vd = true ∧ (∀ v,ZaT t.s.key.toNat (YB t x.vd x.tx) = some v → Zt t = some ⟨x.tx,x.vd,v⟩) ∧ ZaT t.s.key.toNat (YB t x.vd x.tx) ≠ none:=by
 obtain ⟨hg,_,_,hn⟩:=ZS hv
 obtain ⟨e,hne,hx⟩:=Zro hg hp hs h0
 obtain ⟨i1,i2⟩:=ZiU hv hx
 have hsn : YB t x.vd x.tx = Za7 t.rows x.vd x.tx:=by unfold YB; rw [hv,i1,i2]; rfl
 have hd : ZaT t.s.key.toNat (YB t x.vd x.tx) = QR t.s.key.toNat t.rows x.tx x.vd:=by rw [hsn,Zf0 (Zbo hg _ _)]; rfl
 refine ⟨i1,i2,fun v h=>?_,?_⟩
 ·unfold Zt
  rw [ZbG hne,← e,← hd,h]; rfl
 ·rw [hd]; exact (Zd4 hg hn hx).1
theorem ZfU (hv : Z3 t = true) : ∀ r ∈ t.rows,t.s.key ≤ r.v.length:=fun r hr=>by
 have h:=Zba hv hr
 have hs : YE t.s = true:=by rw [Zbv] at hv; unfold Qv at hv; simp only [Bool.and_eq_true] at hv; exact hv.1.1.1.1.1
 unfold YE XX at hs
 simp only [Bool.and_eq_true,decide_eq_true_eq] at hs
 rw [h.2.2.2.1]; exact hs.1.1.1.2
theorem Zil (hv : Z3 t = true) : 1 ≤ t.s.key:=by
 have hs : YE t.s = true:=by rw [Zbv] at hv; unfold Qv at hv; simp only [Bool.and_eq_true] at hv; exact hv.1.1.1.1.1
 unfold YE XX at hs
 simp only [Bool.and_eq_true,decide_eq_true_eq] at hs
 exact hs.1.1.1.1.2
theorem Zrp (hv : Z3 t = true) {a y : Int} (hy : Yu y = true) (ha : Yu a = true) : ∀ v ∈ YB t a y,t.s.key ≤ v.length:=fun v h=>by
 rw [Zpn hv ha hy] at h
 obtain ⟨r,hr,rfl,_⟩:=h
 exact ZfU hv r hr
theorem Zpt {k : Nat} (h : ((ZaM t.s.key.toNat t.rows k).length : Int) = 0) (hk : t.rows.length ≤ k) : Pt.mk 0 0 [] = Yr (Zt t) ∧ false = (Zt t).isSome:=by
 rw [Zf1 hk] at h
 have : Zt t = none:=Zc7 (List.length_eq_zero_iff.1 (by omega))
 rw [this]; exact ⟨rfl,rfl⟩
theorem ZhF {v : List Val} (h : Yu x.tx = true ∧ Yu x.vd = true ∧ (∀ v,ZaT t.s.key.toNat (YB t x.vd x.tx) = some v → Zt t = some ⟨x.tx,x.vd,v⟩) ∧ ZaT t.s.key.toNat (YB t x.vd x.tx) ≠ none) (hd : ZaT t.s.key.toNat (YB t x.vd x.tx) = some v) : Pt.mk x.tx x.vd v = Yr (Zt t) ∧ true = (Zt t).isSome:=by
 rw [h.2.2.1 v hd]; exact ⟨rfl,rfl⟩
theorem Zts {α : Type} {p : α → Bool} {l : List α} {k : Nat} (h : ∀ j,j < k → ∀ x,l[j]? = some x → p x = false) (hk : l.length ≤ k) : l.any p = false:=by
 rw [List.any_eq_false]
 intro x hx
 obtain ⟨i,hi⟩:=List.getElem?_of_mem hx
 obtain ⟨hlt,_⟩:=List.getElem?_eq_some_iff.1 hi
 rw [h i (by omega) x hi]; simp
theorem Zmd {k j : Nat} {l : VV} (h : ∀ i,i < j → ∀ x,l[i]? = some x → (l.drop (i + 1)).any (fun y=>decide (x.take k = y.take k)) = false) (hj : l.length ≤ j) : ZaT k l = none:=
 Zpr fun i x hx=>by
  obtain ⟨hlt,_⟩:=List.getElem?_eq_some_iff.1 hx
  exact h i (by omega) x hx
theorem ZhG (h : Xc t.s.key.toNat t.rows = []) : Zt t = none:=Zc7 h
end
end Go.Civ
