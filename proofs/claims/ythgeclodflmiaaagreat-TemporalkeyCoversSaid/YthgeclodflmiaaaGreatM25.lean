/- Lemmas. -/
import Derived.Test.YthgeclodflmiaaaGreatM24
import Derived.Test.YthgeclodflmiaaaGreatProg
import Derived.KernelRfl
import Derived.WalkKit
namespace Go.Civ
open Go.RowKit
set_option linter.unusedVariables false
structure Pt where
 tx : Int
 vd : Int
 v : List Val
def ovB (k : Nat) (a b : HRow) : Bool:=X0 (max a.r.x.a b.r.x.a) a.r.x && X0 (max a.r.x.a b.r.x.a) b.r.x && X0 (max a.r.d.a b.r.d.a) a.r.d && X0 (max a.r.d.a b.r.d.a) b.r.d && decide (a.v.take k = b.v.take k)
def Zeh (a b : HRow) : Pt:=⟨max a.r.x.a b.r.x.a,max a.r.d.a b.r.d.a,if Xk b.v a.v < 0 then b.v else a.v⟩
def Zda (k : Nat) (l : List HRow) (i : Nat) : List Pt:=match l[i]? with
 | some a=>((l.take i).filter (ovB k a)).map (Zeh a)
 | none=>[]
def Xz (k : Nat) (l : List HRow) : List Pt:=(List.range l.length).flatMap (Zda k l)
def Zf2 (k : Nat) (l : List HRow) (tx vd : Int) : Option (List Val):=ZeX k (Zaw l vd tx)
def Zhh (a b c d : Int) : Prop:=a < c ∨ (a = c ∧ b < d)
theorem ZhF {x : Int} {s : Span} : X0 x s = true ↔ s.a ≤ x ∧ x < s.b:=by unfold X0; simp
theorem ZtM {k : Nat} {a b : HRow} : ovB k a b = true ↔ QC (max a.r.d.a b.r.d.a) (max a.r.x.a b.r.x.a) a = true ∧ QC (max a.r.d.a b.r.d.a) (max a.r.x.a b.r.x.a) b = true ∧ a.v.take k = b.v.take k:=by
 unfold ovB
 simp only [Bool.and_eq_true,decide_eq_true_eq,ZhF,QW]
 constructor
 ·rintro ⟨⟨⟨⟨h1,h2⟩,h3⟩,h4⟩,h5⟩; exact ⟨⟨h3.1,h3.2,h1.1,h1.2⟩,⟨h4.1,h4.2,h2.1,h2.2⟩,h5⟩
 ·rintro ⟨⟨h1,h2,h3,h4⟩,⟨h5,h6,h7,h8⟩,h9⟩; exact ⟨⟨⟨⟨⟨h3,h4⟩,h7,h8⟩,h1,h2⟩,h5,h6⟩,h9⟩
section
variable {k : Nat} {l : List HRow} {tx vd : Int}
theorem ZmC (hg : Z2 l) (hn : l = ZT l) (vd tx : Int) : l.Pairwise fun x y=>QC vd tx x = true → QC vd tx y = true → x.v ≠ y.v:=by
 have h:=Zog hg vd tx
 rw [← hn] at h
 have nd : (rrL l vd tx).Nodup:=by rw [h]; exact (Zgj hg vd tx).nodup
 unfold rrL QV at nd
 unfold List.Nodup at nd
 rw [List.pairwise_map,List.pairwise_filter] at nd
 exact nd.imp fun {x y} q=>fun h1 h2=>q h1 h2
theorem Zlw {p : Pt} : p ∈ Xz k l ↔ ∃ (i j : Nat) (a b : HRow),l[i]? = some a ∧ l[j]? = some b ∧ j < i ∧ ovB k a b = true ∧ p = Zeh a b:=by
 unfold Xz
 rw [List.mem_flatMap]
 constructor
 ·rintro ⟨i,hi,hp⟩
  unfold Zda at hp
  split at hp
  ·rename_i a ha
   obtain ⟨b,hb,rfl⟩:=List.mem_map.1 hp
   obtain ⟨hb1,hb2⟩:=List.mem_filter.1 hb
   obtain ⟨j,hj⟩:=List.getElem?_of_mem hb1
   rw [List.getElem?_take] at hj
   split at hj
   ·rename_i hji; exact ⟨i,j,a,b,ha,hj,hji,hb2,rfl⟩
   ·cases hj
  ·cases hp
 ·rintro ⟨i,j,a,b,ha,hb,hji,ho,rfl⟩
  refine ⟨i,List.mem_range.2 (List.getElem?_eq_some_iff.1 ha).1,?_⟩
  unfold Zda
  rw [ha]
  exact List.mem_map.2 ⟨b,List.mem_filter.2 ⟨List.mem_of_getElem? (by rw [List.getElem?_take,if_pos hji]; exact hb),ho⟩,rfl⟩
theorem Zip (hg : Z2 l) (hn : l = ZT l) {p : Pt} (hp : p ∈ Xz k l) : Zf2 k l p.tx p.vd ≠ none ∧ (∃ r ∈ l,r.r.x.a = p.tx) ∧ ∃ r ∈ l,r.r.d.a = p.vd:=by
 obtain ⟨i,j,a,b,ha,hb,hji,ho,rfl⟩:=Zlw.1 hp
 obtain ⟨h1,h2,h3⟩:=ZtM.1 ho
 have ma:=List.mem_of_getElem? ha
 have mb:=List.mem_of_getElem? hb
 refine ⟨fun e=>?_,?_,?_⟩
 ·obtain ⟨i1,ea⟩:=List.getElem?_eq_some_iff.1 ha
  obtain ⟨j1,eb⟩:=List.getElem?_eq_some_iff.1 hb
  have hne:=List.pairwise_iff_getElem.1 (ZmC hg hn (max a.r.d.a b.r.d.a) (max a.r.x.a b.r.x.a)) j i j1 i1 hji
  rw [ea,eb] at hne
  have hne:=hne h2 h1
  exact ZmB (Zgj hg _ _) e b.v ((Zay hg).2 ⟨b,mb,rfl,h2⟩) a.v ((Zay hg).2 ⟨a,ma,rfl,h1⟩) (Ne.symm hne) h3
 ·rcases Int.le_total a.r.x.a b.r.x.a with q | q
  ·exact ⟨b,mb,by show b.r.x.a = max a.r.x.a b.r.x.a; omega⟩
  ·exact ⟨a,ma,by show a.r.x.a = max a.r.x.a b.r.x.a; omega⟩
 ·rcases Int.le_total a.r.d.a b.r.d.a with q | q
  ·exact ⟨b,mb,by show b.r.d.a = max a.r.d.a b.r.d.a; omega⟩
  ·exact ⟨a,ma,by show a.r.d.a = max a.r.d.a b.r.d.a; omega⟩
end
end Go.Civ
namespace Go.Civ
open Go.RowKit
set_option linter.unusedVariables false
section
variable {G : GH} {cs : List Value}
def PtE : Enc Pt:=(Enc.pair .int (Enc.pair .int (ValE.slice 32))).via fun x=>(x.tx,x.vd,x.v)
theorem Qm {x : Pt} (h : PtE.rep G x cs) : ∃ v,cs = [.int .i64 x.tx, .int .i64 x.vd,v] ∧ Zz x.tx ∧ Zz x.vd ∧ Sl ValE 32 G v x.v:=by
 obtain ⟨c1,c2,rfl,⟨rfl,h1⟩,c3,c4,rfl,⟨rfl,h2⟩,v,rfl,h3⟩:=h
 exact ⟨v,rfl,h1,h2,h3⟩
theorem X7 (x : Pt) {v : Value} (h1 : Zz x.tx) (h2 : Zz x.vd) (h3 : Sl ValE 32 G v x.v) : PtE.rep G x [.int .i64 x.tx, .int .i64 x.vd,v]:=
 ⟨_,_,rfl,⟨rfl,h1⟩,_,_,rfl,⟨rfl,h2⟩,v,rfl,h3⟩
end
def XQ (x y : Pt) : Int:=if Yk x.tx y.tx ≠ 0 then Yk x.tx y.tx else if Yk x.vd y.vd ≠ 0 then Yk x.vd y.vd else Xk x.v y.v
def bef2 (x y : Int × List Val) : Int:=if Yk x.1 y.1 ≠ 0 then Yk x.1 y.1 else ZC cmpV x.2 y.2
def befL (x y : Pt) : Int:=if Yk x.tx y.tx ≠ 0 then Yk x.tx y.tx else bef2 (x.vd,x.v) (y.vd,y.v)
theorem Zqm : TOrd bef2:=TOrd.lex (f:=Prod.fst) (g:=Prod.snd) Za2 (Zjv Zju) fun x y h1 h2=>Prod.ext h1 h2
theorem Q6 : TOrd befL:=TOrd.lex (f:=Pt.tx) (g:=fun x : Pt=>(x.vd,x.v)) Za2 Zqm fun x y h1 h2=>by
 cases x; cases y; simp at h1 h2; simp [h1,h2]
theorem Q2 {x y : Pt} (hx : x.v.all ZE = true) (hy : y.v.all ZE = true) : XQ x y = befL x y:=by
 unfold XQ befL bef2; rw [XL hx hy]
def VP (l : List Pt) : Prop:=∀ p ∈ l,p.v.all ZE = true
def QX (m q : Pt) : Pt:=if XQ q m < 0 then q else m
def Zhi : Pt:=⟨0,0,[]⟩
def Xb : List Pt → Pt
 | []=>Zhi
 | p :: r=>r.foldl QX p
theorem Zei : ∀ (r : List Pt) (p : Pt),p.v.all ZE = true → VP r → (r.foldl QX p = p ∨ r.foldl QX p ∈ r) ∧ ¬ XQ p (r.foldl QX p) < 0 ∧ ∀ q ∈ r,¬ XQ q (r.foldl QX p) < 0
 | [],p,hp,_=>⟨.inl rfl,by show ¬ XQ p p < 0; rw [Q2 hp hp,Q6.refl]; omega,fun q hq=>by cases hq⟩
 | x :: r,p,hp,hr=>by
  have hx:=hr x (by simp)
  have hr2 : VP r:=fun q hq=>hr q (by simp [hq])
  by_cases e : XQ x p < 0
  ·have e1 : QX p x = x:=if_pos e
   obtain ⟨h1,h2,h3⟩:=Zei r x hx hr2
   rw [List.foldl_cons,e1]
   have hm : (r.foldl QX x).v.all ZE = true:=by rcases h1 with h | h; (rw [h]; exact hx); exact hr2 _ h
   refine ⟨.inr ?_,?_,fun q hq=>?_⟩
   ·rcases h1 with h | h
    ·rw [h]; simp
    ·exact List.mem_cons_of_mem _ h
   ·intro k
    rw [Q2 hp hm] at k; rw [Q2 hx hp] at e; rw [Q2 hx hm] at h2
    exact h2 (Q6.trans _ _ _ e k)
   ·rcases List.mem_cons.1 hq with rfl | hq
    ·exact h2
    ·exact h3 q hq
  ·have e1 : QX p x = p:=if_neg e
   obtain ⟨h1,h2,h3⟩:=Zei r p hp hr2
   rw [List.foldl_cons,e1]
   have hm : (r.foldl QX p).v.all ZE = true:=by rcases h1 with h | h; (rw [h]; exact hp); exact hr2 _ h
   refine ⟨?_,h2,fun q hq=>?_⟩
   ·rcases h1 with h | h
    ·exact .inl h
    ·exact .inr (List.mem_cons_of_mem _ h)
   ·rcases List.mem_cons.1 hq with rfl | hq
    ·rw [Q2 hx hm]; rw [Q2 hx hp] at e; rw [Q2 hp hm] at h2
     exact Q6.le_trans h2 e
    ·exact h3 q hq
theorem Zcq {l : List Pt} (hV : VP l) (hne : l ≠ []) : Xb l ∈ l ∧ ∀ q ∈ l,¬ XQ q (Xb l) < 0:=by
 cases l with
 | nil=>exact absurd rfl hne
 | cons p r=>
  obtain ⟨h1,h2,h3⟩:=Zei r p (hV p (by simp)) fun q hq=>hV q (by simp [hq])
  refine ⟨?_,fun q hq=>?_⟩
  ·show r.foldl QX p ∈ _
   rcases h1 with h | h
   ·rw [h]; simp
   ·exact List.mem_cons_of_mem _ h
  ·rcases List.mem_cons.1 hq with rfl | hq
   ·exact h2
   ·exact h3 q hq
theorem Zqn {x y : Pt} (hx : x.v.all ZE = true) (hy : y.v.all ZE = true) (h1 : ¬ XQ x y < 0) (h2 : ¬ XQ y x < 0) : x = y:=by
 rw [Q2 hx hy] at h1; rw [Q2 hy hx] at h2
 refine (Q6.eq x y).1 ?_
 have:=Q6.swap y x
 have:=Q6.swap x y
 omega
theorem Zlx {q m : Pt} (h : ¬ XQ q m < 0) : ¬ Zhh q.tx q.vd m.tx m.vd:=by
 intro k
 apply h
 unfold XQ Yk
 unfold Zhh at k
 rcases k with k | ⟨k1,k2⟩
 ·rw [if_pos k]; simp
 ·rw [k1,if_neg (Int.lt_irrefl _),if_neg (Int.lt_irrefl _),if_pos k2]; simp
theorem Zoh {p x : Pt} {r : List Pt} {k : Nat} (h : (p :: r)[k]? = some x) (hk : 1 ≤ k) : Xb ((p :: r).take (k + 1)) = QX (Xb ((p :: r).take k)) x:=by
 obtain ⟨j,rfl⟩ : ∃ j,k = j + 1:=⟨k - 1,by omega⟩
 rw [List.getElem?_cons_succ] at h
 rw [List.take_succ_cons,List.take_succ_cons]
 show (r.take (j + 1)).foldl QX p = QX ((r.take j).foldl QX p) x
 rw [List.take_add_one,h]; simp [List.foldl_append]
def ZK : Option Pt → Pt
 | none=>Zhi
 | some p=>p
def ZJ : Option Pt → HRow
 | none=>⟨[],⟨⟨0,0⟩,⟨0,0⟩⟩⟩
 | some p=>⟨p.v,⟨⟨p.vd,p.vd + 1⟩,⟨p.tx,p.tx + 1⟩⟩⟩
def Zhj (k : Nat) (l : List HRow) : Option Pt:=match Xz k l with
 | []=>none
 | q :: r=>some ⟨(Xb (q :: r)).tx,(Xb (q :: r)).vd,(Zf2 k l (Xb (q :: r)).tx (Xb (q :: r)).vd).getD []⟩
def Zw (t : Table) : Option Pt:=Zhj t.s.key.toNat t.rows
def Xo (t : Table) : Bool:=Zo t && (Zw t).isNone
def QY (t : Table) : HRow:=if Zo t then ZJ (Zw t) else ZJ none
def Za9 (k : Nat) (l : List HRow) (i : Nat) : List Pt:=(List.range i).flatMap (Zda k l)
def ZaA (k : Nat) (a : HRow) (m : List HRow) : List Pt:=(m.filter (ovB k a)).map (Zeh a)
section
variable {k i j : Nat} {l m : List HRow} {a b : HRow}
theorem ZmD (h : l[i]? = some a) : Za9 k l (i + 1) = Za9 k l i ++ ZaA k a (l.take i):=by
 unfold Za9 ZaA
 rw [List.range_succ,List.flatMap_append]
 congr 1
 simp [Zda,h]
theorem ZeZ (h : l.length ≤ i) : Za9 k l i = Xz k l:=by
 unfold Za9 Xz
 obtain ⟨d,rfl⟩ : ∃ d,i = l.length + d:=⟨i - l.length,by omega⟩
 induction d with
 | zero=>rfl
 | succ d ih=>
  rw [← Nat.add_assoc,List.range_succ,List.flatMap_append,ih (by omega)]
  simp [Zda]
theorem Ziq : (ZaA k a m).length ≤ m.length:=by unfold ZaA; rw [List.length_map]; exact List.length_filter_le _ _
theorem Zfa (hl : l.length ≤ 500) : ∀ i,(Za9 k l i).length ≤ 500 * i
 | 0=>by simp [Za9]
 | i + 1=>by
  have ih:=Zfa hl i
  unfold Za9 at ih ⊢
  rw [List.range_succ,List.flatMap_append,List.length_append]
  have : ([i].flatMap (Zda k l)).length ≤ 500:=by
   simp only [List.flatMap_cons,List.flatMap_nil,List.append_nil]
   unfold Zda
   split
   ·rename_i x _
    have h1:=Ziq (k:=k) (a:=x) (m:=l.take i)
    have h2:=List.length_take_le' i l
    unfold ZaA at h1
    omega
   ·simp
  omega
theorem Zdb (hb : m[j]? = some b) (h1 : X0 (max a.r.x.a b.r.x.a) a.r.x = true) (h2 : X0 (max a.r.x.a b.r.x.a) b.r.x = true) (h3 : X0 (max a.r.d.a b.r.d.a) a.r.d = true) (h4 : X0 (max a.r.d.a b.r.d.a) b.r.d = true)
  (h5 : decide (a.v.take k = b.v.take k) = true) : ZaA k a (m.take (j + 1)) = ZaA k a (m.take j) ++ [Zeh a b]:=by
 unfold ZaA
 rw [List.take_add_one,hb,List.filter_append,List.map_append]
 have : ovB k a b = true:=by unfold ovB; rw [h1,h2,h3,h4,h5]; rfl
 simp [this]
theorem Q7 (hb : m[j]? = some b) (h : X0 (max a.r.x.a b.r.x.a) a.r.x = false ∨ X0 (max a.r.x.a b.r.x.a) b.r.x = false ∨ X0 (max a.r.d.a b.r.d.a) a.r.d = false ∨ X0 (max a.r.d.a b.r.d.a) b.r.d = false ∨ decide (a.v.take k = b.v.take k) = false) :
  ZaA k a (m.take (j + 1)) = ZaA k a (m.take j):=by
 unfold ZaA
 rw [List.take_add_one,hb,List.filter_append,List.map_append]
 have : ovB k a b = false:=by unfold ovB; rcases h with h | h | h | h | h <;> rw [h] <;> simp
 simp [this]
theorem Zf3 (h : Xk b.v a.v < 0) : Zeh a b = ⟨max a.r.x.a b.r.x.a,max a.r.d.a b.r.d.a,b.v⟩:=by unfold Zeh; rw [if_pos h]
theorem Zf4 (h : 0 ≤ Xk b.v a.v) : Zeh a b = ⟨max a.r.x.a b.r.x.a,max a.r.d.a b.r.d.a,a.v⟩:=by unfold Zeh; rw [if_neg (by omega)]
theorem Zkq (hg : Z2 l) : VP (Xz k l):=fun p hp=>by
 obtain ⟨i,j,a,b,ha,hb,_,_,rfl⟩:=Zlw.1 hp
 have h1:=(ZS (hg a (List.mem_of_getElem? ha))).1
 have h2:=(ZS (hg b (List.mem_of_getElem? hb))).1
 unfold Zeh
 simp only
 split
 ·exact h2
 ·exact h1
end
section
variable {k : Nat} {l : List HRow} {q : List Pt} {x : Pt}
theorem Zqo (hg : Z2 l) (hp : q.Perm (Xz k l)) (hs : q.Pairwise fun x y=>¬ XQ y x < 0) (h0 : q[0]? = some x) : x = Xb (Xz k l) ∧ Xz k l ≠ [] ∧ x ∈ Xz k l:=by
 have hx : x ∈ Xz k l:=hp.subset (List.mem_of_getElem? h0)
 have hne : Xz k l ≠ []:=fun e=>by rw [e] at hx; cases hx
 have hV:=Zkq (k:=k) hg
 obtain ⟨h1,h2⟩:=Zcq hV hne
 refine ⟨?_,hne,hx⟩
 cases q with
 | nil=>cases h0
 | cons y r=>
  obtain rfl:=Option.some.inj h0
  have hmin : ∀ z ∈ y :: r,¬ XQ z y < 0:=fun z hz=>by
   rcases List.mem_cons.1 hz with rfl | hz
   ·rw [Q2 (hV _ hx) (hV _ hx),Q6.refl]; omega
   ·exact (List.pairwise_cons.1 hs).1 z hz
  exact Zqn (hV _ hx) (hV _ h1) (h2 _ hx) (hmin _ (hp.symm.subset h1))
theorem Zhk (h : Xz k l = []) : Zhj k l = none:=by unfold Zhj; rw [h]
theorem Zej (h : Xz k l ≠ []) : Zhj k l = some ⟨(Xb (Xz k l)).tx,(Xb (Xz k l)).vd,(Zf2 k l (Xb (Xz k l)).tx (Xb (Xz k l)).vd).getD []⟩:=by
 unfold Zhj
 cases e : Xz k l with
 | nil=>exact absurd e h
 | cons a r=>rfl
theorem Zfb {k j : Nat} {v : List Val} : ∀ {l : VV},(∀ i,i < j → ∀ x,l[i]? = some x → (l.drop (i + 1)).any (fun y=>decide (x.take k = y.take k)) = false) → l[j]? = some v → (∃ w ∈ l.drop (j + 1),v.take k = w.take k) → ZaL k l = some v
 | [],_,h,_=>by cases h
 | x :: r,h1,h2,⟨w,hw,e⟩=>by
  unfold ZaL
  cases j with
  | zero=>
   obtain rfl:=Option.some.inj h2
   rw [if_pos]
   rw [List.any_eq_true]
   exact ⟨w,by simpa using hw,decide_eq_true e.symm⟩
  | succ j=>
   have h0:=h1 0 (by omega) x rfl
   rw [if_neg]
   ·exact Zfb (j:=j) (fun i hi y hy=>by simpa using h1 (i + 1) (by omega) y (by simpa using hy)) (by simpa using h2) ⟨w,by simpa using hw,e⟩
   ·rw [List.any_eq_true]
    rintro ⟨y,hy,e2⟩
    rw [List.any_eq_false] at h0
    exact h0 y (by simpa using hy) (by have:=of_decide_eq_true e2; exact decide_eq_true this.symm)
theorem Zoi {k : Nat} : ∀ {l : VV},(∀ i x,l[i]? = some x → (l.drop (i + 1)).any (fun y=>decide (x.take k = y.take k)) = false) → ZaL k l = none
 | [],_=>rfl
 | x :: r,h=>by
  unfold ZaL
  have h0:=h 0 x rfl
  rw [if_neg]
  ·exact Zoi fun i y hy=>by simpa using h (i + 1) y (by simpa using hy)
  ·rw [List.any_eq_true]
   rintro ⟨y,hy,e2⟩
   rw [List.any_eq_false] at h0
   exact h0 y (by simpa using hy) (by have:=of_decide_eq_true e2; exact decide_eq_true this.symm)
end
section
variable {t : Table} {q : List Pt} {x : Pt}
theorem Zir (hv : Zo t = true) {p : Pt} (hp : p ∈ Xz t.s.key.toNat t.rows) : ZM p.tx = true ∧ ZM p.vd = true:=by
 obtain ⟨hg,_,_,hn⟩:=ZD hv
 obtain ⟨_,⟨r,hr,e1⟩,s,hs,e2⟩:=Zip hg hn hp
 have a:=(ZS (hg r hr)).2.2
 have b:=(ZS (hg s hs)).2.1
 unfold ZF at a b
 simp at a b
 unfold ZM
 simp only [Bool.and_eq_true,decide_eq_true_eq]
 omega
theorem Zoj (hv : Zo t = true) (hp : q.Perm (Xz t.s.key.toNat t.rows)) (hs : q.Pairwise fun x y=>¬ XQ y x < 0) (h0 : q[0]? = some x) :
  ZM x.tx = true ∧ ZM x.vd = true ∧ (∀ v,ZaL t.s.key.toNat (Yy t x.vd x.tx) = some v → Zw t = some ⟨x.tx,x.vd,v⟩) ∧ ZaL t.s.key.toNat (Yy t x.vd x.tx) ≠ none:=by
 obtain ⟨hg,_,_,hn⟩:=ZD hv
 obtain ⟨e,hne,hx⟩:=Zqo hg hp hs h0
 obtain ⟨i1,i2⟩:=Zir hv hx
 have hsn : Yy t x.vd x.tx = Zaw t.rows x.vd x.tx:=by unfold Yy; rw [hv,i1,i2]; rfl
 have hd : ZaL t.s.key.toNat (Yy t x.vd x.tx) = Zf2 t.s.key.toNat t.rows x.tx x.vd:=by rw [hsn,ZeY (Zgj hg _ _)]; rfl
 refine ⟨i1,i2,fun v h=>?_,?_⟩
 ·unfold Zw
  rw [Zej hne,← e,← hd,h]; rfl
 ·rw [hd]; exact (Zip hg hn hx).1
theorem Zf5 (hv : Zo t = true) : ∀ r ∈ t.rows,t.s.key ≤ r.v.length:=fun r hr=>by
 have h:=Q5 hv hr
 have hs : Yt t.s = true:=by rw [Zbe] at hv; unfold Ql at hv; simp only [Bool.and_eq_true] at hv; exact hv.1.1.1.1.1
 unfold Yt XO at hs
 simp only [Bool.and_eq_true,decide_eq_true_eq] at hs
 rw [h.2.2.2.1]; exact hs.1.1.1.2
theorem Zf6 (hv : Zo t = true) : 1 ≤ t.s.key:=by
 have hs : Yt t.s = true:=by rw [Zbe] at hv; unfold Ql at hv; simp only [Bool.and_eq_true] at hv; exact hv.1.1.1.1.1
 unfold Yt XO at hs
 simp only [Bool.and_eq_true,decide_eq_true_eq] at hs
 exact hs.1.1.1.1.2
theorem Zqp (hv : Zo t = true) {a y : Int} (hy : ZM y = true) (ha : ZM a = true) : ∀ v ∈ Yy t a y,t.s.key ≤ v.length:=fun v h=>by
 rw [Zod hv ha hy] at h
 obtain ⟨r,hr,rfl,_⟩:=h
 exact Zf5 hv r hr
theorem Zok {k : Nat} (h : ((Za9 t.s.key.toNat t.rows k).length : Int) = 0) (hk : t.rows.length ≤ k) : Pt.mk 0 0 [] = ZK (Zw t) ∧ false = (Zw t).isSome:=by
 rw [ZeZ hk] at h
 have : Zw t = none:=Zhk (List.length_eq_zero_iff.1 (by omega))
 rw [this]; exact ⟨rfl,rfl⟩
theorem Zhl {v : List Val} (h : ZM x.tx = true ∧ ZM x.vd = true ∧ (∀ v,ZaL t.s.key.toNat (Yy t x.vd x.tx) = some v → Zw t = some ⟨x.tx,x.vd,v⟩) ∧ ZaL t.s.key.toNat (Yy t x.vd x.tx) ≠ none) (hd : ZaL t.s.key.toNat (Yy t x.vd x.tx) = some v) : Pt.mk x.tx x.vd v = ZK (Zw t) ∧ true = (Zw t).isSome:=by
 rw [h.2.2.1 v hd]; exact ⟨rfl,rfl⟩
theorem Zly {α : Type} {p : α → Bool} {l : List α} {k : Nat} (h : ∀ j,j < k → ∀ x,l[j]? = some x → p x = false) (hk : l.length ≤ k) : l.any p = false:=by
 rw [List.any_eq_false]
 intro x hx
 obtain ⟨i,hi⟩:=List.getElem?_of_mem hx
 obtain ⟨hlt,_⟩:=List.getElem?_eq_some_iff.1 hi
 rw [h i (by omega) x hi]; simp
theorem Zlz {k j : Nat} {l : VV} (h : ∀ i,i < j → ∀ x,l[i]? = some x → (l.drop (i + 1)).any (fun y=>decide (x.take k = y.take k)) = false) (hj : l.length ≤ j) : ZaL k l = none:=
 Zoi fun i x hx=>by
  obtain ⟨hlt,_⟩:=List.getElem?_eq_some_iff.1 hx
  exact h i (by omega) x hx
theorem Zhm (h : Xz t.s.key.toNat t.rows = []) : Zw t = none:=Zhk h
end
end Go.Civ
set_option linter.unusedVariables false
set_option linter.unusedSimpArgs false
set_option maxRecDepth 100000
set_option maxHeartbeats 4000000
namespace Go.Civ
open Go.Proofs
theorem ZmJ {G : GH} {w : World} (hG : G.In w) (l : List HRow) (vl : Value) (hvl : Sl HRowE 56 G vl l) (hgood : Z2 l) (hlen : ∀ r ∈ l,r.v.length ≤ 1000) (hl : l.length ≤ 2000) : CL Tryz.prog (nat_lit 66) #[vl] [] w G fun G' w' r=>∃ o,ZQ HRowE 56 (nat_lit 37) G' r (ZT l) o ∧ Zfr w w' G' o:=by
 refine Zg ft [] Tryz.func66 rfl rfl ?_
 have hS:=St.start (X:=[]) hG
 refine Z3 hS Zmf rfl rfl rfl (Zek hS.imm l _ hvl hgood hlen hl) (fun w1 G1 r1 hpost1 hS1 hle1=>?_)
 have bd1:=hpost1.bound
 refine Zi hpost1 Zai rfl rfl ?_
 have hS3:=hS1.pad
 refine LP.go ft [] (fun m ρ1 w1=>∃ (k1 : Nat),∃ (v1 : Value) (o1 : OB),∃ (G2 : GH),m = (ZY l).length - k1 ∧ G1.le G2 ∧ St w [] G G2 [o1] w1 ∧ ZQ HRowE 56 37 G2 v1 (Zco ((ZY l).take k1)) o1 ∧ FR ρ1 [(3,v1),(7,r1),(8, .int .i64 (((ZY l).length : Nat) : Int)),(9, .int .i64 (k1 : Int))] ∧ k1 ≤ (ZY l).length) _ ⟨0,(.slice none 0 0),none,G1,rfl,(G1.le_refl),hS3,(ZQ.nil HRowE 56 37 G1),⟨rfl,rfl,rfl,rfl,trivial⟩,(by omega)⟩ ?_
 rintro m ρ1 w2 ⟨k1,v1,o1,G2,rfl,hle2,hS2,hr1,hF9,f1⟩
 refine hF9.set ?_
 clear hF9
 have hgl:=@ZcE l
 have hpl:=Zey (k:=k1) (fun g hg=>Nat.le_trans (ZgS g hg) hl) (Nat.le_trans hgl hl)
 refine Zl (k1 : Int) (((ZY l).length : Nat) : Int) rfl rfl rfl (fun h1=>?_) (fun h1=>?_)
 ·refine WL.indexAddr (hpost1.mono hle2) k1 (by omega) Zai X4 rfl rfl rfl rfl (fun p1 x1 hx1 he1=>?_)
  obtain ⟨cs1,hc1,hr2⟩:=he1
  obtain ⟨v2,v3,rfl,hs1,hs2⟩:=QS hr2
  refine Zc hS2 hc1 [v2,v3] X4 rfl rfl rfl rfl rfl ?_
  refine WL.alloc hS2 X4 rfl rfl (fun b1 w3 hn1 hS4=>?_)
  refine WL.store hS4 0 _ _ _ 0 _ [v2,v3] [v2,v3] _ rfl rfl X4 rfl (Nat.le_of_ble_eq_true rfl) (by simp only [List.all_cons,List.all_nil,hs1.oneC,hs2.oneC,Bool.true_and] <;> rfl) rfl rfl rfl rfl rfl (fun w4 hS5=>?_)
  obtain ⟨G3,hle3,hc2,hS6⟩:=hS5.shutB hn1
  have hok:=Zf0 hgood hl (by assumption : (ZY l)[k1]? = some _); have hgn:=ZeO hok.2
  refine Zc hS6 hc2 [v2,v3] X4 rfl rfl rfl rfl rfl ?_
  refine Z3 hS6 ZqY rfl rfl rfl (Ziw hS6.imm x1 _ (ZdS x1 (hs1.mono hle3) (hs2.mono hle3)) hok.1 hok.2) (fun w5 G4 r2 hpost2 hS7 hle4=>?_)
  refine ZV YK rfl rfl rfl (hr1.mono (hle3.trans hle4)) hS7 0 rfl hpost2 (by have hreach : reach = 140737488355328:=rfl; (show _ * 56 ≤ _; omega)) (by have hreach : reach = 140737488355328:=rfl; omega) rfl rfl rfl (fun v4 o2 w6 hr3 hS8=>?_)
  refine Zj k1 (by have hreach : reach = 140737488355328:=rfl; omega) rfl rfl rfl ?_
  exact BK.mk' _ ⟨k1 + 1,v4,o2,G4,rfl,(hle2.trans (hle3.trans hle4)),hS8,(ZQ.cast hr3 (by (rw [ZgR ‹_›]))),⟨rfl,rfl,rfl,rfl,trivial⟩,(by omega)⟩ (show (ZY l).length - (k1 + 1) < (ZY l).length - k1 by omega)
 exact RT hS2 rfl ⟨_,ZQ.cast hr1 (by rw [List.take_of_length_le (by omega)]; rfl),hS2.freshAt 0 rfl⟩
theorem ZmK {G : GH} {w : World} (hG : G.In w) (l : List HRow) (vl : Value) (hvl : Sl HRowE 56 G vl l) (hlen : ∀ r ∈ l,r.v.length ≤ 1000) : CL Tryz.prog (nat_lit 76) #[vl] [] w G fun G' w' r=>∃ r0 r1,r = .tuple #[r0,r1] ∧ (∃ o,ZQ HRowE 56 (nat_lit 37) G' r0 (XT l) o ∧ Zfr w w' G' o) ∧ r1 = .int .i64 (Q1 l):=by
 refine Zg ft [] Tryz.func76 rfl rfl ?_
 have hS:=St.start (X:=[]) hG
 have bd1:=hvl.bound
 refine Zi hvl Yc rfl rfl ?_
 refine YP (l.length : Int) 1000 rfl rfl rfl (fun h1=>?_) (fun h1=>?_)
 ·exact RT hS rfl ⟨_,_,rfl,⟨none,ZQ.cast (ZQ.nil _ _ _ _) (by exact (Zik (by omega)).1.symm),fun _ h=>by cases h⟩,(congrArg (Value.int .i64) (by exact (Zik (by omega)).2.symm))⟩
 refine Zm hS ZsX rfl rfl rfl (ZfL hS.imm l (fun x8=>!Yo x8) _ hvl 132 #[] ⟨Zu9,fun G8 w8 v8 x8 hle8 hG8 hon8 hA8=>by obtain ⟨cs_x8,rfl,hr_x8⟩:=hA8; exact ZmE hG8 x8 cs_x8 hr_x8⟩) (fun w1 G1 hS1 hle1=>?_)
 refine WL.split (fun (h2 : (l.any (fun x8=>!Yo x8)) = true)=>?_) (fun (h2 : (l.any (fun x8=>!Yo x8)) = false)=>?_)
 ·exact RT hS1 rfl ⟨_,_,rfl,⟨none,ZQ.cast (ZQ.nil _ _ _ _) (by exact (Zil (by omega) ‹_›).1.symm),fun _ h=>by cases h⟩,(congrArg (Value.int .i64) (by exact (Zil (by omega) ‹_›).2.symm))⟩
 refine QN Zmb rfl rfl rfl (ZmJ hS1.imm l _ (hvl.mono hle1) (ZfJ ‹_›) hlen (by omega)) (fun w2 G2 r1 hres1 hpost1=>?_)
 have hS2:=hS1.call hres1
 have hle2:=hres1.le
 obtain ⟨o1,hr1,hf1⟩:=hpost1
 have hS3:=hS1.adoptO hres1 hf1
 have bd2:=hr1.bound
 refine Xe hr1 Yc rfl rfl ?_
 refine YP (((ZT l).length : Nat) : Int) 500 rfl rfl rfl (fun h3=>?_) (fun h3=>?_)
 ·exact RT hS3 rfl ⟨_,_,rfl,⟨none,ZQ.cast (ZQ.nil _ _ _ _) (by exact (ZgX (by omega) ‹_› (by omega)).1.symm),fun _ h=>by cases h⟩,(congrArg (Value.int .i64) (by exact (ZgX (by omega) ‹_› (by omega)).2.symm))⟩
 exact RT hS3 rfl ⟨_,_,rfl,⟨_,ZQ.cast hr1 (by exact (Zgg (by omega) ‹_› (by omega)).1.symm),hS3.freshAt 0 rfl⟩,(congrArg (Value.int .i64) (by exact (Zgg (by omega) ‹_› (by omega)).2.symm))⟩
end Go.Civ
namespace Go.Civ
open Go.RowKit
set_option linter.unusedVariables false
section
variable (M : List Val → List Val → Bool) (l : List HRow)
def Zaa (v : List Val) (tx : Int) : List Span:=(l.filter fun o=>Y7 tx o && M v o.v).map fun o=>o.r.d
def YE (v : List Val) (d : Span) (tx : Int) : List Span:=ZL 3 [d] (Qp (Zaa M l v tx))
def Zen (t : List HRow) (v : List Val) (vd tx : Int) : Prop:=ZaZ t v vd tx ∧ ∀ u,M v u = true → ¬ ZaZ l u vd tx
def XU (r : HRow) : List Int → Option Pt
 | []=>none
 | x :: ts=>if X0 x r.r.x then (match YE M l r.v r.r.d x with
  | s :: _=>some ⟨x,s.a,r.v⟩
  | []=>XU r ts) else none
def Yp (r : HRow) (fr : Int) : Int:=max r.r.x.a fr
def ZiU (r : HRow) (fr : Int) (x : Int) : Prop:=x = Yp r fr ∨ ∃ o ∈ l,Yp r fr < o.r.x.b ∧ M r.v o.v = true ∧ o.r.x.b = x
end
section
variable {M : List Val → List Val → Bool} {l t : List HRow} {v : List Val} {d : Span} {tx vd fr : Int} {r : HRow} {ts : List Int}
theorem Zdf (hg : Z2 l) : ∀ s ∈ Zaa M l v tx,ZF s = true:=fun s hs=>by
 obtain ⟨o,ho,rfl⟩:=List.mem_map.1 hs
 exact (ZS (hg o (List.mem_filter.1 ho).1)).2.1
theorem Zeo (hg : Z2 l) (hd : d.a < d.b) : Can (YE M l v d tx) ∧ ∀ x,cover (YE M l v d tx) x ↔ (d.a ≤ x ∧ x < d.b) ∧ ¬ ∃ o ∈ l,Y7 tx o = true ∧ M v o.v = true ∧ o.r.d.a ≤ x ∧ x < o.r.d.b:=by
 have c:=XN fun s hs=>Y3 (Zdf (M:=M) (v:=v) (tx:=tx) hg s hs)
 have h:=QL (kind:=3) rfl (a:=[d]) (b:=Qp (Zaa M l v tx)) (by simpa using hd) c.can.pos
 refine ⟨h.1,fun x=>(h.2 x).trans ?_⟩
 have e1 : Yu [d] x = true ↔ d.a ≤ x ∧ x < d.b:=by rw [X9,XB]
 have e2 : Yu (Qp (Zaa M l v tx)) x = true ↔ ∃ o ∈ l,Y7 tx o = true ∧ M v o.v = true ∧ o.r.d.a ≤ x ∧ x < o.r.d.b:=by
  rw [X9,c.cov]
  unfold cover Zaa
  constructor
  ·rintro ⟨s,hs,k⟩
   obtain ⟨o,ho,rfl⟩:=List.mem_map.1 hs
   rw [List.mem_filter,Bool.and_eq_true] at ho
   exact ⟨o,ho.1,ho.2.1,ho.2.2,k⟩
  ·rintro ⟨o,ho,k1,k2,k3⟩
   exact ⟨o.r.d,List.mem_map.2 ⟨o,List.mem_filter.2 ⟨ho,by rw [k1,k2]; rfl⟩,rfl⟩,k3⟩
 rw [← e1,← e2]
 simp [YW]
theorem Zi0 (hg : Z2 l) (hd : d.a < d.b) {s : Span} {q : List Span} (h : YE M l v d tx = s :: q) : cover (YE M l v d tx) s.a ∧ (∀ x,cover (YE M l v d tx) x → s.a ≤ x) ∧ (s.a = d.a ∨ ∃ o ∈ l,o.r.d.b = s.a):=by
 have I:=Zeo (M:=M) (v:=v) (tx:=tx) hg hd
 have hc:=I.1
 rw [h] at hc
 have hp:=hc.pos s (by simp)
 have c1 : cover (YE M l v d tx) s.a:=by rw [h]; exact ⟨s,by simp,Int.le_refl _,hp⟩
 have c2 : ∀ x,cover (YE M l v d tx) x → s.a ≤ x:=fun x hx=>by
  rw [h] at hx
  rcases YG.1 hx with k | k
  ·exact k.1
  ·have:=hc.above k; omega
 refine ⟨c1,c2,?_⟩
 obtain ⟨k1,k2⟩:=(I.2 s.a).1 c1
 by_cases e : s.a = d.a
 ·exact .inl e
 ·right
  have n1 : ¬ cover (YE M l v d tx) (s.a - 1):=fun k=>by have:=c2 _ k; omega
  rw [I.2] at n1
  have : ∃ o ∈ l,Y7 tx o = true ∧ M v o.v = true ∧ o.r.d.a ≤ s.a - 1 ∧ s.a - 1 < o.r.d.b:=by
   refine Classical.byContradiction fun q=>n1 ⟨⟨by omega,by omega⟩,q⟩
  obtain ⟨o,ho,q1,q2,q3,q4⟩:=this
  refine ⟨o,ho,?_⟩
  have : ¬ (o.r.d.a ≤ s.a ∧ s.a < o.r.d.b):=fun k=>k2 ⟨o,ho,q1,q2,k⟩
  omega
theorem ZbU : ∀ {ts : List Int} {p : Pt},XU M l r ts = some p → p.tx ∈ ts ∧ X0 p.tx r.r.x = true ∧ p.v = r.v ∧ ∃ s q,YE M l r.v r.r.d p.tx = s :: q ∧ p.vd = s.a
 | [],p,h=>by cases h
 | x :: ts,p,h=>by
  unfold XU at h
  split at h
  ·rename_i hx
   split at h
   ·rename_i s q hl
    obtain rfl:=Option.some.inj h
    exact ⟨by simp,hx,rfl,s,q,hl,rfl⟩
   ·obtain ⟨a,b⟩:=ZbU h
    exact ⟨List.mem_cons_of_mem _ a,b⟩
  ·cases h
theorem ZlA : ∀ {ts : List Int} {x : Int},ts.Pairwise (· < ·) → x ∈ ts → x < r.r.x.b → (∀ y ∈ ts,r.r.x.a ≤ y) → YE M l r.v r.r.d x ≠ [] → ∃ p,XU M l r ts = some p ∧ p.tx ≤ x
 | [],x,_,h,_,_,_=>by cases h
 | y :: ts,x,hp,h,hx,ha,hl=>by
  obtain ⟨hp1,hp2⟩:=List.pairwise_cons.1 hp
  have hyx : y ≤ x:=by
   rcases List.mem_cons.1 h with e | h
   ·omega
   ·have:=hp1 x h; omega
  have hy : X0 y r.r.x = true:=ZhF.2 ⟨ha y (by simp),by omega⟩
  unfold XU
  rw [if_pos hy]
  split
  ·exact ⟨_,rfl,hyx⟩
  ·rename_i e
   rcases List.mem_cons.1 h with e2 | h
   ·subst e2; exact absurd e hl
   ·exact ZlA hp2 h hx (fun z hz=>ha z (by simp [hz])) hl
theorem Zo7 (hgl : Z2 l) (hgt : Z2 t) (hr : r ∈ t) {p : Pt} (hts : ∀ x ∈ ts,ZiU M l r fr x) (h : XU M l r ts = some p) :
  Zen M l t p.v p.vd p.tx ∧ fr ≤ p.tx ∧ (p.tx = fr ∨ (∃ q ∈ t,q.r.x.a = p.tx) ∨ ∃ o ∈ l,o.r.x.b = p.tx) ∧ ((∃ q ∈ t,q.r.d.a = p.vd) ∨ ∃ o ∈ l,o.r.d.b = p.vd):=by
 obtain ⟨h1,h2,h3,s,q,h4,h5⟩:=ZbU h
 have hd:=Y3 (ZS (hgt r hr)).2.1
 obtain ⟨c1,c2,c3⟩:=Zi0 hgl hd h4
 obtain ⟨k1,k2⟩:=((Zeo hgl hd).2 s.a).1 c1
 rw [ZhF] at h2
 refine ⟨⟨⟨r,hr,h3.symm,QW.2 ⟨by rw [h5]; exact k1.1,by rw [h5]; exact k1.2,h2.1,h2.2⟩⟩,fun u hu=>?_⟩,?_,?_,?_⟩
 ·rintro ⟨o,ho,ho1,ho2⟩
  obtain ⟨z1,z2,z3,z4⟩:=QW.1 ho2
  refine k2 ⟨o,ho,by unfold Y7; simp; exact ⟨z3,z4⟩,by rw [ho1,← h3]; exact hu,by rw [h5] at z1 z2; exact ⟨z1,z2⟩⟩
 ·rcases hts _ h1 with e | ⟨o,ho,e1,_,e2⟩
  ·rw [e]; unfold Yp; omega
  ·unfold Yp at e1; omega
 ·rcases hts _ h1 with e | ⟨o,ho,e1,_,e2⟩
  ·unfold Yp at e
   rcases Int.le_total r.r.x.a fr with z | z
   ·left; omega
   ·right; left; exact ⟨r,hr,by omega⟩
  ·right; right; exact ⟨o,ho,e2⟩
 ·rcases c3 with c3 | ⟨o,ho,c3⟩
  ·left; exact ⟨r,hr,by rw [h5]; exact c3.symm⟩
  ·right; exact ⟨o,ho,by rw [h5]; exact c3⟩
theorem Zi1 : ∀ {ts : List Int} {x : Int},(∃ y ∈ ts,y ≤ x) → ∃ y ∈ ts,y ≤ x ∧ ∀ z ∈ ts,z ≤ x → z ≤ y
 | [],x,⟨y,hy,_⟩=>by cases hy
 | a :: ts,x,h=>by
  by_cases q : ∃ y ∈ ts,y ≤ x
  ·obtain ⟨y,hy,h1,h2⟩:=Zi1 q
   by_cases e : a ≤ x ∧ y < a
   ·refine ⟨a,by simp,e.1,fun z hz hzx=>?_⟩
    rcases List.mem_cons.1 hz with k | k
    ·omega
    ·have:=h2 z k hzx; omega
   ·refine ⟨y,by simp [hy],h1,fun z hz hzx=>?_⟩
    rcases List.mem_cons.1 hz with k | k
    ·omega
    ·exact h2 z k hzx
  ·obtain ⟨y,hy,hyx⟩:=h
   rcases List.mem_cons.1 hy with k | k
   ·subst k
    refine ⟨y,by simp,hyx,fun z hz hzx=>?_⟩
    rcases List.mem_cons.1 hz with k | k
    ·omega
    ·exact absurd ⟨z,k,hzx⟩ q
   ·exact absurd ⟨y,k,hyx⟩ q
theorem Zk6 (hgl : Z2 l) (hgt : Z2 t) (hf : fr ≤ tx) (h : Zen M l t v vd tx) : ∃ r ∈ t,r.v = v ∧ ∀ ts : List Int,ts.Pairwise (· < ·) → (∀ x,x ∈ ts ↔ ZiU M l r fr x) → ∃ p,XU M l r ts = some p ∧ (p.tx < tx ∨ (p.tx = tx ∧ p.vd ≤ vd)):=by
 obtain ⟨⟨r,hr,hv,hh⟩,hn⟩:=h
 refine ⟨r,hr,hv,fun ts hp hm=>?_⟩
 obtain ⟨a1,a2,a3,a4⟩:=QW.1 hh
 have hd:=Y3 (ZS (hgt r hr)).2.1
 have hs : Yp r fr ≤ tx:=by unfold Yp; omega
 obtain ⟨y,hy,hyx,hlast⟩:=Zi1 ⟨Yp r fr,(hm _).2 (.inl rfl),hs⟩
 have hge : ∀ z ∈ ts,Yp r fr ≤ z:=fun z hz=>by
  rcases (hm z).1 hz with e | ⟨o,_,e1,_,e2⟩ <;> omega
 have hc : cover (YE M l r.v r.r.d y) vd:=by
  rw [(Zeo hgl hd).2]
  refine ⟨⟨a1,a2⟩,?_⟩
  rintro ⟨o,ho,q1,q2,q3,q4⟩
  unfold Y7 at q1
  simp at q1
  have hsy:=hge y hy
  have hob : tx < o.r.x.b:=by
   rcases Int.lt_or_le tx o.r.x.b with z | z
   ·exact z
   ·have:=hlast _ ((hm _).2 (.inr ⟨o,ho,by omega,q2,rfl⟩)) z; omega
  exact hn o.v (by rw [← hv]; exact q2) ⟨o,ho,rfl,QW.2 ⟨q3,q4,by omega,hob⟩⟩
 have hne : YE M l r.v r.r.d y ≠ []:=fun e=>by rw [e] at hc; obtain ⟨_,k,_⟩:=hc; cases k
 obtain ⟨p,hp1,hp2⟩:=ZlA hp hy (by omega) (fun z hz=>by have:=hge z hz; unfold Yp at this; omega) hne
 refine ⟨p,hp1,?_⟩
 by_cases e : p.tx = tx
 ·right
  refine ⟨e,?_⟩
  have ey : y = tx:=by omega
  obtain ⟨_,_,_,s,q,h4,h5⟩:=ZbU hp1
  rw [h5]
  refine (Zi0 hgl hd h4).2.1 vd ?_
  rw [e,← ey]; exact hc
 ·left; omega
end
end Go.Civ
