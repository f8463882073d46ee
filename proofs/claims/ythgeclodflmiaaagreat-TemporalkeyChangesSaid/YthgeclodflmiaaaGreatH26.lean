/- Lemmas. -/
import Derived.Test.YthgeclodflmiaaaGreatH09
import Derived.Test.YthgeclodflmiaaaGreatH21
import Derived.Test.YthgeclodflmiaaaGreatH25
import Derived.Test.YthgeclodflmiaaaGreatProg
import Derived.KernelRfl
import Derived.WalkKit
namespace Go.Civ
open Go.RowKit
set_option linter.unusedVariables false
section
variable {G : GH} {cs : List Value}
def PtE : Enc Pt:=(Enc.pair .int (Enc.pair .int (ValE.slice 32))).via fun x=>(x.tx,x.vd,x.v)
theorem Zcf {x : Pt} (h : PtE.rep G x cs) : ∃ v,cs = [.int .i64 x.tx, .int .i64 x.vd,v] ∧ Zw x.tx ∧ Zw x.vd ∧ Sl ValE 32 G v x.v:=by
 obtain ⟨c1,c2,rfl,⟨rfl,h1⟩,c3,c4,rfl,⟨rfl,h2⟩,v,rfl,h3⟩:=h
 exact ⟨v,rfl,h1,h2,h3⟩
theorem Zbk (x : Pt) {v : Value} (h1 : Zw x.tx) (h2 : Zw x.vd) (h3 : Sl ValE 32 G v x.v) : PtE.rep G x [.int .i64 x.tx, .int .i64 x.vd,v]:=
 ⟨_,_,rfl,⟨rfl,h1⟩,_,_,rfl,⟨rfl,h2⟩,v,rfl,h3⟩
end
def Zas (x y : Pt) : Int:=if Yu x.tx y.tx ≠ 0 then Yu x.tx y.tx else if Yu x.vd y.vd ≠ 0 then Yu x.vd y.vd else X4 x.v y.v
def bef2 (x y : Int × List Val) : Int:=if Yu x.1 y.1 ≠ 0 then Yu x.1 y.1 else ZG cmpV x.2 y.2
def befL (x y : Pt) : Int:=if Yu x.tx y.tx ≠ 0 then Yu x.tx y.tx else bef2 (x.vd,x.v) (y.vd,y.v)
theorem Zrw : TOrd bef2:=TOrd.lex (f:=Prod.fst) (g:=Prod.snd) ZaN (Zkv Zku) fun x y h1 h2=>Prod.ext h1 h2
theorem QM : TOrd befL:=TOrd.lex (f:=Pt.tx) (g:=fun x : Pt=>(x.vd,x.v)) ZaN Zrw fun x y h1 h2=>by
 cases x; cases y; simp at h1 h2; simp [h1,h2]
theorem QI {x y : Pt} (hx : x.v.all Zz = true) (hy : y.v.all Zz = true) : Zas x y = befL x y:=by
 unfold Zas befL bef2; rw [Ql hx hy]
def VP (l : List Pt) : Prop:=∀ p ∈ l,p.v.all Zz = true
def Zco (m q : Pt) : Pt:=if Zas q m < 0 then q else m
def ZhQ : Pt:=⟨0,0,[]⟩
def Zds : List Pt → Pt
 | []=>ZhQ
 | p :: r=>r.foldl Zco p
theorem ZeS : ∀ (r : List Pt) (p : Pt),p.v.all Zz = true → VP r → (r.foldl Zco p = p ∨ r.foldl Zco p ∈ r) ∧ ¬ Zas p (r.foldl Zco p) < 0 ∧ ∀ q ∈ r,¬ Zas q (r.foldl Zco p) < 0
 | [],p,hp,_=>⟨.inl rfl,by show ¬ Zas p p < 0; rw [QI hp hp,QM.refl]; omega,fun q hq=>by cases hq⟩
 | x :: r,p,hp,hr=>by
  have hx:=hr x (by simp)
  have hr2 : VP r:=fun q hq=>hr q (by simp [hq])
  by_cases e : Zas x p < 0
  ·have e1 : Zco p x = x:=if_pos e
   obtain ⟨h1,h2,h3⟩:=ZeS r x hx hr2
   rw [List.foldl_cons,e1]
   have hm : (r.foldl Zco x).v.all Zz = true:=by rcases h1 with h | h; (rw [h]; exact hx); exact hr2 _ h
   refine ⟨.inr ?_,?_,fun q hq=>?_⟩
   ·rcases h1 with h | h
    ·rw [h]; simp
    ·exact List.mem_cons_of_mem _ h
   ·intro k
    rw [QI hp hm] at k; rw [QI hx hp] at e; rw [QI hx hm] at h2
    exact h2 (QM.trans _ _ _ e k)
   ·rcases List.mem_cons.1 hq with rfl | hq
    ·exact h2
    ·exact h3 q hq
  ·have e1 : Zco p x = p:=if_neg e
   obtain ⟨h1,h2,h3⟩:=ZeS r p hp hr2
   rw [List.foldl_cons,e1]
   have hm : (r.foldl Zco p).v.all Zz = true:=by rcases h1 with h | h; (rw [h]; exact hp); exact hr2 _ h
   refine ⟨?_,h2,fun q hq=>?_⟩
   ·rcases h1 with h | h
    ·exact .inl h
    ·exact .inr (List.mem_cons_of_mem _ h)
   ·rcases List.mem_cons.1 hq with rfl | hq
    ·rw [QI hx hm]; rw [QI hx hp] at e; rw [QI hp hm] at h2
     exact QM.le_trans h2 e
    ·exact h3 q hq
theorem ZeT {l : List Pt} (hV : VP l) (hne : l ≠ []) : Zds l ∈ l ∧ ∀ q ∈ l,¬ Zas q (Zds l) < 0:=by
 cases l with
 | nil=>exact absurd rfl hne
 | cons p r=>
  obtain ⟨h1,h2,h3⟩:=ZeS r p (hV p (by simp)) fun q hq=>hV q (by simp [hq])
  refine ⟨?_,fun q hq=>?_⟩
  ·show r.foldl Zco p ∈ _
   rcases h1 with h | h
   ·rw [h]; simp
   ·exact List.mem_cons_of_mem _ h
  ·rcases List.mem_cons.1 hq with rfl | hq
   ·exact h2
   ·exact h3 q hq
theorem Zrx {x y : Pt} (hx : x.v.all Zz = true) (hy : y.v.all Zz = true) (h1 : ¬ Zas x y < 0) (h2 : ¬ Zas y x < 0) : x = y:=by
 rw [QI hx hy] at h1; rw [QI hy hx] at h2
 refine (QM.eq x y).1 ?_
 have:=QM.swap y x
 have:=QM.swap x y
 omega
theorem Zt1 {q m : Pt} (h : ¬ Zas q m < 0) : ¬ ZhP q.tx q.vd m.tx m.vd:=by
 intro k
 apply h
 unfold Zas Yu
 unfold ZhP at k
 rcases k with k | ⟨k1,k2⟩
 ·rw [if_pos k]; simp
 ·rw [k1,if_neg (Int.lt_irrefl _),if_neg (Int.lt_irrefl _),if_pos k2]; simp
def Yk : Option Pt → Pt
 | none=>ZhQ
 | some p=>p
def ZN : Option Pt → HRow
 | none=>⟨[],⟨⟨0,0⟩,⟨0,0⟩⟩⟩
 | some p=>⟨p.v,⟨⟨p.vd,p.vd + 1⟩,⟨p.tx,p.tx + 1⟩⟩⟩
def Zgi (k : Nat) (l : List HRow) : Option Pt:=match Xs k l with
 | []=>none
 | q :: r=>some ⟨(Zds (q :: r)).tx,(Zds (q :: r)).vd,(QW k l (Zds (q :: r)).tx (Zds (q :: r)).vd).getD []⟩
def Zx (t : Table) : Option Pt:=Zgi t.s.key.toNat t.rows
def Y6 (t : Table) : Bool:=Z2 t && (Zx t).isNone
def YV (t : Table) : HRow:=if Z2 t then ZN (Zx t) else ZN none
def ZaS (k : Nat) (l : List HRow) (i : Nat) : List Pt:=(List.range i).flatMap (ZdH k l)
def ZaT (k : Nat) (a : HRow) (m : List HRow) : List Pt:=(m.filter (ovB k a)).map (ZdX a)
section
variable {k i j : Nat} {l m : List HRow} {a b : HRow}
theorem ZnI (h : l[i]? = some a) : ZaS k l (i + 1) = ZaS k l i ++ ZaT k a (l.take i):=by
 unfold ZaS ZaT
 rw [List.range_succ,List.flatMap_append]
 congr 1
 simp [ZdH,h]
theorem ZfG (h : l.length ≤ i) : ZaS k l i = Xs k l:=by
 unfold ZaS Xs
 obtain ⟨d,rfl⟩ : ∃ d,i = l.length + d:=⟨i - l.length,by omega⟩
 induction d with
 | zero=>rfl
 | succ d ih=>
  rw [← Nat.add_assoc,List.range_succ,List.flatMap_append,ih (by omega)]
  simp [ZdH]
theorem Zjj : (ZaT k a m).length ≤ m.length:=by unfold ZaT; rw [List.length_map]; exact List.length_filter_le _ _
theorem ZfH (hl : l.length ≤ 500) : ∀ i,(ZaS k l i).length ≤ 500 * i
 | 0=>by simp [ZaS]
 | i + 1=>by
  have ih:=ZfH hl i
  unfold ZaS at ih ⊢
  rw [List.range_succ,List.flatMap_append,List.length_append]
  have : ([i].flatMap (ZdH k l)).length ≤ 500:=by
   simp only [List.flatMap_cons,List.flatMap_nil,List.append_nil]
   unfold ZdH
   split
   ·rename_i x _
    have h1:=Zjj (k:=k) (a:=x) (m:=l.take i)
    have h2:=List.length_take_le' i l
    unfold ZaT at h1
    omega
   ·simp
  omega
theorem ZdI (hb : m[j]? = some b) (h1 : QO (max a.r.x.a b.r.x.a) a.r.x = true) (h2 : QO (max a.r.x.a b.r.x.a) b.r.x = true) (h3 : QO (max a.r.d.a b.r.d.a) a.r.d = true) (h4 : QO (max a.r.d.a b.r.d.a) b.r.d = true)
  (h5 : decide (a.v.take k = b.v.take k) = true) : ZaT k a (m.take (j + 1)) = ZaT k a (m.take j) ++ [ZdX a b]:=by
 unfold ZaT
 rw [List.take_add_one,hb,List.filter_append,List.map_append]
 have : ovB k a b = true:=by unfold ovB; rw [h1,h2,h3,h4,h5]; rfl
 simp [this]
theorem QN (hb : m[j]? = some b) (h : QO (max a.r.x.a b.r.x.a) a.r.x = false ∨ QO (max a.r.x.a b.r.x.a) b.r.x = false ∨ QO (max a.r.d.a b.r.d.a) a.r.d = false ∨ QO (max a.r.d.a b.r.d.a) b.r.d = false ∨ decide (a.v.take k = b.v.take k) = false) :
  ZaT k a (m.take (j + 1)) = ZaT k a (m.take j):=by
 unfold ZaT
 rw [List.take_add_one,hb,List.filter_append,List.map_append]
 have : ovB k a b = false:=by unfold ovB; rcases h with h | h | h | h | h <;> rw [h] <;> simp
 simp [this]
theorem Zgj (h : X4 b.v a.v < 0) : ZdX a b = ⟨max a.r.x.a b.r.x.a,max a.r.d.a b.r.d.a,b.v⟩:=by unfold ZdX; rw [if_pos h]
theorem Zgk (h : 0 ≤ X4 b.v a.v) : ZdX a b = ⟨max a.r.x.a b.r.x.a,max a.r.d.a b.r.d.a,a.v⟩:=by unfold ZdX; rw [if_neg (by omega)]
theorem ZhR (hg : ZK l) : VP (Xs k l):=fun p hp=>by
 obtain ⟨i,j,a,b,ha,hb,_,_,rfl⟩:=Zis.1 hp
 have h1:=(Yx (hg a (List.mem_of_getElem? ha))).1
 have h2:=(Yx (hg b (List.mem_of_getElem? hb))).1
 unfold ZdX
 simp only
 split
 ·exact h2
 ·exact h1
end
section
variable {k : Nat} {l : List HRow} {q : List Pt} {x : Pt}
theorem Zry (hg : ZK l) (hp : q.Perm (Xs k l)) (hs : q.Pairwise fun x y=>¬ Zas y x < 0) (h0 : q[0]? = some x) : x = Zds (Xs k l) ∧ Xs k l ≠ [] ∧ x ∈ Xs k l:=by
 have hx : x ∈ Xs k l:=hp.subset (List.mem_of_getElem? h0)
 have hne : Xs k l ≠ []:=fun e=>by rw [e] at hx; cases hx
 have hV:=ZhR (k:=k) hg
 obtain ⟨h1,h2⟩:=ZeT hV hne
 refine ⟨?_,hne,hx⟩
 cases q with
 | nil=>cases h0
 | cons y r=>
  obtain rfl:=Option.some.inj h0
  have hmin : ∀ z ∈ y :: r,¬ Zas z y < 0:=fun z hz=>by
   rcases List.mem_cons.1 hz with rfl | hz
   ·rw [QI (hV _ hx) (hV _ hx),QM.refl]; omega
   ·exact (List.pairwise_cons.1 hs).1 z hz
  exact Zrx (hV _ hx) (hV _ h1) (h2 _ hx) (hmin _ (hp.symm.subset h1))
theorem ZeU (h : Xs k l = []) : Zgi k l = none:=by unfold Zgi; rw [h]
theorem ZcK (h : Xs k l ≠ []) : Zgi k l = some ⟨(Zds (Xs k l)).tx,(Zds (Xs k l)).vd,(QW k l (Zds (Xs k l)).tx (Zds (Xs k l)).vd).getD []⟩:=by
 unfold Zgi
 cases e : Xs k l with
 | nil=>exact absurd e h
 | cons a r=>rfl
theorem ZfI {k j : Nat} {v : List Val} : ∀ {l : VV},(∀ i,i < j → ∀ x,l[i]? = some x → (l.drop (i + 1)).any (fun y=>decide (x.take k = y.take k)) = false) → l[j]? = some v → (∃ w ∈ l.drop (j + 1),v.take k = w.take k) → ZaZ k l = some v
 | [],_,h,_=>by cases h
 | x :: r,h1,h2,⟨w,hw,e⟩=>by
  unfold ZaZ
  cases j with
  | zero=>
   obtain rfl:=Option.some.inj h2
   rw [if_pos]
   rw [List.any_eq_true]
   exact ⟨w,by simpa using hw,decide_eq_true e.symm⟩
  | succ j=>
   have h0:=h1 0 (by omega) x rfl
   rw [if_neg]
   ·exact ZfI (j:=j) (fun i hi y hy=>by simpa using h1 (i + 1) (by omega) y (by simpa using hy)) (by simpa using h2) ⟨w,by simpa using hw,e⟩
   ·rw [List.any_eq_true]
    rintro ⟨y,hy,e2⟩
    rw [List.any_eq_false] at h0
    exact h0 y (by simpa using hy) (by have:=of_decide_eq_true e2; exact decide_eq_true this.symm)
theorem Zpq {k : Nat} : ∀ {l : VV},(∀ i x,l[i]? = some x → (l.drop (i + 1)).any (fun y=>decide (x.take k = y.take k)) = false) → ZaZ k l = none
 | [],_=>rfl
 | x :: r,h=>by
  unfold ZaZ
  have h0:=h 0 x rfl
  rw [if_neg]
  ·exact Zpq fun i y hy=>by simpa using h (i + 1) y (by simpa using hy)
  ·rw [List.any_eq_true]
   rintro ⟨y,hy,e2⟩
   rw [List.any_eq_false] at h0
   exact h0 y (by simpa using hy) (by have:=of_decide_eq_true e2; exact decide_eq_true this.symm)
end
section
variable {t : Table} {q : List Pt} {x : Pt}
theorem Zjk (hv : Z2 t = true) {p : Pt} (hp : p ∈ Xs t.s.key.toNat t.rows) : Yp p.tx = true ∧ Yp p.vd = true:=by
 obtain ⟨hg,_,_,hn⟩:=Y5 hv
 obtain ⟨_,⟨r,hr,e1⟩,s,hs,e2⟩:=ZfF hg hn hp
 have a:=(Yx (hg r hr)).2.2
 have b:=(Yx (hg s hs)).2.1
 unfold ZI at a b
 simp at a b
 unfold Yp
 simp only [Bool.and_eq_true,decide_eq_true_eq]
 omega
theorem Zpr (hv : Z2 t = true) (hp : q.Perm (Xs t.s.key.toNat t.rows)) (hs : q.Pairwise fun x y=>¬ Zas y x < 0) (h0 : q[0]? = some x) :
  Yp x.tx = true ∧ Yp x.vd = true ∧ (∀ v,ZaZ t.s.key.toNat (YF t x.vd x.tx) = some v → Zx t = some ⟨x.tx,x.vd,v⟩) ∧ ZaZ t.s.key.toNat (YF t x.vd x.tx) ≠ none:=by
 obtain ⟨hg,_,_,hn⟩:=Y5 hv
 obtain ⟨e,hne,hx⟩:=Zry hg hp hs h0
 obtain ⟨i1,i2⟩:=Zjk hv hx
 have hsn : YF t x.vd x.tx = ZaC t.rows x.vd x.tx:=by unfold YF; rw [hv,i1,i2]; rfl
 have hd : ZaZ t.s.key.toNat (YF t x.vd x.tx) = QW t.s.key.toNat t.rows x.tx x.vd:=by rw [hsn,ZfE (ZeR hg _ _)]; rfl
 refine ⟨i1,i2,fun v h=>?_,?_⟩
 ·unfold Zx
  rw [ZcK hne,← e,← hd,h]; rfl
 ·rw [hd]; exact (ZfF hg hn hx).1
theorem Zgl (hv : Z2 t = true) : ∀ r ∈ t.rows,t.s.key ≤ r.v.length:=fun r hr=>by
 have h:=QL hv hr
 have hs : YM t.s = true:=by rw [Zbx] at hv; unfold Q0 at hv; simp only [Bool.and_eq_true] at hv; exact hv.1.1.1.1.1
 unfold YM Qj at hs
 simp only [Bool.and_eq_true,decide_eq_true_eq] at hs
 rw [h.2.2.2.1]; exact hs.1.1.1.2
theorem Zit (hv : Z2 t = true) : 1 ≤ t.s.key:=by
 have hs : YM t.s = true:=by rw [Zbx] at hv; unfold Q0 at hv; simp only [Bool.and_eq_true] at hv; exact hv.1.1.1.1.1
 unfold YM Qj at hs
 simp only [Bool.and_eq_true,decide_eq_true_eq] at hs
 exact hs.1.1.1.1.2
theorem Zrz (hv : Z2 t = true) {a y : Int} (hy : Yp y = true) (ha : Yp a = true) : ∀ v ∈ YF t a y,t.s.key ≤ v.length:=fun v h=>by
 rw [Zpl hv ha hy] at h
 obtain ⟨r,hr,rfl,_⟩:=h
 exact Zgl hv r hr
theorem Zps {k : Nat} (h : ((ZaS t.s.key.toNat t.rows k).length : Int) = 0) (hk : t.rows.length ≤ k) : Pt.mk 0 0 [] = Yk (Zx t) ∧ false = (Zx t).isSome:=by
 rw [ZfG hk] at h
 have : Zx t = none:=ZeU (List.length_eq_zero_iff.1 (by omega))
 rw [this]; exact ⟨rfl,rfl⟩
theorem ZhS {v : List Val} (h : Yp x.tx = true ∧ Yp x.vd = true ∧ (∀ v,ZaZ t.s.key.toNat (YF t x.vd x.tx) = some v → Zx t = some ⟨x.tx,x.vd,v⟩) ∧ ZaZ t.s.key.toNat (YF t x.vd x.tx) ≠ none) (hd : ZaZ t.s.key.toNat (YF t x.vd x.tx) = some v) : Pt.mk x.tx x.vd v = Yk (Zx t) ∧ true = (Zx t).isSome:=by
 rw [h.2.2.1 v hd]; exact ⟨rfl,rfl⟩
theorem Zt2 {α : Type} {p : α → Bool} {l : List α} {k : Nat} (h : ∀ j,j < k → ∀ x,l[j]? = some x → p x = false) (hk : l.length ≤ k) : l.any p = false:=by
 rw [List.any_eq_false]
 intro x hx
 obtain ⟨i,hi⟩:=List.getElem?_of_mem hx
 obtain ⟨hlt,_⟩:=List.getElem?_eq_some_iff.1 hi
 rw [h i (by omega) x hi]; simp
theorem Zmm {k j : Nat} {l : VV} (h : ∀ i,i < j → ∀ x,l[i]? = some x → (l.drop (i + 1)).any (fun y=>decide (x.take k = y.take k)) = false) (hj : l.length ≤ j) : ZaZ k l = none:=
 Zpq fun i x hx=>by
  obtain ⟨hlt,_⟩:=List.getElem?_eq_some_iff.1 hx
  exact h i (by omega) x hx
theorem ZhT (h : Xs t.s.key.toNat t.rows = []) : Zx t = none:=ZeU h
end
end Go.Civ
set_option linter.unusedVariables false
set_option linter.unusedSimpArgs false
set_option maxRecDepth 100000
set_option maxHeartbeats 4000000
namespace Go.Civ
open Go.Proofs
theorem Zr8 {G : GH} {w : World} (hG : G.In w) (l : List Col) (pf : Col → Bool) (vl : Value) (hvl : Sl ColE 24 G vl l) (fid : Nat) (fcap : Array Value) (hf : FnB Tryz.prog (Is ColE) fid fcap G (fun x=>x ∈ l) pf) : CL Tryz.prog (nat_lit 265) #[vl, .func (.func fid) #[] fcap] [] w G fun _ _ r=>r = .int .i64 (Za4 pf l):=by
 refine Zg ft [] Tryz.func265 rfl rfl ?_
 have hS:=St.start (X:=[]) hG
 have bd1:=hvl.bound
 refine Zj hvl Qx rfl rfl ?_
 refine LP.go ft [] (fun m ρ1 w1=>∃ (k1 : Nat),∃ (G1 : GH),m = l.length - k1 ∧ G.le G1 ∧ St w [] G G1 [] w1 ∧ FR ρ1 [(0,vl),(1, .func (.func fid) #[] fcap),(7, .int .i64 (l.length : Int)),(8, .int .i64 (k1 : Int))] ∧ k1 ≤ l.length ∧ ∀ j,j < k1 → ∀ x,l[j]? = some x → pf x = false) _ ⟨0,G,rfl,(G.le_refl),hS,⟨rfl,rfl,rfl,rfl,trivial⟩,(by omega),(by intro j hj; omega)⟩ ?_
 rintro m ρ1 w1 ⟨k1,G1,rfl,hle1,hS1,hF9,f1,f2⟩
 refine hF9.set ?_
 clear hF9
 refine Zq (k1 : Int) (l.length : Int) rfl rfl rfl (fun h1=>?_) (fun h1=>?_)
 ·refine WL.indexAddr (hvl.mono hle1) k1 (by omega) Qx Xi rfl rfl rfl rfl (fun p1 x1 hx1 he1=>?_)
  obtain ⟨cs1,hc1,hr1⟩:=he1
  obtain ⟨rfl,hb1,hb2⟩:=X8 hr1
  refine Zc hS1 hc1 [Zb x1.name, .int .i64 x1.kind] Xi rfl rfl rfl rfl rfl ?_
  refine Zn hS1 hf.body rfl rfl rfl (hf.call _ _ (.agg #[Zb x1.name, .int .i64 x1.kind]) x1 hle1 hS1.imm (List.mem_of_getElem? hx1) ⟨_,rfl,(Zeb x1 hb1 hb2)⟩) (fun w2 G2 hS2 hle2=>?_)
  refine WL.split (fun (h2 : (pf x1) = true)=>?_) (fun (h2 : (pf x1) = false)=>?_)
  ·exact RI hS2 rfl (by exact (Zcs _ ‹_› ‹_› ‹_›).symm)
  refine Zl k1 (by have hreach : reach = 140737488355328:=rfl; omega) rfl rfl rfl ?_
  exact BK.mk' _ ⟨k1 + 1,G2,rfl,(hle1.trans hle2),hS2,⟨rfl,rfl,rfl,rfl,trivial⟩,(by omega),(by exact Xy ‹_› ‹_› ‹_›)⟩ (show l.length - (k1 + 1) < l.length - k1 by omega)
 exact RI hS1 rfl (by exact (Zb5 ‹_› (by omega)).symm)
theorem Zt9 {G : GH} {w : World} (hG : G.In w) (x : Col) (nm : List UInt8) (cx : List Value) (hcx : ColE.rep G x cx) (pn : Addr) (hpn : Xw G pn [Zb nm]) : CL Tryz.prog (nat_lit 266) #[.agg cx.toArray, .pointer (some pn)] [] w G fun _ _ r=>r = .bool (decide (x.name = nm)):=by
 refine Zg ft [] Tryz.func266 rfl rfl ?_
 have hS:=St.start (X:=[]) hG
 obtain ⟨rfl,hb1,hb2⟩:=X8 hcx
 refine Zv [Zb x.name, .int .i64 x.kind] _ hS rfl rfl rfl (fun p1 w1 G1 hle1 hsp1 hc1 hS1=>?_)
 refine Za hS1 (Xw.drop 0 hc1) Yj rfl rfl rfl <| Za hS1 (hpn.mono hle1) Yj rfl rfl rfl <| Ya .eql rfl x.name nm rfl rfl rfl ?_
 exact RB hS1 rfl (by simp [SCmp.b])
theorem Zbl {G : GH} {w : World} (hG : G.In w) (l : List Col) (nm : List UInt8) (vl : Value) (hvl : Sl ColE 24 G vl l) : CL Tryz.prog (nat_lit 237) #[vl,Zb nm] [] w G fun _ _ r=>r = .int .i64 (Yi l nm):=by
 refine Zg ft [] Tryz.func237 rfl rfl ?_
 have hS:=St.start (X:=[]) hG
 refine Zv [Zb nm] _ hS rfl rfl rfl (fun p1 w1 G1 hle1 hsp1 hc1 hS1=>?_)
 refine Zn hS1 Zwi rfl rfl rfl (Zr8 hS1.imm l (fun x8=>decide (x8.name = nm)) _ (hvl.mono hle1) 266 #[.pointer (some p1)] ⟨Zwj,fun G8 w8 v8 x8 hle8 hG8 hon8 hA8=>by obtain ⟨cs_x8,rfl,hr_x8⟩:=hA8; exact Zt9 hG8 x8 nm cs_x8 hr_x8 p1 (hc1.mono hle8)⟩) (fun w2 G2 hS2 hle2=>?_)
 exact RI hS2 rfl (by rfl)
theorem ZtA (d : Nat) : ∀ {G : GH} {w : World} (hG : G.In w) (c : Cond) (l : List Col) (cc : List Value) (hcc : (Y1 d).rep G c cc) (vl : Value) (hvl : Sl ColE 24 G vl l),CL Tryz.prog (nat_lit 195) #[.agg cc.toArray,vl] [] w G fun _ _ r=>r = .int .i64 (YP d c l):=by
 induction d
 ·intro G w hG c l cc hcc vl hvl; exact (Zb6 hcc).elim
 rename_i d ih
 intro G w hG c l cc hcc vl hvl
 refine Zg ft [13] Tryz.func195 rfl rfl ?_
 have hS:=St.start (X:=[]) hG
 obtain ⟨lv1,rfl,hb1,hb2,hb3,hb4,hb5,hb6,ho1⟩:=Zb7 hcc
 refine Zv [.int .i64 c.kind,Zb c.col,Zb c.oth, .int .i64 c.v.k, .int .i64 c.v.n,Zb c.v.s,lv1] _ hS rfl rfl rfl (fun p1 w1 G1 hle1 hsp1 hc1 hS1=>?_)
 refine JN.go ft [13] (fun ρ1 w1=>∃ (G2 : GH),G1.le G2 ∧ St w [] G G2 [] w1 ∧ FR ρ1 [(1,vl),(2, .pointer (some p1))] ∧ Qk c l = 0) ?_ ?_
 ·refine Za hS1 (Xw.drop 0 hc1) Zp rfl rfl rfl ?_
  refine ZC c.kind 1 rfl rfl rfl (fun h1=>?_) (fun h1=>?_)
  ·refine Za hS1 (Xw.drop 1 hc1) Yj rfl rfl rfl ?_
   refine Zn hS1 Zcl rfl rfl rfl (Zbl hS1.imm l c.col _ (hvl.mono hle1)) (fun w3 G3 hS3 hle3=>?_)
   have hf1:=Za6 (l:=l) (nm:=c.col)
   refine Zq (Yi l c.col) 0 rfl rfl rfl (fun h2=>?_) (fun h2=>?_)
   ·exact RI hS3 rfl (by exact (Zbv (ZmD (by first | exact .inl ‹_› | exact .inr ‹_›) ‹_›) (by decide)).symm)
   refine Za hS3 (Xw.drop 0 (Xw.drop 3 (hc1.mono hle3))) Zp rfl rfl rfl <| Za hS3 (Xw.drop 2 (hc1.mono hle3)) Yj rfl rfl rfl <| Ya .neq rfl c.oth [] rfl rfl rfl ?_
   refine WL.split (fun h0=>?_) (fun h0=>?_)
   ·have h3 : c.oth ≠ []:=by simpa [SCmp.b] using h0
    clear h0
    refine Za hS3 (Xw.drop 2 (hc1.mono hle3)) Yj rfl rfl rfl ?_
    refine Zn hS3 Zcl rfl rfl rfl (Zbl hS3.imm l c.oth _ (hvl.mono (hle1.trans hle3))) (fun w4 G4 hS4 hle4=>?_)
    have hf2:=Za6 (l:=l) (nm:=c.oth)
    refine Zq (Yi l c.oth) 0 rfl rfl rfl (fun h4=>?_) (fun h4=>?_)
    ·exact RI hS4 rfl (by exact (Zbv (Zkn (by first | exact .inl ‹_› | exact .inr ‹_›) (by omega) ‹_› ‹_›) (by decide)).symm)
    refine WL.indexAddr (hvl.mono ((hle1.trans hle3).trans hle4)) (((Yi l c.oth)).toNat) (by omega) Qx Xi rfl rfl rfl (congrArg (Value.int .i64) (Int.toNat_of_nonneg (by omega)).symm) (fun p2 x1 hx1 he1=>?_)
    obtain ⟨cs1,hc2,hr1⟩:=he1
    obtain ⟨rfl,hb7,hb8⟩:=X8 hr1
    refine Za hS4 (Xw.drop 1 hc2) Zp rfl rfl rfl ?_
    refine WL.indexAddr (hvl.mono ((hle1.trans hle3).trans hle4)) (((Yi l c.col)).toNat) (by omega) Qx Xi rfl rfl rfl (congrArg (Value.int .i64) (Int.toNat_of_nonneg (by omega)).symm) (fun p3 x2 hx2 he2=>?_)
    obtain ⟨cs2,hc3,hr2⟩:=he2
    obtain ⟨rfl,hb9,hb10⟩:=X8 hr2
    refine Za hS4 (Xw.drop 1 hc3) Zp rfl rfl rfl ?_
    refine Yf x1.kind x2.kind rfl rfl rfl (fun h5=>?_) (fun h5=>?_)
    ·exact RI hS4 rfl (by exact (Zbv ((Zj7 (by first | exact .inl ‹_› | exact .inr ‹_›) (by omega) ‹_› (by omega) ‹_› ‹_›).trans (if_pos (by omega))) (by decide)).symm)
    exact ⟨G4,(hle3.trans hle4),hS4,⟨rfl,rfl,trivial⟩,(by exact (Zj7 (by first | exact .inl ‹_› | exact .inr ‹_›) (by omega) ‹_› (by omega) ‹_› ‹_›).trans (if_neg (by omega)))⟩
   have h3 : c.oth = []:=by simpa [SCmp.b] using h0
   clear h0
   refine WL.indexAddr (hvl.mono (hle1.trans hle3)) (((Yi l c.col)).toNat) (by omega) Qx Xi rfl rfl rfl (congrArg (Value.int .i64) (Int.toNat_of_nonneg (by omega)).symm) (fun p4 x3 hx3 he3=>?_)
   obtain ⟨cs3,hc4,hr3⟩:=he3
   obtain ⟨rfl,YD,YW⟩:=X8 hr3
   refine Za hS3 (Xw.drop 1 hc4) Zp rfl rfl rfl ?_
   refine Yf c.v.k x3.kind rfl rfl rfl (fun h6=>?_) (fun h6=>?_)
   ·exact RI hS3 rfl (by exact (Zbv ((Zj6 (by first | exact .inl ‹_› | exact .inr ‹_›) (by omega) ‹_› ‹_›).trans (if_pos (by omega))) (by decide)).symm)
   exact ⟨G3,hle3,hS3,⟨rfl,rfl,trivial⟩,(by exact (Zj6 (by first | exact .inl ‹_› | exact .inr ‹_›) (by omega) ‹_› ‹_›).trans (if_neg (by omega)))⟩
  refine Za hS1 (Xw.drop 0 hc1) Zp rfl rfl rfl ?_
  refine ZC c.kind 2 rfl rfl rfl (fun h7=>?_) (fun h7=>?_)
  ·refine Za hS1 (Xw.drop 1 hc1) Yj rfl rfl rfl ?_
   refine Zn hS1 Zcl rfl rfl rfl (Zbl hS1.imm l c.col _ (hvl.mono hle1)) (fun w5 G5 hS5 hle5=>?_)
   have hf1:=Za6 (l:=l) (nm:=c.col)
   refine Zq (Yi l c.col) 0 rfl rfl rfl (fun h8=>?_) (fun h8=>?_)
   ·exact RI hS5 rfl (by exact (Zbv (ZmD (by first | exact .inl ‹_› | exact .inr ‹_›) ‹_›) (by decide)).symm)
   refine Za hS5 (Xw.drop 0 (Xw.drop 3 (hc1.mono hle5))) Zp rfl rfl rfl <| Za hS5 (Xw.drop 2 (hc1.mono hle5)) Yj rfl rfl rfl <| Ya .neq rfl c.oth [] rfl rfl rfl ?_
   refine WL.split (fun h0=>?_) (fun h0=>?_)
   ·have h9 : c.oth ≠ []:=by simpa [SCmp.b] using h0
    clear h0
    refine Za hS5 (Xw.drop 2 (hc1.mono hle5)) Yj rfl rfl rfl ?_
    refine Zn hS5 Zcl rfl rfl rfl (Zbl hS5.imm l c.oth _ (hvl.mono (hle1.trans hle5))) (fun w6 G6 hS6 hle6=>?_)
    have hf2:=Za6 (l:=l) (nm:=c.oth)
    refine Zq (Yi l c.oth) 0 rfl rfl rfl (fun h10=>?_) (fun h10=>?_)
    ·exact RI hS6 rfl (by exact (Zbv (Zkn (by first | exact .inl ‹_› | exact .inr ‹_›) (by omega) ‹_› ‹_›) (by decide)).symm)
    refine WL.indexAddr (hvl.mono ((hle1.trans hle5).trans hle6)) (((Yi l c.oth)).toNat) (by omega) Qx Xi rfl rfl rfl (congrArg (Value.int .i64) (Int.toNat_of_nonneg (by omega)).symm) (fun p5 x4 hx4 he4=>?_)
    obtain ⟨cs4,hc5,hr4⟩:=he4
    obtain ⟨rfl,Xj,XD⟩:=X8 hr4
    refine Za hS6 (Xw.drop 1 hc5) Zp rfl rfl rfl ?_
    refine WL.indexAddr (hvl.mono ((hle1.trans hle5).trans hle6)) (((Yi l c.col)).toNat) (by omega) Qx Xi rfl rfl rfl (congrArg (Value.int .i64) (Int.toNat_of_nonneg (by omega)).symm) (fun p6 x5 hx5 he5=>?_)
    obtain ⟨cs5,hc6,hr5⟩:=he5
    obtain ⟨rfl,X7,Qi⟩:=X8 hr5
    refine Za hS6 (Xw.drop 1 hc6) Zp rfl rfl rfl ?_
    refine Yf x4.kind x5.kind rfl rfl rfl (fun h11=>?_) (fun h11=>?_)
    ·exact RI hS6 rfl (by exact (Zbv ((Zj7 (by first | exact .inl ‹_› | exact .inr ‹_›) (by omega) ‹_› (by omega) ‹_› ‹_›).trans (if_pos (by omega))) (by decide)).symm)
    exact ⟨G6,(hle5.trans hle6),hS6,⟨rfl,rfl,trivial⟩,(by exact (Zj7 (by first | exact .inl ‹_› | exact .inr ‹_›) (by omega) ‹_› (by omega) ‹_› ‹_›).trans (if_neg (by omega)))⟩
   have h9 : c.oth = []:=by simpa [SCmp.b] using h0
   clear h0
   refine WL.indexAddr (hvl.mono (hle1.trans hle5)) (((Yi l c.col)).toNat) (by omega) Qx Xi rfl rfl rfl (congrArg (Value.int .i64) (Int.toNat_of_nonneg (by omega)).symm) (fun p7 x6 hx6 he6=>?_)
   obtain ⟨cs6,hc7,hr6⟩:=he6
   obtain ⟨rfl,Qd,Qn⟩:=X8 hr6
   refine Za hS5 (Xw.drop 1 hc7) Zp rfl rfl rfl ?_
   refine Yf c.v.k x6.kind rfl rfl rfl (fun h12=>?_) (fun h12=>?_)
   ·exact RI hS5 rfl (by exact (Zbv ((Zj6 (by first | exact .inl ‹_› | exact .inr ‹_›) (by omega) ‹_› ‹_›).trans (if_pos (by omega))) (by decide)).symm)
   exact ⟨G5,hle5,hS5,⟨rfl,rfl,trivial⟩,(by exact (Zj6 (by first | exact .inl ‹_› | exact .inr ‹_›) (by omega) ‹_› ‹_›).trans (if_neg (by omega)))⟩
  exact ⟨G1,(G1.le_refl),hS1,⟨rfl,rfl,trivial⟩,(by exact ZtU ‹_› ‹_›)⟩
 rintro ρ1 w2 ⟨G2,hle2,hS2,hF9,f1⟩
 refine hF9.set ?_
 have ht0:=(by assumption : Qk c l = 0)
 refine Za hS2 (Xw.drop 6 (hc1.mono hle2)) Ze4 rfl rfl rfl ?_
 have bd1:=ho1.bound
 refine Zj (ho1.mono (hle1.trans hle2)) Zc3 rfl rfl ?_
 refine LP.go ft [13] (fun m ρ1 w1=>∃ (k1 : Nat),∃ (G7 : GH),m = c.l.length - k1 ∧ G2.le G7 ∧ St w [] G G7 [] w1 ∧ FR ρ1 [(1,vl),(50,lv1),(51, .int .i64 (c.l.length : Int)),(52, .int .i64 (k1 : Int))] ∧ k1 ≤ c.l.length ∧ ∀ j,j < k1 → ∀ y,c.l[j]? = some y → YP d y l = 0) _ ⟨0,G2,rfl,(G2.le_refl),hS2,⟨rfl,rfl,rfl,rfl,trivial⟩,(by omega),(by intro j hj; omega)⟩ ?_
 rintro m ρ1 w7 ⟨k1,G7,rfl,hle7,hS7,hF9,f2,f3⟩
 refine hF9.set ?_
 clear hF9
 refine Zq (k1 : Int) (c.l.length : Int) rfl rfl rfl (fun h13=>?_) (fun h13=>?_)
 ·refine WL.indexAddr (ho1.mono ((hle1.trans hle2).trans hle7)) k1 (by omega) Zc3 Xp rfl rfl rfl rfl (fun p8 x7 hx7 he7=>?_)
  obtain ⟨cs7,hc8,hr7⟩:=he7
  obtain ⟨lv2,rfl,Q6,Zag,Zah,ZdM,Zdd,Zbs,ho2⟩:=YS hr7
  refine Zc hS7 hc8 [.int .i64 x7.kind,Zb x7.col,Zb x7.oth, .int .i64 x7.v.k, .int .i64 x7.v.n,Zb x7.v.s,lv2] Xp rfl rfl rfl rfl rfl ?_
  refine WL.alloc hS7 Xp rfl rfl (fun b1 w9 hn1 hS8=>?_)
  refine WL.store hS8 0 _ _ _ 0 _ [.int .i64 x7.kind,Zb x7.col,Zb x7.oth, .int .i64 x7.v.k, .int .i64 x7.v.n,Zb x7.v.s,lv2] [.int .i64 x7.kind,Zb x7.col,Zb x7.oth, .int .i64 x7.v.k, .int .i64 x7.v.n,Zb x7.v.s,lv2] _ rfl rfl Xp rfl (Nat.le_of_ble_eq_true rfl) (by simp only [List.all_cons,List.all_nil,ho2,Bool.true_and] <;> rfl) rfl rfl rfl rfl rfl (fun w10 hS9=>?_)
  obtain ⟨G9,hle9,hc9,hS10⟩:=hS9.shutB hn1
  refine Zc hS10 hc9 [.int .i64 x7.kind,Zb x7.col,Zb x7.oth, .int .i64 x7.v.k, .int .i64 x7.v.n,Zb x7.v.s,lv2] Xp rfl rfl rfl rfl rfl ?_
  refine Zn hS10 Zso rfl rfl rfl (ih hS10.imm x7 l _ ((Y1 _).mono hle9 hr7) _ (hvl.mono (((hle1.trans hle2).trans hle7).trans hle9))) (fun w11 G10 hS11 hle10=>?_)
  refine Yf (YP d x7 l) 0 rfl rfl rfl (fun h14=>?_) (fun h14=>?_)
  ·exact RI hS11 rfl (by exact (ZsD ht0 ‹_› ‹_› ‹_›).symm)
  refine Zl k1 (by have hreach : reach = 140737488355328:=rfl; omega) rfl rfl rfl ?_
  exact BK.mk' _ ⟨k1 + 1,G10,rfl,(hle7.trans (hle9.trans hle10)),hS11,⟨rfl,rfl,rfl,rfl,trivial⟩,(by omega),(by exact Xy ‹_› ‹_› ‹_›)⟩ (show c.l.length - (k1 + 1) < c.l.length - k1 by omega)
 exact RI hS7 rfl (by exact (ZsE ht0 ‹_› (by omega)).symm)
end Go.Civ
