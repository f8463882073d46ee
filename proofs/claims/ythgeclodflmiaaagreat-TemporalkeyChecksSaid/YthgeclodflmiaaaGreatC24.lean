/- Lemmas. -/
import Derived.Test.YthgeclodflmiaaaGreatC16
import Derived.Test.YthgeclodflmiaaaGreatC22
import Derived.Test.YthgeclodflmiaaaGreatC23
import Derived.Test.YthgeclodflmiaaaGreatProg
import Derived.KernelRfl
import Derived.WalkKit
namespace Go.Civ
open Go.RowKit
set_option linter.unusedVariables false
section
variable {G : GH} {cs : List Value}
def PtE : Enc Pt:=(Enc.pair .int (Enc.pair .int (ValE.slice 32))).via fun x=>(x.tx,x.vd,x.v)
theorem XK {x : Pt} (h : PtE.rep G x cs) : ∃ v,cs = [.int .i64 x.tx, .int .i64 x.vd,v] ∧ Z1 x.tx ∧ Z1 x.vd ∧ Sl ValE 32 G v x.v:=by
 obtain ⟨c1,c2,rfl,⟨rfl,h1⟩,c3,c4,rfl,⟨rfl,h2⟩,v,rfl,h3⟩:=h
 exact ⟨v,rfl,h1,h2,h3⟩
theorem XF (x : Pt) {v : Value} (h1 : Z1 x.tx) (h2 : Z1 x.vd) (h3 : Sl ValE 32 G v x.v) : PtE.rep G x [.int .i64 x.tx, .int .i64 x.vd,v]:=
 ⟨_,_,rfl,⟨rfl,h1⟩,_,_,rfl,⟨rfl,h2⟩,v,rfl,h3⟩
end
def XT (x y : Pt) : Int:=if Yx x.tx y.tx ≠ 0 then Yx x.tx y.tx else if Yx x.vd y.vd ≠ 0 then Yx x.vd y.vd else Xr x.v y.v
def bef2 (x y : Int × List Val) : Int:=if Yx x.1 y.1 ≠ 0 then Yx x.1 y.1 else ZL cmpV x.2 y.2
def befL (x y : Pt) : Int:=if Yx x.tx y.tx ≠ 0 then Yx x.tx y.tx else bef2 (x.vd,x.v) (y.vd,y.v)
theorem Zqa : TOrd bef2:=TOrd.lex (f:=Prod.fst) (g:=Prod.snd) ZaA (Zjp Zjo) fun x y h1 h2=>Prod.ext h1 h2
theorem QB : TOrd befL:=TOrd.lex (f:=Pt.tx) (g:=fun x : Pt=>(x.vd,x.v)) ZaA Zqa fun x y h1 h2=>by
 cases x; cases y; simp at h1 h2; simp [h1,h2]
theorem Q5 {x y : Pt} (hx : x.v.all ZK = true) (hy : y.v.all ZK = true) : XT x y = befL x y:=by
 unfold XT befL bef2; rw [XM hx hy]
def VP (l : List Pt) : Prop:=∀ p ∈ l,p.v.all ZK = true
def QX (m q : Pt) : Pt:=if XT q m < 0 then q else m
def ZgV : Pt:=⟨0,0,[]⟩
def Xm : List Pt → Pt
 | []=>ZgV
 | p :: r=>r.foldl QX p
theorem Zek : ∀ (r : List Pt) (p : Pt),p.v.all ZK = true → VP r → (r.foldl QX p = p ∨ r.foldl QX p ∈ r) ∧ ¬ XT p (r.foldl QX p) < 0 ∧ ∀ q ∈ r,¬ XT q (r.foldl QX p) < 0
 | [],p,hp,_=>⟨.inl rfl,by show ¬ XT p p < 0; rw [Q5 hp hp,QB.refl]; omega,fun q hq=>by cases hq⟩
 | x :: r,p,hp,hr=>by
  have hx:=hr x (by simp)
  have hr2 : VP r:=fun q hq=>hr q (by simp [hq])
  by_cases e : XT x p < 0
  ·have e1 : QX p x = x:=if_pos e
   obtain ⟨h1,h2,h3⟩:=Zek r x hx hr2
   rw [List.foldl_cons,e1]
   have hm : (r.foldl QX x).v.all ZK = true:=by rcases h1 with h | h; (rw [h]; exact hx); exact hr2 _ h
   refine ⟨.inr ?_,?_,fun q hq=>?_⟩
   ·rcases h1 with h | h
    ·rw [h]; simp
    ·exact List.mem_cons_of_mem _ h
   ·intro k
    rw [Q5 hp hm] at k; rw [Q5 hx hp] at e; rw [Q5 hx hm] at h2
    exact h2 (QB.trans _ _ _ e k)
   ·rcases List.mem_cons.1 hq with rfl | hq
    ·exact h2
    ·exact h3 q hq
  ·have e1 : QX p x = p:=if_neg e
   obtain ⟨h1,h2,h3⟩:=Zek r p hp hr2
   rw [List.foldl_cons,e1]
   have hm : (r.foldl QX p).v.all ZK = true:=by rcases h1 with h | h; (rw [h]; exact hp); exact hr2 _ h
   refine ⟨?_,h2,fun q hq=>?_⟩
   ·rcases h1 with h | h
    ·exact .inl h
    ·exact .inr (List.mem_cons_of_mem _ h)
   ·rcases List.mem_cons.1 hq with rfl | hq
    ·rw [Q5 hx hm]; rw [Q5 hx hp] at e; rw [Q5 hp hm] at h2
     exact QB.le_trans h2 e
    ·exact h3 q hq
theorem Zcw {l : List Pt} (hV : VP l) (hne : l ≠ []) : Xm l ∈ l ∧ ∀ q ∈ l,¬ XT q (Xm l) < 0:=by
 cases l with
 | nil=>exact absurd rfl hne
 | cons p r=>
  obtain ⟨h1,h2,h3⟩:=Zek r p (hV p (by simp)) fun q hq=>hV q (by simp [hq])
  refine ⟨?_,fun q hq=>?_⟩
  ·show r.foldl QX p ∈ _
   rcases h1 with h | h
   ·rw [h]; simp
   ·exact List.mem_cons_of_mem _ h
  ·rcases List.mem_cons.1 hq with rfl | hq
   ·exact h2
   ·exact h3 q hq
theorem Zqb {x y : Pt} (hx : x.v.all ZK = true) (hy : y.v.all ZK = true) (h1 : ¬ XT x y < 0) (h2 : ¬ XT y x < 0) : x = y:=by
 rw [Q5 hx hy] at h1; rw [Q5 hy hx] at h2
 refine (QB.eq x y).1 ?_
 have:=QB.swap y x
 have:=QB.swap x y
 omega
theorem Zh7 {q m : Pt} (h : ¬ XT q m < 0) : ¬ Zdk q.tx q.vd m.tx m.vd:=by
 intro k
 apply h
 unfold XT Yx
 unfold Zdk at k
 rcases k with k | ⟨k1,k2⟩
 ·rw [if_pos k]; simp
 ·rw [k1,if_neg (Int.lt_irrefl _),if_neg (Int.lt_irrefl _),if_pos k2]; simp
theorem Zob {p x : Pt} {r : List Pt} {k : Nat} (h : (p :: r)[k]? = some x) (hk : 1 ≤ k) : Xm ((p :: r).take (k + 1)) = QX (Xm ((p :: r).take k)) x:=by
 obtain ⟨j,rfl⟩ : ∃ j,k = j + 1:=⟨k - 1,by omega⟩
 rw [List.getElem?_cons_succ] at h
 rw [List.take_succ_cons,List.take_succ_cons]
 show (r.take (j + 1)).foldl QX p = QX ((r.take j).foldl QX p) x
 rw [List.take_add_one,h]; simp [List.foldl_append]
def ZY : Option Pt → Pt
 | none=>ZgV
 | some p=>p
def ZH : Option Pt → HRow
 | none=>⟨[],⟨⟨0,0⟩,⟨0,0⟩⟩⟩
 | some p=>⟨p.v,⟨⟨p.vd,p.vd + 1⟩,⟨p.tx,p.tx + 1⟩⟩⟩
def Zfw (k : Nat) (l : List HRow) : Option Pt:=match Xh k l with
 | []=>none
 | q :: r=>some ⟨(Xm (q :: r)).tx,(Xm (q :: r)).vd,(QM k l (Xm (q :: r)).tx (Xm (q :: r)).vd).getD []⟩
def Zq (t : Table) : Option Pt:=Zfw t.s.key.toNat t.rows
def Xt (t : Table) : Bool:=Zy t && (Zq t).isNone
def QY (t : Table) : HRow:=if Zy t then ZH (Zq t) else ZH none
def ZaG (k : Nat) (l : List HRow) (i : Nat) : List Pt:=(List.range i).flatMap (Zdj k l)
def ZaH (k : Nat) (a : HRow) (m : List HRow) : List Pt:=(m.filter (ovB k a)).map (Zd0 a)
section
variable {k i j : Nat} {l m : List HRow} {a b : HRow}
theorem Zm5 (h : l[i]? = some a) : ZaG k l (i + 1) = ZaG k l i ++ ZaH k a (l.take i):=by
 unfold ZaG ZaH
 rw [List.range_succ,List.flatMap_append]
 congr 1
 simp [Zdj,h]
theorem ZeY (h : l.length ≤ i) : ZaG k l i = Xh k l:=by
 unfold ZaG Xh
 obtain ⟨d,rfl⟩ : ∃ d,i = l.length + d:=⟨i - l.length,by omega⟩
 induction d with
 | zero=>rfl
 | succ d ih=>
  rw [← Nat.add_assoc,List.range_succ,List.flatMap_append,ih (by omega)]
  simp [Zdj]
theorem Zim : (ZaH k a m).length ≤ m.length:=by unfold ZaH; rw [List.length_map]; exact List.length_filter_le _ _
theorem ZeZ (hl : l.length ≤ 500) : ∀ i,(ZaG k l i).length ≤ 500 * i
 | 0=>by simp [ZaG]
 | i + 1=>by
  have ih:=ZeZ hl i
  unfold ZaG at ih ⊢
  rw [List.range_succ,List.flatMap_append,List.length_append]
  have : ([i].flatMap (Zdj k l)).length ≤ 500:=by
   simp only [List.flatMap_cons,List.flatMap_nil,List.append_nil]
   unfold Zdj
   split
   ·rename_i x _
    have h1:=Zim (k:=k) (a:=x) (m:=l.take i)
    have h2:=List.length_take_le' i l
    unfold ZaH at h1
    omega
   ·simp
  omega
theorem Zdl (hb : m[j]? = some b) (h1 : X1 (max a.r.x.a b.r.x.a) a.r.x = true) (h2 : X1 (max a.r.x.a b.r.x.a) b.r.x = true) (h3 : X1 (max a.r.d.a b.r.d.a) a.r.d = true) (h4 : X1 (max a.r.d.a b.r.d.a) b.r.d = true)
  (h5 : decide (a.v.take k = b.v.take k) = true) : ZaH k a (m.take (j + 1)) = ZaH k a (m.take j) ++ [Zd0 a b]:=by
 unfold ZaH
 rw [List.take_add_one,hb,List.filter_append,List.map_append]
 have : ovB k a b = true:=by unfold ovB; rw [h1,h2,h3,h4,h5]; rfl
 simp [this]
theorem QC (hb : m[j]? = some b) (h : X1 (max a.r.x.a b.r.x.a) a.r.x = false ∨ X1 (max a.r.x.a b.r.x.a) b.r.x = false ∨ X1 (max a.r.d.a b.r.d.a) a.r.d = false ∨ X1 (max a.r.d.a b.r.d.a) b.r.d = false ∨ decide (a.v.take k = b.v.take k) = false) :
  ZaH k a (m.take (j + 1)) = ZaH k a (m.take j):=by
 unfold ZaH
 rw [List.take_add_one,hb,List.filter_append,List.map_append]
 have : ovB k a b = false:=by unfold ovB; rcases h with h | h | h | h | h <;> rw [h] <;> simp
 simp [this]
theorem Zfx (h : Xr b.v a.v < 0) : Zd0 a b = ⟨max a.r.x.a b.r.x.a,max a.r.d.a b.r.d.a,b.v⟩:=by unfold Zd0; rw [if_pos h]
theorem Zfy (h : 0 ≤ Xr b.v a.v) : Zd0 a b = ⟨max a.r.x.a b.r.x.a,max a.r.d.a b.r.d.a,a.v⟩:=by unfold Zd0; rw [if_neg (by omega)]
theorem ZgW (hg : Z5 l) : VP (Xh k l):=fun p hp=>by
 obtain ⟨i,j,a,b,ha,hb,_,_,rfl⟩:=Zh6.1 hp
 have h1:=(Yd (hg a (List.mem_of_getElem? ha))).1
 have h2:=(Yd (hg b (List.mem_of_getElem? hb))).1
 unfold Zd0
 simp only
 split
 ·exact h2
 ·exact h1
end
section
variable {k : Nat} {l : List HRow} {q : List Pt} {x : Pt}
theorem Zqc (hg : Z5 l) (hp : q.Perm (Xh k l)) (hs : q.Pairwise fun x y=>¬ XT y x < 0) (h0 : q[0]? = some x) : x = Xm (Xh k l) ∧ Xh k l ≠ [] ∧ x ∈ Xh k l:=by
 have hx : x ∈ Xh k l:=hp.subset (List.mem_of_getElem? h0)
 have hne : Xh k l ≠ []:=fun e=>by rw [e] at hx; cases hx
 have hV:=ZgW (k:=k) hg
 obtain ⟨h1,h2⟩:=Zcw hV hne
 refine ⟨?_,hne,hx⟩
 cases q with
 | nil=>cases h0
 | cons y r=>
  obtain rfl:=Option.some.inj h0
  have hmin : ∀ z ∈ y :: r,¬ XT z y < 0:=fun z hz=>by
   rcases List.mem_cons.1 hz with rfl | hz
   ·rw [Q5 (hV _ hx) (hV _ hx),QB.refl]; omega
   ·exact (List.pairwise_cons.1 hs).1 z hz
  exact Zqb (hV _ hx) (hV _ h1) (h2 _ hx) (hmin _ (hp.symm.subset h1))
theorem Zel (h : Xh k l = []) : Zfw k l = none:=by unfold Zfw; rw [h]
theorem Zcx (h : Xh k l ≠ []) : Zfw k l = some ⟨(Xm (Xh k l)).tx,(Xm (Xh k l)).vd,(QM k l (Xm (Xh k l)).tx (Xm (Xh k l)).vd).getD []⟩:=by
 unfold Zfw
 cases e : Xh k l with
 | nil=>exact absurd e h
 | cons a r=>rfl
theorem Zfa {k j : Nat} {v : List Val} : ∀ {l : VV},(∀ i,i < j → ∀ x,l[i]? = some x → (l.drop (i + 1)).any (fun y=>decide (x.take k = y.take k)) = false) → l[j]? = some v → (∃ w ∈ l.drop (j + 1),v.take k = w.take k) → ZaR k l = some v
 | [],_,h,_=>by cases h
 | x :: r,h1,h2,⟨w,hw,e⟩=>by
  unfold ZaR
  cases j with
  | zero=>
   obtain rfl:=Option.some.inj h2
   rw [if_pos]
   rw [List.any_eq_true]
   exact ⟨w,by simpa using hw,decide_eq_true e.symm⟩
  | succ j=>
   have h0:=h1 0 (by omega) x rfl
   rw [if_neg]
   ·exact Zfa (j:=j) (fun i hi y hy=>by simpa using h1 (i + 1) (by omega) y (by simpa using hy)) (by simpa using h2) ⟨w,by simpa using hw,e⟩
   ·rw [List.any_eq_true]
    rintro ⟨y,hy,e2⟩
    rw [List.any_eq_false] at h0
    exact h0 y (by simpa using hy) (by have:=of_decide_eq_true e2; exact decide_eq_true this.symm)
theorem Zoc {k : Nat} : ∀ {l : VV},(∀ i x,l[i]? = some x → (l.drop (i + 1)).any (fun y=>decide (x.take k = y.take k)) = false) → ZaR k l = none
 | [],_=>rfl
 | x :: r,h=>by
  unfold ZaR
  have h0:=h 0 x rfl
  rw [if_neg]
  ·exact Zoc fun i y hy=>by simpa using h (i + 1) y (by simpa using hy)
  ·rw [List.any_eq_true]
   rintro ⟨y,hy,e2⟩
   rw [List.any_eq_false] at h0
   exact h0 y (by simpa using hy) (by have:=of_decide_eq_true e2; exact decide_eq_true this.symm)
end
section
variable {t : Table} {q : List Pt} {x : Pt}
theorem Zin (hv : Zy t = true) {p : Pt} (hp : p ∈ Xh t.s.key.toNat t.rows) : Yt p.tx = true ∧ Yt p.vd = true:=by
 obtain ⟨hg,_,_,hn⟩:=ZW hv
 obtain ⟨_,⟨r,hr,e1⟩,s,hs,e2⟩:=ZeX hg hn hp
 have a:=(Yd (hg r hr)).2.2
 have b:=(Yd (hg s hs)).2.1
 unfold ZM at a b
 simp at a b
 unfold Yt
 simp only [Bool.and_eq_true,decide_eq_true_eq]
 omega
theorem Zod (hv : Zy t = true) (hp : q.Perm (Xh t.s.key.toNat t.rows)) (hs : q.Pairwise fun x y=>¬ XT y x < 0) (h0 : q[0]? = some x) :
  Yt x.tx = true ∧ Yt x.vd = true ∧ (∀ v,ZaR t.s.key.toNat (Y7 t x.vd x.tx) = some v → Zq t = some ⟨x.tx,x.vd,v⟩) ∧ ZaR t.s.key.toNat (Y7 t x.vd x.tx) ≠ none:=by
 obtain ⟨hg,_,_,hn⟩:=ZW hv
 obtain ⟨e,hne,hx⟩:=Zqc hg hp hs h0
 obtain ⟨i1,i2⟩:=Zin hv hx
 have hsn : Y7 t x.vd x.tx = Zaz t.rows x.vd x.tx:=by unfold Y7; rw [hv,i1,i2]; rfl
 have hd : ZaR t.s.key.toNat (Y7 t x.vd x.tx) = QM t.s.key.toNat t.rows x.tx x.vd:=by rw [hsn,ZeW (Zej hg _ _)]; rfl
 refine ⟨i1,i2,fun v h=>?_,?_⟩
 ·unfold Zq
  rw [Zcx hne,← e,← hd,h]; rfl
 ·rw [hd]; exact (ZeX hg hn hx).1
theorem Zfz (hv : Zy t = true) : ∀ r ∈ t.rows,t.s.key ≤ r.v.length:=fun r hr=>by
 have h:=Zae hv hr
 have hs : Yu t.s = true:=by rw [Zbi] at hv; unfold Qj at hv; simp only [Bool.and_eq_true] at hv; exact hv.1.1.1.1.1
 unfold Yu XQ at hs
 simp only [Bool.and_eq_true,decide_eq_true_eq] at hs
 rw [h.2.2.2.1]; exact hs.1.1.1.2
theorem Zf0 (hv : Zy t = true) : 1 ≤ t.s.key:=by
 have hs : Yu t.s = true:=by rw [Zbi] at hv; unfold Qj at hv; simp only [Bool.and_eq_true] at hv; exact hv.1.1.1.1.1
 unfold Yu XQ at hs
 simp only [Bool.and_eq_true,decide_eq_true_eq] at hs
 exact hs.1.1.1.1.2
theorem Zqd (hv : Zy t = true) {a y : Int} (hy : Yt y = true) (ha : Yt a = true) : ∀ v ∈ Y7 t a y,t.s.key ≤ v.length:=fun v h=>by
 rw [ZnV hv ha hy] at h
 obtain ⟨r,hr,rfl,_⟩:=h
 exact Zfz hv r hr
theorem Zoe {k : Nat} (h : ((ZaG t.s.key.toNat t.rows k).length : Int) = 0) (hk : t.rows.length ≤ k) : Pt.mk 0 0 [] = ZY (Zq t) ∧ false = (Zq t).isSome:=by
 rw [ZeY hk] at h
 have : Zq t = none:=Zel (List.length_eq_zero_iff.1 (by omega))
 rw [this]; exact ⟨rfl,rfl⟩
theorem ZgX {v : List Val} (h : Yt x.tx = true ∧ Yt x.vd = true ∧ (∀ v,ZaR t.s.key.toNat (Y7 t x.vd x.tx) = some v → Zq t = some ⟨x.tx,x.vd,v⟩) ∧ ZaR t.s.key.toNat (Y7 t x.vd x.tx) ≠ none) (hd : ZaR t.s.key.toNat (Y7 t x.vd x.tx) = some v) : Pt.mk x.tx x.vd v = ZY (Zq t) ∧ true = (Zq t).isSome:=by
 rw [h.2.2.1 v hd]; exact ⟨rfl,rfl⟩
theorem Zlo {α : Type} {p : α → Bool} {l : List α} {k : Nat} (h : ∀ j,j < k → ∀ x,l[j]? = some x → p x = false) (hk : l.length ≤ k) : l.any p = false:=by
 rw [List.any_eq_false]
 intro x hx
 obtain ⟨i,hi⟩:=List.getElem?_of_mem hx
 obtain ⟨hlt,_⟩:=List.getElem?_eq_some_iff.1 hi
 rw [h i (by omega) x hi]; simp
theorem Zlp {k j : Nat} {l : VV} (h : ∀ i,i < j → ∀ x,l[i]? = some x → (l.drop (i + 1)).any (fun y=>decide (x.take k = y.take k)) = false) (hj : l.length ≤ j) : ZaR k l = none:=
 Zoc fun i x hx=>by
  obtain ⟨hlt,_⟩:=List.getElem?_eq_some_iff.1 hx
  exact h i (by omega) x hx
theorem ZgY (h : Xh t.s.key.toNat t.rows = []) : Zq t = none:=Zel h
end
end Go.Civ
set_option linter.unusedVariables false
set_option linter.unusedSimpArgs false
set_option maxRecDepth 100000
set_option maxHeartbeats 4000000
namespace Go.Civ
open Go.Proofs
theorem Zfd {G : GH} {w : World} (hG : G.In w) (l : List HRow) (vl : Value) (hvl : Sl HRowE 56 G vl l) (hgood : Z5 l) (hlen : ∀ r ∈ l,r.v.length ≤ 1000) (hl : l.length ≤ 2000) : CL Tryz.prog (nat_lit 66) #[vl] [] w G fun G' _ r=>Sl HRowE 56 G' r (ZZ l):=by
 refine Zh ft [] Tryz.func66 rfl rfl ?_
 have hS:=St.start (X:=[]) hG
 refine Z8 hS ZlY rfl rfl rfl (Zen hS.imm l _ hvl hgood hlen hl) (fun w1 G1 r1 hpost1 hS1 hle1=>?_)
 have bd1:=hpost1.bound
 refine Zl hpost1 Zaj rfl rfl ?_
 have hS3:=hS1.pad
 refine LP.go ft [] (fun m ρ1 w1=>∃ (k1 : Nat),∃ (v1 : Value) (o1 : OB),∃ (G2 : GH),m = (Yo l).length - k1 ∧ G1.le G2 ∧ St w [] G G2 [o1] w1 ∧ Yb HRowE 56 37 G2 v1 (Zcu ((Yo l).take k1)) o1 ∧ FR ρ1 [(3,v1),(7,r1),(8, .int .i64 (((Yo l).length : Nat) : Int)),(9, .int .i64 (k1 : Int))] ∧ k1 ≤ (Yo l).length) _ ⟨0,(.slice none 0 0),none,G1,rfl,(G1.le_refl),hS3,(Yb.nil HRowE 56 37 G1),⟨rfl,rfl,rfl,rfl,trivial⟩,(by omega)⟩ ?_
 rintro m ρ1 w2 ⟨k1,v1,o1,G2,rfl,hle2,hS2,hr1,hF9,f1⟩
 refine hF9.set ?_
 clear hF9
 have hgl:=@ZcL l
 have hpl:=Ze0 (k:=k1) (fun g hg=>Nat.le_trans (ZgH g hg) hl) (Nat.le_trans hgl hl)
 refine Zm (k1 : Int) (((Yo l).length : Nat) : Int) rfl rfl rfl (fun h1=>?_) (fun h1=>?_)
 ·refine WL.indexAddr (hpost1.mono hle2) k1 (by omega) Zaj X7 rfl rfl rfl rfl (fun p1 x1 hx1 he1=>?_)
  obtain ⟨cs1,hc1,hr2⟩:=he1
  obtain ⟨v2,v3,rfl,hs1,hs2⟩:=QU hr2
  refine Zd hS2 hc1 [v2,v3] X7 rfl rfl rfl rfl rfl ?_
  refine WL.alloc hS2 X7 rfl rfl (fun b1 w3 hn1 hS4=>?_)
  refine WL.store hS4 0 _ _ _ 0 _ [v2,v3] [v2,v3] _ rfl rfl X7 rfl (Nat.le_of_ble_eq_true rfl) (by simp only [List.all_cons,List.all_nil,hs1.oneC,hs2.oneC,Bool.true_and] <;> rfl) rfl rfl rfl rfl rfl (fun w4 hS5=>?_)
  obtain ⟨G3,hle3,hc2,hS6⟩:=hS5.shutB hn1
  have hok:=Zfu hgood hl (by assumption : (Yo l)[k1]? = some _); have hgn:=ZeQ hok.2
  refine Zd hS6 hc2 [v2,v3] X7 rfl rfl rfl rfl rfl ?_
  refine Z8 hS6 ZqL rfl rfl rfl (Zis hS6.imm x1 _ (ZdW x1 (hs1.mono hle3) (hs2.mono hle3)) hok.1 hok.2) (fun w5 G4 r2 hpost2 hS7 hle4=>?_)
  refine YA YQ rfl rfl rfl (hr1.mono (hle3.trans hle4)) hS7 0 rfl hpost2 (by have hreach : reach = 140737488355328:=rfl; (show _ * 56 ≤ _; omega)) (by have hreach : reach = 140737488355328:=rfl; omega) rfl rfl rfl (fun v4 o2 w6 hr3 hS8=>?_)
  refine Zj k1 (by have hreach : reach = 140737488355328:=rfl; omega) rfl rfl rfl ?_
  exact BK.mk' _ ⟨k1 + 1,v4,o2,G4,rfl,(hle2.trans (hle3.trans hle4)),hS8,(Yb.cast hr3 (by (rw [ZgG ‹_›]))),⟨rfl,rfl,rfl,rfl,trivial⟩,(by omega)⟩ (show (Yo l).length - (k1 + 1) < (Yo l).length - k1 by omega)
 obtain ⟨G5,hle5,hs3,hS9⟩:=Yb.freeze hr1 hS2 0 rfl
 exact RT hS9 rfl (Sl.cast hs3 (by rw [List.take_of_length_le (by omega)]; rfl))
theorem Zqf {G : GH} {w : World} (hG : G.In w) (l : List HRow) (pf : HRow → Bool) (vl : Value) (hvl : Sl HRowE 56 G vl l) (fid : Nat) (fcap : Array Value) (hf : FnB Tryz.prog (Is HRowE) fid fcap G (fun x=>x ∈ l) pf) : CL Tryz.prog (nat_lit 113) #[vl, .func (.func fid) #[] fcap] [] w G fun _ _ r=>r = .int .i64 (Xe pf l):=by
 refine Zh ft [] Tryz.func113 rfl rfl ?_
 have hS:=St.start (X:=[]) hG
 have bd1:=hvl.bound
 refine Zl hvl Yn rfl rfl ?_
 refine LP.go ft [] (fun m ρ1 w1=>∃ (k1 : Nat),∃ (G1 : GH),m = l.length - k1 ∧ G.le G1 ∧ St w [] G G1 [] w1 ∧ FR ρ1 [(0,vl),(1, .func (.func fid) #[] fcap),(7, .int .i64 (l.length : Int)),(8, .int .i64 (k1 : Int))] ∧ k1 ≤ l.length ∧ ∀ j,j < k1 → ∀ x,l[j]? = some x → pf x = false) _ ⟨0,G,rfl,(G.le_refl),hS,⟨rfl,rfl,rfl,rfl,trivial⟩,(by omega),(by intro j hj; omega)⟩ ?_
 rintro m ρ1 w1 ⟨k1,G1,rfl,hle1,hS1,hF9,f1,f2⟩
 refine hF9.set ?_
 clear hF9
 refine Zm (k1 : Int) (l.length : Int) rfl rfl rfl (fun h1=>?_) (fun h1=>?_)
 ·refine WL.indexAddr (hvl.mono hle1) k1 (by omega) Yn Zt rfl rfl rfl rfl (fun p1 x1 hx1 he1=>?_)
  obtain ⟨cs1,hc1,hr1⟩:=he1
  obtain ⟨v1,rfl,hs1,hb1,hb2,hb3,hb4⟩:=Z7 hr1
  refine Zd hS1 hc1 [v1, .int .i64 x1.r.d.a, .int .i64 x1.r.d.b, .int .i64 x1.r.x.a, .int .i64 x1.r.x.b] Zt rfl rfl rfl rfl rfl ?_
  refine Zn hS1 hf.body rfl rfl rfl (hf.call _ _ (.agg #[v1, .int .i64 x1.r.d.a, .int .i64 x1.r.d.b, .int .i64 x1.r.x.a, .int .i64 x1.r.x.b]) x1 hle1 hS1.imm (List.mem_of_getElem? hx1) ⟨_,rfl,(Ya x1 hs1 hb1 hb2 hb3 hb4)⟩) (fun w2 G2 hS2 hle2=>?_)
  refine WL.split (fun (h2 : (pf x1) = true)=>?_) (fun (h2 : (pf x1) = false)=>?_)
  ·exact RI hS2 rfl (by exact (Qy _ ‹_› ‹_› ‹_›).symm)
  refine Zj k1 (by have hreach : reach = 140737488355328:=rfl; omega) rfl rfl rfl ?_
  exact BK.mk' _ ⟨k1 + 1,G2,rfl,(hle1.trans hle2),hS2,⟨rfl,rfl,rfl,rfl,trivial⟩,(by omega),(by exact Yj ‹_› ‹_› ‹_›)⟩ (show l.length - (k1 + 1) < l.length - k1 by omega)
 exact RI hS1 rfl (by exact (XX ‹_› (by omega)).symm)
theorem ZfF {G : GH} {w : World} (hG : G.In w) (l : List HRow) (pf : HRow → Bool) (vl : Value) (hvl : Sl HRowE 56 G vl l) (fid : Nat) (fcap : Array Value) (hf : FnB Tryz.prog (Is HRowE) fid fcap G (fun x=>x ∈ l) pf) : CL Tryz.prog (nat_lit 58) #[vl, .func (.func fid) #[] fcap] [] w G fun _ _ r=>r = .bool (l.any pf):=by
 refine Zh ft [] Tryz.func58 rfl rfl ?_
 have hS:=St.start (X:=[]) hG
 refine Zn hS Zuj rfl rfl rfl (Zqf hS.imm l pf _ hvl fid fcap (hf.up (G.le_refl))) (fun w1 G1 hS1 hle1=>?_)
 refine Yh .geq rfl .i64 (Xe pf l) 0 rfl rfl rfl ?_
 exact RB hS1 rfl (by exact Zc9 _ _)
theorem Zqg {G : GH} {w : World} (hG : G.In w) (x : Val) (cx : List Value) (hcx : ValE.rep G x cx) : CL Tryz.prog (nat_lit 127) #[.agg cx.toArray] [] w G fun _ _ r=>r = .bool (!ZK x):=by
 refine Zh ft [] Tryz.func127 rfl rfl ?_
 have hS:=St.start (X:=[]) hG
 obtain ⟨rfl,hb1,hb2,hb3⟩:=Y4 hcx
 refine Z3 [.int .i64 x.k, .int .i64 x.n,Zc x.s] _ hS rfl rfl rfl (fun p1 w1 G1 hle1 hsp1 hc1 hS1=>?_)
 refine Zd hS1 hc1 [.int .i64 x.k, .int .i64 x.n,Zc x.s] Ye rfl rfl rfl rfl rfl ?_
 refine Zn hS1 Zmb rfl rfl rfl (ZfO hS1.imm x _ (Qs x hb1 hb2 hb3)) (fun w2 G2 hS2 hle2=>?_)
 exact RB hS2 rfl (by rfl)
theorem Zlr {G : GH} {w : World} (hG : G.In w) (x : HRow) (cx : List Value) (hcx : HRowE.rep G x cx) : CL Tryz.prog (nat_lit 64) #[.agg cx.toArray] [] w G fun _ _ r=>r = .bool (Y1 x):=by
 refine Zh ft [] Tryz.func64 rfl rfl ?_
 have hS:=St.start (X:=[]) hG
 obtain ⟨v1,rfl,hs1,hb1,hb2,hb3,hb4⟩:=Z7 hcx
 refine Z3 [v1, .int .i64 x.r.d.a, .int .i64 x.r.d.b, .int .i64 x.r.x.a, .int .i64 x.r.x.b] _ hS rfl rfl rfl (fun p1 w1 G1 hle1 hsp1 hc1 hS1=>?_)
 refine Za hS1 (XL.drop 0 hc1) ZN rfl rfl rfl ?_
 refine Zn hS1 Zma rfl rfl rfl (Zdu hS1.imm x.v (fun x8=>!ZK x8) _ (hs1.mono hle1) 127 #[] ⟨Zuo,fun G8 w8 v8 x8 hle8 hG8 hon8 hA8=>by obtain ⟨cs_x8,rfl,hr_x8⟩:=hA8; exact Zqg hG8 x8 cs_x8 hr_x8⟩) (fun w2 G2 hS2 hle2=>?_)
 refine WL.split (fun (h1 : (x.v.any (fun x8=>!ZK x8)) = true)=>?_) (fun (h1 : (x.v.any (fun x8=>!ZK x8)) = false)=>?_)
 ·exact RB hS2 rfl (by exact ZrO ‹_›)
 refine Zd hS2 (XL.drop 0 (XL.drop 1 (hc1.mono hle2))) [.int .i64 x.r.d.a, .int .i64 x.r.d.b] Zz rfl rfl rfl rfl rfl ?_
 refine Zn hS2 Zpj rfl rfl rfl (Zho hS2.imm x.r.d _ (Zw x.r.d hb1 hb2)) (fun w3 G3 hS3 hle3=>?_)
 refine WL.split (fun (h2 : (ZM x.r.d) = true)=>?_) (fun (h2 : (ZM x.r.d) = false)=>?_)
 ·refine Zd hS3 (XL.drop 2 (XL.drop 1 (hc1.mono (hle2.trans hle3)))) [.int .i64 x.r.x.a, .int .i64 x.r.x.b] Zz rfl rfl rfl rfl rfl ?_
  refine Zn hS3 Zpj rfl rfl rfl (Zho hS3.imm x.r.x _ (Zw x.r.x hb3 hb4)) (fun w4 G4 hS4 hle4=>?_)
  exact RB hS4 rfl (by exact ZrQ ‹_› ‹_›)
 exact RB hS3 rfl (by exact ZrP ‹_› ‹_›)
theorem Zm6 {G : GH} {w : World} (hG : G.In w) (x : HRow) (cx : List Value) (hcx : HRowE.rep G x cx) : CL Tryz.prog (nat_lit 132) #[.agg cx.toArray] [] w G fun _ _ r=>r = .bool (!Y1 x):=by
 refine Zh ft [] Tryz.func132 rfl rfl ?_
 have hS:=St.start (X:=[]) hG
 obtain ⟨v1,rfl,hs1,hb1,hb2,hb3,hb4⟩:=Z7 hcx
 refine Z3 [v1, .int .i64 x.r.d.a, .int .i64 x.r.d.b, .int .i64 x.r.x.a, .int .i64 x.r.x.b] _ hS rfl rfl rfl (fun p1 w1 G1 hle1 hsp1 hc1 hS1=>?_)
 refine Zd hS1 hc1 [v1, .int .i64 x.r.d.a, .int .i64 x.r.d.b, .int .i64 x.r.x.a, .int .i64 x.r.x.b] Zt rfl rfl rfl rfl rfl ?_
 refine Zn hS1 ZsL rfl rfl rfl (Zlr hS1.imm x _ (Ya x (hs1.mono hle1) hb1 hb2 hb3 hb4)) (fun w2 G2 hS2 hle2=>?_)
 exact RB hS2 rfl (by rfl)
theorem Zqh {G : GH} {w : World} (hG : G.In w) (x y : HRow) (cx : List Value) (hcx : HRowE.rep G x cx) (cy : List Value) (hcy : HRowE.rep G y cy) : CL Tryz.prog (nat_lit 67) #[.agg cx.toArray, .agg cy.toArray] [] w G fun _ _ r=>r = .bool (decide (x = y)):=by
 refine Zh ft [] Tryz.func67 rfl rfl ?_
 have hS:=St.start (X:=[]) hG
 obtain ⟨v1,rfl,hs1,hb1,hb2,hb3,hb4⟩:=Z7 hcx
 obtain ⟨v2,rfl,hs2,hb5,hb6,hb7,hb8⟩:=Z7 hcy
 refine Z3 [v1, .int .i64 x.r.d.a, .int .i64 x.r.d.b, .int .i64 x.r.x.a, .int .i64 x.r.x.b] _ hS rfl rfl rfl (fun p1 w1 G1 hle1 hsp1 hc1 hS1=>?_)
 refine Z3 [v2, .int .i64 y.r.d.a, .int .i64 y.r.d.b, .int .i64 y.r.x.a, .int .i64 y.r.x.b] _ hS1 rfl rfl rfl (fun p2 w2 G2 hle2 hsp2 hc2 hS2=>?_)
 refine Za hS2 (XL.drop 0 (hc1.mono hle2)) ZN rfl rfl rfl <| Za hS2 (XL.drop 0 hc2) ZN rfl rfl rfl ?_
 refine Zn hS2 ZcC rfl rfl rfl (ZbD hS2.imm x.v y.v _ (hs1.mono (hle1.trans hle2)) _ (hs2.mono (hle1.trans hle2))) (fun w3 G3 hS3 hle3=>?_)
 refine WL.split (fun (h1 : (decide (x.v = y.v)) = true)=>?_) (fun (h1 : (decide (x.v = y.v)) = false)=>?_)
 ·refine Zd hS3 (XL.drop 1 (hc1.mono (hle2.trans hle3))) [.int .i64 x.r.d.a, .int .i64 x.r.d.b, .int .i64 x.r.x.a, .int .i64 x.r.x.b] Zcf rfl rfl rfl rfl rfl <| Zd hS3 (XL.drop 1 (hc2.mono hle3)) [.int .i64 y.r.d.a, .int .i64 y.r.d.b, .int .i64 y.r.x.a, .int .i64 y.r.x.b] Zcf rfl rfl rfl rfl rfl <| ZfL (Zpm x.r y.r) ZuF rfl rfl rfl ?_
  exact RB hS3 rfl (by exact ZnF ‹_›)
 exact RB hS3 rfl (by exact ZnE ‹_›)
theorem Zqi {G : GH} {w : World} (hG : G.In w) (a b : List HRow) (pf : HRow → HRow → Bool) (va : Value) (hva : Sl HRowE 56 G va a) (vb : Value) (hvb : Sl HRowE 56 G vb b) (fid : Nat) (fcap : Array Value) (hf : FnB2 Tryz.prog (Is HRowE) (Is HRowE) fid fcap G (fun x y=>x ∈ a ∧ y ∈ b) pf) : CL Tryz.prog (nat_lit 65) #[va,vb, .func (.func fid) #[] fcap] [] w G fun _ _ r=>r = .bool (QI pf a b):=by
 refine Zh ft [] Tryz.func65 rfl rfl ?_
 have hS:=St.start (X:=[]) hG
 have bd1:=hva.bound
 refine Zl hva Yn rfl rfl ?_
 have bd2:=hvb.bound
 refine Zl hvb Yn rfl rfl ?_
 refine Xn (a.length : Int) (b.length : Int) rfl rfl rfl (fun h1=>?_) (fun h1=>?_)
 ·exact RB hS rfl (by exact (Zcy (by omega)).symm)
 have bd3:=hva.bound
 refine Zl hva Yn rfl rfl ?_
 refine LP.go ft [] (fun m ρ1 w1=>∃ (k1 : Nat),∃ (G1 : GH),m = a.length - k1 ∧ G.le G1 ∧ St w [] G G1 [] w1 ∧ FR ρ1 [(1,vb),(2, .func (.func fid) #[] fcap),(15,va),(16, .int .i64 (a.length : Int)),(17, .int .i64 (k1 : Int))] ∧ k1 ≤ a.length ∧ ∀ j,j < k1 → ∀ x y,a[j]? = some x → b[j]? = some y → pf x y = true) _ ⟨0,G,rfl,(G.le_refl),hS,⟨rfl,rfl,rfl,rfl,rfl,trivial⟩,(by omega),(by intro j hj; omega)⟩ ?_
 rintro m ρ1 w1 ⟨k1,G1,rfl,hle1,hS1,hF9,f1,f2⟩
 refine hF9.set ?_
 clear hF9
 refine Zm (k1 : Int) (a.length : Int) rfl rfl rfl (fun h2=>?_) (fun h2=>?_)
 ·refine WL.indexAddr (hva.mono hle1) k1 (by omega) Yn Zt rfl rfl rfl rfl (fun p1 x1 hx1 he1=>?_)
  obtain ⟨cs1,hc1,hr1⟩:=he1
  obtain ⟨v1,rfl,hs1,hb1,hb2,hb3,hb4⟩:=Z7 hr1
  refine Zd hS1 hc1 [v1, .int .i64 x1.r.d.a, .int .i64 x1.r.d.b, .int .i64 x1.r.x.a, .int .i64 x1.r.x.b] Zt rfl rfl rfl rfl rfl ?_
  refine WL.alloc hS1 Zt rfl rfl (fun b1 w2 hn1 hS2=>?_)
  refine WL.store hS2 0 _ _ _ 0 _ [v1, .int .i64 x1.r.d.a, .int .i64 x1.r.d.b, .int .i64 x1.r.x.a, .int .i64 x1.r.x.b] [v1, .int .i64 x1.r.d.a, .int .i64 x1.r.d.b, .int .i64 x1.r.x.a, .int .i64 x1.r.x.b] _ rfl rfl Zt rfl (Nat.le_of_ble_eq_true rfl) (by simp only [List.all_cons,List.all_nil,hs1.oneC,Bool.true_and] <;> rfl) rfl rfl rfl rfl rfl (fun w3 hS3=>?_)
  obtain ⟨G2,hle2,hc2,hS4⟩:=hS3.shutB hn1
  refine WL.indexAddr (hvb.mono (hle1.trans hle2)) k1 (by omega) Yn Zt rfl rfl rfl rfl (fun p2 x2 hx2 he2=>?_)
  obtain ⟨cs2,hc3,hr2⟩:=he2
  obtain ⟨v2,rfl,hs2,hb5,hb6,hb7,hb8⟩:=Z7 hr2
  refine Zd hS4 hc3 [v2, .int .i64 x2.r.d.a, .int .i64 x2.r.d.b, .int .i64 x2.r.x.a, .int .i64 x2.r.x.b] Zt rfl rfl rfl rfl rfl ?_
  refine WL.alloc hS4 Zt rfl rfl (fun b2 w4 hn2 hS5=>?_)
  refine WL.store hS5 0 _ _ _ 0 _ [v2, .int .i64 x2.r.d.a, .int .i64 x2.r.d.b, .int .i64 x2.r.x.a, .int .i64 x2.r.x.b] [v2, .int .i64 x2.r.d.a, .int .i64 x2.r.d.b, .int .i64 x2.r.x.a, .int .i64 x2.r.x.b] _ rfl rfl Zt rfl (Nat.le_of_ble_eq_true rfl) (by simp only [List.all_cons,List.all_nil,hs2.oneC,Bool.true_and] <;> rfl) rfl rfl rfl rfl rfl (fun w5 hS6=>?_)
  obtain ⟨G3,hle3,hc4,hS7⟩:=hS6.shutB hn2
  refine Zd hS7 (hc2.mono hle3) [v1, .int .i64 x1.r.d.a, .int .i64 x1.r.d.b, .int .i64 x1.r.x.a, .int .i64 x1.r.x.b] Zt rfl rfl rfl rfl rfl <| Zd hS7 hc4 [v2, .int .i64 x2.r.d.a, .int .i64 x2.r.d.b, .int .i64 x2.r.x.a, .int .i64 x2.r.x.b] Zt rfl rfl rfl rfl rfl ?_
  refine Zn hS7 hf.body rfl rfl rfl (hf.call _ _ (.agg #[v1, .int .i64 x1.r.d.a, .int .i64 x1.r.d.b, .int .i64 x1.r.x.a, .int .i64 x1.r.x.b]) (.agg #[v2, .int .i64 x2.r.d.a, .int .i64 x2.r.d.b, .int .i64 x2.r.x.a, .int .i64 x2.r.x.b]) x1 x2 ((hle1.trans hle2).trans hle3) hS7.imm ⟨(List.mem_of_getElem? hx1),(List.mem_of_getElem? hx2)⟩ ⟨_,rfl,(Ya x1 (hs1.mono (hle2.trans hle3)) hb1 hb2 hb3 hb4)⟩ ⟨_,rfl,(Ya x2 (hs2.mono hle3) hb5 hb6 hb7 hb8)⟩) (fun w6 G4 hS8 hle4=>?_)
  refine WL.split (fun (h3 : (pf x1 x2) = true)=>?_) (fun (h3 : (pf x1 x2) = false)=>?_)
  ·refine Zj k1 (by have hreach : reach = 140737488355328:=rfl; omega) rfl rfl rfl ?_
   exact BK.mk' _ ⟨k1 + 1,G4,rfl,(hle1.trans ((hle2.trans hle3).trans hle4)),hS8,⟨rfl,rfl,rfl,rfl,rfl,trivial⟩,(by omega),(by exact Zar ‹_› ‹_› ‹_› (by simp_all))⟩ (show a.length - (k1 + 1) < a.length - k1 by omega)
  exact RB hS8 rfl (by exact (Zd7 ‹_› ‹_› (by simp_all)).symm)
 exact RB hS1 rfl (by exact (Zd8 (by omega) ‹_› (by omega)).symm)
theorem Zdm {G : GH} {w : World} (hG : G.In w) (x : Int) : CL Tryz.prog (nat_lit 85) #[.int .i64 x] [] w G fun _ _ r=>r = .bool (Yt x):=by
 refine Zh ft [] Tryz.func85 rfl rfl ?_
 have hS:=St.start (X:=[]) hG
 refine Qt x (-62135596800) rfl rfl rfl (fun h1=>?_) (fun h1=>?_)
 ·refine Yh .lss rfl .i64 x 253402300800 rfl rfl rfl ?_
  exact RB hS rfl (by unfold Yt; simp_all [Cmp.b] <;> (first | omega | (intros; omega) | (rw [Bool.eq_iff_iff]; simp <;> omega) | (rw [Bool.eq_iff_iff]; simp_all <;> omega)))
 exact RB hS rfl (by unfold Yt; simp_all [Cmp.b] <;> (omega))
end Go.Civ
