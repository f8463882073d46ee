/- Lemmas. -/
import Derived.Test.YthgeclodflmiaaaGreatD21
import Derived.Test.YthgeclodflmiaaaGreatD23
import Derived.Test.YthgeclodflmiaaaGreatProg
import Derived.KernelRfl
import Derived.WalkKit
set_option linter.unusedVariables false
set_option linter.unusedSimpArgs false
set_option maxRecDepth 100000
set_option maxHeartbeats 4000000
namespace Go.Civ
open Go.Proofs
theorem ZaE {G : GH} {w : World} (hG : G.In w) (l : List Val) (vl : Value) (hvl : Sl ValE 32 G vl l) : CL Tryz.prog (nat_lit 73) #[vl] [] w G fun G' _ r=>Sl ValE 32 G' r l:=by
 refine Zh ft [] Tryz.func73 U U ?_
 have hS:=St.start (X:=[]) hG
 refine Zfg hvl Yv U U U (fun h1=>?_) ?_
 ·exact RT hS U (Sl.cast (Sl.nil ValE 32 G) (by exact Eq.symm ‹_›))
 refine WL.buildSlice _ [] [] hS ZlT U U U U (fun z hz=>by match z,hz with | [],_=>rfl) (fun b1 w1 N1 S1=>?_)
 have R1:=ZS.empty ValE 32 58 G b1
 refine YN ZlT U U U R1 S1 0 U hvl (by have:=Zc; have:=hvl.bytes; have:=hvl.bound; simp only [List.length_nil,Nat.zero_add]; omega) (by have:=Zc; have:=hvl.bytes; have:=hvl.bound; simp only [List.length_nil,Nat.zero_add]; omega) U U U (fun v1 o1 w2 R2 S2=>?_)
 obtain ⟨G1,L1,A1,S3⟩:=ZS.freeze R2 S2 0 U
 exact RT S3 U (Sl.cast A1 (by rfl))
theorem ZvR {w0 : World} {G0 G : GH} {w : World} {R : Own} (v : List Val) (fr c : Int) (l : List HRow) (nw : List Span) (bn bo bf : Nat) (nv vo : Value) (ro : OB) (hnv : Sl SpanE 16 G nv nw) (hvo : ZS HRowE 56 (nat_lit 37) G vo l ro) (hS : St w0 [] G0 G (some (bn,(nat_lit 71),[nv]) :: some (bo,(nat_lit 26),[vo]) :: some (bf,(nat_lit 3),[S fr]) :: ro :: R) w) (gv : Value) (hgv : Sl ValE 32 G gv v) (gt : Value) (pg : Addr) (hpg : XC G pg [gv,gt]) (C64 : Z0 c) (hf64 : Z0 fr) (hb : l.length + nw.length ≤ 1000000000) : Calls Tryz.prog (nat_lit 178) #[S c, .pointer (some ⟨bn,0,none⟩), .pointer (some ⟨bo,0,none⟩),Zs pg, .pointer (some ⟨bf,0,none⟩)] w fun e9 w9=>∃ (G9 : GH) (v9 : Value) (o9 : OB),e9 = .returned (.tuple #[]) ∧ G.le G9 ∧ St w0 [] G0 G9 (some (bn,(nat_lit 71),[nv]) :: some (bo,(nat_lit 26),[v9]) :: some (bf,(nat_lit 3),[S fr]) :: o9 :: R) w9 ∧ ZS HRowE 56 (nat_lit 37) G9 v9 (l ++ X1 v nw fr c) o9:=by
 refine Zh ft [] Tryz.func178 U U ?_
 refine Ya hS 0 _ _ _ 0 _ U U ZoA U U U ?_
 have V1:=hnv.bound
 refine Zl hnv Xe U U ?_
 refine LP.go ft [] (fun m ρ1 w1=>∃ (k1 : Nat),∃ (v1 : Value) (o1 : OB),∃ (G1 : GH),m = nw.length - k1 ∧ G.le G1 ∧ St w0 [] G0 G1 (some (bn,(nat_lit 71),[nv]) :: some (bo,(nat_lit 26),[v1]) :: some (bf,(nat_lit 3),[S fr]) :: o1 :: R) w1 ∧ ZS HRowE 56 37 G1 v1 (l ++ X1 v (nw.take k1) fr c) o1 ∧ FR ρ1 [(0,S c),(2, .pointer (some ⟨bo,0,none⟩)),(3,Zs pg),(4, .pointer (some ⟨bf,0,none⟩)),(8,nv),(9,S (nw.length : Int)),(10,S (k1 : Int))] ∧ k1 ≤ nw.length) _ ⟨0,vo,ro,G,U,(G.le_refl),hS,(ZS.cast hvo (by simp [X1])),(Zq U),(by omega)⟩ ?_
 rintro m ρ1 w1 ⟨k1,v1,o1,G1,rfl,L1,S1,R1,F9,f1⟩
 refine F9.set ?_
 clear F9
 have hol:=ZcP v (nw.take k1) fr c
 have hot:=List.length_take_le' k1 nw
 refine Zp (k1 : Int) (nw.length : Int) U U U (fun h1=>?_) (fun h1=>?_)
 ·refine WL.indexAddr (hnv.mono L1) k1 (by omega) Xe Z2 U U U U (fun p1 x1 U1 E1=>?_)
  obtain ⟨D1,C1,R2⟩:=E1
  obtain ⟨rfl,B1,B2⟩:=ZI R2
  refine Zb S1 C1 [S x1.a,S x1.b] Z2 U U U U U ?_
  refine WL.alloc S1 Z2 U U (fun b1 w2 N1 S2=>?_)
  refine Zi S2 0 [S x1.a,S x1.b] U U Z2 U U U U U U (fun w3 S3=>?_)
  obtain ⟨G2,L2,C2,S4⟩:=S3.shutB N1
  refine dr [(3,true),(9,true),(10,true),(11,false),(12,false)] [(14,v1),(16,gv),(18, .agg #[S x1.a,S x1.b]),(19,S fr),(21, .agg #[S fr,S c]),(22, .agg #[S x1.a,S x1.b,S fr,S c])] S4 ⟨fun _ hSw=>Ya hSw 1 _ _ _ 0 _ U U YK U U U <| nu U U,fun _ hSw=>Z hSw (XC.drop 0 (hpg.mono (L1.trans L2))) ZK U U U <| nu U U,fun _ hSw=>Zb hSw C2 [S x1.a,S x1.b] Z2 U U U U U <| nu U U,fun _ hSw=>Ya hSw 2 _ _ _ 0 _ U U Zt U U U <| nu U U,fun _=>WL.build _ [(0,[S fr]),(1,[S c])] [S fr,S c] Z2 U XB U U U U <| nu U U,fun _=>WL.build _ [(0,[S x1.a,S x1.b]),(1,[S fr,S c])] [S x1.a,S x1.b,S fr,S c] Zct U ZbY U U U U <| nu U U,trivial⟩ (fun w4 S5=>?_)
  refine Z9 S5 Zgf U U U (ZaE S5.imm v _ (hgv.mono (L1.trans L2))) (fun w5 G3 r1 P1 S6 L3=>?_)
  refine ⟨S6.down S5.le L3,?_⟩
  refine WL.build _ [(0,[r1]),(1,[S x1.a,S x1.b,S fr,S c])] [r1,S x1.a,S x1.b,S fr,S c] Zz U Za6 U U (by show [(0,(r1 : Value).cells.toList),(1,(.agg #[S x1.a,S x1.b,S fr,S c] : Value).cells.toList)] = _; simp only [P1.cells1] <;> rfl) U ?_
  refine ⟨S6.down S5.le L3,?_⟩
  refine WL.buildSlice _ [(0,[r1,S x1.a,S x1.b,S fr,S c])] [r1,S x1.a,S x1.b,S fr,S c] S6 YD U U U U (fun z hz=>by match z,hz with | [z0,z1,z2,z3,z4],_=>rfl) (fun b2 w6 N2 S7=>?_)
  refine ⟨S7.tail.down S5.le L3,?_⟩
  refine WL.push (m:=([(HRow.mk v (Rect.mk x1 (Span.mk fr c)))] : List HRow)) YD U U U (R1.mono (L2.trans L3)) S7 4 U 0 _ _ _ _ _ U ⟨[r1,S x1.a,S x1.b,S fr,S c],_,U,(ZT (HRow.mk v (Rect.mk x1 (Span.mk fr c))) P1 B1 B2 hf64 C64),U⟩ U (by have:=Zc; simp only [Zx]; omega) (by have:=Zc; simp only [Zx]; omega) U U U (fun v2 o2 w7 R3 S8=>?_)
  have S9:=S8.tail
  refine Zi S9 1 [v2] U R3.cells1 YK U U (by simp only [ZA,R3.oneC] <;> rfl) U U U (fun w9 S10=>?_)
  refine Zj k1 (by have:=Zc; omega) U U U ?_
  exact BK.mk' _ ⟨k1 + 1,v2,o2,G3,U,(L1.trans (L2.trans L3)),S10,(ZS.cast R3 (by (rw [Zeq ‹_›,List.append_assoc]))),(Zq U),(by omega)⟩ (show nw.length - (k1 + 1) < nw.length - k1 by omega)
 exact ⟨_,U,G1,v1,o1,U,L1,S1,(ZS.cast R1 (by rw [ZhH (by omega)]))⟩
end Go.Civ
namespace Go.Civ
open Go.RowKit
set_option linter.unusedVariables false
section
variable {G : GH} {cs : List Value}
def PtE : Enc Pt:=(Enc.pair .int (Enc.pair .int (ValE.slice 32))).via fun x=>(x.tx,x.vd,x.v)
theorem QG {x : Pt} (h : PtE.rep G x cs) : ∃ v,cs = [.int .i64 x.tx, .int .i64 x.vd,v] ∧ Z0 x.tx ∧ Z0 x.vd ∧ Sl ValE 32 G v x.v:=by
 obtain ⟨c1,c2,rfl,⟨rfl,h1⟩,c3,c4,rfl,⟨rfl,h2⟩,v,rfl,h3⟩:=h
 exact ⟨v,rfl,h1,h2,h3⟩
theorem Qv (x : Pt) {v : Value} (h1 : Z0 x.tx) (h2 : Z0 x.vd) (h3 : Sl ValE 32 G v x.v) : PtE.rep G x [.int .i64 x.tx, .int .i64 x.vd,v]:=
 ⟨_,_,rfl,⟨rfl,h1⟩,_,_,rfl,⟨rfl,h2⟩,v,rfl,h3⟩
end
def Q9 (x y : Pt) : Int:=if Y5 x.tx y.tx ≠ 0 then Y5 x.tx y.tx else if Y5 x.vd y.vd ≠ 0 then Y5 x.vd y.vd else XL x.v y.v
def bef2 (x y : Int × List Val) : Int:=if Y5 x.1 y.1 ≠ 0 then Y5 x.1 y.1 else ZL cmpV x.2 y.2
def befL (x y : Pt) : Int:=if Y5 x.tx y.tx ≠ 0 then Y5 x.tx y.tx else bef2 (x.vd,x.v) (y.vd,y.v)
theorem Zt5 : TOrd bef2:=TOrd.lex (f:=Prod.fst) (g:=Prod.snd) Zb2 (ZlL ZlK) fun x y h1 h2=>Prod.ext h1 h2
theorem Zav : TOrd befL:=TOrd.lex (f:=Pt.tx) (g:=fun x : Pt=>(x.vd,x.v)) Zb2 Zt5 fun x y h1 h2=>by
 cases x; cases y; simp at h1 h2; simp [h1,h2]
theorem Zan {x y : Pt} (hx : x.v.all Z4 = true) (hy : y.v.all Z4 = true) : Q9 x y = befL x y:=by
 unfold Q9 befL bef2; rw [Q3 hx hy]
def VP (l : List Pt) : Prop:=∀ p ∈ l,p.v.all Z4 = true
def ZaQ (m q : Pt) : Pt:=if Q9 q m < 0 then q else m
def ZiQ : Pt:=⟨0,0,[]⟩
def XM : List Pt → Pt
 | []=>ZiQ
 | p :: r=>r.foldl ZaQ p
theorem Zf8 : ∀ (r : List Pt) (p : Pt),p.v.all Z4 = true → VP r → (r.foldl ZaQ p = p ∨ r.foldl ZaQ p ∈ r) ∧ ¬ Q9 p (r.foldl ZaQ p) < 0 ∧ ∀ q ∈ r,¬ Q9 q (r.foldl ZaQ p) < 0
 | [],p,hp,_=>⟨.inl rfl,by show ¬ Q9 p p < 0; rw [Zan hp hp,Zav.refl]; omega,fun q hq=>by cases hq⟩
 | x :: r,p,hp,hr=>by
  have hx:=hr x (by simp)
  have hr2 : VP r:=fun q hq=>hr q (by simp [hq])
  by_cases e : Q9 x p < 0
  ·have e1 : ZaQ p x = x:=if_pos e
   obtain ⟨h1,h2,h3⟩:=Zf8 r x hx hr2
   rw [List.foldl_cons,e1]
   have hm : (r.foldl ZaQ x).v.all Z4 = true:=by rcases h1 with h | h; (rw [h]; exact hx); exact hr2 _ h
   refine ⟨.inr ?_,?_,fun q hq=>?_⟩
   ·rcases h1 with h | h
    ·rw [h]; simp
    ·exact List.mem_cons_of_mem _ h
   ·intro k
    rw [Zan hp hm] at k; rw [Zan hx hp] at e; rw [Zan hx hm] at h2
    exact h2 (Zav.trans _ _ _ e k)
   ·rcases List.mem_cons.1 hq with rfl | hq
    ·exact h2
    ·exact h3 q hq
  ·have e1 : ZaQ p x = p:=if_neg e
   obtain ⟨h1,h2,h3⟩:=Zf8 r p hp hr2
   rw [List.foldl_cons,e1]
   have hm : (r.foldl ZaQ p).v.all Z4 = true:=by rcases h1 with h | h; (rw [h]; exact hp); exact hr2 _ h
   refine ⟨?_,h2,fun q hq=>?_⟩
   ·rcases h1 with h | h
    ·exact .inl h
    ·exact .inr (List.mem_cons_of_mem _ h)
   ·rcases List.mem_cons.1 hq with rfl | hq
    ·rw [Zan hx hm]; rw [Zan hx hp] at e; rw [Zan hp hm] at h2
     exact Zav.le_trans h2 e
    ·exact h3 q hq
theorem ZdA {l : List Pt} (hV : VP l) (hne : l ≠ []) : XM l ∈ l ∧ ∀ q ∈ l,¬ Q9 q (XM l) < 0:=by
 cases l with
 | nil=>exact absurd rfl hne
 | cons p r=>
  obtain ⟨h1,h2,h3⟩:=Zf8 r p (hV p (by simp)) fun q hq=>hV q (by simp [hq])
  refine ⟨?_,fun q hq=>?_⟩
  ·show r.foldl ZaQ p ∈ _
   rcases h1 with h | h
   ·rw [h]; simp
   ·exact List.mem_cons_of_mem _ h
  ·rcases List.mem_cons.1 hq with rfl | hq
   ·exact h2
   ·exact h3 q hq
theorem Zt6 {x y : Pt} (hx : x.v.all Z4 = true) (hy : y.v.all Z4 = true) (h1 : ¬ Q9 x y < 0) (h2 : ¬ Q9 y x < 0) : x = y:=by
 rw [Zan hx hy] at h1; rw [Zan hy hx] at h2
 refine (Zav.eq x y).1 ?_
 have:=Zav.swap y x
 have:=Zav.swap x y
 omega
theorem Zj5 {q m : Pt} (h : ¬ Q9 q m < 0) : ¬ Zeu q.tx q.vd m.tx m.vd:=by
 intro k
 apply h
 unfold Q9 Y5
 unfold Zeu at k
 rcases k with k | ⟨k1,k2⟩
 ·rw [if_pos k]; simp
 ·rw [k1,if_neg (Int.lt_irrefl _),if_neg (Int.lt_irrefl _),if_pos k2]; simp
theorem Zrf {p x : Pt} {r : List Pt} {k : Nat} (h : (p :: r)[k]? = some x) (hk : 1 ≤ k) : XM ((p :: r).take (k + 1)) = ZaQ (XM ((p :: r).take k)) x:=by
 obtain ⟨j,rfl⟩ : ∃ j,k = j + 1:=⟨k - 1,by omega⟩
 rw [List.getElem?_cons_succ] at h
 rw [List.take_succ_cons,List.take_succ_cons]
 show (r.take (j + 1)).foldl ZaQ p = ZaQ ((r.take j).foldl ZaQ p) x
 rw [List.take_add_one,h]; simp [List.foldl_append]
def Y8 : Option Pt → Pt
 | none=>ZiQ
 | some p=>p
def ZZ : Option Pt → HRow
 | none=>⟨[],⟨⟨0,0⟩,⟨0,0⟩⟩⟩
 | some p=>⟨p.v,⟨⟨p.vd,p.vd + 1⟩,⟨p.tx,p.tx + 1⟩⟩⟩
def ZgW (k : Nat) (l : List HRow) : Option Pt:=match X7 k l with
 | []=>none
 | q :: r=>some ⟨(XM (q :: r)).tx,(XM (q :: r)).vd,(Za9 k l (XM (q :: r)).tx (XM (q :: r)).vd).getD []⟩
def Z5 (t : Table) : Option Pt:=ZgW t.s.key.toNat t.rows
def YI (t : Table) : Bool:=Zu t && (Z5 t).isNone
def ZaR (t : Table) : HRow:=if Zu t then ZZ (Z5 t) else ZZ none
def Zb7 (k : Nat) (l : List HRow) (i : Nat) : List Pt:=(List.range i).flatMap (Zet k l)
def Zb8 (k : Nat) (a : HRow) (m : List HRow) : List Pt:=(m.filter (ovB k a)).map (ZeC a)
section
variable {k i j : Nat} {l m : List HRow} {a b : HRow}
theorem Zpz (h : l[i]? = some a) : Zb7 k l (i + 1) = Zb7 k l i ++ Zb8 k a (l.take i):=by
 unfold Zb7 Zb8
 rw [List.range_succ,List.flatMap_append]
 congr 1
 simp [Zet,h]
theorem Zg0 (h : l.length ≤ i) : Zb7 k l i = X7 k l:=by
 unfold Zb7 X7
 obtain ⟨d,rfl⟩ : ∃ d,i = l.length + d:=⟨i - l.length,by omega⟩
 induction d with
 | zero=>rfl
 | succ d ih=>
  rw [← Nat.add_assoc,List.range_succ,List.flatMap_append,ih (by omega)]
  simp [Zet]
theorem Zkw : (Zb8 k a m).length ≤ m.length:=by unfold Zb8; rw [List.length_map]; exact List.length_filter_le _ _
theorem Zg1 (hl : l.length ≤ 500) : ∀ i,(Zb7 k l i).length ≤ 500 * i
 | 0=>by simp [Zb7]
 | i + 1=>by
  have ih:=Zg1 hl i
  unfold Zb7 at ih ⊢
  rw [List.range_succ,List.flatMap_append,List.length_append]
  have : ([i].flatMap (Zet k l)).length ≤ 500:=by
   simp only [List.flatMap_cons,List.flatMap_nil,List.append_nil]
   unfold Zet
   split
   ·rename_i x _
    have h1:=Zkw (k:=k) (a:=x) (m:=l.take i)
    have h2:=List.length_take_le' i l
    unfold Zb8 at h1
    omega
   ·simp
  omega
theorem Zev (hb : m[j]? = some b) (h1 : XX (max a.r.x.a b.r.x.a) a.r.x = true) (h2 : XX (max a.r.x.a b.r.x.a) b.r.x = true) (h3 : XX (max a.r.d.a b.r.d.a) a.r.d = true) (h4 : XX (max a.r.d.a b.r.d.a) b.r.d = true)
  (h5 : decide (a.v.take k = b.v.take k) = true) : Zb8 k a (m.take (j + 1)) = Zb8 k a (m.take j) ++ [ZeC a b]:=by
 unfold Zb8
 rw [List.take_add_one,hb,List.filter_append,List.map_append]
 have : ovB k a b = true:=by unfold ovB; rw [h1,h2,h3,h4,h5]; rfl
 simp [this]
theorem Zaw (hb : m[j]? = some b) (h : XX (max a.r.x.a b.r.x.a) a.r.x = false ∨ XX (max a.r.x.a b.r.x.a) b.r.x = false ∨ XX (max a.r.d.a b.r.d.a) a.r.d = false ∨ XX (max a.r.d.a b.r.d.a) b.r.d = false ∨ decide (a.v.take k = b.v.take k) = false) :
  Zb8 k a (m.take (j + 1)) = Zb8 k a (m.take j):=by
 unfold Zb8
 rw [List.take_add_one,hb,List.filter_append,List.map_append]
 have : ovB k a b = false:=by unfold ovB; rcases h with h | h | h | h | h <;> rw [h] <;> simp
 simp [this]
theorem ZgX (h : XL b.v a.v < 0) : ZeC a b = ⟨max a.r.x.a b.r.x.a,max a.r.d.a b.r.d.a,b.v⟩:=by unfold ZeC; rw [if_pos h]
theorem ZgY (h : 0 ≤ XL b.v a.v) : ZeC a b = ⟨max a.r.x.a b.r.x.a,max a.r.d.a b.r.d.a,a.v⟩:=by unfold ZeC; rw [if_neg (by omega)]
theorem ZiR (hg : Z8 l) : VP (X7 k l):=fun p hp=>by
 obtain ⟨i,j,a,b,ha,hb,_,_,rfl⟩:=Zj4.1 hp
 have h1:=(Yk (hg a (List.mem_of_getElem? ha))).1
 have h2:=(Yk (hg b (List.mem_of_getElem? hb))).1
 unfold ZeC
 simp only
 split
 ·exact h2
 ·exact h1
end
section
variable {k : Nat} {l : List HRow} {q : List Pt} {x : Pt}
theorem Zt7 (hg : Z8 l) (hp : q.Perm (X7 k l)) (hs : q.Pairwise fun x y=>¬ Q9 y x < 0) (h0 : q[0]? = some x) : x = XM (X7 k l) ∧ X7 k l ≠ [] ∧ x ∈ X7 k l:=by
 have hx : x ∈ X7 k l:=hp.subset (List.mem_of_getElem? h0)
 have hne : X7 k l ≠ []:=fun e=>by rw [e] at hx; cases hx
 have hV:=ZiR (k:=k) hg
 obtain ⟨h1,h2⟩:=ZdA hV hne
 refine ⟨?_,hne,hx⟩
 cases q with
 | nil=>cases h0
 | cons y r=>
  obtain rfl:=Option.some.inj h0
  have hmin : ∀ z ∈ y :: r,¬ Q9 z y < 0:=fun z hz=>by
   rcases List.mem_cons.1 hz with rfl | hz
   ·rw [Zan (hV _ hx) (hV _ hx),Zav.refl]; omega
   ·exact (List.pairwise_cons.1 hs).1 z hz
  exact Zt6 (hV _ hx) (hV _ h1) (h2 _ hx) (hmin _ (hp.symm.subset h1))
theorem Zf9 (h : X7 k l = []) : ZgW k l = none:=by unfold ZgW; rw [h]
theorem ZdB (h : X7 k l ≠ []) : ZgW k l = some ⟨(XM (X7 k l)).tx,(XM (X7 k l)).vd,(Za9 k l (XM (X7 k l)).tx (XM (X7 k l)).vd).getD []⟩:=by
 unfold ZgW
 cases e : X7 k l with
 | nil=>exact absurd e h
 | cons a r=>rfl
theorem Zg2 {k j : Nat} {v : List Val} : ∀ {l : VV},(∀ i,i < j → ∀ x,l[i]? = some x → (l.drop (i + 1)).any (fun y=>decide (x.take k = y.take k)) = false) → l[j]? = some v → (∃ w ∈ l.drop (j + 1),v.take k = w.take k) → ZbJ k l = some v
 | [],_,h,_=>by cases h
 | x :: r,h1,h2,⟨w,hw,e⟩=>by
  unfold ZbJ
  cases j with
  | zero=>
   obtain rfl:=Option.some.inj h2
   rw [if_pos]
   rw [List.any_eq_true]
   exact ⟨w,by simpa using hw,decide_eq_true e.symm⟩
  | succ j=>
   have h0:=h1 0 (by omega) x rfl
   rw [if_neg]
   ·exact Zg2 (j:=j) (fun i hi y hy=>by simpa using h1 (i + 1) (by omega) y (by simpa using hy)) (by simpa using h2) ⟨w,by simpa using hw,e⟩
   ·rw [List.any_eq_true]
    rintro ⟨y,hy,e2⟩
    rw [List.any_eq_false] at h0
    exact h0 y (by simpa using hy) (by have:=of_decide_eq_true e2; exact decide_eq_true this.symm)
theorem Zrg {k : Nat} : ∀ {l : VV},(∀ i x,l[i]? = some x → (l.drop (i + 1)).any (fun y=>decide (x.take k = y.take k)) = false) → ZbJ k l = none
 | [],_=>rfl
 | x :: r,h=>by
  unfold ZbJ
  have h0:=h 0 x rfl
  rw [if_neg]
  ·exact Zrg fun i y hy=>by simpa using h (i + 1) y (by simpa using hy)
  ·rw [List.any_eq_true]
   rintro ⟨y,hy,e2⟩
   rw [List.any_eq_false] at h0
   exact h0 y (by simpa using hy) (by have:=of_decide_eq_true e2; exact decide_eq_true this.symm)
end
section
variable {t : Table} {q : List Pt} {x : Pt}
theorem Zkx (hv : Zu t = true) {p : Pt} (hp : p ∈ X7 t.s.key.toNat t.rows) : Y1 p.tx = true ∧ Y1 p.vd = true:=by
 obtain ⟨hg,_,_,hn⟩:=ZY hv
 obtain ⟨_,⟨r,hr,e1⟩,s,hs,e2⟩:=Zgz hg hn hp
 have a:=(Yk (hg r hr)).2.2
 have b:=(Yk (hg s hs)).2.1
 unfold ZN at a b
 simp at a b
 unfold Y1
 simp only [Bool.and_eq_true,decide_eq_true_eq]
 omega
theorem Zrh (hv : Zu t = true) (hp : q.Perm (X7 t.s.key.toNat t.rows)) (hs : q.Pairwise fun x y=>¬ Q9 y x < 0) (h0 : q[0]? = some x) :
  Y1 x.tx = true ∧ Y1 x.vd = true ∧ (∀ v,ZbJ t.s.key.toNat (YO t x.vd x.tx) = some v → Z5 t = some ⟨x.tx,x.vd,v⟩) ∧ ZbJ t.s.key.toNat (YO t x.vd x.tx) ≠ none:=by
 obtain ⟨hg,_,_,hn⟩:=ZY hv
 obtain ⟨e,hne,hx⟩:=Zt7 hg hp hs h0
 obtain ⟨i1,i2⟩:=Zkx hv hx
 have hsn : YO t x.vd x.tx = Zbq t.rows x.vd x.tx:=by unfold YO; rw [hv,i1,i2]; rfl
 have hd : ZbJ t.s.key.toNat (YO t x.vd x.tx) = Za9 t.s.key.toNat t.rows x.tx x.vd:=by rw [hsn,Zgy (Zf7 hg _ _)]; rfl
 refine ⟨i1,i2,fun v h=>?_,?_⟩
 ·unfold Z5
  rw [ZdB hne,← e,← hd,h]; rfl
 ·rw [hd]; exact (Zgz hg hn hx).1
theorem ZgZ (hv : Zu t = true) : ∀ r ∈ t.rows,t.s.key ≤ r.v.length:=fun r hr=>by
 have h:=Zas hv hr
 have hs : YB t.s = true:=by rw [Zch] at hv; unfold QY at hv; simp only [Bool.and_eq_true] at hv; exact hv.1.1.1.1.1
 unfold YB Qx at hs
 simp only [Bool.and_eq_true,decide_eq_true_eq] at hs
 rw [h.2.2.2.1]; exact hs.1.1.1.2
theorem Zha (hv : Zu t = true) : 1 ≤ t.s.key:=by
 have hs : YB t.s = true:=by rw [Zch] at hv; unfold QY at hv; simp only [Bool.and_eq_true] at hv; exact hv.1.1.1.1.1
 unfold YB Qx at hs
 simp only [Bool.and_eq_true,decide_eq_true_eq] at hs
 exact hs.1.1.1.1.2
theorem Zt8 (hv : Zu t = true) {a y : Int} (hy : Y1 y = true) (ha : Y1 a = true) : ∀ v ∈ YO t a y,t.s.key ≤ v.length:=fun v h=>by
 rw [Zra hv ha hy] at h
 obtain ⟨r,hr,rfl,_⟩:=h
 exact ZgZ hv r hr
theorem Zri {k : Nat} (h : ((Zb7 t.s.key.toNat t.rows k).length : Int) = 0) (hk : t.rows.length ≤ k) : Pt.mk 0 0 [] = Y8 (Z5 t) ∧ false = (Z5 t).isSome:=by
 rw [Zg0 hk] at h
 have : Z5 t = none:=Zf9 (List.length_eq_zero_iff.1 (by omega))
 rw [this]; exact ⟨rfl,rfl⟩
theorem ZiS {v : List Val} (h : Y1 x.tx = true ∧ Y1 x.vd = true ∧ (∀ v,ZbJ t.s.key.toNat (YO t x.vd x.tx) = some v → Z5 t = some ⟨x.tx,x.vd,v⟩) ∧ ZbJ t.s.key.toNat (YO t x.vd x.tx) ≠ none) (hd : ZbJ t.s.key.toNat (YO t x.vd x.tx) = some v) : Pt.mk x.tx x.vd v = Y8 (Z5 t) ∧ true = (Z5 t).isSome:=by
 rw [h.2.2.1 v hd]; exact ⟨rfl,rfl⟩
theorem ZnS {α : Type} {p : α → Bool} {l : List α} {k : Nat} (h : ∀ j,j < k → ∀ x,l[j]? = some x → p x = false) (hk : l.length ≤ k) : l.any p = false:=by
 rw [List.any_eq_false]
 intro x hx
 obtain ⟨i,hi⟩:=List.getElem?_of_mem hx
 obtain ⟨hlt,_⟩:=List.getElem?_eq_some_iff.1 hi
 rw [h i (by omega) x hi]; simp
theorem ZnT {k j : Nat} {l : VV} (h : ∀ i,i < j → ∀ x,l[i]? = some x → (l.drop (i + 1)).any (fun y=>decide (x.take k = y.take k)) = false) (hj : l.length ≤ j) : ZbJ k l = none:=
 Zrg fun i x hx=>by
  obtain ⟨hlt,_⟩:=List.getElem?_eq_some_iff.1 hx
  exact h i (by omega) x hx
theorem ZiT (h : X7 t.s.key.toNat t.rows = []) : Z5 t = none:=Zf9 h
end
end Go.Civ
set_option linter.unusedVariables false
set_option linter.unusedSimpArgs false
set_option maxRecDepth 100000
set_option maxHeartbeats 4000000
namespace Go.Civ
open Go.Proofs
theorem ZhP {G : GH} {w : World} (hG : G.In w) (x y : Pt) (cx : List Value) (hcx : PtE.rep G x cx) (cy : List Value) (hcy : PtE.rep G y cy) : CL Tryz.prog (nat_lit 117) #[.agg cx.toArray, .agg cy.toArray] [] w G fun _ _ r=>r = S (Q9 x y):=by
 refine Zh ft [] Tryz.func117 U U ?_
 have hS:=St.start (X:=[]) hG
 obtain ⟨v1,rfl,B1,B2,A1⟩:=QG hcx
 obtain ⟨v2,rfl,B3,B4,A2⟩:=QG hcy
 refine Zw [S x.tx,S x.vd,v1] _ hS U U U (fun p1 w1 G1 L1 M1 C1 S1=>?_)
 refine Zw [S y.tx,S y.vd,v2] _ S1 U U U (fun p2 w2 G2 L2 M2 C2 S2=>?_)
 have j1:=(L1.trans L2)
 refine dr [(15,false),(16,false),(17,false)] [(6,S x.tx),(8,S y.tx),(9,S (Y5 x.tx y.tx)),(11,S x.vd),(13,S y.vd),(14,S (Y5 x.vd y.vd)),(16,v1),(18,v2),(19,S (XL x.v y.v))] S2 ⟨fun _ hSw=>Z hSw (XC.drop 0 (C1.mono L2)) Zt U U U <| nu U U,fun _ hSw=>Z hSw (XC.drop 0 C2) Zt U U U <| nu U U,fun _ hSw=>Z3 hSw Zla U U U (Zef hSw.imm x.tx y.tx) U,fun _ hSw=>Z hSw (XC.drop 1 (C1.mono L2)) Zt U U U <| nu U U,fun _ hSw=>Z hSw (XC.drop 1 C2) Zt U U U <| nu U U,fun _ hSw=>Z3 hSw Zla U U U (Zef hSw.imm x.vd y.vd) U,fun _ hSw=>Z hSw (XC.drop 2 (C1.mono L2)) ZK U U U <| nu U U,fun _ hSw=>Z hSw (XC.drop 2 C2) ZK U U U <| nu U U,fun _ hSw=>Z3 hSw ZkY U U U (ZgJ hSw.imm x.v y.v _ (A1.mono j1) _ (A2.mono j1)) U,trivial⟩ (fun w3 S3=>?_)
 refine WL.buildSlice _ [(0,[S (Y5 x.tx y.tx)]),(1,[S (Y5 x.vd y.vd)]),(2,[S (XL x.v y.v)])] [S (Y5 x.tx y.tx),S (Y5 x.vd y.vd),S (XL x.v y.v)] S3 Yb U U U U (fun z hz=>by match z,hz with | [z0,z1,z2],_=>rfl) (fun b1 w4 N1 S4=>?_)
 obtain ⟨G3,L3,A3,S5⟩:=St.sealSl (E:=Enc.int) (by_:=8) (l:=([(Y5 x.tx y.tx),(Y5 x.vd y.vd),(XL x.v y.v)] : List Int)) S4 N1 ⟨[S (Y5 x.tx y.tx)],_,U,⟨U,ZeK x.tx y.tx⟩,⟨[S (Y5 x.vd y.vd)],_,U,⟨U,ZeK x.vd y.vd⟩,⟨[S (XL x.v y.v)],_,U,⟨U,Zso x.v y.v⟩,U⟩⟩⟩ U (by simp [reach]) (by simp [reach])
 refine Zr S5 ZuB U U U (Zxj S5.imm [(Y5 x.tx y.tx),(Y5 x.vd y.vd),(XL x.v y.v)] _ A3) (fun w5 G4 S6 L4=>?_)
 exact RI S6 U (by exact ZpY _ _ _)
theorem Za0 {G : GH} {w : World} (hG : G.In w) (s : Span) (x : Int) (cs : List Value) (hcs : SpanE.rep G s cs) : CL Tryz.prog (nat_lit 114) #[.agg cs.toArray,S x] [] w G fun _ _ r=>r = .bool (XX x s):=by
 refine Zh ft [] Tryz.func114 U U ?_
 have hS:=St.start (X:=[]) hG
 obtain ⟨rfl,B1,B2⟩:=ZI hcs
 refine Zw [S s.a,S s.b] _ hS U U U (fun p1 w1 G1 L1 M1 C1 S1=>?_)
 refine Z S1 (XC.drop 0 C1) Zt U U U ?_
 refine QS s.a x U U U (fun h1=>?_) (fun h1=>?_)
 ·refine Z S1 (XC.drop 1 C1) Zt U U U <| Yf .lss U .i64 x s.b U U U ?_
  exact RB S1 U (by unfold XX; simp_all [Cmp.b] <;> (first | omega | (intros; omega) | (rw [Bool.eq_iff_iff]; simp <;> omega) | (rw [Bool.eq_iff_iff]; simp_all <;> omega)))
 exact RB S1 U (by unfold XX; simp_all [Cmp.b] <;> (omega))
theorem Zwd {G : GH} {w : World} (hG : G.In w) (q : Pt) (cq : List Value) (hcq : PtE.rep G q cq) (h1 : Y1 q.tx = true) (h2 : Y1 q.vd = true) : CL Tryz.prog (nat_lit 61) #[.agg cq.toArray] [] w G fun G' _ r=>Is HRowE G' r (ZZ (some q)):=by
 refine Y2 ft [] Tryz.func61 U U ?_
 have hS:=St.start (X:=[]) hG
 obtain ⟨v1,rfl,B1,B2,A1⟩:=QG hcq
 refine Zw [S q.tx,S q.vd,v1] _ hS U U U (fun p1 w1 G1 L1 M1 C1 S1=>?_)
 refine WL.alloc S1 Zz U U (fun b1 w2 N1 S2=>?_)
 have hi1 : Z0 (q.vd + 1):=by have b1:=Qm h1; have b2:=Qm h2; have:=B2.1; have:=B2.2; constructor <;> omega
 have hi2 : Z0 (q.tx + 1):=by have b1:=Qm h1; have b2:=Qm h2; have:=B1.1; have:=B1.2; constructor <;> omega
 refine dr [(2,true),(16,false),(17,false)] [(4,v1),(7,S q.vd),(9,S q.vd),(10,S (q.vd + 1)),(11, .agg #[S q.vd,S (q.vd + 1)]),(13,S q.tx),(15,S q.tx),(16,S (q.tx + 1)),(17, .agg #[S q.tx,S (q.tx + 1)]),(18, .agg #[S q.vd,S (q.vd + 1),S q.tx,S (q.tx + 1)])] S2 ⟨fun _ hSw=>Z hSw (XC.drop 2 C1) ZK U U U <| nu U U,fun _ hSw=>Z hSw (XC.drop 1 C1) Zt U U U <| nu U U,fun _ hSw=>Z hSw (XC.drop 1 C1) Zt U U U <| nu U U,fun _=>Zb0 .add U q.vd 1 U U U hi1 <| nu U U,fun _=>WL.build _ [(0,[S q.vd]),(1,[S (q.vd + 1)])] [S q.vd,S (q.vd + 1)] Z2 U XB U U U U <| nu U U,fun _ hSw=>Z hSw (XC.drop 0 C1) Zt U U U <| nu U U,fun _ hSw=>Z hSw (XC.drop 0 C1) Zt U U U <| nu U U,fun _=>Zb0 .add U q.tx 1 U U U hi2 <| nu U U,fun _=>WL.build _ [(0,[S q.tx]),(1,[S (q.tx + 1)])] [S q.tx,S (q.tx + 1)] Z2 U XB U U U U <| nu U U,fun _=>WL.build _ [(0,[S q.vd,S (q.vd + 1)]),(1,[S q.tx,S (q.tx + 1)])] [S q.vd,S (q.vd + 1),S q.tx,S (q.tx + 1)] Zct U ZbY U U U U <| nu U U,trivial⟩ (fun w3 S3=>?_)
 refine Z9 S3 Zgf U U U (ZaE S3.imm q.v _ (A1.mono L1)) (fun w4 G2 r1 P1 S4 L2=>?_)
 refine ⟨S4.down S3.le L2,?_⟩
 refine WL.build _ [(0,[r1]),(1,[S q.vd,S (q.vd + 1),S q.tx,S (q.tx + 1)])] [r1,S q.vd,S (q.vd + 1),S q.tx,S (q.tx + 1)] Zz U Za6 U U (by show [(0,(r1 : Value).cells.toList),(1,(.agg #[S q.vd,S (q.vd + 1),S q.tx,S (q.tx + 1)] : Value).cells.toList)] = _; simp only [P1.cells1] <;> rfl) U ?_
 refine Zi S4 0 [r1,S q.vd,S (q.vd + 1),S q.tx,S (q.tx + 1)] U U Zz U U (by simp only [ZA,P1.oneC] <;> rfl) U U U (fun w5 S5=>?_)
 obtain ⟨G3,L3,C2,S6⟩:=S5.shutB N1
 exact Xr [.agg #[r1,S q.vd,S (q.vd + 1),S q.tx,S (q.tx + 1)]] S6 ⟨_,_,_,U,U,S6.loadC C2 Zz U U,U⟩ (Is.cast ⟨_,U,(ZT (HRow.mk q.v (Rect.mk (Span.mk q.vd (q.vd + 1)) (Span.mk q.tx (q.tx + 1)))) (P1.mono L3) B2 hi1 B1 hi2)⟩ (by rfl))
end Go.Civ
