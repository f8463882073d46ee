/- Lemmas. -/
import Derived.Test.YthgeclodflmiaaaGreatH11
import Derived.Test.YthgeclodflmiaaaGreatH20
import Derived.Test.YthgeclodflmiaaaGreatH21
import Derived.Test.YthgeclodflmiaaaGreatH27
import Derived.Test.YthgeclodflmiaaaGreatH28
import Derived.Test.YthgeclodflmiaaaGreatH32
import Derived.Test.YthgeclodflmiaaaGreatH33
import Derived.Test.YthgeclodflmiaaaGreatProg
import Derived.KernelRfl
import Derived.WalkKit
set_option linter.unusedVariables false
namespace Go.Civ
open Go.Proofs Go.Shelf Go.RowKit Go.Lib Go.Sort
theorem Zt4 {G : GH} {w : World} (hG : G.In w) (l : List Pt) (vd : Value) (od : OB) (hvd : Ye PtE 40 (nat_lit 105) G vd l od) (hod : XJ w G od) (hV : VP l) :
  Calls Tryz.prog (nat_lit 116) #[vd, .func (.func 117) #[] #[]] w fun e w'=>∃ r G',e = .returned r ∧ Res (blk od) w G w' G' ∧ r = .tuple #[] ∧ ∃ (l' : List Pt) (o' : OB),Ye PtE 40 (nat_lit 105) G' vd l' o' ∧ XJ w' G' o' ∧ (l'.Perm l ∧ l'.Pairwise fun x y=>¬ Zas y x < 0):=
 Zmn Tryz.sortPt (E:=PtE) (by decide) Tryz.isAgg105 Tryz.sizeOf105 Zas (fun p=>p.v.all Zz = true)
  (fun x hx=>by rw [QI hx hx,QM.refl]; omega)
  (fun x y z hx hy hz p q=>by rw [QI hx hy] at p; rw [QI hy hz] at q; rw [QI hx hz]; exact QM.trans _ _ _ p q)
  (fun x y z hx hy hz p q=>by rw [QI hx hy] at p; rw [QI hy hz] at q; rw [QI hx hz]; exact QM.le_trans q p)
  117 (enters_of Tryz.func117 (by kernel_rfl) rfl) hG (fun W hW x y cx cy hx hy rx ry=>Zr0 hW x y cx rx cy ry)
  ZhQ _ (Zbk (v:= .slice none 0 0) ZhQ ZM ZM (Sl.nil _ _ _)) rfl l hV vd od hvd hod
end Go.Civ
set_option linter.unusedVariables false
set_option linter.unusedSimpArgs false
set_option maxRecDepth 100000
set_option maxHeartbeats 4000000
namespace Go.Civ
open Go.Proofs
theorem Zpx {G : GH} {w : World} (hG : G.In w) (d : Nat) (t : Table) (tx : Int) (c : Cond) (p : Span) (ct : List Value) (hct : TableE.rep G t ct) (cc : List Value) (hcc : (Y1 d).rep G c cc) (cp : List Value) (hcp : SpanE.rep G p cp) (htx64 : Zw tx) : CL Tryz.prog (nat_lit 108) #[.agg ct.toArray, .int .i64 tx, .agg cc.toArray, .agg cp.toArray] [] w G fun G' _ r=>∃ r0 r1,r = .tuple #[r0,r1] ∧ Is TableE G' r0 (Q7 d t tx c p) ∧ r1 = .int .i64 (ZdS d t tx c p):=by
 refine YB ft [] Tryz.func108 rfl rfl ?_
 have hS:=St.start (X:=[]) hG
 obtain ⟨v1,v2,v3,rfl,hb1,hs1,hb2,hs2,hs3,hb3⟩:=Zy hct
 obtain ⟨lv1,rfl,hb4,hb5,hb6,hb7,hb8,hb9,ho1⟩:=YS hcc
 obtain ⟨rfl,hb10,YD⟩:=ZE hcp
 refine Zv [Zb t.s.name,v1, .int .i64 t.s.key,v2,v3, .int .i64 t.last] _ hS rfl rfl rfl (fun p1 w1 G1 hle1 hsp1 hc1 hS1=>?_)
 refine Zv [.int .i64 c.kind,Zb c.col,Zb c.oth, .int .i64 c.v.k, .int .i64 c.v.n,Zb c.v.s,lv1] _ hS1 rfl rfl rfl (fun p2 w2 G2 hle2 hsp2 hc2 hS2=>?_)
 refine Zv [.int .i64 p.a, .int .i64 p.b] _ hS2 rfl rfl rfl (fun p3 w3 G3 hle3 hsp3 hc3 hS3=>?_)
 refine WL.alloc hS3 Zm rfl rfl (fun b1 w4 hn1 hS4=>?_)
 refine Zc hS4 (hc1.mono (hle2.trans hle3)) [Zb t.s.name,v1, .int .i64 t.s.key,v2,v3, .int .i64 t.last] Zm rfl rfl rfl rfl rfl ?_
 refine Zn hS4 XD rfl rfl rfl (ZaH hS4.imm t _ (Zi t hb1 (hs1.mono ((hle1.trans hle2).trans hle3)) hb2 (hs2.mono ((hle1.trans hle2).trans hle3)) (hs3.mono ((hle1.trans hle2).trans hle3)) hb3)) (fun w5 G4 hS5 hle4=>?_)
 refine WL.split (fun (h1 : (Z2 t) = true)=>?_) (fun (h1 : (Z2 t) = false)=>?_)
 ·refine Zc hS5 (hc3.mono hle4) [.int .i64 p.a, .int .i64 p.b] Zu rfl rfl rfl rfl rfl ?_
  refine Zn hS5 Zk6 rfl rfl rfl (Zeg hS5.imm p _ (Zs p hb10 YD)) (fun w6 G5 hS6 hle5=>?_)
  refine WL.split (fun (h2 : (ZI p) = true)=>?_) (fun (h2 : (ZI p) = false)=>?_)
  ·have hok : YZ t p = true:=Zep ‹_› ‹_›
   have hck : Zw (ZW d c t.s.cols):=ZhG
   refine dr [(8,false),(9,false),(10,false)] [(20, .agg #[.int .i64 c.kind,Zb c.col,Zb c.oth, .int .i64 c.v.k, .int .i64 c.v.n,Zb c.v.s,lv1]),(23,v1),(24, .int .i64 (ZW d c t.s.cols)),(25, .agg #[Zb t.s.name,v1, .int .i64 t.s.key,v2,v3, .int .i64 t.last]),(27, .int .i64 (YG t tx))] hS6 ⟨fun _ hSw=>Zc hSw (hc2.mono ((hle3.trans hle4).trans hle5)) [.int .i64 c.kind,Zb c.col,Zb c.oth, .int .i64 c.v.k, .int .i64 c.v.n,Zb c.v.s,lv1] Xp rfl rfl rfl rfl rfl <| nu rfl rfl,fun _ hSw=>Za hSw (Xw.drop 1 (Xw.drop 0 (hc1.mono (((hle2.trans hle3).trans hle4).trans hle5)))) Zc2 rfl rfl rfl <| nu rfl rfl,fun _ hSw=>Z4 hSw Znh rfl rfl rfl (Ziu hSw.imm _ c t.s.cols _ ((Y1 _).mono ((((hle1.trans hle2).trans hle3).trans hle4).trans hle5) hcc) _ (hs1.mono ((((hle1.trans hle2).trans hle3).trans hle4).trans hle5))) rfl,fun _ hSw=>Zc hSw (hc1.mono (((hle2.trans hle3).trans hle4).trans hle5)) [Zb t.s.name,v1, .int .i64 t.s.key,v2,v3, .int .i64 t.last] Zm rfl rfl rfl rfl rfl <| nu rfl rfl,fun _ hSw=>Z4 hSw Zq2 rfl rfl rfl (ZgM hSw.imm t tx _ (Zi t hb1 (hs1.mono ((((hle1.trans hle2).trans hle3).trans hle4).trans hle5)) hb2 (hs2.mono ((((hle1.trans hle2).trans hle3).trans hle4).trans hle5)) (hs3.mono ((((hle1.trans hle2).trans hle3).trans hle4).trans hle5)) hb3)) rfl,trivial⟩ (fun w7 hS7=>?_)
   refine WL.buildSlice _ [(0,[.int .i64 (ZW d c t.s.cols)]),(1,[.int .i64 (YG t tx)])] [.int .i64 (ZW d c t.s.cols), .int .i64 (YG t tx)] hS7 Zsa rfl rfl rfl rfl (fun z hz=>by match z,hz with | [z0,z1],_=>rfl) (fun b2 w9 hn2 hS8=>?_)
   obtain ⟨G6,hle6,hs4,hS9⟩:=St.sealSl (E:=Enc.int) (by_:=8) (l:=([(ZW d c t.s.cols),(YG t tx)] : List Int)) hS8 hn2 ⟨[.int .i64 (ZW d c t.s.cols)],_,rfl,⟨rfl,‹_›⟩,⟨[.int .i64 (YG t tx)],_,rfl,⟨rfl,(ZkZ t tx)⟩,rfl⟩⟩ rfl (by simp [reach]) (by simp [reach])
   refine Zn hS9 Zux rfl rfl rfl (Zsy hS9.imm [(ZW d c t.s.cols),(YG t tx)] _ hs4) (fun w10 G7 hS10 hle7=>?_)
   refine Yf (XM [(ZW d c t.s.cols),(YG t tx)]) 0 rfl rfl rfl (fun h3=>?_) (fun h3=>?_)
   ·refine WL.build _ [] [Zb [], .slice none 0 0, .int .i64 0, .slice none 0 0, .slice none 0 0, .int .i64 0] Zm rfl XU rfl rfl rfl rfl ?_
    refine WL.store hS10 0 _ _ _ 0 _ [Zb [], .slice none 0 0, .int .i64 0, .slice none 0 0, .slice none 0 0, .int .i64 0] [Zb [], .slice none 0 0, .int .i64 0, .slice none 0 0, .slice none 0 0, .int .i64 0] _ rfl rfl Zm rfl (Nat.le_of_ble_eq_true rfl) rfl rfl rfl rfl rfl rfl (fun w11 hS11=>?_)
    exact Xe [.agg #[Zb [], .slice none 0 0, .int .i64 0, .slice none 0 0, .slice none 0 0, .int .i64 0], .int .i64 (XM [(ZW d c t.s.cols),(YG t tx)])] hS11 ⟨_,_,_,rfl,rfl,hS11.loadA 0 _ _ _ 0 [Zb [], .slice none 0 0, .int .i64 0, .slice none 0 0, .slice none 0 0, .int .i64 0] rfl rfl rfl Zm rfl,⟨_,rfl,rfl⟩⟩ ⟨_,_,rfl,(Is.cast ⟨_,rfl,(Zi (Table.mk (Schema.mk [] [] 0 []) [] 0) (by simp [reach]) (Sl.nil ColE 24 G7) ZM (Sl.nil ForeignE 40 G7) (Sl.nil HRowE 56 G7) ZM)⟩ (by with_reducible exact (Zsv hok ‹_›).1)),(congrArg (Value.int .i64) (by with_reducible exact (Zsv hok ‹_›).2))⟩
   refine Zc hS10 (hc1.mono (((((hle2.trans hle3).trans hle4).trans hle5).trans hle6).trans hle7)) [Zb t.s.name,v1, .int .i64 t.s.key,v2,v3, .int .i64 t.last] Zm rfl rfl rfl rfl rfl <| Zc hS10 (hc2.mono ((((hle3.trans hle4).trans hle5).trans hle6).trans hle7)) [.int .i64 c.kind,Zb c.col,Zb c.oth, .int .i64 c.v.k, .int .i64 c.v.n,Zb c.v.s,lv1] Xp rfl rfl rfl rfl rfl <| Zc hS10 (hc3.mono (((hle4.trans hle5).trans hle6).trans hle7)) [.int .i64 p.a, .int .i64 p.b] Zu rfl rfl rfl rfl rfl ?_
   refine Z6 hS10 Zsi rfl rfl rfl (Zlw hS10.imm _ t tx c p (fun x8=>(none : Option (List Val))) _ (Zi t hb1 (hs1.mono ((((((hle1.trans hle2).trans hle3).trans hle4).trans hle5).trans hle6).trans hle7)) hb2 (hs2.mono ((((((hle1.trans hle2).trans hle3).trans hle4).trans hle5).trans hle6).trans hle7)) (hs3.mono ((((((hle1.trans hle2).trans hle3).trans hle4).trans hle5).trans hle6).trans hle7)) hb3) _ ((Y1 _).mono ((((((hle1.trans hle2).trans hle3).trans hle4).trans hle5).trans hle6).trans hle7) hcc) _ (Zs p hb10 YD) 162 #[] ⟨ZvP,fun G8 w8 v8 x8 hle8 hG8 hon8 hA8=>by exact ZnM hG8 x8 v8 hA8⟩ htx64 (Zvc hok ‹_›)) ?_
   rintro w12 G9 _ ⟨r2,_,rfl,hs5,rfl⟩ hS12 hle9
   obtain ⟨cs1,rfl,hr1⟩:=hs5
   obtain ⟨v4,v5,v6,rfl,YW,hs6,Xj,hs7,hs8,X7⟩:=Zy hr1
   refine WL.store hS12 0 _ _ _ 0 _ [Zb ((Z1 t tx (Z9 (Yt d c (X1 t)) (fun x8=>(none : Option (List Val))) tx p t.rows)).s.name),v4, .int .i64 ((Z1 t tx (Z9 (Yt d c (X1 t)) (fun x8=>(none : Option (List Val))) tx p t.rows)).s.key),v5,v6, .int .i64 ((Z1 t tx (Z9 (Yt d c (X1 t)) (fun x8=>(none : Option (List Val))) tx p t.rows)).last)] [Zb ((Z1 t tx (Z9 (Yt d c (X1 t)) (fun x8=>(none : Option (List Val))) tx p t.rows)).s.name),v4, .int .i64 ((Z1 t tx (Z9 (Yt d c (X1 t)) (fun x8=>(none : Option (List Val))) tx p t.rows)).s.key),v5,v6, .int .i64 ((Z1 t tx (Z9 (Yt d c (X1 t)) (fun x8=>(none : Option (List Val))) tx p t.rows)).last)] _ rfl rfl Zm rfl (Nat.le_of_ble_eq_true rfl) (by simp only [List.all_cons,List.all_nil,hs6.oneC,hs7.oneC,hs8.oneC,Bool.true_and] <;> rfl) rfl rfl rfl rfl rfl (fun w13 hS13=>?_)
   exact Xe [.agg #[Zb ((Z1 t tx (Z9 (Yt d c (X1 t)) (fun x8=>(none : Option (List Val))) tx p t.rows)).s.name),v4, .int .i64 ((Z1 t tx (Z9 (Yt d c (X1 t)) (fun x8=>(none : Option (List Val))) tx p t.rows)).s.key),v5,v6, .int .i64 ((Z1 t tx (Z9 (Yt d c (X1 t)) (fun x8=>(none : Option (List Val))) tx p t.rows)).last)], .int .i64 (X0 (Z9 (Yt d c (X1 t)) (fun x8=>(none : Option (List Val))) tx p t.rows))] hS13 ⟨_,_,_,rfl,rfl,hS13.loadA 0 _ _ _ 0 [Zb ((Z1 t tx (Z9 (Yt d c (X1 t)) (fun x8=>(none : Option (List Val))) tx p t.rows)).s.name),v4, .int .i64 ((Z1 t tx (Z9 (Yt d c (X1 t)) (fun x8=>(none : Option (List Val))) tx p t.rows)).s.key),v5,v6, .int .i64 ((Z1 t tx (Z9 (Yt d c (X1 t)) (fun x8=>(none : Option (List Val))) tx p t.rows)).last)] rfl rfl rfl Zm rfl,⟨_,rfl,rfl⟩⟩ ⟨_,_,rfl,(Is.cast ⟨_,rfl,(Zi (Z1 t tx (Z9 (Yt d c (X1 t)) (fun x8=>(none : Option (List Val))) tx p t.rows)) YW hs6 Xj hs7 hs8 X7)⟩ (by with_reducible exact (Zsw hok ‹_›).1)),(congrArg (Value.int .i64) (by with_reducible exact (Zsw hok ‹_›).2))⟩
  refine WL.build _ [] [Zb [], .slice none 0 0, .int .i64 0, .slice none 0 0, .slice none 0 0, .int .i64 0] Zm rfl XU rfl rfl rfl rfl ?_
  refine WL.store hS6 0 _ _ _ 0 _ [Zb [], .slice none 0 0, .int .i64 0, .slice none 0 0, .slice none 0 0, .int .i64 0] [Zb [], .slice none 0 0, .int .i64 0, .slice none 0 0, .slice none 0 0, .int .i64 0] _ rfl rfl Zm rfl (Nat.le_of_ble_eq_true rfl) rfl rfl rfl rfl rfl rfl (fun w14 hS14=>?_)
  exact Xe [.agg #[Zb [], .slice none 0 0, .int .i64 0, .slice none 0 0, .slice none 0 0, .int .i64 0], .int .i64 1] hS14 ⟨_,_,_,rfl,rfl,hS14.loadA 0 _ _ _ 0 [Zb [], .slice none 0 0, .int .i64 0, .slice none 0 0, .slice none 0 0, .int .i64 0] rfl rfl rfl Zm rfl,⟨_,rfl,rfl⟩⟩ ⟨_,_,rfl,(Is.cast ⟨_,rfl,(Zi (Table.mk (Schema.mk [] [] 0 []) [] 0) (by simp [reach]) (Sl.nil ColE 24 G5) ZM (Sl.nil ForeignE 40 G5) (Sl.nil HRowE 56 G5) ZM)⟩ (by with_reducible exact (ZjJ (ZcQ ‹_›)).1)),(congrArg (Value.int .i64) (by with_reducible exact (ZjJ (ZcQ ‹_›)).2))⟩
 refine WL.build _ [] [Zb [], .slice none 0 0, .int .i64 0, .slice none 0 0, .slice none 0 0, .int .i64 0] Zm rfl XU rfl rfl rfl rfl ?_
 refine WL.store hS5 0 _ _ _ 0 _ [Zb [], .slice none 0 0, .int .i64 0, .slice none 0 0, .slice none 0 0, .int .i64 0] [Zb [], .slice none 0 0, .int .i64 0, .slice none 0 0, .slice none 0 0, .int .i64 0] _ rfl rfl Zm rfl (Nat.le_of_ble_eq_true rfl) rfl rfl rfl rfl rfl rfl (fun w15 hS15=>?_)
 exact Xe [.agg #[Zb [], .slice none 0 0, .int .i64 0, .slice none 0 0, .slice none 0 0, .int .i64 0], .int .i64 1] hS15 ⟨_,_,_,rfl,rfl,hS15.loadA 0 _ _ _ 0 [Zb [], .slice none 0 0, .int .i64 0, .slice none 0 0, .slice none 0 0, .int .i64 0] rfl rfl rfl Zm rfl,⟨_,rfl,rfl⟩⟩ ⟨_,_,rfl,(Is.cast ⟨_,rfl,(Zi (Table.mk (Schema.mk [] [] 0 []) [] 0) (by simp [reach]) (Sl.nil ColE 24 G4) ZM (Sl.nil ForeignE 40 G4) (Sl.nil HRowE 56 G4) ZM)⟩ (by with_reducible exact (ZjJ (ZcP ‹_›)).1)),(congrArg (Value.int .i64) (by with_reducible exact (ZjJ (ZcP ‹_›)).2))⟩
end Go.Civ
namespace Go.Civ
open Go.RowKit
set_option linter.unusedVariables false
def Za0 (K : Nat) (l : List HRow) (tx : Int) (v : List Val) (d : Span) (k : Nat) : List HRow:=⟨v,⟨d,⟨tx,253402300800⟩⟩⟩ :: (l.take k).flatMap (ZbL K v tx d)
section
variable {K k : Nat} {l : List HRow} {tx : Int} {v : List Val} {d : Span} {r : HRow}
theorem ZhX (h : l[k]? = some r) : Za0 K l tx v d (k + 1) = Za0 K l tx v d k ++ ZbL K v tx d r:=by
 unfold Za0
 rw [List.take_add_one,h]; simp
theorem Zch (h : l[k]? = some r) (hc : r.r.x.b ≠ 253402300800 ∨ decide (r.v.take K = v.take K) = false ∨ decide (ZX 3 [r.r.d] [d] = [r.r.d]) = true) : Za0 K l tx v d (k + 1) = Za0 K l tx v d k ++ [r]:=by
 rw [ZhX h]
 unfold ZbL
 rw [if_neg]
 rintro ⟨z1,z2,z3⟩
 rcases hc with hc | hc | hc
 ·exact hc z1
 ·unfold Ziv at z2; rw [z2] at hc; cases hc
 ·exact z3 (of_decide_eq_true hc)
theorem Zju (h : l[k]? = some r) (h1 : r.r.x.b = 253402300800) (h2 : decide (r.v.take K = v.take K) = true) (h3 : decide (ZX 3 [r.r.d] [d] = [r.r.d]) = false) :
  Za0 K l tx v d (k + 1) = (Za0 K l tx v d k ++ Xl r.v (ZX 3 [r.r.d] [d]) tx 253402300800) ++ [⟨r.v,⟨r.r.d,⟨r.r.x.a,tx⟩⟩⟩]:=by
 rw [ZhX h,List.append_assoc]
 unfold ZbL
 rw [if_pos ⟨h1,h2,of_decide_eq_false h3⟩]
theorem ZpJ (h : l.length ≤ k) : Za0 K l tx v d k = ZcS K l tx v d:=by unfold Za0 ZcS; rw [List.take_of_length_le h]
theorem ZpK (hg : ZK l) (hd : ZI d = true) : (Za0 K l tx v d k).length ≤ 3 * k + 1:=by
 unfold Za0
 rw [List.length_cons]
 have:=Zmr (k:=K) (v:=v) (tx:=tx) hg hd k
 omega
theorem ZrE {r : HRow} (hr : Y0 r = true) (hd : ZI d = true) : (ZX 3 [r.r.d] [d]).length ≤ 4:=by
 have h:=Zpf (kind:=3) (a:=[r.r.d]) (b:=[d])
 simpa using h
theorem ZrF {α : Type} {l : List α} {x : α} (h : l[k]? = some x) : l.set k x = l:=by
 obtain ⟨h1,h2⟩:=List.getElem?_eq_some_iff.1 h
 rw [← h2]; exact List.set_getElem_self h1
theorem ZrG {t : Table} (H : InsOk t tx v d) : t.s.key ≤ v.length:=by
 have h1:=Zbt H.row
 have h2:=Zp4 (Qe H.valid).1
 omega
theorem Zvn {t : Table} (H : InsOk t tx v d) : ∀ r ∈ ZcS K t.rows tx v d,r.v.length ≤ 1000:=fun r hr=>by
 have h:=ZfP H r hr
 exact Nat.le_trans (Zbt (XL h).1).1 (by decide)
end
end Go.Civ
namespace Go.Civ
open Go.RowKit
set_option linter.unusedVariables false
def Zl6 (x : HRow) : Bool:=decide (20 < (x.v.length : Int))
def Zdt (t : Table) : Bool:=decide ((t.rows.length : Int) ≤ 24) && decide ((t.s.cols.length : Int) ≤ 10) && decide ((t.s.fks.length : Int) ≤ 10) && !t.rows.any Zl6
def Zbm (t : Table) : Bool:=decide (t.s.name = []) && decide (t.rows.length = 0) && decide (t.last = 0)
def ZbN (a b : Table) : Bool:=decide (a.s.name = b.s.name) && decide (a.last = b.last) && decide (a.rows = b.rows)
theorem ZtH : Cmp.b .eql (((Zo (Z7 Q4) 5 (Zf [97]) ⟨0,10⟩).rows.length : Nat) : Int) 1 = true:=by rw [ZfQ.1]; rfl
theorem Zl7 : Zbm Qs = true:=rfl
theorem ZpL (t : Table) : ZbN t t = true:=by unfold ZbN; simp
end Go.Civ
set_option linter.unusedVariables false
set_option linter.unusedSimpArgs false
set_option maxRecDepth 100000
set_option maxHeartbeats 4000000
namespace Go.Civ
open Go.Proofs
theorem ZrJ {G : GH} {w : World} (hG : G.In w) (a b : List HRow) (va : Value) (hva : Sl HRowE 56 G va a) (vb : Value) (hvb : Sl HRowE 56 G vb b) : CL Tryz.prog (nat_lit 21) #[va,vb] [] w G fun _ _ r=>r = .bool (decide (a = b)):=by
 refine Zg ft [7] Tryz.func21 rfl rfl ?_
 have hS:=St.start (X:=[]) hG
 have bd1:=hva.bound
 refine Zj hva Yq rfl rfl ?_
 have bd2:=hvb.bound
 refine Zj hvb Yq rfl rfl ?_
 refine Yf (a.length : Int) (b.length : Int) rfl rfl rfl (fun h1=>?_) (fun h1=>?_)
 ·exact RB hS rfl (by rw [← XS]; first | exact (Qw (by omega)).symm | exact (QS (f:=fun (x y : HRow)=>decide (x = y)) ‹_› ‹_› (decide_eq_false (by rintro rfl; first | exact absurd rfl ‹_› | simp_all))).symm | exact (Q8 (by omega) ‹_› (by omega)).symm)
 refine LP.go ft [7] (fun m ρ1 w1=>∃ (k1 : Nat),∃ (G1 : GH),m = a.length - k1 ∧ G.le G1 ∧ St w [] G G1 [] w1 ∧ FR ρ1 [(0,va),(1,vb),(5, .int .i64 (k1 : Int))] ∧ k1 ≤ a.length ∧ ∀ j,j < k1 → ∀ x y,a[j]? = some x → b[j]? = some y → decide (x = y) = true) _ ⟨0,G,rfl,(G.le_refl),hS,⟨rfl,rfl,rfl,trivial⟩,(by omega),(by intro j hj; omega)⟩ ?_
 rintro m ρ1 w1 ⟨k1,G1,rfl,hle1,hS1,hF9,f1,f2⟩
 refine hF9.set ?_
 clear hF9
 have bd3:=hva.bound
 refine Zj (hva.mono hle1) Yq rfl rfl ?_
 refine Zq (k1 : Int) (a.length : Int) rfl rfl rfl (fun h2=>?_) (fun h2=>?_)
 ·refine JN.go ft [7] (fun ρ1 w1=>∃ (x9 : HRow),∃ (y9 : HRow),∃ (q6 : Addr),∃ (q7 : Addr),∃ (u6 : Value),∃ (u7 : Value),∃ (G2 : GH),G1.le G2 ∧ St w [] G G2 [] w1 ∧ FR ρ1 [(0,va),(1,vb),(5, .int .i64 (k1 : Int)),(6, .pointer (some q6)),(7, .pointer (some q7))] ∧ a[k1]? = some x9 ∧ b[k1]? = some y9 ∧ Xw G2 q6 [u6, .int .i64 x9.r.d.a, .int .i64 x9.r.d.b, .int .i64 x9.r.x.a, .int .i64 x9.r.x.b] ∧ Sl ValE 32 G2 u6 x9.v ∧ Xw G2 q7 [u7, .int .i64 y9.r.d.a, .int .i64 y9.r.d.b, .int .i64 y9.r.x.a, .int .i64 y9.r.x.b] ∧ Sl ValE 32 G2 u7 y9.v) ?_ ?_
  ·obtain ⟨p1,x1,hx1,he1,ep1⟩:=Sl.at (hva.mono hle1) k1 (by omega)
   obtain ⟨cs1,hc1,hr1⟩:=he1
   obtain ⟨v1,rfl,hs1,hb1,hb2,hb3,hb4⟩:=ZA hr1
   obtain ⟨p2,x2,hx2,he2,ep2⟩:=Sl.at (hvb.mono hle1) k1 (by omega)
   obtain ⟨cs2,hc2,hr2⟩:=he2
   obtain ⟨v2,rfl,hs2,hb5,hb6,hb7,hb8⟩:=ZA hr2
   refine drT [8,9,10,11] [(21, .pointer (some p1)),(22, .agg #[v1, .int .i64 x1.r.d.a, .int .i64 x1.r.d.b, .int .i64 x1.r.x.a, .int .i64 x1.r.x.b]),(25, .pointer (some p2)),(26, .agg #[v2, .int .i64 x2.r.d.a, .int .i64 x2.r.d.b, .int .i64 x2.r.x.a, .int .i64 x2.r.x.b])] hS1 ⟨fun _=>Zk k1 ep1 Yq Zt rfl rfl rfl rfl <| nu rfl rfl,fun _ hSw=>Zc hSw hc1 [v1, .int .i64 x1.r.d.a, .int .i64 x1.r.d.b, .int .i64 x1.r.x.a, .int .i64 x1.r.x.b] Zt rfl rfl rfl rfl rfl <| nu rfl rfl,fun _=>Zk k1 ep2 Yq Zt rfl rfl rfl rfl <| nu rfl rfl,fun _ hSw=>Zc hSw hc2 [v2, .int .i64 x2.r.d.a, .int .i64 x2.r.d.b, .int .i64 x2.r.x.a, .int .i64 x2.r.x.b] Zt rfl rfl rfl rfl rfl <| nu rfl rfl,trivial⟩ (fun w3 hS3=>?_)
   refine TG.fork 3 [8,9,10,11] [8,9] rfl rfl (by decide) (by decide) (TA.cons rfl ?_ (TA.cons rfl ?_ TA.nil))
   ·refine WL.alloc hS3 Zt rfl rfl (fun b1 w4 hn1 hS4=>?_)
    refine ⟨fun _=>hS4.tail.down hS3.le (G1.le_refl),?_⟩
    refine TG.fork 2 [9,10,11] [9] rfl rfl (by decide) (by decide) (TA.cons rfl ?_ TA.nil)
    refine WL.alloc hS4 Zt rfl rfl (fun b2 w5 hn2 hS5=>?_)
    refine ⟨fun _=>hS5.tail.tail.down hS3.le (G1.le_refl),?_⟩
    refine TG.fork 1 [10,11] [10] rfl rfl (by decide) (by decide) (TA.cons rfl ?_ TA.nil)
    refine WL.store hS5 1 _ _ _ 0 _ [v1, .int .i64 x1.r.d.a, .int .i64 x1.r.d.b, .int .i64 x1.r.x.a, .int .i64 x1.r.x.b] [v1, .int .i64 x1.r.d.a, .int .i64 x1.r.d.b, .int .i64 x1.r.x.a, .int .i64 x1.r.x.b] _ rfl rfl Zt rfl (Nat.le_of_ble_eq_true rfl) (by simp only [List.all_cons,List.all_nil,hs1.oneC,Bool.true_and] <;> rfl) rfl rfl rfl rfl rfl (fun w6 hS6=>?_)
    obtain ⟨G3,hle3,hc3,hS7⟩:=hS6.sealAt 1 rfl hn1
    refine ⟨fun _=>hS7.tail.tail.down hS3.le hle3,?_⟩
    refine TG.fork 0 [11] [11] rfl rfl (by decide) (by decide) (TA.cons rfl ?_ TA.nil)
    refine WL.store hS7 0 _ _ _ 0 _ [v2, .int .i64 x2.r.d.a, .int .i64 x2.r.d.b, .int .i64 x2.r.x.a, .int .i64 x2.r.x.b] [v2, .int .i64 x2.r.d.a, .int .i64 x2.r.d.b, .int .i64 x2.r.x.a, .int .i64 x2.r.x.b] _ rfl rfl Zt rfl (Nat.le_of_ble_eq_true rfl) (by simp only [List.all_cons,List.all_nil,(hs2.mono hle3).oneC,Bool.true_and] <;> rfl) rfl rfl rfl rfl rfl (fun w7 hS8=>?_)
    obtain ⟨G4,hle4,hc4,hS9⟩:=hS8.shutB hn2
    refine ⟨fun h=>absurd h (by decide),?_⟩
    refine TG.fin rfl ?_
    have hS10:=hS9.tail
    exact ⟨x1,x2,(⟨b1,0,none⟩ : Addr),(⟨b2,0,none⟩ : Addr),v1,v2,G4,(hle3.trans hle4),hS10,⟨rfl,rfl,rfl,rfl,rfl,trivial⟩,(hx1),(hx2),((hc3.mono hle4)),((hs1.mono (hle3.trans hle4))),(hc4),((hs2.mono (hle3.trans hle4)))⟩
   refine WL.alloc hS3 Zt rfl rfl (fun b3 w9 hn3 hS11=>?_)
   refine ⟨fun _=>hS11.tail.down hS3.le (G1.le_refl),?_⟩
   refine TG.fork 2 [8,10,11] [8] rfl rfl (by decide) (by decide) (TA.cons rfl ?_ TA.nil)
   refine WL.alloc hS11 Zt rfl rfl (fun b4 w10 hn4 hS12=>?_)
   refine ⟨fun _=>hS12.tail.tail.down hS3.le (G1.le_refl),?_⟩
   refine TG.fork 1 [10,11] [10] rfl rfl (by decide) (by decide) (TA.cons rfl ?_ TA.nil)
   refine WL.store hS12 0 _ _ _ 0 _ [v1, .int .i64 x1.r.d.a, .int .i64 x1.r.d.b, .int .i64 x1.r.x.a, .int .i64 x1.r.x.b] [v1, .int .i64 x1.r.d.a, .int .i64 x1.r.d.b, .int .i64 x1.r.x.a, .int .i64 x1.r.x.b] _ rfl rfl Zt rfl (Nat.le_of_ble_eq_true rfl) (by simp only [List.all_cons,List.all_nil,hs1.oneC,Bool.true_and] <;> rfl) rfl rfl rfl rfl rfl (fun w11 hS13=>?_)
   obtain ⟨G5,hle5,hc5,hS14⟩:=hS13.shutB hn4
   refine ⟨fun _=>hS14.tail.down hS3.le hle5,?_⟩
   refine TG.fork 0 [11] [11] rfl rfl (by decide) (by decide) (TA.cons rfl ?_ TA.nil)
   refine WL.store hS14 0 _ _ _ 0 _ [v2, .int .i64 x2.r.d.a, .int .i64 x2.r.d.b, .int .i64 x2.r.x.a, .int .i64 x2.r.x.b] [v2, .int .i64 x2.r.d.a, .int .i64 x2.r.d.b, .int .i64 x2.r.x.a, .int .i64 x2.r.x.b] _ rfl rfl Zt rfl (Nat.le_of_ble_eq_true rfl) (by simp only [List.all_cons,List.all_nil,(hs2.mono hle5).oneC,Bool.true_and] <;> rfl) rfl rfl rfl rfl rfl (fun w12 hS15=>?_)
   obtain ⟨G6,hle6,hc6,hS16⟩:=hS15.shutB hn3
   refine ⟨fun h=>absurd h (by decide),?_⟩
   refine TG.fin rfl ?_
   exact ⟨x1,x2,(⟨b4,0,none⟩ : Addr),(⟨b3,0,none⟩ : Addr),v1,v2,G6,(hle5.trans hle6),hS16,⟨rfl,rfl,rfl,rfl,rfl,trivial⟩,(hx1),(hx2),((hc5.mono hle6)),((hs1.mono (hle5.trans hle6))),(hc6),((hs2.mono (hle5.trans hle6)))⟩
  rintro ρ1 w2 ⟨x9,y9,q6,q7,u6,u7,G2,hle2,hS2,hF9,f3,f4,f5,f6,f7,f8⟩
  refine hF9.set ?_
  refine Za hS2 (Xw.drop 0 f5) ZH rfl rfl rfl <| Za hS2 (Xw.drop 0 f7) ZH rfl rfl rfl ?_
  refine Zn hS2 Zuy rfl rfl rfl (Zot hS2.imm x9.v y9.v _ f6 _ f8) (fun w13 G7 hS17 hle7=>?_)
  refine WL.split (fun (h3 : (decide (x9.v = y9.v)) = true)=>?_) (fun (h3 : (decide (x9.v = y9.v)) = false)=>?_)
  ·refine Za hS17 (Xw.drop 0 (Xw.drop 0 (Xw.drop 1 (f5.mono hle7)))) Zp rfl rfl rfl <| Za hS17 (Xw.drop 0 (Xw.drop 0 (Xw.drop 1 (f7.mono hle7)))) Zp rfl rfl rfl ?_
   refine Yf x9.r.d.a y9.r.d.a rfl rfl rfl (fun h4=>?_) (fun h4=>?_)
   ·exact RB hS17 rfl (by rw [← XS]; first | exact (Qw (by omega)).symm | exact (QS (f:=fun (x y : HRow)=>decide (x = y)) ‹_› ‹_› (decide_eq_false (by rintro rfl; first | exact absurd rfl ‹_› | simp_all))).symm | exact (Q8 (by omega) ‹_› (by omega)).symm)
   refine Za hS17 (Xw.drop 1 (Xw.drop 0 (Xw.drop 1 (f5.mono hle7)))) Zp rfl rfl rfl <| Za hS17 (Xw.drop 1 (Xw.drop 0 (Xw.drop 1 (f7.mono hle7)))) Zp rfl rfl rfl ?_
   refine Yf x9.r.d.b y9.r.d.b rfl rfl rfl (fun h5=>?_) (fun h5=>?_)
   ·exact RB hS17 rfl (by rw [← XS]; first | exact (Qw (by omega)).symm | exact (QS (f:=fun (x y : HRow)=>decide (x = y)) ‹_› ‹_› (decide_eq_false (by rintro rfl; first | exact absurd rfl ‹_› | simp_all))).symm | exact (Q8 (by omega) ‹_› (by omega)).symm)
   refine Za hS17 (Xw.drop 0 (Xw.drop 2 (Xw.drop 1 (f5.mono hle7)))) Zp rfl rfl rfl <| Za hS17 (Xw.drop 0 (Xw.drop 2 (Xw.drop 1 (f7.mono hle7)))) Zp rfl rfl rfl ?_
   refine Yf x9.r.x.a y9.r.x.a rfl rfl rfl (fun h6=>?_) (fun h6=>?_)
   ·exact RB hS17 rfl (by rw [← XS]; first | exact (Qw (by omega)).symm | exact (QS (f:=fun (x y : HRow)=>decide (x = y)) ‹_› ‹_› (decide_eq_false (by rintro rfl; first | exact absurd rfl ‹_› | simp_all))).symm | exact (Q8 (by omega) ‹_› (by omega)).symm)
   refine Za hS17 (Xw.drop 1 (Xw.drop 2 (Xw.drop 1 (f5.mono hle7)))) Zp rfl rfl rfl <| Za hS17 (Xw.drop 1 (Xw.drop 2 (Xw.drop 1 (f7.mono hle7)))) Zp rfl rfl rfl ?_
   refine Yf x9.r.x.b y9.r.x.b rfl rfl rfl (fun h7=>?_) (fun h7=>?_)
   ·exact RB hS17 rfl (by rw [← XS]; first | exact (Qw (by omega)).symm | exact (QS (f:=fun (x y : HRow)=>decide (x = y)) ‹_› ‹_› (decide_eq_false (by rintro rfl; first | exact absurd rfl ‹_› | simp_all))).symm | exact (Q8 (by omega) ‹_› (by omega)).symm)
   refine Zl k1 (by have hreach : reach = 140737488355328:=rfl; omega) rfl rfl rfl ?_
   exact BK.mk' _ ⟨k1 + 1,G7,rfl,(hle1.trans (hle2.trans hle7)),hS17,⟨rfl,rfl,rfl,trivial⟩,(by omega),(by exact Zae ‹_› ‹_› ‹_› (decide_eq_true (Zrm ‹_› ‹_› ‹_› ‹_› ‹_›)))⟩ (show a.length - (k1 + 1) < a.length - k1 by omega)
  exact RB hS17 rfl (by rw [← XS]; first | exact (Qw (by omega)).symm | exact (QS (f:=fun (x y : HRow)=>decide (x = y)) ‹_› ‹_› (decide_eq_false (by rintro rfl; first | exact absurd rfl ‹_› | simp_all))).symm | exact (Q8 (by omega) ‹_› (by omega)).symm)
 exact RB hS1 rfl (by rw [← XS]; first | exact (Qw (by omega)).symm | exact (QS (f:=fun (x y : HRow)=>decide (x = y)) ‹_› ‹_› (decide_eq_false (by rintro rfl; first | exact absurd rfl ‹_› | simp_all))).symm | exact (Q8 (by omega) ‹_› (by omega)).symm)
end Go.Civ
namespace Go.Civ
open Go.RowKit
set_option linter.unusedVariables false
theorem ZtJ {out : List Int} {x u : Int} {k : Nat} (h : out[k]? = some u) (h1 : x < u) : ∀ w,out[k]? = some w → x < w:=fun w hw=>by rw [h] at hw; obtain rfl:=Option.some.inj hw; exact h1
theorem ZrM {l : VV} {k K : Nat} {x y : List Val} (h : ∀ i,i < k → ∀ x y,l[i]? = some x → l[i + 1]? = some y → decide (x.take K = y.take K) = false) (hx : l[k]? = some x) (hy : l[k + 1]? = some y) (hxy : decide (x.take K = y.take K) = false) :
  ∀ i,i < k + 1 → ∀ x y,l[i]? = some x → l[i + 1]? = some y → decide (x.take K = y.take K) = false:=fun i hi a b ha hb=>by
 by_cases e : i = k
 ·subst e
  rw [hx] at ha; rw [hy] at hb
  obtain rfl:=Option.some.inj ha
  obtain rfl:=Option.some.inj hb
  exact hxy
 ·exact h i (by omega) a b ha hb
theorem Zmv {l : VV} {j K : Nat} {v w : List Val} (h1 : ∀ i,i < j → ∀ x y,l[i]? = some x → l[i + 1]? = some y → decide (x.take K = y.take K) = false) (h2 : l[j]? = some v) (h3 : l[j + 1]? = some w) (h4 : decide (v.take K = w.take K) = true) :
  v = (ZR K l).getD [] ∧ true = (ZR K l).isSome:=by rw [Zl2 h1 h2 h3 h4]; exact ⟨rfl,rfl⟩
theorem Zmw {l : VV} {j K : Nat} (h1 : ∀ i,i < j → ∀ x y,l[i]? = some x → l[i + 1]? = some y → decide (x.take K = y.take K) = false) (h2 : l.length ≤ j + 1) :
  [] = (ZR K l).getD [] ∧ false = (ZR K l).isSome:=by rw [Zl3 h1 h2]; exact ⟨rfl,rfl⟩
theorem ZnV {x : Int} (h1 : -62135596800 ≤ x) (h2 : x ≤ 253402300800) : Zw x ∧ x ≤ 253402300800:=⟨by constructor <;> omega,h2⟩
section
variable {l o : List HRow} {k : Nat} {x fr : Int}
theorem Zmx (hg : ZK l) {r : HRow} (hr : r ∈ l) : (Zw r.r.d.a ∧ r.r.d.a ≤ 253402300800) ∧ (Zw r.r.d.b ∧ r.r.d.b ≤ 253402300800) ∧ (Zw r.r.x.a ∧ r.r.x.a ≤ 253402300800) ∧ (Zw r.r.x.b ∧ r.r.x.b ≤ 253402300800):=by
 have h:=(Yx (hg r hr)).2
 unfold ZI at h
 simp at h
 exact ⟨ZnV (by omega) (by omega),ZnV (by omega) (by omega),ZnV (by omega) (by omega),ZnV (by omega) (by omega)⟩
theorem Zvo (hg : ZK l) (h : (ZY (l.map (fun (r : HRow)=>r.r.x.a)))[k]? = some x) : Zw x ∧ x ≤ 253402300800:=by
 obtain ⟨r,hr,rfl⟩:=List.mem_map.1 (ZeX.1 (List.mem_of_getElem? h))
 exact (Zmx hg hr).2.2.1
theorem Zvp (hg : ZK l) (h : (ZY (l.map (fun (r : HRow)=>r.r.d.a)))[k]? = some x) : Zw x ∧ x ≤ 253402300800:=by
 obtain ⟨r,hr,rfl⟩:=List.mem_map.1 (ZeX.1 (List.mem_of_getElem? h))
 exact (Zmx hg hr).1
end
section
variable {t : Table} {x y : Int} {k : Nat}
theorem ZpM (hv : Z2 t = true) (y x : Int) : ∀ v ∈ Yw t.rows y x,t.s.key ≤ v.length:=fun v h=>by
 rw [← ZdE (Y5 hv).1,Zce (Y5 hv).1] at h
 obtain ⟨r,hr,rfl,_⟩:=h
 exact Zgl hv r hr
theorem ZlP {K : Nat} {l : VV} {x y : Int} (h : (ZR K l).isSome = false) : ((ZR K l).map fun v=>Pt.mk x y v) = none:=by
 cases e : ZR K l with
 | none=>rfl
 | some v=>rw [e] at h; cases h
theorem ZpN {K : Nat} {l : List HRow} {ys : List Int} {j : Nat} (h : ∀ i,i < j → ∀ y,ys[i]? = some y → ((ZR K (Yw l y x)).map fun v=>Pt.mk x y v) = none) (hj : ys.length ≤ j) : Zeq K l ys x = none:=Zl4 h hj
theorem Zmy {i j : Nat} (h1 : ∀ i',i' < i → ∀ x,(ZY (t.rows.map (fun (r : HRow)=>r.r.x.a)))[i']? = some x → Zeq t.s.key.toNat t.rows (ZY (t.rows.map (fun (r : HRow)=>r.r.d.a))) x = none) (hx : (ZY (t.rows.map (fun (r : HRow)=>r.r.x.a)))[i]? = some x)
  (h2 : ∀ i',i' < j → ∀ y,(ZY (t.rows.map (fun (r : HRow)=>r.r.d.a)))[i']? = some y → ((ZR t.s.key.toNat (Yw t.rows y x)).map fun v=>Pt.mk x y v) = none) (hy : (ZY (t.rows.map (fun (r : HRow)=>r.r.d.a)))[j]? = some y)
  (h : (ZR t.s.key.toNat (Yw t.rows y x)).isSome = true) : ZN (some (Pt.mk x y ((ZR t.s.key.toNat (Yw t.rows y x)).getD []))) = ZN (ZJ t) ∧ true = (ZJ t).isSome:=by
 cases e : ZR t.s.key.toNat (Yw t.rows y x) with
 | none=>rw [e] at h; cases h
 | some v=>
  have hG : Zeq t.s.key.toNat t.rows (ZY (t.rows.map (fun (r : HRow)=>r.r.d.a))) x = some ⟨x,y,v⟩:=ZgS h2 hy (by rw [e]; rfl)
  have : ZJ t = some ⟨x,y,v⟩:=ZgS h1 hx hG
  rw [this]; exact ⟨rfl,rfl⟩
theorem Zmz {i : Nat} (h1 : ∀ i',i' < i → ∀ x,(ZY (t.rows.map (fun (r : HRow)=>r.r.x.a)))[i']? = some x → Zeq t.s.key.toNat t.rows (ZY (t.rows.map (fun (r : HRow)=>r.r.d.a))) x = none) (hi : (ZY (t.rows.map (fun (r : HRow)=>r.r.x.a))).length ≤ i) :
  HRow.mk [] (Rect.mk (Span.mk 0 0) (Span.mk 0 0)) = ZN (ZJ t) ∧ false = (ZJ t).isSome:=by
 have : ZJ t = none:=Zl4 h1 hi
 rw [this]; exact ⟨rfl,rfl⟩
end
end Go.Civ
namespace Go.Civ
open Go.RowKit
set_option linter.unusedVariables false
def YJ (d : Nat) (t : Table) (k tx : Int) (v : List Val) (c : Cond) (mask : List Bool) (p : Span) : Table:=if k = 1 then ZF t tx v p else if k = 2 then YH d t tx c v mask p else Q7 d t tx c p
def plE (d : Nat) (t : Table) (k tx : Int) (v : List Val) (c : Cond) (mask : List Bool) (p : Span) : Int:=if k = 1 then Y2 t tx v p else if k = 2 then Xv d t tx c v mask p else ZdS d t tx c p
section
variable {d : Nat} {t : Table} {k tx : Int} {v : List Val} {c : Cond} {mask : List Bool} {p : Span}
theorem ZbP (h : k = 1) : ZF t tx v p = YJ d t k tx v c mask p ∧ Y2 t tx v p = plE d t k tx v c mask p:=by unfold YJ plE; rw [if_pos h,if_pos h]; exact ⟨rfl,rfl⟩
theorem ZbQ (h : ¬ k = 1) (h2 : k = 2) : YH d t tx c v mask p = YJ d t k tx v c mask p ∧ Xv d t tx c v mask p = plE d t k tx v c mask p:=by unfold YJ plE; rw [if_neg h,if_neg h,if_pos h2,if_pos h2]; exact ⟨rfl,rfl⟩
theorem Zc7 (h : ¬ k = 1) (h2 : ¬ k = 2) : Q7 d t tx c p = YJ d t k tx v c mask p ∧ ZdS d t tx c p = plE d t k tx v c mask p:=by unfold YJ plE; rw [if_neg h,if_neg h,if_neg h2,if_neg h2]; exact ⟨rfl,rfl⟩
end
end Go.Civ
namespace Go.Civ
open Go.RowKit
set_option linter.unusedVariables false
theorem tf {b : Bool} {P : Prop} (h : b = true) (k : b = false) : P:=Bool.noConfusion (h.symm.trans k)
section
variable {t o : Table} {f : Foreign} {tx : Int} {v : List Val} {d : Span}
theorem ZpR (h : Z2 t = true) (h2 : (ZJ t).isSome = true) : Y6 t = false:=by rw [(Zmq h).1,h2]; rfl
theorem ZcM (h : Z2 t = true) (h2 : (ZJ t).isSome = false) : Y6 t = true:=by rw [(Zmq h).1,h2]; rfl
end
end Go.Civ
namespace Go.Civ
open Go.RowKit
set_option linter.unusedVariables false
def ZfS (t g w : Table) (e f : Int) : Prop:=g = (if Y6 t then Xn w f else Qs) ∧ e = (if Y6 t then Zba w f else 1) ∧ (f = 0 → Z2 w = true)
section
variable {d : Nat} {t g w : Table} {k tx e f : Int} {v : List Val} {c : Cond} {mask : List Bool} {p : Span}
theorem Zvr (t : Table) (d : Nat) (tx : Int) (v : List Val) (c : Cond) (mask : List Bool) (p : Span) : ZfS t (Zo t tx v p) (YJ d t 1 tx v c mask p) (Qb t tx v p) (plE d t 1 tx v c mask p):=by
 rw [← (ZbP (d:=d) (t:=t) (tx:=tx) (v:=v) (c:=c) (mask:=mask) (p:=p) (k:=1) rfl).1,← (ZbP (d:=d) (t:=t) (tx:=tx) (v:=v) (c:=c) (mask:=mask) (p:=p) (k:=1) rfl).2]
 exact ⟨rfl,rfl,Zjs⟩
theorem Zvs (t : Table) (d : Nat) (tx : Int) (v : List Val) (c : Cond) (mask : List Bool) (p : Span) : ZfS t (Yh d t tx c v mask p) (YJ d t 2 tx v c mask p) (ZbM d t tx c v mask p) (plE d t 2 tx v c mask p):=by
 rw [← (ZbQ (d:=d) (t:=t) (tx:=tx) (v:=v) (c:=c) (mask:=mask) (p:=p) (k:=2) (by decide) rfl).1,← (ZbQ (d:=d) (t:=t) (tx:=tx) (v:=v) (c:=c) (mask:=mask) (p:=p) (k:=2) (by decide) rfl).2]
 exact ⟨rfl,rfl,Zjt⟩
theorem Zs6 (H : ZfS t g w e f) (h : Y6 t = false) : e = 1 ∧ Zbm g = true:=by
 obtain ⟨h1,h2, -⟩:=H
 rw [h] at h1 h2
 exact ⟨h2,by rw [h1]; exact Zl7⟩
theorem Y7 (H : ZfS t g w e f) (h : Z2 t = false) : e = 1 ∧ Zbm g = true:=Zs6 H (ZrC h).1
theorem Y8 (H : ZfS t g w e f) (h : Z2 t = true) (h2 : (ZJ t).isSome = true) : e = 1 ∧ Zbm g = true:=Zs6 H (ZpR h h2)
theorem Y9 (H : ZfS t g w e f) (h : Z2 t = true) (h2 : (ZJ t).isSome = false) (h3 : f ≠ 0) : e = f ∧ Zbm g = true:=by
 obtain ⟨h4,h5, -⟩:=H
 rw [ZcM h h2,if_pos rfl] at h4 h5
 rw [h4,h5,← (ZjL (t:=w) h3).1,← (ZjL (t:=w) h3).2]
 exact ⟨rfl,Zl7⟩
theorem YA (H : ZfS t g w e f) (h : Z2 t = true) (h2 : (ZJ t).isSome = false) (h3 : f = 0) (h4 : (ZJ w).isSome = true) : e = 14 ∧ Zbm g = true:=by
 obtain ⟨h5,h6,h7⟩:=H
 rw [ZgR (h7 h3)] at h4
 rw [ZcM h h2,if_pos rfl] at h5 h6
 rw [h5,h6,← (ZjM h3 h4).1,← (ZjM h3 h4).2]
 exact ⟨rfl,Zl7⟩
theorem ZO (H : ZfS t g w e f) (h : Z2 t = true) (h2 : (ZJ t).isSome = false) (h3 : f = 0) (h4 : (ZJ w).isSome = false) : e = 0 ∧ ZbN g w = true ∧ Y6 g = true:=by
 obtain ⟨h5,h6,h7⟩:=H
 have h9:=ZcM (h7 h3) h4
 rw [ZgR (h7 h3)] at h4
 rw [ZcM h h2,if_pos rfl] at h5 h6
 rw [h5,h6,← (ZjN h3 h4).1,← (ZjN h3 h4).2]
 exact ⟨rfl,ZpL _,h9⟩
end
end Go.Civ
