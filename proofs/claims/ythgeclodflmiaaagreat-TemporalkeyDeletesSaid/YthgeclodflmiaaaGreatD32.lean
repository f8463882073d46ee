/- Lemmas. -/
import Derived.Test.YthgeclodflmiaaaGreatD21
import Derived.Test.YthgeclodflmiaaaGreatD22
import Derived.Test.YthgeclodflmiaaaGreatD26
import Derived.Test.YthgeclodflmiaaaGreatD30
import Derived.Test.YthgeclodflmiaaaGreatD31
import Derived.Test.YthgeclodflmiaaaGreatProg
import Derived.KernelRfl
import Derived.WalkKit
set_option linter.unusedVariables false
set_option linter.unusedSimpArgs false
set_option maxRecDepth 100000
set_option maxHeartbeats 4000000
namespace Go.Civ
open Go.Proofs
theorem Zk4 {G : GH} {w : World} (hG : G.In w) (d : Nat) (t : Table) (tx : Int) (c : Cond) (p : Span) (ct : List Value) (hct : TableE.rep G t ct) (cc : List Value) (hcc : (YQ d).rep G c cc) (cp : List Value) (hcp : SpanE.rep G p cp) (htx64 : Z0 tx) : CL Tryz.prog (nat_lit 108) #[.agg ct.toArray,S tx, .agg cc.toArray, .agg cp.toArray] [] w G fun G' _ r=>∃ r0 r1,r = .tuple #[r0,r1] ∧ Is TableE G' r0 (ZM d t tx c p) ∧ r1 = S (Zar d t tx c p):=by
 refine Y2 ft [] Tryz.func108 U U ?_
 have hS:=St.start (X:=[]) hG
 obtain ⟨v1,v2,v3,rfl,B1,A1,B2,A2,A3,B3⟩:=Zy hct
 obtain ⟨lv1,rfl,B4,B5,B6,B7,B8,B9,O1⟩:=Xo hcc
 obtain ⟨rfl,B10,Y6⟩:=ZI hcp
 refine Zw [Za t.s.name,v1,S t.s.key,v2,v3,S t.last] _ hS U U U (fun p1 w1 G1 L1 M1 C1 S1=>?_)
 refine Zw [S c.kind,Za c.col,Za c.oth,S c.v.k,S c.v.n,Za c.v.s,lv1] _ S1 U U U (fun p2 w2 G2 L2 M2 C2 S2=>?_)
 refine Zw [S p.a,S p.b] _ S2 U U U (fun p3 w3 G3 L3 M3 C3 S3=>?_)
 refine WL.alloc S3 Zm U U (fun b1 w4 N1 S4=>?_)
 have j1:=(L2.trans L3)
 refine Zb S4 (C1.mono j1) [Za t.s.name,v1,S t.s.key,v2,v3,S t.last] Zm U U U U U ?_
 have j2:=((L1.trans L2).trans L3)
 refine Zr S4 XF U U U (Zbv S4.imm t _ (Zo t B1 (A1.mono j2) B2 (A2.mono j2) (A3.mono j2) B3)) (fun w5 G4 S5 L4=>?_)
 refine WL.split (fun (h1 : (Zu t) = true)=>?_) (fun (h1 : (Zu t) = false)=>?_)
 ·refine Zb S5 (C3.mono L4) [S p.a,S p.b] Z2 U U U U U ?_
  refine Zr S5 ZoM U U U (ZgK S5.imm p _ (Z1 p B10 Y6)) (fun w6 G5 S6 L5=>?_)
  refine WL.split (fun (h2 : (ZN p) = true)=>?_) (fun (h2 : (ZN p) = false)=>?_)
  ·have hok : Qh t p = true:=ZgV ‹_› ‹_›
   have hck : Z0 (YE d c t.s.cols):=Zpp
   have j3:=((L3.trans L4).trans L5)
   have j4:=((j1.trans L4).trans L5)
   have j5:=((j2.trans L4).trans L5)
   refine dr [(8,false),(9,false),(10,false)] [(20, .agg #[S c.kind,Za c.col,Za c.oth,S c.v.k,S c.v.n,Za c.v.s,lv1]),(23,v1),(24,S (YE d c t.s.cols)),(25, .agg #[Za t.s.name,v1,S t.s.key,v2,v3,S t.last]),(27,S (Xk t tx))] S6 ⟨fun _ hSw=>Zb hSw (C2.mono j3) [S c.kind,Za c.col,Za c.oth,S c.v.k,S c.v.n,Za c.v.s,lv1] XI U U U U U <| nu U U,fun _ hSw=>Z hSw (XC.drop 1 (XC.drop 0 (C1.mono j4))) ZaY U U U <| nu U U,fun _ hSw=>Z3 hSw ZuA U U U (ZnW hSw.imm _ c t.s.cols _ ((YQ _).mono j5 hcc) _ (A1.mono j5)) U,fun _ hSw=>Zb hSw (C1.mono j4) [Za t.s.name,v1,S t.s.key,v2,v3,S t.last] Zm U U U U U <| nu U U,fun _ hSw=>Z3 hSw Zxf U U U (ZmL hSw.imm t tx _ (Zo t B1 (A1.mono j5) B2 (A2.mono j5) (A3.mono j5) B3)) U,trivial⟩ (fun w7 S7=>?_)
   refine WL.buildSlice _ [(0,[S (YE d c t.s.cols)]),(1,[S (Xk t tx)])] [S (YE d c t.s.cols),S (Xk t tx)] S7 Zuy U U U U (fun z hz=>by match z,hz with | [z0,z1],_=>rfl) (fun b2 w9 N2 S8=>?_)
   obtain ⟨G6,L6,A4,S9⟩:=St.sealSl (E:=Enc.int) (by_:=8) (l:=([(YE d c t.s.cols),(Xk t tx)] : List Int)) S8 N2 ⟨[S (YE d c t.s.cols)],_,U,⟨U,‹_›⟩,⟨[S (Xk t tx)],_,U,⟨U,(Zm1 t tx)⟩,U⟩⟩ U (by simp [reach]) (by simp [reach])
   refine Zr S9 Zxe U U U (ZuP S9.imm [(YE d c t.s.cols),(Xk t tx)] _ A4) (fun w10 G7 S10 L7=>?_)
   refine Yr (Qf [(YE d c t.s.cols),(Xk t tx)]) 0 U U U (fun h3=>?_) (fun h3=>?_)
   ·refine WL.build _ [] [Za [],Ze,S 0,Ze,Ze,S 0] Zm U QF U U U U ?_
    refine Zi S10 0 [Za [],Ze,S 0,Ze,Ze,S 0] U U Zm U U U U U U (fun w11 S11=>?_)
    exact Xr [.agg #[Za [],Ze,S 0,Ze,Ze,S 0],S (Qf [(YE d c t.s.cols),(Xk t tx)])] S11 ⟨_,_,_,U,U,S11.loadA 0 _ _ _ 0 [Za [],Ze,S 0,Ze,Ze,S 0] U U U Zm U,⟨_,U,U⟩⟩ ⟨_,_,U,(Is.cast ⟨_,U,(Zo (Table.mk (Schema.mk [] [] 0 []) [] 0) (by simp [reach]) (Sl.nil ColE 24 G7) ZP (Sl.nil ForeignE 40 G7) (Sl.nil HRowE 56 G7) ZP)⟩ (by with_reducible exact (Zpq hok ‹_›).1)),(congrArg (Value.int .i64) (by with_reducible exact (Zpq hok ‹_›).2))⟩
   refine Zb S10 (C1.mono ((j4.trans L6).trans L7)) [Za t.s.name,v1,S t.s.key,v2,v3,S t.last] Zm U U U U U <| Zb S10 (C2.mono ((j3.trans L6).trans L7)) [S c.kind,Za c.col,Za c.oth,S c.v.k,S c.v.n,Za c.v.s,lv1] XI U U U U U <| Zb S10 (C3.mono (((L4.trans L5).trans L6).trans L7)) [S p.a,S p.b] Z2 U U U U U ?_
   have j6:=((j5.trans L6).trans L7)
   refine Z9 S10 ZyS U U U (ZtI S10.imm _ t tx c p (fun x8=>(none : Option (List Val))) _ (Zo t B1 (A1.mono j6) B2 (A2.mono j6) (A3.mono j6) B3) _ ((YQ _).mono j6 hcc) _ (Z1 p B10 Y6) 162 #[] ⟨ZyT,fun G8 w8 v8 x8 L8 hG8 hon8 hA8=>by exact Zp3 hG8 x8 v8 hA8⟩ htx64 (ZqS hok ‹_›)) ?_
   rintro w12 G9 _ ⟨r2,_,rfl,A5,rfl⟩ S12 L9
   obtain ⟨D1,rfl,R1⟩:=A5
   obtain ⟨v4,v5,v6,rfl,YU,A6,Xa,A7,A8,Xz⟩:=Zy R1
   refine Zi S12 0 [Za ((ZQ t tx (Ys (X6 d c (nms t)) (fun x8=>(none : Option (List Val))) tx p t.rows)).s.name),v4,S ((ZQ t tx (Ys (X6 d c (nms t)) (fun x8=>(none : Option (List Val))) tx p t.rows)).s.key),v5,v6,S ((ZQ t tx (Ys (X6 d c (nms t)) (fun x8=>(none : Option (List Val))) tx p t.rows)).last)] U U Zm U U (by simp only [ZA,A6.oneC,A7.oneC,A8.oneC] <;> rfl) U U U (fun w13 S13=>?_)
   exact Xr [.agg #[Za ((ZQ t tx (Ys (X6 d c (nms t)) (fun x8=>(none : Option (List Val))) tx p t.rows)).s.name),v4,S ((ZQ t tx (Ys (X6 d c (nms t)) (fun x8=>(none : Option (List Val))) tx p t.rows)).s.key),v5,v6,S ((ZQ t tx (Ys (X6 d c (nms t)) (fun x8=>(none : Option (List Val))) tx p t.rows)).last)],S (XT (Ys (X6 d c (nms t)) (fun x8=>(none : Option (List Val))) tx p t.rows))] S13 ⟨_,_,_,U,U,S13.loadA 0 _ _ _ 0 [Za ((ZQ t tx (Ys (X6 d c (nms t)) (fun x8=>(none : Option (List Val))) tx p t.rows)).s.name),v4,S ((ZQ t tx (Ys (X6 d c (nms t)) (fun x8=>(none : Option (List Val))) tx p t.rows)).s.key),v5,v6,S ((ZQ t tx (Ys (X6 d c (nms t)) (fun x8=>(none : Option (List Val))) tx p t.rows)).last)] U U U Zm U,⟨_,U,U⟩⟩ ⟨_,_,U,(Is.cast ⟨_,U,(Zo (ZQ t tx (Ys (X6 d c (nms t)) (fun x8=>(none : Option (List Val))) tx p t.rows)) YU A6 Xa A7 A8 Xz)⟩ (by with_reducible exact (Zpr hok ‹_›).1)),(congrArg (Value.int .i64) (by with_reducible exact (Zpr hok ‹_›).2))⟩
  refine WL.build _ [] [Za [],Ze,S 0,Ze,Ze,S 0] Zm U QF U U U U ?_
  refine Zi S6 0 [Za [],Ze,S 0,Ze,Ze,S 0] U U Zm U U U U U U (fun w14 S14=>?_)
  exact Xr [.agg #[Za [],Ze,S 0,Ze,Ze,S 0],S 1] S14 ⟨_,_,_,U,U,S14.loadA 0 _ _ _ 0 [Za [],Ze,S 0,Ze,Ze,S 0] U U U Zm U,⟨_,U,U⟩⟩ ⟨_,_,U,(Is.cast ⟨_,U,(Zo (Table.mk (Schema.mk [] [] 0 []) [] 0) (by simp [reach]) (Sl.nil ColE 24 G5) ZP (Sl.nil ForeignE 40 G5) (Sl.nil HRowE 56 G5) ZP)⟩ (by with_reducible exact (ZiL (ZgU ‹_›)).1)),(congrArg (Value.int .i64) (by with_reducible exact (ZiL (ZgU ‹_›)).2))⟩
 refine WL.build _ [] [Za [],Ze,S 0,Ze,Ze,S 0] Zm U QF U U U U ?_
 refine Zi S5 0 [Za [],Ze,S 0,Ze,Ze,S 0] U U Zm U U U U U U (fun w15 S15=>?_)
 exact Xr [.agg #[Za [],Ze,S 0,Ze,Ze,S 0],S 1] S15 ⟨_,_,_,U,U,S15.loadA 0 _ _ _ 0 [Za [],Ze,S 0,Ze,Ze,S 0] U U U Zm U,⟨_,U,U⟩⟩ ⟨_,_,U,(Is.cast ⟨_,U,(Zo (Table.mk (Schema.mk [] [] 0 []) [] 0) (by simp [reach]) (Sl.nil ColE 24 G4) ZP (Sl.nil ForeignE 40 G4) (Sl.nil HRowE 56 G4) ZP)⟩ (by with_reducible exact (ZiL (ZgT ‹_›)).1)),(congrArg (Value.int .i64) (by with_reducible exact (ZiL (ZgT ‹_›)).2))⟩
end Go.Civ
namespace Go.Civ
open Go.RowKit
set_option linter.unusedVariables false
theorem Zrq {s : Schema} (h : YB s = true) : 1 ≤ s.key ∧ s.key ≤ s.cols.length ∧ s.cols.length ≤ 8 ∧ Zbg (s.cols.map Col.name) = true:=by
 unfold YB Qx at h
 simp only [Bool.and_eq_true,decide_eq_true_eq] at h
 obtain ⟨⟨⟨⟨⟨⟨_,h2⟩,h3⟩,h4⟩,h5⟩,h6⟩,h7⟩:=h.1
 exact ⟨h4,h5,h3,h7⟩
section
variable {cols : List Col} {v u : List Val}
end
section
variable {s : Schema} {v u : List Val} {k : Nat}
end
theorem Zrr {hl : List Val → Bool} {nx : List Val → Option (List Val)} {tx : Int} {d : Span} {t : Table} (hc : ChgOk t tx d nx) (hn : ∀ r ∈ t.rows,∀ v,nx r.v = some v → X3 t.s v = 0) : ∀ q ∈ Ys hl nx tx d t.rows,Xc t.s tx q = true:=fun q hq=>by
 have hp:=Xb hc.valid
 have hg:=(Zbs (hl:=hl) hc).1 q hq
 obtain ⟨r,hr,h⟩:=List.mem_flatMap.1 hq
 have hro:=hp.2.2.2.2.1 r hr
 obtain ⟨p1,p2,p3,p4⟩:=Q5 hro
 have hla:=hc.late
 rcases Zks h with h | ⟨h1,h2⟩ | ⟨h1,h2⟩
 ·rw [h]; exact ZhO hro hla
 ·exact Zbu (by rw [h1]; exact p1) hg (by rw [h2]; simp only; omega) (by rw [h2]; simp only; omega)
 ·refine Zbu ?_ hg (by rw [h2]; exact Int.le_refl _) (by rw [h2]; exact .inr rfl)
  rcases h1 with h1 | h1
  ·rw [h1]; exact p1
  ·exact hn r hr _ h1
section
variable {k : Nat} {l : List HRow} {tx : Int} {v u : List Val} {d : Span} {r q : HRow} {a y : Int} {t : Table}
theorem Zrs (hr : YA r = true) (hd : ZN d = true) (h : q ∈ Zc8 k v tx d r) : q ∈ ZaN (Zj6 k v) (fun _=>none) tx d r:=by
 have hp:=YG (Yk hr).2.1
 have hq:=YG hd
 have ds:=Zk5 hp hq
 by_cases hc : (Zc0 d r && Zj6 k v r.v) = true
 ·have hc' : Zc0 d r = true ∧ Zj6 k v r.v = true:=by simpa using hc
  obtain ⟨t1,t2,t3⟩:=Zkr.1 hc'.1
  unfold Zc8 at h
  unfold ZaN
  rw [if_pos ⟨t1,hc'.2,fun e=>ds.1 e ⟨t2,t3⟩⟩] at h
  rw [if_pos hc]
  rcases List.mem_append.1 h with h | h
  ·simp [h]
  ·simp only [List.mem_append]; exact .inl (.inl h)
 ·unfold Zc8 at h
  unfold ZaN
  rw [if_neg hc]
  rw [if_neg] at h
  ·exact h
  ·rintro ⟨z1,z2,z3⟩
   refine z3 (ds.2 fun z=>hc ?_)
   rw [z2,Zkr.2 ⟨z1,z.1,z.2⟩]; rfl
theorem Zwm {rows : List HRow} : ZxJ (fun _=>none) rows:=fun r hr v hv=>by cases hv
theorem Zwn (H : InsOk t tx v d) : ChgOk t tx d (fun _=>none):=⟨H.valid,H.span,H.inst,H.late,Zwm⟩
theorem Zwo (H : InsOk t tx v d) : Xc t.s tx ⟨v,⟨d,⟨tx,253402300800⟩⟩⟩ = true:=by
 have hb:=Qm H.inst
 refine Zbu H.row ?_ (Int.le_refl _) (.inr rfl)
 have:=H.span
 unfold YA
 simp only [(Zca H.row).2.1,H.span,Bool.true_and]
 unfold ZN
 simp; omega
theorem Zg8 (H : InsOk t tx v d) : ∀ q ∈ ZdE k t.rows tx v d,Xc t.s tx q = true:=fun q hq=>by
 rcases List.mem_cons.1 hq with rfl | hq
 ·exact Zwo H
 ·obtain ⟨r,hr,h⟩:=List.mem_flatMap.1 hq
  exact Zrr (hl:=Zj6 k v) (Zwn H) (fun _ _ _ h=>by cases h) q (List.mem_flatMap.2 ⟨r,hr,Zrs ((ZY H.valid).1 r hr) H.span h⟩)
theorem ZtK (H : InsOk t tx v d) : Z8 (ZdE k t.rows tx v d):=fun q hq=>(Q5 (Zg8 H q hq)).2.1
theorem Zrt (hr : YA r = true) (hd : ZN d = true) : (Zc8 k v tx d r).length ≤ 3:=by
 have hp:=YG (Yk hr).2.1
 have hq:=YG hd
 unfold Zc8
 split
 ·rename_i h
  have hov : r.r.d.a < d.b ∧ d.a < r.r.d.b:=by
   refine Classical.byContradiction fun z=>h.2.2 ((Zk5 hp hq).2 z)
  have htc:=Zd9 (Yk hr).2.1 hd hov.1 hov.2
  have hpl:=Zf5 r.r.d d
  have h2 : (Yh 3 [r.r.d] [d]).length ≤ 2:=by rw [htc]; exact hpl
  have hol : (X1 r.v (Yh 3 [r.r.d] [d]) tx 253402300800).length = (Yh 3 [r.r.d] [d]).length:=by unfold X1; rw [List.length_map]
  rw [List.length_append,hol,List.length_singleton]; omega
 ·simp
theorem ZnZ (hg : Z8 l) (hd : ZN d = true) : ∀ n,((l.take n).flatMap (Zc8 k v tx d)).length ≤ 3 * n
 | 0=>by simp
 | n + 1=>by
  have ih:=ZnZ hg hd n
  rw [List.take_add_one,List.flatMap_append,List.length_append]
  cases e : l[n]? with
  | none=>simp only [Option.toList,List.flatMap_nil,List.length_nil]; omega
  | some r=>
   have:=Zrt (k:=k) (v:=v) (tx:=tx) (hg r (List.mem_of_getElem? e)) hd
   simp only [Option.toList,List.flatMap_cons,List.flatMap_nil,List.append_nil]; omega
end
def Qp (t : Table) (tx : Int) (v : List Val) (d : Span) : List HRow:=ZdE t.s.key.toNat t.rows tx v d
def Xs (t : Table) (tx : Int) (v : List Val) (d : Span) : Table:=if YI t then (if YS t tx v d = 0 then (if Zam (Qp t tx v d) = 0 then ⟨(Yt t tx v d).s,QD (Qp t tx v d),(Yt t tx v d).last⟩ else Qs) else Qs) else Qs
def Zdt (t : Table) (tx : Int) (v : List Val) (d : Span) : Int:=if YI t then (if YS t tx v d = 0 then Zam (Qp t tx v d) else YS t tx v d) else 1
section
variable {t : Table} {tx : Int} {v : List Val} {d : Span}
theorem ZuR (h : YI t = false) : Qs = Xs t tx v d ∧ 1 = Zdt t tx v d:=by unfold Xs Zdt; rw [h]; exact ⟨rfl,rfl⟩
theorem ZuS (h : YI t = true) (h1 : YS t tx v d ≠ 0) : Qs = Xs t tx v d ∧ YS t tx v d = Zdt t tx v d:=by unfold Xs Zdt; rw [h,if_pos rfl,if_pos rfl,if_neg h1,if_neg h1]; exact ⟨rfl,rfl⟩
theorem ZuT (h : YI t = true) (h1 : YS t tx v d = 0) (h2 : Zam (Qp t tx v d) ≠ 0) : Qs = Xs t tx v d ∧ Zam (Qp t tx v d) = Zdt t tx v d:=by unfold Xs Zdt; rw [h,if_pos rfl,if_pos rfl,if_pos h1,if_pos h1,if_neg h2]; exact ⟨rfl,rfl⟩
theorem Zp6 (h : YI t = true) (h1 : YS t tx v d = 0) (h2 : Zam (Qp t tx v d) = 0) : (⟨(Yt t tx v d).s,QD (Qp t tx v d),(Yt t tx v d).last⟩ : Table) = Xs t tx v d ∧ 0 = Zdt t tx v d:=by
 unfold Xs Zdt; rw [h,if_pos rfl,if_pos rfl,if_pos h1,if_pos h1,if_pos h2,h2]; exact ⟨rfl,rfl⟩
end
section
variable {t : Table} {tx : Int} {v u : List Val} {d : Span} {a y : Int}
structure MrgP (t : Table) (tx : Int) (v : List Val) (d : Span) : Prop where
 ins : InsOk t tx v d
 e : Zdt t tx v d = 0
 is : Xs t tx v d = ⟨t.s,Yd (Qp t tx v d),tx⟩
 valid : Zu (Xs t tx v d) = true
theorem Zru (hu : YI t = true) (h : YS t tx v d = 0) (hl : (Yd (Qp t tx v d)).length ≤ 500) (hm : (Qp t tx v d).length ≤ 1000) : MrgP t tx v d:=by
 have H:=Zgx h
 have hg:=ZtK (k:=t.s.key.toNat) H
 have hE : Zam (Qp t tx v d) = 0 ∧ QD (Qp t tx v d) = Yd (Qp t tx v d):=by
  have:=ZhL (l:=Qp t tx v d) (by omega) (Zt3 hg) (by omega)
  exact ⟨this.2,this.1⟩
 have h4:=Zp6 hu h hE.1
 have hs : (Yt t tx v d).s = t.s:=by rw [H.new.is]
 have hlast : (Yt t tx v d).last = tx:=by rw [H.new.is]
 have his : Xs t tx v d = ⟨t.s,Yd (Qp t tx v d),tx⟩:=by rw [← h4.1,hs,hlast,hE.2]
 refine ⟨H,h4.2.symm,his,?_⟩
 rw [his]
 exact (ZmD (Xb H.valid).1 H.inst (Zg8 H) hl).valid
end
end Go.Civ
namespace Go.Civ
open Go.RowKit
set_option linter.unusedVariables false
def ZaA (t : Table) (e : Int) : Table:=if e = 0 then (if (Z5 t).isSome then Qs else t) else Qs
def Zdu (t : Table) (e : Int) : Int:=if e = 0 then (if (Z5 t).isSome then 14 else 0) else e
section
variable {t : Table} {e : Int}
theorem ZuU (h : e ≠ 0) : Qs = ZaA t e ∧ e = Zdu t e:=by unfold ZaA Zdu; rw [if_neg h,if_neg h]; exact ⟨rfl,rfl⟩
theorem ZuV (h : e = 0) (h2 : (Z5 t).isSome = true) : Qs = ZaA t e ∧ 14 = Zdu t e:=by unfold ZaA Zdu; rw [if_pos h,if_pos h,h2]; exact ⟨rfl,rfl⟩
theorem ZuW (h : e = 0) (h2 : (Z5 t).isSome = false) : t = ZaA t e ∧ 0 = Zdu t e:=by unfold ZaA Zdu; rw [if_pos h,if_pos h,h2]; exact ⟨rfl,rfl⟩
end
def ZG (t : Table) (tx : Int) (v : List Val) (d : Span) : Table:=if YI t then ZaA (Yt t tx v d) (YS t tx v d) else Qs
def ZaT (t : Table) (tx : Int) (v : List Val) (d : Span) : Int:=if YI t then Zdu (Yt t tx v d) (YS t tx v d) else 1
section
variable {t : Table} {tx : Int} {v set : List Val} {d : Span} {k : Nat} {c : Cond} {mask : List Bool}
theorem Zrv (h : YI t = false) : Qs = ZG t tx v d ∧ 1 = ZaT t tx v d:=by unfold ZG ZaT; rw [h]; exact ⟨rfl,rfl⟩
theorem ZiV (h : YI t = true) : ZaA (Yt t tx v d) (YS t tx v d) = ZG t tx v d ∧ Zdu (Yt t tx v d) (YS t tx v d) = ZaT t tx v d:=by unfold ZG ZaT; rw [h]; exact ⟨rfl,rfl⟩
theorem Zrw (h : YS t tx v d = 0) : Zu (Yt t tx v d) = true:=(Zgx h).new.valid
end
theorem Zrx {t : Table} (h : Zu t = false) : HRow.mk [] (Rect.mk (Span.mk 0 0) (Span.mk 0 0)) = ZaR t ∧ false = YI t:=by unfold ZaR YI; rw [h]; exact ⟨rfl,rfl⟩
theorem Zry {t : Table} (h : Zu t = true) (h2 : (Z5 t).isSome = true) : ZZ (some (Y8 (Z5 t))) = ZaR t ∧ false = YI t:=by
 unfold ZaR YI; rw [h]
 cases e : Z5 t with
 | none=>rw [e] at h2; cases h2
 | some p=>exact ⟨rfl,rfl⟩
theorem Zrz {t : Table} (h : Zu t = true) (h2 : (Z5 t).isSome = false) : HRow.mk [] (Rect.mk (Span.mk 0 0) (Span.mk 0 0)) = ZaR t ∧ true = YI t:=by
 unfold ZaR YI; rw [h]
 cases e : Z5 t with
 | none=>exact ⟨rfl,rfl⟩
 | some p=>rw [e] at h2; cases h2
theorem ZiW {t : Table} (hv : Zu t = true) (h : (Z5 t).isSome = true) : Y1 (Y8 (Z5 t)).tx = true ∧ Y1 (Y8 (Z5 t)).vd = true:=by
 by_cases e : X7 t.s.key.toNat t.rows = []
 ·rw [ZiT e] at h; cases h
 ·have hm:=ZdA (ZiR (k:=t.s.key.toNat) (ZY hv).1) e
  unfold Z5
  rw [ZdB e]
  have h9:=Zkx hv hm.1
  exact h9
def Zn (nm : List UInt8) : List Val:=[⟨1,1,[]⟩,⟨2,0,nm⟩]
abbrev Zad : Schema:=⟨[112,101,111,112,108,101],[⟨[105,100],1⟩,⟨[110,97,109,101],2⟩],1,[]⟩
def peopR : List HRow:=[⟨Zn [97],⟨⟨0,10⟩,⟨5,253402300800⟩⟩⟩]
def ZE : Table:=⟨Zad,peopR,5⟩
def peopR2 : List HRow:=[⟨Zn [97],⟨⟨0,10⟩,⟨5,253402300800⟩⟩⟩,⟨Zn [98],⟨⟨5,20⟩,⟨6,253402300800⟩⟩⟩]
def peopR3 : List HRow:=[⟨Zn [97],⟨⟨0,10⟩,⟨5,6⟩⟩⟩,⟨Zn [97],⟨⟨0,5⟩,⟨6,253402300800⟩⟩⟩,⟨Zn [98],⟨⟨5,20⟩,⟨6,253402300800⟩⟩⟩]
theorem ZxN : YB Zad = true:=by decide
theorem Zj7 : ZO Zad = ⟨Zad,[], -62135596801⟩ ∧ ZcQ Zad = 0:=Ztx ZxN
theorem ZuX : Zu ⟨Zad,[], -62135596801⟩ = true:=by rw [← Zj7.1]; exact Zps ZxN
theorem ZxO : Yd (Za7 ⟨Zad,[], -62135596801⟩ 5 (Zn [97]) ⟨0,10⟩) = peopR:=by rw [ZeO (Zpt (by decide))]; decide
theorem Zoa : Yt ⟨Zad,[], -62135596801⟩ 5 (Zn [97]) ⟨0,10⟩ = ZE ∧ YS ⟨Zad,[], -62135596801⟩ 5 (Zn [97]) ⟨0,10⟩ = 0:=by
 have h:=Zc7 (t:=⟨Zad,[], -62135596801⟩) (tx:=5) (v:=Zn [97]) (d:=⟨0,10⟩) (ZgV ZuX (by decide)) (by decide)
 rw [← h.1,← h.2]; unfold ZQ XT; rw [ZxO]; decide
theorem ZxP : YI ⟨Zad,[], -62135596801⟩ = true:=by unfold YI; rw [ZuX]; rfl
theorem Zr0 : Z5 ZE = none:=ZiT (by decide)
theorem Zg9 : ZG (ZO Zad) 5 (Zn [97]) ⟨0,10⟩ = ZE ∧ ZaT (ZO Zad) 5 (Zn [97]) ⟨0,10⟩ = 0:=by
 rw [Zj7.1]
 have h:=ZiV (t:=⟨Zad,[], -62135596801⟩) (tx:=5) (v:=Zn [97]) (d:=⟨0,10⟩) ZxP
 rw [← h.1,← h.2,Zoa.1,Zoa.2]
 unfold ZaA Zdu; rw [Zr0]; exact ⟨rfl,rfl⟩
theorem ZuY : Zu ZE = true:=by rw [← Zq0]; decide
theorem Zr1 : YI ZE = true:=by unfold YI; rw [ZuY,Zr0]; rfl
theorem ZxQ : Yd (Za7 ZE 6 (Zn [98]) ⟨5,20⟩) = peopR2:=by rw [ZeO (Zpt (by decide))]; decide
theorem ZhU : Yt ZE 6 (Zn [98]) ⟨5,20⟩ = ⟨Zad,peopR2,6⟩ ∧ YS ZE 6 (Zn [98]) ⟨5,20⟩ = 0:=by
 have h:=Zc7 (t:=ZE) (tx:=6) (v:=Zn [98]) (d:=⟨5,20⟩) (ZgV ZuY (by decide)) (by decide)
 rw [← h.1,← h.2]; unfold ZQ XT; rw [ZxQ]; decide
theorem ZxR : (Z5 ⟨Zad,peopR2,6⟩).isSome = true:=by unfold Z5; rw [ZdB (by decide)]; rfl
theorem ZxS : ZaT ZE 6 (Zn [98]) ⟨5,20⟩ = 14:=by
 have h:=ZiV (t:=ZE) (tx:=6) (v:=Zn [98]) (d:=⟨5,20⟩) Zr1
 rw [← h.2,ZhU.1,ZhU.2]
 unfold Zdu; rw [ZxR]; rfl
theorem Zr2 : Yd (Qp ZE 6 (Zn [98]) ⟨5,20⟩) = peopR3:=by unfold Qp; rw [ZeO (Zpt (by decide))]; decide
theorem Zp7 : MrgP ZE 6 (Zn [98]) ⟨5,20⟩:=Zru Zr1 ZhU.2 (by rw [Zr2]; decide) (by decide)
theorem ZxT : Xs ZE 6 (Zn [98]) ⟨5,20⟩ = ⟨Zad,peopR3,6⟩:=by rw [Zp7.is,Zr2]; rfl
theorem ZmT : atH (Xs ZE 6 (Zn [98]) ⟨5,20⟩) 6 = [⟨Zn [97],⟨0,5⟩⟩,⟨Zn [98],⟨5,20⟩⟩]:=by
 rw [ZxL Zp7.valid (by decide),ZxT]; decide
theorem Zwp : (((atH (Xs ZE 6 (Zn [98]) ⟨5,20⟩) 6).length : Nat) : Int) = 2:=by rw [ZmT]; rfl
theorem Zzw {x : Fact} (h : (atH (Xs ZE 6 (Zn [98]) ⟨5,20⟩) 6)[0]? = some x) : x.t = ⟨0,5⟩:=by rw [ZmT] at h; obtain rfl:=Option.some.inj h; rfl
theorem Zzx {x : Fact} (h : (atH (Xs ZE 6 (Zn [98]) ⟨5,20⟩) 6)[1]? = some x) : x.t = ⟨5,20⟩:=by rw [ZmT] at h; obtain rfl:=Option.some.inj h; rfl
end Go.Civ
namespace Go.Civ
open Go.RowKit
set_option linter.unusedVariables false
section
variable {s t o : Schema} {f : Foreign} {cs : List (List UInt8)} {c nm : List UInt8} {v u : List Val} {k : Nat} {x : Col}
theorem ZrN {a : Val} (h : cs[k]? = some c) (h1 : v[(Xw (s.cols.map Col.name) c).toNat]? = some a) : ZcA s (cs.take (k + 1)) v = ZcA s (cs.take k) v ++ [a]:=by
 unfold ZcA
 rw [List.take_add_one,h]; simp [ZfI h1]
theorem Zue (cs : List (List UInt8)) (k : Nat) : (ZcA s (cs.take k) v).length ≤ cs.length:=by unfold ZcA; rw [List.length_map]; exact List.length_take_le' _ _
theorem Zyb {k : Nat} (h : ∀ j,j < k → ∀ x,s.cols[j]? = some x → decide (x.name = nm) = false) (hx : s.cols[k]? = some x) (e : x.name = nm) : (k : Int) = Xw (s.cols.map Col.name) nm:=by
 refine (QO (p:=fun x=>decide (x = nm)) k (l:=s.cols.map Col.name) (x:=x.name) ?_ ?_ ?_).symm
 ·rw [List.getElem?_map,hx]; rfl
 ·exact decide_eq_true e
 ·intro j hj y hy
  rw [List.getElem?_map] at hy
  obtain ⟨z,hz,rfl⟩:=Option.map_eq_some_iff.1 hy
  exact h j hj z hz
theorem Zyc {k : Nat} (h : ∀ j,j < k → ∀ x,s.cols[j]? = some x → decide (x.name = nm) = false) (hk : s.cols.length ≤ k) : (-1 : Int) = Xw (s.cols.map Col.name) nm:=by
 refine (Q2 (p:=fun x=>decide (x = nm)) (l:=s.cols.map Col.name) (k:=k) (fun j hj y hy=>?_) (by rw [List.length_map]; exact hk)).symm
 rw [List.getElem?_map] at hy
 obtain ⟨z,hz,rfl⟩:=Option.map_eq_some_iff.1 hy
 exact h j hj z hz
theorem Zyd {fs : List Foreign} {g : Foreign} {ow : Bool} (h : fs[k]? = some g) (h1 : g.table = f.table) (h2 : decide (g.cols = f.cols) = true) : true = (fs.take (k + 1)).any (fun g=>decide (g.table = f.table) && decide (g.cols = f.cols)):=by
 rw [List.take_add_one,h,List.any_append]; simp [h1,of_decide_eq_true h2]
theorem ZrO {fs : List Foreign} {g : Foreign} {ow : Bool} (h : fs[k]? = some g) (h0 : ow = (fs.take k).any (fun g=>decide (g.table = f.table) && decide (g.cols = f.cols))) (h1 : g.table ≠ f.table ∨ decide (g.cols = f.cols) = false) : ow = (fs.take (k + 1)).any (fun g=>decide (g.table = f.table) && decide (g.cols = f.cols)):=by
 rw [List.take_add_one,h,List.any_append,← h0]
 have : (decide (g.table = f.table) && decide (g.cols = f.cols)) = false:=by
  rcases h1 with h1 | h1
  ·rw [decide_eq_false h1]; rfl
  ·rw [h1]; simp
 simp [this]
theorem Zuf {α : Type} {p : α → Bool} {l : List α} {x : α} (h : l[k]? = some x) (hx : p x = true) : true = l.any p:=(List.any_eq_true.2 ⟨x,List.mem_of_getElem? h,hx⟩).symm
end
theorem Znf {α : Type} {p : α → Bool} {x : α} : ∀ {l : List α} {k : Nat},(∀ j,j < k → ∀ y,l[j]? = some y → p y = false) → l[k]? = some x → p x = true → l.find? p = some x
 | [],k,_,h,_=>by cases h
 | a :: l,0,_,h,hx=>by obtain rfl:=Option.some.inj h; rw [List.find?_cons,hx]
 | a :: l,k + 1,h1,h,hx=>by
  rw [List.find?_cons,h1 0 (by omega) a rfl]
  exact Znf (k:=k) (fun j hj y hy=>h1 (j + 1) (by omega) y (by simpa using hy)) (by simpa using h) hx
theorem Zug {α : Type} {p : α → Bool} {l : List α} {k : Nat} (h : ∀ j,j < k → ∀ y,l[j]? = some y → p y = false) (hk : l.length ≤ k) : l.find? p = none:=by
 rw [List.find?_eq_none]
 intro x hx
 obtain ⟨i,hi⟩:=List.getElem?_of_mem hx
 obtain ⟨hlt,_⟩:=List.getElem?_eq_some_iff.1 hi
 rw [h i (by omega) x hi]; simp
section
variable {t o : Table} {f : Foreign} {x y fr : Int} {k i j : Nat} {v : List Val}
theorem ZpD {s : Schema} (h : YB s = true) : s.key ≤ 8:=by
 have h1:=ZfJ h
 unfold YB Qx at h
 simp only [Bool.and_eq_true,decide_eq_true_eq] at h
 omega
abbrev gXS (t o : Table) (fr : Int) : List Int:=Yc ((fr :: t.rows.map (fun (r : HRow)=>r.r.x.a)) ++ o.rows.map (fun (r : HRow)=>r.r.x.b))
abbrev gYS (t o : Table) : List Int:=Yc ((t.rows.map (fun (r : HRow)=>r.r.d.a)) ++ o.rows.map (fun (r : HRow)=>r.r.d.b))
abbrev gM (t o : Table) (f : Foreign) : List Val → List Val → Bool:=rM t.s o.s f.cols
theorem Zye (ht : Z8 t.rows) (ho : Z8 o.rows) (hf : Z0 fr ∧ fr ≤ 253402300800) (h : (gXS t o fr)[k]? = some x) : Z0 x ∧ x ≤ 253402300800:=by
 have h1:=Zbw.1 (List.mem_of_getElem? h)
 rcases List.mem_append.1 h1 with h2 | h2
 ·rcases List.mem_cons.1 h2 with e | h2
  ·rw [e]; exact hf
  ·obtain ⟨r,hr,rfl⟩:=List.mem_map.1 h2; exact (ZdG ht hr).2.2.1
 ·obtain ⟨r,hr,rfl⟩:=List.mem_map.1 h2; exact (ZdG ho hr).2.2.2
theorem Zyf (ht : Z8 t.rows) (ho : Z8 o.rows) (h : (gYS t o)[k]? = some x) : Z0 x ∧ x ≤ 253402300800:=by
 have h1:=Zbw.1 (List.mem_of_getElem? h)
 rcases List.mem_append.1 h1 with h2 | h2
 ·obtain ⟨r,hr,rfl⟩:=List.mem_map.1 h2; exact (ZdG ht hr).1
 ·obtain ⟨r,hr,rfl⟩:=List.mem_map.1 h2; exact (ZdG ho hr).2.1
theorem ZrP (h : x < fr ∨ 253402300800 ≤ x) : ZbA (gM t o f) o.rows t.rows fr (gYS t o) x = none:=by unfold ZbA; rw [if_pos h]
theorem Zyg (h1 : fr ≤ x) (h2 : x < 253402300800) (h : ∀ i,i < j → ∀ y,(gYS t o)[i]? = some y → ((Zbi (gM t o f) o.rows t.rows x y).map fun v=>Pt.mk x y v) = none) (hj : (gYS t o).length ≤ j) : ZbA (gM t o f) o.rows t.rows fr (gYS t o) x = none:=by
 unfold ZbA; rw [if_neg (by omega)]; exact ZfD h hj
theorem Zwv (h : ∀ i,i < k → ∀ v,(ZR t.rows y x)[i]? = some v → (!(ZR o.rows y x).any (gM t o f v)) = false) (hk : (ZR t.rows y x).length ≤ k) : ((Zbi (gM t o f) o.rows t.rows x y).map fun v=>Pt.mk x y v) = none:=by
 have : Zbi (gM t o f) o.rows t.rows x y = none:=Zug h hk
 rw [this]; rfl
theorem ZrQ (h1 : ∀ i',i' < i → ∀ x,(gXS t o fr)[i']? = some x → ZbA (gM t o f) o.rows t.rows fr (gYS t o) x = none) (hx : (gXS t o fr)[i]? = some x) (g1 : fr ≤ x) (g2 : x < 253402300800)
  (h2 : ∀ i',i' < j → ∀ y,(gYS t o)[i']? = some y → ((Zbi (gM t o f) o.rows t.rows x y).map fun v=>Pt.mk x y v) = none) (hy : (gYS t o)[j]? = some y)
  (h3 : ∀ i',i' < k → ∀ v,(ZR t.rows y x)[i']? = some v → (!(ZR o.rows y x).any (gM t o f v)) = false) (hv : (ZR t.rows y x)[k]? = some v) (h4 : (ZR o.rows y x).any (gM t o f v) = false) :
  ZZ (some (Pt.mk x y v)) = ZZ (Qq t o f fr) ∧ true = (Qq t o f fr).isSome:=by
 have hV : Zbi (gM t o f) o.rows t.rows x y = some v:=Znf h3 hv (by rw [h4]; rfl)
 have hG : ZbA (gM t o f) o.rows t.rows fr (gYS t o) x = some ⟨x,y,v⟩:=by
  unfold ZbA; rw [if_neg (by omega)]
  exact ZdY h2 hy (by rw [hV]; rfl)
 have : Qq t o f fr = some ⟨x,y,v⟩:=ZdY h1 hx hG
 rw [this]; exact ⟨rfl,rfl⟩
theorem ZrR (h1 : ∀ i',i' < i → ∀ x,(gXS t o fr)[i']? = some x → ZbA (gM t o f) o.rows t.rows fr (gYS t o) x = none) (hi : (gXS t o fr).length ≤ i) :
  HRow.mk [] (Rect.mk (Span.mk 0 0) (Span.mk 0 0)) = ZZ (Qq t o f fr) ∧ false = (Qq t o f fr).isSome:=by
 have : Qq t o f fr = none:=ZfD h1 hi
 rw [this]; exact ⟨rfl,rfl⟩
theorem ZrS (hv : Zu t = true) (y x : Int) : ∀ v ∈ ZR t.rows y x,t.s.cols.length ≤ v.length:=fun v h=>by
 rw [← Zbt (ZY hv).1,Zau (ZY hv).1] at h
 obtain ⟨r,hr,rfl,_⟩:=h
 have:=(Zas hv hr).2.2.2.1
 omega
end
section
variable {M : List Val → List Val → Bool} {os fs : List Fact} {k : Nat} {x : Fact}
end
end Go.Civ
namespace Go.Civ
end Go.Civ
