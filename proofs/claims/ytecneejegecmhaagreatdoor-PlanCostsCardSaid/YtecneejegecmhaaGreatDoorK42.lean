/- Lemmas. -/
import Derived.Test.YtecneejegecmhaaGreatDoorK41
set_option linter.unusedVariables false
set_option linter.unusedSimpArgs false
set_option linter.unusedVariables false
set_option linter.unusedSimpArgs false
set_option maxRecDepth 100000
set_option maxHeartbeats 4000000
namespace Go.Civ
open Go.Proofs
theorem ZdZ {G : GH} {w : World} (hG : G.In w) (l : List (List UInt8)) (vl : Value) (hvl : Sl Enc.str 16 G vl l) (hb : (Z2 sJ l).length ≤ 1000000) : CL Tryz.prog (nat_lit 102) #[vl] [] w G fun _ _ r=>r = Za (Z2 sJ l):=by
 refine Zg ft [] Tryz.func102 V V ?_
 have hS:=St.start (X:=[]) hG
 refine LP.go ft [] (fun m ρ1 w1=>∃ (k1 : Nat),∃ (ss : List UInt8),∃ (G1 : GH),m = l.length - k1 ∧ G.le G1 ∧ St w [] G G1 [] w1 ∧ FR ρ1 [(0,vl),(3,Za ss),(4,U (k1 : Int))] ∧ k1 ≤ l.length ∧ ss = Z2 sJ (l.take k1)) _ ⟨0,[],G,V,(G.le_refl),hS,⟨V,V,V,trivial⟩,(by omega),(rfl)⟩ ?_
 rintro m ρ1 w1 ⟨k1,ss,G1,rfl,L1,S1,F9,f1,f2⟩
 refine F9.set ?_
 clear F9
 have hsl : ss.length ≤ 1000000:=by rw [show ss = Z2 sJ (l.take k1) by assumption]; exact Nat.le_trans (Z15 sJ l k1) hb
 have V1:=hvl.bound
 refine Zm (hvl.mono L1) Yb V V ?_
 refine Zp (k1 : Int) (l.length : Int) V V V (fun h1=>?_) (fun h1=>?_)
 ·refine Z1 (k1 : Int) 0 V V V (fun h2=>?_) (fun h2=>?_)
  ·refine Zh ss [44,32] (by have:=hsl; (try simp only [Zo]); have:=Zb; omega) V V V ?_
   refine WL.indexAddr (hvl.mono L1) k1 (by omega) Yb Zv V V V V (fun p1 x1 U1 E1=>?_)
   obtain ⟨D1,C1,R1⟩:=E1
   obtain ⟨rfl,B1⟩:=R1
   refine Z S1 C1 Zv V V V ?_
   refine Zh (ss ++ [44,32]) x1 (by have:=hsl; have:=(Nat.le_trans (ZhX (s:=sJ) (List.mem_of_getElem? U1)) hb); (try simp only [Zo]); have:=Zb; omega) V V V ?_
   refine Zq k1 (by have:=Zb; omega) V V V ?_
   exact BK.mk' _ ⟨k1 + 1,((ss ++ [44,32]) ++ x1),G1,V,L1,S1,⟨V,V,V,trivial⟩,(by omega),(by (rw [show ss = Z2 sJ (l.take k1) by assumption]; exact Z14 ‹_› (by omega)))⟩ (show l.length - (k1 + 1) < l.length - k1 by omega)
  refine WL.indexAddr (hvl.mono L1) k1 (by omega) Yb Zv V V V V (fun p2 x2 U2 E2=>?_)
  obtain ⟨D2,C2,R2⟩:=E2
  obtain ⟨rfl,B2⟩:=R2
  refine Z S1 C2 Zv V V V ?_
  refine Zh ss x2 (by have:=hsl; have:=(Nat.le_trans (ZhX (s:=sJ) (List.mem_of_getElem? U2)) hb); (try simp only [Zo]); have:=Zb; omega) V V V ?_
  refine Zq k1 (by have:=Zb; omega) V V V ?_
  exact BK.mk' _ ⟨k1 + 1,(ss ++ x2),G1,V,L1,S1,⟨V,V,V,trivial⟩,(by omega),(by (rw [show ss = Z2 sJ (l.take k1) by assumption]; exact Z13 ‹_› (by omega)))⟩ (show l.length - (k1 + 1) < l.length - k1 by omega)
 exact RT S1 V (congrArg Za (by (rw [show ss = Z2 sJ (l.take k1) by assumption,List.take_of_length_le (by omega)])))
def Z1E (n : Nat) : Prop:=∀ {G : GH} {w : World} (hG : G.In w) (q : Query) (cq : List Value) (hcq : QryE.rep G q cq) (hn : Xx q n) (hx : TxQ n q) (hb : (Z0 q).length ≤ 300000),CL Tryz.prog (nat_lit 66) #[.agg cq.toArray] [] w G fun _ _ r=>r = Za (Z0 q)
theorem Zea {G : GH} {w : World} (hG : G.In w) (n : Nat) (q x y : Query) (hN : Z1E n) (cq : List Value) (hcq : QryE.rep G q cq) (hn : Xx q (n + 1)) (hx : TxQ (n + 1) q) (h0 : q.l[0]? = some x) (h1 : q.l[1]? = some y) (B0 : (Z0 x).length ≤ 300000) (B1 : (Z0 y).length ≤ 300000) : CL Tryz.prog (nat_lit 103) #[.agg cq.toArray] [] w G fun _ _ r=>r = Za ([32,40] ++ Z0 x ++ [44,32] ++ Z0 y ++ [41]):=by
 refine Zg ft [] Tryz.func103 V V ?_
 have hlt0:=(List.getElem?_eq_some_iff.1 h0).1
 have hlt1:=(List.getElem?_eq_some_iff.1 h1).1
 have hS:=St.start (X:=[]) hG
 obtain ⟨v1,v2,v3,v4,rfl,B1,B2,A1,A2,Z7,Z5,ZD,hb6,hb7,ZV,A3,hb9,ZI,ZJ,ZL,A4⟩:=Zs hcq
 refine Z4 (QV q v1 v2 v3 v4) _ hS V V V (fun p1 w1 G1 L1 M1 C1 S1=>?_)
 obtain ⟨p2,x1,U1,E1,W1⟩:=Sl.at (A4.mono L1) 0 (by omega)
 obtain rfl : x = x1:=Option.some.inj (h0.symm.trans U1)
 obtain ⟨D1,C2,R1⟩:=E1
 obtain ⟨v5,v6,v7,v9,rfl,Y0,Y6,A5,A6,YA,Y9,Yr,YH,YJ,YO,A7,Xf,Xg,YK,Xc,A8⟩:=Zs R1
 obtain ⟨p3,x2,U2,E2,W2⟩:=Sl.at (A4.mono L1) 1 (by omega)
 obtain rfl : y = x2:=Option.some.inj (h1.symm.trans U2)
 obtain ⟨D2,C3,R2⟩:=E2
 obtain ⟨v10,v11,v12,v13,rfl,XR,Qa,A9,A10,Qh,Q0,Qs,Q1,Qb,Xw,A11,Qt,XS,Qc,Qu,A12⟩:=Zs R2
 refine dr [(14,false)] [(4,v4),(5,ZP p2),(6, .agg (QV x v5 v6 v7 v9).toArray),(7,Za (Z0 x)),(8,Za ([32,40] ++ (Z0 x))),(9,Za (([32,40] ++ (Z0 x)) ++ [44,32])),(11,v4),(12,ZP p3),(13, .agg (QV y v10 v11 v12 v13).toArray),(14,Za (Z0 y)),(15,Za ((([32,40] ++ (Z0 x)) ++ [44,32]) ++ (Z0 y))),(16,Za (((([32,40] ++ (Z0 x)) ++ [44,32]) ++ (Z0 y)) ++ [41]))] S1 ⟨fun _ hSw=>Z hSw (Xh.drop 15 C1) Yu V V V <| nu V V,fun _=>Zy 0 W1 Y1 Zt V V V V <| nu V V,fun _ hSw=>Zc hSw C2 (QV x v5 v6 v7 v9) Zt V V V V V <| nu V V,fun _ hSw=>ZB hSw Zbf V V V (hN hSw.imm x _ (Zr x Y0 Y6 A5 A6 YA Y9 Yr YH YJ YO A7 Xf Xg YK Xc A8) (XN hn (List.mem_of_getElem? ‹_›)) (Za5 hx (List.mem_of_getElem? ‹_›)) ‹_›) V,fun _=>Zh [32,40] (Z0 x) (by have:=(show (Z0 x).length ≤ 300000 by assumption); (try simp only [Zo]); have:=Zb; omega) V V V <| nu V V,fun _=>Zh ([32,40] ++ (Z0 x)) [44,32] (by have:=(show (Z0 x).length ≤ 300000 by assumption); (try simp only [Zo]); have:=Zb; omega) V V V <| nu V V,fun _ hSw=>Z hSw (Xh.drop 15 C1) Yu V V V <| nu V V,fun _=>Zy 1 W2 Y1 Zt V V V V <| nu V V,fun _ hSw=>Zc hSw C3 (QV y v10 v11 v12 v13) Zt V V V V V <| nu V V,fun _ hSw=>ZB hSw Zbf V V V (hN hSw.imm y _ (Zr y XR Qa A9 A10 Qh Q0 Qs Q1 Qb Xw A11 Qt XS Qc Qu A12) (XN hn (List.mem_of_getElem? ‹_›)) (Za5 hx (List.mem_of_getElem? ‹_›)) ‹_›) V,fun _=>Zh (([32,40] ++ (Z0 x)) ++ [44,32]) (Z0 y) (by have:=(show (Z0 x).length ≤ 300000 by assumption); have:=(show (Z0 y).length ≤ 300000 by assumption); (try simp only [Zo]); have:=Zb; omega) V V V <| nu V V,fun _=>Zh ((([32,40] ++ (Z0 x)) ++ [44,32]) ++ (Z0 y)) [41] (by have:=(show (Z0 x).length ≤ 300000 by assumption); have:=(show (Z0 y).length ≤ 300000 by assumption); (try simp only [Zo]); have:=Zb; omega) V V V <| nu V V,trivial⟩ (fun w2 S2=>?_)
 exact RT S2 V (congrArg Za (by rfl))
theorem Zqg (n : Nat) : ∀ {G : GH} {w : World} (hG : G.In w) (q : Query) (cq : List Value) (hcq : QryE.rep G q cq) (hn : Xx q n) (hx : TxQ n q) (hb : (Z0 q).length ≤ 300000),CL Tryz.prog (nat_lit 66) #[.agg cq.toArray] [] w G fun _ _ r=>r = Za (Z0 q):=by
 induction n
 ·intro G w hG q cq hcq hn hx hb; exact (ZaH hn).elim
 rename_i n ih
 intro G w hG q cq hcq hn hx hb
 refine Zg ft [] Tryz.func66 V V ?_
 have ht:=hx.1
 have hdb : (Ya q).length ≤ 100000:=ht.ln
 have hkd:=ht.kd
 have hlc:=ht.lc
 have hrn:=ht.rn
 have hS:=St.start (X:=[]) hG
 have T1:=Zs hcq
 obtain ⟨v1,v2,v3,v4,rfl,B1,B2,A1,A2,Z7,Z5,ZD,hb6,hb7,ZV,A3,hb9,ZI,ZJ,ZL,A4⟩:=T1
 refine Z4 (QV q v1 v2 v3 v4) _ hS V V V (fun p1 w1 G1 L1 M1 C1 S1=>?_)
 refine Z S1 (Xh.drop 0 C1) Zk V V V ?_
 refine Ze q.kind 1 V V V (fun h1=>?_) (fun h1=>?_)
 ·refine Z S1 (Xh.drop 1 C1) Zv V V V ?_
  refine Zh [115,99,97,110,32] q.table (by have:=B2; (try simp only [Zo]); have:=Zb; omega) V V V ?_
  exact RT S1 V (congrArg Za (by with_reducible exact Z16 ‹_› (ht.a0 ‹_›)))
 refine Ze q.kind 2 V V V (fun h2=>?_) (fun h2=>?_)
 ·have hl1 : (q.l.length : Int) = 1:=by have:=ht.a1 (by omega); omega
  have T2:=YG (l:=q.l) (k:=0) (by omega)
  obtain ⟨x0,U0⟩:=T2
  have htl:=Zdb hl1 U0
  have htx : (Z0 x0).length ≤ 300000:=by omega
  have hcl:=Zrg ‹_› hdb
  have T3:=Sl.at (A4.mono L1) 0 (by omega)
  obtain ⟨p2,x1,U1,E1,W1⟩:=T3
  have T4 : x0 = x1:=Option.some.inj (U0.symm.trans U1)
  obtain rfl:=T4
  obtain ⟨D1,C2,R1⟩:=E1
  have T5:=Zs R1
  obtain ⟨v5,v6,v7,v9,rfl,Y0,Y6,A5,A6,YA,Y9,Yr,YH,YJ,YO,A7,Xf,Xg,YK,Xc,A8⟩:=T5
  refine dr [(11,false)] [(19, .agg #[U q.cond.kind,Za q.cond.col,Za q.cond.oth,U q.cond.v.k,U q.cond.v.n,Za q.cond.v.s,v3]),(20,Za (YL q.cond)),(21,Za ([115,101,108,101,99,116,32,40] ++ (YL q.cond))),(22,Za (([115,101,108,101,99,116,32,40] ++ (YL q.cond)) ++ [41,32,111,102,32])),(24,v4),(25,ZP p2),(26, .agg (QV x0 v5 v6 v7 v9).toArray),(27,Za (Z0 x0)),(28,Za ((([115,101,108,101,99,116,32,40] ++ (YL q.cond)) ++ [41,32,111,102,32]) ++ (Z0 x0)))] S1 ⟨fun _ hSw=>Zc hSw (Xh.drop 4 C1) [U q.cond.kind,Za q.cond.col,Za q.cond.oth,U q.cond.v.k,U q.cond.v.n,Za q.cond.v.s,v3] ZY V V V V V <| nu V V,fun _ hSw=>ZB hSw ZdR V V V (Zoa (n + 1) hSw.imm q.cond _ (ZR q.cond Z7 Z5 ZD hb6 hb7 ZV (A3.mono L1)) (Zaz hn) (ht.cd ‹_›) hcl) V,fun _=>Zh [115,101,108,101,99,116,32,40] (YL q.cond) (by have:=(show (YL q.cond).length ≤ 100000 by assumption); (try simp only [Zo]); have:=Zb; omega) V V V <| nu V V,fun _=>Zh ([115,101,108,101,99,116,32,40] ++ (YL q.cond)) [41,32,111,102,32] (by have:=(show (YL q.cond).length ≤ 100000 by assumption); (try simp only [Zo]); have:=Zb; omega) V V V <| nu V V,fun _ hSw=>Z hSw (Xh.drop 15 C1) Yu V V V <| nu V V,fun _=>Zy 0 W1 Y1 Zt V V V V <| nu V V,fun _ hSw=>Zc hSw C2 (QV x0 v5 v6 v7 v9) Zt V V V V V <| nu V V,fun _ hSw=>ZB hSw Zbf V V V (ih hSw.imm x0 _ (Zr x0 Y0 Y6 A5 A6 YA Y9 Yr YH YJ YO A7 Xf Xg YK Xc A8) (XN hn (List.mem_of_getElem? U0)) (Za5 hx (List.mem_of_getElem? U0)) htx) V,fun _=>Zh (([115,101,108,101,99,116,32,40] ++ (YL q.cond)) ++ [41,32,111,102,32]) (Z0 x0) (by have:=(show (YL q.cond).length ≤ 100000 by assumption); have:=(show (Z0 x0).length ≤ 300000 by assumption); (try simp only [Zo]); have:=Zb; omega) V V V <| nu V V,trivial⟩ (fun w2 S2=>?_)
  exact RT S2 V (congrArg Za (by with_reducible exact Z17 ‹_› hl1 (by assumption : q.l[0]? = some _)))
 refine Ze q.kind 3 V V V (fun h3=>?_) (fun h3=>?_)
 ·have hl1 : (q.l.length : Int) = 1:=by have:=ht.a1 (by omega); omega
  have T6:=YG (l:=q.l) (k:=0) (by omega)
  obtain ⟨x0,U0⟩:=T6
  have htl:=Zdb hl1 U0
  have htx : (Z0 x0).length ≤ 300000:=by omega
  have hj3:=Zrh ‹_› hdb
  have T7:=Sl.at (A4.mono L1) 0 (by omega)
  obtain ⟨p3,x2,U2,E2,W2⟩:=T7
  have T8 : x0 = x2:=Option.some.inj (U0.symm.trans U2)
  obtain rfl:=T8
  obtain ⟨D2,C3,R2⟩:=E2
  have T9:=Zs R2
  obtain ⟨v10,v11,v12,v13,rfl,XR,Qa,A9,A10,Qh,Q0,Qs,Q1,Qb,Xw,A11,Qt,XS,Qc,Qu,A12⟩:=T9
  refine dr [(11,false)] [(32,v1),(33,Za (Z2 sJ q.cols)),(34,Za ([112,114,111,106,101,99,116,32] ++ (Z2 sJ q.cols))),(35,Za (([112,114,111,106,101,99,116,32] ++ (Z2 sJ q.cols)) ++ [32,111,102,32])),(37,v4),(38,ZP p3),(39, .agg (QV x0 v10 v11 v12 v13).toArray),(40,Za (Z0 x0)),(41,Za ((([112,114,111,106,101,99,116,32] ++ (Z2 sJ q.cols)) ++ [32,111,102,32]) ++ (Z0 x0)))] S1 ⟨fun _ hSw=>Z hSw (Xh.drop 2 C1) ZH V V V <| nu V V,fun _ hSw=>ZB hSw ZdS V V V (ZdZ hSw.imm q.cols _ (A1.mono L1) (by exact Zrh ‹_› hdb)) V,fun _=>Zh [112,114,111,106,101,99,116,32] (Z2 sJ q.cols) (by have:=(show (Z2 sJ q.cols).length ≤ 1000000 by assumption); (try simp only [Zo]); have:=Zb; omega) V V V <| nu V V,fun _=>Zh ([112,114,111,106,101,99,116,32] ++ (Z2 sJ q.cols)) [32,111,102,32] (by have:=(show (Z2 sJ q.cols).length ≤ 1000000 by assumption); (try simp only [Zo]); have:=Zb; omega) V V V <| nu V V,fun _ hSw=>Z hSw (Xh.drop 15 C1) Yu V V V <| nu V V,fun _=>Zy 0 W2 Y1 Zt V V V V <| nu V V,fun _ hSw=>Zc hSw C3 (QV x0 v10 v11 v12 v13) Zt V V V V V <| nu V V,fun _ hSw=>ZB hSw Zbf V V V (ih hSw.imm x0 _ (Zr x0 XR Qa A9 A10 Qh Q0 Qs Q1 Qb Xw A11 Qt XS Qc Qu A12) (XN hn (List.mem_of_getElem? U0)) (Za5 hx (List.mem_of_getElem? U0)) htx) V,fun _=>Zh (([112,114,111,106,101,99,116,32] ++ (Z2 sJ q.cols)) ++ [32,111,102,32]) (Z0 x0) (by have:=(show (Z2 sJ q.cols).length ≤ 1000000 by assumption); have:=(show (Z0 x0).length ≤ 300000 by assumption); (try simp only [Zo]); have:=Zb; omega) V V V <| nu V V,trivial⟩ (fun w3 S3=>?_)
  exact RT S3 V (congrArg Za (by with_reducible exact Z18 ‹_› hl1 (by assumption : q.l[0]? = some _)))
 refine Ze q.kind 4 V V V (fun h4=>?_) (fun h4=>?_)
 ·have S5:=S1.pad
  refine LP.go ft [] (fun m ρ1 w1=>∃ (k1 : Nat),∃ (v14 : Value) (o1 : OB),∃ (G2 : GH),m = q.cols.length - k1 ∧ G1.le G2 ∧ St w [] G G2 [o1] w1 ∧ YX Enc.str 16 9 G2 v14 (Qy (q.cols.take k1) (q.names.take k1)) o1 ∧ FR ρ1 [(1,ZP p1),(3,v14),(4,U (k1 : Int))] ∧ k1 ≤ q.cols.length) _ ⟨0,(Zf),none,G1,V,(G1.le_refl),S5,(YX.cast (YX.nil Enc.str 16 9 G1) (by rfl)),⟨V,V,V,trivial⟩,(by omega)⟩ ?_
  rintro m ρ1 w4 ⟨k1,v14,o1,G2,rfl,L2,S4,R3,F9,f1⟩
  refine F9.set ?_
  clear F9
  have hrl:=@ZsF k1 q.cols q.names
  refine Z S4 (Xh.drop 2 (C1.mono L2)) ZH V V V ?_
  have V1:=A1.bound
  have j1:=(L1.trans L2)
  refine Zm (A1.mono j1) Yb V V ?_
  refine Zp (k1 : Int) (q.cols.length : Int) V V V (fun h5=>?_) (fun h5=>?_)
  ·have T10:=Sl.at (A1.mono j1) k1 (by omega)
   obtain ⟨p4,x3,U3,E3,W3⟩:=T10
   obtain ⟨D3,C4,R4⟩:=E3
   obtain ⟨rfl,Zbc⟩:=R4
   have T11:=Sl.at (A2.mono j1) k1 (by omega)
   obtain ⟨p5,x4,U4,E4,W4⟩:=T11
   obtain ⟨D4,C5,R5⟩:=E4
   obtain ⟨rfl,ZcR⟩:=R5
   refine dr [(13,false),(14,false),(15,false)] [(53,v1),(55,ZP p4),(56,Za x3),(57,Za (x3 ++ [32,116,111,32])),(59,v2),(61,ZP p5),(62,Za x4),(63,Za ((x3 ++ [32,116,111,32]) ++ x4))] S4 ⟨fun _ hSw=>Z hSw (Xh.drop 2 (C1.mono L2)) ZH V V V <| nu V V,fun _=>Zy k1 W3 Yb Zv V V V V <| nu V V,fun _ hSw=>Z hSw C4 Zv V V V <| nu V V,fun _=>Zh x3 [32,116,111,32] (by have:=(ht.nc _ (List.mem_of_getElem? U3)); (try simp only [Zo]); have:=Zb; omega) V V V <| nu V V,fun _ hSw=>Z hSw (Xh.drop 3 (C1.mono L2)) ZH V V V <| nu V V,fun _=>Zy k1 W4 Yb Zv V V V V <| nu V V,fun _ hSw=>Z hSw C5 Zv V V V <| nu V V,fun _=>Zh (x3 ++ [32,116,111,32]) x4 (by have:=(ht.nc _ (List.mem_of_getElem? U3)); have:=(ht.nn _ (List.mem_of_getElem? U4)); (try simp only [Zo]); have:=Zb; omega) V V V <| nu V V,trivial⟩ (fun w5 S6=>?_)
   refine WL.buildSlice _ [(0,[Za ((x3 ++ [32,116,111,32]) ++ x4)])] [Za ((x3 ++ [32,116,111,32]) ++ x4)] S6 XI V V V V (fun z hz=>by match z,hz with | [z0],_=>rfl) (fun b1 w6 N1 S7=>?_)
   refine WL.push (m:=([((x3 ++ [32,116,111,32]) ++ x4)] : List (List UInt8))) XI V V V R3 S7 1 V 0 _ _ _ _ _ V ⟨[Za ((x3 ++ [32,116,111,32]) ++ x4)],_,V,⟨V,(by have:=(ht.nc _ (List.mem_of_getElem? U3)); have:=(ht.nn _ (List.mem_of_getElem? U4)); (try simp only [Zo]); have:=Zb; omega)⟩,V⟩ V (by have:=Zb; simp only [List.length_append,List.length_map,List.length_take,List.length_cons,List.length_nil]; omega) (by have:=Zb; simp only [List.length_append,List.length_map,List.length_take,List.length_cons,List.length_nil]; omega) V V V (fun v15 o2 w7 R6 S8=>?_)
   have S9:=S8.tail
   refine Zq k1 (by have:=Zb; omega) V V V ?_
   exact BK.mk' _ ⟨k1 + 1,v15,o2,G2,V,L2,S9,(YX.cast R6 (by (exact (ZsE ‹_› ‹_›).symm))),⟨V,V,V,trivial⟩,(by omega)⟩ (show q.cols.length - (k1 + 1) < q.cols.length - k1 by omega)
  have hl1 : (q.l.length : Int) = 1:=by have:=ht.a1 (by omega); omega
  have T12:=YG (l:=q.l) (k:=0) (by omega)
  obtain ⟨x0,U0⟩:=T12
  have htl:=Zdb hl1 U0
  have htx : (Z0 x0).length ≤ 300000:=by omega
  have hj4:=Zri ‹_› hdb
  have hrr:=YX.cast (l':=Qy q.cols q.names) R3 (by rw [List.take_of_length_le (by omega),List.take_of_length_le (by omega)])
  have T13:=YX.freeze hrr S4 0 V
  obtain ⟨G3,L3,A13,S10⟩:=T13
  have T14:=Sl.at (A4.mono (j1.trans L3)) 0 (by omega)
  obtain ⟨p6,x5,U5,E5,W5⟩:=T14
  have T15 : x0 = x5:=Option.some.inj (U0.symm.trans U5)
  obtain rfl:=T15
  obtain ⟨D5,C6,R7⟩:=E5
  have T16:=Zs R7
  obtain ⟨v16,v17,v18,v19,rfl,Zbd,Zck,A14,A15,Zb0,Zb1,Zb2,Zb3,Zbe,Zcl,A16,Zcm,Zc2,Zc3,Zd0,A17⟩:=T16
  refine dr [(10,false)] [(67,Za (Z2 sJ (Qy q.cols q.names))),(68,Za ([114,101,110,97,109,101,32] ++ (Z2 sJ (Qy q.cols q.names)))),(69,Za (([114,101,110,97,109,101,32] ++ (Z2 sJ (Qy q.cols q.names))) ++ [32,111,102,32])),(71,v4),(72,ZP p6),(73, .agg (QV x0 v16 v17 v18 v19).toArray),(74,Za (Z0 x0)),(75,Za ((([114,101,110,97,109,101,32] ++ (Z2 sJ (Qy q.cols q.names))) ++ [32,111,102,32]) ++ (Z0 x0)))] S10 ⟨fun _ hSw=>ZB hSw ZdS V V V (ZdZ hSw.imm (Qy q.cols q.names) _ A13 (by exact Zri ‹_› hdb)) V,fun _=>Zh [114,101,110,97,109,101,32] (Z2 sJ (Qy q.cols q.names)) (by have:=(show (Z2 sJ (Qy q.cols q.names)).length ≤ 1000000 by assumption); (try simp only [Zo]); have:=Zb; omega) V V V <| nu V V,fun _=>Zh ([114,101,110,97,109,101,32] ++ (Z2 sJ (Qy q.cols q.names))) [32,111,102,32] (by have:=(show (Z2 sJ (Qy q.cols q.names)).length ≤ 1000000 by assumption); (try simp only [Zo]); have:=Zb; omega) V V V <| nu V V,fun _ hSw=>Z hSw (Xh.drop 15 (C1.mono (L2.trans L3))) Yu V V V <| nu V V,fun _=>Zy 0 W5 Y1 Zt V V V V <| nu V V,fun _ hSw=>Zc hSw C6 (QV x0 v16 v17 v18 v19) Zt V V V V V <| nu V V,fun _ hSw=>ZB hSw Zbf V V V (ih hSw.imm x0 _ (Zr x0 Zbd Zck A14 A15 Zb0 Zb1 Zb2 Zb3 Zbe Zcl A16 Zcm Zc2 Zc3 Zd0 A17) (XN hn (List.mem_of_getElem? U0)) (Za5 hx (List.mem_of_getElem? U0)) htx) V,fun _=>Zh (([114,101,110,97,109,101,32] ++ (Z2 sJ (Qy q.cols q.names))) ++ [32,111,102,32]) (Z0 x0) (by have:=(show (Z2 sJ (Qy q.cols q.names)).length ≤ 1000000 by assumption); have:=(show (Z0 x0).length ≤ 300000 by assumption); (try simp only [Zo]); have:=Zb; omega) V V V <| nu V V,trivial⟩ (fun w9 S11=>?_)
  exact RT S11 V (congrArg Za (by with_reducible exact Z19 ‹_› hl1 (by assumption : q.l[0]? = some _)))
 refine Ze q.kind 5 V V V (fun h6=>?_) (fun h6=>?_)
 ·have hl2 : q.l.length = 2:=ht.a2 (by omega)
  have T17:=YG (l:=q.l) (k:=0) (by omega)
  obtain ⟨x0,U0⟩:=T17
  have T18:=YG (l:=q.l) (k:=1) (by omega)
  obtain ⟨y0,hy0⟩:=T18
  have htl:=ZhY U0 hy0
  have htx : (Z0 x0).length ≤ 300000:=by omega
  have hty : (Z0 y0).length ≤ 300000:=by omega
  refine Zc S1 C1 (QV q v1 v2 v3 v4) Zt V V V V V ?_
  refine Zl S1 ZdT V V V (Zea S1.imm n q x0 y0 ih _ (Zr q B1 B2 (A1.mono L1) (A2.mono L1) Z7 Z5 ZD hb6 hb7 ZV (A3.mono L1) hb9 ZI ZJ ZL (A4.mono L1)) hn hx U0 hy0 htx hty) (fun w10 G4 S12 L4=>?_)
  refine Zh [106,111,105,110] ([32,40] ++ Z0 x0 ++ [44,32] ++ Z0 y0 ++ [41]) (by have:=(Zko (Z0 x0) (Z0 y0) ‹_› ‹_›); (try simp only [Zo]); have:=Zb; omega) V V V ?_
  exact RT S12 V (congrArg Za (by with_reducible exact Z1B ‹_› (by assumption : q.l[0]? = some _) (by assumption : q.l[1]? = some _)))
 refine Ze q.kind 6 V V V (fun h7=>?_) (fun h7=>?_)
 ·have hl2 : q.l.length = 2:=ht.a2 (by omega)
  have T19:=YG (l:=q.l) (k:=0) (by omega)
  obtain ⟨x0,U0⟩:=T19
  have T20:=YG (l:=q.l) (k:=1) (by omega)
  obtain ⟨y0,hy0⟩:=T20
  have htl:=ZhY U0 hy0
  have htx : (Z0 x0).length ≤ 300000:=by omega
  have hty : (Z0 y0).length ≤ 300000:=by omega
  refine Zc S1 C1 (QV q v1 v2 v3 v4) Zt V V V V V ?_
  refine Zl S1 ZdT V V V (Zea S1.imm n q x0 y0 ih _ (Zr q B1 B2 (A1.mono L1) (A2.mono L1) Z7 Z5 ZD hb6 hb7 ZV (A3.mono L1) hb9 ZI ZJ ZL (A4.mono L1)) hn hx U0 hy0 htx hty) (fun w11 G5 S13 L5=>?_)
  refine Zh [117,110,105,111,110] ([32,40] ++ Z0 x0 ++ [44,32] ++ Z0 y0 ++ [41]) (by have:=(Zko (Z0 x0) (Z0 y0) ‹_› ‹_›); (try simp only [Zo]); have:=Zb; omega) V V V ?_
  exact RT S13 V (congrArg Za (by with_reducible exact Z1C ‹_› (by assumption : q.l[0]? = some _) (by assumption : q.l[1]? = some _)))
 refine Ze q.kind 7 V V V (fun h8=>?_) (fun h8=>?_)
 ·have hl2 : q.l.length = 2:=ht.a2 (by omega)
  have T21:=YG (l:=q.l) (k:=0) (by omega)
  obtain ⟨x0,U0⟩:=T21
  have T22:=YG (l:=q.l) (k:=1) (by omega)
  obtain ⟨y0,hy0⟩:=T22
  have htl:=ZhY U0 hy0
  have htx : (Z0 x0).length ≤ 300000:=by omega
  have hty : (Z0 y0).length ≤ 300000:=by omega
  refine Zc S1 C1 (QV q v1 v2 v3 v4) Zt V V V V V ?_
  refine Zl S1 ZdT V V V (Zea S1.imm n q x0 y0 ih _ (Zr q B1 B2 (A1.mono L1) (A2.mono L1) Z7 Z5 ZD hb6 hb7 ZV (A3.mono L1) hb9 ZI ZJ ZL (A4.mono L1)) hn hx U0 hy0 htx hty) (fun w12 G6 S14 L6=>?_)
  refine Zh [101,120,99,101,112,116] ([32,40] ++ Z0 x0 ++ [44,32] ++ Z0 y0 ++ [41]) (by have:=(Zko (Z0 x0) (Z0 y0) ‹_› ‹_›); (try simp only [Zo]); have:=Zb; omega) V V V ?_
  exact RT S14 V (congrArg Za (by with_reducible exact Z1D ‹_› (by assumption : q.l[0]? = some _) (by assumption : q.l[1]? = some _)))
 refine Ze q.kind 8 V V V (fun h9=>?_) (fun h9=>?_)
 ·have hl1 : (q.l.length : Int) = 1:=by have:=ht.a1 (by omega); omega
  have T23:=YG (l:=q.l) (k:=0) (by omega)
  obtain ⟨x0,U0⟩:=T23
  have htl:=Zdb hl1 U0
  have htx : (Z0 x0).length ≤ 300000:=by omega
  have hsp:=ht.sp ‹_›
  have T24:=Sl.at (A4.mono L1) 0 (by omega)
  obtain ⟨p7,x6,U6,E6,W6⟩:=T24
  have T25 : x0 = x6:=Option.some.inj (U0.symm.trans U6)
  obtain rfl:=T25
  obtain ⟨D6,C7,R8⟩:=E6
  have T26:=Zs R8
  obtain ⟨v20,v21,v22,v23,rfl,Zd1,Zd2,A18,A19,Zgc,Zfc,Zei,Zfd,Zej,Zek,A20,Zel,Zfe,Zff,Zcn,A21⟩:=T26
  refine dr [(18,false)] [(95,U q.span.a),(96,Za (Yk q.span.a)),(97,Za ([100,117,114,105,110,103,32] ++ (Yk q.span.a))),(98,Za (([100,117,114,105,110,103,32] ++ (Yk q.span.a)) ++ [32,116,111,32])),(101,U q.span.b),(102,Za (Yk q.span.b)),(103,Za ((([100,117,114,105,110,103,32] ++ (Yk q.span.a)) ++ [32,116,111,32]) ++ (Yk q.span.b))),(104,Za (((([100,117,114,105,110,103,32] ++ (Yk q.span.a)) ++ [32,116,111,32]) ++ (Yk q.span.b)) ++ [32,111,102,32])),(106,v4),(107,ZP p7),(108, .agg (QV x0 v20 v21 v22 v23).toArray),(109,Za (Z0 x0)),(110,Za ((((([100,117,114,105,110,103,32] ++ (Yk q.span.a)) ++ [32,116,111,32]) ++ (Yk q.span.b)) ++ [32,111,102,32]) ++ (Z0 x0)))] S1 ⟨fun _ hSw=>Z hSw (Xh.drop 0 (Xh.drop 13 C1)) Zk V V V <| nu V V,fun _ hSw=>ZB hSw Zg7 V V V (Zjx hSw.imm q.span.a ‹_› (by omega)) V,fun _=>Zh [100,117,114,105,110,103,32] (Yk q.span.a) (by have:=(Xa q.span.a (by omega)); (try simp only [Zo]); have:=Zb; omega) V V V <| nu V V,fun _=>Zh ([100,117,114,105,110,103,32] ++ (Yk q.span.a)) [32,116,111,32] (by have:=(Xa q.span.a (by omega)); (try simp only [Zo]); have:=Zb; omega) V V V <| nu V V,fun _ hSw=>Z hSw (Xh.drop 1 (Xh.drop 13 C1)) Zk V V V <| nu V V,fun _ hSw=>ZB hSw Zg7 V V V (Zjx hSw.imm q.span.b ‹_› (by omega)) V,fun _=>Zh (([100,117,114,105,110,103,32] ++ (Yk q.span.a)) ++ [32,116,111,32]) (Yk q.span.b) (by have:=(Xa q.span.a (by omega)); have:=(Xa q.span.b (by omega)); (try simp only [Zo]); have:=Zb; omega) V V V <| nu V V,fun _=>Zh ((([100,117,114,105,110,103,32] ++ (Yk q.span.a)) ++ [32,116,111,32]) ++ (Yk q.span.b)) [32,111,102,32] (by have:=(Xa q.span.a (by omega)); have:=(Xa q.span.b (by omega)); (try simp only [Zo]); have:=Zb; omega) V V V <| nu V V,fun _ hSw=>Z hSw (Xh.drop 15 C1) Yu V V V <| nu V V,fun _=>Zy 0 W6 Y1 Zt V V V V <| nu V V,fun _ hSw=>Zc hSw C7 (QV x0 v20 v21 v22 v23) Zt V V V V V <| nu V V,fun _ hSw=>ZB hSw Zbf V V V (ih hSw.imm x0 _ (Zr x0 Zd1 Zd2 A18 A19 Zgc Zfc Zei Zfd Zej Zek A20 Zel Zfe Zff Zcn A21) (XN hn (List.mem_of_getElem? U0)) (Za5 hx (List.mem_of_getElem? U0)) htx) V,fun _=>Zh (((([100,117,114,105,110,103,32] ++ (Yk q.span.a)) ++ [32,116,111,32]) ++ (Yk q.span.b)) ++ [32,111,102,32]) (Z0 x0) (by have:=(Xa q.span.a (by omega)); have:=(Xa q.span.b (by omega)); have:=(show (Z0 x0).length ≤ 300000 by assumption); (try simp only [Zo]); have:=Zb; omega) V V V <| nu V V,trivial⟩ (fun w13 S15=>?_)
  exact RT S15 V (congrArg Za (by with_reducible exact Z1A ‹_› hl1 (by assumption : q.l[0]? = some _)))
 refine Ze q.kind 9 V V V (fun h10=>?_) (fun h10=>?_)
 ·have T27:=ht.gr ‹_›
  obtain ⟨hgf,hgn⟩:=T27
  have N1 : 1 ≤ q.names.length:=by split at hgn <;> omega
  refine Z S1 (Xh.drop 2 C1) ZH V V V ?_
  have V2:=A1.bound
  refine Zm (A1.mono L1) Yb V V ?_
  refine Z1 (q.cols.length : Int) 0 V V V (fun h11=>?_) (fun h11=>?_)
  ·have hj9:=Zn8 ‹_› hdb (by omega)
   refine Z S1 (Xh.drop 2 C1) ZH V V V ?_
   refine Zl S1 ZdS V V V (ZdZ S1.imm q.cols _ (A1.mono L1) (by exact Zn8 ‹_› hdb (by omega))) (fun w14 G7 S16 L7=>?_)
   refine Zh [103,114,111,117,112,32] (Z2 sJ q.cols) (by have:=(show (Z2 sJ q.cols).length ≤ 1000000 by assumption); (try simp only [Zo]); have:=Zb; omega) V V V ?_
   refine Zh ([103,114,111,117,112,32] ++ (Z2 sJ q.cols)) [32] (by have:=(show (Z2 sJ q.cols).length ≤ 1000000 by assumption); (try simp only [Zo]); have:=Zb; omega) V V V ?_
   refine Zb5 _ [(0,[Za [99,111,117,110,116]]),(1,[Za [115,117,109]]),(2,[Za [109,105,110]]),(3,[Za [109,97,120]])] [Za [99,111,117,110,116],Za [115,117,109],Za [109,105,110],Za [109,97,120]] Zt2 Zkm Zv V V V V <| Z S16 (Xh.drop 12 (C1.mono L7)) Zk V V V ?_
   have hi1 : Zj (q.fn - 1):=by have:=ZI.1; have:=ZI.2; constructor <;> omega
   refine WL.ar .sub V q.fn 1 V V V hi1 ?_
   refine Zdv ([[99,111,117,110,116],[115,117,109],[109,105,110],[109,97,120]] : List Str) (((q.fn - 1)).toNat) (by (simp only [List.length_cons,List.length_nil]; omega)) Zkm V Zv V V V V (congrArg (Value.int .i64) (Int.toNat_of_nonneg (show (0 : Int) ≤ (q.fn - 1) by omega)).symm) (fun c1 U7=>?_)
   have hfe : c1 = fnN q.fn:=Zpx ‹_› hgf
   have hfl : c1.length ≤ 5:=by rw [hfe]; exact Zlp _
   refine Z S16 (Xh.drop 12 (C1.mono L7)) Zk V V V ?_
   refine Zz q.fn 1 V V V (fun h12=>?_) (fun h12=>?_)
   ·refine Zh c1 [32] (by (try simp only [Zo]); have:=Zb; omega) V V V ?_
    refine Z S16 (Xh.drop 3 (C1.mono L7)) ZH V V V ?_
    have j2:=(L1.trans L7)
    refine WL.indexAddr (A2.mono j2) 0 (by omega) Yb Zv V V V V (fun p8 x7 U8 E7=>?_)
    obtain ⟨D7,C8,R9⟩:=E7
    obtain ⟨rfl,Zfg⟩:=R9
    refine Z S16 C8 Zv V V V ?_
    refine Zh (c1 ++ [32]) x7 (by have:=(ht.nn _ (List.mem_of_getElem? U8)); (try simp only [Zo]); have:=Zb; omega) V V V ?_
    have hl1 : (q.l.length : Int) = 1:=by have:=ht.a1 (by omega); omega
    have T28:=YG (l:=q.l) (k:=0) (by omega)
    obtain ⟨x0,U0⟩:=T28
    have htl:=Zdb hl1 U0
    have htx : (Z0 x0).length ≤ 300000:=by omega
    have V3:=A2.bound
    have T29:=Sl.at (A2.mono j2) (q.names.length - 1) (by omega)
    obtain ⟨p9,x9,U9,E8,W7⟩:=T29
    obtain ⟨D8,C9,R10⟩:=E8
    obtain ⟨rfl,hb64⟩:=R10
    have T30:=Sl.at (A4.mono j2) 0 (by omega)
    obtain ⟨p10,x10,U10,E9,W8⟩:=T30
    have T31 : x0 = x10:=Option.some.inj (U0.symm.trans U10)
    obtain rfl:=T31
    obtain ⟨D9,C10,R11⟩:=E9
    have T32:=Zs R11
    obtain ⟨v24,v25,v26,v27,rfl,Zfh,Zd3,A22,A23,ZcS,Zd4,Zem,Zho,ZiL,Zgd,A24,ZiM,ZiN,Zhp,Zen,A25⟩:=T32
    refine dr [(20,false)] [(140,Za ((([103,114,111,117,112,32] ++ (Z2 sJ q.cols)) ++ [32]) ++ ((c1 ++ [32]) ++ x7))),(141,Za (((([103,114,111,117,112,32] ++ (Z2 sJ q.cols)) ++ [32]) ++ ((c1 ++ [32]) ++ x7)) ++ [32,97,115,32])),(143,v2),(145,v2),(146,U (q.names.length : Int)),(147,U ((q.names.length - 1 : Nat) : Int)),(148,ZP p9),(149,Za x9),(150,Za ((((([103,114,111,117,112,32] ++ (Z2 sJ q.cols)) ++ [32]) ++ ((c1 ++ [32]) ++ x7)) ++ [32,97,115,32]) ++ x9)),(151,Za (((((([103,114,111,117,112,32] ++ (Z2 sJ q.cols)) ++ [32]) ++ ((c1 ++ [32]) ++ x7)) ++ [32,97,115,32]) ++ x9) ++ [32,111,102,32])),(153,v4),(154,ZP p10),(155, .agg (QV x0 v24 v25 v26 v27).toArray),(156,Za (Z0 x0)),(157,Za ((((((([103,114,111,117,112,32] ++ (Z2 sJ q.cols)) ++ [32]) ++ ((c1 ++ [32]) ++ x7)) ++ [32,97,115,32]) ++ x9) ++ [32,111,102,32]) ++ (Z0 x0)))] S16 ⟨fun _=>Zh (([103,114,111,117,112,32] ++ (Z2 sJ q.cols)) ++ [32]) ((c1 ++ [32]) ++ x7) (by have:=(show (Z2 sJ q.cols).length ≤ 1000000 by assumption); have:=(ht.nn _ (List.mem_of_getElem? U8)); (try simp only [Zo]); have:=Zb; omega) V V V <| nu V V,fun _=>Zh ((([103,114,111,117,112,32] ++ (Z2 sJ q.cols)) ++ [32]) ++ ((c1 ++ [32]) ++ x7)) [32,97,115,32] (by have:=(show (Z2 sJ q.cols).length ≤ 1000000 by assumption); have:=(ht.nn _ (List.mem_of_getElem? U8)); (try simp only [Zo]); have:=Zb; omega) V V V <| nu V V,fun _ hSw=>Z hSw (Xh.drop 3 (C1.mono L7)) ZH V V V <| nu V V,fun _ hSw=>Z hSw (Xh.drop 3 (C1.mono L7)) ZH V V V <| nu V V,fun _=>Zm (A2.mono j2) Yb V V <| nu V V,fun _=>XW q.names.length (by omega) (by have:=Zb; omega) V V V <| nu V V,fun _=>Zy (q.names.length - 1) W7 Yb Zv V V V V <| nu V V,fun _ hSw=>Z hSw C9 Zv V V V <| nu V V,fun _=>Zh (((([103,114,111,117,112,32] ++ (Z2 sJ q.cols)) ++ [32]) ++ ((c1 ++ [32]) ++ x7)) ++ [32,97,115,32]) x9 (by have:=(show (Z2 sJ q.cols).length ≤ 1000000 by assumption); have:=(ht.nn _ (List.mem_of_getElem? U8)); have:=(ht.nn _ (List.mem_of_getElem? U9)); (try simp only [Zo]); have:=Zb; omega) V V V <| nu V V,fun _=>Zh ((((([103,114,111,117,112,32] ++ (Z2 sJ q.cols)) ++ [32]) ++ ((c1 ++ [32]) ++ x7)) ++ [32,97,115,32]) ++ x9) [32,111,102,32] (by have:=(show (Z2 sJ q.cols).length ≤ 1000000 by assumption); have:=(ht.nn _ (List.mem_of_getElem? U8)); have:=(ht.nn _ (List.mem_of_getElem? U9)); (try simp only [Zo]); have:=Zb; omega) V V V <| nu V V,fun _ hSw=>Z hSw (Xh.drop 15 (C1.mono L7)) Yu V V V <| nu V V,fun _=>Zy 0 W8 Y1 Zt V V V V <| nu V V,fun _ hSw=>Zc hSw C10 (QV x0 v24 v25 v26 v27) Zt V V V V V <| nu V V,fun _ hSw=>ZB hSw Zbf V V V (ih hSw.imm x0 _ (Zr x0 Zfh Zd3 A22 A23 ZcS Zd4 Zem Zho ZiL Zgd A24 ZiM ZiN Zhp Zen A25) (XN hn (List.mem_of_getElem? U0)) (Za5 hx (List.mem_of_getElem? U0)) htx) V,fun _=>Zh (((((([103,114,111,117,112,32] ++ (Z2 sJ q.cols)) ++ [32]) ++ ((c1 ++ [32]) ++ x7)) ++ [32,97,115,32]) ++ x9) ++ [32,111,102,32]) (Z0 x0) (by have:=(show (Z2 sJ q.cols).length ≤ 1000000 by assumption); have:=(ht.nn _ (List.mem_of_getElem? U8)); have:=(ht.nn _ (List.mem_of_getElem? U9)); have:=(show (Z0 x0).length ≤ 300000 by assumption); (try simp only [Zo]); have:=Zb; omega) V V V <| nu V V,trivial⟩ (fun w15 S17=>?_)
    exact RT S17 V (congrArg Za (by with_reducible exact Z0b ‹_› hgf hgn hfe (by omega) ‹_› (by assumption : q.names[0]? = some _) (by assumption : q.names[q.names.length - 1]? = some _) hl1 (by assumption : q.l[0]? = some _)))
   have hl1 : (q.l.length : Int) = 1:=by have:=ht.a1 (by omega); omega
   have T33:=YG (l:=q.l) (k:=0) (by omega)
   obtain ⟨x0,U0⟩:=T33
   have htl:=Zdb hl1 U0
   have htx : (Z0 x0).length ≤ 300000:=by omega
   have V4:=A2.bound
   have j3:=(L1.trans L7)
   have T34:=Sl.at (A2.mono j3) (q.names.length - 1) (by omega)
   obtain ⟨p11,x11,U11,E10,W9⟩:=T34
   obtain ⟨D10,C11,R12⟩:=E10
   obtain ⟨rfl,Zfi⟩:=R12
   have T35:=Sl.at (A4.mono j3) 0 (by omega)
   obtain ⟨p12,x12,U12,E11,W10⟩:=T35
   have T36 : x0 = x12:=Option.some.inj (U0.symm.trans U12)
   obtain rfl:=T36
   obtain ⟨D11,C12,R13⟩:=E11
   have T37:=Zs R13
   obtain ⟨v28,v29,v30,v31,rfl,Zeo,Zep,A26,A27,Zeq,Zfj,Zfk,Zhq,B85,ZiO,A28,Zer,Zhr,ZiP,Zhs,A29⟩:=T37
   refine dr [(20,false)] [(140,Za ((([103,114,111,117,112,32] ++ (Z2 sJ q.cols)) ++ [32]) ++ c1)),(141,Za (((([103,114,111,117,112,32] ++ (Z2 sJ q.cols)) ++ [32]) ++ c1) ++ [32,97,115,32])),(143,v2),(145,v2),(146,U (q.names.length : Int)),(147,U ((q.names.length - 1 : Nat) : Int)),(148,ZP p11),(149,Za x11),(150,Za ((((([103,114,111,117,112,32] ++ (Z2 sJ q.cols)) ++ [32]) ++ c1) ++ [32,97,115,32]) ++ x11)),(151,Za (((((([103,114,111,117,112,32] ++ (Z2 sJ q.cols)) ++ [32]) ++ c1) ++ [32,97,115,32]) ++ x11) ++ [32,111,102,32])),(153,v4),(154,ZP p12),(155, .agg (QV x0 v28 v29 v30 v31).toArray),(156,Za (Z0 x0)),(157,Za ((((((([103,114,111,117,112,32] ++ (Z2 sJ q.cols)) ++ [32]) ++ c1) ++ [32,97,115,32]) ++ x11) ++ [32,111,102,32]) ++ (Z0 x0)))] S16 ⟨fun _=>Zh (([103,114,111,117,112,32] ++ (Z2 sJ q.cols)) ++ [32]) c1 (by have:=(show (Z2 sJ q.cols).length ≤ 1000000 by assumption); (try simp only [Zo]); have:=Zb; omega) V V V <| nu V V,fun _=>Zh ((([103,114,111,117,112,32] ++ (Z2 sJ q.cols)) ++ [32]) ++ c1) [32,97,115,32] (by have:=(show (Z2 sJ q.cols).length ≤ 1000000 by assumption); (try simp only [Zo]); have:=Zb; omega) V V V <| nu V V,fun _ hSw=>Z hSw (Xh.drop 3 (C1.mono L7)) ZH V V V <| nu V V,fun _ hSw=>Z hSw (Xh.drop 3 (C1.mono L7)) ZH V V V <| nu V V,fun _=>Zm (A2.mono j3) Yb V V <| nu V V,fun _=>XW q.names.length (by omega) (by have:=Zb; omega) V V V <| nu V V,fun _=>Zy (q.names.length - 1) W9 Yb Zv V V V V <| nu V V,fun _ hSw=>Z hSw C11 Zv V V V <| nu V V,fun _=>Zh (((([103,114,111,117,112,32] ++ (Z2 sJ q.cols)) ++ [32]) ++ c1) ++ [32,97,115,32]) x11 (by have:=(show (Z2 sJ q.cols).length ≤ 1000000 by assumption); have:=(ht.nn _ (List.mem_of_getElem? U11)); (try simp only [Zo]); have:=Zb; omega) V V V <| nu V V,fun _=>Zh ((((([103,114,111,117,112,32] ++ (Z2 sJ q.cols)) ++ [32]) ++ c1) ++ [32,97,115,32]) ++ x11) [32,111,102,32] (by have:=(show (Z2 sJ q.cols).length ≤ 1000000 by assumption); have:=(ht.nn _ (List.mem_of_getElem? U11)); (try simp only [Zo]); have:=Zb; omega) V V V <| nu V V,fun _ hSw=>Z hSw (Xh.drop 15 (C1.mono L7)) Yu V V V <| nu V V,fun _=>Zy 0 W10 Y1 Zt V V V V <| nu V V,fun _ hSw=>Zc hSw C12 (QV x0 v28 v29 v30 v31) Zt V V V V V <| nu V V,fun _ hSw=>ZB hSw Zbf V V V (ih hSw.imm x0 _ (Zr x0 Zeo Zep A26 A27 Zeq Zfj Zfk Zhq B85 ZiO A28 Zer Zhr ZiP Zhs A29) (XN hn (List.mem_of_getElem? U0)) (Za5 hx (List.mem_of_getElem? U0)) htx) V,fun _=>Zh (((((([103,114,111,117,112,32] ++ (Z2 sJ q.cols)) ++ [32]) ++ c1) ++ [32,97,115,32]) ++ x11) ++ [32,111,102,32]) (Z0 x0) (by have:=(show (Z2 sJ q.cols).length ≤ 1000000 by assumption); have:=(ht.nn _ (List.mem_of_getElem? U11)); have:=(show (Z0 x0).length ≤ 300000 by assumption); (try simp only [Zo]); have:=Zb; omega) V V V <| nu V V,trivial⟩ (fun w16 S18=>?_)
   exact RT S18 V (congrArg Za (by with_reducible exact Z0c ‹_› hgf hgn hfe (by omega) (by omega) (by assumption : q.names[q.names.length - 1]? = some _) hl1 (by assumption : q.l[0]? = some _)))
  refine Zb5 _ [(0,[Za [99,111,117,110,116]]),(1,[Za [115,117,109]]),(2,[Za [109,105,110]]),(3,[Za [109,97,120]])] [Za [99,111,117,110,116],Za [115,117,109],Za [109,105,110],Za [109,97,120]] Zt2 Zkm Zv V V V V <| Z S1 (Xh.drop 12 C1) Zk V V V ?_
  have hi2 : Zj (q.fn - 1):=by have:=ZI.1; have:=ZI.2; constructor <;> omega
  refine WL.ar .sub V q.fn 1 V V V hi2 ?_
  refine Zdv ([[99,111,117,110,116],[115,117,109],[109,105,110],[109,97,120]] : List Str) (((q.fn - 1)).toNat) (by (simp only [List.length_cons,List.length_nil]; omega)) Zkm V Zv V V V V (congrArg (Value.int .i64) (Int.toNat_of_nonneg (show (0 : Int) ≤ (q.fn - 1) by omega)).symm) (fun c2 U13=>?_)
  have hfe : c2 = fnN q.fn:=Zpx ‹_› hgf
  have hfl : c2.length ≤ 5:=by rw [hfe]; exact Zlp _
  refine Z S1 (Xh.drop 12 C1) Zk V V V ?_
  refine Zz q.fn 1 V V V (fun h13=>?_) (fun h13=>?_)
  ·refine Zh c2 [32] (by (try simp only [Zo]); have:=Zb; omega) V V V ?_
   refine Z S1 (Xh.drop 3 C1) ZH V V V ?_
   refine WL.indexAddr (A2.mono L1) 0 (by omega) Yb Zv V V V V (fun p13 x13 U14 E12=>?_)
   obtain ⟨D12,C13,R14⟩:=E12
   obtain ⟨rfl,ZiQ⟩:=R14
   refine Z S1 C13 Zv V V V ?_
   refine Zh (c2 ++ [32]) x13 (by have:=(ht.nn _ (List.mem_of_getElem? U14)); (try simp only [Zo]); have:=Zb; omega) V V V ?_
   have hl1 : (q.l.length : Int) = 1:=by have:=ht.a1 (by omega); omega
   have T38:=YG (l:=q.l) (k:=0) (by omega)
   obtain ⟨x0,U0⟩:=T38
   have htl:=Zdb hl1 U0
   have htx : (Z0 x0).length ≤ 300000:=by omega
   have V5:=A2.bound
   have T39:=Sl.at (A2.mono L1) (q.names.length - 1) (by omega)
   obtain ⟨p14,x14,U15,E13,W11⟩:=T39
   obtain ⟨D13,C14,R15⟩:=E13
   obtain ⟨rfl,ZiR⟩:=R15
   have T40:=Sl.at (A4.mono L1) 0 (by omega)
   obtain ⟨p15,x15,U16,E14,W12⟩:=T40
   have T41 : x0 = x15:=Option.some.inj (U0.symm.trans U16)
   obtain rfl:=T41
   obtain ⟨D14,C15,R16⟩:=E14
   have T42:=Zs R16
   obtain ⟨v32,v33,v34,v35,rfl,Zht,Zfl,A30,A31,Zd5,Zhu,ZbM,Zb4,Zhv,Zdf,A32,Zfm,Zfn,Zfo,ZdU,A33⟩:=T42
   refine dr [(20,false)] [(140,Za ([103,114,111,117,112,32] ++ ((c2 ++ [32]) ++ x13))),(141,Za (([103,114,111,117,112,32] ++ ((c2 ++ [32]) ++ x13)) ++ [32,97,115,32])),(143,v2),(145,v2),(146,U (q.names.length : Int)),(147,U ((q.names.length - 1 : Nat) : Int)),(148,ZP p14),(149,Za x14),(150,Za ((([103,114,111,117,112,32] ++ ((c2 ++ [32]) ++ x13)) ++ [32,97,115,32]) ++ x14)),(151,Za (((([103,114,111,117,112,32] ++ ((c2 ++ [32]) ++ x13)) ++ [32,97,115,32]) ++ x14) ++ [32,111,102,32])),(153,v4),(154,ZP p15),(155, .agg (QV x0 v32 v33 v34 v35).toArray),(156,Za (Z0 x0)),(157,Za ((((([103,114,111,117,112,32] ++ ((c2 ++ [32]) ++ x13)) ++ [32,97,115,32]) ++ x14) ++ [32,111,102,32]) ++ (Z0 x0)))] S1 ⟨fun _=>Zh [103,114,111,117,112,32] ((c2 ++ [32]) ++ x13) (by have:=(ht.nn _ (List.mem_of_getElem? U14)); (try simp only [Zo]); have:=Zb; omega) V V V <| nu V V,fun _=>Zh ([103,114,111,117,112,32] ++ ((c2 ++ [32]) ++ x13)) [32,97,115,32] (by have:=(ht.nn _ (List.mem_of_getElem? U14)); (try simp only [Zo]); have:=Zb; omega) V V V <| nu V V,fun _ hSw=>Z hSw (Xh.drop 3 C1) ZH V V V <| nu V V,fun _ hSw=>Z hSw (Xh.drop 3 C1) ZH V V V <| nu V V,fun _=>Zm (A2.mono L1) Yb V V <| nu V V,fun _=>XW q.names.length (by omega) (by have:=Zb; omega) V V V <| nu V V,fun _=>Zy (q.names.length - 1) W11 Yb Zv V V V V <| nu V V,fun _ hSw=>Z hSw C14 Zv V V V <| nu V V,fun _=>Zh (([103,114,111,117,112,32] ++ ((c2 ++ [32]) ++ x13)) ++ [32,97,115,32]) x14 (by have:=(ht.nn _ (List.mem_of_getElem? U14)); have:=(ht.nn _ (List.mem_of_getElem? U15)); (try simp only [Zo]); have:=Zb; omega) V V V <| nu V V,fun _=>Zh ((([103,114,111,117,112,32] ++ ((c2 ++ [32]) ++ x13)) ++ [32,97,115,32]) ++ x14) [32,111,102,32] (by have:=(ht.nn _ (List.mem_of_getElem? U14)); have:=(ht.nn _ (List.mem_of_getElem? U15)); (try simp only [Zo]); have:=Zb; omega) V V V <| nu V V,fun _ hSw=>Z hSw (Xh.drop 15 C1) Yu V V V <| nu V V,fun _=>Zy 0 W12 Y1 Zt V V V V <| nu V V,fun _ hSw=>Zc hSw C15 (QV x0 v32 v33 v34 v35) Zt V V V V V <| nu V V,fun _ hSw=>ZB hSw Zbf V V V (ih hSw.imm x0 _ (Zr x0 Zht Zfl A30 A31 Zd5 Zhu ZbM Zb4 Zhv Zdf A32 Zfm Zfn Zfo ZdU A33) (XN hn (List.mem_of_getElem? U0)) (Za5 hx (List.mem_of_getElem? U0)) htx) V,fun _=>Zh (((([103,114,111,117,112,32] ++ ((c2 ++ [32]) ++ x13)) ++ [32,97,115,32]) ++ x14) ++ [32,111,102,32]) (Z0 x0) (by have:=(ht.nn _ (List.mem_of_getElem? U14)); have:=(ht.nn _ (List.mem_of_getElem? U15)); have:=(show (Z0 x0).length ≤ 300000 by assumption); (try simp only [Zo]); have:=Zb; omega) V V V <| nu V V,trivial⟩ (fun w17 S19=>?_)
   exact RT S19 V (congrArg Za (by with_reducible exact Z0d ‹_› hgf hgn hfe (by omega) ‹_› (by assumption : q.names[0]? = some _) (by assumption : q.names[q.names.length - 1]? = some _) hl1 (by assumption : q.l[0]? = some _)))
  have hl1 : (q.l.length : Int) = 1:=by have:=ht.a1 (by omega); omega
  have T43:=YG (l:=q.l) (k:=0) (by omega)
  obtain ⟨x0,U0⟩:=T43
  have htl:=Zdb hl1 U0
  have htx : (Z0 x0).length ≤ 300000:=by omega
  have V6:=A2.bound
  have T44:=Sl.at (A2.mono L1) (q.names.length - 1) (by omega)
  obtain ⟨p16,x16,U17,E15,W13⟩:=T44
  obtain ⟨D15,C16,R17⟩:=E15
  obtain ⟨rfl,Zfp⟩:=R17
  have T45:=Sl.at (A4.mono L1) 0 (by omega)
  obtain ⟨p17,x17,U18,E16,W14⟩:=T45
  have T46 : x0 = x17:=Option.some.inj (U0.symm.trans U18)
  obtain rfl:=T46
  obtain ⟨D16,C17,R18⟩:=E16
  have T47:=Zs R18
  obtain ⟨v36,v37,v38,v39,rfl,Zfq,Zfr,A34,A35,ZdV,ZjZ,Zka,Zkb,Zkc,Zkd,A36,Zke,Zkf,Zkg,Zkh,A37⟩:=T47
  refine dr [(20,false)] [(140,Za ([103,114,111,117,112,32] ++ c2)),(141,Za (([103,114,111,117,112,32] ++ c2) ++ [32,97,115,32])),(143,v2),(145,v2),(146,U (q.names.length : Int)),(147,U ((q.names.length - 1 : Nat) : Int)),(148,ZP p16),(149,Za x16),(150,Za ((([103,114,111,117,112,32] ++ c2) ++ [32,97,115,32]) ++ x16)),(151,Za (((([103,114,111,117,112,32] ++ c2) ++ [32,97,115,32]) ++ x16) ++ [32,111,102,32])),(153,v4),(154,ZP p17),(155, .agg (QV x0 v36 v37 v38 v39).toArray),(156,Za (Z0 x0)),(157,Za ((((([103,114,111,117,112,32] ++ c2) ++ [32,97,115,32]) ++ x16) ++ [32,111,102,32]) ++ (Z0 x0)))] S1 ⟨fun _=>Zh [103,114,111,117,112,32] c2 (by (try simp only [Zo]); have:=Zb; omega) V V V <| nu V V,fun _=>Zh ([103,114,111,117,112,32] ++ c2) [32,97,115,32] (by (try simp only [Zo]); have:=Zb; omega) V V V <| nu V V,fun _ hSw=>Z hSw (Xh.drop 3 C1) ZH V V V <| nu V V,fun _ hSw=>Z hSw (Xh.drop 3 C1) ZH V V V <| nu V V,fun _=>Zm (A2.mono L1) Yb V V <| nu V V,fun _=>XW q.names.length (by omega) (by have:=Zb; omega) V V V <| nu V V,fun _=>Zy (q.names.length - 1) W13 Yb Zv V V V V <| nu V V,fun _ hSw=>Z hSw C16 Zv V V V <| nu V V,fun _=>Zh (([103,114,111,117,112,32] ++ c2) ++ [32,97,115,32]) x16 (by have:=(ht.nn _ (List.mem_of_getElem? U17)); (try simp only [Zo]); have:=Zb; omega) V V V <| nu V V,fun _=>Zh ((([103,114,111,117,112,32] ++ c2) ++ [32,97,115,32]) ++ x16) [32,111,102,32] (by have:=(ht.nn _ (List.mem_of_getElem? U17)); (try simp only [Zo]); have:=Zb; omega) V V V <| nu V V,fun _ hSw=>Z hSw (Xh.drop 15 C1) Yu V V V <| nu V V,fun _=>Zy 0 W14 Y1 Zt V V V V <| nu V V,fun _ hSw=>Zc hSw C17 (QV x0 v36 v37 v38 v39) Zt V V V V V <| nu V V,fun _ hSw=>ZB hSw Zbf V V V (ih hSw.imm x0 _ (Zr x0 Zfq Zfr A34 A35 ZdV ZjZ Zka Zkb Zkc Zkd A36 Zke Zkf Zkg Zkh A37) (XN hn (List.mem_of_getElem? U0)) (Za5 hx (List.mem_of_getElem? U0)) htx) V,fun _=>Zh (((([103,114,111,117,112,32] ++ c2) ++ [32,97,115,32]) ++ x16) ++ [32,111,102,32]) (Z0 x0) (by have:=(ht.nn _ (List.mem_of_getElem? U17)); have:=(show (Z0 x0).length ≤ 300000 by assumption); (try simp only [Zo]); have:=Zb; omega) V V V <| nu V V,trivial⟩ (fun w18 S20=>?_)
  exact RT S20 V (congrArg Za (by with_reducible exact Z0e ‹_› hgf hgn hfe (by omega) (by omega) (by assumption : q.names[q.names.length - 1]? = some _) hl1 (by assumption : q.l[0]? = some _)))
 have hk10 : q.kind = 10:=by omega
 have hj:=ZsD hk10 hdb
 have hrl0:=ht.rl hk10
 have S22:=S1.pad
 refine LP.go ft [] (fun m ρ1 w1=>∃ (k2 : Nat),∃ (v40 : Value) (o3 : OB),∃ (G9 : GH),m = 13 - k2 ∧ G1.le G9 ∧ St w [] G G9 [o3] w1 ∧ YX Enc.str 16 9 G9 v40 (XA q.rel k2) o3 ∧ FR ρ1 [(1,ZP p1),(7,v40),(8,U (k2 : Int))] ∧ k2 ≤ 13) _ ⟨0,(Zf),none,G1,V,(G1.le_refl),S22,(YX.cast (YX.nil Enc.str 16 9 G1) (by rfl)),⟨V,V,V,trivial⟩,(by omega)⟩ ?_
 rintro m ρ1 w19 ⟨k2,v40,o3,G9,rfl,L9,S21,R19,F9,f2⟩
 refine F9.set ?_
 clear F9
 have hrl:=@Zlo k2 q.rel
 refine Zp (k2 : Int) 13 V V V (fun h14=>?_) (fun h14=>?_)
 ·refine Z S21 (Xh.drop 11 (C1.mono L9)) Zk V V V ?_
  refine Zmo q.rel (k2 : Int) (by omega) (by omega) V V V ?_
  refine Zmp (q.rel / 2 ^ (k2 : Int).toNat) 1 V V V ?_
  refine Ze (Go.bits .and .i64 (q.rel / 2 ^ (k2 : Int).toNat) 1) 1 V V V (fun h15=>?_) (fun h15=>?_)
  ·refine Zl S21 Zin V V V (ZpV S21.imm (k2 : Int) (by omega)) (fun w20 G10 S23 L10=>?_)
   refine WL.buildSlice _ [(0,[Za (Zah (k2 : Int))])] [Za (Zah (k2 : Int))] S23 XI V V V V (fun z hz=>by match z,hz with | [z0],_=>rfl) (fun b2 w21 N2 S24=>?_)
   refine WL.push (m:=([(Zah (k2 : Int))] : List (List UInt8))) XI V V V (R19.mono L10) S24 1 V 0 _ _ _ _ _ V ⟨[Za (Zah (k2 : Int))],_,V,⟨V,(Nat.le_trans (Zll (k2 : Int)) (by decide))⟩,V⟩ V (by have:=Zb; simp only [List.length_append,List.length_map,List.length_take,List.length_cons,List.length_nil]; omega) (by have:=Zb; simp only [List.length_append,List.length_map,List.length_take,List.length_cons,List.length_nil]; omega) V V V (fun v41 o4 w22 R20 S25=>?_)
   have S26:=S25.tail
   refine Zq k2 (by have:=Zb; omega) V V V ?_
   exact BK.mk' _ ⟨k2 + 1,v41,o4,G10,V,(L9.trans L10),S26,(YX.cast R20 (by (exact Zpv (by omega) ‹_›))),⟨V,V,V,trivial⟩,(by omega)⟩ (show 13 - (k2 + 1) < 13 - k2 by omega)
  refine Zq k2 (by have:=Zb; omega) V V V ?_
  exact BK.mk' _ ⟨k2 + 1,v40,o3,G9,V,L9,S21,(YX.cast R19 (by (exact Zpw (by omega) ‹_›))),⟨V,V,V,trivial⟩,(by omega)⟩ (show 13 - (k2 + 1) < 13 - k2 by omega)
 have hl2 : q.l.length = 2:=ht.a2 (by omega)
 have T48:=YG (l:=q.l) (k:=0) (by omega)
 obtain ⟨x0,U0⟩:=T48
 have T49:=YG (l:=q.l) (k:=1) (by omega)
 obtain ⟨y0,hy0⟩:=T49
 have htl:=ZhY U0 hy0
 have htx : (Z0 x0).length ≤ 300000:=by omega
 have hty : (Z0 y0).length ≤ 300000:=by omega
 have hrr:=YX.cast (l':=XA q.rel 13) R19 (by rw [show (k2 : Nat) = 13 by omega])
 have T50:=YX.freeze hrr S21 0 V
 obtain ⟨G11,L11,A38,S27⟩:=T50
 refine dr [(6,false)] [(174,Za (Z2 sJ (XA q.rel 13))),(175,Za ([114,101,108,97,116,101,32] ++ (Z2 sJ (XA q.rel 13)))),(176, .agg (QV q v1 v2 v3 v4).toArray),(177,Za ([32,40] ++ Z0 x0 ++ [44,32] ++ Z0 y0 ++ [41])),(178,Za (([114,101,108,97,116,101,32] ++ (Z2 sJ (XA q.rel 13))) ++ ([32,40] ++ Z0 x0 ++ [44,32] ++ Z0 y0 ++ [41])))] S27 ⟨fun _ hSw=>ZB hSw ZdS V V V (ZdZ hSw.imm (XA q.rel 13) _ A38 (by exact hj)) V,fun _=>Zh [114,101,108,97,116,101,32] (Z2 sJ (XA q.rel 13)) (by have:=(show (Z2 sJ (XA q.rel 13)).length ≤ 1000000 by assumption); (try simp only [Zo]); have:=Zb; omega) V V V <| nu V V,fun _ hSw=>Zc hSw (C1.mono (L9.trans L11)) (QV q v1 v2 v3 v4) Zt V V V V V <| nu V V,fun _ hSw=>ZB hSw ZdT V V V (Zea hSw.imm n q x0 y0 ih _ (Zr q B1 B2 (A1.mono ((L1.trans L9).trans L11)) (A2.mono ((L1.trans L9).trans L11)) Z7 Z5 ZD hb6 hb7 ZV (A3.mono ((L1.trans L9).trans L11)) hb9 ZI ZJ ZL (A4.mono ((L1.trans L9).trans L11))) hn hx U0 hy0 htx hty) V,fun _=>Zh ([114,101,108,97,116,101,32] ++ (Z2 sJ (XA q.rel 13))) ([32,40] ++ Z0 x0 ++ [44,32] ++ Z0 y0 ++ [41]) (by have:=(show (Z2 sJ (XA q.rel 13)).length ≤ 1000000 by assumption); have:=(Zko (Z0 x0) (Z0 y0) ‹_› ‹_›); (try simp only [Zo]); have:=Zb; omega) V V V <| nu V V,trivial⟩ (fun w23 S28=>?_)
 exact RT S28 V (congrArg Za (by with_reducible exact Z0a hk10 (by assumption : q.l[0]? = some _) (by assumption : q.l[1]? = some _)))
end Go.Civ
