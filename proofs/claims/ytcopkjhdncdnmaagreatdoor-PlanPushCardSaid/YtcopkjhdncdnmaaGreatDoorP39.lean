/- Lemmas. -/
import Derived.Test.YtcopkjhdncdnmaaGreatDoorP32
import Derived.Test.YtcopkjhdncdnmaaGreatDoorP38
set_option linter.unusedVariables false
set_option linter.unusedSimpArgs false
set_option maxRecDepth 100000
set_option maxHeartbeats 4000000
namespace Go.Civ
open Go.Proofs
theorem ZoK (n : Nat) : ∀ {G : GH} {w : World} (hG : G.In w) (q : Query) (l : List Schema) (cq : List Value) (hcq : QryE.rep G q cq) (vl : Value) (hvl : Sl SchemaE 72 G vl l) (hgs : QG l = true) (hn : Xx q n) (hok : okQ n q),CL Tryz.prog (nat_lit 115) #[.agg cq.toArray,vl] [] w G fun G' _ r=>∃ r0 r1,r = .tuple #[r0,r1] ∧ Sl ColE 24 G' r0 ((Y5 n q l).1) ∧ r1 = U ((Y5 n q l).2):=by
 induction n
 ·intro G w hG q l cq hcq vl hvl hgs hn hok; exact (hok).elim
 rename_i n ih
 intro G w hG q l cq hcq vl hvl hgs hn hok
 refine Zo ft [] Tryz.func115 V V ?_
 have hS:=St.start (X:=[]) hG
 have T1:=Ze hcq
 obtain ⟨v1,v2,v3,v4,rfl,B1,B2,A1,A2,B3,B4,B5,B6,B7,ZK,A3,hb9,Z9,Z7,Z6,A4⟩:=T1
 refine ZL [U q.kind,Zb q.table,v1,v2,U q.cond.kind,Zb q.cond.col,Zb q.cond.oth,U q.cond.v.k,U q.cond.v.n,Zb q.cond.v.s,v3,U q.rel,U q.fn,U q.span.a,U q.span.b,v4] _ hS V V V (fun p1 w1 G1 L1 M1 C1 S1=>?_)
 have S3:=S1.pad
 refine LP.go ft [] (fun m ρ1 w1=>∃ (k1 : Nat),∃ (v5 : Value) (o1 : OB),∃ (G2 : GH),m = q.l.length - k1 ∧ G1.le G2 ∧ St w [] G G2 [o1] w1 ∧ YH (ColE.slice 24) 24 43 G2 v5 ((q.l.take k1).map fun x=>(Y5 n x l).1) o1 ∧ FR ρ1 [(1,vl),(2,Zu p1),(6,v5),(7,U (k1 : Int))] ∧ k1 ≤ q.l.length ∧ ∀ j,j < k1 → ∀ x,q.l[j]? = some x → (Y5 n x l).2 = 0) _ ⟨0,(Zh),none,G1,V,(G1.le_refl),S3,(YH.cast (YH.nil (ColE.slice 24) 24 43 G1) (by rfl)),(Yt V),(by omega),(by intro j hj; omega)⟩ ?_
 rintro m ρ1 w2 ⟨k1,v5,o1,G2,rfl,L2,S2,R1,F9,f1,f2⟩
 refine F9.set ?_
 clear F9
 refine Za S2 (YC.drop 15 (C1.mono L2)) ZX V V V ?_
 have V1:=A4.bound
 have j1:=(L1.trans L2)
 refine Zl (A4.mono j1) ZS V V ?_
 refine Z1 (k1 : Int) (q.l.length : Int) V V V (fun h1=>?_) (fun h1=>?_)
 ·refine Za S2 (YC.drop 15 (C1.mono L2)) ZX V V V ?_
  refine WL.indexAddr (A4.mono j1) k1 (by omega) ZS Zg V V V V (fun p2 x1 U1 E1=>?_)
  obtain ⟨D1,C2,R2⟩:=E1
  have T2:=Ze R2
  obtain ⟨v6,v7,v9,v10,rfl,ZV,Ye,A5,A6,Yd,B16,B17,Yf,B19,B20,A7,B21,B22,B23,B24,A8⟩:=T2
  refine Zc S2 C2 [U x1.kind,Zb x1.table,v6,v7,U x1.cond.kind,Zb x1.cond.col,Zb x1.cond.oth,U x1.cond.v.k,U x1.cond.v.n,Zb x1.cond.v.s,v9,U x1.rel,U x1.fn,U x1.span.a,U x1.span.b,v10] Zg V V V V V ?_
  refine Zv S2 Zao V V V (ih S2.imm x1 l _ (Zd x1 ZV Ye A5 A6 Yd B16 B17 Yf B19 B20 A7 B21 B22 B23 B24 A8) _ (hvl.mono j1) hgs (Yp hn (List.mem_of_getElem? ‹_›)) (hok.2.2.2 _ (List.mem_of_getElem? ‹_›))) ?_
  rintro w3 G3 _ ⟨r2,_,rfl,A9,rfl⟩ S4 L3
  refine Z8 ((Y5 n x1 l).2) 0 V V V (fun h2=>?_) (fun h2=>?_)
  ·exact RT S4 V ⟨_,_,V,(Sl.cast (Sl.nil ColE 24 G3) (by with_reducible exact (Zfq ‹_› ‹_› ‹_›).1)),(congrArg (Value.int .i64) (by with_reducible exact (Zfq ‹_› ‹_› ‹_›).2))⟩
  refine WL.buildSlice _ [(0,[r2])] [r2] S4 Zhx V V V (by show [(0,(r2 : Value).cells.toList)] = _; simp only [A9.cells1] <;> rfl) (fun z hz=>by match z,hz with | [z0],_=>rfl) (fun b1 w4 N1 S5=>?_)
  refine WL.push (m:=([(Y5 n x1 l).1] : List (List Col))) Zhx V V V (R1.mono L3) S5 1 V 0 _ _ _ _ _ V ⟨[r2],_,V,⟨_,V,A9⟩,V⟩ V (by have:=Zm; have hby9:=(by assumption : Sl QryE 224 G _ q.l).bytes; simp only [List.length_append,List.length_map,List.length_take,List.length_cons,List.length_nil]; omega) (by have:=Zm; have hby9:=(by assumption : Sl QryE 224 G _ q.l).bytes; simp only [List.length_append,List.length_map,List.length_take,List.length_cons,List.length_nil]; omega) V V V (fun v11 o2 w5 R3 S6=>?_)
  have S7:=S6.tail
  refine ZC k1 (by have:=Zm; omega) V V V ?_
  exact BK.mk' _ ⟨k1 + 1,v11,o2,G3,V,(L2.trans L3),S7,(YH.cast R3 (by (rw [List.take_add_one,(by assumption : q.l[k1]? = some _)]; simp))),(Yt V),(by omega),(by with_reducible exact Yz ‹_› ‹_› ‹_›)⟩ (show q.l.length - (k1 + 1) < q.l.length - k1 by omega)
 have T3:=YH.freeze R1 S2 0 V
 obtain ⟨G4,L4,A10,S8⟩:=T3
 have hins:=Sl.cast (l':=q.l.map fun x=>(Y5 n x l).1) A10 (by rw [List.take_of_length_le (by omega)])
 have hcf:=ZhX (by assumption : ∀ j,j < k1 → ∀ x,q.l[j]? = some x → (Y5 n x l).2 = 0) (by omega)
 have hile:=Zn1 (ZhZ hgs) hok
 have hind:=Zr2 hgs hok
 have hpl:=Zmc hok
 have hinl : (q.l.map fun x=>(Y5 n x l).1).length = q.l.length:=List.length_map _
 have j2:=(L2.trans L4)
 refine Za S8 (YC.drop 0 (C1.mono j2)) Z3 V V V ?_
 refine Zj q.kind 1 V V V (fun h3=>?_) (fun h3=>?_)
 ·refine LP.go ft [] (fun m ρ1 w1=>∃ (k2 : Nat),∃ (G5 : GH),m = l.length - k2 ∧ G4.le G5 ∧ St w [] G G5 [none] w1 ∧ FR ρ1 [(1,vl),(2,Zu p1),(10,U (k2 : Int))] ∧ k2 ≤ l.length ∧ ∀ j,j < k2 → ∀ s,l[j]? = some s → ¬ s.name = q.table) _ ⟨0,G4,V,(G4.le_refl),S8,⟨V,V,V,trivial⟩,(by omega),(by intro j hj; omega)⟩ ?_
  rintro m ρ1 w6 ⟨k2,G5,rfl,L5,S9,F9,f3,f4⟩
  refine F9.set ?_
  clear F9
  have V2:=hvl.bound
  have j3:=((j1.trans L4).trans L5)
  refine Zl (hvl.mono j3) Zb3 V V ?_
  refine Z1 (k2 : Int) (l.length : Int) V V V (fun h4=>?_) (fun h4=>?_)
  ·have T4:=Sl.at (hvl.mono j3) k2 (by omega)
   obtain ⟨p3,x2,U2,E2,W1⟩:=T4
   obtain ⟨D2,C3,R4⟩:=E2
   have T5:=Xb R4
   obtain ⟨v12,v13,rfl,X6,A11,B26,A12⟩:=T5
   have T6:=Classical.em (x2.name = q.table)
   rcases T6 with h5 | h5
   ·refine dr [] [(58,Zu p3),(60,Zb x2.name),(62,Zb q.table),(63, .bool true)] S9 ⟨fun _=>Zf k2 W1 Zb3 Xu V V V V <| nu V V,fun _ hSw=>Za hSw (YC.drop 0 C3) Zy V V V <| nu V V,fun _ hSw=>Za hSw (YC.drop 1 (C1.mono (j2.trans L5))) Zy V V V <| nu V V,fun _=>YG .eql V x2.name q.table true (by simp [h5,SCmp.b]) V V V <| nu V V,trivial⟩ (fun w7 S10=>?_)
    refine WL.indexAddr (hvl.mono j3) k2 (by omega) Zb3 Xu V V V V (fun p4 x3 U3 E3=>?_)
    have T7 : x2 = x3:=Option.some.inj (U2.symm.trans U3)
    obtain rfl:=T7
    obtain ⟨D3,C4,R5⟩:=E3
    have T8:=Xb R5
    obtain ⟨v14,v15,rfl,B27,A13,B28,A14⟩:=T8
    refine Za S10 (YC.drop 1 C4) Yb V V V ?_
    exact RT S10 V ⟨_,_,V,(Sl.cast A13 (by (rw [hcf]; with_reducible exact (Zp0 ‹_› ‹_› ‹_› ‹_›).1))),(congrArg (Value.int .i64) (by (rw [hcf]; with_reducible exact (Zp0 ‹_› ‹_› ‹_› ‹_›).2)))⟩
   refine dr [] [(58,Zu p3),(60,Zb x2.name),(62,Zb q.table),(63, .bool false)] S9 ⟨fun _=>Zf k2 W1 Zb3 Xu V V V V <| nu V V,fun _ hSw=>Za hSw (YC.drop 0 C3) Zy V V V <| nu V V,fun _ hSw=>Za hSw (YC.drop 1 (C1.mono (j2.trans L5))) Zy V V V <| nu V V,fun _=>YG .eql V x2.name q.table false (by simp [h5,SCmp.b]) V V V <| nu V V,trivial⟩ (fun w9 S11=>?_)
   refine ZC k2 (by have:=Zm; omega) V V V ?_
   exact BK.mk' _ ⟨k2 + 1,G5,V,L5,S11,⟨V,V,V,trivial⟩,(by omega),(by with_reducible exact Yz ‹_› ‹_› ‹_›)⟩ (show l.length - (k2 + 1) < l.length - k2 by omega)
  exact RT S9 V ⟨_,_,V,(Sl.cast (Sl.nil ColE 24 G5) (by (rw [hcf]; with_reducible exact (Zp1 ‹_› ‹_› (by omega)).1))),(congrArg (Value.int .i64) (by (rw [hcf]; with_reducible exact (Zp1 ‹_› ‹_› (by omega)).2)))⟩
 refine Zj q.kind 2 V V V (fun h6=>?_) (fun h6=>?_)
 ·have T9:=Sl.at hins 0 (by (rw [hinl]; have:=QF hpl (by omega); omega))
  obtain ⟨p5,x4,U4,E4,W2⟩:=T9
  obtain ⟨D4,C5,R6⟩:=E4
  obtain ⟨v16,rfl,A15⟩:=R6
  refine dr [(6,false)] [(72, .agg #[U q.cond.kind,Zb q.cond.col,Zb q.cond.oth,U q.cond.v.k,U q.cond.v.n,Zb q.cond.v.s,v3]),(74,Zu p5),(75,v16),(76,U (Xq (n + 1) q.cond x4))] S8 ⟨fun _ hSw=>Zc hSw (YC.drop 4 (C1.mono j2)) [U q.cond.kind,Zb q.cond.col,Zb q.cond.oth,U q.cond.v.k,U q.cond.v.n,Zb q.cond.v.s,v3] Z5 V V V V V <| nu V V,fun _=>Zf 0 W2 Y4 Yb V V V V <| nu V V,fun _ hSw=>Za hSw C5 Yb V V V <| nu V V,fun _ hSw=>YS hSw Zdm V V V (Znt hSw.imm (n + 1) q.cond x4 _ (ZJ q.cond B3 B4 B5 B6 B7 ZK (A3.mono (j1.trans L4))) _ A15 (Zbs hn)) V,trivial⟩ (fun w10 S12=>?_)
  refine Z8 (Xq (n + 1) q.cond x4) 0 V V V (fun h7=>?_) (fun h7=>?_)
  ·exact RT S12 V ⟨_,_,V,(Sl.cast (Sl.nil ColE 24 G4) (by (rw [hcf]; with_reducible exact (Zh4 ‹_› (by assumption : (List.map _ _)[0]? = some _) ‹_›).1))),(congrArg (Value.int .i64) (by (rw [hcf]; with_reducible exact (Zh4 ‹_› (by assumption : (List.map _ _)[0]? = some _) ‹_›).2)))⟩
  refine WL.indexAddr hins 0 (by (rw [hinl]; have:=QF hpl (by omega); omega)) Y4 Yb V V V V (fun p6 x5 U5 E5=>?_)
  have T10 : x4 = x5:=Option.some.inj (U4.symm.trans U5)
  obtain rfl:=T10
  obtain ⟨D5,C6,R7⟩:=E5
  obtain ⟨v17,rfl,A16⟩:=R7
  refine Za S12 C6 Yb V V V ?_
  exact RT S12 V ⟨_,_,V,(Sl.cast A16 (by (rw [hcf]; with_reducible exact (Zh5 ‹_› (by assumption : (List.map _ _)[0]? = some _) ‹_›).1))),(congrArg (Value.int .i64) (by (rw [hcf]; with_reducible exact (Zh5 ‹_› (by assumption : (List.map _ _)[0]? = some _) ‹_›).2)))⟩
 refine Zj q.kind 3 V V V (fun h8=>?_) (fun h8=>?_)
 ·have T11:=Sl.at hins 0 (by (rw [hinl]; have:=QF hpl (by omega); omega))
  obtain ⟨p7,x6,U6,E6,W3⟩:=T11
  obtain ⟨D6,C7,R8⟩:=E6
  obtain ⟨v18,rfl,A17⟩:=R8
  refine drT [5,6,7,8,9,10] [(87,Zu p7),(88,v18),(90,v1)] S8 ⟨fun _=>Zf 0 W3 Y4 Yb V V V V <| nu V V,fun _ hSw=>Za hSw C7 Yb V V V <| nu V V,fun _ hSw=>Za hSw (YC.drop 2 (C1.mono j2)) ZU V V V <| nu V V,trivial⟩ (fun w11 S13=>?_)
  refine TG.fork 5 [5,6,7,8,9,10] [5] V V (by decide) (by decide) (TA.cons V ?_ TA.nil)
  refine Zv S13 Zch V V V (ZgN S13.imm x6 q.cols _ A17 _ (A1.mono (j1.trans L4)) (Nat.le_trans hok.2.1 (by decide))) ?_
  rintro w12 G6 _ ⟨r5,_,rfl,A18,rfl⟩ S14 L6
  refine ⟨fun h=>absurd h (by decide),?_⟩
  refine TG.quiet 4 [6,7,8,9,10] 6 V V V V V (by decide) (fun w9 K9 k9=>WL.move V k9) ?_
  refine TG.quiet 3 [7,8,9,10] 7 V V V V V (by decide) (fun w9 K9 k9=>WL.extract _ _ V V V k9) ?_
  refine TG.quiet 2 [8,9,10] 8 V V V V V (by decide) (fun w9 K9 k9=>WL.extract _ _ V V V k9) ?_
  refine TG.quiet 1 [9,10] 9 V V V V V (by decide) (fun w9 K9 k9=>WL.assign V k9) ?_
  refine TG.fork 0 [10] [10] V V (by decide) (by decide) (TA.cons V ?_ TA.nil)
  refine WL.assign V ?_
  refine ⟨fun h=>absurd h (by decide),?_⟩
  refine TG.fin V ?_
  refine ZgB (d:=13) V (fun (h9 : (Xk x6 q.cols) = true)=>?_) (fun (h9 : (Xk x6 q.cols) = false)=>?_)
  ·exact RT S14 V ⟨_,_,V,(Sl.cast A18 (by (rw [hcf]; rw [← ZgJ ‹_› (by assumption : (List.map _ _)[0]? = some _)]))),(congrArg (Value.int .i64) (by (rw [hcf]; rw [← ZgJ ‹_› (by assumption : (List.map _ _)[0]? = some _)]; with_reducible exact (Ztw ‹_›).2)))⟩
  exact RT S14 V ⟨_,_,V,(Sl.cast (Sl.nil ColE 24 G6) (by (rw [hcf]; rw [← ZgJ ‹_› (by assumption : (List.map _ _)[0]? = some _)]; with_reducible exact (Zr4 ‹_›).1))),(congrArg (Value.int .i64) (by (rw [hcf]; rw [← ZgJ ‹_› (by assumption : (List.map _ _)[0]? = some _)]; with_reducible exact (Zr4 ‹_›).2)))⟩
 refine Zj q.kind 4 V V V (fun h10=>?_) (fun h10=>?_)
 ·have T12:=Sl.at hins 0 (by (rw [hinl]; have:=QF hpl (by omega); omega))
  obtain ⟨p8,x7,U7,E7,W4⟩:=T12
  obtain ⟨D7,C8,R9⟩:=E7
  obtain ⟨v19,rfl,A19⟩:=R9
  refine drT [5,6,7,8,9,10] [(101,Zu p8),(102,v19),(104,v1)] S8 ⟨fun _=>Zf 0 W4 Y4 Yb V V V V <| nu V V,fun _ hSw=>Za hSw C8 Yb V V V <| nu V V,fun _ hSw=>Za hSw (YC.drop 2 (C1.mono j2)) ZU V V V <| nu V V,trivial⟩ (fun w13 S15=>?_)
  refine TG.fork 5 [5,6,7,8,9,10] [5] V V (by decide) (by decide) (TA.cons V ?_ TA.nil)
  refine Zv S15 Zch V V V (ZgN S15.imm x7 q.cols _ A19 _ (A1.mono (j1.trans L4)) (Nat.le_trans hok.2.1 (by decide))) ?_
  rintro w14 G7 _ ⟨r8,_,rfl,A20,rfl⟩ S16 L7
  refine ⟨fun h=>absurd h (by decide),?_⟩
  refine TG.quiet 4 [6,7,8,9,10] 6 V V V V V (by decide) (fun w9 K9 k9=>WL.move V k9) ?_
  refine TG.quiet 3 [7,8,9,10] 7 V V V V V (by decide) (fun w9 K9 k9=>WL.extract _ _ V V V k9) ?_
  refine TG.quiet 2 [8,9,10] 8 V V V V V (by decide) (fun w9 K9 k9=>WL.extract _ _ V V V k9) ?_
  refine TG.quiet 1 [9,10] 9 V V V V V (by decide) (fun w9 K9 k9=>WL.assign V k9) ?_
  refine TG.fork 0 [10] [10] V V (by decide) (by decide) (TA.cons V ?_ TA.nil)
  refine WL.assign V ?_
  refine ⟨fun h=>absurd h (by decide),?_⟩
  refine TG.fin V ?_
  refine ZgB (d:=15) V (fun (h11 : (Xk x7 q.cols) = true)=>?_) (fun (h11 : (Xk x7 q.cols) = false)=>?_)
  ·refine WL.buildSlice _ [] [] S16 YF V V V V (fun z hz=>by match z,hz with | [],_=>rfl) (fun b2 w15 N2 S17=>?_)
   refine WL.indexAddr (hins.mono L7) 0 (by (rw [hinl]; have:=QF hpl (by omega); omega)) Y4 Yb V V V V (fun p9 x9 U8 E8=>?_)
   have T13 : x7 = x9:=Option.some.inj (U7.symm.trans U8)
   obtain rfl:=T13
   obtain ⟨D8,C9,R10⟩:=E8
   obtain ⟨v20,rfl,A21⟩:=R10
   refine Za S17 C9 Yb V V V ?_
   have R11:=YH.empty ColE 24 48 G7 b2
   refine YV YF V V V R11 S17 0 V A21 (by have:=Zm; have hby9:=(by assumption : Sl QryE 224 G _ q.l).bytes; simp only [List.length_append,List.length_map,List.length_take,List.length_cons,List.length_nil]; (have h8:=hile _ (List.mem_of_getElem? (by assumption : (List.map _ _)[0]? = some _)); omega)) (by have:=Zm; have hby9:=(by assumption : Sl QryE 224 G _ q.l).bytes; simp only [List.length_append,List.length_map,List.length_take,List.length_cons,List.length_nil]; (have h8:=hile _ (List.mem_of_getElem? (by assumption : (List.map _ _)[0]? = some _)); omega)) V V V (fun v21 o3 w16 R12 S18=>?_)
   refine LP.go ft [] (fun m ρ1 w1=>∃ (k3 : Nat),∃ (v22 : Value) (o4 : OB),∃ (G9 : GH),m = q.cols.length - k3 ∧ G7.le G9 ∧ St w [] G G9 [o4,none] w1 ∧ YH ColE 24 48 G9 v22 (Xt x7 (q.cols.take k3) (q.names.take k3) x7) o4 ∧ FR ρ1 [(2,Zu p1),(6,v5),(16,v22),(17,U (k3 : Int))] ∧ k3 ≤ q.cols.length) _ ⟨0,v21,o3,G7,V,(G7.le_refl),S18,(YH.cast R12 (by simp [Xt])),(Yt V),(by omega)⟩ ?_
   rintro m ρ1 w17 ⟨k3,v22,o4,G9,rfl,L9,S19,R13,F9,f5⟩
   refine F9.set ?_
   clear F9
   refine Za S19 (YC.drop 2 (C1.mono (((L2.trans L4).trans L7).trans L9))) ZU V V V ?_
   have V3:=A1.bound
   refine Zl (A1.mono ((((L1.trans L2).trans L4).trans L7).trans L9)) Yo V V ?_
   refine Z1 (k3 : Int) (q.cols.length : Int) V V V (fun h12=>?_) (fun h12=>?_)
   ·have T14:=ZjN (l:=q.cols) (k:=k3) (by omega)
    obtain ⟨cv,hcv⟩:=T14
    have hfp:=Zs3 (by assumption : Xk _ q.cols = true) hcv
    have hfq:=Zaz hfp
    have T15:=Sl.at (hins.mono (L7.trans L9)) 0 (by (rw [hinl]; have:=QF hpl (by omega); omega))
    obtain ⟨p10,x10,U9,E9,W5⟩:=T15
    have T16 : x7 = x10:=Option.some.inj (U7.symm.trans U9)
    obtain rfl:=T16
    obtain ⟨D9,C10,R14⟩:=E9
    obtain ⟨v23,rfl,A22⟩:=R14
    have T17:=Sl.at (A1.mono ((((L1.trans L2).trans L4).trans L7).trans L9)) k3 (by omega)
    obtain ⟨p11,x11,U10,E10,W6⟩:=T17
    have T18 : cv = x11:=Option.some.inj (hcv.symm.trans U10)
    obtain rfl:=T18
    obtain ⟨D10,C11,R15⟩:=E10
    obtain ⟨rfl,B29⟩:=R15
    have T19:=Sl.at (A2.mono ((((L1.trans L2).trans L4).trans L7).trans L9)) k3 (by (have:=Zjb hpl ‹_›; omega))
    obtain ⟨p12,x12,U11,E11,W7⟩:=T19
    obtain ⟨D11,C12,R16⟩:=E11
    obtain ⟨rfl,B30⟩:=R16
    have T20:=YH.atP R13 (((Zx x7 cv)).toNat) (by (rw [ZbO]; exact hfq))
    obtain ⟨p13,x13,ec1,U12,R17,ra1,W8⟩:=T20
    have T21:=Yh R17
    obtain ⟨rfl,B31,B32⟩:=T21
    refine dr [(17,false)] [(124,Zu p10),(125,v23),(127,v1),(129,Zu p11),(130,Zb cv),(131,U (Zx x7 cv)),(133,v2),(135,Zu p12),(136,Zb x12),(137,Zu p13)] S19 ⟨fun _=>Zf 0 W5 Y4 Yb V V V V <| nu V V,fun _ hSw=>Za hSw C10 Yb V V V <| nu V V,fun _ hSw=>Za hSw (YC.drop 2 (C1.mono (((L2.trans L4).trans L7).trans L9))) ZU V V V <| nu V V,fun _=>Zf k3 W6 Yo Zy V V V V <| nu V V,fun _ hSw=>Za hSw C11 Zy V V V <| nu V V,fun _ hSw=>YS hSw QY V V V (Zcm hSw.imm x7 cv _ A22) V,fun _ hSw=>Za hSw (YC.drop 3 (C1.mono (((L2.trans L4).trans L7).trans L9))) ZU V V V <| nu V V,fun _=>Zf k3 W7 Yo Zy V V V V <| nu V V,fun _ hSw=>Za hSw C12 Zy V V V <| nu V V,fun _=>Zf (((Zx x7 cv)).toNat) W8 Yx Ym V V V (congrArg (Value.int .i64) (Int.toNat_of_nonneg (by omega)).symm) <| nu V V,trivial⟩ (fun w18 S20=>?_)
    refine Ziq R13 ra1 S20 0 V (by (rw [ZbO]; exact hfq)) V 0 _ [Zb x12] (Col.mk x12 x13.kind) [Zb x12,U x13.kind] V Zy V (ZN V) V V (Xz (Col.mk x12 x13.kind) B30 B32) V V V (fun o5 w19 R18 S21=>?_)
    refine ZC k3 (by have:=Zm; omega) V V V ?_
    exact BK.mk' _ ⟨k3 + 1,v22,o5,G9,V,L9,S21,(YH.cast R18 (by (exact (Zlk ‹_›).trans (Zi8 ‹_› ‹_›).symm))),(Yt V),(by omega)⟩ (show q.cols.length - (k3 + 1) < q.cols.length - k3 by omega)
   have hrn:=YH.cast (l':=Xt x7 q.cols q.names x7) R13 (by rw [List.take_of_length_le (by omega),List.take_of_length_le (by have:=Zjb hpl ‹_›; omega)])
   have T22:=YH.freeze hrn S19 0 V
   obtain ⟨G10,L10,A23,S22⟩:=T22
   refine Zw S22 Zc6 V V V (ZfM S22.imm (Xt x7 q.cols q.names x7) _ A23) (fun w20 G11 S23 L11=>?_)
   refine WL.split (fun (h13 : (Zbk (Xt x7 q.cols q.names x7)) = true)=>?_) (fun (h13 : (Zbk (Xt x7 q.cols q.names x7)) = false)=>?_)
   ·exact RT S23 V ⟨_,_,V,(Sl.cast (A23.mono L11) (by (rw [hcf]; rw [← Zfr ‹_› (by assumption : (List.map _ _)[0]? = some _)]; with_reducible exact (ZiX ‹_› ‹_›).1))),(congrArg (Value.int .i64) (by (rw [hcf]; rw [← Zfr ‹_› (by assumption : (List.map _ _)[0]? = some _)]; with_reducible exact (ZiX ‹_› ‹_›).2)))⟩
   exact RT S23 V ⟨_,_,V,(Sl.cast (Sl.nil ColE 24 G11) (by (rw [hcf]; rw [← Zfr ‹_› (by assumption : (List.map _ _)[0]? = some _)]; with_reducible exact (ZiW ‹_› ‹_›).1))),(congrArg (Value.int .i64) (by (rw [hcf]; rw [← Zfr ‹_› (by assumption : (List.map _ _)[0]? = some _)]; with_reducible exact (ZiW ‹_› ‹_›).2)))⟩
  exact RT S16 V ⟨_,_,V,(Sl.cast (Sl.nil ColE 24 G7) (by (rw [hcf]; rw [← Zfr ‹_› (by assumption : (List.map _ _)[0]? = some _)]; with_reducible exact (ZnB ‹_›).1))),(congrArg (Value.int .i64) (by (rw [hcf]; rw [← Zfr ‹_› (by assumption : (List.map _ _)[0]? = some _)]; with_reducible exact (ZnB ‹_›).2)))⟩
 refine Zj q.kind 5 V V V (fun h14=>?_) (fun h14=>?_)
 ·refine WL.buildSlice _ [] [] S8 YF V V V V (fun z hz=>by match z,hz with | [],_=>rfl) (fun b3 w21 N3 S24=>?_)
  refine WL.indexAddr hins 0 (by (rw [hinl]; have:=QF hpl (by omega); omega)) Y4 Yb V V V V (fun p14 x14 U13 E12=>?_)
  obtain ⟨D12,C13,R19⟩:=E12
  obtain ⟨v24,rfl,A24⟩:=R19
  refine Za S24 C13 Yb V V V ?_
  have R20:=YH.empty ColE 24 48 G4 b3
  refine YV YF V V V R20 S24 0 V A24 (by have:=Zm; have hby9:=(by assumption : Sl QryE 224 G _ q.l).bytes; simp only [List.length_append,List.length_map,List.length_take,List.length_cons,List.length_nil]; (have h8:=hile _ (List.mem_of_getElem? (by assumption : (List.map _ _)[0]? = some _)); omega)) (by have:=Zm; have hby9:=(by assumption : Sl QryE 224 G _ q.l).bytes; simp only [List.length_append,List.length_map,List.length_take,List.length_cons,List.length_nil]; (have h8:=hile _ (List.mem_of_getElem? (by assumption : (List.map _ _)[0]? = some _)); omega)) V V V (fun v25 o6 w22 R21 S25=>?_)
  have T23:=ZjN (l:=q.l.map fun x=>(Y5 n x l).1) (k:=1) (by rw [hinl]; have:=op2 hpl (by omega); omega)
  obtain ⟨bv,hbv⟩:=T23
  refine LP.go ft [] (fun m ρ1 w1=>∃ (k4 : Nat),∃ (v26 : Value) (o7 : OB),∃ (G12 : GH),m = bv.length - k4 ∧ G4.le G12 ∧ St w [] G G12 [o7,none] w1 ∧ YH ColE 24 48 G12 v26 (x14 ++ ZaY x14 (bv.take k4)) o7 ∧ FR ρ1 [(6,v5),(18,v26),(19,U (k4 : Int))] ∧ k4 ≤ bv.length ∧ ∀ j,j < k4 → ∀ c,bv[j]? = some c → jnB x14 c = true) _ ⟨0,v25,o6,G4,V,(G4.le_refl),S25,(YH.cast R21 (by simp [ZaY])),⟨V,V,V,trivial⟩,(by omega),(by intro j hj; omega)⟩ ?_
  rintro m ρ1 w23 ⟨k4,v26,o7,G12,rfl,L12,S26,R22,F9,f6,f7⟩
  refine F9.set ?_
  clear F9
  have hnl9:=@Zke k4 x14 bv
  refine WL.indexAddr (hins.mono L12) 1 (by (rw [hinl]; have:=op2 hpl (by omega); omega)) Y4 Yb V V V V (fun p15 x15 U14 E13=>?_)
  have T24 : bv = x15:=Option.some.inj (hbv.symm.trans U14)
  obtain rfl:=T24
  obtain ⟨D13,C14,R23⟩:=E13
  obtain ⟨v27,rfl,A25⟩:=R23
  refine Za S26 C14 Yb V V V ?_
  have V4:=A25.bound
  refine Zl A25 Yx V V ?_
  refine Z1 (k4 : Int) (bv.length : Int) V V V (fun h15=>?_) (fun h15=>?_)
  ·have T25:=Sl.at (hins.mono L12) 0 (by (rw [hinl]; have:=QF hpl (by omega); omega))
   obtain ⟨p16,x16,U15,E14,W9⟩:=T25
   have T26 : x14 = x16:=Option.some.inj (U13.symm.trans U15)
   obtain rfl:=T26
   obtain ⟨D14,C15,R24⟩:=E14
   obtain ⟨v28,rfl,A26⟩:=R24
   have T27:=Sl.at (hins.mono L12) 1 (by (rw [hinl]; have:=op2 hpl (by omega); omega))
   obtain ⟨p17,x17,U16,E15,W10⟩:=T27
   have T28 : bv = x17:=Option.some.inj (hbv.symm.trans U16)
   obtain rfl:=T28
   obtain ⟨D15,C16,R25⟩:=E15
   obtain ⟨v29,rfl,A27⟩:=R25
   have T29:=Sl.at A27 k4 (by omega)
   obtain ⟨p18,x18,U17,E16,W11⟩:=T29
   obtain ⟨D16,C17,R26⟩:=E16
   have T30:=Yh R26
   obtain ⟨rfl,B33,XM⟩:=T30
   refine dr [(11,false)] [(159,Zu p16),(160,v28),(162,Zu p17),(163,v29),(165,Zu p18),(167,Zb x18.name),(168,U (Zx x14 x18.name))] S26 ⟨fun _=>Zf 0 W9 Y4 Yb V V V V <| nu V V,fun _ hSw=>Za hSw C15 Yb V V V <| nu V V,fun _=>Zf 1 W10 Y4 Yb V V V V <| nu V V,fun _ hSw=>Za hSw C16 Yb V V V <| nu V V,fun _=>Zf k4 W11 Yx Ym V V V V <| nu V V,fun _ hSw=>Za hSw (YC.drop 0 C17) Zy V V V <| nu V V,fun _ hSw=>YS hSw QY V V V (Zcm hSw.imm x14 x18.name _ A26) V,trivial⟩ (fun w24 S27=>?_)
   refine Z1 (Zx x14 x18.name) 0 V V V (fun h16=>?_) (fun h16=>?_)
   ·refine WL.indexAddr (hins.mono L12) 1 (by (rw [hinl]; have:=op2 hpl (by omega); omega)) Y4 Yb V V V V (fun p19 x19 U18 E17=>?_)
    have T31 : bv = x19:=Option.some.inj (hbv.symm.trans U18)
    obtain rfl:=T31
    obtain ⟨D17,C18,R27⟩:=E17
    obtain ⟨v30,rfl,A28⟩:=R27
    refine Za S27 C18 Yb V V V ?_
    refine WL.indexAddr A28 k4 (by omega) Yx Ym V V V V (fun p20 x20 U19 E18=>?_)
    have T32 : x18 = x20:=Option.some.inj (U17.symm.trans U19)
    obtain rfl:=T32
    obtain ⟨D18,C19,R28⟩:=E18
    have T33:=Yh R28
    obtain ⟨rfl,B35,B36⟩:=T33
    refine Zc S27 C19 [Zb x18.name,U x18.kind] Ym V V V V V ?_
    refine WL.buildSlice _ [(0,[Zb x18.name,U x18.kind])] [Zb x18.name,U x18.kind] S27 YF V V V V (fun z hz=>by match z,hz with | [z0,z1],_=>rfl) (fun b4 w25 N4 S28=>?_)
    refine WL.push (m:=([x18] : List Col)) YF V V V R22 S28 1 V 0 _ _ _ _ _ V ⟨[Zb x18.name,U x18.kind],_,V,(Xz x18 B35 B36),V⟩ V (by have:=Zm; have hby9:=(by assumption : Sl QryE 224 G _ q.l).bytes; simp only [List.length_append,List.length_map,List.length_take,List.length_cons,List.length_nil]; (have h8:=hile _ (List.mem_of_getElem? (by assumption : (List.map _ _)[0]? = some _)); have h9:=hile _ (List.mem_of_getElem? (by assumption : (List.map _ _)[1]? = some _)); omega)) (by have:=Zm; have hby9:=(by assumption : Sl QryE 224 G _ q.l).bytes; simp only [List.length_append,List.length_map,List.length_take,List.length_cons,List.length_nil]; (have h8:=hile _ (List.mem_of_getElem? (by assumption : (List.map _ _)[0]? = some _)); have h9:=hile _ (List.mem_of_getElem? (by assumption : (List.map _ _)[1]? = some _)); omega)) V V V (fun v31 o8 w26 R29 S29=>?_)
    have S30:=S29.tail
    refine ZC k4 (by have:=Zm; omega) V V V ?_
    exact BK.mk' _ ⟨k4 + 1,v31,o8,G12,V,L12,S30,(YH.cast R29 (by (rw [Znx ‹_› ‹_›,List.append_assoc]))),⟨V,V,V,trivial⟩,(by omega),(by exact Yz ‹_› ‹_› (by exact Zpu ‹_›))⟩ (show bv.length - (k4 + 1) < bv.length - k4 by omega)
   have T34:=Sl.at (hins.mono L12) 0 (by (rw [hinl]; have:=QF hpl (by omega); omega))
   obtain ⟨p21,x21,U20,E19,W12⟩:=T34
   have T35 : x14 = x21:=Option.some.inj (U13.symm.trans U20)
   obtain rfl:=T35
   obtain ⟨D19,C20,R30⟩:=E19
   obtain ⟨v32,rfl,A29⟩:=R30
   have T36:=Sl.at A29 (((Zx x14 x18.name)).toNat) (by exact Zaz (by omega))
   obtain ⟨p22,x22,U21,E20,W13⟩:=T36
   obtain ⟨D20,C21,R31⟩:=E20
   have T37:=Yh R31
   obtain ⟨rfl,B37,B38⟩:=T37
   have T38:=Sl.at (hins.mono L12) 1 (by (rw [hinl]; have:=op2 hpl (by omega); omega))
   obtain ⟨p23,x23,U22,E21,W14⟩:=T38
   have T39 : bv = x23:=Option.some.inj (hbv.symm.trans U22)
   obtain rfl:=T39
   obtain ⟨D21,C22,R32⟩:=E21
   obtain ⟨v33,rfl,A30⟩:=R32
   have T40:=Sl.at A30 k4 (by omega)
   obtain ⟨p24,x24,U23,E22,W15⟩:=T40
   have T41 : x18 = x24:=Option.some.inj (U17.symm.trans U23)
   obtain rfl:=T41
   obtain ⟨D22,C23,R33⟩:=E22
   have T42:=Yh R33
   obtain ⟨rfl,Qj,Qk⟩:=T42
   have T43:=Cmp.dec .neq x22.kind x18.kind
   rcases T43 with ⟨XN,q1⟩ | ⟨XN,q1⟩
   ·have h17 : x22.kind ≠ x18.kind:=q1
    clear q1
    refine dr [] [(181,Zu p21),(182,v32),(184,Zu p22),(186,U x22.kind),(188,Zu p23),(189,v33),(191,Zu p24),(193,U x18.kind),(194, .bool true)] S27 ⟨fun _=>Zf 0 W12 Y4 Yb V V V V <| nu V V,fun _ hSw=>Za hSw C20 Yb V V V <| nu V V,fun _=>Zf (((Zx x14 x18.name)).toNat) W13 Yx Ym V V V (congrArg (Value.int .i64) (Int.toNat_of_nonneg (by omega)).symm) <| nu V V,fun _ hSw=>Za hSw (YC.drop 1 C21) Z3 V V V <| nu V V,fun _=>Zf 1 W14 Y4 Yb V V V V <| nu V V,fun _ hSw=>Za hSw C22 Yb V V V <| nu V V,fun _=>Zf k4 W15 Yx Ym V V V V <| nu V V,fun _ hSw=>Za hSw (YC.drop 1 C23) Z3 V V V <| nu V V,fun _=>WL.cmpV .neq V .i64 x22.kind x18.kind _ XN V V V <| nu V V,trivial⟩ (fun w27 S31=>?_)
    exact RT S31 V ⟨_,_,V,(Sl.cast (Sl.nil ColE 24 G12) (by (rw [hcf]; rw [← ZgK ‹_› (by assumption : (List.map _ _)[0]? = some _) (by assumption : (List.map _ _)[1]? = some _)]; with_reducible exact (Zgh ‹_› (by omega) (by rw [ZB (by omega) ‹_›]; assumption)).1))),(congrArg (Value.int .i64) (by (rw [hcf]; rw [← ZgK ‹_› (by assumption : (List.map _ _)[0]? = some _) (by assumption : (List.map _ _)[1]? = some _)]; with_reducible exact (Zgh ‹_› (by omega) (by rw [ZB (by omega) ‹_›]; assumption)).2)))⟩
   have h17 : x22.kind = x18.kind:=q1
   clear q1
   refine dr [] [(181,Zu p21),(182,v32),(184,Zu p22),(186,U x22.kind),(188,Zu p23),(189,v33),(191,Zu p24),(193,U x18.kind),(194, .bool false)] S27 ⟨fun _=>Zf 0 W12 Y4 Yb V V V V <| nu V V,fun _ hSw=>Za hSw C20 Yb V V V <| nu V V,fun _=>Zf (((Zx x14 x18.name)).toNat) W13 Yx Ym V V V (congrArg (Value.int .i64) (Int.toNat_of_nonneg (by omega)).symm) <| nu V V,fun _ hSw=>Za hSw (YC.drop 1 C21) Z3 V V V <| nu V V,fun _=>Zf 1 W14 Y4 Yb V V V V <| nu V V,fun _ hSw=>Za hSw C22 Yb V V V <| nu V V,fun _=>Zf k4 W15 Yx Ym V V V V <| nu V V,fun _ hSw=>Za hSw (YC.drop 1 C23) Z3 V V V <| nu V V,fun _=>WL.cmpV .neq V .i64 x22.kind x18.kind _ XN V V V <| nu V V,trivial⟩ (fun w28 S32=>?_)
   refine ZC k4 (by have:=Zm; omega) V V V ?_
   exact BK.mk' _ ⟨k4 + 1,v26,o7,G12,V,L12,S32,(YH.cast R22 (by (rw [Zny ‹_› (by omega)]))),⟨V,V,V,trivial⟩,(by omega),(by exact Yz ‹_› ‹_› (by exact Zpv (by rw [ZB (by omega) ‹_›]; assumption)))⟩ (show bv.length - (k4 + 1) < bv.length - k4 by omega)
  have T44:=YH.freeze R22 S26 0 V
  obtain ⟨G13,L13,A31,S33⟩:=T44
  refine Zv S33 Qv V V V (Q7 S33.imm (x14 ++ ZaY x14 (bv.take k4)) _ A31) ?_
  rintro w29 G14 _ ⟨r11,_,rfl,A32,rfl⟩ S34 L14
  exact RT S34 V ⟨_,_,V,(Sl.cast A32 (by (rw [hcf]; rw [← ZgK ‹_› (by assumption : (List.map _ _)[0]? = some _) (by assumption : (List.map _ _)[1]? = some _)]; rw [Zfo ‹_› (by omega),List.take_of_length_le (by omega)]))),(congrArg (Value.int .i64) (by (rw [hcf]; rw [← ZgK ‹_› (by assumption : (List.map _ _)[0]? = some _) (by assumption : (List.map _ _)[1]? = some _)]; rw [Zfo ‹_› (by omega),List.take_of_length_le (by omega)])))⟩
 refine Zj q.kind 6 V V V (fun h18=>?_) (fun h18=>?_)
 ·have T45:=Sl.at hins 0 (by (rw [hinl]; have:=QF hpl (by omega); omega))
  obtain ⟨p25,x25,U24,E23,W16⟩:=T45
  obtain ⟨D23,C24,R34⟩:=E23
  obtain ⟨v34,rfl,A33⟩:=R34
  have T46:=Sl.at hins 1 (by (rw [hinl]; have:=op2 hpl (by omega); omega))
  obtain ⟨p26,x26,U25,E24,W17⟩:=T46
  obtain ⟨D24,C25,R35⟩:=E24
  obtain ⟨v35,rfl,A34⟩:=R35
  have T47:=Bool.eq_false_or_eq_true (decide (x25 = x26))
  rcases T47 with h19 | h19
  ·refine dr [] [(203,Zu p25),(204,v34),(206,Zu p26),(207,v35),(208, .bool true)] S8 ⟨fun _=>Zf 0 W16 Y4 Yb V V V V <| nu V V,fun _ hSw=>Za hSw C24 Yb V V V <| nu V V,fun _=>Zf 1 W17 Y4 Yb V V V V <| nu V V,fun _ hSw=>Za hSw C25 Yb V V V <| nu V V,fun _ hSw=>YS hSw ZbE V V V (ZeC hSw.imm x25 x26 _ A33 _ A34) (congrArg Value.bool h19.symm),trivial⟩ (fun w30 S35=>?_)
   refine WL.indexAddr hins 0 (by (rw [hinl]; have:=QF hpl (by omega); omega)) Y4 Yb V V V V (fun p27 x27 U26 E25=>?_)
   have T48 : x25 = x27:=Option.some.inj (U24.symm.trans U26)
   obtain rfl:=T48
   obtain ⟨D25,C26,R36⟩:=E25
   obtain ⟨v36,rfl,A35⟩:=R36
   refine Za S35 C26 Yb V V V ?_
   exact RT S35 V ⟨_,_,V,(Sl.cast A35 (by (rw [hcf]; with_reducible exact (Zd7 (by first | exact .inl ‹_› | exact .inr ‹_›) (by assumption : (List.map _ _)[0]? = some _) (by assumption : (List.map _ _)[1]? = some _) (of_decide_eq_true ‹_›)).1))),(congrArg (Value.int .i64) (by (rw [hcf]; with_reducible exact (Zd7 (by first | exact .inl ‹_› | exact .inr ‹_›) (by assumption : (List.map _ _)[0]? = some _) (by assumption : (List.map _ _)[1]? = some _) (of_decide_eq_true ‹_›)).2)))⟩
  refine dr [] [(203,Zu p25),(204,v34),(206,Zu p26),(207,v35),(208, .bool false)] S8 ⟨fun _=>Zf 0 W16 Y4 Yb V V V V <| nu V V,fun _ hSw=>Za hSw C24 Yb V V V <| nu V V,fun _=>Zf 1 W17 Y4 Yb V V V V <| nu V V,fun _ hSw=>Za hSw C25 Yb V V V <| nu V V,fun _ hSw=>YS hSw ZbE V V V (ZeC hSw.imm x25 x26 _ A33 _ A34) (congrArg Value.bool h19.symm),trivial⟩ (fun w31 S36=>?_)
  exact RT S36 V ⟨_,_,V,(Sl.cast (Sl.nil ColE 24 G4) (by (rw [hcf]; with_reducible exact (Zd6 (by first | exact .inl ‹_› | exact .inr ‹_›) (by assumption : (List.map _ _)[0]? = some _) (by assumption : (List.map _ _)[1]? = some _) (of_decide_eq_false ‹_›)).1))),(congrArg (Value.int .i64) (by (rw [hcf]; with_reducible exact (Zd6 (by first | exact .inl ‹_› | exact .inr ‹_›) (by assumption : (List.map _ _)[0]? = some _) (by assumption : (List.map _ _)[1]? = some _) (of_decide_eq_false ‹_›)).2)))⟩
 refine Zj q.kind 7 V V V (fun h20=>?_) (fun h20=>?_)
 ·have T49:=Sl.at hins 0 (by (rw [hinl]; have:=QF hpl (by omega); omega))
  obtain ⟨p28,x28,U27,E26,W18⟩:=T49
  obtain ⟨D26,C27,R37⟩:=E26
  obtain ⟨v37,rfl,A36⟩:=R37
  have T50:=Sl.at hins 1 (by (rw [hinl]; have:=op2 hpl (by omega); omega))
  obtain ⟨p29,x29,U28,E27,W19⟩:=T50
  obtain ⟨D27,C28,R38⟩:=E27
  obtain ⟨v38,rfl,A37⟩:=R38
  have T51:=Bool.eq_false_or_eq_true (decide (x28 = x29))
  rcases T51 with h21 | h21
  ·refine dr [] [(203,Zu p28),(204,v37),(206,Zu p29),(207,v38),(208, .bool true)] S8 ⟨fun _=>Zf 0 W18 Y4 Yb V V V V <| nu V V,fun _ hSw=>Za hSw C27 Yb V V V <| nu V V,fun _=>Zf 1 W19 Y4 Yb V V V V <| nu V V,fun _ hSw=>Za hSw C28 Yb V V V <| nu V V,fun _ hSw=>YS hSw ZbE V V V (ZeC hSw.imm x28 x29 _ A36 _ A37) (congrArg Value.bool h21.symm),trivial⟩ (fun w32 S37=>?_)
   refine WL.indexAddr hins 0 (by (rw [hinl]; have:=QF hpl (by omega); omega)) Y4 Yb V V V V (fun p30 x30 U29 E28=>?_)
   have T52 : x28 = x30:=Option.some.inj (U27.symm.trans U29)
   obtain rfl:=T52
   obtain ⟨D28,C29,R39⟩:=E28
   obtain ⟨v39,rfl,A38⟩:=R39
   refine Za S37 C29 Yb V V V ?_
   exact RT S37 V ⟨_,_,V,(Sl.cast A38 (by (rw [hcf]; with_reducible exact (Zd7 (by first | exact .inl ‹_› | exact .inr ‹_›) (by assumption : (List.map _ _)[0]? = some _) (by assumption : (List.map _ _)[1]? = some _) (of_decide_eq_true ‹_›)).1))),(congrArg (Value.int .i64) (by (rw [hcf]; with_reducible exact (Zd7 (by first | exact .inl ‹_› | exact .inr ‹_›) (by assumption : (List.map _ _)[0]? = some _) (by assumption : (List.map _ _)[1]? = some _) (of_decide_eq_true ‹_›)).2)))⟩
  refine dr [] [(203,Zu p28),(204,v37),(206,Zu p29),(207,v38),(208, .bool false)] S8 ⟨fun _=>Zf 0 W18 Y4 Yb V V V V <| nu V V,fun _ hSw=>Za hSw C27 Yb V V V <| nu V V,fun _=>Zf 1 W19 Y4 Yb V V V V <| nu V V,fun _ hSw=>Za hSw C28 Yb V V V <| nu V V,fun _ hSw=>YS hSw ZbE V V V (ZeC hSw.imm x28 x29 _ A36 _ A37) (congrArg Value.bool h21.symm),trivial⟩ (fun w33 S38=>?_)
  exact RT S38 V ⟨_,_,V,(Sl.cast (Sl.nil ColE 24 G4) (by (rw [hcf]; with_reducible exact (Zd6 (by first | exact .inl ‹_› | exact .inr ‹_›) (by assumption : (List.map _ _)[0]? = some _) (by assumption : (List.map _ _)[1]? = some _) (of_decide_eq_false ‹_›)).1))),(congrArg (Value.int .i64) (by (rw [hcf]; with_reducible exact (Zd6 (by first | exact .inl ‹_› | exact .inr ‹_›) (by assumption : (List.map _ _)[0]? = some _) (by assumption : (List.map _ _)[1]? = some _) (of_decide_eq_false ‹_›)).2)))⟩
 refine Zj q.kind 9 V V V (fun h22=>?_) (fun h22=>?_)
 ·have T53:=Sl.at hins 0 (by (rw [hinl]; have:=QF hpl (by omega); omega))
  obtain ⟨p31,x31,U30,E29,W20⟩:=T53
  obtain ⟨D29,C30,R40⟩:=E29
  obtain ⟨v40,rfl,A39⟩:=R40
  refine drT [4,5,6,7,8] [(215, .agg #[U q.kind,Zb q.table,v1,v2,U q.cond.kind,Zb q.cond.col,Zb q.cond.oth,U q.cond.v.k,U q.cond.v.n,Zb q.cond.v.s,v3,U q.rel,U q.fn,U q.span.a,U q.span.b,v4]),(217,Zu p31),(218,v40)] S8 ⟨fun _ hSw=>Zc hSw (C1.mono j2) [U q.kind,Zb q.table,v1,v2,U q.cond.kind,Zb q.cond.col,Zb q.cond.oth,U q.cond.v.k,U q.cond.v.n,Zb q.cond.v.s,v3,U q.rel,U q.fn,U q.span.a,U q.span.b,v4] Zg V V V V V <| nu V V,fun _=>Zf 0 W20 Y4 Yb V V V V <| nu V V,fun _ hSw=>Za hSw C30 Yb V V V <| nu V V,trivial⟩ (fun w34 S39=>?_)
  refine TG.fork 4 [4,5,6,7,8] [4] V V (by decide) (by decide) (TA.cons V ?_ TA.nil)
  have j4:=(j1.trans L4)
  refine Zv S39 Zdn V V V (Zn5 S39.imm q x31 _ (Zd q B1 B2 (A1.mono j4) (A2.mono j4) B3 B4 B5 B6 B7 ZK (A3.mono j4) hb9 Z9 Z7 Z6 (A4.mono j4)) _ A39 (Nat.le_trans hok.2.1 (by decide)) (Zpx hpl ‹_›)) ?_
  rintro w35 G15 _ ⟨r14,_,rfl,A40,rfl⟩ S40 L15
  refine ⟨fun h=>absurd h (by decide),?_⟩
  refine TG.quiet 3 [5,6,7,8] 5 V V V V V (by decide) (fun w9 K9 k9=>WL.extract _ _ V V V k9) ?_
  refine TG.quiet 2 [6,7,8] 6 V V V V V (by decide) (fun w9 K9 k9=>WL.extract _ _ V V V k9) ?_
  refine TG.quiet 1 [7,8] 7 V V V V V (by decide) (fun w9 K9 k9=>WL.assign V k9) ?_
  refine TG.quiet 0 [8] 8 V V V V V (by decide) (fun w9 K9 k9=>WL.assign V k9) ?_
  refine TG.fin V ?_
  exact RT S40 V ⟨_,_,V,(Sl.cast A40 (by (rw [hcf]; with_reducible exact congrArg Prod.fst (Zki ‹_› (by assumption : (List.map _ _)[0]? = some _))))),(congrArg (Value.int .i64) (by (rw [hcf]; with_reducible exact congrArg Prod.snd (Zki ‹_› (by assumption : (List.map _ _)[0]? = some _)))))⟩
 refine Zj q.kind 10 V V V (fun h23=>?_) (fun h23=>?_)
 ·have T54:=Sl.at hins 0 (by (rw [hinl]; have:=QF hpl (by omega); omega))
  obtain ⟨p32,x32,U31,E30,W21⟩:=T54
  obtain ⟨D30,C31,R41⟩:=E30
  obtain ⟨v41,rfl,A41⟩:=R41
  have T55:=Sl.at hins 1 (by (rw [hinl]; have:=op2 hpl (by omega); omega))
  obtain ⟨p33,x33,U32,E31,W22⟩:=T55
  obtain ⟨D31,C32,R42⟩:=E31
  obtain ⟨v42,rfl,A42⟩:=R42
  refine dr [(0,true),(4,true),(8,false),(9,false)] [(226,Zu p32),(227,v41),(230,Zu p33),(231,v42)] S8 ⟨fun _=>Zf 0 W21 Y4 Yb V V V V <| nu V V,fun _ hSw=>Za hSw C31 Yb V V V <| nu V V,fun _=>Zf 1 W22 Y4 Yb V V V V <| nu V V,fun _ hSw=>Za hSw C32 Yb V V V <| nu V V,trivial⟩ (fun w36 S41=>?_)
  refine WL.buildSlice _ [] [] S41 YF V V V V (fun z hz=>by match z,hz with | [],_=>rfl) (fun b5 w37 N5 S42=>?_)
  refine ⟨S42.tail.down S41.le (G4.le_refl),?_⟩
  have R43:=YH.empty ColE 24 48 G4 b5
  refine YV YF V V V R43 S42 0 V A41 (by have:=Zm; have hby9:=(by assumption : Sl QryE 224 G _ q.l).bytes; simp only [List.length_append,List.length_map,List.length_take,List.length_cons,List.length_nil]; (have h8:=hile _ (List.mem_of_getElem? (by assumption : (List.map _ _)[0]? = some _)); omega)) (by have:=Zm; have hby9:=(by assumption : Sl QryE 224 G _ q.l).bytes; simp only [List.length_append,List.length_map,List.length_take,List.length_cons,List.length_nil]; (have h8:=hile _ (List.mem_of_getElem? (by assumption : (List.map _ _)[0]? = some _)); omega)) V V V (fun v43 o9 w38 R44 S43=>?_)
  refine ⟨S43.tail.down S41.le (G4.le_refl),?_⟩
  refine YV YF V V V R44 S43 0 V A42 (by have:=Zm; have hby9:=(by assumption : Sl QryE 224 G _ q.l).bytes; simp only [List.length_append,List.length_map,List.length_take,List.length_cons,List.length_nil]; (have h8:=hile _ (List.mem_of_getElem? (by assumption : (List.map _ _)[0]? = some _)); have h9:=hile _ (List.mem_of_getElem? (by assumption : (List.map _ _)[1]? = some _)); omega)) (by have:=Zm; have hby9:=(by assumption : Sl QryE 224 G _ q.l).bytes; simp only [List.length_append,List.length_map,List.length_take,List.length_cons,List.length_nil]; (have h8:=hile _ (List.mem_of_getElem? (by assumption : (List.map _ _)[0]? = some _)); have h9:=hile _ (List.mem_of_getElem? (by assumption : (List.map _ _)[1]? = some _)); omega)) V V V (fun v44 o10 w39 R45 S44=>?_)
  have T56:=YH.freeze R45 S44 0 V
  obtain ⟨G16,L16,A43,S45⟩:=T56
  refine Zw S45 Zc6 V V V (ZfM S45.imm (([] ++ x32) ++ x33) _ A43) (fun w40 G17 S46 L17=>?_)
  refine WL.split (fun (h24 : (Zbk (([] ++ x32) ++ x33)) = true)=>?_) (fun (h24 : (Zbk (([] ++ x32) ++ x33)) = false)=>?_)
  ·refine Zv S46 Qv V V V (Q7 S46.imm (([] ++ x32) ++ x33) _ (A43.mono L17)) ?_
   rintro w41 G18 _ ⟨r17,_,rfl,A44,rfl⟩ S47 L18
   exact RT S47 V ⟨_,_,V,(Sl.cast A44 (by (rw [hcf]; with_reducible exact congrArg Prod.fst (Zp3 ‹_› (by assumption : (List.map _ _)[0]? = some _) (by assumption : (List.map _ _)[1]? = some _) ‹_› hind)))),(congrArg (Value.int .i64) (by (rw [hcf]; with_reducible exact congrArg Prod.snd (Zp3 ‹_› (by assumption : (List.map _ _)[0]? = some _) (by assumption : (List.map _ _)[1]? = some _) ‹_› hind))))⟩
  exact RT S46 V ⟨_,_,V,(Sl.cast (Sl.nil ColE 24 G17) (by (rw [hcf]; with_reducible exact (Zp2 ‹_› (by assumption : (List.map _ _)[0]? = some _) (by assumption : (List.map _ _)[1]? = some _) ‹_› hind).1))),(congrArg (Value.int .i64) (by (rw [hcf]; with_reducible exact (Zp2 ‹_› (by assumption : (List.map _ _)[0]? = some _) (by assumption : (List.map _ _)[1]? = some _) ‹_› hind).2)))⟩
 refine WL.indexAddr hins 0 (by (rw [hinl]; have:=QF hpl (by omega); omega)) Y4 Yb V V V V (fun p34 x34 U33 E32=>?_)
 obtain ⟨D32,C33,R46⟩:=E32
 obtain ⟨v45,rfl,A45⟩:=R46
 refine Za S8 C33 Yb V V V ?_
 exact RT S8 V ⟨_,_,V,(Sl.cast A45 (by (rw [hcf]; with_reducible exact (Zkj ‹_› ‹_› ‹_› ‹_› ‹_› ‹_› ‹_› ‹_› ‹_› (by assumption : (List.map _ _)[0]? = some _)).1))),(congrArg (Value.int .i64) (by (rw [hcf]; with_reducible exact (Zkj ‹_› ‹_› ‹_› ‹_› ‹_› ‹_› ‹_› ‹_› ‹_› (by assumption : (List.map _ _)[0]? = some _)).2)))⟩
end Go.Civ
