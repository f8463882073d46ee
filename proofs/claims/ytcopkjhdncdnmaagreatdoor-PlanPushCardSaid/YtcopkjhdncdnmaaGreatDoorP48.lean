/- Lemmas. -/
import Derived.Test.YtcopkjhdncdnmaaGreatDoorP47
set_option linter.unusedVariables false
set_option linter.unusedSimpArgs false
set_option maxRecDepth 100000
set_option maxHeartbeats 4000000
namespace Go.Civ
open Go.Proofs
theorem ZnS (n : Nat) : ∀ {G : GH} {w : World} (hG : G.In w) (q : Query) (l : List Schema) (hg : Glob G) (cq : List Value) (hcq : QryE.rep G q cq) (vl : Value) (hvl : Sl SchemaE 72 G vl l) (hgs : QG l = true) (hn : Xx q n) (hw : GdQ q),CL Tryz.prog (nat_lit 43) #[.agg cq.toArray,vl] [] w G fun G' _ r=>Is QryE G' r (ZD l q):=by
 induction n
 ·intro G w hG q l hg cq hcq vl hvl hgs hn hw; exact (Q9 hn).elim
 rename_i n ih
 intro G w hG q l hg cq hcq vl hvl hgs hn hw
 refine YA ft [] Tryz.func43 V V ?_
 have har:=hw.ar
 have hS:=St.start (X:=[]) hG
 have T1:=Ze hcq
 obtain ⟨v1,v2,v3,v4,rfl,B1,B2,A1,A2,B3,B4,B5,B6,B7,ZK,A3,hb9,Z9,Z7,Z6,A4⟩:=T1
 refine ZL (QV q v1 v2 v3 v4) _ hS V V V (fun p1 w1 G1 L1 M1 C1 S1=>?_)
 refine WL.alloc S1 Zg V V (fun b1 w2 N1 S2=>?_)
 refine Za S2 (YC.drop 15 C1) ZX V V V ?_
 have V1:=A4.bound
 refine Zl (A4.mono L1) ZS V V ?_
 have S4:=S2.pad
 refine LP.go ft [] (fun m ρ1 w1=>∃ (k1 : Nat),∃ (v5 : Value) (o1 : OB),∃ (G2 : GH),m = q.l.length - k1 ∧ G1.le G2 ∧ St w [] G G2 [o1,some (b1,32,[U 0,Zb [],Zh,Zh,U 0,Zb [],Zb [],U 0,U 0,Zb [],Zh,U 0,U 0,U 0,U 0,Zh])] w1 ∧ YH QryE 224 32 G2 v5 ((q.l.take k1).map (ZD l)) o1 ∧ FR ρ1 [(1,vl),(2,Zu p1),(4, .pointer (some ⟨b1,0,none⟩)),(5,v5),(9,v4),(10,U (q.l.length : Int)),(11,U (k1 : Int))] ∧ k1 ≤ q.l.length) _ ⟨0,(Zh),none,G1,V,(G1.le_refl),S4,(YH.cast (YH.nil QryE 224 32 G1) (by simp)),(Yt V),(by omega)⟩ ?_
 rintro m ρ1 w3 ⟨k1,v5,o1,G2,rfl,L2,S3,R1,F9,f1⟩
 refine F9.set ?_
 clear F9
 have hlt9:=List.length_take_le' k1 q.l
 refine Z1 (k1 : Int) (q.l.length : Int) V V V (fun h1=>?_) (fun h1=>?_)
 ·have j1:=(L1.trans L2)
  refine WL.indexAddr (A4.mono j1) k1 (by omega) ZS Zg V V V V (fun p2 x1 U1 E1=>?_)
  obtain ⟨D1,C2,R2⟩:=E1
  have T2:=Ze R2
  obtain ⟨v6,v7,v9,v10,rfl,ZV,Ye,A5,A6,Yd,B16,B17,Yf,B19,B20,A7,B21,B22,B23,B24,A8⟩:=T2
  refine Zc S3 C2 (QV x1 v6 v7 v9 v10) Zg V V V V V ?_
  refine WL.alloc S3 Zg V V (fun b2 w4 N2 S5=>?_)
  refine WL.store S5 0 _ _ _ 0 _ (QV x1 v6 v7 v9 v10) (QV x1 v6 v7 v9 v10) _ V V Zg V (ZN V) (by simp only [ZW,A5.oneC,A6.oneC,A7.oneC,A8.oneC] <;> rfl) V V V V V (fun w5 S6=>?_)
  have T3:=S6.shutB N2
  obtain ⟨G3,L3,C3,S7⟩:=T3
  refine Zc S7 C3 (QV x1 v6 v7 v9 v10) Zg V V V V V ?_
  refine Zv S7 Zac V V V (ih S7.imm x1 l (hg.mono (j1.trans L3)) _ (Zd x1 ZV Ye (A5.mono L3) (A6.mono L3) Yd B16 B17 Yf B19 B20 (A7.mono L3) B21 B22 B23 B24 (A8.mono L3)) _ (hvl.mono (j1.trans L3)) hgs (Yp hn (List.mem_of_getElem? ‹_›)) (hw.kid (List.mem_of_getElem? ‹_›))) (fun w6 G4 r1 P1 S8 L4=>?_)
  obtain ⟨D2,rfl,R3⟩:=P1
  have T4:=Ze R3
  obtain ⟨v11,v12,v13,v14,rfl,X6,B26,A9,A10,B27,B28,B29,B30,B31,B32,A11,B33,XM,B35,B36,A12⟩:=T4
  refine WL.buildSlice _ [(0,(QV (ZD l x1) v11 v12 v13 v14))] (QV (ZD l x1) v11 v12 v13 v14) S8 YL V V V V (fun z hz=>by match z,hz with | [z0,z1,z2,z3,z4,z5,z6,z7,z8,z9,z10,z11,z12,z13,z14,z15],_=>rfl) (fun b3 w7 N3 S9=>?_)
  refine WL.push (m:=([(ZD l x1)] : List Query)) YL V V V (R1.mono (L3.trans L4)) S9 1 V 0 _ _ _ _ _ V ⟨(QV (ZD l x1) v11 v12 v13 v14),_,V,(Zd (ZD l x1) X6 B26 A9 A10 B27 B28 B29 B30 B31 B32 A11 B33 XM B35 B36 A12),V⟩ V (by have:=Zm; have hby9:=(by assumption : Sl QryE 224 G _ q.l).bytes; simp only [List.length_append,List.length_map,List.length_take,List.length_cons,List.length_nil]; omega) (by have:=Zm; have hby9:=(by assumption : Sl QryE 224 G _ q.l).bytes; simp only [List.length_append,List.length_map,List.length_take,List.length_cons,List.length_nil]; omega) V V V (fun v15 o2 w9 R4 S10=>?_)
  have S11:=S10.tail
  refine ZC k1 (by have:=Zm; omega) V V V ?_
  exact BK.mk' _ ⟨k1 + 1,v15,o2,G4,V,(L2.trans (L3.trans L4)),S11,(YH.cast R4 (by (exact (Zlu ‹_›).symm))),(Yt V),(by omega)⟩ (show q.l.length - (k1 + 1) < q.l.length - k1 by omega)
 have T5:=YH.freeze R1 S3 0 V
 obtain ⟨G5,L5,A13,S12⟩:=T5
 have hpm:=Sl.cast (l':=q.l.map (ZD l)) A13 (by rw [List.take_of_length_le (by omega)])
 have j2:=(L2.trans L5)
 refine Za S12 (YC.drop 0 (C1.mono j2)) Z3 V V V ?_
 refine Zj q.kind 8 V V V (fun h2=>?_) (fun h2=>?_)
 ·have T6:=Sl.at hpm 0 (by (rw [List.length_map]; have:=har.1 (by omega); omega))
  obtain ⟨p3,x2,U2,E2,W1⟩:=T6
  obtain ⟨D3,C4,R5⟩:=E2
  have T7:=Ze R5
  obtain ⟨v16,v17,v18,v19,rfl,B37,B38,A14,A15,Qj,Qk,XN,Qo,Q5,Zad,A16,Qt,QJ,Zav,Zaw,A17⟩:=T7
  refine dr [(1,true),(5,false),(6,false)] [(26, .agg (QV q v1 v2 v3 v4).toArray),(29,Zu p3),(30, .agg (QV x2 v16 v17 v18 v19).toArray)] S12 ⟨fun _ hSw=>Zc hSw (C1.mono j2) (QV q v1 v2 v3 v4) Zg V V V V V <| nu V V,fun _=>Zf 0 W1 ZS Zg V V V V <| nu V V,fun _ hSw=>Zc hSw C4 (QV x2 v16 v17 v18 v19) Zg V V V V V <| nu V V,trivial⟩ (fun w10 S13=>?_)
  have j3:=((L1.trans L2).trans L5)
  refine Zv S13 ZaE V V V (Zib S13.imm q _ (Zd q B1 B2 (A1.mono j3) (A2.mono j3) B3 B4 B5 B6 B7 ZK (A3.mono j3) hb9 Z9 Z7 Z6 (A4.mono j3))) (fun w11 G6 r2 P2 S14 L6=>?_)
  obtain ⟨D4,rfl,R6⟩:=P2
  have T8:=Ze R6
  obtain ⟨v20,v21,v22,v23,rfl,QK,Zax,A18,A19,QL,ZaT,B54,ZaU,Zay,ZaB,A20,Zbg,Zbh,Zbi,B61,A21⟩:=T8
  refine ⟨S14.down S13.le L6,?_⟩
  refine Zv S14 XV V V V (ZnP (Yc x2) S14.imm (ZA q) x2 _ (Zd (ZA q) QK Zax A18 A19 QL ZaT B54 ZaU Zay ZaB A20 Zbg Zbh Zbi B61 A21) _ (Zd x2 B37 B38 (A14.mono L6) (A15.mono L6) Qj Qk XN Qo Q5 Zad (A16.mono L6) Qt QJ Zav Zaw (A17.mono L6)) (YU _) (Zjd hw (by assumption : (List.map (ZD l) q.l)[0]? = some _)).wf) (fun w12 G7 r3 P3 S15 L7=>?_)
  obtain ⟨D5,rfl,R7⟩:=P3
  have T9:=Ze R7
  obtain ⟨v24,v25,v26,v27,rfl,B62,B63,A22,A23,B64,B65,B66,B67,B68,B69,A24,B70,B71,B72,B73,A25⟩:=T9
  refine WL.store S15 1 _ _ _ 0 _ (QV (Zt (ZA q) x2) v24 v25 v26 v27) (QV (Zt (ZA q) x2) v24 v25 v26 v27) _ V V Zg V (ZN V) (by simp only [ZW,A22.oneC,A23.oneC,A24.oneC,A25.oneC] <;> rfl) V V V V V (fun w13 S16=>?_)
  exact YD [.agg (QV (Zt (ZA q) x2) v24 v25 v26 v27).toArray] S16 ⟨_,_,_,V,V,S16.loadA 1 _ _ _ 0 (QV (Zt (ZA q) x2) v24 v25 v26 v27) V V V Zg V,V⟩ (Is.cast ⟨_,V,(Zd (Zt (ZA q) x2) B62 B63 A22 A23 B64 B65 B66 B67 B68 B69 A24 B70 B71 B72 B73 A25)⟩ (by with_reducible exact Zks ‹_› (by assumption : (List.map (ZD l) q.l)[0]? = some _)))
 refine Zj q.kind 2 V V V (fun h3=>?_) (fun h3=>?_)
 ·have T10:=Sl.at hpm 0 (by (rw [List.length_map]; have:=har.1 (by omega); omega))
  obtain ⟨p4,x3,U3,E3,W2⟩:=T10
  obtain ⟨D6,C5,R8⟩:=E3
  have T11:=Ze R8
  obtain ⟨v28,v29,v30,v31,rfl,B74,B75,A26,A27,B76,B77,Zae,B79,B80,B81,A28,B82,B83,ZaC,B85,A29⟩:=T11
  refine dr [(1,true),(6,false),(7,false)] [(34, .agg (QV q v1 v2 v3 v4).toArray),(37,Zu p4),(38, .agg (QV x3 v28 v29 v30 v31).toArray)] S12 ⟨fun _ hSw=>Zc hSw (C1.mono j2) (QV q v1 v2 v3 v4) Zg V V V V V <| nu V V,fun _=>Zf 0 W2 ZS Zg V V V V <| nu V V,fun _ hSw=>Zc hSw C5 (QV x3 v28 v29 v30 v31) Zg V V V V V <| nu V V,trivial⟩ (fun w14 S17=>?_)
  have j4:=((L1.trans L2).trans L5)
  refine Zv S17 ZaE V V V (Zib S17.imm q _ (Zd q B1 B2 (A1.mono j4) (A2.mono j4) B3 B4 B5 B6 B7 ZK (A3.mono j4) hb9 Z9 Z7 Z6 (A4.mono j4))) (fun w15 G9 r4 P4 S18 L9=>?_)
  obtain ⟨D7,rfl,R9⟩:=P4
  have T12:=Ze R9
  obtain ⟨v32,v33,v34,v35,rfl,ZaV,B87,A30,A31,B88,B89,B90,B91,B92,B93,A32,B94,B95,B96,B97,A33⟩:=T12
  refine ⟨S18.down S17.le L9,?_⟩
  refine Zv S18 XQ V V V (ZkK (Yc x3) S18.imm (ZA q) x3 l (hg.mono (((L1.trans L2).trans L5).trans L9)) _ (Zd (ZA q) ZaV B87 A30 A31 B88 B89 B90 B91 B92 B93 A32 B94 B95 B96 B97 A33) _ (Zd x3 B74 B75 (A26.mono L9) (A27.mono L9) B76 B77 Zae B79 B80 B81 (A28.mono L9) B82 B83 ZaC B85 (A29.mono L9)) _ (hvl.mono (((L1.trans L2).trans L5).trans L9)) hgs (YU _) (Zjd hw (by assumption : (List.map (ZD l) q.l)[0]? = some _)) (hw.node.2.2.2.2 ‹_›)) (fun w16 G10 r5 P5 S19 L10=>?_)
  obtain ⟨D8,rfl,R10⟩:=P5
  have T13:=Ze R10
  obtain ⟨v36,v37,v38,v39,rfl,B98,B99,A34,A35,QA,ZaD,B102,B103,B104,QB,A36,Zal,QS,Zam,Zan,A37⟩:=T13
  refine WL.store S19 1 _ _ _ 0 _ (QV (Zp l (ZA q) x3) v36 v37 v38 v39) (QV (Zp l (ZA q) x3) v36 v37 v38 v39) _ V V Zg V (ZN V) (by simp only [ZW,A34.oneC,A35.oneC,A36.oneC,A37.oneC] <;> rfl) V V V V V (fun w17 S20=>?_)
  exact YD [.agg (QV (Zp l (ZA q) x3) v36 v37 v38 v39).toArray] S20 ⟨_,_,_,V,V,S20.loadA 1 _ _ _ 0 (QV (Zp l (ZA q) x3) v36 v37 v38 v39) V V V Zg V,V⟩ (Is.cast ⟨_,V,(Zd (Zp l (ZA q) x3) B98 B99 A34 A35 QA ZaD B102 B103 B104 QB A36 Zal QS Zam Zan A37)⟩ (by with_reducible exact Zkt ‹_› (by assumption : (List.map (ZD l) q.l)[0]? = some _)))
 refine Zc S12 (C1.mono j2) (QV q v1 v2 v3 v4) Zg V V V V V ?_
 have j5:=((L1.trans L2).trans L5)
 refine Zv S12 Xi V V V (Xl S12.imm q (q.l.map (ZD l)) _ (Zd q B1 B2 (A1.mono j5) (A2.mono j5) B3 B4 B5 B6 B7 ZK (A3.mono j5) hb9 Z9 Z7 Z6 (A4.mono j5)) _ hpm) (fun w18 G11 r6 P6 S21 L11=>?_)
 obtain ⟨D9,rfl,R11⟩:=P6
 have T14:=Ze R11
 obtain ⟨v40,v41,v42,v43,rfl,ZaF,Zao,A38,A39,ZaG,XW,XR,Xj,ZaH,QT,A40,Zap,Zaq,ZaI,ZaJ,A41⟩:=T14
 refine WL.store S21 1 _ _ _ 0 _ (QV (Zk q (q.l.map (ZD l))) v40 v41 v42 v43) (QV (Zk q (q.l.map (ZD l))) v40 v41 v42 v43) _ V V Zg V (ZN V) (by simp only [ZW,A38.oneC,A39.oneC,A40.oneC,A41.oneC] <;> rfl) V V V V V (fun w19 S22=>?_)
 exact YD [.agg (QV (Zk q (q.l.map (ZD l))) v40 v41 v42 v43).toArray] S22 ⟨_,_,_,V,V,S22.loadA 1 _ _ _ 0 (QV (Zk q (q.l.map (ZD l))) v40 v41 v42 v43) V V V Zg V,V⟩ (Is.cast ⟨_,V,(Zd (Zk q (q.l.map (ZD l))) ZaF Zao A38 A39 ZaG XW XR Xj ZaH QT A40 Zap Zaq ZaI ZaJ A41)⟩ (by with_reducible exact Zku ‹_› ‹_›))
theorem ZnT (n : Nat) : ∀ {G : GH} {w : World} (hG : G.In w) (q : Query) (l : List Schema) (cq : List Value) (hcq : QryE.rep G q cq) (vl : Value) (hvl : Sl SchemaE 72 G vl l) (hgs : QG l = true) (hn : Xx q n) (hw : GdQ q),CL Tryz.prog (nat_lit 51) #[.agg cq.toArray,vl] [] w G fun G' _ r=>Is QryE G' r (ZD l q):=by
 induction n
 ·intro G w hG q l cq hcq vl hvl hgs hn hw; exact (Q9 hn).elim
 rename_i n ih
 intro G w hG q l cq hcq vl hvl hgs hn hw
 refine YA ft [] Tryz.func51 V V ?_
 have har:=hw.ar
 have hS:=St.start (X:=[]) hG
 have T1:=Ze hcq
 obtain ⟨v1,v2,v3,v4,rfl,B1,B2,A1,A2,B3,B4,B5,B6,B7,ZK,A3,hb9,Z9,Z7,Z6,A4⟩:=T1
 refine ZL (QV q v1 v2 v3 v4) _ hS V V V (fun p1 w1 G1 L1 M1 C1 S1=>?_)
 refine WL.alloc S1 Zg V V (fun b1 w2 N1 S2=>?_)
 refine Zc S2 C1 (QV q v1 v2 v3 v4) Zg V V V V V ?_
 refine Zv S2 ZaG V V V (Zqq S2.imm q _ (Zd q B1 B2 (A1.mono L1) (A2.mono L1) B3 B4 B5 B6 B7 ZK (A3.mono L1) hb9 Z9 Z7 Z6 (A4.mono L1))) (fun w3 G2 r1 P1 S3 L2=>?_)
 obtain ⟨D1,rfl,R1⟩:=P1
 have T2:=Ze R1
 obtain ⟨v5,v6,v7,v9,rfl,ZV,Ye,A5,A6,Yd,B16,B17,Yf,B19,B20,A7,B21,B22,B23,B24,A8⟩:=T2
 refine WL.alloc S3 Zg V V (fun b2 w4 N2 S4=>?_)
 refine WL.store S4 0 _ _ _ 0 _ (QV (ZA q) v5 v6 v7 v9) (QV (ZA q) v5 v6 v7 v9) _ V V Zg V (ZN V) (by simp only [ZW,A5.oneC,A6.oneC,A7.oneC,A8.oneC] <;> rfl) V V V V V (fun w5 S5=>?_)
 have T3:=S5.shutB N2
 obtain ⟨G3,L3,C2,S6⟩:=T3
 have S8:=S6.pad
 refine LP.go ft [] (fun m ρ1 w1=>∃ (k1 : Nat),∃ (v10 : Value) (o1 : OB),∃ (G4 : GH),m = q.l.length - k1 ∧ G3.le G4 ∧ St w [] G G4 [o1,some (b1,32,[U 0,Zb [],Zh,Zh,U 0,Zb [],Zb [],U 0,U 0,Zb [],Zh,U 0,U 0,U 0,U 0,Zh])] w1 ∧ YH QryE 224 32 G4 v10 ((q.l.take k1).map (ZD l)) o1 ∧ FR ρ1 [(1,vl),(2,Zu p1),(4, .pointer (some ⟨b1,0,none⟩)),(5, .pointer (some (⟨b2,0,none⟩ : Addr))),(6,v10),(7,U (k1 : Int))] ∧ k1 ≤ q.l.length) _ ⟨0,(Zh),none,G3,V,(G3.le_refl),S8,(YH.cast (YH.nil QryE 224 32 G3) (by simp)),(Yt V),(by omega)⟩ ?_
 rintro m ρ1 w6 ⟨k1,v10,o1,G4,rfl,L4,S7,R2,F9,f1⟩
 refine F9.set ?_
 clear F9
 have hlt9:=List.length_take_le' k1 q.l
 have j1:=((L2.trans L3).trans L4)
 refine Za S7 (YC.drop 15 (C1.mono j1)) ZX V V V ?_
 have V1:=A4.bound
 have j2:=(((L1.trans L2).trans L3).trans L4)
 refine Zl (A4.mono j2) ZS V V ?_
 refine Z1 (k1 : Int) (q.l.length : Int) V V V (fun h1=>?_) (fun h1=>?_)
 ·refine Za S7 (YC.drop 15 (C1.mono j1)) ZX V V V ?_
  refine WL.indexAddr (A4.mono j2) k1 (by omega) ZS Zg V V V V (fun p2 x1 U1 E1=>?_)
  obtain ⟨D2,C3,R3⟩:=E1
  have T4:=Ze R3
  obtain ⟨v11,v12,v13,v14,rfl,X6,B26,A9,A10,B27,B28,B29,B30,B31,B32,A11,B33,XM,B35,B36,A12⟩:=T4
  refine Zc S7 C3 (QV x1 v11 v12 v13 v14) Zg V V V V V ?_
  refine Zv S7 Zax V V V (ih S7.imm x1 l _ (Zd x1 X6 B26 A9 A10 B27 B28 B29 B30 B31 B32 A11 B33 XM B35 B36 A12) _ (hvl.mono j2) hgs (Yp hn (List.mem_of_getElem? ‹_›)) (hw.kid (List.mem_of_getElem? ‹_›))) (fun w7 G5 r2 P2 S9 L5=>?_)
  obtain ⟨D3,rfl,R4⟩:=P2
  have T5:=Ze R4
  obtain ⟨v15,v16,v17,v18,rfl,B37,B38,A13,A14,Qj,Qk,XN,Qo,Zac,Q5,A15,Zad,Qt,QJ,Zav,A16⟩:=T5
  refine WL.buildSlice _ [(0,(QV (ZD l x1) v15 v16 v17 v18))] (QV (ZD l x1) v15 v16 v17 v18) S9 YL V V V V (fun z hz=>by match z,hz with | [z0,z1,z2,z3,z4,z5,z6,z7,z8,z9,z10,z11,z12,z13,z14,z15],_=>rfl) (fun b3 w9 N3 S10=>?_)
  refine WL.push (m:=([(ZD l x1)] : List Query)) YL V V V (R2.mono L5) S10 1 V 0 _ _ _ _ _ V ⟨(QV (ZD l x1) v15 v16 v17 v18),_,V,(Zd (ZD l x1) B37 B38 A13 A14 Qj Qk XN Qo Zac Q5 A15 Zad Qt QJ Zav A16),V⟩ V (by have:=Zm; have hby9:=(by assumption : Sl QryE 224 G _ q.l).bytes; simp only [List.length_append,List.length_map,List.length_take,List.length_cons,List.length_nil]; omega) (by have:=Zm; have hby9:=(by assumption : Sl QryE 224 G _ q.l).bytes; simp only [List.length_append,List.length_map,List.length_take,List.length_cons,List.length_nil]; omega) V V V (fun v19 o2 w10 R5 S11=>?_)
  have S12:=S11.tail
  refine ZC k1 (by have:=Zm; omega) V V V ?_
  exact BK.mk' _ ⟨k1 + 1,v19,o2,G5,V,(L4.trans L5),S12,(YH.cast R5 (by (exact (Zlu ‹_›).symm))),(Yt V),(by omega)⟩ (show q.l.length - (k1 + 1) < q.l.length - k1 by omega)
 have T6:=YH.freeze R2 S7 0 V
 obtain ⟨G6,L6,A17,S13⟩:=T6
 have hpm:=Sl.cast (l':=q.l.map (ZD l)) A17 (by rw [List.take_of_length_le (by omega)])
 refine Za S13 (YC.drop 0 (C1.mono (j1.trans L6))) Z3 V V V ?_
 refine Zj q.kind 8 V V V (fun h2=>?_) (fun h2=>?_)
 ·have T7:=Sl.at hpm 0 (by (rw [List.length_map]; have:=har.1 (by omega); omega))
  obtain ⟨p3,x2,U2,E2,W1⟩:=T7
  obtain ⟨D4,C4,R6⟩:=E2
  have T8:=Ze R6
  obtain ⟨v20,v21,v22,v23,rfl,Zaw,QK,A18,A19,QL,ZaT,B54,ZaU,Zay,ZaB,A20,Zbg,Zbh,Zbi,B61,A21⟩:=T8
  refine dr [(4,false),(5,false)] [(30, .agg (QV (ZA q) v5 v6 v7 v9).toArray),(32,Zu p3),(33, .agg (QV x2 v20 v21 v22 v23).toArray)] S13 ⟨fun _ hSw=>Zc hSw (C2.mono (L4.trans L6)) (QV (ZA q) v5 v6 v7 v9) Zg V V V V V <| nu V V,fun _=>Zf 0 W1 ZS Zg V V V V <| nu V V,fun _ hSw=>Zc hSw C4 (QV x2 v20 v21 v22 v23) Zg V V V V V <| nu V V,trivial⟩ (fun w11 S14=>?_)
  have j3:=((L3.trans L4).trans L6)
  refine Zv S14 XW V V V (ZnQ (Yc x2) S14.imm (ZA q) x2 _ (Zd (ZA q) ZV Ye (A5.mono j3) (A6.mono j3) Yd B16 B17 Yf B19 B20 (A7.mono j3) B21 B22 B23 B24 (A8.mono j3)) _ (Zd x2 Zaw QK A18 A19 QL ZaT B54 ZaU Zay ZaB A20 Zbg Zbh Zbi B61 A21) (YU _) (Zjd hw (by assumption : (List.map (ZD l) q.l)[0]? = some _)).wf) (fun w12 G7 r3 P3 S15 L7=>?_)
  obtain ⟨D5,rfl,R7⟩:=P3
  have T9:=Ze R7
  obtain ⟨v24,v25,v26,v27,rfl,B62,B63,A22,A23,B64,B65,B66,B67,B68,B69,A24,B70,B71,B72,B73,A25⟩:=T9
  refine WL.store S15 1 _ _ _ 0 _ (QV (Zt (ZA q) x2) v24 v25 v26 v27) (QV (Zt (ZA q) x2) v24 v25 v26 v27) _ V V Zg V (ZN V) (by simp only [ZW,A22.oneC,A23.oneC,A24.oneC,A25.oneC] <;> rfl) V V V V V (fun w13 S16=>?_)
  exact YD [.agg (QV (Zt (ZA q) x2) v24 v25 v26 v27).toArray] S16 ⟨_,_,_,V,V,S16.loadA 1 _ _ _ 0 (QV (Zt (ZA q) x2) v24 v25 v26 v27) V V V Zg V,V⟩ (Is.cast ⟨_,V,(Zd (Zt (ZA q) x2) B62 B63 A22 A23 B64 B65 B66 B67 B68 B69 A24 B70 B71 B72 B73 A25)⟩ (by with_reducible exact Zks ‹_› (by assumption : (List.map (ZD l) q.l)[0]? = some _)))
 refine Za S13 (YC.drop 0 (C1.mono (j1.trans L6))) Z3 V V V ?_
 refine Zj q.kind 2 V V V (fun h3=>?_) (fun h3=>?_)
 ·have T10:=Sl.at hpm 0 (by (rw [List.length_map]; have:=har.1 (by omega); omega))
  obtain ⟨p4,x3,U3,E3,W2⟩:=T10
  obtain ⟨D6,C5,R8⟩:=E3
  have T11:=Ze R8
  obtain ⟨v28,v29,v30,v31,rfl,B74,B75,A26,A27,B76,B77,Zae,B79,B80,B81,A28,B82,B83,ZaC,B85,A29⟩:=T11
  refine dr [(5,false),(6,false)] [(38, .agg (QV (ZA q) v5 v6 v7 v9).toArray),(40,Zu p4),(41, .agg (QV x3 v28 v29 v30 v31).toArray)] S13 ⟨fun _ hSw=>Zc hSw (C2.mono (L4.trans L6)) (QV (ZA q) v5 v6 v7 v9) Zg V V V V V <| nu V V,fun _=>Zf 0 W2 ZS Zg V V V V <| nu V V,fun _ hSw=>Zc hSw C5 (QV x3 v28 v29 v30 v31) Zg V V V V V <| nu V V,trivial⟩ (fun w14 S17=>?_)
  have j4:=((L3.trans L4).trans L6)
  refine Zv S17 XR V V V (ZkL (Yc x3) S17.imm (ZA q) x3 l _ (Zd (ZA q) ZV Ye (A5.mono j4) (A6.mono j4) Yd B16 B17 Yf B19 B20 (A7.mono j4) B21 B22 B23 B24 (A8.mono j4)) _ (Zd x3 B74 B75 A26 A27 B76 B77 Zae B79 B80 B81 A28 B82 B83 ZaC B85 A29) _ (hvl.mono (j2.trans L6)) hgs (YU _) (Zjd hw (by assumption : (List.map (ZD l) q.l)[0]? = some _)) (hw.node.2.2.2.2 ‹_›)) (fun w15 G9 r4 P4 S18 L9=>?_)
  obtain ⟨D7,rfl,R9⟩:=P4
  have T12:=Ze R9
  obtain ⟨v32,v33,v34,v35,rfl,ZaV,B87,A30,A31,B88,B89,B90,B91,B92,B93,A32,B94,B95,B96,B97,A33⟩:=T12
  refine WL.store S18 1 _ _ _ 0 _ (QV (Zp l (ZA q) x3) v32 v33 v34 v35) (QV (Zp l (ZA q) x3) v32 v33 v34 v35) _ V V Zg V (ZN V) (by simp only [ZW,A30.oneC,A31.oneC,A32.oneC,A33.oneC] <;> rfl) V V V V V (fun w16 S19=>?_)
  exact YD [.agg (QV (Zp l (ZA q) x3) v32 v33 v34 v35).toArray] S19 ⟨_,_,_,V,V,S19.loadA 1 _ _ _ 0 (QV (Zp l (ZA q) x3) v32 v33 v34 v35) V V V Zg V,V⟩ (Is.cast ⟨_,V,(Zd (Zp l (ZA q) x3) ZaV B87 A30 A31 B88 B89 B90 B91 B92 B93 A32 B94 B95 B96 B97 A33)⟩ (by with_reducible exact Zkt ‹_› (by assumption : (List.map (ZD l) q.l)[0]? = some _)))
 refine Zc S13 (C2.mono (L4.trans L6)) (QV (ZA q) v5 v6 v7 v9) Zg V V V V V ?_
 have j5:=((L3.trans L4).trans L6)
 refine Zv S13 Xj V V V (Xm S13.imm (ZA q) (q.l.map (ZD l)) _ (Zd (ZA q) ZV Ye (A5.mono j5) (A6.mono j5) Yd B16 B17 Yf B19 B20 (A7.mono j5) B21 B22 B23 B24 (A8.mono j5)) _ hpm) (fun w17 G10 r5 P5 S20 L10=>?_)
 obtain ⟨D8,rfl,R10⟩:=P5
 have T13:=Ze R10
 obtain ⟨v36,v37,v38,v39,rfl,B98,B99,A34,A35,QA,ZaD,B102,B103,B104,XV,A36,ZaE,XQ,Xi,QB,A37⟩:=T13
 refine WL.store S20 1 _ _ _ 0 _ (QV (Zk (ZA q) (q.l.map (ZD l))) v36 v37 v38 v39) (QV (Zk (ZA q) (q.l.map (ZD l))) v36 v37 v38 v39) _ V V Zg V (ZN V) (by simp only [ZW,A34.oneC,A35.oneC,A36.oneC,A37.oneC] <;> rfl) V V V V V (fun w18 S21=>?_)
 exact YD [.agg (QV (Zk (ZA q) (q.l.map (ZD l))) v36 v37 v38 v39).toArray] S21 ⟨_,_,_,V,V,S21.loadA 1 _ _ _ 0 (QV (Zk (ZA q) (q.l.map (ZD l))) v36 v37 v38 v39) V V V Zg V,V⟩ (Is.cast ⟨_,V,(Zd (Zk (ZA q) (q.l.map (ZD l))) B98 B99 A34 A35 QA ZaD B102 B103 B104 XV A36 ZaE XQ Xi QB A37)⟩ (by with_reducible exact Zs9 ‹_› ‹_›))
theorem Zl0 {G : GH} {w : World} (hG : G.In w) (q : Query) (l : List Schema) (hg : Glob G) (cq : List Value) (hcq : QryE.rep G q cq) (vl : Value) (hvl : Sl SchemaE 72 G vl l) (hsm : smQ (Yc q) q) : CL Tryz.prog (nat_lit 10) #[.agg cq.toArray,vl] [] w G fun G' _ r=>∃ r0 r1,r = .tuple #[r0,r1] ∧ Is QryE G' r0 ((Yv q l).1) ∧ r1 = U ((Yv q l).2):=by
 refine YA ft [] Tryz.func10 V V ?_
 have hS:=St.start (X:=[]) hG
 have T1:=Ze hcq
 obtain ⟨v1,v2,v3,v4,rfl,B1,B2,A1,A2,B3,B4,B5,B6,B7,ZK,A3,hb9,Z9,Z7,Z6,A4⟩:=T1
 refine ZL (QV q v1 v2 v3 v4) _ hS V V V (fun p1 w1 G1 L1 M1 C1 S1=>?_)
 refine WL.alloc S1 Zg V V (fun b1 w2 N1 S2=>?_)
 refine Zc S2 C1 (QV q v1 v2 v3 v4) Zg V V V V V <| Zv S2 Ye V V V (ZaN S2.imm (Yc q) q l (hg.mono L1) _ (Zd q B1 B2 (A1.mono L1) (A2.mono L1) B3 B4 B5 B6 B7 ZK (A3.mono L1) hb9 Z9 Z7 Z6 (A4.mono L1)) _ (hvl.mono L1) (YU _) hsm) ?_
 rintro w3 G2 _ ⟨r2,_,rfl,A5,rfl⟩ S3 L2
 refine Z8 ((ZP (Yc q) q l).2) 0 V V V (fun h1=>?_) (fun h1=>?_)
 ·refine WL.build _ [] [U 0,Zb [],Zh,Zh,U 0,Zb [],Zb [],U 0,U 0,Zb [],Zh,U 0,U 0,U 0,U 0,Zh] Zg V ZgG V V V V ?_
  refine ZY S3 0 [U 0,Zb [],Zh,Zh,U 0,Zb [],Zb [],U 0,U 0,Zb [],Zh,U 0,U 0,U 0,U 0,Zh] V V Zg V V V V V V (fun w4 S4=>?_)
  exact YD [.agg #[U 0,Zb [],Zh,Zh,U 0,Zb [],Zb [],U 0,U 0,Zb [],Zh,U 0,U 0,U 0,U 0,Zh],U ((ZP (Yc q) q l).2)] S4 ⟨_,_,_,V,V,S4.loadA 0 _ _ _ 0 [U 0,Zb [],Zh,Zh,U 0,Zb [],Zb [],U 0,U 0,Zb [],Zh,U 0,U 0,U 0,U 0,Zh] V V V Zg V,⟨_,V,V⟩⟩ ⟨_,_,V,(Is.cast ⟨_,V,(Zd (Query.mk 0 [] [] [] (Cond.mk 0 [] [] (Val.mk 0 0 []) []) 0 0 (Span.mk 0 0) []) Yr (by simp [reach]) (Sl.nil Enc.str 16 G2) (Sl.nil Enc.str 16 G2) Yr (by simp [reach]) (by simp [reach]) Yr Yr (by simp [reach]) (Sl.nil CndE 96 G2) Yr Yr Yr Yr (Sl.nil QryE 224 G2))⟩ (by with_reducible exact (ZhF ‹_›).1)),(congrArg (Value.int .i64) (by with_reducible exact (ZhF ‹_›).2))⟩
 refine Zc S3 (C1.mono L2) (QV q v1 v2 v3 v4) Zg V V V V V ?_
 have j1:=(L1.trans L2)
 refine Zv S3 Zac V V V (ZnS (Yc q) S3.imm q l (hg.mono j1) _ (Zd q B1 B2 (A1.mono j1) (A2.mono j1) B3 B4 B5 B6 B7 ZK (A3.mono j1) hb9 Z9 Z7 Z6 (A4.mono j1)) _ (hvl.mono j1) (ZeS (by assumption : (ZP (Yc q) q l).2 = 0)).1 (YU _) (ZhH (YU _) (by assumption : (ZP (Yc q) q l).2 = 0) hsm)) (fun w5 G3 r4 P2 S5 L3=>?_)
 obtain ⟨D1,rfl,R1⟩:=P2
 have T2:=Ze R1
 obtain ⟨v5,v6,v7,v9,rfl,ZV,Yd,A6,A7,B16,B17,Yf,B19,B20,B21,A8,B22,B23,B24,X6,A9⟩:=T2
 refine WL.alloc S5 Zg V V (fun b2 w6 N2 S6=>?_)
 refine WL.store S6 0 _ _ _ 0 _ (QV (ZD l q) v5 v6 v7 v9) (QV (ZD l q) v5 v6 v7 v9) _ V V Zg V (ZN V) (by simp only [ZW,A6.oneC,A7.oneC,A8.oneC,A9.oneC] <;> rfl) V V V V V (fun w7 S7=>?_)
 have T3:=S7.shutB N2
 obtain ⟨G4,L4,C2,S8⟩:=T3
 refine Zc S8 C2 (QV (ZD l q) v5 v6 v7 v9) Zg V V V V V ?_
 have j2:=((j1.trans L3).trans L4)
 refine Zw S8 Q5 V V V (Zkb S8.imm (Yc (ZD l q)) (ZD l q) (hg.mono j2) _ (Zd (ZD l q) ZV Yd (A6.mono L4) (A7.mono L4) B16 B17 Yf B19 B20 B21 (A8.mono L4) B22 B23 B24 X6 (A9.mono L4)) (YU _)) (fun w9 G5 S9 L5=>?_)
 refine WL.split (fun (h2 : (Qp (Yc (ZD l q)) (ZD l q)) = true)=>?_) (fun (h2 : (Qp (Yc (ZD l q)) (ZD l q)) = false)=>?_)
 ·refine Zc S9 (C2.mono L5) (QV (ZD l q) v5 v6 v7 v9) Zg V V V V V ?_
  have j3:=(L4.trans L5)
  refine Zv S9 Zad V V V (ZeI (Yc (ZD l q)) S9.imm (ZD l q) _ (Zd (ZD l q) ZV Yd (A6.mono j3) (A7.mono j3) B16 B17 Yf B19 B20 B21 (A8.mono j3) B22 B23 B24 X6 (A9.mono j3)) (YU _)) (fun w10 G6 r5 P3 S10 L6=>?_)
  obtain ⟨D2,rfl,R2⟩:=P3
  have T4:=Ze R2
  obtain ⟨v10,v11,v12,v13,rfl,B26,B27,A10,A11,B28,B29,B30,B31,B32,B33,A12,XM,B35,B36,B37,A13⟩:=T4
  refine WL.store S10 0 _ _ _ 0 _ (QV (ZD l q) v10 v11 v12 v13) (QV (ZD l q) v10 v11 v12 v13) _ V V Zg V (ZN V) (by simp only [ZW,A10.oneC,A11.oneC,A12.oneC,A13.oneC] <;> rfl) V V V V V (fun w11 S11=>?_)
  exact YD [.agg (QV (ZD l q) v10 v11 v12 v13).toArray,U 0] S11 ⟨_,_,_,V,V,S11.loadA 0 _ _ _ 0 (QV (ZD l q) v10 v11 v12 v13) V V V Zg V,⟨_,V,V⟩⟩ ⟨_,_,V,(Is.cast ⟨_,V,(Zd (ZD l q) B26 B27 A10 A11 B28 B29 B30 B31 B32 B33 A12 XM B35 B36 B37 A13)⟩ (by with_reducible exact (Zgp ‹_› ‹_›).1)),(congrArg (Value.int .i64) (by with_reducible exact (Zgp ‹_› ‹_›).2))⟩
 refine Zc S9 (C1.mono (((L2.trans L3).trans L4).trans L5)) (QV q v1 v2 v3 v4) Zg V V V V V ?_
 have j4:=(j2.trans L5)
 refine Zv S9 Zad V V V (ZeI (Yc q) S9.imm q _ (Zd q B1 B2 (A1.mono j4) (A2.mono j4) B3 B4 B5 B6 B7 ZK (A3.mono j4) hb9 Z9 Z7 Z6 (A4.mono j4)) (YU _)) (fun w12 G7 r6 P4 S12 L7=>?_)
 obtain ⟨D3,rfl,R3⟩:=P4
 have T5:=Ze R3
 obtain ⟨v14,v15,v16,v17,rfl,B38,Qj,A14,A15,Qk,XN,Qo,Qt,QJ,Zav,A16,Zaw,QK,Zax,QL,A17⟩:=T5
 refine WL.store S12 0 _ _ _ 0 _ (QV q v14 v15 v16 v17) (QV q v14 v15 v16 v17) _ V V Zg V (ZN V) (by simp only [ZW,A14.oneC,A15.oneC,A16.oneC,A17.oneC] <;> rfl) V V V V V (fun w13 S13=>?_)
 exact YD [.agg (QV q v14 v15 v16 v17).toArray,U 0] S13 ⟨_,_,_,V,V,S13.loadA 0 _ _ _ 0 (QV q v14 v15 v16 v17) V V V Zg V,⟨_,V,V⟩⟩ ⟨_,_,V,(Is.cast ⟨_,V,(Zd q B38 Qj A14 A15 Qk XN Qo Qt QJ Zav A16 Zaw QK Zax QL A17)⟩ (by with_reducible exact (ZhG ‹_› ‹_›).1)),(congrArg (Value.int .i64) (by with_reducible exact (ZhG ‹_› ‹_›).2))⟩
theorem Zqy {G : GH} {w : World} (hG : G.In w) (q : Query) (l : List Schema) (cq : List Value) (hcq : QryE.rep G q cq) (vl : Value) (hvl : Sl SchemaE 72 G vl l) (hgs : QG l = true) (hsm : smQ (Yc q) q) : CL Tryz.prog (nat_lit 13) #[.agg cq.toArray,vl] [] w G fun G' _ r=>∃ r0 r1,r = .tuple #[r0,r1] ∧ Is QryE G' r0 ((Yv q l).1) ∧ r1 = U ((Yv q l).2):=by
 refine YA ft [] Tryz.func13 V V ?_
 have hS:=St.start (X:=[]) hG
 have T1:=Ze hcq
 obtain ⟨v1,v2,v3,v4,rfl,B1,B2,A1,A2,B3,B4,B5,B6,B7,ZK,A3,hb9,Z9,Z7,Z6,A4⟩:=T1
 refine ZL (QV q v1 v2 v3 v4) _ hS V V V (fun p1 w1 G1 L1 M1 C1 S1=>?_)
 refine WL.alloc S1 Zg V V (fun b1 w2 N1 S2=>?_)
 refine Zc S2 C1 (QV q v1 v2 v3 v4) Zg V V V V V <| Zv S2 QK V V V (Zg6 S2.imm (Yc q) q l _ (Zd q B1 B2 (A1.mono L1) (A2.mono L1) B3 B4 B5 B6 B7 ZK (A3.mono L1) hb9 Z9 Z7 Z6 (A4.mono L1)) _ (hvl.mono L1) hgs (YU _) hsm) ?_
 rintro w3 G2 _ ⟨r2,_,rfl,A5,rfl⟩ S3 L2
 refine Z8 ((ZP (Yc q) q l).2) 0 V V V (fun h1=>?_) (fun h1=>?_)
 ·refine WL.build _ [] [U 0,Zb [],Zh,Zh,U 0,Zb [],Zb [],U 0,U 0,Zb [],Zh,U 0,U 0,U 0,U 0,Zh] Zg V ZgG V V V V ?_
  refine ZY S3 0 [U 0,Zb [],Zh,Zh,U 0,Zb [],Zb [],U 0,U 0,Zb [],Zh,U 0,U 0,U 0,U 0,Zh] V V Zg V V V V V V (fun w4 S4=>?_)
  exact YD [.agg #[U 0,Zb [],Zh,Zh,U 0,Zb [],Zb [],U 0,U 0,Zb [],Zh,U 0,U 0,U 0,U 0,Zh],U ((ZP (Yc q) q l).2)] S4 ⟨_,_,_,V,V,S4.loadA 0 _ _ _ 0 [U 0,Zb [],Zh,Zh,U 0,Zb [],Zb [],U 0,U 0,Zb [],Zh,U 0,U 0,U 0,U 0,Zh] V V V Zg V,⟨_,V,V⟩⟩ ⟨_,_,V,(Is.cast ⟨_,V,(Zd (Query.mk 0 [] [] [] (Cond.mk 0 [] [] (Val.mk 0 0 []) []) 0 0 (Span.mk 0 0) []) Yr (by simp [reach]) (Sl.nil Enc.str 16 G2) (Sl.nil Enc.str 16 G2) Yr (by simp [reach]) (by simp [reach]) Yr Yr (by simp [reach]) (Sl.nil CndE 96 G2) Yr Yr Yr Yr (Sl.nil QryE 224 G2))⟩ (by with_reducible exact (ZhF ‹_›).1)),(congrArg (Value.int .i64) (by with_reducible exact (ZhF ‹_›).2))⟩
 refine Zc S3 (C1.mono L2) (QV q v1 v2 v3 v4) Zg V V V V V ?_
 have j1:=(L1.trans L2)
 refine Zv S3 Zax V V V (ZnT (Yc q) S3.imm q l _ (Zd q B1 B2 (A1.mono j1) (A2.mono j1) B3 B4 B5 B6 B7 ZK (A3.mono j1) hb9 Z9 Z7 Z6 (A4.mono j1)) _ (hvl.mono j1) (ZeS (by assumption : (ZP (Yc q) q l).2 = 0)).1 (YU _) (ZhH (YU _) (by assumption : (ZP (Yc q) q l).2 = 0) hsm)) (fun w5 G3 r4 P2 S5 L3=>?_)
 obtain ⟨D1,rfl,R1⟩:=P2
 have T2:=Ze R1
 obtain ⟨v5,v6,v7,v9,rfl,ZV,Ye,A6,A7,Yd,B16,B17,Yf,B19,B20,A8,B21,B22,B23,B24,A9⟩:=T2
 refine WL.alloc S5 Zg V V (fun b2 w6 N2 S6=>?_)
 refine WL.store S6 0 _ _ _ 0 _ (QV (ZD l q) v5 v6 v7 v9) (QV (ZD l q) v5 v6 v7 v9) _ V V Zg V (ZN V) (by simp only [ZW,A6.oneC,A7.oneC,A8.oneC,A9.oneC] <;> rfl) V V V V V (fun w7 S7=>?_)
 have T3:=S7.shutB N2
 obtain ⟨G4,L4,C2,S8⟩:=T3
 refine Zc S8 C2 (QV (ZD l q) v5 v6 v7 v9) Zg V V V V V ?_
 refine Zw S8 XM V V V (Zi6 S8.imm (Yc (ZD l q)) (ZD l q) _ (Zd (ZD l q) ZV Ye (A6.mono L4) (A7.mono L4) Yd B16 B17 Yf B19 B20 (A8.mono L4) B21 B22 B23 B24 (A9.mono L4)) (YU _)) (fun w9 G5 S9 L5=>?_)
 refine WL.split (fun (h2 : (Qp (Yc (ZD l q)) (ZD l q)) = true)=>?_) (fun (h2 : (Qp (Yc (ZD l q)) (ZD l q)) = false)=>?_)
 ·refine Zc S9 (C2.mono L5) (QV (ZD l q) v5 v6 v7 v9) Zg V V V V V ?_
  have j2:=(L4.trans L5)
  refine WL.store S9 0 _ _ _ 0 _ (QV (ZD l q) v5 v6 v7 v9) (QV (ZD l q) v5 v6 v7 v9) _ V V Zg V (ZN V) (by simp only [ZW,(A6.mono j2).oneC,(A7.mono j2).oneC,(A8.mono j2).oneC,(A9.mono j2).oneC] <;> rfl) V V V V V (fun w10 S10=>?_)
  exact YD [.agg (QV (ZD l q) v5 v6 v7 v9).toArray,U 0] S10 ⟨_,_,_,V,V,S10.loadA 0 _ _ _ 0 (QV (ZD l q) v5 v6 v7 v9) V V V Zg V,⟨_,V,V⟩⟩ ⟨_,_,V,(Is.cast ⟨_,V,(Zd (ZD l q) ZV Ye (A6.mono j2) (A7.mono j2) Yd B16 B17 Yf B19 B20 (A8.mono j2) B21 B22 B23 B24 (A9.mono j2))⟩ (by with_reducible exact (Zgp ‹_› ‹_›).1)),(congrArg (Value.int .i64) (by with_reducible exact (Zgp ‹_› ‹_›).2))⟩
 refine Zc S9 (C1.mono (((L2.trans L3).trans L4).trans L5)) (QV q v1 v2 v3 v4) Zg V V V V V ?_
 have j3:=(((j1.trans L3).trans L4).trans L5)
 refine WL.store S9 0 _ _ _ 0 _ (QV q v1 v2 v3 v4) (QV q v1 v2 v3 v4) _ V V Zg V (ZN V) (by simp only [ZW,(A1.mono j3).oneC,(A2.mono j3).oneC,(A3.mono j3).oneC,(A4.mono j3).oneC] <;> rfl) V V V V V (fun w11 S11=>?_)
 exact YD [.agg (QV q v1 v2 v3 v4).toArray,U 0] S11 ⟨_,_,_,V,V,S11.loadA 0 _ _ _ 0 (QV q v1 v2 v3 v4) V V V Zg V,⟨_,V,V⟩⟩ ⟨_,_,V,(Is.cast ⟨_,V,(Zd q B1 B2 (A1.mono j3) (A2.mono j3) B3 B4 B5 B6 B7 ZK (A3.mono j3) hb9 Z9 Z7 Z6 (A4.mono j3))⟩ (by with_reducible exact (ZhG ‹_› ‹_›).1)),(congrArg (Value.int .i64) (by with_reducible exact (ZhG ‹_› ‹_›).2))⟩
end Go.Civ
