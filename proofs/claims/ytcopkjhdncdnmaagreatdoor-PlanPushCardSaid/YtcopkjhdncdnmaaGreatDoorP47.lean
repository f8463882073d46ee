/- Lemmas. -/
import Derived.Test.YtcopkjhdncdnmaaGreatDoorP46
set_option linter.unusedVariables false
set_option linter.unusedSimpArgs false
set_option maxRecDepth 100000
set_option maxHeartbeats 4000000
namespace Go.Civ
open Go.Proofs
theorem ZcX {G : GH} {w : World} (hG : G.In w) (n : Nat) (c : Cond) (l : List (List UInt8)) (cc : List Value) (hcc : CndE.rep G c cc) (vl : Value) (hvl : Sl Enc.str 16 G vl l) (hn : Xn c n) : CL Tryz.prog (nat_lit 204) #[.agg cc.toArray,vl] [] w G fun _ _ r=>r = .bool (Qq n c l):=by
 exact Zm0 hG n c l cc hcc vl hvl hn
theorem ZkK (m : Nat) : ∀ {G : GH} {w : World} (hG : G.In w) (nd x : Query) (l : List Schema) (hg : Glob G) (cn : List Value) (hcn : QryE.rep G nd cn) (cx : List Value) (hcx : QryE.rep G x cx) (vl : Value) (hvl : Sl SchemaE 72 G vl l) (hgs : QG l = true) (hn : Xx x m) (hw : GdQ x) (hb : (Zfv nd.cond).length ≤ 1000000),CL Tryz.prog (nat_lit 107) #[.agg cn.toArray, .agg cx.toArray,vl] [] w G fun G' _ r=>Is QryE G' r (Zp l nd x):=by
 induction m
 ·intro G w hG nd x l hg cn hcn cx hcx vl hvl hgs hn hw hb; exact (Q9 hn).elim
 rename_i m ih
 intro G w hG nd x l hg cn hcn cx hcx vl hvl hgs hn hw hb
 refine YA ft [] Tryz.func107 V V ?_
 have har:=hw.ar
 have hS:=St.start (X:=[]) hG
 have T1:=Ze hcn
 obtain ⟨v1,v2,v3,v4,rfl,B1,B2,A1,A2,B3,B4,B5,B6,B7,ZK,A3,hb9,Z9,Z7,Z6,A4⟩:=T1
 have T2:=Ze hcx
 obtain ⟨v5,v6,v7,v9,rfl,ZV,Ye,A5,A6,Yd,B16,B17,Yf,B19,B20,A7,B21,B22,B23,B24,A8⟩:=T2
 refine WL.box (QV nd v1 v2 v3 v4) _ hS V V V (fun b1 w1 N1 S1=>?_)
 refine ZL (QV x v5 v6 v7 v9) _ S1 V V V (fun p1 w2 G1 L1 M1 C1 S2=>?_)
 refine WL.alloc S2 Zg V V (fun b2 w3 N2 S3=>?_)
 refine Za S3 (YC.drop 0 C1) Z3 V V V ?_
 refine Zj x.kind 3 V V V (fun h1=>?_) (fun h1=>?_)
 ·have T3:=Sl.at (A8.mono L1) 0 (by (have:=har.1 (by omega); omega))
  obtain ⟨p2,x1,U1,E1,W1⟩:=T3
  obtain ⟨D1,C2,R1⟩:=E1
  have T4:=Ze R1
  obtain ⟨v10,v11,v12,v13,rfl,X6,B26,A9,A10,B27,B28,B29,B30,B31,B32,A11,B33,XM,B35,B36,A12⟩:=T4
  refine dr [(7,true),(8,true),(9,false),(10,false)] [(11, .agg (QV x v5 v6 v7 v9).toArray),(12, .agg (QV nd v1 v2 v3 v4).toArray),(14,v9),(15,Zu p2),(16, .agg (QV x1 v10 v11 v12 v13).toArray)] S3 ⟨fun _ hSw=>Zc hSw C1 (QV x v5 v6 v7 v9) Zg V V V V V <| nu V V,fun _ hSw=>Zs hSw 1 _ _ _ 0 (QV nd v1 v2 v3 v4) V V V Zg V V V <| nu V V,fun _ hSw=>Za hSw (YC.drop 15 C1) ZX V V V <| nu V V,fun _=>Zf 0 W1 ZS Zg V V V V <| nu V V,fun _ hSw=>Zc hSw C2 (QV x1 v10 v11 v12 v13) Zg V V V V V <| nu V V,trivial⟩ (fun w4 S4=>?_)
  refine Zv S4 XQ V V V (ih S4.imm nd x1 l (hg.mono L1) _ (Zd nd B1 B2 (A1.mono L1) (A2.mono L1) B3 B4 B5 B6 B7 ZK (A3.mono L1) hb9 Z9 Z7 Z6 (A4.mono L1)) _ (Zd x1 X6 B26 A9 A10 B27 B28 B29 B30 B31 B32 A11 B33 XM B35 B36 A12) _ (hvl.mono L1) hgs (Yp hn (List.mem_of_getElem? ‹_›)) (hw.kid (List.mem_of_getElem? ‹_›)) (by exact hb)) (fun w5 G2 r1 P1 S5 L2=>?_)
  obtain ⟨D2,rfl,R2⟩:=P1
  have T5:=Ze R2
  obtain ⟨v14,v15,v16,v17,rfl,B37,B38,A13,A14,Qj,Qk,XN,Qo,Zac,Q5,A15,Zad,Qt,QJ,Zav,A16⟩:=T5
  refine ⟨S5.down S4.le L2,?_⟩
  refine WL.buildSlice _ [(0,(QV (Zp l nd x1) v14 v15 v16 v17))] (QV (Zp l nd x1) v14 v15 v16 v17) S5 YL V V V V (fun z hz=>by match z,hz with | [z0,z1,z2,z3,z4,z5,z6,z7,z8,z9,z10,z11,z12,z13,z14,z15],_=>rfl) (fun b3 w6 N3 S6=>?_)
  refine ⟨S6.tail.down S4.le L2,?_⟩
  have T6:=St.sealSl (E:=QryE) (by_:=224) (l:=([(Zp l nd x1)] : List Query)) S6 N3 ⟨(QV (Zp l nd x1) v14 v15 v16 v17),_,V,(Zd (Zp l nd x1) B37 B38 A13 A14 Qj Qk XN Qo Zac Q5 A15 Zad Qt QJ Zav A16),V⟩ V (by simp [reach]) (by simp [reach])
  obtain ⟨G3,L3,A17,S7⟩:=T6
  have j1:=((L1.trans L2).trans L3)
  refine Zv S7 Xi V V V (Xl S7.imm x [(Zp l nd x1)] _ (Zd x ZV Ye (A5.mono j1) (A6.mono j1) Yd B16 B17 Yf B19 B20 (A7.mono j1) B21 B22 B23 B24 (A8.mono j1)) _ A17) (fun w7 G4 r2 P2 S8 L4=>?_)
  obtain ⟨D3,rfl,R3⟩:=P2
  have T7:=Ze R3
  obtain ⟨v18,v19,v20,v21,rfl,Zaw,QK,A18,A19,Zax,QL,ZaT,B54,ZaU,Zay,A20,ZaB,Zbg,Zbh,Zbi,A21⟩:=T7
  refine WL.store S8 0 _ _ _ 0 _ (QV (Zk x [(Zp l nd x1)]) v18 v19 v20 v21) (QV (Zk x [(Zp l nd x1)]) v18 v19 v20 v21) _ V V Zg V (ZN V) (by simp only [ZW,A18.oneC,A19.oneC,A20.oneC,A21.oneC] <;> rfl) V V V V V (fun w9 S9=>?_)
  exact YD [.agg (QV (Zk x [(Zp l nd x1)]) v18 v19 v20 v21).toArray] S9 ⟨_,_,_,V,V,S9.loadA 0 _ _ _ 0 (QV (Zk x [(Zp l nd x1)]) v18 v19 v20 v21) V V V Zg V,V⟩ (Is.cast ⟨_,V,(Zd (Zk x [(Zp l nd x1)]) Zaw QK A18 A19 Zax QL ZaT B54 ZaU Zay A20 ZaB Zbg Zbh Zbi A21)⟩ (by with_reducible exact Zmm ‹_› ‹_›))
 refine Zj x.kind 4 V V V (fun h2=>?_) (fun h2=>?_)
 ·refine Zs S3 1 _ _ _ 4 (CV nd.cond v3) V V V Z5 V V V <| Zc S3 C1 (QV x v5 v6 v7 v9) Zg V V V V V ?_
  refine Zv S3 Zen V V V (Zmw (Yu nd.cond) S3.imm nd.cond x _ (ZJ nd.cond B3 B4 B5 B6 B7 ZK (A3.mono L1)) _ (Zd x ZV Ye (A5.mono L1) (A6.mono L1) Yd B16 B17 Yf B19 B20 (A7.mono L1) B21 B22 B23 B24 (A8.mono L1)) (Qn _) (hw.node.2.2.1 ‹_›)) (fun w10 G5 r3 P3 S10 L5=>?_)
  obtain ⟨D4,rfl,R4⟩:=P3
  have T8:=ZO R4
  obtain ⟨v22,rfl,B61,B62,B63,B64,B65,B66,A22⟩:=T8
  refine WL.store S10 1 _ _ _ 4 _ (CV (Zz (Yu nd.cond) nd.cond x) v22) [U nd.kind,Zb nd.table,v1,v2,U ((Zz (Yu nd.cond) nd.cond x).kind),Zb ((Zz (Yu nd.cond) nd.cond x).col),Zb ((Zz (Yu nd.cond) nd.cond x).oth),U ((Zz (Yu nd.cond) nd.cond x).v.k),U ((Zz (Yu nd.cond) nd.cond x).v.n),Zb ((Zz (Yu nd.cond) nd.cond x).v.s),v22,U nd.rel,U nd.fn,U nd.span.a,U nd.span.b,v4] _ V V Z5 V (ZN V) (by simp only [ZW,A22.oneC] <;> rfl) V V V V V (fun w11 S11=>?_)
  have j2:=(L1.trans L5)
  have T9:=Sl.at (A8.mono j2) 0 (by (have:=har.1 (by omega); omega))
  obtain ⟨p3,x2,U2,E2,W2⟩:=T9
  obtain ⟨D5,C3,R5⟩:=E2
  have T10:=Ze R5
  obtain ⟨v23,v24,v25,v26,rfl,B67,B68,A23,A24,B69,B70,B71,B72,B73,B74,A25,B75,B76,B77,Zae,A26⟩:=T10
  refine dr [(7,true),(8,true),(9,false),(10,false)] [(28, .agg (QV x v5 v6 v7 v9).toArray),(29, .agg #[U nd.kind,Zb nd.table,v1,v2,U ((Zz (Yu nd.cond) nd.cond x).kind),Zb ((Zz (Yu nd.cond) nd.cond x).col),Zb ((Zz (Yu nd.cond) nd.cond x).oth),U ((Zz (Yu nd.cond) nd.cond x).v.k),U ((Zz (Yu nd.cond) nd.cond x).v.n),Zb ((Zz (Yu nd.cond) nd.cond x).v.s),v22,U nd.rel,U nd.fn,U nd.span.a,U nd.span.b,v4]),(31,v9),(32,Zu p3),(33, .agg (QV x2 v23 v24 v25 v26).toArray)] S11 ⟨fun _ hSw=>Zc hSw (C1.mono L5) (QV x v5 v6 v7 v9) Zg V V V V V <| nu V V,fun _ hSw=>Zs hSw 1 _ _ _ 0 [U nd.kind,Zb nd.table,v1,v2,U ((Zz (Yu nd.cond) nd.cond x).kind),Zb ((Zz (Yu nd.cond) nd.cond x).col),Zb ((Zz (Yu nd.cond) nd.cond x).oth),U ((Zz (Yu nd.cond) nd.cond x).v.k),U ((Zz (Yu nd.cond) nd.cond x).v.n),Zb ((Zz (Yu nd.cond) nd.cond x).v.s),v22,U nd.rel,U nd.fn,U nd.span.a,U nd.span.b,v4] V V V Zg V V V <| nu V V,fun _ hSw=>Za hSw (YC.drop 15 (C1.mono L5)) ZX V V V <| nu V V,fun _=>Zf 0 W2 ZS Zg V V V V <| nu V V,fun _ hSw=>Zc hSw C3 (QV x2 v23 v24 v25 v26) Zg V V V V V <| nu V V,trivial⟩ (fun w12 S12=>?_)
  refine Zv S12 XQ V V V (ih S12.imm (Query.mk nd.kind nd.table nd.cols nd.names (Zz (Yu nd.cond) nd.cond x) nd.rel nd.fn nd.span nd.l) x2 l (hg.mono j2) _ (Zd (Query.mk nd.kind nd.table nd.cols nd.names (Zz (Yu nd.cond) nd.cond x) nd.rel nd.fn nd.span nd.l) B1 B2 (A1.mono j2) (A2.mono j2) B61 B62 B63 B64 B65 B66 A22 hb9 Z9 Z7 Z6 (A4.mono j2)) _ (Zd x2 B67 B68 A23 A24 B69 B70 B71 B72 B73 B74 A25 B75 B76 B77 Zae A26) _ (hvl.mono j2) hgs (Yp hn (List.mem_of_getElem? ‹_›)) (hw.kid (List.mem_of_getElem? ‹_›)) (by exact ZgS hb)) (fun w13 G6 r4 P4 S13 L6=>?_)
  obtain ⟨D6,rfl,R6⟩:=P4
  have T11:=Ze R6
  obtain ⟨v27,v28,v29,v30,rfl,B79,B80,A27,A28,B81,B82,B83,ZaC,B85,ZaV,A29,B87,B88,B89,B90,A30⟩:=T11
  refine ⟨S13.down S12.le L6,?_⟩
  refine WL.buildSlice _ [(0,(QV (Zp l (Query.mk nd.kind nd.table nd.cols nd.names (Zz (Yu nd.cond) nd.cond x) nd.rel nd.fn nd.span nd.l) x2) v27 v28 v29 v30))] (QV (Zp l (Query.mk nd.kind nd.table nd.cols nd.names (Zz (Yu nd.cond) nd.cond x) nd.rel nd.fn nd.span nd.l) x2) v27 v28 v29 v30) S13 YL V V V V (fun z hz=>by match z,hz with | [z0,z1,z2,z3,z4,z5,z6,z7,z8,z9,z10,z11,z12,z13,z14,z15],_=>rfl) (fun b4 w14 N4 S14=>?_)
  refine ⟨S14.tail.down S12.le L6,?_⟩
  have T12:=St.sealSl (E:=QryE) (by_:=224) (l:=([(Zp l (Query.mk nd.kind nd.table nd.cols nd.names (Zz (Yu nd.cond) nd.cond x) nd.rel nd.fn nd.span nd.l) x2)] : List Query)) S14 N4 ⟨(QV (Zp l (Query.mk nd.kind nd.table nd.cols nd.names (Zz (Yu nd.cond) nd.cond x) nd.rel nd.fn nd.span nd.l) x2) v27 v28 v29 v30),_,V,(Zd (Zp l (Query.mk nd.kind nd.table nd.cols nd.names (Zz (Yu nd.cond) nd.cond x) nd.rel nd.fn nd.span nd.l) x2) B79 B80 A27 A28 B81 B82 B83 ZaC B85 ZaV A29 B87 B88 B89 B90 A30),V⟩ V (by simp [reach]) (by simp [reach])
  obtain ⟨G7,L7,A31,S15⟩:=T12
  have j3:=((j2.trans L6).trans L7)
  refine Zv S15 Xi V V V (Xl S15.imm x [(Zp l (Query.mk nd.kind nd.table nd.cols nd.names (Zz (Yu nd.cond) nd.cond x) nd.rel nd.fn nd.span nd.l) x2)] _ (Zd x ZV Ye (A5.mono j3) (A6.mono j3) Yd B16 B17 Yf B19 B20 (A7.mono j3) B21 B22 B23 B24 (A8.mono j3)) _ A31) (fun w15 G9 r5 P5 S16 L9=>?_)
  obtain ⟨D7,rfl,R7⟩:=P5
  have T13:=Ze R7
  obtain ⟨v31,v32,v33,v34,rfl,B91,B92,A32,A33,B93,B94,B95,B96,B97,B98,A34,B99,QA,ZaD,B102,A35⟩:=T13
  refine WL.store S16 0 _ _ _ 0 _ (QV (Zk x [(Zp l (Query.mk nd.kind nd.table nd.cols nd.names (Zz (Yu nd.cond) nd.cond x) nd.rel nd.fn nd.span nd.l) x2)]) v31 v32 v33 v34) (QV (Zk x [(Zp l (Query.mk nd.kind nd.table nd.cols nd.names (Zz (Yu nd.cond) nd.cond x) nd.rel nd.fn nd.span nd.l) x2)]) v31 v32 v33 v34) _ V V Zg V (ZN V) (by simp only [ZW,A32.oneC,A33.oneC,A34.oneC,A35.oneC] <;> rfl) V V V V V (fun w16 S17=>?_)
  exact YD [.agg (QV (Zk x [(Zp l (Query.mk nd.kind nd.table nd.cols nd.names (Zz (Yu nd.cond) nd.cond x) nd.rel nd.fn nd.span nd.l) x2)]) v31 v32 v33 v34).toArray] S17 ⟨_,_,_,V,V,S17.loadA 0 _ _ _ 0 (QV (Zk x [(Zp l (Query.mk nd.kind nd.table nd.cols nd.names (Zz (Yu nd.cond) nd.cond x) nd.rel nd.fn nd.span nd.l) x2)]) v31 v32 v33 v34) V V V Zg V,V⟩ (Is.cast ⟨_,V,(Zd (Zk x [(Zp l (Query.mk nd.kind nd.table nd.cols nd.names (Zz (Yu nd.cond) nd.cond x) nd.rel nd.fn nd.span nd.l) x2)]) B91 B92 A32 A33 B93 B94 B95 B96 B97 B98 A34 B99 QA ZaD B102 A35)⟩ (by with_reducible exact Zmo ‹_› ‹_›))
 refine Zj x.kind 6 V V V (fun h3=>?_) (fun h3=>?_)
 ·have T14:=Sl.at (A8.mono L1) 0 (by (have:=har.2 (by omega); omega))
  obtain ⟨p4,x3,U3,E3,W3⟩:=T14
  obtain ⟨D8,C4,R8⟩:=E3
  have T15:=Ze R8
  obtain ⟨v35,v36,v37,v38,rfl,B103,B104,A36,A37,XV,ZaE,QB,Zal,QS,Zam,A38,Zan,ZaF,Zao,ZaG,A39⟩:=T15
  have T16:=Sl.at (A8.mono L1) 1 (by (have:=har.2 (by omega); omega))
  obtain ⟨p5,x4,U4,E4,W4⟩:=T16
  obtain ⟨D9,C5,R9⟩:=E4
  have T17:=Ze R9
  obtain ⟨v39,v40,v41,v42,rfl,XW,XR,A40,A41,Xj,ZaH,QT,Zap,Zaq,ZaI,A42,ZaJ,Zbt,Zbu,Qm,A43⟩:=T17
  refine dr [(7,true),(14,true),(15,true),(16,false),(17,false)] [(41, .agg (QV x v5 v6 v7 v9).toArray),(42, .agg (QV nd v1 v2 v3 v4).toArray),(44,v9),(45,Zu p4),(46, .agg (QV x3 v35 v36 v37 v38).toArray),(49, .agg (QV nd v1 v2 v3 v4).toArray),(51,v9),(52,Zu p5),(53, .agg (QV x4 v39 v40 v41 v42).toArray)] S3 ⟨fun _ hSw=>Zc hSw C1 (QV x v5 v6 v7 v9) Zg V V V V V <| nu V V,fun _ hSw=>Zs hSw 1 _ _ _ 0 (QV nd v1 v2 v3 v4) V V V Zg V V V <| nu V V,fun _ hSw=>Za hSw (YC.drop 15 C1) ZX V V V <| nu V V,fun _=>Zf 0 W3 ZS Zg V V V V <| nu V V,fun _ hSw=>Zc hSw C4 (QV x3 v35 v36 v37 v38) Zg V V V V V <| nu V V,fun _ hSw=>Zs hSw 1 _ _ _ 0 (QV nd v1 v2 v3 v4) V V V Zg V V V <| nu V V,fun _ hSw=>Za hSw (YC.drop 15 C1) ZX V V V <| nu V V,fun _=>Zf 1 W4 ZS Zg V V V V <| nu V V,fun _ hSw=>Zc hSw C5 (QV x4 v39 v40 v41 v42) Zg V V V V V <| nu V V,trivial⟩ (fun w17 S18=>?_)
  refine Zv S18 XQ V V V (ih S18.imm nd x3 l (hg.mono L1) _ (Zd nd B1 B2 (A1.mono L1) (A2.mono L1) B3 B4 B5 B6 B7 ZK (A3.mono L1) hb9 Z9 Z7 Z6 (A4.mono L1)) _ (Zd x3 B103 B104 A36 A37 XV ZaE QB Zal QS Zam A38 Zan ZaF Zao ZaG A39) _ (hvl.mono L1) hgs (Yp hn (List.mem_of_getElem? ‹_›)) (hw.kid (List.mem_of_getElem? ‹_›)) (by exact hb)) (fun w18 G10 r6 P6 S19 L10=>?_)
  obtain ⟨D10,rfl,R10⟩:=P6
  have T18:=Ze R10
  obtain ⟨v43,v44,v45,v46,rfl,QU,Zbv,A44,A45,ZbD,Zcb,Zcc,Zcd,B135,B136,A46,B137,B138,B139,B140,A47⟩:=T18
  refine ⟨S19.down S18.le L10,?_⟩
  have j4:=(L1.trans L10)
  refine Zv S19 XQ V V V (ih S19.imm nd x4 l (hg.mono j4) _ (Zd nd B1 B2 (A1.mono j4) (A2.mono j4) B3 B4 B5 B6 B7 ZK (A3.mono j4) hb9 Z9 Z7 Z6 (A4.mono j4)) _ (Zd x4 XW XR (A40.mono L10) (A41.mono L10) Xj ZaH QT Zap Zaq ZaI (A42.mono L10) ZaJ Zbt Zbu Qm (A43.mono L10)) _ (hvl.mono j4) hgs (Yp hn (List.mem_of_getElem? ‹_›)) (hw.kid (List.mem_of_getElem? ‹_›)) (by exact hb)) (fun w19 G11 r7 P7 S20 L11=>?_)
  obtain ⟨D11,rfl,R11⟩:=P7
  have T19:=Ze R11
  obtain ⟨v47,v48,v49,v50,rfl,B141,B142,A48,A49,B143,B144,B145,B146,B147,Zdh,A50,B149,B150,B151,B152,A51⟩:=T19
  have j5:=(L10.trans L11)
  refine ⟨S20.down S18.le j5,?_⟩
  refine WL.buildSlice _ [(0,(QV (Zp l nd x3) v43 v44 v45 v46)),(1,(QV (Zp l nd x4) v47 v48 v49 v50))] (QX (Zp l nd x3) v43 v44 v45 v46 (Zp l nd x4) v47 v48 v49 v50) S20 YL V V V V (fun z hz=>by match z,hz with | [z0,z1,z2,z3,z4,z5,z6,z7,z8,z9,z10,z11,z12,z13,z14,z15,z16,z17,z18,z19,z20,z21,z22,z23,z24,z25,z26,z27,z28,z29,z30,z31],_=>rfl) (fun b5 w20 N5 S21=>?_)
  refine ⟨S21.tail.down S18.le j5,?_⟩
  have T20:=St.sealSl (E:=QryE) (by_:=224) (l:=([(Zp l nd x3),(Zp l nd x4)] : List Query)) S21 N5 ⟨(QV (Zp l nd x3) v43 v44 v45 v46),_,V,(Zd (Zp l nd x3) QU Zbv (A44.mono L11) (A45.mono L11) ZbD Zcb Zcc Zcd B135 B136 (A46.mono L11) B137 B138 B139 B140 (A47.mono L11)),⟨(QV (Zp l nd x4) v47 v48 v49 v50),_,V,(Zd (Zp l nd x4) B141 B142 A48 A49 B143 B144 B145 B146 B147 Zdh A50 B149 B150 B151 B152 A51),V⟩⟩ V (by simp [reach]) (by simp [reach])
  obtain ⟨G12,L12,A52,S22⟩:=T20
  have j6:=((j4.trans L11).trans L12)
  refine Zv S22 Xi V V V (Xl S22.imm x [(Zp l nd x3),(Zp l nd x4)] _ (Zd x ZV Ye (A5.mono j6) (A6.mono j6) Yd B16 B17 Yf B19 B20 (A7.mono j6) B21 B22 B23 B24 (A8.mono j6)) _ A52) (fun w21 G13 r8 P8 S23 L13=>?_)
  obtain ⟨D12,rfl,R12⟩:=P8
  have T21:=Ze R12
  obtain ⟨v51,v52,v53,v54,rfl,B153,B154,A53,A54,B155,B156,Zeg,Zeh,Zar,Zei,A55,Zej,Zek,Zdi,B164,A56⟩:=T21
  refine WL.store S23 0 _ _ _ 0 _ (QV (Zk x [(Zp l nd x3),(Zp l nd x4)]) v51 v52 v53 v54) (QV (Zk x [(Zp l nd x3),(Zp l nd x4)]) v51 v52 v53 v54) _ V V Zg V (ZN V) (by simp only [ZW,A53.oneC,A54.oneC,A55.oneC,A56.oneC] <;> rfl) V V V V V (fun w22 S24=>?_)
  exact YD [.agg (QV (Zk x [(Zp l nd x3),(Zp l nd x4)]) v51 v52 v53 v54).toArray] S24 ⟨_,_,_,V,V,S24.loadA 0 _ _ _ 0 (QV (Zk x [(Zp l nd x3),(Zp l nd x4)]) v51 v52 v53 v54) V V V Zg V,V⟩ (Is.cast ⟨_,V,(Zd (Zk x [(Zp l nd x3),(Zp l nd x4)]) B153 B154 A53 A54 B155 B156 Zeg Zeh Zar Zei A55 Zej Zek Zdi B164 A56)⟩ (by with_reducible exact Zid (by omega) (by assumption : x.l[0]? = some _) (by assumption : x.l[1]? = some _)))
 refine Zj x.kind 7 V V V (fun h4=>?_) (fun h4=>?_)
 ·have T22:=Sl.at (A8.mono L1) 0 (by (have:=har.2 (by omega); omega))
  obtain ⟨p6,x5,U5,E5,W5⟩:=T22
  obtain ⟨D13,C6,R13⟩:=E5
  have T23:=Ze R13
  obtain ⟨v55,v56,v57,v58,rfl,B165,B166,A57,A58,Zel,B168,B169,B170,B171,B172,A59,B173,B174,B175,B176,A60⟩:=T23
  have T24:=Sl.at (A8.mono L1) 1 (by (have:=har.2 (by omega); omega))
  obtain ⟨p7,x6,U6,E6,W6⟩:=T24
  obtain ⟨D14,C7,R14⟩:=E6
  have T25:=Ze R14
  obtain ⟨v59,v60,v61,v62,rfl,B177,B178,A61,A62,B179,B180,B181,B182,B183,B184,A63,B185,B186,B187,B188,A64⟩:=T25
  refine dr [(7,true),(14,true),(15,true),(16,false),(17,false)] [(41, .agg (QV x v5 v6 v7 v9).toArray),(42, .agg (QV nd v1 v2 v3 v4).toArray),(44,v9),(45,Zu p6),(46, .agg (QV x5 v55 v56 v57 v58).toArray),(49, .agg (QV nd v1 v2 v3 v4).toArray),(51,v9),(52,Zu p7),(53, .agg (QV x6 v59 v60 v61 v62).toArray)] S3 ⟨fun _ hSw=>Zc hSw C1 (QV x v5 v6 v7 v9) Zg V V V V V <| nu V V,fun _ hSw=>Zs hSw 1 _ _ _ 0 (QV nd v1 v2 v3 v4) V V V Zg V V V <| nu V V,fun _ hSw=>Za hSw (YC.drop 15 C1) ZX V V V <| nu V V,fun _=>Zf 0 W5 ZS Zg V V V V <| nu V V,fun _ hSw=>Zc hSw C6 (QV x5 v55 v56 v57 v58) Zg V V V V V <| nu V V,fun _ hSw=>Zs hSw 1 _ _ _ 0 (QV nd v1 v2 v3 v4) V V V Zg V V V <| nu V V,fun _ hSw=>Za hSw (YC.drop 15 C1) ZX V V V <| nu V V,fun _=>Zf 1 W6 ZS Zg V V V V <| nu V V,fun _ hSw=>Zc hSw C7 (QV x6 v59 v60 v61 v62) Zg V V V V V <| nu V V,trivial⟩ (fun w23 S25=>?_)
  refine Zv S25 XQ V V V (ih S25.imm nd x5 l (hg.mono L1) _ (Zd nd B1 B2 (A1.mono L1) (A2.mono L1) B3 B4 B5 B6 B7 ZK (A3.mono L1) hb9 Z9 Z7 Z6 (A4.mono L1)) _ (Zd x5 B165 B166 A57 A58 Zel B168 B169 B170 B171 B172 A59 B173 B174 B175 B176 A60) _ (hvl.mono L1) hgs (Yp hn (List.mem_of_getElem? ‹_›)) (hw.kid (List.mem_of_getElem? ‹_›)) (by exact hb)) (fun w24 G14 r9 P9 S26 L14=>?_)
  obtain ⟨D15,rfl,R15⟩:=P9
  have T26:=Ze R15
  obtain ⟨v63,v64,v65,v66,rfl,B189,B190,A65,A66,B191,B192,B193,B194,B195,B196,A67,B197,B198,B199,Zem,A68⟩:=T26
  refine ⟨S26.down S25.le L14,?_⟩
  have j7:=(L1.trans L14)
  refine Zv S26 XQ V V V (ih S26.imm nd x6 l (hg.mono j7) _ (Zd nd B1 B2 (A1.mono j7) (A2.mono j7) B3 B4 B5 B6 B7 ZK (A3.mono j7) hb9 Z9 Z7 Z6 (A4.mono j7)) _ (Zd x6 B177 B178 (A61.mono L14) (A62.mono L14) B179 B180 B181 B182 B183 B184 (A63.mono L14) B185 B186 B187 B188 (A64.mono L14)) _ (hvl.mono j7) hgs (Yp hn (List.mem_of_getElem? ‹_›)) (hw.kid (List.mem_of_getElem? ‹_›)) (by exact hb)) (fun w25 G15 r10 P10 S27 L15=>?_)
  obtain ⟨D16,rfl,R16⟩:=P10
  have T27:=Ze R16
  obtain ⟨v67,v68,v69,v70,rfl,B201,B202,A69,A70,Zdj,Zc5,Zdk,Zdl,Zcf,Zcg,A71,Zdm,Zch,QY,Zc6,A72⟩:=T27
  have j8:=(L14.trans L15)
  refine ⟨S27.down S25.le j8,?_⟩
  refine WL.buildSlice _ [(0,(QV (Zp l nd x5) v63 v64 v65 v66)),(1,(QV (Zp l nd x6) v67 v68 v69 v70))] (QX (Zp l nd x5) v63 v64 v65 v66 (Zp l nd x6) v67 v68 v69 v70) S27 YL V V V V (fun z hz=>by match z,hz with | [z0,z1,z2,z3,z4,z5,z6,z7,z8,z9,z10,z11,z12,z13,z14,z15,z16,z17,z18,z19,z20,z21,z22,z23,z24,z25,z26,z27,z28,z29,z30,z31],_=>rfl) (fun b6 w26 N6 S28=>?_)
  refine ⟨S28.tail.down S25.le j8,?_⟩
  have T28:=St.sealSl (E:=QryE) (by_:=224) (l:=([(Zp l nd x5),(Zp l nd x6)] : List Query)) S28 N6 ⟨(QV (Zp l nd x5) v63 v64 v65 v66),_,V,(Zd (Zp l nd x5) B189 B190 (A65.mono L15) (A66.mono L15) B191 B192 B193 B194 B195 B196 (A67.mono L15) B197 B198 B199 Zem (A68.mono L15)),⟨(QV (Zp l nd x6) v67 v68 v69 v70),_,V,(Zd (Zp l nd x6) B201 B202 A69 A70 Zdj Zc5 Zdk Zdl Zcf Zcg A71 Zdm Zch QY Zc6 A72),V⟩⟩ V (by simp [reach]) (by simp [reach])
  obtain ⟨G16,L16,A73,S29⟩:=T28
  have j9:=((j7.trans L15).trans L16)
  refine Zv S29 Xi V V V (Xl S29.imm x [(Zp l nd x5),(Zp l nd x6)] _ (Zd x ZV Ye (A5.mono j9) (A6.mono j9) Yd B16 B17 Yf B19 B20 (A7.mono j9) B21 B22 B23 B24 (A8.mono j9)) _ A73) (fun w27 G17 r11 P11 S30 L17=>?_)
  obtain ⟨D17,rfl,R17⟩:=P11
  have T29:=Ze R17
  obtain ⟨v71,v72,v73,v74,rfl,Qv,ZbE,A74,A75,Zdn,Zas,Zci,Zc7,Zc8,Zc9,A76,ZcA,Zdo,ZcB,B227,A77⟩:=T29
  refine WL.store S30 0 _ _ _ 0 _ (QV (Zk x [(Zp l nd x5),(Zp l nd x6)]) v71 v72 v73 v74) (QV (Zk x [(Zp l nd x5),(Zp l nd x6)]) v71 v72 v73 v74) _ V V Zg V (ZN V) (by simp only [ZW,A74.oneC,A75.oneC,A76.oneC,A77.oneC] <;> rfl) V V V V V (fun w28 S31=>?_)
  exact YD [.agg (QV (Zk x [(Zp l nd x5),(Zp l nd x6)]) v71 v72 v73 v74).toArray] S31 ⟨_,_,_,V,V,S31.loadA 0 _ _ _ 0 (QV (Zk x [(Zp l nd x5),(Zp l nd x6)]) v71 v72 v73 v74) V V V Zg V,V⟩ (Is.cast ⟨_,V,(Zd (Zk x [(Zp l nd x5),(Zp l nd x6)]) Qv ZbE A74 A75 Zdn Zas Zci Zc7 Zc8 Zc9 A76 ZcA Zdo ZcB B227 A77)⟩ (by with_reducible exact Zid (by omega) (by assumption : x.l[0]? = some _) (by assumption : x.l[1]? = some _)))
 refine Zj x.kind 9 V V V (fun h5=>?_) (fun h5=>?_)
 ·refine Zs S3 1 _ _ _ 4 (CV nd.cond v3) V V V Z5 V V V <| Za S3 (YC.drop 2 C1) ZU V V V ?_
  refine Zw S3 Zce V V V (ZcX S3.imm (Yu nd.cond) nd.cond x.cols _ (ZJ nd.cond B3 B4 B5 B6 B7 ZK (A3.mono L1)) _ (A5.mono L1) (Qn _)) (fun w29 G18 S32 L18=>?_)
  refine WL.split (fun (h6 : (Qq (Yu nd.cond) nd.cond x.cols) = true)=>?_) (fun (h6 : (Qq (Yu nd.cond) nd.cond x.cols) = false)=>?_)
  ·have j10:=(L1.trans L18)
   have T30:=Sl.at (A8.mono j10) 0 (by (have:=har.1 (by omega); omega))
   obtain ⟨p8,x7,U7,E7,W7⟩:=T30
   obtain ⟨D18,C8,R18⟩:=E7
   have T31:=Ze R18
   obtain ⟨v75,v76,v77,v78,rfl,B228,B229,A78,A79,B230,B231,B232,B233,B234,B235,A80,B236,B237,B238,B239,A81⟩:=T31
   refine dr [(7,true),(8,true),(9,false),(10,false)] [(65, .agg (QV x v5 v6 v7 v9).toArray),(66, .agg (QV nd v1 v2 v3 v4).toArray),(68,v9),(69,Zu p8),(70, .agg (QV x7 v75 v76 v77 v78).toArray)] S32 ⟨fun _ hSw=>Zc hSw (C1.mono L18) (QV x v5 v6 v7 v9) Zg V V V V V <| nu V V,fun _ hSw=>Zs hSw 1 _ _ _ 0 (QV nd v1 v2 v3 v4) V V V Zg V V V <| nu V V,fun _ hSw=>Za hSw (YC.drop 15 (C1.mono L18)) ZX V V V <| nu V V,fun _=>Zf 0 W7 ZS Zg V V V V <| nu V V,fun _ hSw=>Zc hSw C8 (QV x7 v75 v76 v77 v78) Zg V V V V V <| nu V V,trivial⟩ (fun w30 S33=>?_)
   refine Zv S33 XQ V V V (ih S33.imm nd x7 l (hg.mono j10) _ (Zd nd B1 B2 (A1.mono j10) (A2.mono j10) B3 B4 B5 B6 B7 ZK (A3.mono j10) hb9 Z9 Z7 Z6 (A4.mono j10)) _ (Zd x7 B228 B229 A78 A79 B230 B231 B232 B233 B234 B235 A80 B236 B237 B238 B239 A81) _ (hvl.mono j10) hgs (Yp hn (List.mem_of_getElem? ‹_›)) (hw.kid (List.mem_of_getElem? ‹_›)) (by exact hb)) (fun w31 G19 r12 P12 S34 L19=>?_)
   obtain ⟨D19,rfl,R19⟩:=P12
   have T32:=Ze R19
   obtain ⟨v79,v80,v81,v82,rfl,QZ,QC,A82,A83,Zdp,Zcj,B244,B245,B246,B247,A84,B248,B249,Zeo,Zdq,A85⟩:=T32
   refine ⟨S34.down S33.le L19,?_⟩
   refine WL.buildSlice _ [(0,(QV (Zp l nd x7) v79 v80 v81 v82))] (QV (Zp l nd x7) v79 v80 v81 v82) S34 YL V V V V (fun z hz=>by match z,hz with | [z0,z1,z2,z3,z4,z5,z6,z7,z8,z9,z10,z11,z12,z13,z14,z15],_=>rfl) (fun b7 w32 N7 S35=>?_)
   refine ⟨S35.tail.down S33.le L19,?_⟩
   have T33:=St.sealSl (E:=QryE) (by_:=224) (l:=([(Zp l nd x7)] : List Query)) S35 N7 ⟨(QV (Zp l nd x7) v79 v80 v81 v82),_,V,(Zd (Zp l nd x7) QZ QC A82 A83 Zdp Zcj B244 B245 B246 B247 A84 B248 B249 Zeo Zdq A85),V⟩ V (by simp [reach]) (by simp [reach])
   obtain ⟨G20,L20,A86,S36⟩:=T33
   have j11:=((j10.trans L19).trans L20)
   refine Zv S36 Xi V V V (Xl S36.imm x [(Zp l nd x7)] _ (Zd x ZV Ye (A5.mono j11) (A6.mono j11) Yd B16 B17 Yf B19 B20 (A7.mono j11) B21 B22 B23 B24 (A8.mono j11)) _ A86) (fun w33 G21 r13 P13 S37 L21=>?_)
   obtain ⟨D20,rfl,R20⟩:=P13
   have T34:=Ze R20
   obtain ⟨v83,v84,v85,v86,rfl,B252,B253,A87,A88,B254,Zep,B256,B257,B258,B259,A89,Zeq,Zer,B262,Zes,A90⟩:=T34
   refine WL.store S37 0 _ _ _ 0 _ (QV (Zk x [(Zp l nd x7)]) v83 v84 v85 v86) (QV (Zk x [(Zp l nd x7)]) v83 v84 v85 v86) _ V V Zg V (ZN V) (by simp only [ZW,A87.oneC,A88.oneC,A89.oneC,A90.oneC] <;> rfl) V V V V V (fun w34 S38=>?_)
   exact YD [.agg (QV (Zk x [(Zp l nd x7)]) v83 v84 v85 v86).toArray] S38 ⟨_,_,_,V,V,S38.loadA 0 _ _ _ 0 (QV (Zk x [(Zp l nd x7)]) v83 v84 v85 v86) V V V Zg V,V⟩ (Is.cast ⟨_,V,(Zd (Zk x [(Zp l nd x7)]) B252 B253 A87 A88 B254 Zep B256 B257 B258 B259 A89 Zeq Zer B262 Zes A90)⟩ (by with_reducible exact Zmn ‹_› ‹_› ‹_›))
  refine Zs S32 1 _ _ _ 0 (QV nd v1 v2 v3 v4) V V V Zg V V V <| Zc S32 (C1.mono L18) (QV x v5 v6 v7 v9) Zg V V V V V ?_
  refine WL.buildSlice _ [(0,(QV x v5 v6 v7 v9))] (QV x v5 v6 v7 v9) S32 YL V V V V (fun z hz=>by match z,hz with | [z0,z1,z2,z3,z4,z5,z6,z7,z8,z9,z10,z11,z12,z13,z14,z15],_=>rfl) (fun b8 w35 N8 S39=>?_)
  have j12:=(L1.trans L18)
  have T35:=St.sealSl (E:=QryE) (by_:=224) (l:=([x] : List Query)) S39 N8 ⟨(QV x v5 v6 v7 v9),_,V,(Zd x ZV Ye (A5.mono j12) (A6.mono j12) Yd B16 B17 Yf B19 B20 (A7.mono j12) B21 B22 B23 B24 (A8.mono j12)),V⟩ V (by simp [reach]) (by simp [reach])
  obtain ⟨G22,L22,A91,S40⟩:=T35
  have j13:=(j12.trans L22)
  refine Zv S40 Xi V V V (Xl S40.imm nd [x] _ (Zd nd B1 B2 (A1.mono j13) (A2.mono j13) B3 B4 B5 B6 B7 ZK (A3.mono j13) hb9 Z9 Z7 Z6 (A4.mono j13)) _ A91) (fun w36 G23 r14 P14 S41 L23=>?_)
  obtain ⟨D21,rfl,R21⟩:=P14
  have T36:=Ze R21
  obtain ⟨v87,v88,v89,v90,rfl,B264,Zet,A92,A93,Zeu,Zev,B268,B269,B270,B271,A94,B272,B273,B274,B275,A95⟩:=T36
  refine WL.store S41 0 _ _ _ 0 _ (QV (Zk nd [x]) v87 v88 v89 v90) (QV (Zk nd [x]) v87 v88 v89 v90) _ V V Zg V (ZN V) (by simp only [ZW,A92.oneC,A93.oneC,A94.oneC,A95.oneC] <;> rfl) V V V V V (fun w37 S42=>?_)
  exact YD [.agg (QV (Zk nd [x]) v87 v88 v89 v90).toArray] S42 ⟨_,_,_,V,V,S42.loadA 0 _ _ _ 0 (QV (Zk nd [x]) v87 v88 v89 v90) V V V Zg V,V⟩ (Is.cast ⟨_,V,(Zd (Zk nd [x]) B264 Zet A92 A93 Zeu Zev B268 B269 B270 B271 A94 B272 B273 B274 B275 A95)⟩ (by with_reducible exact Zmp ‹_› ‹_›))
 refine Zj x.kind 5 V V V (fun h7=>?_) (fun h7=>?_)
 ·have T37:=Sl.at (A8.mono L1) 0 (by (have:=har.2 (by omega); omega))
  obtain ⟨p9,x9,U8,E8,W8⟩:=T37
  obtain ⟨D22,C9,R22⟩:=E8
  have T38:=Ze R22
  obtain ⟨v91,v92,v93,v94,rfl,B276,B277,A96,A97,B278,B279,ZcC,B281,Zat,Zdr,A98,ZbF,Zds,ZcD,Qw,A99⟩:=T38
  refine dr [(7,true),(8,false)] [(79, .agg (CV nd.cond v3).toArray),(81,v9),(82,Zu p9),(83, .agg (QV x9 v91 v92 v93 v94).toArray)] S3 ⟨fun _ hSw=>Zs hSw 1 _ _ _ 4 (CV nd.cond v3) V V V Z5 V V V <| nu V V,fun _ hSw=>Za hSw (YC.drop 15 C1) ZX V V V <| nu V V,fun _=>Zf 0 W8 ZS Zg V V V V <| nu V V,fun _ hSw=>Zc hSw C9 (QV x9 v91 v92 v93 v94) Zg V V V V V <| nu V V,trivial⟩ (fun w38 S43=>?_)
  refine Zv S43 Zc4 V V V (Zfs S43.imm (Yc x9) x9 l (hg.mono L1) _ (Zd x9 B276 B277 A96 A97 B278 B279 ZcC B281 Zat Zdr A98 ZbF Zds ZcD Qw A99) _ (hvl.mono L1) (YU _) (hw.kid (List.mem_of_getElem? ‹_›)).sm) (fun w39 G24 r15 P15 S44 L24=>?_)
  refine ⟨S44.down S43.le L24,?_⟩
  have j14:=(L1.trans L24)
  refine Zw S44 Zce V V V (ZcX S44.imm (Yu nd.cond) nd.cond ((ZP (Yc x9) x9 l).1.map Col.name) _ (ZJ nd.cond B3 B4 B5 B6 B7 ZK (A3.mono j14)) _ P15 (Qn _)) (fun w40 G25 S45 L25=>?_)
  refine WL.split (fun (h8 : (Qq (Yu nd.cond) nd.cond ((ZP (Yc x9) x9 l).1.map Col.name)) = true)=>?_) (fun (h8 : (Qq (Yu nd.cond) nd.cond ((ZP (Yc x9) x9 l).1.map Col.name)) = false)=>?_)
  ·have j15:=(j14.trans L25)
   have T39:=Sl.at (A8.mono j15) 0 (by (have:=har.2 (by omega); omega))
   obtain ⟨p10,x10,U9,E9,W9⟩:=T39
   have T40 : x9 = x10:=Option.some.inj (U8.symm.trans U9)
   obtain rfl:=T40
   obtain ⟨D23,C10,R23⟩:=E9
   have T41:=Ze R23
   obtain ⟨v95,v96,v97,v98,rfl,B288,ZcE,A100,A101,ZcF,Zbw,Zbx,ZbG,B294,B295,A102,B296,B297,B298,B299,A103⟩:=T41
   have T42:=Sl.at (A8.mono j15) 1 (by (have:=har.2 (by omega); omega))
   obtain ⟨p11,x11,U10,E10,W10⟩:=T42
   obtain ⟨D24,C11,R24⟩:=E10
   have T43:=Ze R24
   obtain ⟨v99,v100,v101,v102,rfl,B300,B301,A104,A105,B302,B303,B304,B305,B306,B307,A106,ZcG,Zdt,Zdu,Zba,A107⟩:=T43
   have j16:=(L24.trans L25)
   refine dr [(7,true),(12,true),(13,false),(14,false)] [(87, .agg (QV x v5 v6 v7 v9).toArray),(88, .agg (QV nd v1 v2 v3 v4).toArray),(90,v9),(91,Zu p10),(92, .agg (QV x9 v95 v96 v97 v98).toArray),(96,v9),(97,Zu p11),(98, .agg (QV x11 v99 v100 v101 v102).toArray)] S45 ⟨fun _ hSw=>Zc hSw (C1.mono j16) (QV x v5 v6 v7 v9) Zg V V V V V <| nu V V,fun _ hSw=>Zs hSw 1 _ _ _ 0 (QV nd v1 v2 v3 v4) V V V Zg V V V <| nu V V,fun _ hSw=>Za hSw (YC.drop 15 (C1.mono j16)) ZX V V V <| nu V V,fun _=>Zf 0 W9 ZS Zg V V V V <| nu V V,fun _ hSw=>Zc hSw C10 (QV x9 v95 v96 v97 v98) Zg V V V V V <| nu V V,fun _ hSw=>Za hSw (YC.drop 15 (C1.mono j16)) ZX V V V <| nu V V,fun _=>Zf 1 W10 ZS Zg V V V V <| nu V V,fun _ hSw=>Zc hSw C11 (QV x11 v99 v100 v101 v102) Zg V V V V V <| nu V V,trivial⟩ (fun w41 S46=>?_)
   refine Zv S46 XQ V V V (ih S46.imm nd x9 l (hg.mono j15) _ (Zd nd B1 B2 (A1.mono j15) (A2.mono j15) B3 B4 B5 B6 B7 ZK (A3.mono j15) hb9 Z9 Z7 Z6 (A4.mono j15)) _ (Zd x9 B288 ZcE A100 A101 ZcF Zbw Zbx ZbG B294 B295 A102 B296 B297 B298 B299 A103) _ (hvl.mono j15) hgs (Yp hn (List.mem_of_getElem? ‹_›)) (hw.kid (List.mem_of_getElem? ‹_›)) (by exact hb)) (fun w42 G26 r16 P16 S47 L26=>?_)
   obtain ⟨D25,rfl,R25⟩:=P16
   have T44:=Ze R25
   obtain ⟨v103,v104,v105,v106,rfl,B312,B313,A108,A109,B314,B315,B316,B317,B318,B319,A110,B320,B321,B322,Zew,A111⟩:=T44
   refine ⟨S47.down S46.le L26,?_⟩
   refine WL.buildSlice _ [(0,(QV (Zp l nd x9) v103 v104 v105 v106)),(1,(QV x11 v99 v100 v101 v102))] (QX (Zp l nd x9) v103 v104 v105 v106 x11 v99 v100 v101 v102) S47 YL V V V V (fun z hz=>by match z,hz with | [z0,z1,z2,z3,z4,z5,z6,z7,z8,z9,z10,z11,z12,z13,z14,z15,z16,z17,z18,z19,z20,z21,z22,z23,z24,z25,z26,z27,z28,z29,z30,z31],_=>rfl) (fun b9 w43 N9 S48=>?_)
   refine ⟨S48.tail.down S46.le L26,?_⟩
   have T45:=St.sealSl (E:=QryE) (by_:=224) (l:=([(Zp l nd x9),x11] : List Query)) S48 N9 ⟨(QV (Zp l nd x9) v103 v104 v105 v106),_,V,(Zd (Zp l nd x9) B312 B313 A108 A109 B314 B315 B316 B317 B318 B319 A110 B320 B321 B322 Zew A111),⟨(QV x11 v99 v100 v101 v102),_,V,(Zd x11 B300 B301 (A104.mono L26) (A105.mono L26) B302 B303 B304 B305 B306 B307 (A106.mono L26) ZcG Zdt Zdu Zba (A107.mono L26)),V⟩⟩ V (by simp [reach]) (by simp [reach])
   obtain ⟨G27,L27,A112,S49⟩:=T45
   have j17:=((j15.trans L26).trans L27)
   refine Zv S49 Xi V V V (Xl S49.imm x [(Zp l nd x9),x11] _ (Zd x ZV Ye (A5.mono j17) (A6.mono j17) Yd B16 B17 Yf B19 B20 (A7.mono j17) B21 B22 B23 B24 (A8.mono j17)) _ A112) (fun w44 G28 r17 P17 S50 L28=>?_)
   obtain ⟨D26,rfl,R26⟩:=P17
   have T46:=Ze R26
   obtain ⟨v107,v108,v109,v110,rfl,Zex,Zey,A113,A114,Zez,Ze0,Ze1,Ze2,B330,B331,A115,B332,B333,B334,B335,A116⟩:=T46
   refine WL.store S50 0 _ _ _ 0 _ (QV (Zk x [(Zp l nd x9),x11]) v107 v108 v109 v110) (QV (Zk x [(Zp l nd x9),x11]) v107 v108 v109 v110) _ V V Zg V (ZN V) (by simp only [ZW,A113.oneC,A114.oneC,A115.oneC,A116.oneC] <;> rfl) V V V V V (fun w45 S51=>?_)
   exact YD [.agg (QV (Zk x [(Zp l nd x9),x11]) v107 v108 v109 v110).toArray] S51 ⟨_,_,_,V,V,S51.loadA 0 _ _ _ 0 (QV (Zk x [(Zp l nd x9),x11]) v107 v108 v109 v110) V V V Zg V,V⟩ (Is.cast ⟨_,V,(Zd (Zk x [(Zp l nd x9),x11]) Zex Zey A113 A114 Zez Ze0 Ze1 Ze2 B330 B331 A115 B332 B333 B334 B335 A116)⟩ (by with_reducible exact Zie (by omega) (by assumption : x.l[0]? = some _) (by assumption : x.l[1]? = some _) ‹_›))
  have j18:=(j14.trans L25)
  have T47:=Sl.at (A8.mono j18) 1 (by (have:=har.2 (by omega); omega))
  obtain ⟨p12,x12,U11,E11,W11⟩:=T47
  obtain ⟨D27,C12,R27⟩:=E11
  have T48:=Ze R27
  obtain ⟨v111,v112,v113,v114,rfl,B336,B337,A117,A118,B338,ZcH,Zdv,ZcI,B342,ZcJ,A119,ZbH,Zdw,B346,B347,A120⟩:=T48
  have j19:=(L24.trans L25)
  refine dr [(7,true),(8,false)] [(102, .agg (CV nd.cond v3).toArray),(104,v9),(105,Zu p12),(106, .agg (QV x12 v111 v112 v113 v114).toArray)] S45 ⟨fun _ hSw=>Zs hSw 1 _ _ _ 4 (CV nd.cond v3) V V V Z5 V V V <| nu V V,fun _ hSw=>Za hSw (YC.drop 15 (C1.mono j19)) ZX V V V <| nu V V,fun _=>Zf 1 W11 ZS Zg V V V V <| nu V V,fun _ hSw=>Zc hSw C12 (QV x12 v111 v112 v113 v114) Zg V V V V V <| nu V V,trivial⟩ (fun w46 S52=>?_)
  refine Zv S52 Zc4 V V V (Zfs S52.imm (Yc x12) x12 l (hg.mono j18) _ (Zd x12 B336 B337 A117 A118 B338 ZcH Zdv ZcI B342 ZcJ A119 ZbH Zdw B346 B347 A120) _ (hvl.mono j18) (YU _) (hw.kid (List.mem_of_getElem? ‹_›)).sm) (fun w47 G29 r18 P18 S53 L29=>?_)
  refine ⟨S53.down S52.le L29,?_⟩
  have j20:=(j18.trans L29)
  refine Zw S53 Zce V V V (ZcX S53.imm (Yu nd.cond) nd.cond ((ZP (Yc x12) x12 l).1.map Col.name) _ (ZJ nd.cond B3 B4 B5 B6 B7 ZK (A3.mono j20)) _ P18 (Qn _)) (fun w48 G30 S54 L30=>?_)
  refine WL.split (fun (h9 : (Qq (Yu nd.cond) nd.cond ((ZP (Yc x12) x12 l).1.map Col.name)) = true)=>?_) (fun (h9 : (Qq (Yu nd.cond) nd.cond ((ZP (Yc x12) x12 l).1.map Col.name)) = false)=>?_)
  ·have j21:=(j20.trans L30)
   have T49:=Sl.at (A8.mono j21) 0 (by (have:=har.2 (by omega); omega))
   obtain ⟨p13,x13,U12,E12,W12⟩:=T49
   have T50 : x9 = x13:=Option.some.inj (U8.symm.trans U12)
   obtain rfl:=T50
   obtain ⟨D28,C13,R28⟩:=E12
   have T51:=Ze R28
   obtain ⟨v115,v116,v117,v118,rfl,B348,B349,A121,A122,B350,B351,B352,B353,B354,B355,A123,B356,B357,B358,B359,A124⟩:=T51
   have T52:=Sl.at (A8.mono j21) 1 (by (have:=har.2 (by omega); omega))
   obtain ⟨p14,x14,U13,E13,W13⟩:=T52
   have T53 : x12 = x14:=Option.some.inj (U11.symm.trans U13)
   obtain rfl:=T53
   obtain ⟨D29,C14,R29⟩:=E13
   have T54:=Ze R29
   obtain ⟨v119,v120,v121,v122,rfl,B360,B361,A125,A126,B362,B363,B364,B365,B366,B367,A127,B368,B369,B370,B371,A128⟩:=T54
   have j22:=((j19.trans L29).trans L30)
   refine dr [(11,true),(12,true),(13,false),(14,false)] [(110, .agg (QV x v5 v6 v7 v9).toArray),(112,v9),(113,Zu p13),(114, .agg (QV x9 v115 v116 v117 v118).toArray),(115, .agg (QV nd v1 v2 v3 v4).toArray),(117,v9),(118,Zu p14),(119, .agg (QV x12 v119 v120 v121 v122).toArray)] S54 ⟨fun _ hSw=>Zc hSw (C1.mono j22) (QV x v5 v6 v7 v9) Zg V V V V V <| nu V V,fun _ hSw=>Za hSw (YC.drop 15 (C1.mono j22)) ZX V V V <| nu V V,fun _=>Zf 0 W12 ZS Zg V V V V <| nu V V,fun _ hSw=>Zc hSw C13 (QV x9 v115 v116 v117 v118) Zg V V V V V <| nu V V,fun _ hSw=>Zs hSw 1 _ _ _ 0 (QV nd v1 v2 v3 v4) V V V Zg V V V <| nu V V,fun _ hSw=>Za hSw (YC.drop 15 (C1.mono j22)) ZX V V V <| nu V V,fun _=>Zf 1 W13 ZS Zg V V V V <| nu V V,fun _ hSw=>Zc hSw C14 (QV x12 v119 v120 v121 v122) Zg V V V V V <| nu V V,trivial⟩ (fun w49 S55=>?_)
   refine Zv S55 XQ V V V (ih S55.imm nd x12 l (hg.mono j21) _ (Zd nd B1 B2 (A1.mono j21) (A2.mono j21) B3 B4 B5 B6 B7 ZK (A3.mono j21) hb9 Z9 Z7 Z6 (A4.mono j21)) _ (Zd x12 B360 B361 A125 A126 B362 B363 B364 B365 B366 B367 A127 B368 B369 B370 B371 A128) _ (hvl.mono j21) hgs (Yp hn (List.mem_of_getElem? ‹_›)) (hw.kid (List.mem_of_getElem? ‹_›)) (by exact hb)) (fun w50 G31 r19 P19 S56 L31=>?_)
   obtain ⟨D30,rfl,R30⟩:=P19
   have T55:=Ze R30
   obtain ⟨v123,v124,v125,v126,rfl,B372,B373,A129,A130,B374,B375,B376,B377,B378,Ze3,A131,Ze4,B381,B382,B383,A132⟩:=T55
   refine ⟨S56.down S55.le L31,?_⟩
   refine WL.buildSlice _ [(0,(QV x9 v115 v116 v117 v118)),(1,(QV (Zp l nd x12) v123 v124 v125 v126))] (QX x9 v115 v116 v117 v118 (Zp l nd x12) v123 v124 v125 v126) S56 YL V V V V (fun z hz=>by match z,hz with | [z0,z1,z2,z3,z4,z5,z6,z7,z8,z9,z10,z11,z12,z13,z14,z15,z16,z17,z18,z19,z20,z21,z22,z23,z24,z25,z26,z27,z28,z29,z30,z31],_=>rfl) (fun b10 w51 N10 S57=>?_)
   refine ⟨S57.tail.down S55.le L31,?_⟩
   have T56:=St.sealSl (E:=QryE) (by_:=224) (l:=([x9,(Zp l nd x12)] : List Query)) S57 N10 ⟨(QV x9 v115 v116 v117 v118),_,V,(Zd x9 B348 B349 (A121.mono L31) (A122.mono L31) B350 B351 B352 B353 B354 B355 (A123.mono L31) B356 B357 B358 B359 (A124.mono L31)),⟨(QV (Zp l nd x12) v123 v124 v125 v126),_,V,(Zd (Zp l nd x12) B372 B373 A129 A130 B374 B375 B376 B377 B378 Ze3 A131 Ze4 B381 B382 B383 A132),V⟩⟩ V (by simp [reach]) (by simp [reach])
   obtain ⟨G32,L32,A133,S58⟩:=T56
   have j23:=((j21.trans L31).trans L32)
   refine Zv S58 Xi V V V (Xl S58.imm x [x9,(Zp l nd x12)] _ (Zd x ZV Ye (A5.mono j23) (A6.mono j23) Yd B16 B17 Yf B19 B20 (A7.mono j23) B21 B22 B23 B24 (A8.mono j23)) _ A133) (fun w52 G33 r20 P20 S59 L33=>?_)
   obtain ⟨D31,rfl,R31⟩:=P20
   have T57:=Ze R31
   obtain ⟨v127,v128,v129,v130,rfl,B384,B385,A134,A135,B386,B387,B388,B389,B390,B391,A136,B392,B393,B394,B395,A137⟩:=T57
   refine WL.store S59 0 _ _ _ 0 _ (QV (Zk x [x9,(Zp l nd x12)]) v127 v128 v129 v130) (QV (Zk x [x9,(Zp l nd x12)]) v127 v128 v129 v130) _ V V Zg V (ZN V) (by simp only [ZW,A134.oneC,A135.oneC,A136.oneC,A137.oneC] <;> rfl) V V V V V (fun w53 S60=>?_)
   exact YD [.agg (QV (Zk x [x9,(Zp l nd x12)]) v127 v128 v129 v130).toArray] S60 ⟨_,_,_,V,V,S60.loadA 0 _ _ _ 0 (QV (Zk x [x9,(Zp l nd x12)]) v127 v128 v129 v130) V V V Zg V,V⟩ (Is.cast ⟨_,V,(Zd (Zk x [x9,(Zp l nd x12)]) B384 B385 A134 A135 B386 B387 B388 B389 B390 B391 A136 B392 B393 B394 B395 A137)⟩ (by with_reducible exact Zif (by omega) (by assumption : x.l[0]? = some _) (by assumption : x.l[1]? = some _) ‹_› ‹_›))
  refine Zs S54 1 _ _ _ 0 (QV nd v1 v2 v3 v4) V V V Zg V V V <| Zc S54 (C1.mono ((j19.trans L29).trans L30)) (QV x v5 v6 v7 v9) Zg V V V V V ?_
  refine WL.buildSlice _ [(0,(QV x v5 v6 v7 v9))] (QV x v5 v6 v7 v9) S54 YL V V V V (fun z hz=>by match z,hz with | [z0,z1,z2,z3,z4,z5,z6,z7,z8,z9,z10,z11,z12,z13,z14,z15],_=>rfl) (fun b11 w54 N11 S61=>?_)
  have j24:=(j20.trans L30)
  have T58:=St.sealSl (E:=QryE) (by_:=224) (l:=([x] : List Query)) S61 N11 ⟨(QV x v5 v6 v7 v9),_,V,(Zd x ZV Ye (A5.mono j24) (A6.mono j24) Yd B16 B17 Yf B19 B20 (A7.mono j24) B21 B22 B23 B24 (A8.mono j24)),V⟩ V (by simp [reach]) (by simp [reach])
  obtain ⟨G34,L34,A138,S62⟩:=T58
  have j25:=(j24.trans L34)
  refine Zv S62 Xi V V V (Xl S62.imm nd [x] _ (Zd nd B1 B2 (A1.mono j25) (A2.mono j25) B3 B4 B5 B6 B7 ZK (A3.mono j25) hb9 Z9 Z7 Z6 (A4.mono j25)) _ A138) (fun w55 G35 r21 P21 S63 L35=>?_)
  obtain ⟨D32,rfl,R32⟩:=P21
  have T59:=Ze R32
  obtain ⟨v131,v132,v133,v134,rfl,B396,Zdx,A139,A140,Zdy,B399,B400,B401,B402,B403,A141,B404,B405,B406,B407,A142⟩:=T59
  refine WL.store S63 0 _ _ _ 0 _ (QV (Zk nd [x]) v131 v132 v133 v134) (QV (Zk nd [x]) v131 v132 v133 v134) _ V V Zg V (ZN V) (by simp only [ZW,A139.oneC,A140.oneC,A141.oneC,A142.oneC] <;> rfl) V V V V V (fun w56 S64=>?_)
  exact YD [.agg (QV (Zk nd [x]) v131 v132 v133 v134).toArray] S64 ⟨_,_,_,V,V,S64.loadA 0 _ _ _ 0 (QV (Zk nd [x]) v131 v132 v133 v134) V V V Zg V,V⟩ (Is.cast ⟨_,V,(Zd (Zk nd [x]) B396 Zdx A139 A140 Zdy B399 B400 B401 B402 B403 A141 B404 B405 B406 B407 A142)⟩ (by with_reducible exact Zig (by omega) (by assumption : x.l[0]? = some _) (by assumption : x.l[1]? = some _) ‹_› ‹_›))
 refine Zj x.kind 10 V V V (fun h10=>?_) (fun h10=>?_)
 ·have T60:=Sl.at (A8.mono L1) 0 (by (have:=har.2 (by omega); omega))
  obtain ⟨p15,x15,U14,E14,W14⟩:=T60
  obtain ⟨D33,C15,R33⟩:=E14
  have T61:=Ze R33
  obtain ⟨v135,v136,v137,v138,rfl,B408,B409,A143,A144,B410,B411,B412,B413,B414,B415,A145,B416,B417,B418,B419,A146⟩:=T61
  refine dr [(7,true),(8,false)] [(79, .agg (CV nd.cond v3).toArray),(81,v9),(82,Zu p15),(83, .agg (QV x15 v135 v136 v137 v138).toArray)] S3 ⟨fun _ hSw=>Zs hSw 1 _ _ _ 4 (CV nd.cond v3) V V V Z5 V V V <| nu V V,fun _ hSw=>Za hSw (YC.drop 15 C1) ZX V V V <| nu V V,fun _=>Zf 0 W14 ZS Zg V V V V <| nu V V,fun _ hSw=>Zc hSw C15 (QV x15 v135 v136 v137 v138) Zg V V V V V <| nu V V,trivial⟩ (fun w57 S65=>?_)
  refine Zv S65 Zc4 V V V (Zfs S65.imm (Yc x15) x15 l (hg.mono L1) _ (Zd x15 B408 B409 A143 A144 B410 B411 B412 B413 B414 B415 A145 B416 B417 B418 B419 A146) _ (hvl.mono L1) (YU _) (hw.kid (List.mem_of_getElem? ‹_›)).sm) (fun w58 G36 r22 P22 S66 L36=>?_)
  refine ⟨S66.down S65.le L36,?_⟩
  have j26:=(L1.trans L36)
  refine Zw S66 Zce V V V (ZcX S66.imm (Yu nd.cond) nd.cond ((ZP (Yc x15) x15 l).1.map Col.name) _ (ZJ nd.cond B3 B4 B5 B6 B7 ZK (A3.mono j26)) _ P22 (Qn _)) (fun w59 G37 S67 L37=>?_)
  refine WL.split (fun (h11 : (Qq (Yu nd.cond) nd.cond ((ZP (Yc x15) x15 l).1.map Col.name)) = true)=>?_) (fun (h11 : (Qq (Yu nd.cond) nd.cond ((ZP (Yc x15) x15 l).1.map Col.name)) = false)=>?_)
  ·have j27:=(j26.trans L37)
   have T62:=Sl.at (A8.mono j27) 0 (by (have:=har.2 (by omega); omega))
   obtain ⟨p16,x16,U15,E15,W15⟩:=T62
   have T63 : x15 = x16:=Option.some.inj (U14.symm.trans U15)
   obtain rfl:=T63
   obtain ⟨D34,C16,R34⟩:=E15
   have T64:=Ze R34
   obtain ⟨v139,v140,v141,v142,rfl,B420,B421,A147,A148,B422,B423,B424,B425,B426,B427,A149,B428,B429,B430,B431,A150⟩:=T64
   have T65:=Sl.at (A8.mono j27) 1 (by (have:=har.2 (by omega); omega))
   obtain ⟨p17,x17,U16,E16,W16⟩:=T65
   obtain ⟨D35,C17,R35⟩:=E16
   have T66:=Ze R35
   obtain ⟨v143,v144,v145,v146,rfl,B432,Ze5,A151,A152,B434,B435,B436,B437,B438,B439,A153,B440,B441,B442,B443,A154⟩:=T66
   have j28:=(L36.trans L37)
   refine dr [(7,true),(12,true),(13,false),(14,false)] [(87, .agg (QV x v5 v6 v7 v9).toArray),(88, .agg (QV nd v1 v2 v3 v4).toArray),(90,v9),(91,Zu p16),(92, .agg (QV x15 v139 v140 v141 v142).toArray),(96,v9),(97,Zu p17),(98, .agg (QV x17 v143 v144 v145 v146).toArray)] S67 ⟨fun _ hSw=>Zc hSw (C1.mono j28) (QV x v5 v6 v7 v9) Zg V V V V V <| nu V V,fun _ hSw=>Zs hSw 1 _ _ _ 0 (QV nd v1 v2 v3 v4) V V V Zg V V V <| nu V V,fun _ hSw=>Za hSw (YC.drop 15 (C1.mono j28)) ZX V V V <| nu V V,fun _=>Zf 0 W15 ZS Zg V V V V <| nu V V,fun _ hSw=>Zc hSw C16 (QV x15 v139 v140 v141 v142) Zg V V V V V <| nu V V,fun _ hSw=>Za hSw (YC.drop 15 (C1.mono j28)) ZX V V V <| nu V V,fun _=>Zf 1 W16 ZS Zg V V V V <| nu V V,fun _ hSw=>Zc hSw C17 (QV x17 v143 v144 v145 v146) Zg V V V V V <| nu V V,trivial⟩ (fun w60 S68=>?_)
   refine Zv S68 XQ V V V (ih S68.imm nd x15 l (hg.mono j27) _ (Zd nd B1 B2 (A1.mono j27) (A2.mono j27) B3 B4 B5 B6 B7 ZK (A3.mono j27) hb9 Z9 Z7 Z6 (A4.mono j27)) _ (Zd x15 B420 B421 A147 A148 B422 B423 B424 B425 B426 B427 A149 B428 B429 B430 B431 A150) _ (hvl.mono j27) hgs (Yp hn (List.mem_of_getElem? ‹_›)) (hw.kid (List.mem_of_getElem? ‹_›)) (by exact hb)) (fun w61 G38 r23 P23 S69 L38=>?_)
   obtain ⟨D36,rfl,R36⟩:=P23
   have T67:=Ze R36
   obtain ⟨v147,v148,v149,v150,rfl,B444,B445,A155,A156,B446,B447,B448,B449,B450,B451,A157,B452,B453,B454,B455,A158⟩:=T67
   refine ⟨S69.down S68.le L38,?_⟩
   refine WL.buildSlice _ [(0,(QV (Zp l nd x15) v147 v148 v149 v150)),(1,(QV x17 v143 v144 v145 v146))] (QX (Zp l nd x15) v147 v148 v149 v150 x17 v143 v144 v145 v146) S69 YL V V V V (fun z hz=>by match z,hz with | [z0,z1,z2,z3,z4,z5,z6,z7,z8,z9,z10,z11,z12,z13,z14,z15,z16,z17,z18,z19,z20,z21,z22,z23,z24,z25,z26,z27,z28,z29,z30,z31],_=>rfl) (fun b12 w62 N12 S70=>?_)
   refine ⟨S70.tail.down S68.le L38,?_⟩
   have T68:=St.sealSl (E:=QryE) (by_:=224) (l:=([(Zp l nd x15),x17] : List Query)) S70 N12 ⟨(QV (Zp l nd x15) v147 v148 v149 v150),_,V,(Zd (Zp l nd x15) B444 B445 A155 A156 B446 B447 B448 B449 B450 B451 A157 B452 B453 B454 B455 A158),⟨(QV x17 v143 v144 v145 v146),_,V,(Zd x17 B432 Ze5 (A151.mono L38) (A152.mono L38) B434 B435 B436 B437 B438 B439 (A153.mono L38) B440 B441 B442 B443 (A154.mono L38)),V⟩⟩ V (by simp [reach]) (by simp [reach])
   obtain ⟨G39,L39,A159,S71⟩:=T68
   have j29:=((j27.trans L38).trans L39)
   refine Zv S71 Xi V V V (Xl S71.imm x [(Zp l nd x15),x17] _ (Zd x ZV Ye (A5.mono j29) (A6.mono j29) Yd B16 B17 Yf B19 B20 (A7.mono j29) B21 B22 B23 B24 (A8.mono j29)) _ A159) (fun w63 G40 r24 P24 S72 L40=>?_)
   obtain ⟨D37,rfl,R37⟩:=P24
   have T69:=Ze R37
   obtain ⟨v151,v152,v153,v154,rfl,B456,B457,A160,A161,B458,B459,B460,B461,B462,B463,A162,B464,B465,B466,B467,A163⟩:=T69
   refine WL.store S72 0 _ _ _ 0 _ (QV (Zk x [(Zp l nd x15),x17]) v151 v152 v153 v154) (QV (Zk x [(Zp l nd x15),x17]) v151 v152 v153 v154) _ V V Zg V (ZN V) (by simp only [ZW,A160.oneC,A161.oneC,A162.oneC,A163.oneC] <;> rfl) V V V V V (fun w64 S73=>?_)
   exact YD [.agg (QV (Zk x [(Zp l nd x15),x17]) v151 v152 v153 v154).toArray] S73 ⟨_,_,_,V,V,S73.loadA 0 _ _ _ 0 (QV (Zk x [(Zp l nd x15),x17]) v151 v152 v153 v154) V V V Zg V,V⟩ (Is.cast ⟨_,V,(Zd (Zk x [(Zp l nd x15),x17]) B456 B457 A160 A161 B458 B459 B460 B461 B462 B463 A162 B464 B465 B466 B467 A163)⟩ (by with_reducible exact Zie (by omega) (by assumption : x.l[0]? = some _) (by assumption : x.l[1]? = some _) ‹_›))
  have j30:=(j26.trans L37)
  have T70:=Sl.at (A8.mono j30) 1 (by (have:=har.2 (by omega); omega))
  obtain ⟨p18,x18,U17,E17,W17⟩:=T70
  obtain ⟨D38,C18,R38⟩:=E17
  have T71:=Ze R38
  obtain ⟨v155,v156,v157,v158,rfl,B468,B469,A164,A165,B470,B471,B472,B473,B474,B475,A166,B476,B477,B478,B479,A167⟩:=T71
  have j31:=(L36.trans L37)
  refine dr [(7,true),(8,false)] [(102, .agg (CV nd.cond v3).toArray),(104,v9),(105,Zu p18),(106, .agg (QV x18 v155 v156 v157 v158).toArray)] S67 ⟨fun _ hSw=>Zs hSw 1 _ _ _ 4 (CV nd.cond v3) V V V Z5 V V V <| nu V V,fun _ hSw=>Za hSw (YC.drop 15 (C1.mono j31)) ZX V V V <| nu V V,fun _=>Zf 1 W17 ZS Zg V V V V <| nu V V,fun _ hSw=>Zc hSw C18 (QV x18 v155 v156 v157 v158) Zg V V V V V <| nu V V,trivial⟩ (fun w65 S74=>?_)
  refine Zv S74 Zc4 V V V (Zfs S74.imm (Yc x18) x18 l (hg.mono j30) _ (Zd x18 B468 B469 A164 A165 B470 B471 B472 B473 B474 B475 A166 B476 B477 B478 B479 A167) _ (hvl.mono j30) (YU _) (hw.kid (List.mem_of_getElem? ‹_›)).sm) (fun w66 G41 r25 P25 S75 L41=>?_)
  refine ⟨S75.down S74.le L41,?_⟩
  have j32:=(j30.trans L41)
  refine Zw S75 Zce V V V (ZcX S75.imm (Yu nd.cond) nd.cond ((ZP (Yc x18) x18 l).1.map Col.name) _ (ZJ nd.cond B3 B4 B5 B6 B7 ZK (A3.mono j32)) _ P25 (Qn _)) (fun w67 G42 S76 L42=>?_)
  refine WL.split (fun (h12 : (Qq (Yu nd.cond) nd.cond ((ZP (Yc x18) x18 l).1.map Col.name)) = true)=>?_) (fun (h12 : (Qq (Yu nd.cond) nd.cond ((ZP (Yc x18) x18 l).1.map Col.name)) = false)=>?_)
  ·have j33:=(j32.trans L42)
   have T72:=Sl.at (A8.mono j33) 0 (by (have:=har.2 (by omega); omega))
   obtain ⟨p19,x19,U18,E18,W18⟩:=T72
   have T73 : x15 = x19:=Option.some.inj (U14.symm.trans U18)
   obtain rfl:=T73
   obtain ⟨D39,C19,R39⟩:=E18
   have T74:=Ze R39
   obtain ⟨v159,v160,v161,v162,rfl,B480,B481,A168,A169,B482,B483,B484,B485,B486,B487,A170,B488,B489,B490,B491,A171⟩:=T74
   have T75:=Sl.at (A8.mono j33) 1 (by (have:=har.2 (by omega); omega))
   obtain ⟨p20,x20,U19,E19,W19⟩:=T75
   have T76 : x18 = x20:=Option.some.inj (U17.symm.trans U19)
   obtain rfl:=T76
   obtain ⟨D40,C20,R40⟩:=E19
   have T77:=Ze R40
   obtain ⟨v163,v164,v165,v166,rfl,B492,B493,A172,A173,B494,B495,B496,B497,B498,B499,A174,B500,B501,B502,B503,A175⟩:=T77
   have j34:=((j31.trans L41).trans L42)
   refine dr [(11,true),(12,true),(13,false),(14,false)] [(110, .agg (QV x v5 v6 v7 v9).toArray),(112,v9),(113,Zu p19),(114, .agg (QV x15 v159 v160 v161 v162).toArray),(115, .agg (QV nd v1 v2 v3 v4).toArray),(117,v9),(118,Zu p20),(119, .agg (QV x18 v163 v164 v165 v166).toArray)] S76 ⟨fun _ hSw=>Zc hSw (C1.mono j34) (QV x v5 v6 v7 v9) Zg V V V V V <| nu V V,fun _ hSw=>Za hSw (YC.drop 15 (C1.mono j34)) ZX V V V <| nu V V,fun _=>Zf 0 W18 ZS Zg V V V V <| nu V V,fun _ hSw=>Zc hSw C19 (QV x15 v159 v160 v161 v162) Zg V V V V V <| nu V V,fun _ hSw=>Zs hSw 1 _ _ _ 0 (QV nd v1 v2 v3 v4) V V V Zg V V V <| nu V V,fun _ hSw=>Za hSw (YC.drop 15 (C1.mono j34)) ZX V V V <| nu V V,fun _=>Zf 1 W19 ZS Zg V V V V <| nu V V,fun _ hSw=>Zc hSw C20 (QV x18 v163 v164 v165 v166) Zg V V V V V <| nu V V,trivial⟩ (fun w68 S77=>?_)
   refine Zv S77 XQ V V V (ih S77.imm nd x18 l (hg.mono j33) _ (Zd nd B1 B2 (A1.mono j33) (A2.mono j33) B3 B4 B5 B6 B7 ZK (A3.mono j33) hb9 Z9 Z7 Z6 (A4.mono j33)) _ (Zd x18 B492 B493 A172 A173 B494 B495 B496 B497 B498 B499 A174 B500 B501 B502 B503 A175) _ (hvl.mono j33) hgs (Yp hn (List.mem_of_getElem? ‹_›)) (hw.kid (List.mem_of_getElem? ‹_›)) (by exact hb)) (fun w69 G43 r26 P26 S78 L43=>?_)
   obtain ⟨D41,rfl,R41⟩:=P26
   have T78:=Ze R41
   obtain ⟨v167,v168,v169,v170,rfl,B504,B505,A176,A177,B506,B507,B508,B509,B510,B511,A178,B512,B513,B514,B515,A179⟩:=T78
   refine ⟨S78.down S77.le L43,?_⟩
   refine WL.buildSlice _ [(0,(QV x15 v159 v160 v161 v162)),(1,(QV (Zp l nd x18) v167 v168 v169 v170))] (QX x15 v159 v160 v161 v162 (Zp l nd x18) v167 v168 v169 v170) S78 YL V V V V (fun z hz=>by match z,hz with | [z0,z1,z2,z3,z4,z5,z6,z7,z8,z9,z10,z11,z12,z13,z14,z15,z16,z17,z18,z19,z20,z21,z22,z23,z24,z25,z26,z27,z28,z29,z30,z31],_=>rfl) (fun b13 w70 N13 S79=>?_)
   refine ⟨S79.tail.down S77.le L43,?_⟩
   have T79:=St.sealSl (E:=QryE) (by_:=224) (l:=([x15,(Zp l nd x18)] : List Query)) S79 N13 ⟨(QV x15 v159 v160 v161 v162),_,V,(Zd x15 B480 B481 (A168.mono L43) (A169.mono L43) B482 B483 B484 B485 B486 B487 (A170.mono L43) B488 B489 B490 B491 (A171.mono L43)),⟨(QV (Zp l nd x18) v167 v168 v169 v170),_,V,(Zd (Zp l nd x18) B504 B505 A176 A177 B506 B507 B508 B509 B510 B511 A178 B512 B513 B514 B515 A179),V⟩⟩ V (by simp [reach]) (by simp [reach])
   obtain ⟨G44,L44,A180,S80⟩:=T79
   have j35:=((j33.trans L43).trans L44)
   refine Zv S80 Xi V V V (Xl S80.imm x [x15,(Zp l nd x18)] _ (Zd x ZV Ye (A5.mono j35) (A6.mono j35) Yd B16 B17 Yf B19 B20 (A7.mono j35) B21 B22 B23 B24 (A8.mono j35)) _ A180) (fun w71 G45 r27 P27 S81 L45=>?_)
   obtain ⟨D42,rfl,R42⟩:=P27
   have T80:=Ze R42
   obtain ⟨v171,v172,v173,v174,rfl,B516,B517,A181,A182,B518,B519,B520,B521,B522,B523,A183,B524,B525,B526,B527,A184⟩:=T80
   refine WL.store S81 0 _ _ _ 0 _ (QV (Zk x [x15,(Zp l nd x18)]) v171 v172 v173 v174) (QV (Zk x [x15,(Zp l nd x18)]) v171 v172 v173 v174) _ V V Zg V (ZN V) (by simp only [ZW,A181.oneC,A182.oneC,A183.oneC,A184.oneC] <;> rfl) V V V V V (fun w72 S82=>?_)
   exact YD [.agg (QV (Zk x [x15,(Zp l nd x18)]) v171 v172 v173 v174).toArray] S82 ⟨_,_,_,V,V,S82.loadA 0 _ _ _ 0 (QV (Zk x [x15,(Zp l nd x18)]) v171 v172 v173 v174) V V V Zg V,V⟩ (Is.cast ⟨_,V,(Zd (Zk x [x15,(Zp l nd x18)]) B516 B517 A181 A182 B518 B519 B520 B521 B522 B523 A183 B524 B525 B526 B527 A184)⟩ (by with_reducible exact Zif (by omega) (by assumption : x.l[0]? = some _) (by assumption : x.l[1]? = some _) ‹_› ‹_›))
  refine Zs S76 1 _ _ _ 0 (QV nd v1 v2 v3 v4) V V V Zg V V V <| Zc S76 (C1.mono ((j31.trans L41).trans L42)) (QV x v5 v6 v7 v9) Zg V V V V V ?_
  refine WL.buildSlice _ [(0,(QV x v5 v6 v7 v9))] (QV x v5 v6 v7 v9) S76 YL V V V V (fun z hz=>by match z,hz with | [z0,z1,z2,z3,z4,z5,z6,z7,z8,z9,z10,z11,z12,z13,z14,z15],_=>rfl) (fun b14 w73 N14 S83=>?_)
  have j36:=(j32.trans L42)
  have T81:=St.sealSl (E:=QryE) (by_:=224) (l:=([x] : List Query)) S83 N14 ⟨(QV x v5 v6 v7 v9),_,V,(Zd x ZV Ye (A5.mono j36) (A6.mono j36) Yd B16 B17 Yf B19 B20 (A7.mono j36) B21 B22 B23 B24 (A8.mono j36)),V⟩ V (by simp [reach]) (by simp [reach])
  obtain ⟨G46,L46,A185,S84⟩:=T81
  have j37:=(j36.trans L46)
  refine Zv S84 Xi V V V (Xl S84.imm nd [x] _ (Zd nd B1 B2 (A1.mono j37) (A2.mono j37) B3 B4 B5 B6 B7 ZK (A3.mono j37) hb9 Z9 Z7 Z6 (A4.mono j37)) _ A185) (fun w74 G47 r28 P28 S85 L47=>?_)
  obtain ⟨D43,rfl,R43⟩:=P28
  have T82:=Ze R43
  obtain ⟨v175,v176,v177,v178,rfl,B528,B529,A186,A187,B530,B531,B532,B533,B534,B535,A188,B536,B537,B538,B539,A189⟩:=T82
  refine WL.store S85 0 _ _ _ 0 _ (QV (Zk nd [x]) v175 v176 v177 v178) (QV (Zk nd [x]) v175 v176 v177 v178) _ V V Zg V (ZN V) (by simp only [ZW,A186.oneC,A187.oneC,A188.oneC,A189.oneC] <;> rfl) V V V V V (fun w75 S86=>?_)
  exact YD [.agg (QV (Zk nd [x]) v175 v176 v177 v178).toArray] S86 ⟨_,_,_,V,V,S86.loadA 0 _ _ _ 0 (QV (Zk nd [x]) v175 v176 v177 v178) V V V Zg V,V⟩ (Is.cast ⟨_,V,(Zd (Zk nd [x]) B528 B529 A186 A187 B530 B531 B532 B533 B534 B535 A188 B536 B537 B538 B539 A189)⟩ (by with_reducible exact Zig (by omega) (by assumption : x.l[0]? = some _) (by assumption : x.l[1]? = some _) ‹_› ‹_›))
 refine Zs S3 1 _ _ _ 0 (QV nd v1 v2 v3 v4) V V V Zg V V V <| Zc S3 C1 (QV x v5 v6 v7 v9) Zg V V V V V ?_
 refine WL.buildSlice _ [(0,(QV x v5 v6 v7 v9))] (QV x v5 v6 v7 v9) S3 YL V V V V (fun z hz=>by match z,hz with | [z0,z1,z2,z3,z4,z5,z6,z7,z8,z9,z10,z11,z12,z13,z14,z15],_=>rfl) (fun b15 w76 N15 S87=>?_)
 have T83:=St.sealSl (E:=QryE) (by_:=224) (l:=([x] : List Query)) S87 N15 ⟨(QV x v5 v6 v7 v9),_,V,(Zd x ZV Ye (A5.mono L1) (A6.mono L1) Yd B16 B17 Yf B19 B20 (A7.mono L1) B21 B22 B23 B24 (A8.mono L1)),V⟩ V (by simp [reach]) (by simp [reach])
 obtain ⟨G48,L48,A190,S88⟩:=T83
 have j38:=(L1.trans L48)
 refine Zv S88 Xi V V V (Xl S88.imm nd [x] _ (Zd nd B1 B2 (A1.mono j38) (A2.mono j38) B3 B4 B5 B6 B7 ZK (A3.mono j38) hb9 Z9 Z7 Z6 (A4.mono j38)) _ A190) (fun w77 G49 r29 P29 S89 L49=>?_)
 obtain ⟨D44,rfl,R44⟩:=P29
 have T84:=Ze R44
 obtain ⟨v179,v180,v181,v182,rfl,B540,B541,A191,A192,B542,B543,B544,B545,B546,B547,A193,B548,B549,B550,B551,A194⟩:=T84
 refine WL.store S89 0 _ _ _ 0 _ (QV (Zk nd [x]) v179 v180 v181 v182) (QV (Zk nd [x]) v179 v180 v181 v182) _ V V Zg V (ZN V) (by simp only [ZW,A191.oneC,A192.oneC,A193.oneC,A194.oneC] <;> rfl) V V V V V (fun w78 S90=>?_)
 exact YD [.agg (QV (Zk nd [x]) v179 v180 v181 v182).toArray] S90 ⟨_,_,_,V,V,S90.loadA 0 _ _ _ 0 (QV (Zk nd [x]) v179 v180 v181 v182) V V V Zg V,V⟩ (Is.cast ⟨_,V,(Zd (Zk nd [x]) B540 B541 A191 A192 B542 B543 B544 B545 B546 B547 A193 B548 B549 B550 B551 A194)⟩ (by with_reducible exact Zkr ‹_› ‹_› ‹_› ‹_› ‹_› ‹_› ‹_›))
theorem ZkL (m : Nat) : ∀ {G : GH} {w : World} (hG : G.In w) (nd x : Query) (l : List Schema) (cn : List Value) (hcn : QryE.rep G nd cn) (cx : List Value) (hcx : QryE.rep G x cx) (vl : Value) (hvl : Sl SchemaE 72 G vl l) (hgs : QG l = true) (hn : Xx x m) (hw : GdQ x) (hb : (Zfv nd.cond).length ≤ 1000000),CL Tryz.prog (nat_lit 118) #[.agg cn.toArray, .agg cx.toArray,vl] [] w G fun G' _ r=>Is QryE G' r (Zp l nd x):=by
 induction m
 ·intro G w hG nd x l cn hcn cx hcx vl hvl hgs hn hw hb; exact (Q9 hn).elim
 rename_i m ih
 intro G w hG nd x l cn hcn cx hcx vl hvl hgs hn hw hb
 refine YA ft [] Tryz.func118 V V ?_
 have har:=hw.ar
 have hS:=St.start (X:=[]) hG
 have T1:=Ze hcn
 obtain ⟨v1,v2,v3,v4,rfl,B1,B2,A1,A2,B3,B4,B5,B6,B7,ZK,A3,hb9,Z9,Z7,Z6,A4⟩:=T1
 have T2:=Ze hcx
 obtain ⟨v5,v6,v7,v9,rfl,ZV,Ye,A5,A6,Yd,B16,B17,Yf,B19,B20,A7,B21,B22,B23,B24,A8⟩:=T2
 refine WL.box (QV nd v1 v2 v3 v4) _ hS V V V (fun b1 w1 N1 S1=>?_)
 refine ZL (QV x v5 v6 v7 v9) _ S1 V V V (fun p1 w2 G1 L1 M1 C1 S2=>?_)
 refine WL.alloc S2 Zg V V (fun b2 w3 N2 S3=>?_)
 refine Za S3 (YC.drop 0 C1) Z3 V V V ?_
 refine Zj x.kind 3 V V V (fun h1=>?_) (fun h1=>?_)
 ·have T3:=Sl.at (A8.mono L1) 0 (by (have:=har.1 (by omega); omega))
  obtain ⟨p2,x1,U1,E1,W1⟩:=T3
  obtain ⟨D1,C2,R1⟩:=E1
  have T4:=Ze R1
  obtain ⟨v10,v11,v12,v13,rfl,X6,B26,A9,A10,B27,B28,B29,B30,B31,B32,A11,B33,XM,B35,B36,A12⟩:=T4
  refine dr [(7,true),(8,true),(9,false),(10,false)] [(11, .agg (QV x v5 v6 v7 v9).toArray),(12, .agg (QV nd v1 v2 v3 v4).toArray),(14,v9),(15,Zu p2),(16, .agg (QV x1 v10 v11 v12 v13).toArray)] S3 ⟨fun _ hSw=>Zc hSw C1 (QV x v5 v6 v7 v9) Zg V V V V V <| nu V V,fun _ hSw=>Zs hSw 1 _ _ _ 0 (QV nd v1 v2 v3 v4) V V V Zg V V V <| nu V V,fun _ hSw=>Za hSw (YC.drop 15 C1) ZX V V V <| nu V V,fun _=>Zf 0 W1 ZS Zg V V V V <| nu V V,fun _ hSw=>Zc hSw C2 (QV x1 v10 v11 v12 v13) Zg V V V V V <| nu V V,trivial⟩ (fun w4 S4=>?_)
  refine Zv S4 XR V V V (ih S4.imm nd x1 l _ (Zd nd B1 B2 (A1.mono L1) (A2.mono L1) B3 B4 B5 B6 B7 ZK (A3.mono L1) hb9 Z9 Z7 Z6 (A4.mono L1)) _ (Zd x1 X6 B26 A9 A10 B27 B28 B29 B30 B31 B32 A11 B33 XM B35 B36 A12) _ (hvl.mono L1) hgs (Yp hn (List.mem_of_getElem? ‹_›)) (hw.kid (List.mem_of_getElem? ‹_›)) (by exact hb)) (fun w5 G2 r1 P1 S5 L2=>?_)
  obtain ⟨D2,rfl,R2⟩:=P1
  have T5:=Ze R2
  obtain ⟨v14,v15,v16,v17,rfl,B37,B38,A13,A14,Qj,Qk,XN,Qo,Zac,Q5,A15,Zad,Qt,QJ,Zav,A16⟩:=T5
  refine ⟨S5.down S4.le L2,?_⟩
  refine WL.buildSlice _ [(0,(QV (Zp l nd x1) v14 v15 v16 v17))] (QV (Zp l nd x1) v14 v15 v16 v17) S5 YL V V V V (fun z hz=>by match z,hz with | [z0,z1,z2,z3,z4,z5,z6,z7,z8,z9,z10,z11,z12,z13,z14,z15],_=>rfl) (fun b3 w6 N3 S6=>?_)
  refine ⟨S6.tail.down S4.le L2,?_⟩
  have T6:=St.sealSl (E:=QryE) (by_:=224) (l:=([(Zp l nd x1)] : List Query)) S6 N3 ⟨(QV (Zp l nd x1) v14 v15 v16 v17),_,V,(Zd (Zp l nd x1) B37 B38 A13 A14 Qj Qk XN Qo Zac Q5 A15 Zad Qt QJ Zav A16),V⟩ V (by simp [reach]) (by simp [reach])
  obtain ⟨G3,L3,A17,S7⟩:=T6
  have j1:=((L1.trans L2).trans L3)
  refine Zv S7 Xj V V V (Xm S7.imm x [(Zp l nd x1)] _ (Zd x ZV Ye (A5.mono j1) (A6.mono j1) Yd B16 B17 Yf B19 B20 (A7.mono j1) B21 B22 B23 B24 (A8.mono j1)) _ A17) (fun w7 G4 r2 P2 S8 L4=>?_)
  obtain ⟨D3,rfl,R3⟩:=P2
  have T7:=Ze R3
  obtain ⟨v18,v19,v20,v21,rfl,Zaw,QK,A18,A19,Zax,QL,ZaT,B54,ZaU,Zay,A20,ZaB,Zbg,Zbh,Zbi,A21⟩:=T7
  refine WL.store S8 0 _ _ _ 0 _ (QV (Zk x [(Zp l nd x1)]) v18 v19 v20 v21) (QV (Zk x [(Zp l nd x1)]) v18 v19 v20 v21) _ V V Zg V (ZN V) (by simp only [ZW,A18.oneC,A19.oneC,A20.oneC,A21.oneC] <;> rfl) V V V V V (fun w9 S9=>?_)
  exact YD [.agg (QV (Zk x [(Zp l nd x1)]) v18 v19 v20 v21).toArray] S9 ⟨_,_,_,V,V,S9.loadA 0 _ _ _ 0 (QV (Zk x [(Zp l nd x1)]) v18 v19 v20 v21) V V V Zg V,V⟩ (Is.cast ⟨_,V,(Zd (Zk x [(Zp l nd x1)]) Zaw QK A18 A19 Zax QL ZaT B54 ZaU Zay A20 ZaB Zbg Zbh Zbi A21)⟩ (by with_reducible exact Zmm ‹_› ‹_›))
 refine Zj x.kind 4 V V V (fun h2=>?_) (fun h2=>?_)
 ·refine Zs S3 1 _ _ _ 4 (CV nd.cond v3) V V V Z5 V V V <| Zc S3 C1 (QV x v5 v6 v7 v9) Zg V V V V V ?_
  refine Zv S3 Zas V V V (Zqw (Yu nd.cond) S3.imm nd.cond x _ (ZJ nd.cond B3 B4 B5 B6 B7 ZK (A3.mono L1)) _ (Zd x ZV Ye (A5.mono L1) (A6.mono L1) Yd B16 B17 Yf B19 B20 (A7.mono L1) B21 B22 B23 B24 (A8.mono L1)) (Qn _) (hw.node.2.2.1 ‹_›)) (fun w10 G5 r3 P3 S10 L5=>?_)
  obtain ⟨D4,rfl,R4⟩:=P3
  have T8:=ZO R4
  obtain ⟨v22,rfl,B61,B62,B63,B64,B65,B66,A22⟩:=T8
  refine WL.store S10 1 _ _ _ 4 _ (CV (Zz (Yu nd.cond) nd.cond x) v22) [U nd.kind,Zb nd.table,v1,v2,U ((Zz (Yu nd.cond) nd.cond x).kind),Zb ((Zz (Yu nd.cond) nd.cond x).col),Zb ((Zz (Yu nd.cond) nd.cond x).oth),U ((Zz (Yu nd.cond) nd.cond x).v.k),U ((Zz (Yu nd.cond) nd.cond x).v.n),Zb ((Zz (Yu nd.cond) nd.cond x).v.s),v22,U nd.rel,U nd.fn,U nd.span.a,U nd.span.b,v4] _ V V Z5 V (ZN V) (by simp only [ZW,A22.oneC] <;> rfl) V V V V V (fun w11 S11=>?_)
  have j2:=(L1.trans L5)
  have T9:=Sl.at (A8.mono j2) 0 (by (have:=har.1 (by omega); omega))
  obtain ⟨p3,x2,U2,E2,W2⟩:=T9
  obtain ⟨D5,C3,R5⟩:=E2
  have T10:=Ze R5
  obtain ⟨v23,v24,v25,v26,rfl,B67,B68,A23,A24,B69,B70,B71,B72,B73,B74,A25,B75,B76,B77,Zae,A26⟩:=T10
  refine dr [(7,true),(8,true),(9,false),(10,false)] [(28, .agg (QV x v5 v6 v7 v9).toArray),(29, .agg #[U nd.kind,Zb nd.table,v1,v2,U ((Zz (Yu nd.cond) nd.cond x).kind),Zb ((Zz (Yu nd.cond) nd.cond x).col),Zb ((Zz (Yu nd.cond) nd.cond x).oth),U ((Zz (Yu nd.cond) nd.cond x).v.k),U ((Zz (Yu nd.cond) nd.cond x).v.n),Zb ((Zz (Yu nd.cond) nd.cond x).v.s),v22,U nd.rel,U nd.fn,U nd.span.a,U nd.span.b,v4]),(31,v9),(32,Zu p3),(33, .agg (QV x2 v23 v24 v25 v26).toArray)] S11 ⟨fun _ hSw=>Zc hSw (C1.mono L5) (QV x v5 v6 v7 v9) Zg V V V V V <| nu V V,fun _ hSw=>Zs hSw 1 _ _ _ 0 [U nd.kind,Zb nd.table,v1,v2,U ((Zz (Yu nd.cond) nd.cond x).kind),Zb ((Zz (Yu nd.cond) nd.cond x).col),Zb ((Zz (Yu nd.cond) nd.cond x).oth),U ((Zz (Yu nd.cond) nd.cond x).v.k),U ((Zz (Yu nd.cond) nd.cond x).v.n),Zb ((Zz (Yu nd.cond) nd.cond x).v.s),v22,U nd.rel,U nd.fn,U nd.span.a,U nd.span.b,v4] V V V Zg V V V <| nu V V,fun _ hSw=>Za hSw (YC.drop 15 (C1.mono L5)) ZX V V V <| nu V V,fun _=>Zf 0 W2 ZS Zg V V V V <| nu V V,fun _ hSw=>Zc hSw C3 (QV x2 v23 v24 v25 v26) Zg V V V V V <| nu V V,trivial⟩ (fun w12 S12=>?_)
  refine Zv S12 XR V V V (ih S12.imm (Query.mk nd.kind nd.table nd.cols nd.names (Zz (Yu nd.cond) nd.cond x) nd.rel nd.fn nd.span nd.l) x2 l _ (Zd (Query.mk nd.kind nd.table nd.cols nd.names (Zz (Yu nd.cond) nd.cond x) nd.rel nd.fn nd.span nd.l) B1 B2 (A1.mono j2) (A2.mono j2) B61 B62 B63 B64 B65 B66 A22 hb9 Z9 Z7 Z6 (A4.mono j2)) _ (Zd x2 B67 B68 A23 A24 B69 B70 B71 B72 B73 B74 A25 B75 B76 B77 Zae A26) _ (hvl.mono j2) hgs (Yp hn (List.mem_of_getElem? ‹_›)) (hw.kid (List.mem_of_getElem? ‹_›)) (by exact ZgS hb)) (fun w13 G6 r4 P4 S13 L6=>?_)
  obtain ⟨D6,rfl,R6⟩:=P4
  have T11:=Ze R6
  obtain ⟨v27,v28,v29,v30,rfl,B79,B80,A27,A28,B81,B82,B83,ZaC,B85,ZaV,A29,B87,B88,B89,B90,A30⟩:=T11
  refine ⟨S13.down S12.le L6,?_⟩
  refine WL.buildSlice _ [(0,(QV (Zp l (Query.mk nd.kind nd.table nd.cols nd.names (Zz (Yu nd.cond) nd.cond x) nd.rel nd.fn nd.span nd.l) x2) v27 v28 v29 v30))] (QV (Zp l (Query.mk nd.kind nd.table nd.cols nd.names (Zz (Yu nd.cond) nd.cond x) nd.rel nd.fn nd.span nd.l) x2) v27 v28 v29 v30) S13 YL V V V V (fun z hz=>by match z,hz with | [z0,z1,z2,z3,z4,z5,z6,z7,z8,z9,z10,z11,z12,z13,z14,z15],_=>rfl) (fun b4 w14 N4 S14=>?_)
  refine ⟨S14.tail.down S12.le L6,?_⟩
  have T12:=St.sealSl (E:=QryE) (by_:=224) (l:=([(Zp l (Query.mk nd.kind nd.table nd.cols nd.names (Zz (Yu nd.cond) nd.cond x) nd.rel nd.fn nd.span nd.l) x2)] : List Query)) S14 N4 ⟨(QV (Zp l (Query.mk nd.kind nd.table nd.cols nd.names (Zz (Yu nd.cond) nd.cond x) nd.rel nd.fn nd.span nd.l) x2) v27 v28 v29 v30),_,V,(Zd (Zp l (Query.mk nd.kind nd.table nd.cols nd.names (Zz (Yu nd.cond) nd.cond x) nd.rel nd.fn nd.span nd.l) x2) B79 B80 A27 A28 B81 B82 B83 ZaC B85 ZaV A29 B87 B88 B89 B90 A30),V⟩ V (by simp [reach]) (by simp [reach])
  obtain ⟨G7,L7,A31,S15⟩:=T12
  have j3:=((j2.trans L6).trans L7)
  refine Zv S15 Xj V V V (Xm S15.imm x [(Zp l (Query.mk nd.kind nd.table nd.cols nd.names (Zz (Yu nd.cond) nd.cond x) nd.rel nd.fn nd.span nd.l) x2)] _ (Zd x ZV Ye (A5.mono j3) (A6.mono j3) Yd B16 B17 Yf B19 B20 (A7.mono j3) B21 B22 B23 B24 (A8.mono j3)) _ A31) (fun w15 G9 r5 P5 S16 L9=>?_)
  obtain ⟨D7,rfl,R7⟩:=P5
  have T13:=Ze R7
  obtain ⟨v31,v32,v33,v34,rfl,B91,B92,A32,A33,B93,B94,B95,B96,B97,B98,A34,B99,QA,ZaD,B102,A35⟩:=T13
  refine WL.store S16 0 _ _ _ 0 _ (QV (Zk x [(Zp l (Query.mk nd.kind nd.table nd.cols nd.names (Zz (Yu nd.cond) nd.cond x) nd.rel nd.fn nd.span nd.l) x2)]) v31 v32 v33 v34) (QV (Zk x [(Zp l (Query.mk nd.kind nd.table nd.cols nd.names (Zz (Yu nd.cond) nd.cond x) nd.rel nd.fn nd.span nd.l) x2)]) v31 v32 v33 v34) _ V V Zg V (ZN V) (by simp only [ZW,A32.oneC,A33.oneC,A34.oneC,A35.oneC] <;> rfl) V V V V V (fun w16 S17=>?_)
  exact YD [.agg (QV (Zk x [(Zp l (Query.mk nd.kind nd.table nd.cols nd.names (Zz (Yu nd.cond) nd.cond x) nd.rel nd.fn nd.span nd.l) x2)]) v31 v32 v33 v34).toArray] S17 ⟨_,_,_,V,V,S17.loadA 0 _ _ _ 0 (QV (Zk x [(Zp l (Query.mk nd.kind nd.table nd.cols nd.names (Zz (Yu nd.cond) nd.cond x) nd.rel nd.fn nd.span nd.l) x2)]) v31 v32 v33 v34) V V V Zg V,V⟩ (Is.cast ⟨_,V,(Zd (Zk x [(Zp l (Query.mk nd.kind nd.table nd.cols nd.names (Zz (Yu nd.cond) nd.cond x) nd.rel nd.fn nd.span nd.l) x2)]) B91 B92 A32 A33 B93 B94 B95 B96 B97 B98 A34 B99 QA ZaD B102 A35)⟩ (by with_reducible exact Zmo ‹_› ‹_›))
 refine Zj x.kind 6 V V V (fun h3=>?_) (fun h3=>?_)
 ·have T14:=Sl.at (A8.mono L1) 0 (by (have:=har.2 (by omega); omega))
  obtain ⟨p4,x3,U3,E3,W3⟩:=T14
  obtain ⟨D8,C4,R8⟩:=E3
  have T15:=Ze R8
  obtain ⟨v35,v36,v37,v38,rfl,B103,B104,A36,A37,XV,ZaE,XQ,Xi,QB,Zal,A38,QS,Zam,Zan,ZaF,A39⟩:=T15
  have T16:=Sl.at (A8.mono L1) 1 (by (have:=har.2 (by omega); omega))
  obtain ⟨p5,x4,U4,E4,W4⟩:=T16
  obtain ⟨D9,C5,R9⟩:=E4
  have T17:=Ze R9
  obtain ⟨v39,v40,v41,v42,rfl,Zao,ZaG,A40,A41,XW,ZaH,QT,Zap,Zaq,ZaI,A42,ZaJ,Zbt,Zbu,Qm,A43⟩:=T17
  refine dr [(7,true),(14,true),(15,true),(16,false),(17,false)] [(41, .agg (QV x v5 v6 v7 v9).toArray),(42, .agg (QV nd v1 v2 v3 v4).toArray),(44,v9),(45,Zu p4),(46, .agg (QV x3 v35 v36 v37 v38).toArray),(49, .agg (QV nd v1 v2 v3 v4).toArray),(51,v9),(52,Zu p5),(53, .agg (QV x4 v39 v40 v41 v42).toArray)] S3 ⟨fun _ hSw=>Zc hSw C1 (QV x v5 v6 v7 v9) Zg V V V V V <| nu V V,fun _ hSw=>Zs hSw 1 _ _ _ 0 (QV nd v1 v2 v3 v4) V V V Zg V V V <| nu V V,fun _ hSw=>Za hSw (YC.drop 15 C1) ZX V V V <| nu V V,fun _=>Zf 0 W3 ZS Zg V V V V <| nu V V,fun _ hSw=>Zc hSw C4 (QV x3 v35 v36 v37 v38) Zg V V V V V <| nu V V,fun _ hSw=>Zs hSw 1 _ _ _ 0 (QV nd v1 v2 v3 v4) V V V Zg V V V <| nu V V,fun _ hSw=>Za hSw (YC.drop 15 C1) ZX V V V <| nu V V,fun _=>Zf 1 W4 ZS Zg V V V V <| nu V V,fun _ hSw=>Zc hSw C5 (QV x4 v39 v40 v41 v42) Zg V V V V V <| nu V V,trivial⟩ (fun w17 S18=>?_)
  refine Zv S18 XR V V V (ih S18.imm nd x3 l _ (Zd nd B1 B2 (A1.mono L1) (A2.mono L1) B3 B4 B5 B6 B7 ZK (A3.mono L1) hb9 Z9 Z7 Z6 (A4.mono L1)) _ (Zd x3 B103 B104 A36 A37 XV ZaE XQ Xi QB Zal A38 QS Zam Zan ZaF A39) _ (hvl.mono L1) hgs (Yp hn (List.mem_of_getElem? ‹_›)) (hw.kid (List.mem_of_getElem? ‹_›)) (by exact hb)) (fun w18 G10 r6 P6 S19 L10=>?_)
  obtain ⟨D10,rfl,R10⟩:=P6
  have T18:=Ze R10
  obtain ⟨v43,v44,v45,v46,rfl,QU,Zbv,A44,A45,ZbD,Zcb,Zcc,Zcd,B135,B136,A46,B137,B138,B139,B140,A47⟩:=T18
  refine ⟨S19.down S18.le L10,?_⟩
  have j4:=(L1.trans L10)
  refine Zv S19 XR V V V (ih S19.imm nd x4 l _ (Zd nd B1 B2 (A1.mono j4) (A2.mono j4) B3 B4 B5 B6 B7 ZK (A3.mono j4) hb9 Z9 Z7 Z6 (A4.mono j4)) _ (Zd x4 Zao ZaG (A40.mono L10) (A41.mono L10) XW ZaH QT Zap Zaq ZaI (A42.mono L10) ZaJ Zbt Zbu Qm (A43.mono L10)) _ (hvl.mono j4) hgs (Yp hn (List.mem_of_getElem? ‹_›)) (hw.kid (List.mem_of_getElem? ‹_›)) (by exact hb)) (fun w19 G11 r7 P7 S20 L11=>?_)
  obtain ⟨D11,rfl,R11⟩:=P7
  have T19:=Ze R11
  obtain ⟨v47,v48,v49,v50,rfl,B141,B142,A48,A49,B143,B144,B145,B146,B147,Zdh,A50,B149,B150,B151,B152,A51⟩:=T19
  have j5:=(L10.trans L11)
  refine ⟨S20.down S18.le j5,?_⟩
  refine WL.buildSlice _ [(0,(QV (Zp l nd x3) v43 v44 v45 v46)),(1,(QV (Zp l nd x4) v47 v48 v49 v50))] (QX (Zp l nd x3) v43 v44 v45 v46 (Zp l nd x4) v47 v48 v49 v50) S20 YL V V V V (fun z hz=>by match z,hz with | [z0,z1,z2,z3,z4,z5,z6,z7,z8,z9,z10,z11,z12,z13,z14,z15,z16,z17,z18,z19,z20,z21,z22,z23,z24,z25,z26,z27,z28,z29,z30,z31],_=>rfl) (fun b5 w20 N5 S21=>?_)
  refine ⟨S21.tail.down S18.le j5,?_⟩
  have T20:=St.sealSl (E:=QryE) (by_:=224) (l:=([(Zp l nd x3),(Zp l nd x4)] : List Query)) S21 N5 ⟨(QV (Zp l nd x3) v43 v44 v45 v46),_,V,(Zd (Zp l nd x3) QU Zbv (A44.mono L11) (A45.mono L11) ZbD Zcb Zcc Zcd B135 B136 (A46.mono L11) B137 B138 B139 B140 (A47.mono L11)),⟨(QV (Zp l nd x4) v47 v48 v49 v50),_,V,(Zd (Zp l nd x4) B141 B142 A48 A49 B143 B144 B145 B146 B147 Zdh A50 B149 B150 B151 B152 A51),V⟩⟩ V (by simp [reach]) (by simp [reach])
  obtain ⟨G12,L12,A52,S22⟩:=T20
  have j6:=((j4.trans L11).trans L12)
  refine Zv S22 Xj V V V (Xm S22.imm x [(Zp l nd x3),(Zp l nd x4)] _ (Zd x ZV Ye (A5.mono j6) (A6.mono j6) Yd B16 B17 Yf B19 B20 (A7.mono j6) B21 B22 B23 B24 (A8.mono j6)) _ A52) (fun w21 G13 r8 P8 S23 L13=>?_)
  obtain ⟨D12,rfl,R12⟩:=P8
  have T21:=Ze R12
  obtain ⟨v51,v52,v53,v54,rfl,B153,B154,A53,A54,B155,B156,Zeg,Zeh,Zar,Zei,A55,Zej,Zek,Zdi,B164,A56⟩:=T21
  refine WL.store S23 0 _ _ _ 0 _ (QV (Zk x [(Zp l nd x3),(Zp l nd x4)]) v51 v52 v53 v54) (QV (Zk x [(Zp l nd x3),(Zp l nd x4)]) v51 v52 v53 v54) _ V V Zg V (ZN V) (by simp only [ZW,A53.oneC,A54.oneC,A55.oneC,A56.oneC] <;> rfl) V V V V V (fun w22 S24=>?_)
  exact YD [.agg (QV (Zk x [(Zp l nd x3),(Zp l nd x4)]) v51 v52 v53 v54).toArray] S24 ⟨_,_,_,V,V,S24.loadA 0 _ _ _ 0 (QV (Zk x [(Zp l nd x3),(Zp l nd x4)]) v51 v52 v53 v54) V V V Zg V,V⟩ (Is.cast ⟨_,V,(Zd (Zk x [(Zp l nd x3),(Zp l nd x4)]) B153 B154 A53 A54 B155 B156 Zeg Zeh Zar Zei A55 Zej Zek Zdi B164 A56)⟩ (by with_reducible exact Zid (by omega) (by assumption : x.l[0]? = some _) (by assumption : x.l[1]? = some _)))
 refine Zj x.kind 7 V V V (fun h4=>?_) (fun h4=>?_)
 ·have T22:=Sl.at (A8.mono L1) 0 (by (have:=har.2 (by omega); omega))
  obtain ⟨p6,x5,U5,E5,W5⟩:=T22
  obtain ⟨D13,C6,R13⟩:=E5
  have T23:=Ze R13
  obtain ⟨v55,v56,v57,v58,rfl,B165,B166,A57,A58,Zel,B168,B169,B170,B171,B172,A59,B173,B174,B175,B176,A60⟩:=T23
  have T24:=Sl.at (A8.mono L1) 1 (by (have:=har.2 (by omega); omega))
  obtain ⟨p7,x6,U6,E6,W6⟩:=T24
  obtain ⟨D14,C7,R14⟩:=E6
  have T25:=Ze R14
  obtain ⟨v59,v60,v61,v62,rfl,B177,B178,A61,A62,B179,B180,B181,B182,B183,B184,A63,B185,B186,B187,B188,A64⟩:=T25
  refine dr [(7,true),(14,true),(15,true),(16,false),(17,false)] [(41, .agg (QV x v5 v6 v7 v9).toArray),(42, .agg (QV nd v1 v2 v3 v4).toArray),(44,v9),(45,Zu p6),(46, .agg (QV x5 v55 v56 v57 v58).toArray),(49, .agg (QV nd v1 v2 v3 v4).toArray),(51,v9),(52,Zu p7),(53, .agg (QV x6 v59 v60 v61 v62).toArray)] S3 ⟨fun _ hSw=>Zc hSw C1 (QV x v5 v6 v7 v9) Zg V V V V V <| nu V V,fun _ hSw=>Zs hSw 1 _ _ _ 0 (QV nd v1 v2 v3 v4) V V V Zg V V V <| nu V V,fun _ hSw=>Za hSw (YC.drop 15 C1) ZX V V V <| nu V V,fun _=>Zf 0 W5 ZS Zg V V V V <| nu V V,fun _ hSw=>Zc hSw C6 (QV x5 v55 v56 v57 v58) Zg V V V V V <| nu V V,fun _ hSw=>Zs hSw 1 _ _ _ 0 (QV nd v1 v2 v3 v4) V V V Zg V V V <| nu V V,fun _ hSw=>Za hSw (YC.drop 15 C1) ZX V V V <| nu V V,fun _=>Zf 1 W6 ZS Zg V V V V <| nu V V,fun _ hSw=>Zc hSw C7 (QV x6 v59 v60 v61 v62) Zg V V V V V <| nu V V,trivial⟩ (fun w23 S25=>?_)
  refine Zv S25 XR V V V (ih S25.imm nd x5 l _ (Zd nd B1 B2 (A1.mono L1) (A2.mono L1) B3 B4 B5 B6 B7 ZK (A3.mono L1) hb9 Z9 Z7 Z6 (A4.mono L1)) _ (Zd x5 B165 B166 A57 A58 Zel B168 B169 B170 B171 B172 A59 B173 B174 B175 B176 A60) _ (hvl.mono L1) hgs (Yp hn (List.mem_of_getElem? ‹_›)) (hw.kid (List.mem_of_getElem? ‹_›)) (by exact hb)) (fun w24 G14 r9 P9 S26 L14=>?_)
  obtain ⟨D15,rfl,R15⟩:=P9
  have T26:=Ze R15
  obtain ⟨v63,v64,v65,v66,rfl,B189,B190,A65,A66,B191,B192,B193,B194,B195,B196,A67,B197,B198,B199,Zem,A68⟩:=T26
  refine ⟨S26.down S25.le L14,?_⟩
  have j7:=(L1.trans L14)
  refine Zv S26 XR V V V (ih S26.imm nd x6 l _ (Zd nd B1 B2 (A1.mono j7) (A2.mono j7) B3 B4 B5 B6 B7 ZK (A3.mono j7) hb9 Z9 Z7 Z6 (A4.mono j7)) _ (Zd x6 B177 B178 (A61.mono L14) (A62.mono L14) B179 B180 B181 B182 B183 B184 (A63.mono L14) B185 B186 B187 B188 (A64.mono L14)) _ (hvl.mono j7) hgs (Yp hn (List.mem_of_getElem? ‹_›)) (hw.kid (List.mem_of_getElem? ‹_›)) (by exact hb)) (fun w25 G15 r10 P10 S27 L15=>?_)
  obtain ⟨D16,rfl,R16⟩:=P10
  have T27:=Ze R16
  obtain ⟨v67,v68,v69,v70,rfl,B201,B202,A69,A70,Zen,Zce,Zc4,Zdj,Zc5,Zdk,A71,Zdl,Zcf,Zcg,Zdm,A72⟩:=T27
  have j8:=(L14.trans L15)
  refine ⟨S27.down S25.le j8,?_⟩
  refine WL.buildSlice _ [(0,(QV (Zp l nd x5) v63 v64 v65 v66)),(1,(QV (Zp l nd x6) v67 v68 v69 v70))] (QX (Zp l nd x5) v63 v64 v65 v66 (Zp l nd x6) v67 v68 v69 v70) S27 YL V V V V (fun z hz=>by match z,hz with | [z0,z1,z2,z3,z4,z5,z6,z7,z8,z9,z10,z11,z12,z13,z14,z15,z16,z17,z18,z19,z20,z21,z22,z23,z24,z25,z26,z27,z28,z29,z30,z31],_=>rfl) (fun b6 w26 N6 S28=>?_)
  refine ⟨S28.tail.down S25.le j8,?_⟩
  have T28:=St.sealSl (E:=QryE) (by_:=224) (l:=([(Zp l nd x5),(Zp l nd x6)] : List Query)) S28 N6 ⟨(QV (Zp l nd x5) v63 v64 v65 v66),_,V,(Zd (Zp l nd x5) B189 B190 (A65.mono L15) (A66.mono L15) B191 B192 B193 B194 B195 B196 (A67.mono L15) B197 B198 B199 Zem (A68.mono L15)),⟨(QV (Zp l nd x6) v67 v68 v69 v70),_,V,(Zd (Zp l nd x6) B201 B202 A69 A70 Zen Zce Zc4 Zdj Zc5 Zdk A71 Zdl Zcf Zcg Zdm A72),V⟩⟩ V (by simp [reach]) (by simp [reach])
  obtain ⟨G16,L16,A73,S29⟩:=T28
  have j9:=((j7.trans L15).trans L16)
  refine Zv S29 Xj V V V (Xm S29.imm x [(Zp l nd x5),(Zp l nd x6)] _ (Zd x ZV Ye (A5.mono j9) (A6.mono j9) Yd B16 B17 Yf B19 B20 (A7.mono j9) B21 B22 B23 B24 (A8.mono j9)) _ A73) (fun w27 G17 r11 P11 S30 L17=>?_)
  obtain ⟨D17,rfl,R17⟩:=P11
  have T29:=Ze R17
  obtain ⟨v71,v72,v73,v74,rfl,Zch,QY,A74,A75,Zc6,Qv,ZbE,Zdn,Zc8,Zc9,A76,ZcA,Zdo,ZcB,B227,A77⟩:=T29
  refine WL.store S30 0 _ _ _ 0 _ (QV (Zk x [(Zp l nd x5),(Zp l nd x6)]) v71 v72 v73 v74) (QV (Zk x [(Zp l nd x5),(Zp l nd x6)]) v71 v72 v73 v74) _ V V Zg V (ZN V) (by simp only [ZW,A74.oneC,A75.oneC,A76.oneC,A77.oneC] <;> rfl) V V V V V (fun w28 S31=>?_)
  exact YD [.agg (QV (Zk x [(Zp l nd x5),(Zp l nd x6)]) v71 v72 v73 v74).toArray] S31 ⟨_,_,_,V,V,S31.loadA 0 _ _ _ 0 (QV (Zk x [(Zp l nd x5),(Zp l nd x6)]) v71 v72 v73 v74) V V V Zg V,V⟩ (Is.cast ⟨_,V,(Zd (Zk x [(Zp l nd x5),(Zp l nd x6)]) Zch QY A74 A75 Zc6 Qv ZbE Zdn Zc8 Zc9 A76 ZcA Zdo ZcB B227 A77)⟩ (by with_reducible exact Zid (by omega) (by assumption : x.l[0]? = some _) (by assumption : x.l[1]? = some _)))
 refine Zj x.kind 9 V V V (fun h5=>?_) (fun h5=>?_)
 ·refine Zs S3 1 _ _ _ 4 (CV nd.cond v3) V V V Z5 V V V <| Za S3 (YC.drop 2 C1) ZU V V V ?_
  refine Zw S3 Zci V V V (ZcW S3.imm (Yu nd.cond) nd.cond x.cols _ (ZJ nd.cond B3 B4 B5 B6 B7 ZK (A3.mono L1)) _ (A5.mono L1) (Qn _) hb) (fun w29 G18 S32 L18=>?_)
  refine WL.split (fun (h6 : (Qq (Yu nd.cond) nd.cond x.cols) = true)=>?_) (fun (h6 : (Qq (Yu nd.cond) nd.cond x.cols) = false)=>?_)
  ·have j10:=(L1.trans L18)
   have T30:=Sl.at (A8.mono j10) 0 (by (have:=har.1 (by omega); omega))
   obtain ⟨p8,x7,U7,E7,W7⟩:=T30
   obtain ⟨D18,C8,R18⟩:=E7
   have T31:=Ze R18
   obtain ⟨v75,v76,v77,v78,rfl,B228,B229,A78,A79,B230,B231,B232,B233,B234,B235,A80,B236,B237,B238,B239,A81⟩:=T31
   refine dr [(7,true),(8,true),(9,false),(10,false)] [(65, .agg (QV x v5 v6 v7 v9).toArray),(66, .agg (QV nd v1 v2 v3 v4).toArray),(68,v9),(69,Zu p8),(70, .agg (QV x7 v75 v76 v77 v78).toArray)] S32 ⟨fun _ hSw=>Zc hSw (C1.mono L18) (QV x v5 v6 v7 v9) Zg V V V V V <| nu V V,fun _ hSw=>Zs hSw 1 _ _ _ 0 (QV nd v1 v2 v3 v4) V V V Zg V V V <| nu V V,fun _ hSw=>Za hSw (YC.drop 15 (C1.mono L18)) ZX V V V <| nu V V,fun _=>Zf 0 W7 ZS Zg V V V V <| nu V V,fun _ hSw=>Zc hSw C8 (QV x7 v75 v76 v77 v78) Zg V V V V V <| nu V V,trivial⟩ (fun w30 S33=>?_)
   refine Zv S33 XR V V V (ih S33.imm nd x7 l _ (Zd nd B1 B2 (A1.mono j10) (A2.mono j10) B3 B4 B5 B6 B7 ZK (A3.mono j10) hb9 Z9 Z7 Z6 (A4.mono j10)) _ (Zd x7 B228 B229 A78 A79 B230 B231 B232 B233 B234 B235 A80 B236 B237 B238 B239 A81) _ (hvl.mono j10) hgs (Yp hn (List.mem_of_getElem? ‹_›)) (hw.kid (List.mem_of_getElem? ‹_›)) (by exact hb)) (fun w31 G19 r12 P12 S34 L19=>?_)
   obtain ⟨D19,rfl,R19⟩:=P12
   have T32:=Ze R19
   obtain ⟨v79,v80,v81,v82,rfl,QZ,QC,A82,A83,Zdp,Zcj,B244,B245,B246,B247,A84,B248,B249,Zeo,Zdq,A85⟩:=T32
   refine ⟨S34.down S33.le L19,?_⟩
   refine WL.buildSlice _ [(0,(QV (Zp l nd x7) v79 v80 v81 v82))] (QV (Zp l nd x7) v79 v80 v81 v82) S34 YL V V V V (fun z hz=>by match z,hz with | [z0,z1,z2,z3,z4,z5,z6,z7,z8,z9,z10,z11,z12,z13,z14,z15],_=>rfl) (fun b7 w32 N7 S35=>?_)
   refine ⟨S35.tail.down S33.le L19,?_⟩
   have T33:=St.sealSl (E:=QryE) (by_:=224) (l:=([(Zp l nd x7)] : List Query)) S35 N7 ⟨(QV (Zp l nd x7) v79 v80 v81 v82),_,V,(Zd (Zp l nd x7) QZ QC A82 A83 Zdp Zcj B244 B245 B246 B247 A84 B248 B249 Zeo Zdq A85),V⟩ V (by simp [reach]) (by simp [reach])
   obtain ⟨G20,L20,A86,S36⟩:=T33
   have j11:=((j10.trans L19).trans L20)
   refine Zv S36 Xj V V V (Xm S36.imm x [(Zp l nd x7)] _ (Zd x ZV Ye (A5.mono j11) (A6.mono j11) Yd B16 B17 Yf B19 B20 (A7.mono j11) B21 B22 B23 B24 (A8.mono j11)) _ A86) (fun w33 G21 r13 P13 S37 L21=>?_)
   obtain ⟨D20,rfl,R20⟩:=P13
   have T34:=Ze R20
   obtain ⟨v83,v84,v85,v86,rfl,B252,B253,A87,A88,B254,Zep,B256,B257,B258,B259,A89,Zeq,Zer,B262,Zes,A90⟩:=T34
   refine WL.store S37 0 _ _ _ 0 _ (QV (Zk x [(Zp l nd x7)]) v83 v84 v85 v86) (QV (Zk x [(Zp l nd x7)]) v83 v84 v85 v86) _ V V Zg V (ZN V) (by simp only [ZW,A87.oneC,A88.oneC,A89.oneC,A90.oneC] <;> rfl) V V V V V (fun w34 S38=>?_)
   exact YD [.agg (QV (Zk x [(Zp l nd x7)]) v83 v84 v85 v86).toArray] S38 ⟨_,_,_,V,V,S38.loadA 0 _ _ _ 0 (QV (Zk x [(Zp l nd x7)]) v83 v84 v85 v86) V V V Zg V,V⟩ (Is.cast ⟨_,V,(Zd (Zk x [(Zp l nd x7)]) B252 B253 A87 A88 B254 Zep B256 B257 B258 B259 A89 Zeq Zer B262 Zes A90)⟩ (by with_reducible exact Zmn ‹_› ‹_› ‹_›))
  refine Zs S32 1 _ _ _ 0 (QV nd v1 v2 v3 v4) V V V Zg V V V <| Zc S32 (C1.mono L18) (QV x v5 v6 v7 v9) Zg V V V V V ?_
  refine WL.buildSlice _ [(0,(QV x v5 v6 v7 v9))] (QV x v5 v6 v7 v9) S32 YL V V V V (fun z hz=>by match z,hz with | [z0,z1,z2,z3,z4,z5,z6,z7,z8,z9,z10,z11,z12,z13,z14,z15],_=>rfl) (fun b8 w35 N8 S39=>?_)
  have j12:=(L1.trans L18)
  have T35:=St.sealSl (E:=QryE) (by_:=224) (l:=([x] : List Query)) S39 N8 ⟨(QV x v5 v6 v7 v9),_,V,(Zd x ZV Ye (A5.mono j12) (A6.mono j12) Yd B16 B17 Yf B19 B20 (A7.mono j12) B21 B22 B23 B24 (A8.mono j12)),V⟩ V (by simp [reach]) (by simp [reach])
  obtain ⟨G22,L22,A91,S40⟩:=T35
  have j13:=(j12.trans L22)
  refine Zv S40 Xj V V V (Xm S40.imm nd [x] _ (Zd nd B1 B2 (A1.mono j13) (A2.mono j13) B3 B4 B5 B6 B7 ZK (A3.mono j13) hb9 Z9 Z7 Z6 (A4.mono j13)) _ A91) (fun w36 G23 r14 P14 S41 L23=>?_)
  obtain ⟨D21,rfl,R21⟩:=P14
  have T36:=Ze R21
  obtain ⟨v87,v88,v89,v90,rfl,B264,Zet,A92,A93,Zeu,Zev,B268,B269,B270,B271,A94,B272,B273,B274,B275,A95⟩:=T36
  refine WL.store S41 0 _ _ _ 0 _ (QV (Zk nd [x]) v87 v88 v89 v90) (QV (Zk nd [x]) v87 v88 v89 v90) _ V V Zg V (ZN V) (by simp only [ZW,A92.oneC,A93.oneC,A94.oneC,A95.oneC] <;> rfl) V V V V V (fun w37 S42=>?_)
  exact YD [.agg (QV (Zk nd [x]) v87 v88 v89 v90).toArray] S42 ⟨_,_,_,V,V,S42.loadA 0 _ _ _ 0 (QV (Zk nd [x]) v87 v88 v89 v90) V V V Zg V,V⟩ (Is.cast ⟨_,V,(Zd (Zk nd [x]) B264 Zet A92 A93 Zeu Zev B268 B269 B270 B271 A94 B272 B273 B274 B275 A95)⟩ (by with_reducible exact Zmp ‹_› ‹_›))
 refine Zj x.kind 5 V V V (fun h7=>?_) (fun h7=>?_)
 ·have T37:=Sl.at (A8.mono L1) 0 (by (have:=har.2 (by omega); omega))
  obtain ⟨p9,x9,U8,E8,W8⟩:=T37
  obtain ⟨D22,C9,R22⟩:=E8
  have T38:=Ze R22
  obtain ⟨v91,v92,v93,v94,rfl,B276,B277,A96,A97,B278,B279,ZcC,B281,Zat,Zdr,A98,ZbF,Zds,ZcD,Qw,A99⟩:=T38
  refine dr [(7,true),(8,false)] [(79, .agg (CV nd.cond v3).toArray),(81,v9),(82,Zu p9),(83, .agg (QV x9 v91 v92 v93 v94).toArray)] S3 ⟨fun _ hSw=>Zs hSw 1 _ _ _ 4 (CV nd.cond v3) V V V Z5 V V V <| nu V V,fun _ hSw=>Za hSw (YC.drop 15 C1) ZX V V V <| nu V V,fun _=>Zf 0 W8 ZS Zg V V V V <| nu V V,fun _ hSw=>Zc hSw C9 (QV x9 v91 v92 v93 v94) Zg V V V V V <| nu V V,trivial⟩ (fun w38 S43=>?_)
  refine Zv S43 Zc7 V V V (Zd8 S43.imm (Yc x9) x9 l _ (Zd x9 B276 B277 A96 A97 B278 B279 ZcC B281 Zat Zdr A98 ZbF Zds ZcD Qw A99) _ (hvl.mono L1) hgs (YU _) (hw.kid (List.mem_of_getElem? ‹_›)).sm) (fun w39 G24 r15 P15 S44 L24=>?_)
  refine ⟨S44.down S43.le L24,?_⟩
  have j14:=(L1.trans L24)
  refine Zw S44 Zci V V V (ZcW S44.imm (Yu nd.cond) nd.cond ((ZP (Yc x9) x9 l).1.map Col.name) _ (ZJ nd.cond B3 B4 B5 B6 B7 ZK (A3.mono j14)) _ P15 (Qn _) hb) (fun w40 G25 S45 L25=>?_)
  refine WL.split (fun (h8 : (Qq (Yu nd.cond) nd.cond ((ZP (Yc x9) x9 l).1.map Col.name)) = true)=>?_) (fun (h8 : (Qq (Yu nd.cond) nd.cond ((ZP (Yc x9) x9 l).1.map Col.name)) = false)=>?_)
  ·have j15:=(j14.trans L25)
   have T39:=Sl.at (A8.mono j15) 0 (by (have:=har.2 (by omega); omega))
   obtain ⟨p10,x10,U9,E9,W9⟩:=T39
   have T40 : x9 = x10:=Option.some.inj (U8.symm.trans U9)
   obtain rfl:=T40
   obtain ⟨D23,C10,R23⟩:=E9
   have T41:=Ze R23
   obtain ⟨v95,v96,v97,v98,rfl,B288,ZcE,A100,A101,ZcF,Zbw,Zbx,ZbG,B294,B295,A102,B296,B297,B298,B299,A103⟩:=T41
   have T42:=Sl.at (A8.mono j15) 1 (by (have:=har.2 (by omega); omega))
   obtain ⟨p11,x11,U10,E10,W10⟩:=T42
   obtain ⟨D24,C11,R24⟩:=E10
   have T43:=Ze R24
   obtain ⟨v99,v100,v101,v102,rfl,B300,B301,A104,A105,B302,B303,B304,B305,B306,B307,A106,ZcG,Zdt,Zdu,Zba,A107⟩:=T43
   have j16:=(L24.trans L25)
   refine dr [(7,true),(12,true),(13,false),(14,false)] [(87, .agg (QV x v5 v6 v7 v9).toArray),(88, .agg (QV nd v1 v2 v3 v4).toArray),(90,v9),(91,Zu p10),(92, .agg (QV x9 v95 v96 v97 v98).toArray),(96,v9),(97,Zu p11),(98, .agg (QV x11 v99 v100 v101 v102).toArray)] S45 ⟨fun _ hSw=>Zc hSw (C1.mono j16) (QV x v5 v6 v7 v9) Zg V V V V V <| nu V V,fun _ hSw=>Zs hSw 1 _ _ _ 0 (QV nd v1 v2 v3 v4) V V V Zg V V V <| nu V V,fun _ hSw=>Za hSw (YC.drop 15 (C1.mono j16)) ZX V V V <| nu V V,fun _=>Zf 0 W9 ZS Zg V V V V <| nu V V,fun _ hSw=>Zc hSw C10 (QV x9 v95 v96 v97 v98) Zg V V V V V <| nu V V,fun _ hSw=>Za hSw (YC.drop 15 (C1.mono j16)) ZX V V V <| nu V V,fun _=>Zf 1 W10 ZS Zg V V V V <| nu V V,fun _ hSw=>Zc hSw C11 (QV x11 v99 v100 v101 v102) Zg V V V V V <| nu V V,trivial⟩ (fun w41 S46=>?_)
   refine Zv S46 XR V V V (ih S46.imm nd x9 l _ (Zd nd B1 B2 (A1.mono j15) (A2.mono j15) B3 B4 B5 B6 B7 ZK (A3.mono j15) hb9 Z9 Z7 Z6 (A4.mono j15)) _ (Zd x9 B288 ZcE A100 A101 ZcF Zbw Zbx ZbG B294 B295 A102 B296 B297 B298 B299 A103) _ (hvl.mono j15) hgs (Yp hn (List.mem_of_getElem? ‹_›)) (hw.kid (List.mem_of_getElem? ‹_›)) (by exact hb)) (fun w42 G26 r16 P16 S47 L26=>?_)
   obtain ⟨D25,rfl,R25⟩:=P16
   have T44:=Ze R25
   obtain ⟨v103,v104,v105,v106,rfl,B312,B313,A108,A109,B314,B315,B316,B317,B318,B319,A110,B320,B321,B322,Zew,A111⟩:=T44
   refine ⟨S47.down S46.le L26,?_⟩
   refine WL.buildSlice _ [(0,(QV (Zp l nd x9) v103 v104 v105 v106)),(1,(QV x11 v99 v100 v101 v102))] (QX (Zp l nd x9) v103 v104 v105 v106 x11 v99 v100 v101 v102) S47 YL V V V V (fun z hz=>by match z,hz with | [z0,z1,z2,z3,z4,z5,z6,z7,z8,z9,z10,z11,z12,z13,z14,z15,z16,z17,z18,z19,z20,z21,z22,z23,z24,z25,z26,z27,z28,z29,z30,z31],_=>rfl) (fun b9 w43 N9 S48=>?_)
   refine ⟨S48.tail.down S46.le L26,?_⟩
   have T45:=St.sealSl (E:=QryE) (by_:=224) (l:=([(Zp l nd x9),x11] : List Query)) S48 N9 ⟨(QV (Zp l nd x9) v103 v104 v105 v106),_,V,(Zd (Zp l nd x9) B312 B313 A108 A109 B314 B315 B316 B317 B318 B319 A110 B320 B321 B322 Zew A111),⟨(QV x11 v99 v100 v101 v102),_,V,(Zd x11 B300 B301 (A104.mono L26) (A105.mono L26) B302 B303 B304 B305 B306 B307 (A106.mono L26) ZcG Zdt Zdu Zba (A107.mono L26)),V⟩⟩ V (by simp [reach]) (by simp [reach])
   obtain ⟨G27,L27,A112,S49⟩:=T45
   have j17:=((j15.trans L26).trans L27)
   refine Zv S49 Xj V V V (Xm S49.imm x [(Zp l nd x9),x11] _ (Zd x ZV Ye (A5.mono j17) (A6.mono j17) Yd B16 B17 Yf B19 B20 (A7.mono j17) B21 B22 B23 B24 (A8.mono j17)) _ A112) (fun w44 G28 r17 P17 S50 L28=>?_)
   obtain ⟨D26,rfl,R26⟩:=P17
   have T46:=Ze R26
   obtain ⟨v107,v108,v109,v110,rfl,Zex,Zey,A113,A114,Zez,Ze0,Ze1,Ze2,B330,B331,A115,B332,B333,B334,B335,A116⟩:=T46
   refine WL.store S50 0 _ _ _ 0 _ (QV (Zk x [(Zp l nd x9),x11]) v107 v108 v109 v110) (QV (Zk x [(Zp l nd x9),x11]) v107 v108 v109 v110) _ V V Zg V (ZN V) (by simp only [ZW,A113.oneC,A114.oneC,A115.oneC,A116.oneC] <;> rfl) V V V V V (fun w45 S51=>?_)
   exact YD [.agg (QV (Zk x [(Zp l nd x9),x11]) v107 v108 v109 v110).toArray] S51 ⟨_,_,_,V,V,S51.loadA 0 _ _ _ 0 (QV (Zk x [(Zp l nd x9),x11]) v107 v108 v109 v110) V V V Zg V,V⟩ (Is.cast ⟨_,V,(Zd (Zk x [(Zp l nd x9),x11]) Zex Zey A113 A114 Zez Ze0 Ze1 Ze2 B330 B331 A115 B332 B333 B334 B335 A116)⟩ (by with_reducible exact Zie (by omega) (by assumption : x.l[0]? = some _) (by assumption : x.l[1]? = some _) ‹_›))
  have j18:=(j14.trans L25)
  have T47:=Sl.at (A8.mono j18) 1 (by (have:=har.2 (by omega); omega))
  obtain ⟨p12,x12,U11,E11,W11⟩:=T47
  obtain ⟨D27,C12,R27⟩:=E11
  have T48:=Ze R27
  obtain ⟨v111,v112,v113,v114,rfl,B336,B337,A117,A118,B338,ZcH,Zdv,ZcI,B342,ZcJ,A119,ZbH,Zdw,B346,B347,A120⟩:=T48
  have j19:=(L24.trans L25)
  refine dr [(7,true),(8,false)] [(102, .agg (CV nd.cond v3).toArray),(104,v9),(105,Zu p12),(106, .agg (QV x12 v111 v112 v113 v114).toArray)] S45 ⟨fun _ hSw=>Zs hSw 1 _ _ _ 4 (CV nd.cond v3) V V V Z5 V V V <| nu V V,fun _ hSw=>Za hSw (YC.drop 15 (C1.mono j19)) ZX V V V <| nu V V,fun _=>Zf 1 W11 ZS Zg V V V V <| nu V V,fun _ hSw=>Zc hSw C12 (QV x12 v111 v112 v113 v114) Zg V V V V V <| nu V V,trivial⟩ (fun w46 S52=>?_)
  refine Zv S52 Zc7 V V V (Zd8 S52.imm (Yc x12) x12 l _ (Zd x12 B336 B337 A117 A118 B338 ZcH Zdv ZcI B342 ZcJ A119 ZbH Zdw B346 B347 A120) _ (hvl.mono j18) hgs (YU _) (hw.kid (List.mem_of_getElem? ‹_›)).sm) (fun w47 G29 r18 P18 S53 L29=>?_)
  refine ⟨S53.down S52.le L29,?_⟩
  have j20:=(j18.trans L29)
  refine Zw S53 Zci V V V (ZcW S53.imm (Yu nd.cond) nd.cond ((ZP (Yc x12) x12 l).1.map Col.name) _ (ZJ nd.cond B3 B4 B5 B6 B7 ZK (A3.mono j20)) _ P18 (Qn _) hb) (fun w48 G30 S54 L30=>?_)
  refine WL.split (fun (h9 : (Qq (Yu nd.cond) nd.cond ((ZP (Yc x12) x12 l).1.map Col.name)) = true)=>?_) (fun (h9 : (Qq (Yu nd.cond) nd.cond ((ZP (Yc x12) x12 l).1.map Col.name)) = false)=>?_)
  ·have j21:=(j20.trans L30)
   have T49:=Sl.at (A8.mono j21) 0 (by (have:=har.2 (by omega); omega))
   obtain ⟨p13,x13,U12,E12,W12⟩:=T49
   have T50 : x9 = x13:=Option.some.inj (U8.symm.trans U12)
   obtain rfl:=T50
   obtain ⟨D28,C13,R28⟩:=E12
   have T51:=Ze R28
   obtain ⟨v115,v116,v117,v118,rfl,B348,B349,A121,A122,B350,B351,B352,B353,B354,B355,A123,B356,B357,B358,B359,A124⟩:=T51
   have T52:=Sl.at (A8.mono j21) 1 (by (have:=har.2 (by omega); omega))
   obtain ⟨p14,x14,U13,E13,W13⟩:=T52
   have T53 : x12 = x14:=Option.some.inj (U11.symm.trans U13)
   obtain rfl:=T53
   obtain ⟨D29,C14,R29⟩:=E13
   have T54:=Ze R29
   obtain ⟨v119,v120,v121,v122,rfl,B360,B361,A125,A126,B362,B363,B364,B365,B366,B367,A127,B368,B369,B370,B371,A128⟩:=T54
   have j22:=((j19.trans L29).trans L30)
   refine dr [(11,true),(12,true),(13,false),(14,false)] [(110, .agg (QV x v5 v6 v7 v9).toArray),(112,v9),(113,Zu p13),(114, .agg (QV x9 v115 v116 v117 v118).toArray),(115, .agg (QV nd v1 v2 v3 v4).toArray),(117,v9),(118,Zu p14),(119, .agg (QV x12 v119 v120 v121 v122).toArray)] S54 ⟨fun _ hSw=>Zc hSw (C1.mono j22) (QV x v5 v6 v7 v9) Zg V V V V V <| nu V V,fun _ hSw=>Za hSw (YC.drop 15 (C1.mono j22)) ZX V V V <| nu V V,fun _=>Zf 0 W12 ZS Zg V V V V <| nu V V,fun _ hSw=>Zc hSw C13 (QV x9 v115 v116 v117 v118) Zg V V V V V <| nu V V,fun _ hSw=>Zs hSw 1 _ _ _ 0 (QV nd v1 v2 v3 v4) V V V Zg V V V <| nu V V,fun _ hSw=>Za hSw (YC.drop 15 (C1.mono j22)) ZX V V V <| nu V V,fun _=>Zf 1 W13 ZS Zg V V V V <| nu V V,fun _ hSw=>Zc hSw C14 (QV x12 v119 v120 v121 v122) Zg V V V V V <| nu V V,trivial⟩ (fun w49 S55=>?_)
   refine Zv S55 XR V V V (ih S55.imm nd x12 l _ (Zd nd B1 B2 (A1.mono j21) (A2.mono j21) B3 B4 B5 B6 B7 ZK (A3.mono j21) hb9 Z9 Z7 Z6 (A4.mono j21)) _ (Zd x12 B360 B361 A125 A126 B362 B363 B364 B365 B366 B367 A127 B368 B369 B370 B371 A128) _ (hvl.mono j21) hgs (Yp hn (List.mem_of_getElem? ‹_›)) (hw.kid (List.mem_of_getElem? ‹_›)) (by exact hb)) (fun w50 G31 r19 P19 S56 L31=>?_)
   obtain ⟨D30,rfl,R30⟩:=P19
   have T55:=Ze R30
   obtain ⟨v123,v124,v125,v126,rfl,B372,B373,A129,A130,B374,B375,B376,B377,B378,Ze3,A131,Ze4,B381,B382,B383,A132⟩:=T55
   refine ⟨S56.down S55.le L31,?_⟩
   refine WL.buildSlice _ [(0,(QV x9 v115 v116 v117 v118)),(1,(QV (Zp l nd x12) v123 v124 v125 v126))] (QX x9 v115 v116 v117 v118 (Zp l nd x12) v123 v124 v125 v126) S56 YL V V V V (fun z hz=>by match z,hz with | [z0,z1,z2,z3,z4,z5,z6,z7,z8,z9,z10,z11,z12,z13,z14,z15,z16,z17,z18,z19,z20,z21,z22,z23,z24,z25,z26,z27,z28,z29,z30,z31],_=>rfl) (fun b10 w51 N10 S57=>?_)
   refine ⟨S57.tail.down S55.le L31,?_⟩
   have T56:=St.sealSl (E:=QryE) (by_:=224) (l:=([x9,(Zp l nd x12)] : List Query)) S57 N10 ⟨(QV x9 v115 v116 v117 v118),_,V,(Zd x9 B348 B349 (A121.mono L31) (A122.mono L31) B350 B351 B352 B353 B354 B355 (A123.mono L31) B356 B357 B358 B359 (A124.mono L31)),⟨(QV (Zp l nd x12) v123 v124 v125 v126),_,V,(Zd (Zp l nd x12) B372 B373 A129 A130 B374 B375 B376 B377 B378 Ze3 A131 Ze4 B381 B382 B383 A132),V⟩⟩ V (by simp [reach]) (by simp [reach])
   obtain ⟨G32,L32,A133,S58⟩:=T56
   have j23:=((j21.trans L31).trans L32)
   refine Zv S58 Xj V V V (Xm S58.imm x [x9,(Zp l nd x12)] _ (Zd x ZV Ye (A5.mono j23) (A6.mono j23) Yd B16 B17 Yf B19 B20 (A7.mono j23) B21 B22 B23 B24 (A8.mono j23)) _ A133) (fun w52 G33 r20 P20 S59 L33=>?_)
   obtain ⟨D31,rfl,R31⟩:=P20
   have T57:=Ze R31
   obtain ⟨v127,v128,v129,v130,rfl,B384,B385,A134,A135,B386,B387,B388,B389,B390,B391,A136,B392,B393,B394,B395,A137⟩:=T57
   refine WL.store S59 0 _ _ _ 0 _ (QV (Zk x [x9,(Zp l nd x12)]) v127 v128 v129 v130) (QV (Zk x [x9,(Zp l nd x12)]) v127 v128 v129 v130) _ V V Zg V (ZN V) (by simp only [ZW,A134.oneC,A135.oneC,A136.oneC,A137.oneC] <;> rfl) V V V V V (fun w53 S60=>?_)
   exact YD [.agg (QV (Zk x [x9,(Zp l nd x12)]) v127 v128 v129 v130).toArray] S60 ⟨_,_,_,V,V,S60.loadA 0 _ _ _ 0 (QV (Zk x [x9,(Zp l nd x12)]) v127 v128 v129 v130) V V V Zg V,V⟩ (Is.cast ⟨_,V,(Zd (Zk x [x9,(Zp l nd x12)]) B384 B385 A134 A135 B386 B387 B388 B389 B390 B391 A136 B392 B393 B394 B395 A137)⟩ (by with_reducible exact Zif (by omega) (by assumption : x.l[0]? = some _) (by assumption : x.l[1]? = some _) ‹_› ‹_›))
  refine Zs S54 1 _ _ _ 0 (QV nd v1 v2 v3 v4) V V V Zg V V V <| Zc S54 (C1.mono ((j19.trans L29).trans L30)) (QV x v5 v6 v7 v9) Zg V V V V V ?_
  refine WL.buildSlice _ [(0,(QV x v5 v6 v7 v9))] (QV x v5 v6 v7 v9) S54 YL V V V V (fun z hz=>by match z,hz with | [z0,z1,z2,z3,z4,z5,z6,z7,z8,z9,z10,z11,z12,z13,z14,z15],_=>rfl) (fun b11 w54 N11 S61=>?_)
  have j24:=(j20.trans L30)
  have T58:=St.sealSl (E:=QryE) (by_:=224) (l:=([x] : List Query)) S61 N11 ⟨(QV x v5 v6 v7 v9),_,V,(Zd x ZV Ye (A5.mono j24) (A6.mono j24) Yd B16 B17 Yf B19 B20 (A7.mono j24) B21 B22 B23 B24 (A8.mono j24)),V⟩ V (by simp [reach]) (by simp [reach])
  obtain ⟨G34,L34,A138,S62⟩:=T58
  have j25:=(j24.trans L34)
  refine Zv S62 Xj V V V (Xm S62.imm nd [x] _ (Zd nd B1 B2 (A1.mono j25) (A2.mono j25) B3 B4 B5 B6 B7 ZK (A3.mono j25) hb9 Z9 Z7 Z6 (A4.mono j25)) _ A138) (fun w55 G35 r21 P21 S63 L35=>?_)
  obtain ⟨D32,rfl,R32⟩:=P21
  have T59:=Ze R32
  obtain ⟨v131,v132,v133,v134,rfl,B396,Zdx,A139,A140,Zdy,B399,B400,B401,B402,B403,A141,B404,B405,B406,B407,A142⟩:=T59
  refine WL.store S63 0 _ _ _ 0 _ (QV (Zk nd [x]) v131 v132 v133 v134) (QV (Zk nd [x]) v131 v132 v133 v134) _ V V Zg V (ZN V) (by simp only [ZW,A139.oneC,A140.oneC,A141.oneC,A142.oneC] <;> rfl) V V V V V (fun w56 S64=>?_)
  exact YD [.agg (QV (Zk nd [x]) v131 v132 v133 v134).toArray] S64 ⟨_,_,_,V,V,S64.loadA 0 _ _ _ 0 (QV (Zk nd [x]) v131 v132 v133 v134) V V V Zg V,V⟩ (Is.cast ⟨_,V,(Zd (Zk nd [x]) B396 Zdx A139 A140 Zdy B399 B400 B401 B402 B403 A141 B404 B405 B406 B407 A142)⟩ (by with_reducible exact Zig (by omega) (by assumption : x.l[0]? = some _) (by assumption : x.l[1]? = some _) ‹_› ‹_›))
 refine Zj x.kind 10 V V V (fun h10=>?_) (fun h10=>?_)
 ·have T60:=Sl.at (A8.mono L1) 0 (by (have:=har.2 (by omega); omega))
  obtain ⟨p15,x15,U14,E14,W14⟩:=T60
  obtain ⟨D33,C15,R33⟩:=E14
  have T61:=Ze R33
  obtain ⟨v135,v136,v137,v138,rfl,B408,B409,A143,A144,B410,B411,B412,B413,B414,B415,A145,B416,B417,B418,B419,A146⟩:=T61
  refine dr [(7,true),(8,false)] [(79, .agg (CV nd.cond v3).toArray),(81,v9),(82,Zu p15),(83, .agg (QV x15 v135 v136 v137 v138).toArray)] S3 ⟨fun _ hSw=>Zs hSw 1 _ _ _ 4 (CV nd.cond v3) V V V Z5 V V V <| nu V V,fun _ hSw=>Za hSw (YC.drop 15 C1) ZX V V V <| nu V V,fun _=>Zf 0 W14 ZS Zg V V V V <| nu V V,fun _ hSw=>Zc hSw C15 (QV x15 v135 v136 v137 v138) Zg V V V V V <| nu V V,trivial⟩ (fun w57 S65=>?_)
  refine Zv S65 Zc7 V V V (Zd8 S65.imm (Yc x15) x15 l _ (Zd x15 B408 B409 A143 A144 B410 B411 B412 B413 B414 B415 A145 B416 B417 B418 B419 A146) _ (hvl.mono L1) hgs (YU _) (hw.kid (List.mem_of_getElem? ‹_›)).sm) (fun w58 G36 r22 P22 S66 L36=>?_)
  refine ⟨S66.down S65.le L36,?_⟩
  have j26:=(L1.trans L36)
  refine Zw S66 Zci V V V (ZcW S66.imm (Yu nd.cond) nd.cond ((ZP (Yc x15) x15 l).1.map Col.name) _ (ZJ nd.cond B3 B4 B5 B6 B7 ZK (A3.mono j26)) _ P22 (Qn _) hb) (fun w59 G37 S67 L37=>?_)
  refine WL.split (fun (h11 : (Qq (Yu nd.cond) nd.cond ((ZP (Yc x15) x15 l).1.map Col.name)) = true)=>?_) (fun (h11 : (Qq (Yu nd.cond) nd.cond ((ZP (Yc x15) x15 l).1.map Col.name)) = false)=>?_)
  ·have j27:=(j26.trans L37)
   have T62:=Sl.at (A8.mono j27) 0 (by (have:=har.2 (by omega); omega))
   obtain ⟨p16,x16,U15,E15,W15⟩:=T62
   have T63 : x15 = x16:=Option.some.inj (U14.symm.trans U15)
   obtain rfl:=T63
   obtain ⟨D34,C16,R34⟩:=E15
   have T64:=Ze R34
   obtain ⟨v139,v140,v141,v142,rfl,B420,B421,A147,A148,B422,B423,B424,B425,B426,B427,A149,B428,B429,B430,B431,A150⟩:=T64
   have T65:=Sl.at (A8.mono j27) 1 (by (have:=har.2 (by omega); omega))
   obtain ⟨p17,x17,U16,E16,W16⟩:=T65
   obtain ⟨D35,C17,R35⟩:=E16
   have T66:=Ze R35
   obtain ⟨v143,v144,v145,v146,rfl,B432,Ze5,A151,A152,B434,B435,B436,B437,B438,B439,A153,B440,B441,B442,B443,A154⟩:=T66
   have j28:=(L36.trans L37)
   refine dr [(7,true),(12,true),(13,false),(14,false)] [(87, .agg (QV x v5 v6 v7 v9).toArray),(88, .agg (QV nd v1 v2 v3 v4).toArray),(90,v9),(91,Zu p16),(92, .agg (QV x15 v139 v140 v141 v142).toArray),(96,v9),(97,Zu p17),(98, .agg (QV x17 v143 v144 v145 v146).toArray)] S67 ⟨fun _ hSw=>Zc hSw (C1.mono j28) (QV x v5 v6 v7 v9) Zg V V V V V <| nu V V,fun _ hSw=>Zs hSw 1 _ _ _ 0 (QV nd v1 v2 v3 v4) V V V Zg V V V <| nu V V,fun _ hSw=>Za hSw (YC.drop 15 (C1.mono j28)) ZX V V V <| nu V V,fun _=>Zf 0 W15 ZS Zg V V V V <| nu V V,fun _ hSw=>Zc hSw C16 (QV x15 v139 v140 v141 v142) Zg V V V V V <| nu V V,fun _ hSw=>Za hSw (YC.drop 15 (C1.mono j28)) ZX V V V <| nu V V,fun _=>Zf 1 W16 ZS Zg V V V V <| nu V V,fun _ hSw=>Zc hSw C17 (QV x17 v143 v144 v145 v146) Zg V V V V V <| nu V V,trivial⟩ (fun w60 S68=>?_)
   refine Zv S68 XR V V V (ih S68.imm nd x15 l _ (Zd nd B1 B2 (A1.mono j27) (A2.mono j27) B3 B4 B5 B6 B7 ZK (A3.mono j27) hb9 Z9 Z7 Z6 (A4.mono j27)) _ (Zd x15 B420 B421 A147 A148 B422 B423 B424 B425 B426 B427 A149 B428 B429 B430 B431 A150) _ (hvl.mono j27) hgs (Yp hn (List.mem_of_getElem? ‹_›)) (hw.kid (List.mem_of_getElem? ‹_›)) (by exact hb)) (fun w61 G38 r23 P23 S69 L38=>?_)
   obtain ⟨D36,rfl,R36⟩:=P23
   have T67:=Ze R36
   obtain ⟨v147,v148,v149,v150,rfl,B444,B445,A155,A156,B446,B447,B448,B449,B450,B451,A157,B452,B453,B454,B455,A158⟩:=T67
   refine ⟨S69.down S68.le L38,?_⟩
   refine WL.buildSlice _ [(0,(QV (Zp l nd x15) v147 v148 v149 v150)),(1,(QV x17 v143 v144 v145 v146))] (QX (Zp l nd x15) v147 v148 v149 v150 x17 v143 v144 v145 v146) S69 YL V V V V (fun z hz=>by match z,hz with | [z0,z1,z2,z3,z4,z5,z6,z7,z8,z9,z10,z11,z12,z13,z14,z15,z16,z17,z18,z19,z20,z21,z22,z23,z24,z25,z26,z27,z28,z29,z30,z31],_=>rfl) (fun b12 w62 N12 S70=>?_)
   refine ⟨S70.tail.down S68.le L38,?_⟩
   have T68:=St.sealSl (E:=QryE) (by_:=224) (l:=([(Zp l nd x15),x17] : List Query)) S70 N12 ⟨(QV (Zp l nd x15) v147 v148 v149 v150),_,V,(Zd (Zp l nd x15) B444 B445 A155 A156 B446 B447 B448 B449 B450 B451 A157 B452 B453 B454 B455 A158),⟨(QV x17 v143 v144 v145 v146),_,V,(Zd x17 B432 Ze5 (A151.mono L38) (A152.mono L38) B434 B435 B436 B437 B438 B439 (A153.mono L38) B440 B441 B442 B443 (A154.mono L38)),V⟩⟩ V (by simp [reach]) (by simp [reach])
   obtain ⟨G39,L39,A159,S71⟩:=T68
   have j29:=((j27.trans L38).trans L39)
   refine Zv S71 Xj V V V (Xm S71.imm x [(Zp l nd x15),x17] _ (Zd x ZV Ye (A5.mono j29) (A6.mono j29) Yd B16 B17 Yf B19 B20 (A7.mono j29) B21 B22 B23 B24 (A8.mono j29)) _ A159) (fun w63 G40 r24 P24 S72 L40=>?_)
   obtain ⟨D37,rfl,R37⟩:=P24
   have T69:=Ze R37
   obtain ⟨v151,v152,v153,v154,rfl,B456,B457,A160,A161,B458,B459,B460,B461,B462,B463,A162,B464,B465,B466,B467,A163⟩:=T69
   refine WL.store S72 0 _ _ _ 0 _ (QV (Zk x [(Zp l nd x15),x17]) v151 v152 v153 v154) (QV (Zk x [(Zp l nd x15),x17]) v151 v152 v153 v154) _ V V Zg V (ZN V) (by simp only [ZW,A160.oneC,A161.oneC,A162.oneC,A163.oneC] <;> rfl) V V V V V (fun w64 S73=>?_)
   exact YD [.agg (QV (Zk x [(Zp l nd x15),x17]) v151 v152 v153 v154).toArray] S73 ⟨_,_,_,V,V,S73.loadA 0 _ _ _ 0 (QV (Zk x [(Zp l nd x15),x17]) v151 v152 v153 v154) V V V Zg V,V⟩ (Is.cast ⟨_,V,(Zd (Zk x [(Zp l nd x15),x17]) B456 B457 A160 A161 B458 B459 B460 B461 B462 B463 A162 B464 B465 B466 B467 A163)⟩ (by with_reducible exact Zie (by omega) (by assumption : x.l[0]? = some _) (by assumption : x.l[1]? = some _) ‹_›))
  have j30:=(j26.trans L37)
  have T70:=Sl.at (A8.mono j30) 1 (by (have:=har.2 (by omega); omega))
  obtain ⟨p18,x18,U17,E17,W17⟩:=T70
  obtain ⟨D38,C18,R38⟩:=E17
  have T71:=Ze R38
  obtain ⟨v155,v156,v157,v158,rfl,B468,B469,A164,A165,B470,B471,B472,B473,B474,B475,A166,B476,B477,B478,B479,A167⟩:=T71
  have j31:=(L36.trans L37)
  refine dr [(7,true),(8,false)] [(102, .agg (CV nd.cond v3).toArray),(104,v9),(105,Zu p18),(106, .agg (QV x18 v155 v156 v157 v158).toArray)] S67 ⟨fun _ hSw=>Zs hSw 1 _ _ _ 4 (CV nd.cond v3) V V V Z5 V V V <| nu V V,fun _ hSw=>Za hSw (YC.drop 15 (C1.mono j31)) ZX V V V <| nu V V,fun _=>Zf 1 W17 ZS Zg V V V V <| nu V V,fun _ hSw=>Zc hSw C18 (QV x18 v155 v156 v157 v158) Zg V V V V V <| nu V V,trivial⟩ (fun w65 S74=>?_)
  refine Zv S74 Zc7 V V V (Zd8 S74.imm (Yc x18) x18 l _ (Zd x18 B468 B469 A164 A165 B470 B471 B472 B473 B474 B475 A166 B476 B477 B478 B479 A167) _ (hvl.mono j30) hgs (YU _) (hw.kid (List.mem_of_getElem? ‹_›)).sm) (fun w66 G41 r25 P25 S75 L41=>?_)
  refine ⟨S75.down S74.le L41,?_⟩
  have j32:=(j30.trans L41)
  refine Zw S75 Zci V V V (ZcW S75.imm (Yu nd.cond) nd.cond ((ZP (Yc x18) x18 l).1.map Col.name) _ (ZJ nd.cond B3 B4 B5 B6 B7 ZK (A3.mono j32)) _ P25 (Qn _) hb) (fun w67 G42 S76 L42=>?_)
  refine WL.split (fun (h12 : (Qq (Yu nd.cond) nd.cond ((ZP (Yc x18) x18 l).1.map Col.name)) = true)=>?_) (fun (h12 : (Qq (Yu nd.cond) nd.cond ((ZP (Yc x18) x18 l).1.map Col.name)) = false)=>?_)
  ·have j33:=(j32.trans L42)
   have T72:=Sl.at (A8.mono j33) 0 (by (have:=har.2 (by omega); omega))
   obtain ⟨p19,x19,U18,E18,W18⟩:=T72
   have T73 : x15 = x19:=Option.some.inj (U14.symm.trans U18)
   obtain rfl:=T73
   obtain ⟨D39,C19,R39⟩:=E18
   have T74:=Ze R39
   obtain ⟨v159,v160,v161,v162,rfl,B480,B481,A168,A169,B482,B483,B484,B485,B486,B487,A170,B488,B489,B490,B491,A171⟩:=T74
   have T75:=Sl.at (A8.mono j33) 1 (by (have:=har.2 (by omega); omega))
   obtain ⟨p20,x20,U19,E19,W19⟩:=T75
   have T76 : x18 = x20:=Option.some.inj (U17.symm.trans U19)
   obtain rfl:=T76
   obtain ⟨D40,C20,R40⟩:=E19
   have T77:=Ze R40
   obtain ⟨v163,v164,v165,v166,rfl,B492,B493,A172,A173,B494,B495,B496,B497,B498,B499,A174,B500,B501,B502,B503,A175⟩:=T77
   have j34:=((j31.trans L41).trans L42)
   refine dr [(11,true),(12,true),(13,false),(14,false)] [(110, .agg (QV x v5 v6 v7 v9).toArray),(112,v9),(113,Zu p19),(114, .agg (QV x15 v159 v160 v161 v162).toArray),(115, .agg (QV nd v1 v2 v3 v4).toArray),(117,v9),(118,Zu p20),(119, .agg (QV x18 v163 v164 v165 v166).toArray)] S76 ⟨fun _ hSw=>Zc hSw (C1.mono j34) (QV x v5 v6 v7 v9) Zg V V V V V <| nu V V,fun _ hSw=>Za hSw (YC.drop 15 (C1.mono j34)) ZX V V V <| nu V V,fun _=>Zf 0 W18 ZS Zg V V V V <| nu V V,fun _ hSw=>Zc hSw C19 (QV x15 v159 v160 v161 v162) Zg V V V V V <| nu V V,fun _ hSw=>Zs hSw 1 _ _ _ 0 (QV nd v1 v2 v3 v4) V V V Zg V V V <| nu V V,fun _ hSw=>Za hSw (YC.drop 15 (C1.mono j34)) ZX V V V <| nu V V,fun _=>Zf 1 W19 ZS Zg V V V V <| nu V V,fun _ hSw=>Zc hSw C20 (QV x18 v163 v164 v165 v166) Zg V V V V V <| nu V V,trivial⟩ (fun w68 S77=>?_)
   refine Zv S77 XR V V V (ih S77.imm nd x18 l _ (Zd nd B1 B2 (A1.mono j33) (A2.mono j33) B3 B4 B5 B6 B7 ZK (A3.mono j33) hb9 Z9 Z7 Z6 (A4.mono j33)) _ (Zd x18 B492 B493 A172 A173 B494 B495 B496 B497 B498 B499 A174 B500 B501 B502 B503 A175) _ (hvl.mono j33) hgs (Yp hn (List.mem_of_getElem? ‹_›)) (hw.kid (List.mem_of_getElem? ‹_›)) (by exact hb)) (fun w69 G43 r26 P26 S78 L43=>?_)
   obtain ⟨D41,rfl,R41⟩:=P26
   have T78:=Ze R41
   obtain ⟨v167,v168,v169,v170,rfl,B504,B505,A176,A177,B506,B507,B508,B509,B510,B511,A178,B512,B513,B514,B515,A179⟩:=T78
   refine ⟨S78.down S77.le L43,?_⟩
   refine WL.buildSlice _ [(0,(QV x15 v159 v160 v161 v162)),(1,(QV (Zp l nd x18) v167 v168 v169 v170))] (QX x15 v159 v160 v161 v162 (Zp l nd x18) v167 v168 v169 v170) S78 YL V V V V (fun z hz=>by match z,hz with | [z0,z1,z2,z3,z4,z5,z6,z7,z8,z9,z10,z11,z12,z13,z14,z15,z16,z17,z18,z19,z20,z21,z22,z23,z24,z25,z26,z27,z28,z29,z30,z31],_=>rfl) (fun b13 w70 N13 S79=>?_)
   refine ⟨S79.tail.down S77.le L43,?_⟩
   have T79:=St.sealSl (E:=QryE) (by_:=224) (l:=([x15,(Zp l nd x18)] : List Query)) S79 N13 ⟨(QV x15 v159 v160 v161 v162),_,V,(Zd x15 B480 B481 (A168.mono L43) (A169.mono L43) B482 B483 B484 B485 B486 B487 (A170.mono L43) B488 B489 B490 B491 (A171.mono L43)),⟨(QV (Zp l nd x18) v167 v168 v169 v170),_,V,(Zd (Zp l nd x18) B504 B505 A176 A177 B506 B507 B508 B509 B510 B511 A178 B512 B513 B514 B515 A179),V⟩⟩ V (by simp [reach]) (by simp [reach])
   obtain ⟨G44,L44,A180,S80⟩:=T79
   have j35:=((j33.trans L43).trans L44)
   refine Zv S80 Xj V V V (Xm S80.imm x [x15,(Zp l nd x18)] _ (Zd x ZV Ye (A5.mono j35) (A6.mono j35) Yd B16 B17 Yf B19 B20 (A7.mono j35) B21 B22 B23 B24 (A8.mono j35)) _ A180) (fun w71 G45 r27 P27 S81 L45=>?_)
   obtain ⟨D42,rfl,R42⟩:=P27
   have T80:=Ze R42
   obtain ⟨v171,v172,v173,v174,rfl,B516,B517,A181,A182,B518,B519,B520,B521,B522,B523,A183,B524,B525,B526,B527,A184⟩:=T80
   refine WL.store S81 0 _ _ _ 0 _ (QV (Zk x [x15,(Zp l nd x18)]) v171 v172 v173 v174) (QV (Zk x [x15,(Zp l nd x18)]) v171 v172 v173 v174) _ V V Zg V (ZN V) (by simp only [ZW,A181.oneC,A182.oneC,A183.oneC,A184.oneC] <;> rfl) V V V V V (fun w72 S82=>?_)
   exact YD [.agg (QV (Zk x [x15,(Zp l nd x18)]) v171 v172 v173 v174).toArray] S82 ⟨_,_,_,V,V,S82.loadA 0 _ _ _ 0 (QV (Zk x [x15,(Zp l nd x18)]) v171 v172 v173 v174) V V V Zg V,V⟩ (Is.cast ⟨_,V,(Zd (Zk x [x15,(Zp l nd x18)]) B516 B517 A181 A182 B518 B519 B520 B521 B522 B523 A183 B524 B525 B526 B527 A184)⟩ (by with_reducible exact Zif (by omega) (by assumption : x.l[0]? = some _) (by assumption : x.l[1]? = some _) ‹_› ‹_›))
  refine Zs S76 1 _ _ _ 0 (QV nd v1 v2 v3 v4) V V V Zg V V V <| Zc S76 (C1.mono ((j31.trans L41).trans L42)) (QV x v5 v6 v7 v9) Zg V V V V V ?_
  refine WL.buildSlice _ [(0,(QV x v5 v6 v7 v9))] (QV x v5 v6 v7 v9) S76 YL V V V V (fun z hz=>by match z,hz with | [z0,z1,z2,z3,z4,z5,z6,z7,z8,z9,z10,z11,z12,z13,z14,z15],_=>rfl) (fun b14 w73 N14 S83=>?_)
  have j36:=(j32.trans L42)
  have T81:=St.sealSl (E:=QryE) (by_:=224) (l:=([x] : List Query)) S83 N14 ⟨(QV x v5 v6 v7 v9),_,V,(Zd x ZV Ye (A5.mono j36) (A6.mono j36) Yd B16 B17 Yf B19 B20 (A7.mono j36) B21 B22 B23 B24 (A8.mono j36)),V⟩ V (by simp [reach]) (by simp [reach])
  obtain ⟨G46,L46,A185,S84⟩:=T81
  have j37:=(j36.trans L46)
  refine Zv S84 Xj V V V (Xm S84.imm nd [x] _ (Zd nd B1 B2 (A1.mono j37) (A2.mono j37) B3 B4 B5 B6 B7 ZK (A3.mono j37) hb9 Z9 Z7 Z6 (A4.mono j37)) _ A185) (fun w74 G47 r28 P28 S85 L47=>?_)
  obtain ⟨D43,rfl,R43⟩:=P28
  have T82:=Ze R43
  obtain ⟨v175,v176,v177,v178,rfl,B528,B529,A186,A187,B530,B531,B532,B533,B534,B535,A188,B536,B537,B538,B539,A189⟩:=T82
  refine WL.store S85 0 _ _ _ 0 _ (QV (Zk nd [x]) v175 v176 v177 v178) (QV (Zk nd [x]) v175 v176 v177 v178) _ V V Zg V (ZN V) (by simp only [ZW,A186.oneC,A187.oneC,A188.oneC,A189.oneC] <;> rfl) V V V V V (fun w75 S86=>?_)
  exact YD [.agg (QV (Zk nd [x]) v175 v176 v177 v178).toArray] S86 ⟨_,_,_,V,V,S86.loadA 0 _ _ _ 0 (QV (Zk nd [x]) v175 v176 v177 v178) V V V Zg V,V⟩ (Is.cast ⟨_,V,(Zd (Zk nd [x]) B528 B529 A186 A187 B530 B531 B532 B533 B534 B535 A188 B536 B537 B538 B539 A189)⟩ (by with_reducible exact Zig (by omega) (by assumption : x.l[0]? = some _) (by assumption : x.l[1]? = some _) ‹_› ‹_›))
 refine Zs S3 1 _ _ _ 0 (QV nd v1 v2 v3 v4) V V V Zg V V V <| Zc S3 C1 (QV x v5 v6 v7 v9) Zg V V V V V ?_
 refine WL.buildSlice _ [(0,(QV x v5 v6 v7 v9))] (QV x v5 v6 v7 v9) S3 YL V V V V (fun z hz=>by match z,hz with | [z0,z1,z2,z3,z4,z5,z6,z7,z8,z9,z10,z11,z12,z13,z14,z15],_=>rfl) (fun b15 w76 N15 S87=>?_)
 have T83:=St.sealSl (E:=QryE) (by_:=224) (l:=([x] : List Query)) S87 N15 ⟨(QV x v5 v6 v7 v9),_,V,(Zd x ZV Ye (A5.mono L1) (A6.mono L1) Yd B16 B17 Yf B19 B20 (A7.mono L1) B21 B22 B23 B24 (A8.mono L1)),V⟩ V (by simp [reach]) (by simp [reach])
 obtain ⟨G48,L48,A190,S88⟩:=T83
 have j38:=(L1.trans L48)
 refine Zv S88 Xj V V V (Xm S88.imm nd [x] _ (Zd nd B1 B2 (A1.mono j38) (A2.mono j38) B3 B4 B5 B6 B7 ZK (A3.mono j38) hb9 Z9 Z7 Z6 (A4.mono j38)) _ A190) (fun w77 G49 r29 P29 S89 L49=>?_)
 obtain ⟨D44,rfl,R44⟩:=P29
 have T84:=Ze R44
 obtain ⟨v179,v180,v181,v182,rfl,B540,B541,A191,A192,B542,B543,B544,B545,B546,B547,A193,B548,B549,B550,B551,A194⟩:=T84
 refine WL.store S89 0 _ _ _ 0 _ (QV (Zk nd [x]) v179 v180 v181 v182) (QV (Zk nd [x]) v179 v180 v181 v182) _ V V Zg V (ZN V) (by simp only [ZW,A191.oneC,A192.oneC,A193.oneC,A194.oneC] <;> rfl) V V V V V (fun w78 S90=>?_)
 exact YD [.agg (QV (Zk nd [x]) v179 v180 v181 v182).toArray] S90 ⟨_,_,_,V,V,S90.loadA 0 _ _ _ 0 (QV (Zk nd [x]) v179 v180 v181 v182) V V V Zg V,V⟩ (Is.cast ⟨_,V,(Zd (Zk nd [x]) B540 B541 A191 A192 B542 B543 B544 B545 B546 B547 A193 B548 B549 B550 B551 A194)⟩ (by with_reducible exact Zkr ‹_› ‹_› ‹_› ‹_› ‹_› ‹_› ‹_›))
end Go.Civ
