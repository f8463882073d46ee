/- Lemmas. -/
import Derived.Test.YtcopkjhdncdnmaaGreatDoorP41
set_option linter.unusedVariables false
set_option linter.unusedSimpArgs false
set_option maxRecDepth 100000
set_option maxHeartbeats 4000000
namespace Go.Civ
open Go.Proofs
theorem ZnP (m : Nat) : ∀ {G : GH} {w : World} (hG : G.In w) (nd x : Query) (cn : List Value) (hcn : QryE.rep G nd cn) (cx : List Value) (hcx : QryE.rep G x cx) (hn : Xx x m) (hw : WfQ x),CL Tryz.prog (nat_lit 105) #[.agg cn.toArray, .agg cx.toArray] [] w G fun G' _ r=>Is QryE G' r (Zt nd x):=by
 induction m
 ·intro G w hG nd x cn hcn cx hcx hn hw; exact (Q9 hn).elim
 rename_i m ih
 intro G w hG nd x cn hcn cx hcx hn hw
 refine YA ft [] Tryz.func105 V V ?_
 have har:=hw.ar
 have hS:=St.start (X:=[]) hG
 have T1:=Ze hcn
 obtain ⟨v1,v2,v3,v4,rfl,B1,B2,A1,A2,B3,B4,B5,B6,B7,ZK,A3,hb9,Z9,Z7,Z6,A4⟩:=T1
 have T2:=Ze hcx
 obtain ⟨v5,v6,v7,v9,rfl,ZV,Ye,A5,A6,Yd,B16,B17,Yf,B19,B20,A7,B21,B22,B23,B24,A8⟩:=T2
 refine WL.box (QV nd v1 v2 v3 v4) _ hS V V V (fun b1 w1 N1 S1=>?_)
 refine ZL (QV x v5 v6 v7 v9) _ S1 V V V (fun p1 w2 G1 L1 M1 C1 S2=>?_)
 refine WL.alloc S2 Zg V V (fun b2 w3 N2 S3=>?_)
 refine Za S3 (YC.drop 0 C1) Z3 V V V ?_
 refine Zj x.kind 2 V V V (fun h1=>?_) (fun h1=>?_)
 ·have T3:=Sl.at (A8.mono L1) 0 (by (have:=har.1 (by omega); omega))
  obtain ⟨p2,x1,U1,E1,W1⟩:=T3
  obtain ⟨D1,C2,R1⟩:=E1
  have T4:=Ze R1
  obtain ⟨v10,v11,v12,v13,rfl,X6,B26,A9,A10,B27,B28,B29,B30,B31,B32,A11,B33,XM,B35,B36,A12⟩:=T4
  refine dr [(6,true),(7,true),(8,false),(9,false)] [(14, .agg (QV x v5 v6 v7 v9).toArray),(15, .agg (QV nd v1 v2 v3 v4).toArray),(17,v9),(18,Zu p2),(19, .agg (QV x1 v10 v11 v12 v13).toArray)] S3 ⟨fun _ hSw=>Zc hSw C1 (QV x v5 v6 v7 v9) Zg V V V V V <| nu V V,fun _ hSw=>Zs hSw 1 _ _ _ 0 (QV nd v1 v2 v3 v4) V V V Zg V V V <| nu V V,fun _ hSw=>Za hSw (YC.drop 15 C1) ZX V V V <| nu V V,fun _=>Zf 0 W1 ZS Zg V V V V <| nu V V,fun _ hSw=>Zc hSw C2 (QV x1 v10 v11 v12 v13) Zg V V V V V <| nu V V,trivial⟩ (fun w4 S4=>?_)
  refine Zv S4 XV V V V (ih S4.imm nd x1 _ (Zd nd B1 B2 (A1.mono L1) (A2.mono L1) B3 B4 B5 B6 B7 ZK (A3.mono L1) hb9 Z9 Z7 Z6 (A4.mono L1)) _ (Zd x1 X6 B26 A9 A10 B27 B28 B29 B30 B31 B32 A11 B33 XM B35 B36 A12) (Yp hn (List.mem_of_getElem? ‹_›)) (hw.kid (List.mem_of_getElem? ‹_›))) (fun w5 G2 r1 P1 S5 L2=>?_)
  obtain ⟨D2,rfl,R2⟩:=P1
  have T5:=Ze R2
  obtain ⟨v14,v15,v16,v17,rfl,B37,B38,A13,A14,Qj,Qk,XN,Qo,Zac,Q5,A15,Zad,Qt,QJ,Zav,A16⟩:=T5
  refine ⟨S5.down S4.le L2,?_⟩
  refine WL.buildSlice _ [(0,(QV (Zt nd x1) v14 v15 v16 v17))] (QV (Zt nd x1) v14 v15 v16 v17) S5 YL V V V V (fun z hz=>by match z,hz with | [z0,z1,z2,z3,z4,z5,z6,z7,z8,z9,z10,z11,z12,z13,z14,z15],_=>rfl) (fun b3 w6 N3 S6=>?_)
  refine ⟨S6.tail.down S4.le L2,?_⟩
  have T6:=St.sealSl (E:=QryE) (by_:=224) (l:=([(Zt nd x1)] : List Query)) S6 N3 ⟨(QV (Zt nd x1) v14 v15 v16 v17),_,V,(Zd (Zt nd x1) B37 B38 A13 A14 Qj Qk XN Qo Zac Q5 A15 Zad Qt QJ Zav A16),V⟩ V (by simp [reach]) (by simp [reach])
  obtain ⟨G3,L3,A17,S7⟩:=T6
  have j1:=((L1.trans L2).trans L3)
  refine Zv S7 Xi V V V (Xl S7.imm x [(Zt nd x1)] _ (Zd x ZV Ye (A5.mono j1) (A6.mono j1) Yd B16 B17 Yf B19 B20 (A7.mono j1) B21 B22 B23 B24 (A8.mono j1)) _ A17) (fun w7 G4 r2 P2 S8 L4=>?_)
  obtain ⟨D3,rfl,R3⟩:=P2
  have T7:=Ze R3
  obtain ⟨v18,v19,v20,v21,rfl,Zaw,QK,A18,A19,Zax,QL,ZaT,B54,ZaU,Zay,A20,ZaB,Zbg,Zbh,Zbi,A21⟩:=T7
  refine WL.store S8 0 _ _ _ 0 _ (QV (Zk x [(Zt nd x1)]) v18 v19 v20 v21) (QV (Zk x [(Zt nd x1)]) v18 v19 v20 v21) _ V V Zg V (ZN V) (by simp only [ZW,A18.oneC,A19.oneC,A20.oneC,A21.oneC] <;> rfl) V V V V V (fun w9 S9=>?_)
  exact YD [.agg (QV (Zk x [(Zt nd x1)]) v18 v19 v20 v21).toArray] S9 ⟨_,_,_,V,V,S9.loadA 0 _ _ _ 0 (QV (Zk x [(Zt nd x1)]) v18 v19 v20 v21) V V V Zg V,V⟩ (Is.cast ⟨_,V,(Zd (Zk x [(Zt nd x1)]) Zaw QK A18 A19 Zax QL ZaT B54 ZaU Zay A20 ZaB Zbg Zbh Zbi A21)⟩ (by with_reducible exact ZdN (by omega) ‹_›))
 refine Zj x.kind 3 V V V (fun h2=>?_) (fun h2=>?_)
 ·have T8:=Sl.at (A8.mono L1) 0 (by (have:=har.1 (by omega); omega))
  obtain ⟨p3,x2,U2,E2,W2⟩:=T8
  obtain ⟨D4,C3,R4⟩:=E2
  have T9:=Ze R4
  obtain ⟨v22,v23,v24,v25,rfl,B61,B62,A22,A23,B63,B64,B65,B66,B67,B68,A24,B69,B70,B71,B72,A25⟩:=T9
  refine dr [(6,true),(7,true),(8,false),(9,false)] [(14, .agg (QV x v5 v6 v7 v9).toArray),(15, .agg (QV nd v1 v2 v3 v4).toArray),(17,v9),(18,Zu p3),(19, .agg (QV x2 v22 v23 v24 v25).toArray)] S3 ⟨fun _ hSw=>Zc hSw C1 (QV x v5 v6 v7 v9) Zg V V V V V <| nu V V,fun _ hSw=>Zs hSw 1 _ _ _ 0 (QV nd v1 v2 v3 v4) V V V Zg V V V <| nu V V,fun _ hSw=>Za hSw (YC.drop 15 C1) ZX V V V <| nu V V,fun _=>Zf 0 W2 ZS Zg V V V V <| nu V V,fun _ hSw=>Zc hSw C3 (QV x2 v22 v23 v24 v25) Zg V V V V V <| nu V V,trivial⟩ (fun w10 S10=>?_)
  refine Zv S10 XV V V V (ih S10.imm nd x2 _ (Zd nd B1 B2 (A1.mono L1) (A2.mono L1) B3 B4 B5 B6 B7 ZK (A3.mono L1) hb9 Z9 Z7 Z6 (A4.mono L1)) _ (Zd x2 B61 B62 A22 A23 B63 B64 B65 B66 B67 B68 A24 B69 B70 B71 B72 A25) (Yp hn (List.mem_of_getElem? ‹_›)) (hw.kid (List.mem_of_getElem? ‹_›))) (fun w11 G5 r3 P3 S11 L5=>?_)
  obtain ⟨D5,rfl,R5⟩:=P3
  have T10:=Ze R5
  obtain ⟨v26,v27,v28,v29,rfl,B73,B74,A26,A27,B75,B76,B77,Zae,B79,B80,A28,B81,B82,B83,ZaC,A29⟩:=T10
  refine ⟨S11.down S10.le L5,?_⟩
  refine WL.buildSlice _ [(0,(QV (Zt nd x2) v26 v27 v28 v29))] (QV (Zt nd x2) v26 v27 v28 v29) S11 YL V V V V (fun z hz=>by match z,hz with | [z0,z1,z2,z3,z4,z5,z6,z7,z8,z9,z10,z11,z12,z13,z14,z15],_=>rfl) (fun b4 w12 N4 S12=>?_)
  refine ⟨S12.tail.down S10.le L5,?_⟩
  have T11:=St.sealSl (E:=QryE) (by_:=224) (l:=([(Zt nd x2)] : List Query)) S12 N4 ⟨(QV (Zt nd x2) v26 v27 v28 v29),_,V,(Zd (Zt nd x2) B73 B74 A26 A27 B75 B76 B77 Zae B79 B80 A28 B81 B82 B83 ZaC A29),V⟩ V (by simp [reach]) (by simp [reach])
  obtain ⟨G6,L6,A30,S13⟩:=T11
  have j2:=((L1.trans L5).trans L6)
  refine Zv S13 Xi V V V (Xl S13.imm x [(Zt nd x2)] _ (Zd x ZV Ye (A5.mono j2) (A6.mono j2) Yd B16 B17 Yf B19 B20 (A7.mono j2) B21 B22 B23 B24 (A8.mono j2)) _ A30) (fun w13 G7 r4 P4 S14 L7=>?_)
  obtain ⟨D6,rfl,R6⟩:=P4
  have T12:=Ze R6
  obtain ⟨v30,v31,v32,v33,rfl,B85,ZaV,A31,A32,B87,B88,B89,B90,B91,B92,A33,B93,B94,B95,B96,A34⟩:=T12
  refine WL.store S14 0 _ _ _ 0 _ (QV (Zk x [(Zt nd x2)]) v30 v31 v32 v33) (QV (Zk x [(Zt nd x2)]) v30 v31 v32 v33) _ V V Zg V (ZN V) (by simp only [ZW,A31.oneC,A32.oneC,A33.oneC,A34.oneC] <;> rfl) V V V V V (fun w14 S15=>?_)
  exact YD [.agg (QV (Zk x [(Zt nd x2)]) v30 v31 v32 v33).toArray] S15 ⟨_,_,_,V,V,S15.loadA 0 _ _ _ 0 (QV (Zk x [(Zt nd x2)]) v30 v31 v32 v33) V V V Zg V,V⟩ (Is.cast ⟨_,V,(Zd (Zk x [(Zt nd x2)]) B85 ZaV A31 A32 B87 B88 B89 B90 B91 B92 A33 B93 B94 B95 B96 A34)⟩ (by with_reducible exact ZdN (by omega) ‹_›))
 refine Zj x.kind 4 V V V (fun h3=>?_) (fun h3=>?_)
 ·have T13:=Sl.at (A8.mono L1) 0 (by (have:=har.1 (by omega); omega))
  obtain ⟨p4,x3,U3,E3,W3⟩:=T13
  obtain ⟨D7,C4,R7⟩:=E3
  have T14:=Ze R7
  obtain ⟨v34,v35,v36,v37,rfl,B97,B98,A35,A36,B99,QA,ZaD,B102,B103,B104,A37,ZaE,XQ,QB,Zal,A38⟩:=T14
  refine dr [(6,true),(7,true),(8,false),(9,false)] [(14, .agg (QV x v5 v6 v7 v9).toArray),(15, .agg (QV nd v1 v2 v3 v4).toArray),(17,v9),(18,Zu p4),(19, .agg (QV x3 v34 v35 v36 v37).toArray)] S3 ⟨fun _ hSw=>Zc hSw C1 (QV x v5 v6 v7 v9) Zg V V V V V <| nu V V,fun _ hSw=>Zs hSw 1 _ _ _ 0 (QV nd v1 v2 v3 v4) V V V Zg V V V <| nu V V,fun _ hSw=>Za hSw (YC.drop 15 C1) ZX V V V <| nu V V,fun _=>Zf 0 W3 ZS Zg V V V V <| nu V V,fun _ hSw=>Zc hSw C4 (QV x3 v34 v35 v36 v37) Zg V V V V V <| nu V V,trivial⟩ (fun w15 S16=>?_)
  refine Zv S16 XV V V V (ih S16.imm nd x3 _ (Zd nd B1 B2 (A1.mono L1) (A2.mono L1) B3 B4 B5 B6 B7 ZK (A3.mono L1) hb9 Z9 Z7 Z6 (A4.mono L1)) _ (Zd x3 B97 B98 A35 A36 B99 QA ZaD B102 B103 B104 A37 ZaE XQ QB Zal A38) (Yp hn (List.mem_of_getElem? ‹_›)) (hw.kid (List.mem_of_getElem? ‹_›))) (fun w16 G9 r5 P5 S17 L9=>?_)
  obtain ⟨D8,rfl,R8⟩:=P5
  have T15:=Ze R8
  obtain ⟨v38,v39,v40,v41,rfl,QS,Zam,A39,A40,Zan,ZaF,Zao,ZaG,XW,XR,A41,Xj,ZaH,QT,Zap,A42⟩:=T15
  refine ⟨S17.down S16.le L9,?_⟩
  refine WL.buildSlice _ [(0,(QV (Zt nd x3) v38 v39 v40 v41))] (QV (Zt nd x3) v38 v39 v40 v41) S17 YL V V V V (fun z hz=>by match z,hz with | [z0,z1,z2,z3,z4,z5,z6,z7,z8,z9,z10,z11,z12,z13,z14,z15],_=>rfl) (fun b5 w17 N5 S18=>?_)
  refine ⟨S18.tail.down S16.le L9,?_⟩
  have T16:=St.sealSl (E:=QryE) (by_:=224) (l:=([(Zt nd x3)] : List Query)) S18 N5 ⟨(QV (Zt nd x3) v38 v39 v40 v41),_,V,(Zd (Zt nd x3) QS Zam A39 A40 Zan ZaF Zao ZaG XW XR A41 Xj ZaH QT Zap A42),V⟩ V (by simp [reach]) (by simp [reach])
  obtain ⟨G10,L10,A43,S19⟩:=T16
  refine Zv S19 Xi V V V (Xl S19.imm x [(Zt nd x3)] _ (Zd x ZV Ye (A5.mono ((L1.trans L9).trans L10)) (A6.mono ((L1.trans L9).trans L10)) Yd B16 B17 Yf B19 B20 (A7.mono ((L1.trans L9).trans L10)) B21 B22 B23 B24 (A8.mono ((L1.trans L9).trans L10))) _ A43) (fun w18 G11 r6 P6 S20 L11=>?_)
  obtain ⟨D9,rfl,R9⟩:=P6
  have T17:=Ze R9
  obtain ⟨v42,v43,v44,v45,rfl,Zaq,ZaI,A44,A45,ZaJ,Zbt,Zbu,Qm,QU,Zbv,A46,ZbD,Zcb,Zcc,Zcd,A47⟩:=T17
  refine WL.store S20 0 _ _ _ 0 _ (QV (Zk x [(Zt nd x3)]) v42 v43 v44 v45) (QV (Zk x [(Zt nd x3)]) v42 v43 v44 v45) _ V V Zg V (ZN V) (by simp only [ZW,A44.oneC,A45.oneC,A46.oneC,A47.oneC] <;> rfl) V V V V V (fun w19 S21=>?_)
  exact YD [.agg (QV (Zk x [(Zt nd x3)]) v42 v43 v44 v45).toArray] S21 ⟨_,_,_,V,V,S21.loadA 0 _ _ _ 0 (QV (Zk x [(Zt nd x3)]) v42 v43 v44 v45) V V V Zg V,V⟩ (Is.cast ⟨_,V,(Zd (Zk x [(Zt nd x3)]) Zaq ZaI A44 A45 ZaJ Zbt Zbu Qm QU Zbv A46 ZbD Zcb Zcc Zcd A47)⟩ (by with_reducible exact ZdN (by omega) ‹_›))
 refine Zj x.kind 9 V V V (fun h4=>?_) (fun h4=>?_)
 ·have T18:=Sl.at (A8.mono L1) 0 (by (have:=har.1 (by omega); omega))
  obtain ⟨p5,x4,U4,E4,W4⟩:=T18
  obtain ⟨D10,C5,R10⟩:=E4
  have T19:=Ze R10
  obtain ⟨v46,v47,v48,v49,rfl,B135,B136,A48,A49,B137,B138,B139,B140,B141,B142,A50,B143,B144,B145,B146,A51⟩:=T19
  refine dr [(6,true),(7,true),(8,false),(9,false)] [(14, .agg (QV x v5 v6 v7 v9).toArray),(15, .agg (QV nd v1 v2 v3 v4).toArray),(17,v9),(18,Zu p5),(19, .agg (QV x4 v46 v47 v48 v49).toArray)] S3 ⟨fun _ hSw=>Zc hSw C1 (QV x v5 v6 v7 v9) Zg V V V V V <| nu V V,fun _ hSw=>Zs hSw 1 _ _ _ 0 (QV nd v1 v2 v3 v4) V V V Zg V V V <| nu V V,fun _ hSw=>Za hSw (YC.drop 15 C1) ZX V V V <| nu V V,fun _=>Zf 0 W4 ZS Zg V V V V <| nu V V,fun _ hSw=>Zc hSw C5 (QV x4 v46 v47 v48 v49) Zg V V V V V <| nu V V,trivial⟩ (fun w20 S22=>?_)
  refine Zv S22 XV V V V (ih S22.imm nd x4 _ (Zd nd B1 B2 (A1.mono L1) (A2.mono L1) B3 B4 B5 B6 B7 ZK (A3.mono L1) hb9 Z9 Z7 Z6 (A4.mono L1)) _ (Zd x4 B135 B136 A48 A49 B137 B138 B139 B140 B141 B142 A50 B143 B144 B145 B146 A51) (Yp hn (List.mem_of_getElem? ‹_›)) (hw.kid (List.mem_of_getElem? ‹_›))) (fun w21 G12 r7 P7 S23 L12=>?_)
  obtain ⟨D11,rfl,R11⟩:=P7
  have T20:=Ze R11
  obtain ⟨v50,v51,v52,v53,rfl,B147,Zdh,A52,A53,B149,B150,B151,B152,B153,B154,A54,B155,B156,Zeg,Zeh,A55⟩:=T20
  refine ⟨S23.down S22.le L12,?_⟩
  refine WL.buildSlice _ [(0,(QV (Zt nd x4) v50 v51 v52 v53))] (QV (Zt nd x4) v50 v51 v52 v53) S23 YL V V V V (fun z hz=>by match z,hz with | [z0,z1,z2,z3,z4,z5,z6,z7,z8,z9,z10,z11,z12,z13,z14,z15],_=>rfl) (fun b6 w22 N6 S24=>?_)
  refine ⟨S24.tail.down S22.le L12,?_⟩
  have T21:=St.sealSl (E:=QryE) (by_:=224) (l:=([(Zt nd x4)] : List Query)) S24 N6 ⟨(QV (Zt nd x4) v50 v51 v52 v53),_,V,(Zd (Zt nd x4) B147 Zdh A52 A53 B149 B150 B151 B152 B153 B154 A54 B155 B156 Zeg Zeh A55),V⟩ V (by simp [reach]) (by simp [reach])
  obtain ⟨G13,L13,A56,S25⟩:=T21
  have j3:=((L1.trans L12).trans L13)
  refine Zv S25 Xi V V V (Xl S25.imm x [(Zt nd x4)] _ (Zd x ZV Ye (A5.mono j3) (A6.mono j3) Yd B16 B17 Yf B19 B20 (A7.mono j3) B21 B22 B23 B24 (A8.mono j3)) _ A56) (fun w23 G14 r8 P8 S26 L14=>?_)
  obtain ⟨D12,rfl,R12⟩:=P8
  have T22:=Ze R12
  obtain ⟨v54,v55,v56,v57,rfl,Zar,Zei,A57,A58,Zej,Zdi,B164,B165,B166,Zel,A59,B168,B169,B170,B171,A60⟩:=T22
  refine WL.store S26 0 _ _ _ 0 _ (QV (Zk x [(Zt nd x4)]) v54 v55 v56 v57) (QV (Zk x [(Zt nd x4)]) v54 v55 v56 v57) _ V V Zg V (ZN V) (by simp only [ZW,A57.oneC,A58.oneC,A59.oneC,A60.oneC] <;> rfl) V V V V V (fun w24 S27=>?_)
  exact YD [.agg (QV (Zk x [(Zt nd x4)]) v54 v55 v56 v57).toArray] S27 ⟨_,_,_,V,V,S27.loadA 0 _ _ _ 0 (QV (Zk x [(Zt nd x4)]) v54 v55 v56 v57) V V V Zg V,V⟩ (Is.cast ⟨_,V,(Zd (Zk x [(Zt nd x4)]) Zar Zei A57 A58 Zej Zdi B164 B165 B166 Zel A59 B168 B169 B170 B171 A60)⟩ (by with_reducible exact ZdN (by omega) ‹_›))
 refine Zj x.kind 5 V V V (fun h5=>?_) (fun h5=>?_)
 ·have T23:=Sl.at (A8.mono L1) 0 (by (have:=har.2 (by omega); omega))
  obtain ⟨p6,x5,U5,E5,W5⟩:=T23
  obtain ⟨D13,C6,R13⟩:=E5
  have T24:=Ze R13
  obtain ⟨v58,v59,v60,v61,rfl,B172,B173,A61,A62,B174,B175,B176,B177,B178,B179,A63,B180,B181,B182,B183,A64⟩:=T24
  have T25:=Sl.at (A8.mono L1) 1 (by (have:=har.2 (by omega); omega))
  obtain ⟨p7,x6,U6,E6,W6⟩:=T25
  obtain ⟨D14,C7,R14⟩:=E6
  have T26:=Ze R14
  obtain ⟨v62,v63,v64,v65,rfl,B184,B185,A65,A66,B186,B187,B188,B189,B190,B191,A67,B192,B193,B194,B195,A68⟩:=T26
  refine dr [(6,true),(12,true),(13,true),(14,false),(15,false)] [(27, .agg (QV x v5 v6 v7 v9).toArray),(28, .agg (QV nd v1 v2 v3 v4).toArray),(30,v9),(31,Zu p6),(32, .agg (QV x5 v58 v59 v60 v61).toArray),(34, .agg (QV nd v1 v2 v3 v4).toArray),(36,v9),(37,Zu p7),(38, .agg (QV x6 v62 v63 v64 v65).toArray)] S3 ⟨fun _ hSw=>Zc hSw C1 (QV x v5 v6 v7 v9) Zg V V V V V <| nu V V,fun _ hSw=>Zs hSw 1 _ _ _ 0 (QV nd v1 v2 v3 v4) V V V Zg V V V <| nu V V,fun _ hSw=>Za hSw (YC.drop 15 C1) ZX V V V <| nu V V,fun _=>Zf 0 W5 ZS Zg V V V V <| nu V V,fun _ hSw=>Zc hSw C6 (QV x5 v58 v59 v60 v61) Zg V V V V V <| nu V V,fun _ hSw=>Zs hSw 1 _ _ _ 0 (QV nd v1 v2 v3 v4) V V V Zg V V V <| nu V V,fun _ hSw=>Za hSw (YC.drop 15 C1) ZX V V V <| nu V V,fun _=>Zf 1 W6 ZS Zg V V V V <| nu V V,fun _ hSw=>Zc hSw C7 (QV x6 v62 v63 v64 v65) Zg V V V V V <| nu V V,trivial⟩ (fun w25 S28=>?_)
  refine Zv S28 XV V V V (ih S28.imm nd x5 _ (Zd nd B1 B2 (A1.mono L1) (A2.mono L1) B3 B4 B5 B6 B7 ZK (A3.mono L1) hb9 Z9 Z7 Z6 (A4.mono L1)) _ (Zd x5 B172 B173 A61 A62 B174 B175 B176 B177 B178 B179 A63 B180 B181 B182 B183 A64) (Yp hn (List.mem_of_getElem? ‹_›)) (hw.kid (List.mem_of_getElem? ‹_›))) (fun w26 G15 r9 P9 S29 L15=>?_)
  obtain ⟨D15,rfl,R15⟩:=P9
  have T27:=Ze R15
  obtain ⟨v66,v67,v68,v69,rfl,B196,B197,A69,A70,B198,B199,Zem,B201,B202,Zen,A71,Zce,Zc4,Zdj,Zc5,A72⟩:=T27
  refine ⟨S29.down S28.le L15,?_⟩
  have j4:=(L1.trans L15)
  refine Zv S29 XV V V V (ih S29.imm nd x6 _ (Zd nd B1 B2 (A1.mono j4) (A2.mono j4) B3 B4 B5 B6 B7 ZK (A3.mono j4) hb9 Z9 Z7 Z6 (A4.mono j4)) _ (Zd x6 B184 B185 (A65.mono L15) (A66.mono L15) B186 B187 B188 B189 B190 B191 (A67.mono L15) B192 B193 B194 B195 (A68.mono L15)) (Yp hn (List.mem_of_getElem? ‹_›)) (hw.kid (List.mem_of_getElem? ‹_›))) (fun w27 G16 r10 P10 S30 L16=>?_)
  obtain ⟨D16,rfl,R16⟩:=P10
  have T28:=Ze R16
  obtain ⟨v70,v71,v72,v73,rfl,Zdk,Zdl,A73,A74,Zcf,Zcg,Zdm,Zch,QY,Zc6,A75,Qv,ZbE,Zdn,Zas,A76⟩:=T28
  have j5:=(L15.trans L16)
  refine ⟨S30.down S28.le j5,?_⟩
  refine WL.buildSlice _ [(0,(QV (Zt nd x5) v66 v67 v68 v69)),(1,(QV (Zt nd x6) v70 v71 v72 v73))] (QX (Zt nd x5) v66 v67 v68 v69 (Zt nd x6) v70 v71 v72 v73) S30 YL V V V V (fun z hz=>by match z,hz with | [z0,z1,z2,z3,z4,z5,z6,z7,z8,z9,z10,z11,z12,z13,z14,z15,z16,z17,z18,z19,z20,z21,z22,z23,z24,z25,z26,z27,z28,z29,z30,z31],_=>rfl) (fun b7 w28 N7 S31=>?_)
  refine ⟨S31.tail.down S28.le j5,?_⟩
  have T29:=St.sealSl (E:=QryE) (by_:=224) (l:=([(Zt nd x5),(Zt nd x6)] : List Query)) S31 N7 ⟨(QV (Zt nd x5) v66 v67 v68 v69),_,V,(Zd (Zt nd x5) B196 B197 (A69.mono L16) (A70.mono L16) B198 B199 Zem B201 B202 Zen (A71.mono L16) Zce Zc4 Zdj Zc5 (A72.mono L16)),⟨(QV (Zt nd x6) v70 v71 v72 v73),_,V,(Zd (Zt nd x6) Zdk Zdl A73 A74 Zcf Zcg Zdm Zch QY Zc6 A75 Qv ZbE Zdn Zas A76),V⟩⟩ V (by simp [reach]) (by simp [reach])
  obtain ⟨G17,L17,A77,S32⟩:=T29
  have j6:=((j4.trans L16).trans L17)
  refine Zv S32 Xi V V V (Xl S32.imm x [(Zt nd x5),(Zt nd x6)] _ (Zd x ZV Ye (A5.mono j6) (A6.mono j6) Yd B16 B17 Yf B19 B20 (A7.mono j6) B21 B22 B23 B24 (A8.mono j6)) _ A77) (fun w29 G18 r11 P11 S33 L18=>?_)
  obtain ⟨D17,rfl,R17⟩:=P11
  have T30:=Ze R17
  obtain ⟨v74,v75,v76,v77,rfl,Zci,Zc7,A78,A79,Zc8,Zc9,ZcA,Zdo,ZcB,B227,A80,B228,B229,B230,B231,A81⟩:=T30
  refine WL.store S33 0 _ _ _ 0 _ (QV (Zk x [(Zt nd x5),(Zt nd x6)]) v74 v75 v76 v77) (QV (Zk x [(Zt nd x5),(Zt nd x6)]) v74 v75 v76 v77) _ V V Zg V (ZN V) (by simp only [ZW,A78.oneC,A79.oneC,A80.oneC,A81.oneC] <;> rfl) V V V V V (fun w30 S34=>?_)
  exact YD [.agg (QV (Zk x [(Zt nd x5),(Zt nd x6)]) v74 v75 v76 v77).toArray] S34 ⟨_,_,_,V,V,S34.loadA 0 _ _ _ 0 (QV (Zk x [(Zt nd x5),(Zt nd x6)]) v74 v75 v76 v77) V V V Zg V,V⟩ (Is.cast ⟨_,V,(Zd (Zk x [(Zt nd x5),(Zt nd x6)]) Zci Zc7 A78 A79 Zc8 Zc9 ZcA Zdo ZcB B227 A80 B228 B229 B230 B231 A81)⟩ (by with_reducible exact ZfP (by omega) (by assumption : x.l[0]? = some _) (by assumption : x.l[1]? = some _)))
 refine Zj x.kind 6 V V V (fun h6=>?_) (fun h6=>?_)
 ·have T31:=Sl.at (A8.mono L1) 0 (by (have:=har.2 (by omega); omega))
  obtain ⟨p8,x7,U7,E7,W7⟩:=T31
  obtain ⟨D18,C8,R18⟩:=E7
  have T32:=Ze R18
  obtain ⟨v78,v79,v80,v81,rfl,B232,B233,A82,A83,B234,B235,B236,B237,B238,B239,A84,QZ,QC,Zdp,Zcj,A85⟩:=T32
  have T33:=Sl.at (A8.mono L1) 1 (by (have:=har.2 (by omega); omega))
  obtain ⟨p9,x9,U8,E8,W8⟩:=T33
  obtain ⟨D19,C9,R19⟩:=E8
  have T34:=Ze R19
  obtain ⟨v82,v83,v84,v85,rfl,B244,B245,A86,A87,B246,B247,B248,B249,Zeo,Zdq,A88,B252,B253,B254,Zep,A89⟩:=T34
  refine dr [(6,true),(12,true),(13,true),(14,false),(15,false)] [(27, .agg (QV x v5 v6 v7 v9).toArray),(28, .agg (QV nd v1 v2 v3 v4).toArray),(30,v9),(31,Zu p8),(32, .agg (QV x7 v78 v79 v80 v81).toArray),(34, .agg (QV nd v1 v2 v3 v4).toArray),(36,v9),(37,Zu p9),(38, .agg (QV x9 v82 v83 v84 v85).toArray)] S3 ⟨fun _ hSw=>Zc hSw C1 (QV x v5 v6 v7 v9) Zg V V V V V <| nu V V,fun _ hSw=>Zs hSw 1 _ _ _ 0 (QV nd v1 v2 v3 v4) V V V Zg V V V <| nu V V,fun _ hSw=>Za hSw (YC.drop 15 C1) ZX V V V <| nu V V,fun _=>Zf 0 W7 ZS Zg V V V V <| nu V V,fun _ hSw=>Zc hSw C8 (QV x7 v78 v79 v80 v81) Zg V V V V V <| nu V V,fun _ hSw=>Zs hSw 1 _ _ _ 0 (QV nd v1 v2 v3 v4) V V V Zg V V V <| nu V V,fun _ hSw=>Za hSw (YC.drop 15 C1) ZX V V V <| nu V V,fun _=>Zf 1 W8 ZS Zg V V V V <| nu V V,fun _ hSw=>Zc hSw C9 (QV x9 v82 v83 v84 v85) Zg V V V V V <| nu V V,trivial⟩ (fun w31 S35=>?_)
  refine Zv S35 XV V V V (ih S35.imm nd x7 _ (Zd nd B1 B2 (A1.mono L1) (A2.mono L1) B3 B4 B5 B6 B7 ZK (A3.mono L1) hb9 Z9 Z7 Z6 (A4.mono L1)) _ (Zd x7 B232 B233 A82 A83 B234 B235 B236 B237 B238 B239 A84 QZ QC Zdp Zcj A85) (Yp hn (List.mem_of_getElem? ‹_›)) (hw.kid (List.mem_of_getElem? ‹_›))) (fun w32 G19 r12 P12 S36 L19=>?_)
  obtain ⟨D20,rfl,R20⟩:=P12
  have T35:=Ze R20
  obtain ⟨v86,v87,v88,v89,rfl,B256,B257,A90,A91,B258,B259,Zeq,Zer,B262,Zes,A92,B264,Zet,Zeu,Zev,A93⟩:=T35
  refine ⟨S36.down S35.le L19,?_⟩
  have j7:=(L1.trans L19)
  refine Zv S36 XV V V V (ih S36.imm nd x9 _ (Zd nd B1 B2 (A1.mono j7) (A2.mono j7) B3 B4 B5 B6 B7 ZK (A3.mono j7) hb9 Z9 Z7 Z6 (A4.mono j7)) _ (Zd x9 B244 B245 (A86.mono L19) (A87.mono L19) B246 B247 B248 B249 Zeo Zdq (A88.mono L19) B252 B253 B254 Zep (A89.mono L19)) (Yp hn (List.mem_of_getElem? ‹_›)) (hw.kid (List.mem_of_getElem? ‹_›))) (fun w33 G20 r13 P13 S37 L20=>?_)
  obtain ⟨D21,rfl,R21⟩:=P13
  have T36:=Ze R21
  obtain ⟨v90,v91,v92,v93,rfl,B268,B269,A94,A95,B270,B271,B272,B273,B274,B275,A96,B276,B277,B278,B279,A97⟩:=T36
  have j8:=(L19.trans L20)
  refine ⟨S37.down S35.le j8,?_⟩
  refine WL.buildSlice _ [(0,(QV (Zt nd x7) v86 v87 v88 v89)),(1,(QV (Zt nd x9) v90 v91 v92 v93))] (QX (Zt nd x7) v86 v87 v88 v89 (Zt nd x9) v90 v91 v92 v93) S37 YL V V V V (fun z hz=>by match z,hz with | [z0,z1,z2,z3,z4,z5,z6,z7,z8,z9,z10,z11,z12,z13,z14,z15,z16,z17,z18,z19,z20,z21,z22,z23,z24,z25,z26,z27,z28,z29,z30,z31],_=>rfl) (fun b8 w34 N8 S38=>?_)
  refine ⟨S38.tail.down S35.le j8,?_⟩
  have T37:=St.sealSl (E:=QryE) (by_:=224) (l:=([(Zt nd x7),(Zt nd x9)] : List Query)) S38 N8 ⟨(QV (Zt nd x7) v86 v87 v88 v89),_,V,(Zd (Zt nd x7) B256 B257 (A90.mono L20) (A91.mono L20) B258 B259 Zeq Zer B262 Zes (A92.mono L20) B264 Zet Zeu Zev (A93.mono L20)),⟨(QV (Zt nd x9) v90 v91 v92 v93),_,V,(Zd (Zt nd x9) B268 B269 A94 A95 B270 B271 B272 B273 B274 B275 A96 B276 B277 B278 B279 A97),V⟩⟩ V (by simp [reach]) (by simp [reach])
  obtain ⟨G21,L21,A98,S39⟩:=T37
  have j9:=((j7.trans L20).trans L21)
  refine Zv S39 Xi V V V (Xl S39.imm x [(Zt nd x7),(Zt nd x9)] _ (Zd x ZV Ye (A5.mono j9) (A6.mono j9) Yd B16 B17 Yf B19 B20 (A7.mono j9) B21 B22 B23 B24 (A8.mono j9)) _ A98) (fun w35 G22 r14 P14 S40 L22=>?_)
  obtain ⟨D22,rfl,R22⟩:=P14
  have T38:=Ze R22
  obtain ⟨v94,v95,v96,v97,rfl,ZcC,B281,A99,A100,Zat,Zdr,ZbF,Zds,ZcD,Qw,A101,B288,ZcE,ZcF,Zbw,A102⟩:=T38
  refine WL.store S40 0 _ _ _ 0 _ (QV (Zk x [(Zt nd x7),(Zt nd x9)]) v94 v95 v96 v97) (QV (Zk x [(Zt nd x7),(Zt nd x9)]) v94 v95 v96 v97) _ V V Zg V (ZN V) (by simp only [ZW,A99.oneC,A100.oneC,A101.oneC,A102.oneC] <;> rfl) V V V V V (fun w36 S41=>?_)
  exact YD [.agg (QV (Zk x [(Zt nd x7),(Zt nd x9)]) v94 v95 v96 v97).toArray] S41 ⟨_,_,_,V,V,S41.loadA 0 _ _ _ 0 (QV (Zk x [(Zt nd x7),(Zt nd x9)]) v94 v95 v96 v97) V V V Zg V,V⟩ (Is.cast ⟨_,V,(Zd (Zk x [(Zt nd x7),(Zt nd x9)]) ZcC B281 A99 A100 Zat Zdr ZbF Zds ZcD Qw A101 B288 ZcE ZcF Zbw A102)⟩ (by with_reducible exact ZfP (by omega) (by assumption : x.l[0]? = some _) (by assumption : x.l[1]? = some _)))
 refine Zj x.kind 7 V V V (fun h7=>?_) (fun h7=>?_)
 ·have T39:=Sl.at (A8.mono L1) 0 (by (have:=har.2 (by omega); omega))
  obtain ⟨p10,x10,U9,E9,W9⟩:=T39
  obtain ⟨D23,C10,R23⟩:=E9
  have T40:=Ze R23
  obtain ⟨v98,v99,v100,v101,rfl,Zbx,ZbG,A103,A104,B294,B295,B296,B297,B298,B299,A105,B300,B301,B302,B303,A106⟩:=T40
  have T41:=Sl.at (A8.mono L1) 1 (by (have:=har.2 (by omega); omega))
  obtain ⟨p11,x11,U10,E10,W10⟩:=T41
  obtain ⟨D24,C11,R24⟩:=E10
  have T42:=Ze R24
  obtain ⟨v102,v103,v104,v105,rfl,B304,B305,A107,A108,B306,B307,ZcG,Zdt,Zdu,Zba,A109,B312,B313,B314,B315,A110⟩:=T42
  refine dr [(6,true),(12,true),(13,true),(14,false),(15,false)] [(27, .agg (QV x v5 v6 v7 v9).toArray),(28, .agg (QV nd v1 v2 v3 v4).toArray),(30,v9),(31,Zu p10),(32, .agg (QV x10 v98 v99 v100 v101).toArray),(34, .agg (QV nd v1 v2 v3 v4).toArray),(36,v9),(37,Zu p11),(38, .agg (QV x11 v102 v103 v104 v105).toArray)] S3 ⟨fun _ hSw=>Zc hSw C1 (QV x v5 v6 v7 v9) Zg V V V V V <| nu V V,fun _ hSw=>Zs hSw 1 _ _ _ 0 (QV nd v1 v2 v3 v4) V V V Zg V V V <| nu V V,fun _ hSw=>Za hSw (YC.drop 15 C1) ZX V V V <| nu V V,fun _=>Zf 0 W9 ZS Zg V V V V <| nu V V,fun _ hSw=>Zc hSw C10 (QV x10 v98 v99 v100 v101) Zg V V V V V <| nu V V,fun _ hSw=>Zs hSw 1 _ _ _ 0 (QV nd v1 v2 v3 v4) V V V Zg V V V <| nu V V,fun _ hSw=>Za hSw (YC.drop 15 C1) ZX V V V <| nu V V,fun _=>Zf 1 W10 ZS Zg V V V V <| nu V V,fun _ hSw=>Zc hSw C11 (QV x11 v102 v103 v104 v105) Zg V V V V V <| nu V V,trivial⟩ (fun w37 S42=>?_)
  refine Zv S42 XV V V V (ih S42.imm nd x10 _ (Zd nd B1 B2 (A1.mono L1) (A2.mono L1) B3 B4 B5 B6 B7 ZK (A3.mono L1) hb9 Z9 Z7 Z6 (A4.mono L1)) _ (Zd x10 Zbx ZbG A103 A104 B294 B295 B296 B297 B298 B299 A105 B300 B301 B302 B303 A106) (Yp hn (List.mem_of_getElem? ‹_›)) (hw.kid (List.mem_of_getElem? ‹_›))) (fun w38 G23 r15 P15 S43 L23=>?_)
  obtain ⟨D25,rfl,R25⟩:=P15
  have T43:=Ze R25
  obtain ⟨v106,v107,v108,v109,rfl,B316,B317,A111,A112,B318,B319,B320,B321,B322,Zew,A113,Zex,Zey,Zez,Ze0,A114⟩:=T43
  refine ⟨S43.down S42.le L23,?_⟩
  have j10:=(L1.trans L23)
  refine Zv S43 XV V V V (ih S43.imm nd x11 _ (Zd nd B1 B2 (A1.mono j10) (A2.mono j10) B3 B4 B5 B6 B7 ZK (A3.mono j10) hb9 Z9 Z7 Z6 (A4.mono j10)) _ (Zd x11 B304 B305 (A107.mono L23) (A108.mono L23) B306 B307 ZcG Zdt Zdu Zba (A109.mono L23) B312 B313 B314 B315 (A110.mono L23)) (Yp hn (List.mem_of_getElem? ‹_›)) (hw.kid (List.mem_of_getElem? ‹_›))) (fun w39 G24 r16 P16 S44 L24=>?_)
  obtain ⟨D26,rfl,R26⟩:=P16
  have T44:=Ze R26
  obtain ⟨v110,v111,v112,v113,rfl,Ze1,Ze2,A115,A116,B330,B331,B332,B333,B334,B335,A117,B336,B337,B338,ZcH,A118⟩:=T44
  have j11:=(L23.trans L24)
  refine ⟨S44.down S42.le j11,?_⟩
  refine WL.buildSlice _ [(0,(QV (Zt nd x10) v106 v107 v108 v109)),(1,(QV (Zt nd x11) v110 v111 v112 v113))] (QX (Zt nd x10) v106 v107 v108 v109 (Zt nd x11) v110 v111 v112 v113) S44 YL V V V V (fun z hz=>by match z,hz with | [z0,z1,z2,z3,z4,z5,z6,z7,z8,z9,z10,z11,z12,z13,z14,z15,z16,z17,z18,z19,z20,z21,z22,z23,z24,z25,z26,z27,z28,z29,z30,z31],_=>rfl) (fun b9 w40 N9 S45=>?_)
  refine ⟨S45.tail.down S42.le j11,?_⟩
  have T45:=St.sealSl (E:=QryE) (by_:=224) (l:=([(Zt nd x10),(Zt nd x11)] : List Query)) S45 N9 ⟨(QV (Zt nd x10) v106 v107 v108 v109),_,V,(Zd (Zt nd x10) B316 B317 (A111.mono L24) (A112.mono L24) B318 B319 B320 B321 B322 Zew (A113.mono L24) Zex Zey Zez Ze0 (A114.mono L24)),⟨(QV (Zt nd x11) v110 v111 v112 v113),_,V,(Zd (Zt nd x11) Ze1 Ze2 A115 A116 B330 B331 B332 B333 B334 B335 A117 B336 B337 B338 ZcH A118),V⟩⟩ V (by simp [reach]) (by simp [reach])
  obtain ⟨G25,L25,A119,S46⟩:=T45
  have j12:=((j10.trans L24).trans L25)
  refine Zv S46 Xi V V V (Xl S46.imm x [(Zt nd x10),(Zt nd x11)] _ (Zd x ZV Ye (A5.mono j12) (A6.mono j12) Yd B16 B17 Yf B19 B20 (A7.mono j12) B21 B22 B23 B24 (A8.mono j12)) _ A119) (fun w41 G26 r17 P17 S47 L26=>?_)
  obtain ⟨D27,rfl,R27⟩:=P17
  have T46:=Ze R27
  obtain ⟨v114,v115,v116,v117,rfl,Zdv,ZcI,A120,A121,B342,ZcJ,ZbH,Zdw,B346,B347,A122,B348,B349,B350,B351,A123⟩:=T46
  refine WL.store S47 0 _ _ _ 0 _ (QV (Zk x [(Zt nd x10),(Zt nd x11)]) v114 v115 v116 v117) (QV (Zk x [(Zt nd x10),(Zt nd x11)]) v114 v115 v116 v117) _ V V Zg V (ZN V) (by simp only [ZW,A120.oneC,A121.oneC,A122.oneC,A123.oneC] <;> rfl) V V V V V (fun w42 S48=>?_)
  exact YD [.agg (QV (Zk x [(Zt nd x10),(Zt nd x11)]) v114 v115 v116 v117).toArray] S48 ⟨_,_,_,V,V,S48.loadA 0 _ _ _ 0 (QV (Zk x [(Zt nd x10),(Zt nd x11)]) v114 v115 v116 v117) V V V Zg V,V⟩ (Is.cast ⟨_,V,(Zd (Zk x [(Zt nd x10),(Zt nd x11)]) Zdv ZcI A120 A121 B342 ZcJ ZbH Zdw B346 B347 A122 B348 B349 B350 B351 A123)⟩ (by with_reducible exact ZfP (by omega) (by assumption : x.l[0]? = some _) (by assumption : x.l[1]? = some _)))
 refine Zj x.kind 8 V V V (fun h8=>?_) (fun h8=>?_)
 ·refine Zs S3 1 _ _ _ 13 [U nd.span.a,U nd.span.b] V V V Y7 V V V <| Zc S3 (YC.drop 13 C1) [U x.span.a,U x.span.b] Y7 V V V V V <| Zv S3 Zek V V V (Zlr S3.imm nd.span x.span _ (X2 nd.span Z7 Z6) _ (X2 x.span B23 B24)) ?_
  rintro w43 G27 _ ⟨r19,_,rfl,A124,rfl⟩ S49 L27
  obtain ⟨D28,rfl,R28⟩:=A124
  have T47:=Ql R28
  obtain ⟨rfl,B352,B353⟩:=T47
  refine WL.alloc S49 Y7 V V (fun b10 w44 N10 S50=>?_)
  refine ZY S50 0 [U (((ZR nd.span x.span).1).a),U (((ZR nd.span x.span).1).b)] V V Y7 V V V V V V (fun w45 S51=>?_)
  have T48:=S51.shutB N10
  obtain ⟨G28,L28,C12,S52⟩:=T48
  refine ZgB (d:=51) V (fun (h9 : ((ZR nd.span x.span).2) = true)=>?_) (fun (h9 : ((ZR nd.span x.span).2) = false)=>?_)
  ·refine Zc S52 C12 [U (((ZR nd.span x.span).1).a),U (((ZR nd.span x.span).1).b)] Y7 V V V V V ?_
   refine WL.store S52 1 _ _ _ 13 _ [U (((ZR nd.span x.span).1).a),U (((ZR nd.span x.span).1).b)] [U nd.kind,Zb nd.table,v1,v2,U nd.cond.kind,Zb nd.cond.col,Zb nd.cond.oth,U nd.cond.v.k,U nd.cond.v.n,Zb nd.cond.v.s,v3,U nd.rel,U nd.fn,U (((ZR nd.span x.span).1).a),U (((ZR nd.span x.span).1).b),v4] _ V V Y7 V (ZN V) V V V V V V (fun w46 S53=>?_)
   have j13:=((L1.trans L27).trans L28)
   have T49:=Sl.at (A8.mono j13) 0 (by (have:=har.1 (by omega); omega))
   obtain ⟨p12,x12,U11,E11,W11⟩:=T49
   obtain ⟨D29,C13,R29⟩:=E11
   have T50:=Ze R29
   obtain ⟨v118,v119,v120,v121,rfl,B354,B355,A125,A126,B356,B357,B358,B359,B360,B361,A127,B362,B363,B364,B365,A128⟩:=T50
   refine dr [(5,true),(6,false),(7,false)] [(55, .agg #[U nd.kind,Zb nd.table,v1,v2,U nd.cond.kind,Zb nd.cond.col,Zb nd.cond.oth,U nd.cond.v.k,U nd.cond.v.n,Zb nd.cond.v.s,v3,U nd.rel,U nd.fn,U (((ZR nd.span x.span).1).a),U (((ZR nd.span x.span).1).b),v4]),(57,v9),(58,Zu p12),(59, .agg (QV x12 v118 v119 v120 v121).toArray)] S53 ⟨fun _ hSw=>Zs hSw 1 _ _ _ 0 [U nd.kind,Zb nd.table,v1,v2,U nd.cond.kind,Zb nd.cond.col,Zb nd.cond.oth,U nd.cond.v.k,U nd.cond.v.n,Zb nd.cond.v.s,v3,U nd.rel,U nd.fn,U (((ZR nd.span x.span).1).a),U (((ZR nd.span x.span).1).b),v4] V V V Zg V V V <| nu V V,fun _ hSw=>Za hSw (YC.drop 15 (C1.mono (L27.trans L28))) ZX V V V <| nu V V,fun _=>Zf 0 W11 ZS Zg V V V V <| nu V V,fun _ hSw=>Zc hSw C13 (QV x12 v118 v119 v120 v121) Zg V V V V V <| nu V V,trivial⟩ (fun w47 S54=>?_)
   refine WL.buildSlice _ [(0,(QV x12 v118 v119 v120 v121))] (QV x12 v118 v119 v120 v121) S54 YL V V V V (fun z hz=>by match z,hz with | [z0,z1,z2,z3,z4,z5,z6,z7,z8,z9,z10,z11,z12,z13,z14,z15],_=>rfl) (fun b11 w48 N11 S55=>?_)
   refine ⟨S55.tail.down S54.le (G28.le_refl),?_⟩
   have T51:=St.sealSl (E:=QryE) (by_:=224) (l:=([x12] : List Query)) S55 N11 ⟨(QV x12 v118 v119 v120 v121),_,V,(Zd x12 B354 B355 A125 A126 B356 B357 B358 B359 B360 B361 A127 B362 B363 B364 B365 A128),V⟩ V (by simp [reach]) (by simp [reach])
   obtain ⟨G29,L29,A129,S56⟩:=T51
   have j14:=(j13.trans L29)
   refine Zv S56 Xi V V V (Xl S56.imm (Query.mk nd.kind nd.table nd.cols nd.names nd.cond nd.rel nd.fn ((ZR nd.span x.span).1) nd.l) [x12] _ (Zd (Query.mk nd.kind nd.table nd.cols nd.names nd.cond nd.rel nd.fn ((ZR nd.span x.span).1) nd.l) B1 B2 (A1.mono j14) (A2.mono j14) B3 B4 B5 B6 B7 ZK (A3.mono j14) hb9 Z9 B352 B353 (A4.mono j14)) _ A129) (fun w49 G30 r21 P19 S57 L30=>?_)
   obtain ⟨D30,rfl,R30⟩:=P19
   have T52:=Ze R30
   obtain ⟨v122,v123,v124,v125,rfl,B366,B367,A130,A131,B368,B369,B370,B371,B372,B373,A132,B374,B375,B376,B377,A133⟩:=T52
   refine WL.store S57 0 _ _ _ 0 _ (QV (Zk (Query.mk nd.kind nd.table nd.cols nd.names nd.cond nd.rel nd.fn ((ZR nd.span x.span).1) nd.l) [x12]) v122 v123 v124 v125) (QV (Zk (Query.mk nd.kind nd.table nd.cols nd.names nd.cond nd.rel nd.fn ((ZR nd.span x.span).1) nd.l) [x12]) v122 v123 v124 v125) _ V V Zg V (ZN V) (by simp only [ZW,A130.oneC,A131.oneC,A132.oneC,A133.oneC] <;> rfl) V V V V V (fun w50 S58=>?_)
   exact YD [.agg (QV (Zk (Query.mk nd.kind nd.table nd.cols nd.names nd.cond nd.rel nd.fn ((ZR nd.span x.span).1) nd.l) [x12]) v122 v123 v124 v125).toArray] S58 ⟨_,_,_,V,V,S58.loadA 0 _ _ _ 0 (QV (Zk (Query.mk nd.kind nd.table nd.cols nd.names nd.cond nd.rel nd.fn ((ZR nd.span x.span).1) nd.l) [x12]) v122 v123 v124 v125) V V V Zg V,V⟩ (Is.cast ⟨_,V,(Zd (Zk (Query.mk nd.kind nd.table nd.cols nd.names nd.cond nd.rel nd.fn ((ZR nd.span x.span).1) nd.l) [x12]) B366 B367 A130 A131 B368 B369 B370 B371 B372 B373 A132 B374 B375 B376 B377 A133)⟩ (by with_reducible exact Zmj ‹_› ‹_› ‹_›))
  refine Zs S52 1 _ _ _ 0 (QV nd v1 v2 v3 v4) V V V Zg V V V <| Zc S52 (C1.mono (L27.trans L28)) (QV x v5 v6 v7 v9) Zg V V V V V ?_
  refine WL.buildSlice _ [(0,(QV x v5 v6 v7 v9))] (QV x v5 v6 v7 v9) S52 YL V V V V (fun z hz=>by match z,hz with | [z0,z1,z2,z3,z4,z5,z6,z7,z8,z9,z10,z11,z12,z13,z14,z15],_=>rfl) (fun b12 w51 N12 S59=>?_)
  have j15:=((L1.trans L27).trans L28)
  have T53:=St.sealSl (E:=QryE) (by_:=224) (l:=([x] : List Query)) S59 N12 ⟨(QV x v5 v6 v7 v9),_,V,(Zd x ZV Ye (A5.mono j15) (A6.mono j15) Yd B16 B17 Yf B19 B20 (A7.mono j15) B21 B22 B23 B24 (A8.mono j15)),V⟩ V (by simp [reach]) (by simp [reach])
  obtain ⟨G31,L31,A134,S60⟩:=T53
  have j16:=(j15.trans L31)
  refine Zv S60 Xi V V V (Xl S60.imm nd [x] _ (Zd nd B1 B2 (A1.mono j16) (A2.mono j16) B3 B4 B5 B6 B7 ZK (A3.mono j16) hb9 Z9 Z7 Z6 (A4.mono j16)) _ A134) (fun w52 G32 r22 P20 S61 L32=>?_)
  obtain ⟨D31,rfl,R31⟩:=P20
  have T54:=Ze R31
  obtain ⟨v126,v127,v128,v129,rfl,B378,Ze3,A135,A136,Ze4,B381,B382,B383,B384,B385,A137,B386,B387,B388,B389,A138⟩:=T54
  refine WL.store S61 0 _ _ _ 0 _ (QV (Zk nd [x]) v126 v127 v128 v129) (QV (Zk nd [x]) v126 v127 v128 v129) _ V V Zg V (ZN V) (by simp only [ZW,A135.oneC,A136.oneC,A137.oneC,A138.oneC] <;> rfl) V V V V V (fun w53 S62=>?_)
  exact YD [.agg (QV (Zk nd [x]) v126 v127 v128 v129).toArray] S62 ⟨_,_,_,V,V,S62.loadA 0 _ _ _ 0 (QV (Zk nd [x]) v126 v127 v128 v129) V V V Zg V,V⟩ (Is.cast ⟨_,V,(Zd (Zk nd [x]) B378 Ze3 A135 A136 Ze4 B381 B382 B383 B384 B385 A137 B386 B387 B388 B389 A138)⟩ (by with_reducible exact Zmk ‹_› ‹_›))
 refine Zs S3 1 _ _ _ 0 (QV nd v1 v2 v3 v4) V V V Zg V V V <| Zc S3 C1 (QV x v5 v6 v7 v9) Zg V V V V V ?_
 refine WL.buildSlice _ [(0,(QV x v5 v6 v7 v9))] (QV x v5 v6 v7 v9) S3 YL V V V V (fun z hz=>by match z,hz with | [z0,z1,z2,z3,z4,z5,z6,z7,z8,z9,z10,z11,z12,z13,z14,z15],_=>rfl) (fun b13 w54 N13 S63=>?_)
 have T55:=St.sealSl (E:=QryE) (by_:=224) (l:=([x] : List Query)) S63 N13 ⟨(QV x v5 v6 v7 v9),_,V,(Zd x ZV Ye (A5.mono L1) (A6.mono L1) Yd B16 B17 Yf B19 B20 (A7.mono L1) B21 B22 B23 B24 (A8.mono L1)),V⟩ V (by simp [reach]) (by simp [reach])
 obtain ⟨G33,L33,A139,S64⟩:=T55
 have j17:=(L1.trans L33)
 refine Zv S64 Xi V V V (Xl S64.imm nd [x] _ (Zd nd B1 B2 (A1.mono j17) (A2.mono j17) B3 B4 B5 B6 B7 ZK (A3.mono j17) hb9 Z9 Z7 Z6 (A4.mono j17)) _ A139) (fun w55 G34 r23 P21 S65 L34=>?_)
 obtain ⟨D32,rfl,R32⟩:=P21
 have T56:=Ze R32
 obtain ⟨v130,v131,v132,v133,rfl,B390,B391,A140,A141,B392,B393,B394,B395,B396,Zdx,A142,Zdy,B399,B400,B401,A143⟩:=T56
 refine WL.store S65 0 _ _ _ 0 _ (QV (Zk nd [x]) v130 v131 v132 v133) (QV (Zk nd [x]) v130 v131 v132 v133) _ V V Zg V (ZN V) (by simp only [ZW,A140.oneC,A141.oneC,A142.oneC,A143.oneC] <;> rfl) V V V V V (fun w56 S66=>?_)
 exact YD [.agg (QV (Zk nd [x]) v130 v131 v132 v133).toArray] S66 ⟨_,_,_,V,V,S66.loadA 0 _ _ _ 0 (QV (Zk nd [x]) v130 v131 v132 v133) V V V Zg V,V⟩ (Is.cast ⟨_,V,(Zd (Zk nd [x]) B390 B391 A140 A141 B392 B393 B394 B395 B396 Zdx A142 Zdy B399 B400 B401 A143)⟩ (by with_reducible exact Zkn ‹_› ‹_› ‹_› ‹_› ‹_› ‹_› ‹_› ‹_›))
theorem ZnQ (m : Nat) : ∀ {G : GH} {w : World} (hG : G.In w) (nd x : Query) (cn : List Value) (hcn : QryE.rep G nd cn) (cx : List Value) (hcx : QryE.rep G x cx) (hn : Xx x m) (hw : WfQ x),CL Tryz.prog (nat_lit 117) #[.agg cn.toArray, .agg cx.toArray] [] w G fun G' _ r=>Is QryE G' r (Zt nd x):=by
 induction m
 ·intro G w hG nd x cn hcn cx hcx hn hw; exact (Q9 hn).elim
 rename_i m ih
 intro G w hG nd x cn hcn cx hcx hn hw
 refine YA ft [] Tryz.func117 V V ?_
 have har:=hw.ar
 have hS:=St.start (X:=[]) hG
 have T1:=Ze hcn
 obtain ⟨v1,v2,v3,v4,rfl,B1,B2,A1,A2,B3,B4,B5,B6,B7,ZK,A3,hb9,Z9,Z7,Z6,A4⟩:=T1
 have T2:=Ze hcx
 obtain ⟨v5,v6,v7,v9,rfl,ZV,Ye,A5,A6,Yd,B16,B17,Yf,B19,B20,A7,B21,B22,B23,B24,A8⟩:=T2
 refine WL.box (QV nd v1 v2 v3 v4) _ hS V V V (fun b1 w1 N1 S1=>?_)
 refine ZL (QV x v5 v6 v7 v9) _ S1 V V V (fun p1 w2 G1 L1 M1 C1 S2=>?_)
 refine WL.alloc S2 Zg V V (fun b2 w3 N2 S3=>?_)
 refine Za S3 (YC.drop 0 C1) Z3 V V V ?_
 refine Zj x.kind 2 V V V (fun h1=>?_) (fun h1=>?_)
 ·have T3:=Sl.at (A8.mono L1) 0 (by (have:=har.1 (by omega); omega))
  obtain ⟨p2,x1,U1,E1,W1⟩:=T3
  obtain ⟨D1,C2,R1⟩:=E1
  have T4:=Ze R1
  obtain ⟨v10,v11,v12,v13,rfl,X6,B26,A9,A10,B27,B28,B29,B30,B31,B32,A11,B33,XM,B35,B36,A12⟩:=T4
  refine dr [(6,true),(7,true),(8,false),(9,false)] [(14, .agg (QV x v5 v6 v7 v9).toArray),(15, .agg (QV nd v1 v2 v3 v4).toArray),(17,v9),(18,Zu p2),(19, .agg (QV x1 v10 v11 v12 v13).toArray)] S3 ⟨fun _ hSw=>Zc hSw C1 (QV x v5 v6 v7 v9) Zg V V V V V <| nu V V,fun _ hSw=>Zs hSw 1 _ _ _ 0 (QV nd v1 v2 v3 v4) V V V Zg V V V <| nu V V,fun _ hSw=>Za hSw (YC.drop 15 C1) ZX V V V <| nu V V,fun _=>Zf 0 W1 ZS Zg V V V V <| nu V V,fun _ hSw=>Zc hSw C2 (QV x1 v10 v11 v12 v13) Zg V V V V V <| nu V V,trivial⟩ (fun w4 S4=>?_)
  refine Zv S4 XW V V V (ih S4.imm nd x1 _ (Zd nd B1 B2 (A1.mono L1) (A2.mono L1) B3 B4 B5 B6 B7 ZK (A3.mono L1) hb9 Z9 Z7 Z6 (A4.mono L1)) _ (Zd x1 X6 B26 A9 A10 B27 B28 B29 B30 B31 B32 A11 B33 XM B35 B36 A12) (Yp hn (List.mem_of_getElem? ‹_›)) (hw.kid (List.mem_of_getElem? ‹_›))) (fun w5 G2 r1 P1 S5 L2=>?_)
  obtain ⟨D2,rfl,R2⟩:=P1
  have T5:=Ze R2
  obtain ⟨v14,v15,v16,v17,rfl,B37,B38,A13,A14,Qj,Qk,XN,Qo,Zac,Q5,A15,Zad,Qt,QJ,Zav,A16⟩:=T5
  refine ⟨S5.down S4.le L2,?_⟩
  refine WL.buildSlice _ [(0,(QV (Zt nd x1) v14 v15 v16 v17))] (QV (Zt nd x1) v14 v15 v16 v17) S5 YL V V V V (fun z hz=>by match z,hz with | [z0,z1,z2,z3,z4,z5,z6,z7,z8,z9,z10,z11,z12,z13,z14,z15],_=>rfl) (fun b3 w6 N3 S6=>?_)
  refine ⟨S6.tail.down S4.le L2,?_⟩
  have T6:=St.sealSl (E:=QryE) (by_:=224) (l:=([(Zt nd x1)] : List Query)) S6 N3 ⟨(QV (Zt nd x1) v14 v15 v16 v17),_,V,(Zd (Zt nd x1) B37 B38 A13 A14 Qj Qk XN Qo Zac Q5 A15 Zad Qt QJ Zav A16),V⟩ V (by simp [reach]) (by simp [reach])
  obtain ⟨G3,L3,A17,S7⟩:=T6
  have j1:=((L1.trans L2).trans L3)
  refine Zv S7 Xj V V V (Xm S7.imm x [(Zt nd x1)] _ (Zd x ZV Ye (A5.mono j1) (A6.mono j1) Yd B16 B17 Yf B19 B20 (A7.mono j1) B21 B22 B23 B24 (A8.mono j1)) _ A17) (fun w7 G4 r2 P2 S8 L4=>?_)
  obtain ⟨D3,rfl,R3⟩:=P2
  have T7:=Ze R3
  obtain ⟨v18,v19,v20,v21,rfl,Zaw,QK,A18,A19,Zax,QL,ZaT,B54,ZaU,Zay,A20,ZaB,Zbg,Zbh,Zbi,A21⟩:=T7
  refine WL.store S8 0 _ _ _ 0 _ (QV (Zk x [(Zt nd x1)]) v18 v19 v20 v21) (QV (Zk x [(Zt nd x1)]) v18 v19 v20 v21) _ V V Zg V (ZN V) (by simp only [ZW,A18.oneC,A19.oneC,A20.oneC,A21.oneC] <;> rfl) V V V V V (fun w9 S9=>?_)
  exact YD [.agg (QV (Zk x [(Zt nd x1)]) v18 v19 v20 v21).toArray] S9 ⟨_,_,_,V,V,S9.loadA 0 _ _ _ 0 (QV (Zk x [(Zt nd x1)]) v18 v19 v20 v21) V V V Zg V,V⟩ (Is.cast ⟨_,V,(Zd (Zk x [(Zt nd x1)]) Zaw QK A18 A19 Zax QL ZaT B54 ZaU Zay A20 ZaB Zbg Zbh Zbi A21)⟩ (by with_reducible exact ZdN (by omega) ‹_›))
 refine Zj x.kind 3 V V V (fun h2=>?_) (fun h2=>?_)
 ·have T8:=Sl.at (A8.mono L1) 0 (by (have:=har.1 (by omega); omega))
  obtain ⟨p3,x2,U2,E2,W2⟩:=T8
  obtain ⟨D4,C3,R4⟩:=E2
  have T9:=Ze R4
  obtain ⟨v22,v23,v24,v25,rfl,B61,B62,A22,A23,B63,B64,B65,B66,B67,B68,A24,B69,B70,B71,B72,A25⟩:=T9
  refine dr [(6,true),(7,true),(8,false),(9,false)] [(14, .agg (QV x v5 v6 v7 v9).toArray),(15, .agg (QV nd v1 v2 v3 v4).toArray),(17,v9),(18,Zu p3),(19, .agg (QV x2 v22 v23 v24 v25).toArray)] S3 ⟨fun _ hSw=>Zc hSw C1 (QV x v5 v6 v7 v9) Zg V V V V V <| nu V V,fun _ hSw=>Zs hSw 1 _ _ _ 0 (QV nd v1 v2 v3 v4) V V V Zg V V V <| nu V V,fun _ hSw=>Za hSw (YC.drop 15 C1) ZX V V V <| nu V V,fun _=>Zf 0 W2 ZS Zg V V V V <| nu V V,fun _ hSw=>Zc hSw C3 (QV x2 v22 v23 v24 v25) Zg V V V V V <| nu V V,trivial⟩ (fun w10 S10=>?_)
  refine Zv S10 XW V V V (ih S10.imm nd x2 _ (Zd nd B1 B2 (A1.mono L1) (A2.mono L1) B3 B4 B5 B6 B7 ZK (A3.mono L1) hb9 Z9 Z7 Z6 (A4.mono L1)) _ (Zd x2 B61 B62 A22 A23 B63 B64 B65 B66 B67 B68 A24 B69 B70 B71 B72 A25) (Yp hn (List.mem_of_getElem? ‹_›)) (hw.kid (List.mem_of_getElem? ‹_›))) (fun w11 G5 r3 P3 S11 L5=>?_)
  obtain ⟨D5,rfl,R5⟩:=P3
  have T10:=Ze R5
  obtain ⟨v26,v27,v28,v29,rfl,B73,B74,A26,A27,B75,B76,B77,Zae,B79,B80,A28,B81,B82,B83,ZaC,A29⟩:=T10
  refine ⟨S11.down S10.le L5,?_⟩
  refine WL.buildSlice _ [(0,(QV (Zt nd x2) v26 v27 v28 v29))] (QV (Zt nd x2) v26 v27 v28 v29) S11 YL V V V V (fun z hz=>by match z,hz with | [z0,z1,z2,z3,z4,z5,z6,z7,z8,z9,z10,z11,z12,z13,z14,z15],_=>rfl) (fun b4 w12 N4 S12=>?_)
  refine ⟨S12.tail.down S10.le L5,?_⟩
  have T11:=St.sealSl (E:=QryE) (by_:=224) (l:=([(Zt nd x2)] : List Query)) S12 N4 ⟨(QV (Zt nd x2) v26 v27 v28 v29),_,V,(Zd (Zt nd x2) B73 B74 A26 A27 B75 B76 B77 Zae B79 B80 A28 B81 B82 B83 ZaC A29),V⟩ V (by simp [reach]) (by simp [reach])
  obtain ⟨G6,L6,A30,S13⟩:=T11
  have j2:=((L1.trans L5).trans L6)
  refine Zv S13 Xj V V V (Xm S13.imm x [(Zt nd x2)] _ (Zd x ZV Ye (A5.mono j2) (A6.mono j2) Yd B16 B17 Yf B19 B20 (A7.mono j2) B21 B22 B23 B24 (A8.mono j2)) _ A30) (fun w13 G7 r4 P4 S14 L7=>?_)
  obtain ⟨D6,rfl,R6⟩:=P4
  have T12:=Ze R6
  obtain ⟨v30,v31,v32,v33,rfl,B85,ZaV,A31,A32,B87,B88,B89,B90,B91,B92,A33,B93,B94,B95,B96,A34⟩:=T12
  refine WL.store S14 0 _ _ _ 0 _ (QV (Zk x [(Zt nd x2)]) v30 v31 v32 v33) (QV (Zk x [(Zt nd x2)]) v30 v31 v32 v33) _ V V Zg V (ZN V) (by simp only [ZW,A31.oneC,A32.oneC,A33.oneC,A34.oneC] <;> rfl) V V V V V (fun w14 S15=>?_)
  exact YD [.agg (QV (Zk x [(Zt nd x2)]) v30 v31 v32 v33).toArray] S15 ⟨_,_,_,V,V,S15.loadA 0 _ _ _ 0 (QV (Zk x [(Zt nd x2)]) v30 v31 v32 v33) V V V Zg V,V⟩ (Is.cast ⟨_,V,(Zd (Zk x [(Zt nd x2)]) B85 ZaV A31 A32 B87 B88 B89 B90 B91 B92 A33 B93 B94 B95 B96 A34)⟩ (by with_reducible exact ZdN (by omega) ‹_›))
 refine Zj x.kind 4 V V V (fun h3=>?_) (fun h3=>?_)
 ·have T13:=Sl.at (A8.mono L1) 0 (by (have:=har.1 (by omega); omega))
  obtain ⟨p4,x3,U3,E3,W3⟩:=T13
  obtain ⟨D7,C4,R7⟩:=E3
  have T14:=Ze R7
  obtain ⟨v34,v35,v36,v37,rfl,B97,B98,A35,A36,B99,QA,B102,B103,B104,XV,A37,ZaE,XQ,Xi,QB,A38⟩:=T14
  refine dr [(6,true),(7,true),(8,false),(9,false)] [(14, .agg (QV x v5 v6 v7 v9).toArray),(15, .agg (QV nd v1 v2 v3 v4).toArray),(17,v9),(18,Zu p4),(19, .agg (QV x3 v34 v35 v36 v37).toArray)] S3 ⟨fun _ hSw=>Zc hSw C1 (QV x v5 v6 v7 v9) Zg V V V V V <| nu V V,fun _ hSw=>Zs hSw 1 _ _ _ 0 (QV nd v1 v2 v3 v4) V V V Zg V V V <| nu V V,fun _ hSw=>Za hSw (YC.drop 15 C1) ZX V V V <| nu V V,fun _=>Zf 0 W3 ZS Zg V V V V <| nu V V,fun _ hSw=>Zc hSw C4 (QV x3 v34 v35 v36 v37) Zg V V V V V <| nu V V,trivial⟩ (fun w15 S16=>?_)
  refine Zv S16 XW V V V (ih S16.imm nd x3 _ (Zd nd B1 B2 (A1.mono L1) (A2.mono L1) B3 B4 B5 B6 B7 ZK (A3.mono L1) hb9 Z9 Z7 Z6 (A4.mono L1)) _ (Zd x3 B97 B98 A35 A36 B99 QA B102 B103 B104 XV A37 ZaE XQ Xi QB A38) (Yp hn (List.mem_of_getElem? ‹_›)) (hw.kid (List.mem_of_getElem? ‹_›))) (fun w16 G9 r5 P5 S17 L9=>?_)
  obtain ⟨D8,rfl,R8⟩:=P5
  have T15:=Ze R8
  obtain ⟨v38,v39,v40,v41,rfl,Zal,QS,A39,A40,Zam,Zan,ZaF,Zao,ZaG,XR,A41,ZaH,QT,Zap,Zaq,A42⟩:=T15
  refine ⟨S17.down S16.le L9,?_⟩
  refine WL.buildSlice _ [(0,(QV (Zt nd x3) v38 v39 v40 v41))] (QV (Zt nd x3) v38 v39 v40 v41) S17 YL V V V V (fun z hz=>by match z,hz with | [z0,z1,z2,z3,z4,z5,z6,z7,z8,z9,z10,z11,z12,z13,z14,z15],_=>rfl) (fun b5 w17 N5 S18=>?_)
  refine ⟨S18.tail.down S16.le L9,?_⟩
  have T16:=St.sealSl (E:=QryE) (by_:=224) (l:=([(Zt nd x3)] : List Query)) S18 N5 ⟨(QV (Zt nd x3) v38 v39 v40 v41),_,V,(Zd (Zt nd x3) Zal QS A39 A40 Zam Zan ZaF Zao ZaG XR A41 ZaH QT Zap Zaq A42),V⟩ V (by simp [reach]) (by simp [reach])
  obtain ⟨G10,L10,A43,S19⟩:=T16
  refine Zv S19 Xj V V V (Xm S19.imm x [(Zt nd x3)] _ (Zd x ZV Ye (A5.mono ((L1.trans L9).trans L10)) (A6.mono ((L1.trans L9).trans L10)) Yd B16 B17 Yf B19 B20 (A7.mono ((L1.trans L9).trans L10)) B21 B22 B23 B24 (A8.mono ((L1.trans L9).trans L10))) _ A43) (fun w18 G11 r6 P6 S20 L11=>?_)
  obtain ⟨D9,rfl,R9⟩:=P6
  have T17:=Ze R9
  obtain ⟨v42,v43,v44,v45,rfl,ZaI,ZaJ,A44,A45,Zbt,Zbu,Qm,QU,Zbv,ZbD,A46,Zcb,Zcc,Zcd,B135,A47⟩:=T17
  refine WL.store S20 0 _ _ _ 0 _ (QV (Zk x [(Zt nd x3)]) v42 v43 v44 v45) (QV (Zk x [(Zt nd x3)]) v42 v43 v44 v45) _ V V Zg V (ZN V) (by simp only [ZW,A44.oneC,A45.oneC,A46.oneC,A47.oneC] <;> rfl) V V V V V (fun w19 S21=>?_)
  exact YD [.agg (QV (Zk x [(Zt nd x3)]) v42 v43 v44 v45).toArray] S21 ⟨_,_,_,V,V,S21.loadA 0 _ _ _ 0 (QV (Zk x [(Zt nd x3)]) v42 v43 v44 v45) V V V Zg V,V⟩ (Is.cast ⟨_,V,(Zd (Zk x [(Zt nd x3)]) ZaI ZaJ A44 A45 Zbt Zbu Qm QU Zbv ZbD A46 Zcb Zcc Zcd B135 A47)⟩ (by with_reducible exact ZdN (by omega) ‹_›))
 refine Zj x.kind 9 V V V (fun h4=>?_) (fun h4=>?_)
 ·have T18:=Sl.at (A8.mono L1) 0 (by (have:=har.1 (by omega); omega))
  obtain ⟨p5,x4,U4,E4,W4⟩:=T18
  obtain ⟨D10,C5,R10⟩:=E4
  have T19:=Ze R10
  obtain ⟨v46,v47,v48,v49,rfl,B136,B137,A48,A49,B138,B139,B140,B141,B142,B143,A50,B144,B145,B146,B147,A51⟩:=T19
  refine dr [(6,true),(7,true),(8,false),(9,false)] [(14, .agg (QV x v5 v6 v7 v9).toArray),(15, .agg (QV nd v1 v2 v3 v4).toArray),(17,v9),(18,Zu p5),(19, .agg (QV x4 v46 v47 v48 v49).toArray)] S3 ⟨fun _ hSw=>Zc hSw C1 (QV x v5 v6 v7 v9) Zg V V V V V <| nu V V,fun _ hSw=>Zs hSw 1 _ _ _ 0 (QV nd v1 v2 v3 v4) V V V Zg V V V <| nu V V,fun _ hSw=>Za hSw (YC.drop 15 C1) ZX V V V <| nu V V,fun _=>Zf 0 W4 ZS Zg V V V V <| nu V V,fun _ hSw=>Zc hSw C5 (QV x4 v46 v47 v48 v49) Zg V V V V V <| nu V V,trivial⟩ (fun w20 S22=>?_)
  refine Zv S22 XW V V V (ih S22.imm nd x4 _ (Zd nd B1 B2 (A1.mono L1) (A2.mono L1) B3 B4 B5 B6 B7 ZK (A3.mono L1) hb9 Z9 Z7 Z6 (A4.mono L1)) _ (Zd x4 B136 B137 A48 A49 B138 B139 B140 B141 B142 B143 A50 B144 B145 B146 B147 A51) (Yp hn (List.mem_of_getElem? ‹_›)) (hw.kid (List.mem_of_getElem? ‹_›))) (fun w21 G12 r7 P7 S23 L12=>?_)
  obtain ⟨D11,rfl,R11⟩:=P7
  have T20:=Ze R11
  obtain ⟨v50,v51,v52,v53,rfl,Zdh,B149,A52,A53,B150,B151,B152,B153,B154,B155,A54,B156,Zeg,Zeh,Zar,A55⟩:=T20
  refine ⟨S23.down S22.le L12,?_⟩
  refine WL.buildSlice _ [(0,(QV (Zt nd x4) v50 v51 v52 v53))] (QV (Zt nd x4) v50 v51 v52 v53) S23 YL V V V V (fun z hz=>by match z,hz with | [z0,z1,z2,z3,z4,z5,z6,z7,z8,z9,z10,z11,z12,z13,z14,z15],_=>rfl) (fun b6 w22 N6 S24=>?_)
  refine ⟨S24.tail.down S22.le L12,?_⟩
  have T21:=St.sealSl (E:=QryE) (by_:=224) (l:=([(Zt nd x4)] : List Query)) S24 N6 ⟨(QV (Zt nd x4) v50 v51 v52 v53),_,V,(Zd (Zt nd x4) Zdh B149 A52 A53 B150 B151 B152 B153 B154 B155 A54 B156 Zeg Zeh Zar A55),V⟩ V (by simp [reach]) (by simp [reach])
  obtain ⟨G13,L13,A56,S25⟩:=T21
  have j3:=((L1.trans L12).trans L13)
  refine Zv S25 Xj V V V (Xm S25.imm x [(Zt nd x4)] _ (Zd x ZV Ye (A5.mono j3) (A6.mono j3) Yd B16 B17 Yf B19 B20 (A7.mono j3) B21 B22 B23 B24 (A8.mono j3)) _ A56) (fun w23 G14 r8 P8 S26 L14=>?_)
  obtain ⟨D12,rfl,R12⟩:=P8
  have T22:=Ze R12
  obtain ⟨v54,v55,v56,v57,rfl,Zei,Zej,A57,A58,Zek,Zdi,B164,B165,B166,Zel,A59,B168,B169,B170,B171,A60⟩:=T22
  refine WL.store S26 0 _ _ _ 0 _ (QV (Zk x [(Zt nd x4)]) v54 v55 v56 v57) (QV (Zk x [(Zt nd x4)]) v54 v55 v56 v57) _ V V Zg V (ZN V) (by simp only [ZW,A57.oneC,A58.oneC,A59.oneC,A60.oneC] <;> rfl) V V V V V (fun w24 S27=>?_)
  exact YD [.agg (QV (Zk x [(Zt nd x4)]) v54 v55 v56 v57).toArray] S27 ⟨_,_,_,V,V,S27.loadA 0 _ _ _ 0 (QV (Zk x [(Zt nd x4)]) v54 v55 v56 v57) V V V Zg V,V⟩ (Is.cast ⟨_,V,(Zd (Zk x [(Zt nd x4)]) Zei Zej A57 A58 Zek Zdi B164 B165 B166 Zel A59 B168 B169 B170 B171 A60)⟩ (by with_reducible exact ZdN (by omega) ‹_›))
 refine Zj x.kind 5 V V V (fun h5=>?_) (fun h5=>?_)
 ·have T23:=Sl.at (A8.mono L1) 0 (by (have:=har.2 (by omega); omega))
  obtain ⟨p6,x5,U5,E5,W5⟩:=T23
  obtain ⟨D13,C6,R13⟩:=E5
  have T24:=Ze R13
  obtain ⟨v58,v59,v60,v61,rfl,B172,B173,A61,A62,B174,B175,B176,B177,B178,B179,A63,B180,B181,B182,B183,A64⟩:=T24
  have T25:=Sl.at (A8.mono L1) 1 (by (have:=har.2 (by omega); omega))
  obtain ⟨p7,x6,U6,E6,W6⟩:=T25
  obtain ⟨D14,C7,R14⟩:=E6
  have T26:=Ze R14
  obtain ⟨v62,v63,v64,v65,rfl,B184,B185,A65,A66,B186,B187,B188,B189,B190,B191,A67,B192,B193,B194,B195,A68⟩:=T26
  refine dr [(6,true),(12,true),(13,true),(14,false),(15,false)] [(27, .agg (QV x v5 v6 v7 v9).toArray),(28, .agg (QV nd v1 v2 v3 v4).toArray),(30,v9),(31,Zu p6),(32, .agg (QV x5 v58 v59 v60 v61).toArray),(34, .agg (QV nd v1 v2 v3 v4).toArray),(36,v9),(37,Zu p7),(38, .agg (QV x6 v62 v63 v64 v65).toArray)] S3 ⟨fun _ hSw=>Zc hSw C1 (QV x v5 v6 v7 v9) Zg V V V V V <| nu V V,fun _ hSw=>Zs hSw 1 _ _ _ 0 (QV nd v1 v2 v3 v4) V V V Zg V V V <| nu V V,fun _ hSw=>Za hSw (YC.drop 15 C1) ZX V V V <| nu V V,fun _=>Zf 0 W5 ZS Zg V V V V <| nu V V,fun _ hSw=>Zc hSw C6 (QV x5 v58 v59 v60 v61) Zg V V V V V <| nu V V,fun _ hSw=>Zs hSw 1 _ _ _ 0 (QV nd v1 v2 v3 v4) V V V Zg V V V <| nu V V,fun _ hSw=>Za hSw (YC.drop 15 C1) ZX V V V <| nu V V,fun _=>Zf 1 W6 ZS Zg V V V V <| nu V V,fun _ hSw=>Zc hSw C7 (QV x6 v62 v63 v64 v65) Zg V V V V V <| nu V V,trivial⟩ (fun w25 S28=>?_)
  refine Zv S28 XW V V V (ih S28.imm nd x5 _ (Zd nd B1 B2 (A1.mono L1) (A2.mono L1) B3 B4 B5 B6 B7 ZK (A3.mono L1) hb9 Z9 Z7 Z6 (A4.mono L1)) _ (Zd x5 B172 B173 A61 A62 B174 B175 B176 B177 B178 B179 A63 B180 B181 B182 B183 A64) (Yp hn (List.mem_of_getElem? ‹_›)) (hw.kid (List.mem_of_getElem? ‹_›))) (fun w26 G15 r9 P9 S29 L15=>?_)
  obtain ⟨D15,rfl,R15⟩:=P9
  have T27:=Ze R15
  obtain ⟨v66,v67,v68,v69,rfl,B196,B197,A69,A70,B198,B199,Zem,B201,B202,Zen,A71,Zce,Zc4,Zdj,Zc5,A72⟩:=T27
  refine ⟨S29.down S28.le L15,?_⟩
  have j4:=(L1.trans L15)
  refine Zv S29 XW V V V (ih S29.imm nd x6 _ (Zd nd B1 B2 (A1.mono j4) (A2.mono j4) B3 B4 B5 B6 B7 ZK (A3.mono j4) hb9 Z9 Z7 Z6 (A4.mono j4)) _ (Zd x6 B184 B185 (A65.mono L15) (A66.mono L15) B186 B187 B188 B189 B190 B191 (A67.mono L15) B192 B193 B194 B195 (A68.mono L15)) (Yp hn (List.mem_of_getElem? ‹_›)) (hw.kid (List.mem_of_getElem? ‹_›))) (fun w27 G16 r10 P10 S30 L16=>?_)
  obtain ⟨D16,rfl,R16⟩:=P10
  have T28:=Ze R16
  obtain ⟨v70,v71,v72,v73,rfl,Zdk,Zdl,A73,A74,Zcf,Zcg,Zdm,Zch,QY,Zc6,A75,Qv,ZbE,Zdn,Zas,A76⟩:=T28
  have j5:=(L15.trans L16)
  refine ⟨S30.down S28.le j5,?_⟩
  refine WL.buildSlice _ [(0,(QV (Zt nd x5) v66 v67 v68 v69)),(1,(QV (Zt nd x6) v70 v71 v72 v73))] (QX (Zt nd x5) v66 v67 v68 v69 (Zt nd x6) v70 v71 v72 v73) S30 YL V V V V (fun z hz=>by match z,hz with | [z0,z1,z2,z3,z4,z5,z6,z7,z8,z9,z10,z11,z12,z13,z14,z15,z16,z17,z18,z19,z20,z21,z22,z23,z24,z25,z26,z27,z28,z29,z30,z31],_=>rfl) (fun b7 w28 N7 S31=>?_)
  refine ⟨S31.tail.down S28.le j5,?_⟩
  have T29:=St.sealSl (E:=QryE) (by_:=224) (l:=([(Zt nd x5),(Zt nd x6)] : List Query)) S31 N7 ⟨(QV (Zt nd x5) v66 v67 v68 v69),_,V,(Zd (Zt nd x5) B196 B197 (A69.mono L16) (A70.mono L16) B198 B199 Zem B201 B202 Zen (A71.mono L16) Zce Zc4 Zdj Zc5 (A72.mono L16)),⟨(QV (Zt nd x6) v70 v71 v72 v73),_,V,(Zd (Zt nd x6) Zdk Zdl A73 A74 Zcf Zcg Zdm Zch QY Zc6 A75 Qv ZbE Zdn Zas A76),V⟩⟩ V (by simp [reach]) (by simp [reach])
  obtain ⟨G17,L17,A77,S32⟩:=T29
  have j6:=((j4.trans L16).trans L17)
  refine Zv S32 Xj V V V (Xm S32.imm x [(Zt nd x5),(Zt nd x6)] _ (Zd x ZV Ye (A5.mono j6) (A6.mono j6) Yd B16 B17 Yf B19 B20 (A7.mono j6) B21 B22 B23 B24 (A8.mono j6)) _ A77) (fun w29 G18 r11 P11 S33 L18=>?_)
  obtain ⟨D17,rfl,R17⟩:=P11
  have T30:=Ze R17
  obtain ⟨v74,v75,v76,v77,rfl,Zci,Zc7,A78,A79,Zc8,Zc9,ZcA,Zdo,ZcB,B227,A80,B228,B229,B230,B231,A81⟩:=T30
  refine WL.store S33 0 _ _ _ 0 _ (QV (Zk x [(Zt nd x5),(Zt nd x6)]) v74 v75 v76 v77) (QV (Zk x [(Zt nd x5),(Zt nd x6)]) v74 v75 v76 v77) _ V V Zg V (ZN V) (by simp only [ZW,A78.oneC,A79.oneC,A80.oneC,A81.oneC] <;> rfl) V V V V V (fun w30 S34=>?_)
  exact YD [.agg (QV (Zk x [(Zt nd x5),(Zt nd x6)]) v74 v75 v76 v77).toArray] S34 ⟨_,_,_,V,V,S34.loadA 0 _ _ _ 0 (QV (Zk x [(Zt nd x5),(Zt nd x6)]) v74 v75 v76 v77) V V V Zg V,V⟩ (Is.cast ⟨_,V,(Zd (Zk x [(Zt nd x5),(Zt nd x6)]) Zci Zc7 A78 A79 Zc8 Zc9 ZcA Zdo ZcB B227 A80 B228 B229 B230 B231 A81)⟩ (by with_reducible exact ZfP (by omega) (by assumption : x.l[0]? = some _) (by assumption : x.l[1]? = some _)))
 refine Zj x.kind 6 V V V (fun h6=>?_) (fun h6=>?_)
 ·have T31:=Sl.at (A8.mono L1) 0 (by (have:=har.2 (by omega); omega))
  obtain ⟨p8,x7,U7,E7,W7⟩:=T31
  obtain ⟨D18,C8,R18⟩:=E7
  have T32:=Ze R18
  obtain ⟨v78,v79,v80,v81,rfl,B232,B233,A82,A83,B234,B235,B236,B237,B238,B239,A84,QZ,QC,Zdp,Zcj,A85⟩:=T32
  have T33:=Sl.at (A8.mono L1) 1 (by (have:=har.2 (by omega); omega))
  obtain ⟨p9,x9,U8,E8,W8⟩:=T33
  obtain ⟨D19,C9,R19⟩:=E8
  have T34:=Ze R19
  obtain ⟨v82,v83,v84,v85,rfl,B244,B245,A86,A87,B246,B247,B248,B249,Zeo,Zdq,A88,B252,B253,B254,Zep,A89⟩:=T34
  refine dr [(6,true),(12,true),(13,true),(14,false),(15,false)] [(27, .agg (QV x v5 v6 v7 v9).toArray),(28, .agg (QV nd v1 v2 v3 v4).toArray),(30,v9),(31,Zu p8),(32, .agg (QV x7 v78 v79 v80 v81).toArray),(34, .agg (QV nd v1 v2 v3 v4).toArray),(36,v9),(37,Zu p9),(38, .agg (QV x9 v82 v83 v84 v85).toArray)] S3 ⟨fun _ hSw=>Zc hSw C1 (QV x v5 v6 v7 v9) Zg V V V V V <| nu V V,fun _ hSw=>Zs hSw 1 _ _ _ 0 (QV nd v1 v2 v3 v4) V V V Zg V V V <| nu V V,fun _ hSw=>Za hSw (YC.drop 15 C1) ZX V V V <| nu V V,fun _=>Zf 0 W7 ZS Zg V V V V <| nu V V,fun _ hSw=>Zc hSw C8 (QV x7 v78 v79 v80 v81) Zg V V V V V <| nu V V,fun _ hSw=>Zs hSw 1 _ _ _ 0 (QV nd v1 v2 v3 v4) V V V Zg V V V <| nu V V,fun _ hSw=>Za hSw (YC.drop 15 C1) ZX V V V <| nu V V,fun _=>Zf 1 W8 ZS Zg V V V V <| nu V V,fun _ hSw=>Zc hSw C9 (QV x9 v82 v83 v84 v85) Zg V V V V V <| nu V V,trivial⟩ (fun w31 S35=>?_)
  refine Zv S35 XW V V V (ih S35.imm nd x7 _ (Zd nd B1 B2 (A1.mono L1) (A2.mono L1) B3 B4 B5 B6 B7 ZK (A3.mono L1) hb9 Z9 Z7 Z6 (A4.mono L1)) _ (Zd x7 B232 B233 A82 A83 B234 B235 B236 B237 B238 B239 A84 QZ QC Zdp Zcj A85) (Yp hn (List.mem_of_getElem? ‹_›)) (hw.kid (List.mem_of_getElem? ‹_›))) (fun w32 G19 r12 P12 S36 L19=>?_)
  obtain ⟨D20,rfl,R20⟩:=P12
  have T35:=Ze R20
  obtain ⟨v86,v87,v88,v89,rfl,B256,B257,A90,A91,B258,B259,Zeq,Zer,B262,Zes,A92,B264,Zet,Zeu,Zev,A93⟩:=T35
  refine ⟨S36.down S35.le L19,?_⟩
  have j7:=(L1.trans L19)
  refine Zv S36 XW V V V (ih S36.imm nd x9 _ (Zd nd B1 B2 (A1.mono j7) (A2.mono j7) B3 B4 B5 B6 B7 ZK (A3.mono j7) hb9 Z9 Z7 Z6 (A4.mono j7)) _ (Zd x9 B244 B245 (A86.mono L19) (A87.mono L19) B246 B247 B248 B249 Zeo Zdq (A88.mono L19) B252 B253 B254 Zep (A89.mono L19)) (Yp hn (List.mem_of_getElem? ‹_›)) (hw.kid (List.mem_of_getElem? ‹_›))) (fun w33 G20 r13 P13 S37 L20=>?_)
  obtain ⟨D21,rfl,R21⟩:=P13
  have T36:=Ze R21
  obtain ⟨v90,v91,v92,v93,rfl,B268,B269,A94,A95,B270,B271,B272,B273,B274,B275,A96,B276,B277,B278,B279,A97⟩:=T36
  have j8:=(L19.trans L20)
  refine ⟨S37.down S35.le j8,?_⟩
  refine WL.buildSlice _ [(0,(QV (Zt nd x7) v86 v87 v88 v89)),(1,(QV (Zt nd x9) v90 v91 v92 v93))] (QX (Zt nd x7) v86 v87 v88 v89 (Zt nd x9) v90 v91 v92 v93) S37 YL V V V V (fun z hz=>by match z,hz with | [z0,z1,z2,z3,z4,z5,z6,z7,z8,z9,z10,z11,z12,z13,z14,z15,z16,z17,z18,z19,z20,z21,z22,z23,z24,z25,z26,z27,z28,z29,z30,z31],_=>rfl) (fun b8 w34 N8 S38=>?_)
  refine ⟨S38.tail.down S35.le j8,?_⟩
  have T37:=St.sealSl (E:=QryE) (by_:=224) (l:=([(Zt nd x7),(Zt nd x9)] : List Query)) S38 N8 ⟨(QV (Zt nd x7) v86 v87 v88 v89),_,V,(Zd (Zt nd x7) B256 B257 (A90.mono L20) (A91.mono L20) B258 B259 Zeq Zer B262 Zes (A92.mono L20) B264 Zet Zeu Zev (A93.mono L20)),⟨(QV (Zt nd x9) v90 v91 v92 v93),_,V,(Zd (Zt nd x9) B268 B269 A94 A95 B270 B271 B272 B273 B274 B275 A96 B276 B277 B278 B279 A97),V⟩⟩ V (by simp [reach]) (by simp [reach])
  obtain ⟨G21,L21,A98,S39⟩:=T37
  have j9:=((j7.trans L20).trans L21)
  refine Zv S39 Xj V V V (Xm S39.imm x [(Zt nd x7),(Zt nd x9)] _ (Zd x ZV Ye (A5.mono j9) (A6.mono j9) Yd B16 B17 Yf B19 B20 (A7.mono j9) B21 B22 B23 B24 (A8.mono j9)) _ A98) (fun w35 G22 r14 P14 S40 L22=>?_)
  obtain ⟨D22,rfl,R22⟩:=P14
  have T38:=Ze R22
  obtain ⟨v94,v95,v96,v97,rfl,ZcC,B281,A99,A100,Zat,Zdr,ZbF,Zds,ZcD,Qw,A101,B288,ZcE,ZcF,Zbw,A102⟩:=T38
  refine WL.store S40 0 _ _ _ 0 _ (QV (Zk x [(Zt nd x7),(Zt nd x9)]) v94 v95 v96 v97) (QV (Zk x [(Zt nd x7),(Zt nd x9)]) v94 v95 v96 v97) _ V V Zg V (ZN V) (by simp only [ZW,A99.oneC,A100.oneC,A101.oneC,A102.oneC] <;> rfl) V V V V V (fun w36 S41=>?_)
  exact YD [.agg (QV (Zk x [(Zt nd x7),(Zt nd x9)]) v94 v95 v96 v97).toArray] S41 ⟨_,_,_,V,V,S41.loadA 0 _ _ _ 0 (QV (Zk x [(Zt nd x7),(Zt nd x9)]) v94 v95 v96 v97) V V V Zg V,V⟩ (Is.cast ⟨_,V,(Zd (Zk x [(Zt nd x7),(Zt nd x9)]) ZcC B281 A99 A100 Zat Zdr ZbF Zds ZcD Qw A101 B288 ZcE ZcF Zbw A102)⟩ (by with_reducible exact ZfP (by omega) (by assumption : x.l[0]? = some _) (by assumption : x.l[1]? = some _)))
 refine Zj x.kind 7 V V V (fun h7=>?_) (fun h7=>?_)
 ·have T39:=Sl.at (A8.mono L1) 0 (by (have:=har.2 (by omega); omega))
  obtain ⟨p10,x10,U9,E9,W9⟩:=T39
  obtain ⟨D23,C10,R23⟩:=E9
  have T40:=Ze R23
  obtain ⟨v98,v99,v100,v101,rfl,Zbx,ZbG,A103,A104,B294,B295,B296,B297,B298,B299,A105,B300,B301,B302,B303,A106⟩:=T40
  have T41:=Sl.at (A8.mono L1) 1 (by (have:=har.2 (by omega); omega))
  obtain ⟨p11,x11,U10,E10,W10⟩:=T41
  obtain ⟨D24,C11,R24⟩:=E10
  have T42:=Ze R24
  obtain ⟨v102,v103,v104,v105,rfl,B304,B305,A107,A108,B306,B307,ZcG,Zdt,Zdu,Zba,A109,B312,B313,B314,B315,A110⟩:=T42
  refine dr [(6,true),(12,true),(13,true),(14,false),(15,false)] [(27, .agg (QV x v5 v6 v7 v9).toArray),(28, .agg (QV nd v1 v2 v3 v4).toArray),(30,v9),(31,Zu p10),(32, .agg (QV x10 v98 v99 v100 v101).toArray),(34, .agg (QV nd v1 v2 v3 v4).toArray),(36,v9),(37,Zu p11),(38, .agg (QV x11 v102 v103 v104 v105).toArray)] S3 ⟨fun _ hSw=>Zc hSw C1 (QV x v5 v6 v7 v9) Zg V V V V V <| nu V V,fun _ hSw=>Zs hSw 1 _ _ _ 0 (QV nd v1 v2 v3 v4) V V V Zg V V V <| nu V V,fun _ hSw=>Za hSw (YC.drop 15 C1) ZX V V V <| nu V V,fun _=>Zf 0 W9 ZS Zg V V V V <| nu V V,fun _ hSw=>Zc hSw C10 (QV x10 v98 v99 v100 v101) Zg V V V V V <| nu V V,fun _ hSw=>Zs hSw 1 _ _ _ 0 (QV nd v1 v2 v3 v4) V V V Zg V V V <| nu V V,fun _ hSw=>Za hSw (YC.drop 15 C1) ZX V V V <| nu V V,fun _=>Zf 1 W10 ZS Zg V V V V <| nu V V,fun _ hSw=>Zc hSw C11 (QV x11 v102 v103 v104 v105) Zg V V V V V <| nu V V,trivial⟩ (fun w37 S42=>?_)
  refine Zv S42 XW V V V (ih S42.imm nd x10 _ (Zd nd B1 B2 (A1.mono L1) (A2.mono L1) B3 B4 B5 B6 B7 ZK (A3.mono L1) hb9 Z9 Z7 Z6 (A4.mono L1)) _ (Zd x10 Zbx ZbG A103 A104 B294 B295 B296 B297 B298 B299 A105 B300 B301 B302 B303 A106) (Yp hn (List.mem_of_getElem? ‹_›)) (hw.kid (List.mem_of_getElem? ‹_›))) (fun w38 G23 r15 P15 S43 L23=>?_)
  obtain ⟨D25,rfl,R25⟩:=P15
  have T43:=Ze R25
  obtain ⟨v106,v107,v108,v109,rfl,B316,B317,A111,A112,B318,B319,B320,B321,B322,Zew,A113,Zex,Zey,Zez,Ze0,A114⟩:=T43
  refine ⟨S43.down S42.le L23,?_⟩
  have j10:=(L1.trans L23)
  refine Zv S43 XW V V V (ih S43.imm nd x11 _ (Zd nd B1 B2 (A1.mono j10) (A2.mono j10) B3 B4 B5 B6 B7 ZK (A3.mono j10) hb9 Z9 Z7 Z6 (A4.mono j10)) _ (Zd x11 B304 B305 (A107.mono L23) (A108.mono L23) B306 B307 ZcG Zdt Zdu Zba (A109.mono L23) B312 B313 B314 B315 (A110.mono L23)) (Yp hn (List.mem_of_getElem? ‹_›)) (hw.kid (List.mem_of_getElem? ‹_›))) (fun w39 G24 r16 P16 S44 L24=>?_)
  obtain ⟨D26,rfl,R26⟩:=P16
  have T44:=Ze R26
  obtain ⟨v110,v111,v112,v113,rfl,Ze1,Ze2,A115,A116,B330,B331,B332,B333,B334,B335,A117,B336,B337,B338,ZcH,A118⟩:=T44
  have j11:=(L23.trans L24)
  refine ⟨S44.down S42.le j11,?_⟩
  refine WL.buildSlice _ [(0,(QV (Zt nd x10) v106 v107 v108 v109)),(1,(QV (Zt nd x11) v110 v111 v112 v113))] (QX (Zt nd x10) v106 v107 v108 v109 (Zt nd x11) v110 v111 v112 v113) S44 YL V V V V (fun z hz=>by match z,hz with | [z0,z1,z2,z3,z4,z5,z6,z7,z8,z9,z10,z11,z12,z13,z14,z15,z16,z17,z18,z19,z20,z21,z22,z23,z24,z25,z26,z27,z28,z29,z30,z31],_=>rfl) (fun b9 w40 N9 S45=>?_)
  refine ⟨S45.tail.down S42.le j11,?_⟩
  have T45:=St.sealSl (E:=QryE) (by_:=224) (l:=([(Zt nd x10),(Zt nd x11)] : List Query)) S45 N9 ⟨(QV (Zt nd x10) v106 v107 v108 v109),_,V,(Zd (Zt nd x10) B316 B317 (A111.mono L24) (A112.mono L24) B318 B319 B320 B321 B322 Zew (A113.mono L24) Zex Zey Zez Ze0 (A114.mono L24)),⟨(QV (Zt nd x11) v110 v111 v112 v113),_,V,(Zd (Zt nd x11) Ze1 Ze2 A115 A116 B330 B331 B332 B333 B334 B335 A117 B336 B337 B338 ZcH A118),V⟩⟩ V (by simp [reach]) (by simp [reach])
  obtain ⟨G25,L25,A119,S46⟩:=T45
  have j12:=((j10.trans L24).trans L25)
  refine Zv S46 Xj V V V (Xm S46.imm x [(Zt nd x10),(Zt nd x11)] _ (Zd x ZV Ye (A5.mono j12) (A6.mono j12) Yd B16 B17 Yf B19 B20 (A7.mono j12) B21 B22 B23 B24 (A8.mono j12)) _ A119) (fun w41 G26 r17 P17 S47 L26=>?_)
  obtain ⟨D27,rfl,R27⟩:=P17
  have T46:=Ze R27
  obtain ⟨v114,v115,v116,v117,rfl,Zdv,ZcI,A120,A121,B342,ZcJ,ZbH,Zdw,B346,B347,A122,B348,B349,B350,B351,A123⟩:=T46
  refine WL.store S47 0 _ _ _ 0 _ (QV (Zk x [(Zt nd x10),(Zt nd x11)]) v114 v115 v116 v117) (QV (Zk x [(Zt nd x10),(Zt nd x11)]) v114 v115 v116 v117) _ V V Zg V (ZN V) (by simp only [ZW,A120.oneC,A121.oneC,A122.oneC,A123.oneC] <;> rfl) V V V V V (fun w42 S48=>?_)
  exact YD [.agg (QV (Zk x [(Zt nd x10),(Zt nd x11)]) v114 v115 v116 v117).toArray] S48 ⟨_,_,_,V,V,S48.loadA 0 _ _ _ 0 (QV (Zk x [(Zt nd x10),(Zt nd x11)]) v114 v115 v116 v117) V V V Zg V,V⟩ (Is.cast ⟨_,V,(Zd (Zk x [(Zt nd x10),(Zt nd x11)]) Zdv ZcI A120 A121 B342 ZcJ ZbH Zdw B346 B347 A122 B348 B349 B350 B351 A123)⟩ (by with_reducible exact ZfP (by omega) (by assumption : x.l[0]? = some _) (by assumption : x.l[1]? = some _)))
 refine Zj x.kind 8 V V V (fun h8=>?_) (fun h8=>?_)
 ·refine Zs S3 1 _ _ _ 13 [U nd.span.a,U nd.span.b] V V V Y7 V V V <| Zc S3 (YC.drop 13 C1) [U x.span.a,U x.span.b] Y7 V V V V V <| Zv S3 ZaD V V V (Zqp S3.imm nd.span x.span _ (X2 nd.span Z7 Z6) _ (X2 x.span B23 B24)) ?_
  rintro w43 G27 _ ⟨r19,_,rfl,A124,rfl⟩ S49 L27
  obtain ⟨D28,rfl,R28⟩:=A124
  have T47:=Ql R28
  obtain ⟨rfl,B352,B353⟩:=T47
  refine WL.alloc S49 Y7 V V (fun b10 w44 N10 S50=>?_)
  refine ZY S50 0 [U (((ZR nd.span x.span).1).a),U (((ZR nd.span x.span).1).b)] V V Y7 V V V V V V (fun w45 S51=>?_)
  have T48:=S51.shutB N10
  obtain ⟨G28,L28,C12,S52⟩:=T48
  refine ZgB (d:=51) V (fun (h9 : ((ZR nd.span x.span).2) = true)=>?_) (fun (h9 : ((ZR nd.span x.span).2) = false)=>?_)
  ·refine Zc S52 C12 [U (((ZR nd.span x.span).1).a),U (((ZR nd.span x.span).1).b)] Y7 V V V V V ?_
   refine WL.store S52 1 _ _ _ 13 _ [U (((ZR nd.span x.span).1).a),U (((ZR nd.span x.span).1).b)] [U nd.kind,Zb nd.table,v1,v2,U nd.cond.kind,Zb nd.cond.col,Zb nd.cond.oth,U nd.cond.v.k,U nd.cond.v.n,Zb nd.cond.v.s,v3,U nd.rel,U nd.fn,U (((ZR nd.span x.span).1).a),U (((ZR nd.span x.span).1).b),v4] _ V V Y7 V (ZN V) V V V V V V (fun w46 S53=>?_)
   have j13:=((L1.trans L27).trans L28)
   have T49:=Sl.at (A8.mono j13) 0 (by (have:=har.1 (by omega); omega))
   obtain ⟨p12,x12,U11,E11,W11⟩:=T49
   obtain ⟨D29,C13,R29⟩:=E11
   have T50:=Ze R29
   obtain ⟨v118,v119,v120,v121,rfl,B354,B355,A125,A126,B356,B357,B358,B359,B360,B361,A127,B362,B363,B364,B365,A128⟩:=T50
   refine dr [(5,true),(6,false),(7,false)] [(55, .agg #[U nd.kind,Zb nd.table,v1,v2,U nd.cond.kind,Zb nd.cond.col,Zb nd.cond.oth,U nd.cond.v.k,U nd.cond.v.n,Zb nd.cond.v.s,v3,U nd.rel,U nd.fn,U (((ZR nd.span x.span).1).a),U (((ZR nd.span x.span).1).b),v4]),(57,v9),(58,Zu p12),(59, .agg (QV x12 v118 v119 v120 v121).toArray)] S53 ⟨fun _ hSw=>Zs hSw 1 _ _ _ 0 [U nd.kind,Zb nd.table,v1,v2,U nd.cond.kind,Zb nd.cond.col,Zb nd.cond.oth,U nd.cond.v.k,U nd.cond.v.n,Zb nd.cond.v.s,v3,U nd.rel,U nd.fn,U (((ZR nd.span x.span).1).a),U (((ZR nd.span x.span).1).b),v4] V V V Zg V V V <| nu V V,fun _ hSw=>Za hSw (YC.drop 15 (C1.mono (L27.trans L28))) ZX V V V <| nu V V,fun _=>Zf 0 W11 ZS Zg V V V V <| nu V V,fun _ hSw=>Zc hSw C13 (QV x12 v118 v119 v120 v121) Zg V V V V V <| nu V V,trivial⟩ (fun w47 S54=>?_)
   refine WL.buildSlice _ [(0,(QV x12 v118 v119 v120 v121))] (QV x12 v118 v119 v120 v121) S54 YL V V V V (fun z hz=>by match z,hz with | [z0,z1,z2,z3,z4,z5,z6,z7,z8,z9,z10,z11,z12,z13,z14,z15],_=>rfl) (fun b11 w48 N11 S55=>?_)
   refine ⟨S55.tail.down S54.le (G28.le_refl),?_⟩
   have T51:=St.sealSl (E:=QryE) (by_:=224) (l:=([x12] : List Query)) S55 N11 ⟨(QV x12 v118 v119 v120 v121),_,V,(Zd x12 B354 B355 A125 A126 B356 B357 B358 B359 B360 B361 A127 B362 B363 B364 B365 A128),V⟩ V (by simp [reach]) (by simp [reach])
   obtain ⟨G29,L29,A129,S56⟩:=T51
   have j14:=(j13.trans L29)
   refine Zv S56 Xj V V V (Xm S56.imm (Query.mk nd.kind nd.table nd.cols nd.names nd.cond nd.rel nd.fn ((ZR nd.span x.span).1) nd.l) [x12] _ (Zd (Query.mk nd.kind nd.table nd.cols nd.names nd.cond nd.rel nd.fn ((ZR nd.span x.span).1) nd.l) B1 B2 (A1.mono j14) (A2.mono j14) B3 B4 B5 B6 B7 ZK (A3.mono j14) hb9 Z9 B352 B353 (A4.mono j14)) _ A129) (fun w49 G30 r21 P19 S57 L30=>?_)
   obtain ⟨D30,rfl,R30⟩:=P19
   have T52:=Ze R30
   obtain ⟨v122,v123,v124,v125,rfl,B366,B367,A130,A131,B368,B369,B370,B371,B372,B373,A132,B374,B375,B376,B377,A133⟩:=T52
   refine WL.store S57 0 _ _ _ 0 _ (QV (Zk (Query.mk nd.kind nd.table nd.cols nd.names nd.cond nd.rel nd.fn ((ZR nd.span x.span).1) nd.l) [x12]) v122 v123 v124 v125) (QV (Zk (Query.mk nd.kind nd.table nd.cols nd.names nd.cond nd.rel nd.fn ((ZR nd.span x.span).1) nd.l) [x12]) v122 v123 v124 v125) _ V V Zg V (ZN V) (by simp only [ZW,A130.oneC,A131.oneC,A132.oneC,A133.oneC] <;> rfl) V V V V V (fun w50 S58=>?_)
   exact YD [.agg (QV (Zk (Query.mk nd.kind nd.table nd.cols nd.names nd.cond nd.rel nd.fn ((ZR nd.span x.span).1) nd.l) [x12]) v122 v123 v124 v125).toArray] S58 ⟨_,_,_,V,V,S58.loadA 0 _ _ _ 0 (QV (Zk (Query.mk nd.kind nd.table nd.cols nd.names nd.cond nd.rel nd.fn ((ZR nd.span x.span).1) nd.l) [x12]) v122 v123 v124 v125) V V V Zg V,V⟩ (Is.cast ⟨_,V,(Zd (Zk (Query.mk nd.kind nd.table nd.cols nd.names nd.cond nd.rel nd.fn ((ZR nd.span x.span).1) nd.l) [x12]) B366 B367 A130 A131 B368 B369 B370 B371 B372 B373 A132 B374 B375 B376 B377 A133)⟩ (by with_reducible exact Zmj ‹_› ‹_› ‹_›))
  refine Zs S52 1 _ _ _ 0 (QV nd v1 v2 v3 v4) V V V Zg V V V <| Zc S52 (C1.mono (L27.trans L28)) (QV x v5 v6 v7 v9) Zg V V V V V ?_
  refine WL.buildSlice _ [(0,(QV x v5 v6 v7 v9))] (QV x v5 v6 v7 v9) S52 YL V V V V (fun z hz=>by match z,hz with | [z0,z1,z2,z3,z4,z5,z6,z7,z8,z9,z10,z11,z12,z13,z14,z15],_=>rfl) (fun b12 w51 N12 S59=>?_)
  have j15:=((L1.trans L27).trans L28)
  have T53:=St.sealSl (E:=QryE) (by_:=224) (l:=([x] : List Query)) S59 N12 ⟨(QV x v5 v6 v7 v9),_,V,(Zd x ZV Ye (A5.mono j15) (A6.mono j15) Yd B16 B17 Yf B19 B20 (A7.mono j15) B21 B22 B23 B24 (A8.mono j15)),V⟩ V (by simp [reach]) (by simp [reach])
  obtain ⟨G31,L31,A134,S60⟩:=T53
  have j16:=(j15.trans L31)
  refine Zv S60 Xj V V V (Xm S60.imm nd [x] _ (Zd nd B1 B2 (A1.mono j16) (A2.mono j16) B3 B4 B5 B6 B7 ZK (A3.mono j16) hb9 Z9 Z7 Z6 (A4.mono j16)) _ A134) (fun w52 G32 r22 P20 S61 L32=>?_)
  obtain ⟨D31,rfl,R31⟩:=P20
  have T54:=Ze R31
  obtain ⟨v126,v127,v128,v129,rfl,B378,Ze3,A135,A136,Ze4,B381,B382,B383,B384,B385,A137,B386,B387,B388,B389,A138⟩:=T54
  refine WL.store S61 0 _ _ _ 0 _ (QV (Zk nd [x]) v126 v127 v128 v129) (QV (Zk nd [x]) v126 v127 v128 v129) _ V V Zg V (ZN V) (by simp only [ZW,A135.oneC,A136.oneC,A137.oneC,A138.oneC] <;> rfl) V V V V V (fun w53 S62=>?_)
  exact YD [.agg (QV (Zk nd [x]) v126 v127 v128 v129).toArray] S62 ⟨_,_,_,V,V,S62.loadA 0 _ _ _ 0 (QV (Zk nd [x]) v126 v127 v128 v129) V V V Zg V,V⟩ (Is.cast ⟨_,V,(Zd (Zk nd [x]) B378 Ze3 A135 A136 Ze4 B381 B382 B383 B384 B385 A137 B386 B387 B388 B389 A138)⟩ (by with_reducible exact Zmk ‹_› ‹_›))
 refine Zs S3 1 _ _ _ 0 (QV nd v1 v2 v3 v4) V V V Zg V V V <| Zc S3 C1 (QV x v5 v6 v7 v9) Zg V V V V V ?_
 refine WL.buildSlice _ [(0,(QV x v5 v6 v7 v9))] (QV x v5 v6 v7 v9) S3 YL V V V V (fun z hz=>by match z,hz with | [z0,z1,z2,z3,z4,z5,z6,z7,z8,z9,z10,z11,z12,z13,z14,z15],_=>rfl) (fun b13 w54 N13 S63=>?_)
 have T55:=St.sealSl (E:=QryE) (by_:=224) (l:=([x] : List Query)) S63 N13 ⟨(QV x v5 v6 v7 v9),_,V,(Zd x ZV Ye (A5.mono L1) (A6.mono L1) Yd B16 B17 Yf B19 B20 (A7.mono L1) B21 B22 B23 B24 (A8.mono L1)),V⟩ V (by simp [reach]) (by simp [reach])
 obtain ⟨G33,L33,A139,S64⟩:=T55
 have j17:=(L1.trans L33)
 refine Zv S64 Xj V V V (Xm S64.imm nd [x] _ (Zd nd B1 B2 (A1.mono j17) (A2.mono j17) B3 B4 B5 B6 B7 ZK (A3.mono j17) hb9 Z9 Z7 Z6 (A4.mono j17)) _ A139) (fun w55 G34 r23 P21 S65 L34=>?_)
 obtain ⟨D32,rfl,R32⟩:=P21
 have T56:=Ze R32
 obtain ⟨v130,v131,v132,v133,rfl,B390,B391,A140,A141,B392,B393,B394,B395,B396,Zdx,A142,Zdy,B399,B400,B401,A143⟩:=T56
 refine WL.store S65 0 _ _ _ 0 _ (QV (Zk nd [x]) v130 v131 v132 v133) (QV (Zk nd [x]) v130 v131 v132 v133) _ V V Zg V (ZN V) (by simp only [ZW,A140.oneC,A141.oneC,A142.oneC,A143.oneC] <;> rfl) V V V V V (fun w56 S66=>?_)
 exact YD [.agg (QV (Zk nd [x]) v130 v131 v132 v133).toArray] S66 ⟨_,_,_,V,V,S66.loadA 0 _ _ _ 0 (QV (Zk nd [x]) v130 v131 v132 v133) V V V Zg V,V⟩ (Is.cast ⟨_,V,(Zd (Zk nd [x]) B390 B391 A140 A141 B392 B393 B394 B395 B396 Zdx A142 Zdy B399 B400 B401 A143)⟩ (by with_reducible exact Zkn ‹_› ‹_› ‹_› ‹_› ‹_› ‹_› ‹_› ‹_›))
end Go.Civ
