/- Lemmas. -/
import Derived.Test.YtcopkjhdncdnmaaGreatDoorP48
set_option linter.unusedVariables false
set_option linter.unusedSimpArgs false
set_option linter.unnecessarySimpa false
set_option maxRecDepth 100000
set_option maxHeartbeats 4000000
namespace Go.Civ
open Go.Proofs
theorem Zl9 {G : GH} {w : World} (hG : G.In w) (hg : Glob G) : CL Tryz.prog (nat_lit 8) #[] [] w G fun _ _ r=>r = .bool true:=by
 refine Zo ft [] Tryz.func8 V V ?_
 have hS:=St.start (X:=[]) hG
 refine WL.build _ [(0,[Zb [97]]),(1,[U 1])] [Zb [97],U 1] Ym V Zo4 V V V V ?_
 refine WL.buildSlice _ [(0,[Zb [97],U 1])] [Zb [97],U 1] hS YF V V V V (fun z hz=>by match z,hz with | [z0,z1],_=>rfl) (fun b1 w1 N1 S1=>?_)
 have T1:=St.sealSl (E:=ColE) (by_:=24) (l:=([(Col.mk [97] 1)] : List Col)) S1 N1 ⟨[Zb [97],U 1],_,V,(Xz (Col.mk [97] 1) (by simp [reach]) (show ZM 1 from by constructor <;> decide)),V⟩ V (by simp [reach]) (by simp [reach])
 obtain ⟨G1,L1,A1,S2⟩:=T1
 refine WL.build _ [(0,[Zb [116]]),(1,[.slice (some ⟨b1,0,none⟩) 1 1]),(2,[U 1])] [Zb [116], .slice (some ⟨b1,0,none⟩) 1 1,U 1,Zh] Xu V ZqX V V V V ?_
 refine WL.buildSlice _ [(0,[Zb [116], .slice (some ⟨b1,0,none⟩) 1 1,U 1,Zh])] [Zb [116], .slice (some ⟨b1,0,none⟩) 1 1,U 1,Zh] S2 Ztk V V V V (fun z hz=>by match z,hz with | [z0,z1,z2,z3],_=>rfl) (fun b2 w2 N2 S3=>?_)
 refine WL.build _ [(0,[U 0]),(1,[U 10])] [U 0,U 10] Y7 V ZeH V V V V ?_
 refine WL.alloc S3 Y7 V V (fun b3 w3 N3 S4=>?_)
 refine ZY S4 0 [U 0,U 10] V V Y7 V V V V V V (fun w4 S5=>?_)
 have T2:=S5.shutB N3
 obtain ⟨G2,L2,C1,S6⟩:=T2
 refine WL.build _ [(0,[U 1]),(1,[Zb [116]])] [U 1,Zb [116],Zh,Zh,U 0,Zb [],Zb [],U 0,U 0,Zb [],Zh,U 0,U 0,U 0,U 0,Zh] Zg V ZgG V V V V ?_
 refine WL.alloc S6 Zg V V (fun b4 w5 N4 S7=>?_)
 refine ZY S7 0 [U 1,Zb [116],Zh,Zh,U 0,Zb [],Zb [],U 0,U 0,Zb [],Zh,U 0,U 0,U 0,U 0,Zh] V V Zg V V V V V V (fun w6 S8=>?_)
 have T3:=S8.shutB N4
 obtain ⟨G3,L3,C2,S9⟩:=T3
 refine WL.build _ [(0,[U 1]),(1,[U 3])] [U 1,U 3,Zb []] X5 V ZlP V V V V <| WL.build _ [(0,[U 2]),(1,[Zb [97]]),(3,[U 1,U 3,Zb []])] [U 2,Zb [97],Zb [],U 1,U 3,Zb [],Zh] Z5 V ZfE V V V V ?_
 refine WL.alloc S9 Z5 V V (fun b5 w7 N5 S10=>?_)
 refine ZY S10 0 [U 2,Zb [97],Zb [],U 1,U 3,Zb [],Zh] V V Z5 V V V V V V (fun w9 S11=>?_)
 have T4:=S11.shutB N5
 obtain ⟨G4,L4,C3,S12⟩:=T4
 refine Zc S12 (C1.mono (L3.trans L4)) [U 0,U 10] Y7 V V V V V <| Zc S12 C3 [U 2,Zb [97],Zb [],U 1,U 3,Zb [],Zh] Z5 V V V V V <| Zc S12 (C2.mono L4) [U 1,Zb [116],Zh,Zh,U 0,Zb [],Zb [],U 0,U 0,Zb [],Zh,U 0,U 0,U 0,U 0,Zh] Zg V V V V V ?_
 refine WL.buildSlice _ [(0,[U 1,Zb [116],Zh,Zh,U 0,Zb [],Zb [],U 0,U 0,Zb [],Zh,U 0,U 0,U 0,U 0,Zh])] [U 1,Zb [116],Zh,Zh,U 0,Zb [],Zb [],U 0,U 0,Zb [],Zh,U 0,U 0,U 0,U 0,Zh] S12 YL V V V V (fun z hz=>by match z,hz with | [z0,z1,z2,z3,z4,z5,z6,z7,z8,z9,z10,z11,z12,z13,z14,z15],_=>rfl) (fun b6 w10 N6 S13=>?_)
 have T5:=St.sealSl (E:=QryE) (by_:=224) (l:=([(Query.mk 1 [116] [] [] (Cond.mk 0 [] [] (Val.mk 0 0 []) []) 0 0 (Span.mk 0 0) [])] : List Query)) S13 N6 ⟨[U 1,Zb [116],Zh,Zh,U 0,Zb [],Zb [],U 0,U 0,Zb [],Zh,U 0,U 0,U 0,U 0,Zh],_,V,(Zd (Query.mk 1 [116] [] [] (Cond.mk 0 [] [] (Val.mk 0 0 []) []) 0 0 (Span.mk 0 0) []) (show ZM 1 from by constructor <;> decide) (by simp [reach]) (Sl.nil Enc.str 16 G4) (Sl.nil Enc.str 16 G4) Yr (by simp [reach]) (by simp [reach]) Yr Yr (by simp [reach]) (Sl.nil CndE 96 G4) Yr Yr Yr Yr (Sl.nil QryE 224 G4)),V⟩ V (by simp [reach]) (by simp [reach])
 obtain ⟨G5,L5,A2,S14⟩:=T5
 refine WL.build _ [(0,[U 2]),(4,[U 2,Zb [97],Zb [],U 1,U 3,Zb [],Zh]),(8,[.slice (some ⟨b6,0,none⟩) 1 1])] [U 2,Zb [],Zh,Zh,U 2,Zb [97],Zb [],U 1,U 3,Zb [],Zh,U 0,U 0,U 0,U 0, .slice (some ⟨b6,0,none⟩) 1 1] Zg V ZgG V V V V ?_
 refine WL.buildSlice _ [(0,[U 2,Zb [],Zh,Zh,U 2,Zb [97],Zb [],U 1,U 3,Zb [],Zh,U 0,U 0,U 0,U 0, .slice (some ⟨b6,0,none⟩) 1 1])] [U 2,Zb [],Zh,Zh,U 2,Zb [97],Zb [],U 1,U 3,Zb [],Zh,U 0,U 0,U 0,U 0, .slice (some ⟨b6,0,none⟩) 1 1] S14 YL V V V V (fun z hz=>by match z,hz with | [z0,z1,z2,z3,z4,z5,z6,z7,z8,z9,z10,z11,z12,z13,z14,z15],_=>rfl) (fun b7 w11 N7 S15=>?_)
 have T6:=St.sealSl (E:=QryE) (by_:=224) (l:=([(Query.mk 2 [] [] [] (Cond.mk 2 [97] [] (Val.mk 1 3 []) []) 0 0 (Span.mk 0 0) [(Query.mk 1 [116] [] [] (Cond.mk 0 [] [] (Val.mk 0 0 []) []) 0 0 (Span.mk 0 0) [])])] : List Query)) S15 N7 ⟨[U 2,Zb [],Zh,Zh,U 2,Zb [97],Zb [],U 1,U 3,Zb [],Zh,U 0,U 0,U 0,U 0, .slice (some ⟨b6,0,none⟩) 1 1],_,V,(Zd (Query.mk 2 [] [] [] (Cond.mk 2 [97] [] (Val.mk 1 3 []) []) 0 0 (Span.mk 0 0) [(Query.mk 1 [116] [] [] (Cond.mk 0 [] [] (Val.mk 0 0 []) []) 0 0 (Span.mk 0 0) [])]) (show ZM 2 from by constructor <;> decide) (by simp [reach]) (Sl.nil Enc.str 16 G5) (Sl.nil Enc.str 16 G5) (show ZM 2 from by constructor <;> decide) (by simp [reach]) (by simp [reach]) (show ZM 1 from by constructor <;> decide) (show ZM 3 from by constructor <;> decide) (by simp [reach]) (Sl.nil CndE 96 G5) Yr Yr Yr Yr A2),V⟩ V (by simp [reach]) (by simp [reach])
 obtain ⟨G6,L6,A3,S16⟩:=T6
 refine WL.build _ [(0,[U 8]),(7,[U 0,U 10]),(8,[.slice (some ⟨b7,0,none⟩) 1 1])] [U 8,Zb [],Zh,Zh,U 0,Zb [],Zb [],U 0,U 0,Zb [],Zh,U 0,U 0,U 0,U 10, .slice (some ⟨b7,0,none⟩) 1 1] Zg V ZgG V V V V ?_
 refine WL.alloc S16 Zg V V (fun b8 w12 N8 S17=>?_)
 refine ZY S17 0 [U 8,Zb [],Zh,Zh,U 0,Zb [],Zb [],U 0,U 0,Zb [],Zh,U 0,U 0,U 0,U 10, .slice (some ⟨b7,0,none⟩) 1 1] V V Zg V V (by simp only [ZW,A3.oneC] <;> rfl) V V V (fun w13 S18=>?_)
 have T7:=S18.shutB N8
 obtain ⟨G7,L7,C4,S19⟩:=T7
 refine Zc S19 C4 [U 8,Zb [],Zh,Zh,U 0,Zb [],Zb [],U 0,U 0,Zb [],Zh,U 0,U 0,U 0,U 10, .slice (some ⟨b7,0,none⟩) 1 1] Zg V V V V V ?_
 have T8:=St.sealSl (E:=SchemaE) (by_:=72) (l:=([(Schema.mk [116] [(Col.mk [97] 1)] 1 [])] : List Schema)) S19 N2 ⟨[Zb [116], .slice (some ⟨b1,0,none⟩) 1 1,U 1,Zh],_,V,(Qu (Schema.mk [116] [(Col.mk [97] 1)] 1 []) (by simp [reach]) (A1.mono (((((L2.trans L3).trans L4).trans L5).trans L6).trans L7)) (show ZM 1 from by constructor <;> decide) (Sl.nil ForeignE 40 G7)),V⟩ V (by simp [reach]) (by simp [reach])
 obtain ⟨G9,L9,A4,S20⟩:=T8
 refine Zv S20 X6 V V V (ZsE S20.imm (Query.mk 8 [] [] [] (Cond.mk 0 [] [] (Val.mk 0 0 []) []) 0 0 (Span.mk 0 10) [(Query.mk 2 [] [] [] (Cond.mk 2 [97] [] (Val.mk 1 3 []) []) 0 0 (Span.mk 0 0) [(Query.mk 1 [116] [] [] (Cond.mk 0 [] [] (Val.mk 0 0 []) []) 0 0 (Span.mk 0 0) [])])]) [(Schema.mk [116] [(Col.mk [97] 1)] 1 [])] (hg.mono (((((((L1.trans L2).trans L3).trans L4).trans L5).trans L6).trans L7).trans L9)) _ (Zd (Query.mk 8 [] [] [] (Cond.mk 0 [] [] (Val.mk 0 0 []) []) 0 0 (Span.mk 0 10) [(Query.mk 2 [] [] [] (Cond.mk 2 [97] [] (Val.mk 1 3 []) []) 0 0 (Span.mk 0 0) [(Query.mk 1 [116] [] [] (Cond.mk 0 [] [] (Val.mk 0 0 []) []) 0 0 (Span.mk 0 0) [])])]) (show ZM 8 from by constructor <;> decide) (by simp [reach]) (Sl.nil Enc.str 16 G9) (Sl.nil Enc.str 16 G9) Yr (by simp [reach]) (by simp [reach]) Yr Yr (by simp [reach]) (Sl.nil CndE 96 G9) Yr Yr (show ZM 0 from by constructor <;> decide) (show ZM 10 from by constructor <;> decide) (A3.mono (L7.trans L9))) _ A4 (ZpC _)) ?_
 rintro w14 G10 _ ⟨r2,_,rfl,A5,rfl⟩ S21 L10
 obtain ⟨D1,rfl,R1⟩:=A5
 have T9:=ZnL R1
 obtain ⟨v1,v2,rfl,A6,A7⟩:=T9
 refine WL.alloc S21 Zfg V V (fun b9 w15 N9 S22=>?_)
 refine ZY S22 0 [v1,v2] V V Zfg V V (by simp only [ZW,A6.oneC,A7.oneC] <;> rfl) V V V (fun w16 S23=>?_)
 have T10:=S23.shutB N9
 obtain ⟨G11,L11,C5,S24⟩:=T10
 refine Zc S24 (C4.mono ((L9.trans L10).trans L11)) [U 8,Zb [],Zh,Zh,U 0,Zb [],Zb [],U 0,U 0,Zb [],Zh,U 0,U 0,U 0,U 10, .slice (some ⟨b7,0,none⟩) 1 1] Zg V V V V V ?_
 refine Zv S24 Z9 V V V (Zl0 S24.imm (Query.mk 8 [] [] [] (Cond.mk 0 [] [] (Val.mk 0 0 []) []) 0 0 (Span.mk 0 10) [(Query.mk 2 [] [] [] (Cond.mk 2 [97] [] (Val.mk 1 3 []) []) 0 0 (Span.mk 0 0) [(Query.mk 1 [116] [] [] (Cond.mk 0 [] [] (Val.mk 0 0 []) []) 0 0 (Span.mk 0 0) [])])]) [(Schema.mk [116] [(Col.mk [97] 1)] 1 [])] (hg.mono (((((((((L1.trans L2).trans L3).trans L4).trans L5).trans L6).trans L7).trans L9).trans L10).trans L11)) _ (Zd (Query.mk 8 [] [] [] (Cond.mk 0 [] [] (Val.mk 0 0 []) []) 0 0 (Span.mk 0 10) [(Query.mk 2 [] [] [] (Cond.mk 2 [97] [] (Val.mk 1 3 []) []) 0 0 (Span.mk 0 0) [(Query.mk 1 [116] [] [] (Cond.mk 0 [] [] (Val.mk 0 0 []) []) 0 0 (Span.mk 0 0) [])])]) (show ZM 8 from by constructor <;> decide) (by simp [reach]) (Sl.nil Enc.str 16 G11) (Sl.nil Enc.str 16 G11) Yr (by simp [reach]) (by simp [reach]) Yr Yr (by simp [reach]) (Sl.nil CndE 96 G11) Yr Yr (show ZM 0 from by constructor <;> decide) (show ZM 10 from by constructor <;> decide) (A3.mono (((L7.trans L9).trans L10).trans L11))) _ (A4.mono (L10.trans L11)) (ZpC _)) ?_
 rintro w17 G12 _ ⟨r5,_,rfl,A8,rfl⟩ S25 L12
 obtain ⟨D2,rfl,R2⟩:=A8
 have T11:=Ze R2
 obtain ⟨v3,v4,v5,v6,rfl,B1,B2,A9,A10,B3,B4,B5,B6,B7,ZK,A11,hb9,Z7,Z6,ZV,A12⟩:=T11
 refine WL.alloc S25 Zg V V (fun b10 w18 N10 S26=>?_)
 refine WL.store S26 0 _ _ _ 0 _ (QV ((Yv (Query.mk 8 [] [] [] (Cond.mk 0 [] [] (Val.mk 0 0 []) []) 0 0 (Span.mk 0 10) [(Query.mk 2 [] [] [] (Cond.mk 2 [97] [] (Val.mk 1 3 []) []) 0 0 (Span.mk 0 0) [(Query.mk 1 [116] [] [] (Cond.mk 0 [] [] (Val.mk 0 0 []) []) 0 0 (Span.mk 0 0) [])])]) [(Schema.mk [116] [(Col.mk [97] 1)] 1 [])]).1) v3 v4 v5 v6) (QV ((Yv (Query.mk 8 [] [] [] (Cond.mk 0 [] [] (Val.mk 0 0 []) []) 0 0 (Span.mk 0 10) [(Query.mk 2 [] [] [] (Cond.mk 2 [97] [] (Val.mk 1 3 []) []) 0 0 (Span.mk 0 0) [(Query.mk 1 [116] [] [] (Cond.mk 0 [] [] (Val.mk 0 0 []) []) 0 0 (Span.mk 0 0) [])])]) [(Schema.mk [116] [(Col.mk [97] 1)] 1 [])]).1) v3 v4 v5 v6) _ V V Zg V (ZN V) (by simp only [ZW,A9.oneC,A10.oneC,A11.oneC,A12.oneC] <;> rfl) V V V V V (fun w19 S27=>?_)
 have T12:=S27.shutB N10
 obtain ⟨G13,L13,C6,S28⟩:=T12
 have T13:=Cmp.dec .eql ((ofT (Query.mk 8 [] [] [] (Cond.mk 0 [] [] (Val.mk 0 0 []) []) 0 0 (Span.mk 0 10) [(Query.mk 2 [] [] [] (Cond.mk 2 [97] [] (Val.mk 1 3 []) []) 0 0 (Span.mk 0 0) [(Query.mk 1 [116] [] [] (Cond.mk 0 [] [] (Val.mk 0 0 []) []) 0 0 (Span.mk 0 0) [])])]) [(Schema.mk [116] [(Col.mk [97] 1)] 1 [])]).2) 0
 rcases T13 with ⟨Ye,q1⟩ | ⟨Ye,q1⟩
 ·have h1 : ((ofT (Query.mk 8 [] [] [] (Cond.mk 0 [] [] (Val.mk 0 0 []) []) 0 0 (Span.mk 0 10) [(Query.mk 2 [] [] [] (Cond.mk 2 [97] [] (Val.mk 1 3 []) []) 0 0 (Span.mk 0 0) [(Query.mk 1 [116] [] [] (Cond.mk 0 [] [] (Val.mk 0 0 []) []) 0 0 (Span.mk 0 0) [])])]) [(Schema.mk [116] [(Col.mk [97] 1)] 1 [])]).2) = 0:=q1
  clear q1
  have T14:=Cmp.dec .eql ((Yv (Query.mk 8 [] [] [] (Cond.mk 0 [] [] (Val.mk 0 0 []) []) 0 0 (Span.mk 0 10) [(Query.mk 2 [] [] [] (Cond.mk 2 [97] [] (Val.mk 1 3 []) []) 0 0 (Span.mk 0 0) [(Query.mk 1 [116] [] [] (Cond.mk 0 [] [] (Val.mk 0 0 []) []) 0 0 (Span.mk 0 0) [])])]) [(Schema.mk [116] [(Col.mk [97] 1)] 1 [])]).2) 0
  rcases T14 with ⟨Yd,q2⟩ | ⟨Yd,q2⟩
  ·have h2 : ((Yv (Query.mk 8 [] [] [] (Cond.mk 0 [] [] (Val.mk 0 0 []) []) 0 0 (Span.mk 0 10) [(Query.mk 2 [] [] [] (Cond.mk 2 [97] [] (Val.mk 1 3 []) []) 0 0 (Span.mk 0 0) [(Query.mk 1 [116] [] [] (Cond.mk 0 [] [] (Val.mk 0 0 []) []) 0 0 (Span.mk 0 0) [])])]) [(Schema.mk [116] [(Col.mk [97] 1)] 1 [])]).2) = 0:=q2
   clear q2
   have V1:=A6.bound
   have T15:=Cmp.dec .eql (((((ofT (Query.mk 8 [] [] [] (Cond.mk 0 [] [] (Val.mk 0 0 []) []) 0 0 (Span.mk 0 10) [(Query.mk 2 [] [] [] (Cond.mk 2 [97] [] (Val.mk 1 3 []) []) 0 0 (Span.mk 0 0) [(Query.mk 1 [116] [] [] (Cond.mk 0 [] [] (Val.mk 0 0 []) []) 0 0 (Span.mk 0 0) [])])]) [(Schema.mk [116] [(Col.mk [97] 1)] 1 [])]).1).steps).length : Nat) : Int) 3
   rcases T15 with ⟨B16,q3⟩ | ⟨B16,q3⟩
   ·have h3 : (((((ofT (Query.mk 8 [] [] [] (Cond.mk 0 [] [] (Val.mk 0 0 []) []) 0 0 (Span.mk 0 10) [(Query.mk 2 [] [] [] (Cond.mk 2 [97] [] (Val.mk 1 3 []) []) 0 0 (Span.mk 0 0) [(Query.mk 1 [116] [] [] (Cond.mk 0 [] [] (Val.mk 0 0 []) []) 0 0 (Span.mk 0 0) [])])]) [(Schema.mk [116] [(Col.mk [97] 1)] 1 [])]).1).steps).length : Nat) : Int) = 3:=q3
    clear q3
    have j1:=((L11.trans L12).trans L13)
    have T16:=Sl.at (A6.mono j1) 0 (by omega)
    obtain ⟨p1,x1,U1,E1,W1⟩:=T16
    obtain ⟨D3,C7,R3⟩:=E1
    have T17:=ZnI R3
    obtain ⟨v7,v9,v10,v11,v12,rfl,B17,Yf,A13,A14,B19,B20,B21,B22,B23,B24,A15,B26,B27,B28,B29,A16,B30,B31,A17,B32,B33⟩:=T17
    have T18:=Classical.em (x1.span = (Span.mk 0 10))
    rcases T18 with h4 | h4
    ·have T19:=Cmp.dec .eql (((Yv (Query.mk 8 [] [] [] (Cond.mk 0 [] [] (Val.mk 0 0 []) []) 0 0 (Span.mk 0 10) [(Query.mk 2 [] [] [] (Cond.mk 2 [97] [] (Val.mk 1 3 []) []) 0 0 (Span.mk 0 0) [(Query.mk 1 [116] [] [] (Cond.mk 0 [] [] (Val.mk 0 0 []) []) 0 0 (Span.mk 0 0) [])])]) [(Schema.mk [116] [(Col.mk [97] 1)] 1 [])]).1).kind) 2
     rcases T19 with ⟨XM,q4⟩ | ⟨XM,q4⟩
     ·have h5 : ((Yv (Query.mk 8 [] [] [] (Cond.mk 0 [] [] (Val.mk 0 0 []) []) 0 0 (Span.mk 0 10) [(Query.mk 2 [] [] [] (Cond.mk 2 [97] [] (Val.mk 1 3 []) []) 0 0 (Span.mk 0 0) [(Query.mk 1 [116] [] [] (Cond.mk 0 [] [] (Val.mk 0 0 []) []) 0 0 (Span.mk 0 0) [])])]) [(Schema.mk [116] [(Col.mk [97] 1)] 1 [])]).1).kind = 2:=q4
      clear q4
      have V2:=A12.bound
      have T20:=Cmp.dec .eql (((((Yv (Query.mk 8 [] [] [] (Cond.mk 0 [] [] (Val.mk 0 0 []) []) 0 0 (Span.mk 0 10) [(Query.mk 2 [] [] [] (Cond.mk 2 [97] [] (Val.mk 1 3 []) []) 0 0 (Span.mk 0 0) [(Query.mk 1 [116] [] [] (Cond.mk 0 [] [] (Val.mk 0 0 []) []) 0 0 (Span.mk 0 0) [])])]) [(Schema.mk [116] [(Col.mk [97] 1)] 1 [])]).1).l).length : Nat) : Int) 1
      rcases T20 with ⟨B35,q5⟩ | ⟨B35,q5⟩
      ·have h6 : (((((Yv (Query.mk 8 [] [] [] (Cond.mk 0 [] [] (Val.mk 0 0 []) []) 0 0 (Span.mk 0 10) [(Query.mk 2 [] [] [] (Cond.mk 2 [97] [] (Val.mk 1 3 []) []) 0 0 (Span.mk 0 0) [(Query.mk 1 [116] [] [] (Cond.mk 0 [] [] (Val.mk 0 0 []) []) 0 0 (Span.mk 0 0) [])])]) [(Schema.mk [116] [(Col.mk [97] 1)] 1 [])]).1).l).length : Nat) : Int) = 1:=q5
       clear q5
       have T21:=Sl.at (A12.mono L13) 0 (by omega)
       obtain ⟨p2,x2,U2,E2,W2⟩:=T21
       obtain ⟨D4,C8,R4⟩:=E2
       have T22:=Ze R4
       obtain ⟨v13,v14,v15,v16,rfl,B36,B37,A18,A19,B38,Qj,Qk,XN,Qo,Zac,A20,Q5,Zad,Qt,QJ,A21⟩:=T22
       refine dr [(40,false)] [(38, .bool true),(41, .bool true),(45,v1),(46,U (((((ofT (Query.mk 8 [] [] [] (Cond.mk 0 [] [] (Val.mk 0 0 []) []) 0 0 (Span.mk 0 10) [(Query.mk 2 [] [] [] (Cond.mk 2 [97] [] (Val.mk 1 3 []) []) 0 0 (Span.mk 0 0) [(Query.mk 1 [116] [] [] (Cond.mk 0 [] [] (Val.mk 0 0 []) []) 0 0 (Span.mk 0 0) [])])]) [(Schema.mk [116] [(Col.mk [97] 1)] 1 [])]).1).steps).length : Nat) : Int)),(47, .bool true),(51,v1),(52,Zu p1),(54, .agg #[U x1.span.a,U x1.span.b]),(55, .agg #[U 0,U 10]),(56, .bool true),(60,U (((Yv (Query.mk 8 [] [] [] (Cond.mk 0 [] [] (Val.mk 0 0 []) []) 0 0 (Span.mk 0 10) [(Query.mk 2 [] [] [] (Cond.mk 2 [97] [] (Val.mk 1 3 []) []) 0 0 (Span.mk 0 0) [(Query.mk 1 [116] [] [] (Cond.mk 0 [] [] (Val.mk 0 0 []) []) 0 0 (Span.mk 0 0) [])])]) [(Schema.mk [116] [(Col.mk [97] 1)] 1 [])]).1).kind)),(61, .bool true),(65,v6),(66,U (((((Yv (Query.mk 8 [] [] [] (Cond.mk 0 [] [] (Val.mk 0 0 []) []) 0 0 (Span.mk 0 10) [(Query.mk 2 [] [] [] (Cond.mk 2 [97] [] (Val.mk 1 3 []) []) 0 0 (Span.mk 0 0) [(Query.mk 1 [116] [] [] (Cond.mk 0 [] [] (Val.mk 0 0 []) []) 0 0 (Span.mk 0 0) [])])]) [(Schema.mk [116] [(Col.mk [97] 1)] 1 [])]).1).l).length : Nat) : Int)),(67, .bool true),(71,v6),(72,Zu p2),(74,U x2.kind),(75, .bool (Cmp.b .eql x2.kind 8))] S28 ⟨fun _=>WL.cmpV .eql V .i64 ((ofT (Query.mk 8 [] [] [] (Cond.mk 0 [] [] (Val.mk 0 0 []) []) 0 0 (Span.mk 0 10) [(Query.mk 2 [] [] [] (Cond.mk 2 [97] [] (Val.mk 1 3 []) []) 0 0 (Span.mk 0 0) [(Query.mk 1 [116] [] [] (Cond.mk 0 [] [] (Val.mk 0 0 []) []) 0 0 (Span.mk 0 0) [])])]) [(Schema.mk [116] [(Col.mk [97] 1)] 1 [])]).2) 0 _ Ye V V V <| nu V V,fun _=>WL.cmpV .eql V .i64 ((Yv (Query.mk 8 [] [] [] (Cond.mk 0 [] [] (Val.mk 0 0 []) []) 0 0 (Span.mk 0 10) [(Query.mk 2 [] [] [] (Cond.mk 2 [97] [] (Val.mk 1 3 []) []) 0 0 (Span.mk 0 0) [(Query.mk 1 [116] [] [] (Cond.mk 0 [] [] (Val.mk 0 0 []) []) 0 0 (Span.mk 0 0) [])])]) [(Schema.mk [116] [(Col.mk [97] 1)] 1 [])]).2) 0 _ Yd V V V <| nu V V,fun _ hSw=>Za hSw (YC.drop 0 (C5.mono (L12.trans L13))) Zca V V V <| nu V V,fun _=>Zl (A6.mono j1) ZfF V V <| nu V V,fun _=>WL.cmpV .eql V .i64 (((((ofT (Query.mk 8 [] [] [] (Cond.mk 0 [] [] (Val.mk 0 0 []) []) 0 0 (Span.mk 0 10) [(Query.mk 2 [] [] [] (Cond.mk 2 [97] [] (Val.mk 1 3 []) []) 0 0 (Span.mk 0 0) [(Query.mk 1 [116] [] [] (Cond.mk 0 [] [] (Val.mk 0 0 []) []) 0 0 (Span.mk 0 0) [])])]) [(Schema.mk [116] [(Col.mk [97] 1)] 1 [])]).1).steps).length : Nat) : Int) 3 _ B16 V V V <| nu V V,fun _ hSw=>Za hSw (YC.drop 0 (C5.mono (L12.trans L13))) Zca V V V <| nu V V,fun _=>Zf 0 W1 ZfF ZfD V V V V <| nu V V,fun _ hSw=>Zc hSw (YC.drop 19 C7) [U x1.span.a,U x1.span.b] Y7 V V V V V <| nu V V,fun _ hSw=>Zc hSw (C1.mono (((((((((L3.trans L4).trans L5).trans L6).trans L7).trans L9).trans L10).trans L11).trans L12).trans L13)) [U 0,U 10] Y7 V V V V V <| nu V V,fun _=>Zir true (ZgH x1.span (Span.mk 0 10)) ZlR (by simp [h4]) V V V <| nu V V,fun _ hSw=>Za hSw (YC.drop 0 C6) Z3 V V V <| nu V V,fun _=>WL.cmpV .eql V .i64 (((Yv (Query.mk 8 [] [] [] (Cond.mk 0 [] [] (Val.mk 0 0 []) []) 0 0 (Span.mk 0 10) [(Query.mk 2 [] [] [] (Cond.mk 2 [97] [] (Val.mk 1 3 []) []) 0 0 (Span.mk 0 0) [(Query.mk 1 [116] [] [] (Cond.mk 0 [] [] (Val.mk 0 0 []) []) 0 0 (Span.mk 0 0) [])])]) [(Schema.mk [116] [(Col.mk [97] 1)] 1 [])]).1).kind) 2 _ XM V V V <| nu V V,fun _ hSw=>Za hSw (YC.drop 15 C6) ZX V V V <| nu V V,fun _=>Zl (A12.mono L13) ZS V V <| nu V V,fun _=>WL.cmpV .eql V .i64 (((((Yv (Query.mk 8 [] [] [] (Cond.mk 0 [] [] (Val.mk 0 0 []) []) 0 0 (Span.mk 0 10) [(Query.mk 2 [] [] [] (Cond.mk 2 [97] [] (Val.mk 1 3 []) []) 0 0 (Span.mk 0 0) [(Query.mk 1 [116] [] [] (Cond.mk 0 [] [] (Val.mk 0 0 []) []) 0 0 (Span.mk 0 0) [])])]) [(Schema.mk [116] [(Col.mk [97] 1)] 1 [])]).1).l).length : Nat) : Int) 1 _ B35 V V V <| nu V V,fun _ hSw=>Za hSw (YC.drop 15 C6) ZX V V V <| nu V V,fun _=>Zf 0 W2 ZS Zg V V V V <| nu V V,fun _ hSw=>Za hSw (YC.drop 0 C8) Z3 V V V <| nu V V,fun _=>YK .eql V .i64 x2.kind 8 V V V <| nu V V,trivial⟩ (fun w20 S29=>?_)
       exact RB S29 V (by (rw [ZtD ‹_›]; rfl))
      have h6 : (((((Yv (Query.mk 8 [] [] [] (Cond.mk 0 [] [] (Val.mk 0 0 []) []) 0 0 (Span.mk 0 10) [(Query.mk 2 [] [] [] (Cond.mk 2 [97] [] (Val.mk 1 3 []) []) 0 0 (Span.mk 0 0) [(Query.mk 1 [116] [] [] (Cond.mk 0 [] [] (Val.mk 0 0 []) []) 0 0 (Span.mk 0 0) [])])]) [(Schema.mk [116] [(Col.mk [97] 1)] 1 [])]).1).l).length : Nat) : Int) ≠ 1:=q5
      clear q5
      (exfalso; exact ZtC h6)
     have h5 : ((Yv (Query.mk 8 [] [] [] (Cond.mk 0 [] [] (Val.mk 0 0 []) []) 0 0 (Span.mk 0 10) [(Query.mk 2 [] [] [] (Cond.mk 2 [97] [] (Val.mk 1 3 []) []) 0 0 (Span.mk 0 0) [(Query.mk 1 [116] [] [] (Cond.mk 0 [] [] (Val.mk 0 0 []) []) 0 0 (Span.mk 0 0) [])])]) [(Schema.mk [116] [(Col.mk [97] 1)] 1 [])]).1).kind ≠ 2:=q4
     clear q4
     (exfalso; exact ZtA h5)
    refine dr [(40,false)] [(38, .bool true),(41, .bool true),(45,v1),(46,U (((((ofT (Query.mk 8 [] [] [] (Cond.mk 0 [] [] (Val.mk 0 0 []) []) 0 0 (Span.mk 0 10) [(Query.mk 2 [] [] [] (Cond.mk 2 [97] [] (Val.mk 1 3 []) []) 0 0 (Span.mk 0 0) [(Query.mk 1 [116] [] [] (Cond.mk 0 [] [] (Val.mk 0 0 []) []) 0 0 (Span.mk 0 0) [])])]) [(Schema.mk [116] [(Col.mk [97] 1)] 1 [])]).1).steps).length : Nat) : Int)),(47, .bool true),(51,v1),(52,Zu p1),(54, .agg #[U x1.span.a,U x1.span.b]),(55, .agg #[U 0,U 10]),(56, .bool false)] S28 ⟨fun _=>WL.cmpV .eql V .i64 ((ofT (Query.mk 8 [] [] [] (Cond.mk 0 [] [] (Val.mk 0 0 []) []) 0 0 (Span.mk 0 10) [(Query.mk 2 [] [] [] (Cond.mk 2 [97] [] (Val.mk 1 3 []) []) 0 0 (Span.mk 0 0) [(Query.mk 1 [116] [] [] (Cond.mk 0 [] [] (Val.mk 0 0 []) []) 0 0 (Span.mk 0 0) [])])]) [(Schema.mk [116] [(Col.mk [97] 1)] 1 [])]).2) 0 _ Ye V V V <| nu V V,fun _=>WL.cmpV .eql V .i64 ((Yv (Query.mk 8 [] [] [] (Cond.mk 0 [] [] (Val.mk 0 0 []) []) 0 0 (Span.mk 0 10) [(Query.mk 2 [] [] [] (Cond.mk 2 [97] [] (Val.mk 1 3 []) []) 0 0 (Span.mk 0 0) [(Query.mk 1 [116] [] [] (Cond.mk 0 [] [] (Val.mk 0 0 []) []) 0 0 (Span.mk 0 0) [])])]) [(Schema.mk [116] [(Col.mk [97] 1)] 1 [])]).2) 0 _ Yd V V V <| nu V V,fun _ hSw=>Za hSw (YC.drop 0 (C5.mono (L12.trans L13))) Zca V V V <| nu V V,fun _=>Zl (A6.mono j1) ZfF V V <| nu V V,fun _=>WL.cmpV .eql V .i64 (((((ofT (Query.mk 8 [] [] [] (Cond.mk 0 [] [] (Val.mk 0 0 []) []) 0 0 (Span.mk 0 10) [(Query.mk 2 [] [] [] (Cond.mk 2 [97] [] (Val.mk 1 3 []) []) 0 0 (Span.mk 0 0) [(Query.mk 1 [116] [] [] (Cond.mk 0 [] [] (Val.mk 0 0 []) []) 0 0 (Span.mk 0 0) [])])]) [(Schema.mk [116] [(Col.mk [97] 1)] 1 [])]).1).steps).length : Nat) : Int) 3 _ B16 V V V <| nu V V,fun _ hSw=>Za hSw (YC.drop 0 (C5.mono (L12.trans L13))) Zca V V V <| nu V V,fun _=>Zf 0 W1 ZfF ZfD V V V V <| nu V V,fun _ hSw=>Zc hSw (YC.drop 19 C7) [U x1.span.a,U x1.span.b] Y7 V V V V V <| nu V V,fun _ hSw=>Zc hSw (C1.mono (((((((((L3.trans L4).trans L5).trans L6).trans L7).trans L9).trans L10).trans L11).trans L12).trans L13)) [U 0,U 10] Y7 V V V V V <| nu V V,fun _=>Zir false (ZgH x1.span (Span.mk 0 10)) ZlR (by simp [h4]) V V V <| nu V V,trivial⟩ (fun w21 S30=>?_)
    exact RB S30 V (by exact absurd (Zt9 ‹_›) ‹_›)
   have h3 : (((((ofT (Query.mk 8 [] [] [] (Cond.mk 0 [] [] (Val.mk 0 0 []) []) 0 0 (Span.mk 0 10) [(Query.mk 2 [] [] [] (Cond.mk 2 [97] [] (Val.mk 1 3 []) []) 0 0 (Span.mk 0 0) [(Query.mk 1 [116] [] [] (Cond.mk 0 [] [] (Val.mk 0 0 []) []) 0 0 (Span.mk 0 0) [])])]) [(Schema.mk [116] [(Col.mk [97] 1)] 1 [])]).1).steps).length : Nat) : Int) ≠ 3:=q3
   clear q3
   (exfalso; exact Zt8 h3)
  have h2 : ((Yv (Query.mk 8 [] [] [] (Cond.mk 0 [] [] (Val.mk 0 0 []) []) 0 0 (Span.mk 0 10) [(Query.mk 2 [] [] [] (Cond.mk 2 [97] [] (Val.mk 1 3 []) []) 0 0 (Span.mk 0 0) [(Query.mk 1 [116] [] [] (Cond.mk 0 [] [] (Val.mk 0 0 []) []) 0 0 (Span.mk 0 0) [])])]) [(Schema.mk [116] [(Col.mk [97] 1)] 1 [])]).2) ≠ 0:=q2
  clear q2
  (exfalso; exact Zt6 h2)
 have h1 : ((ofT (Query.mk 8 [] [] [] (Cond.mk 0 [] [] (Val.mk 0 0 []) []) 0 0 (Span.mk 0 10) [(Query.mk 2 [] [] [] (Cond.mk 2 [97] [] (Val.mk 1 3 []) []) 0 0 (Span.mk 0 0) [(Query.mk 1 [116] [] [] (Cond.mk 0 [] [] (Val.mk 0 0 []) []) 0 0 (Span.mk 0 0) [])])]) [(Schema.mk [116] [(Col.mk [97] 1)] 1 [])]).2) ≠ 0:=q1
 clear q1
 (exfalso; exact Zt5 h1)
end Go.Civ
set_option linter.unusedVariables false
set_option linter.unusedSimpArgs false
set_option linter.unnecessarySimpa false
set_option maxRecDepth 100000
set_option maxHeartbeats 4000000
namespace Go.Civ
open Go.Proofs
theorem ZkM (n : Nat) : ∀ {G : GH} {w : World} (hG : G.In w) (c : Cond) (ca : List Value) (hca : CndE.rep G c ca) (cb : List Value) (hcb : CndE.rep G c cb) (hn : Xn c n),CL Tryz.prog (nat_lit 49) #[.agg ca.toArray, .agg cb.toArray] [] w G fun _ _ r=>r = .bool true:=by
 induction n
 ·intro G w hG c ca hca cb hcb hn; exact (XC hn).elim
 rename_i n ih
 intro G w hG c ca hca cb hcb hn
 refine Zo ft [] Tryz.func49 V V ?_
 have hS:=St.start (X:=[]) hG
 have T1:=ZO hca
 obtain ⟨v1,rfl,B1,B2,B3,B4,B5,B6,A1⟩:=T1
 have T2:=ZO hcb
 obtain ⟨v2,rfl,B7,ZK,hb9,Z9,Z7,Z6,A2⟩:=T2
 refine ZL [U c.kind,Zb c.col,Zb c.oth,U c.v.k,U c.v.n,Zb c.v.s,v1] _ hS V V V (fun p1 w1 G1 L1 M1 C1 S1=>?_)
 refine ZL [U c.kind,Zb c.col,Zb c.oth,U c.v.k,U c.v.n,Zb c.v.s,v2] _ S1 V V V (fun p2 w2 G2 L2 M2 C2 S2=>?_)
 refine Za S2 (YC.drop 0 (C1.mono L2)) Z3 V V V <| Za S2 (YC.drop 0 C2) Z3 V V V ?_
 refine Z8 c.kind c.kind V V V (fun h1=>?_) (fun h1=>?_)
 ·exact absurd V h1
 refine Za S2 (YC.drop 1 (C1.mono L2)) Zy V V V <| Za S2 (YC.drop 1 C2) Zy V V V <| Zn .neq V c.col c.col V V V ?_
 refine WL.split (fun h0=>?_) (fun h0=>?_)
 ·have h2 : c.col ≠ c.col:=by simpa [SCmp.b] using h0
  clear h0
  exact absurd V h2
 have h2 : c.col = c.col:=by simpa [SCmp.b] using h0
 clear h0
 refine Za S2 (YC.drop 2 (C1.mono L2)) Zy V V V <| Za S2 (YC.drop 2 C2) Zy V V V <| Zn .neq V c.oth c.oth V V V ?_
 refine WL.split (fun h0=>?_) (fun h0=>?_)
 ·have h3 : c.oth ≠ c.oth:=by simpa [SCmp.b] using h0
  clear h0
  exact absurd V h3
 have h3 : c.oth = c.oth:=by simpa [SCmp.b] using h0
 clear h0
 refine Za S2 (YC.drop 0 (YC.drop 3 (C1.mono L2))) Z3 V V V <| Za S2 (YC.drop 0 (YC.drop 3 C2)) Z3 V V V ?_
 refine Z8 c.v.k c.v.k V V V (fun h4=>?_) (fun h4=>?_)
 ·exact absurd V h4
 refine Za S2 (YC.drop 1 (YC.drop 3 (C1.mono L2))) Z3 V V V <| Za S2 (YC.drop 1 (YC.drop 3 C2)) Z3 V V V ?_
 refine Z8 c.v.n c.v.n V V V (fun h5=>?_) (fun h5=>?_)
 ·exact absurd V h5
 refine Za S2 (YC.drop 2 (YC.drop 3 (C1.mono L2))) Zy V V V <| Za S2 (YC.drop 2 (YC.drop 3 C2)) Zy V V V <| Zn .neq V c.v.s c.v.s V V V ?_
 refine WL.split (fun h0=>?_) (fun h0=>?_)
 ·have h6 : c.v.s ≠ c.v.s:=by simpa [SCmp.b] using h0
  clear h0
  exact absurd V h6
 have h6 : c.v.s = c.v.s:=by simpa [SCmp.b] using h0
 clear h0
 refine Za S2 (YC.drop 6 (C1.mono L2)) Y0 V V V ?_
 have V1:=A1.bound
 have j1:=(L1.trans L2)
 refine Zl (A1.mono j1) Y2 V V <| Za S2 (YC.drop 6 C2) Y0 V V V ?_
 have V2:=A2.bound
 refine Zl (A2.mono j1) Y2 V V ?_
 refine Z8 (c.l.length : Int) (c.l.length : Int) V V V (fun h7=>?_) (fun h7=>?_)
 ·exact absurd V h7
 refine LP.go ft [] (fun m ρ1 w1=>∃ (k1 : Nat),∃ (G3 : GH),m = c.l.length - k1 ∧ G2.le G3 ∧ St w [] G G3 [] w1 ∧ FR ρ1 [(2,Zu p1),(3,Zu p2),(5,U (k1 : Int))] ∧ k1 ≤ c.l.length) _ ⟨0,G2,V,(G2.le_refl),S2,⟨V,V,V,trivial⟩,(by omega)⟩ ?_
 rintro m ρ1 w3 ⟨k1,G3,rfl,L3,S3,F9,f1⟩
 refine F9.set ?_
 clear F9
 have j2:=(L2.trans L3)
 refine Za S3 (YC.drop 6 (C1.mono j2)) Y0 V V V ?_
 have V3:=A1.bound
 have j3:=(j1.trans L3)
 refine Zl (A1.mono j3) Y2 V V ?_
 refine Z1 (k1 : Int) (c.l.length : Int) V V V (fun h8=>?_) (fun h8=>?_)
 ·have T3:=Sl.at (A1.mono j3) k1 (by omega)
  obtain ⟨p3,x1,U1,E1,W1⟩:=T3
  obtain ⟨D1,C3,R1⟩:=E1
  have T4:=ZO R1
  obtain ⟨v3,rfl,ZV,Ye,Yd,B16,B17,Yf,A3⟩:=T4
  have T5:=Sl.at (A2.mono j3) k1 (by omega)
  obtain ⟨p4,x2,U2,E2,W2⟩:=T5
  have T6 : x1 = x2:=Option.some.inj (U1.symm.trans U2)
  obtain rfl:=T6
  obtain ⟨D2,C4,R2⟩:=E2
  have T7:=ZO R2
  obtain ⟨v4,rfl,B19,B20,B21,B22,B23,B24,A4⟩:=T7
  refine dr [] [(69,v1),(71,Zu p3),(72, .agg #[U x1.kind,Zb x1.col,Zb x1.oth,U x1.v.k,U x1.v.n,Zb x1.v.s,v3]),(74,v2),(76,Zu p4),(77, .agg #[U x1.kind,Zb x1.col,Zb x1.oth,U x1.v.k,U x1.v.n,Zb x1.v.s,v4]),(78, .bool true)] S3 ⟨fun _ hSw=>Za hSw (YC.drop 6 (C1.mono j2)) Y0 V V V <| nu V V,fun _=>Zf k1 W1 Y2 Z5 V V V V <| nu V V,fun _ hSw=>Zc hSw C3 [U x1.kind,Zb x1.col,Zb x1.oth,U x1.v.k,U x1.v.n,Zb x1.v.s,v3] Z5 V V V V V <| nu V V,fun _ hSw=>Za hSw (YC.drop 6 (C2.mono L3)) Y0 V V V <| nu V V,fun _=>Zf k1 W2 Y2 Z5 V V V V <| nu V V,fun _ hSw=>Zc hSw C4 [U x1.kind,Zb x1.col,Zb x1.oth,U x1.v.k,U x1.v.n,Zb x1.v.s,v4] Z5 V V V V V <| nu V V,fun _ hSw=>YS hSw Zaw V V V (ih hSw.imm x1 _ (ZJ x1 ZV Ye Yd B16 B17 Yf A3) _ (ZJ x1 B19 B20 B21 B22 B23 B24 A4) (YR hn (List.mem_of_getElem? ‹_›))) V,trivial⟩ (fun w4 S4=>?_)
  refine ZC k1 (by have:=Zm; omega) V V V ?_
  exact BK.mk' _ ⟨k1 + 1,G3,V,L3,S4,⟨V,V,V,trivial⟩,(by omega)⟩ (show c.l.length - (k1 + 1) < c.l.length - k1 by omega)
 exact RB S3 V (by rfl)
theorem ZqA (n : Nat) : ∀ {G : GH} {w : World} (hG : G.In w) (q : Query) (ca : List Value) (hca : QryE.rep G q ca) (cb : List Value) (hcb : QryE.rep G q cb) (hn : Xx q n),CL Tryz.prog (nat_lit 12) #[.agg ca.toArray, .agg cb.toArray] [] w G fun _ _ r=>r = .bool true:=by
 induction n
 ·intro G w hG q ca hca cb hcb hn; exact (Q9 hn).elim
 rename_i n ih
 intro G w hG q ca hca cb hcb hn
 refine Zo ft [] Tryz.func12 V V ?_
 have hS:=St.start (X:=[]) hG
 have T1:=Ze hca
 obtain ⟨v1,v2,v3,v4,rfl,B1,B2,A1,A2,B3,B4,B5,B6,B7,ZK,A3,hb9,Z9,Z7,ZV,A4⟩:=T1
 have T2:=Ze hcb
 obtain ⟨v5,v6,v7,v9,rfl,Ye,Yd,A5,A6,B16,B17,Yf,B19,B20,B21,A7,B22,B23,B24,X6,A8⟩:=T2
 refine ZL (QV q v1 v2 v3 v4) _ hS V V V (fun p1 w1 G1 L1 M1 C1 S1=>?_)
 refine ZL (QV q v5 v6 v7 v9) _ S1 V V V (fun p2 w2 G2 L2 M2 C2 S2=>?_)
 refine Za S2 (YC.drop 0 (C1.mono L2)) Z3 V V V <| Za S2 (YC.drop 0 C2) Z3 V V V ?_
 refine Z8 q.kind q.kind V V V (fun h1=>?_) (fun h1=>?_)
 ·exact absurd V h1
 refine Za S2 (YC.drop 1 (C1.mono L2)) Zy V V V <| Za S2 (YC.drop 1 C2) Zy V V V <| Zn .neq V q.table q.table V V V ?_
 refine WL.split (fun h0=>?_) (fun h0=>?_)
 ·have h2 : q.table ≠ q.table:=by simpa [SCmp.b] using h0
  clear h0
  exact absurd V h2
 have h2 : q.table = q.table:=by simpa [SCmp.b] using h0
 clear h0
 refine Za S2 (YC.drop 2 (C1.mono L2)) ZU V V V <| Za S2 (YC.drop 2 C2) ZU V V V ?_
 have j1:=(L1.trans L2)
 refine Zw S2 Zav V V V (ZhD S2.imm q.cols q.cols _ (A1.mono j1) _ (A5.mono j1)) (fun w3 G3 S3 L3=>?_)
 refine WL.split (fun (h3 : (decide (q.cols = q.cols)) = true)=>?_) (fun (h3 : (decide (q.cols = q.cols)) = false)=>?_)
 ·have j2:=(L2.trans L3)
  refine Za S3 (YC.drop 3 (C1.mono j2)) ZU V V V <| Za S3 (YC.drop 3 (C2.mono L3)) ZU V V V ?_
  have j3:=(j1.trans L3)
  refine Zw S3 Zav V V V (ZhD S3.imm q.names q.names _ (A2.mono j3) _ (A6.mono j3)) (fun w4 G4 S4 L4=>?_)
  refine WL.split (fun (h4 : (decide (q.names = q.names)) = true)=>?_) (fun (h4 : (decide (q.names = q.names)) = false)=>?_)
  ·have j4:=(j2.trans L4)
   have j5:=(L3.trans L4)
   refine Zc S4 (YC.drop 4 (C1.mono j4)) [U q.cond.kind,Zb q.cond.col,Zb q.cond.oth,U q.cond.v.k,U q.cond.v.n,Zb q.cond.v.s,v3] Z5 V V V V V <| Zc S4 (YC.drop 4 (C2.mono j5)) [U q.cond.kind,Zb q.cond.col,Zb q.cond.oth,U q.cond.v.k,U q.cond.v.n,Zb q.cond.v.s,v7] Z5 V V V V V ?_
   have j6:=(j3.trans L4)
   refine Zw S4 Zaw V V V (ZkM (n + 1) S4.imm q.cond _ (ZJ q.cond B3 B4 B5 B6 B7 ZK (A3.mono j6)) _ (ZJ q.cond B16 B17 Yf B19 B20 B21 (A7.mono j6)) (Zbs hn)) (fun w5 G5 S5 L5=>?_)
   have j7:=(j4.trans L5)
   have j8:=(j5.trans L5)
   refine Za S5 (YC.drop 11 (C1.mono j7)) Z3 V V V <| Za S5 (YC.drop 11 (C2.mono j8)) Z3 V V V ?_
   refine Z8 q.rel q.rel V V V (fun h5=>?_) (fun h5=>?_)
   ·exact absurd V h5
   refine Za S5 (YC.drop 12 (C1.mono j7)) Z3 V V V <| Za S5 (YC.drop 12 (C2.mono j8)) Z3 V V V ?_
   refine Z8 q.fn q.fn V V V (fun h6=>?_) (fun h6=>?_)
   ·exact absurd V h6
   refine Za S5 (YC.drop 0 (YC.drop 13 (C1.mono j7))) Z3 V V V <| Za S5 (YC.drop 0 (YC.drop 13 (C2.mono j8))) Z3 V V V ?_
   refine Z8 q.span.a q.span.a V V V (fun h7=>?_) (fun h7=>?_)
   ·exact absurd V h7
   refine Za S5 (YC.drop 1 (YC.drop 13 (C1.mono j7))) Z3 V V V <| Za S5 (YC.drop 1 (YC.drop 13 (C2.mono j8))) Z3 V V V ?_
   refine Z8 q.span.b q.span.b V V V (fun h8=>?_) (fun h8=>?_)
   ·exact absurd V h8
   refine Za S5 (YC.drop 15 (C1.mono j7)) ZX V V V ?_
   have V1:=A4.bound
   have j9:=(j6.trans L5)
   refine Zl (A4.mono j9) ZS V V <| Za S5 (YC.drop 15 (C2.mono j8)) ZX V V V ?_
   have V2:=A8.bound
   refine Zl (A8.mono j9) ZS V V ?_
   refine Z8 (q.l.length : Int) (q.l.length : Int) V V V (fun h9=>?_) (fun h9=>?_)
   ·exact absurd V h9
   refine LP.go ft [] (fun m ρ1 w1=>∃ (k1 : Nat),∃ (G6 : GH),m = q.l.length - k1 ∧ G5.le G6 ∧ St w [] G G6 [] w1 ∧ FR ρ1 [(2,Zu p1),(3,Zu p2),(5,U (k1 : Int))] ∧ k1 ≤ q.l.length) _ ⟨0,G5,V,(G5.le_refl),S5,⟨V,V,V,trivial⟩,(by omega)⟩ ?_
   rintro m ρ1 w6 ⟨k1,G6,rfl,L6,S6,F9,f1⟩
   refine F9.set ?_
   clear F9
   refine Za S6 (YC.drop 15 (C1.mono (j7.trans L6))) ZX V V V ?_
   have V3:=A4.bound
   have j10:=(j9.trans L6)
   refine Zl (A4.mono j10) ZS V V ?_
   refine Z1 (k1 : Int) (q.l.length : Int) V V V (fun h10=>?_) (fun h10=>?_)
   ·have T3:=Sl.at (A4.mono j10) k1 (by omega)
    obtain ⟨p3,x1,U1,E1,W1⟩:=T3
    obtain ⟨D1,C3,R1⟩:=E1
    have T4:=Ze R1
    obtain ⟨v10,v11,v12,v13,rfl,B26,B27,A9,A10,B28,B29,B30,B31,B32,B33,A11,XM,B35,B36,B37,A12⟩:=T4
    have T5:=Sl.at (A8.mono j10) k1 (by omega)
    obtain ⟨p4,x2,U2,E2,W2⟩:=T5
    have T6 : x1 = x2:=Option.some.inj (U1.symm.trans U2)
    obtain rfl:=T6
    obtain ⟨D2,C4,R2⟩:=E2
    have T7:=Ze R2
    obtain ⟨v14,v15,v16,v17,rfl,B38,Qj,A13,A14,Qk,XN,Qo,Zac,Q5,Zad,A15,Qt,QJ,QK,Zax,A16⟩:=T7
    refine dr [] [(91,v4),(93,Zu p3),(94, .agg (QV x1 v10 v11 v12 v13).toArray),(96,v9),(98,Zu p4),(99, .agg (QV x1 v14 v15 v16 v17).toArray),(100, .bool true)] S6 ⟨fun _ hSw=>Za hSw (YC.drop 15 (C1.mono (j7.trans L6))) ZX V V V <| nu V V,fun _=>Zf k1 W1 ZS Zg V V V V <| nu V V,fun _ hSw=>Zc hSw C3 (QV x1 v10 v11 v12 v13) Zg V V V V V <| nu V V,fun _ hSw=>Za hSw (YC.drop 15 (C2.mono (j8.trans L6))) ZX V V V <| nu V V,fun _=>Zf k1 W2 ZS Zg V V V V <| nu V V,fun _ hSw=>Zc hSw C4 (QV x1 v14 v15 v16 v17) Zg V V V V V <| nu V V,fun _ hSw=>YS hSw Z6 V V V (ih hSw.imm x1 _ (Zd x1 B26 B27 A9 A10 B28 B29 B30 B31 B32 B33 A11 XM B35 B36 B37 A12) _ (Zd x1 B38 Qj A13 A14 Qk XN Qo Zac Q5 Zad A15 Qt QJ QK Zax A16) (Yp hn (List.mem_of_getElem? ‹_›))) V,trivial⟩ (fun w7 S7=>?_)
    refine ZC k1 (by have:=Zm; omega) V V V ?_
    exact BK.mk' _ ⟨k1 + 1,G6,V,L6,S7,⟨V,V,V,trivial⟩,(by omega)⟩ (show q.l.length - (k1 + 1) < q.l.length - k1 by omega)
   exact RB S6 V (by rfl)
  simp at h4
 simp at h3
end Go.Civ
set_option linter.unusedVariables false
set_option linter.unusedSimpArgs false
set_option linter.unnecessarySimpa false
set_option maxRecDepth 100000
set_option maxHeartbeats 4000000
namespace Go.Civ
open Go.Proofs
theorem ZkB {G : GH} {w : World} (hG : G.In w) (n : Nat) (q r : Query) (ca : List Value) (hca : QryE.rep G q ca) (cb : List Value) (hcb : QryE.rep G r cb) (hn : Xx q n) (hqr : q = r) : CL Tryz.prog (nat_lit 12) #[.agg ca.toArray, .agg cb.toArray] [] w G fun _ _ r=>r = .bool true:=by
 subst hqr; exact ZqA n hG q ca hca cb hcb hn
theorem Zm6 {G : GH} {w : World} (hG : G.In w) (q : Query) (l : List Schema) (hg : Glob G) (cq : List Value) (hcq : QryE.rep G q cq) (vl : Value) (hvl : Sl SchemaE 72 G vl l) : CL Tryz.prog (nat_lit 3) #[.agg cq.toArray,vl] [] w G fun _ _ r=>r = .bool true:=by
 refine Zo ft [] Tryz.func3 V V ?_
 have hS:=St.start (X:=[]) hG
 have T1:=Ze hcq
 obtain ⟨v1,v2,v3,v4,rfl,B1,B2,A1,A2,B3,B4,B5,B6,B7,B16,A3,B17,Yf,B19,B20,A4⟩:=T1
 refine ZL (QV q v1 v2 v3 v4) _ hS V V V (fun p1 w1 G1 L1 M1 C1 S1=>?_)
 refine Zw S1 ZK V V V (Zl9 S1.imm (hg.mono L1)) (fun w2 G2 S2 L2=>?_)
 refine Zc S2 (C1.mono L2) (QV q v1 v2 v3 v4) Zg V V V V V ?_
 have j1:=(L1.trans L2)
 refine Zw S2 hb9 V V V (Zq8 S2.imm q l _ (Zd q B1 B2 (A1.mono j1) (A2.mono j1) B3 B4 B5 B6 B7 B16 (A3.mono j1) B17 Yf B19 B20 (A4.mono j1)) _ (hvl.mono j1)) (fun w3 G3 S3 L3=>?_)
 refine WL.split (fun (h1 : (Zdd q l) = true)=>?_) (fun (h1 : (Zdd q l) = false)=>?_)
 ·have hsm9:=ZrY (by assumption : Zdd q l = true)
  have j2:=(j1.trans L3)
  refine Zc S3 (C1.mono (L2.trans L3)) (QV q v1 v2 v3 v4) Zg V V V V V <| Zv S3 Z9 V V V (Zl0 S3.imm q l (hg.mono j2) _ (Zd q B1 B2 (A1.mono j2) (A2.mono j2) B3 B4 B5 B6 B7 B16 (A3.mono j2) B17 Yf B19 B20 (A4.mono j2)) _ (hvl.mono j2) hsm9) ?_
  rintro w4 G4 _ ⟨r2,_,rfl,A5,rfl⟩ S4 L4
  obtain ⟨D1,rfl,R1⟩:=A5
  have T2:=Ze R1
  obtain ⟨v5,v6,v7,v9,rfl,B21,B22,A6,A7,B23,B24,X6,B26,B27,B28,A8,B29,B30,B31,B32,A9⟩:=T2
  refine WL.alloc S4 Zg V V (fun b1 w5 N1 S5=>?_)
  refine WL.store S5 0 _ _ _ 0 _ (QV ((Yv q l).1) v5 v6 v7 v9) (QV ((Yv q l).1) v5 v6 v7 v9) _ V V Zg V (ZN V) (by simp only [ZW,A6.oneC,A7.oneC,A8.oneC,A9.oneC] <;> rfl) V V V V V (fun w6 S6=>?_)
  have T3:=S6.shutB N1
  obtain ⟨G5,L5,C2,S7⟩:=T3
  have j3:=((j2.trans L4).trans L5)
  refine Zw S7 Z7 V V V (Zsc S7.imm l _ (hvl.mono j3)) (fun w7 G6 S8 L6=>?_)
  refine WL.split (fun (h2 : (QG l) = true)=>?_) (fun (h2 : (QG l) = false)=>?_)
  ·refine Zc S8 (C1.mono ((((L2.trans L3).trans L4).trans L5).trans L6)) (QV q v1 v2 v3 v4) Zg V V V V V ?_
   have j4:=(j3.trans L6)
   refine Zv S8 ZV V V V (Zqy S8.imm q l _ (Zd q B1 B2 (A1.mono j4) (A2.mono j4) B3 B4 B5 B6 B7 B16 (A3.mono j4) B17 Yf B19 B20 (A4.mono j4)) _ (hvl.mono j4) ‹_› hsm9) ?_
   rintro w9 G7 _ ⟨r5,_,rfl,A10,rfl⟩ S9 L7
   obtain ⟨D2,rfl,R2⟩:=A10
   have T4:=Ze R2
   obtain ⟨v10,v11,v12,v13,rfl,B33,XM,A11,A12,B35,B36,B37,B38,Qj,Qk,A13,XN,Qo,Zac,Q5,A14⟩:=T4
   refine WL.alloc S9 Zg V V (fun b2 w10 N2 S10=>?_)
   refine WL.store S10 0 _ _ _ 0 _ (QV ((Yv q l).1) v10 v11 v12 v13) (QV ((Yv q l).1) v10 v11 v12 v13) _ V V Zg V (ZN V) (by simp only [ZW,A11.oneC,A12.oneC,A13.oneC,A14.oneC] <;> rfl) V V V V V (fun w11 S11=>?_)
   have T5:=S11.shutB N2
   obtain ⟨G9,L9,C3,S12⟩:=T5
   refine Z8 ((Yv q l).2) ((Yv q l).2) V V V (fun h3=>?_) (fun h3=>?_)
   ·exact absurd V h3
   refine Zc S12 (C2.mono ((L6.trans L7).trans L9)) (QV ((Yv q l).1) v5 v6 v7 v9) Zg V V V V V <| Zc S12 C3 (QV ((Yv q l).1) v10 v11 v12 v13) Zg V V V V V ?_
   refine Zw S12 Z6 V V V (ZkB S12.imm (Yc ((Yv q l).1)) ((Yv q l).1) ((Yv q l).1) _ (Zd ((Yv q l).1) B21 B22 (A6.mono (((L5.trans L6).trans L7).trans L9)) (A7.mono (((L5.trans L6).trans L7).trans L9)) B23 B24 X6 B26 B27 B28 (A8.mono (((L5.trans L6).trans L7).trans L9)) B29 B30 B31 B32 (A9.mono (((L5.trans L6).trans L7).trans L9))) _ (Zd ((Yv q l).1) B33 XM (A11.mono L9) (A12.mono L9) B35 B36 B37 B38 Qj Qk (A13.mono L9) XN Qo Zac Q5 (A14.mono L9)) (YU _) (by rfl)) (fun w12 G10 S13 L10=>?_)
   refine Z8 ((Yv q l).2) 0 V V V (fun h4=>?_) (fun h4=>?_)
   ·exact RB S13 V (by rfl)
   refine Zc S13 (C1.mono (((((((L2.trans L3).trans L4).trans L5).trans L6).trans L7).trans L9).trans L10)) (QV q v1 v2 v3 v4) Zg V V V V V ?_
   refine Zv S13 Ye V V V (ZaN S13.imm (Yc q) q l (hg.mono ((((((((L1.trans L2).trans L3).trans L4).trans L5).trans L6).trans L7).trans L9).trans L10)) _ (Zd q B1 B2 (A1.mono ((((((((L1.trans L2).trans L3).trans L4).trans L5).trans L6).trans L7).trans L9).trans L10)) (A2.mono ((((((((L1.trans L2).trans L3).trans L4).trans L5).trans L6).trans L7).trans L9).trans L10)) B3 B4 B5 B6 B7 B16 (A3.mono ((((((((L1.trans L2).trans L3).trans L4).trans L5).trans L6).trans L7).trans L9).trans L10)) B17 Yf B19 B20 (A4.mono ((((((((L1.trans L2).trans L3).trans L4).trans L5).trans L6).trans L7).trans L9).trans L10))) _ (hvl.mono ((((((((L1.trans L2).trans L3).trans L4).trans L5).trans L6).trans L7).trans L9).trans L10)) (YU _) (by exact hsm9)) ?_
   rintro w13 G11 _ ⟨r8,_,rfl,A15,rfl⟩ S14 L11
   refine Zc S14 (C2.mono ((((L6.trans L7).trans L9).trans L10).trans L11)) (QV ((Yv q l).1) v5 v6 v7 v9) Zg V V V V V ?_
   refine Zv S14 Ye V V V (ZaN S14.imm (Yc ((Yv q l).1)) ((Yv q l).1) l (hg.mono (((((((((L1.trans L2).trans L3).trans L4).trans L5).trans L6).trans L7).trans L9).trans L10).trans L11)) _ (Zd ((Yv q l).1) B21 B22 (A6.mono (((((L5.trans L6).trans L7).trans L9).trans L10).trans L11)) (A7.mono (((((L5.trans L6).trans L7).trans L9).trans L10).trans L11)) B23 B24 X6 B26 B27 B28 (A8.mono (((((L5.trans L6).trans L7).trans L9).trans L10).trans L11)) B29 B30 B31 B32 (A9.mono (((((L5.trans L6).trans L7).trans L9).trans L10).trans L11))) _ (hvl.mono (((((((((L1.trans L2).trans L3).trans L4).trans L5).trans L6).trans L7).trans L9).trans L10).trans L11)) (YU _) (by exact ZrZ (by assumption : (Yv q l).2 = 0) hsm9)) ?_
   rintro w14 G12 _ ⟨r11,_,rfl,A16,rfl⟩ S15 L12
   refine Zj ((ZP (Yc q) q l).2) 0 V V V (fun h5=>?_) (fun h5=>?_)
   ·refine Zj ((ZP (Yc ((Yv q l).1)) ((Yv q l).1) l).2) 0 V V V (fun h6=>?_) (fun h6=>?_)
    ·refine Zw S15 Yd V V V (Zco S15.imm ((ZP (Yc q) q l).1) ((ZP (Yc ((Yv q l).1)) ((Yv q l).1) l).1) _ (A15.mono L12) _ A16) (fun w15 G13 S16 L13=>?_)
     exact RB S16 V (by exact decide_eq_true (congrArg Prod.fst (ZnY (by assumption : (Yv q l).2 = 0) hsm9).symm))
    (exfalso; (rw [ZnY (by assumption : (Yv q l).2 = 0) hsm9] at h6; exact h6 (ZfX (by assumption : (Yv q l).2 = 0))))
   (exfalso; exact h5 (ZfX (by assumption : (Yv q l).2 = 0)))
  refine Zj ((Yv q l).2) 1 V V V (fun h7=>?_) (fun h7=>?_)
  ·refine Zc S8 (C2.mono L6) (QV ((Yv q l).1) v5 v6 v7 v9) Zg V V V V V <| WL.build _ [] [U 0,Zb [],Zh,Zh,U 0,Zb [],Zb [],U 0,U 0,Zb [],Zh,U 0,U 0,U 0,U 0,Zh] Zg V ZgG V V V V ?_
   have j5:=(L5.trans L6)
   refine Zw S8 Z6 V V V (ZkB S8.imm (Yc ((Yv q l).1)) ((Yv q l).1) (Query.mk 0 [] [] [] (Cond.mk 0 [] [] (Val.mk 0 0 []) []) 0 0 (Span.mk 0 0) []) _ (Zd ((Yv q l).1) B21 B22 (A6.mono j5) (A7.mono j5) B23 B24 X6 B26 B27 B28 (A8.mono j5) B29 B30 B31 B32 (A9.mono j5)) _ (Zd (Query.mk 0 [] [] [] (Cond.mk 0 [] [] (Val.mk 0 0 []) []) 0 0 (Span.mk 0 0) []) Yr (by simp [reach]) (Sl.nil Enc.str 16 G6) (Sl.nil Enc.str 16 G6) Yr (by simp [reach]) (by simp [reach]) Yr Yr (by simp [reach]) (Sl.nil CndE 96 G6) Yr Yr Yr Yr (Sl.nil QryE 224 G6)) (YU _) (by exact congrArg Prod.fst (Zl8 ‹_›))) (fun w16 G14 S17 L14=>?_)
   exact RB S17 V (by rfl)
  (rw [Zl8 ‹_›] at h7; exact absurd V h7)
 refine Zw S3 ZK V V V (Zl9 S3.imm (hg.mono (j1.trans L3))) (fun w17 G15 S18 L15=>?_)
 exact RB S18 V (by rfl)
end Go.Civ
