/- Lemmas. -/
import Derived.Test.YtcopkjhdncdnmaaGreatDoorP42
set_option linter.unusedVariables false
set_option linter.unusedSimpArgs false
set_option maxRecDepth 100000
set_option maxHeartbeats 4000000
namespace Go.Civ
open Go.Proofs
theorem Zqv (n : Nat) : ∀ {G : GH} {w : World} (hG : G.In w) (c : Cond) (cc : List Value) (hcc : CndE.rep G c cc) (hn : Xn c n) (hb : (Yy n c).length ≤ 1000000),CL Tryz.prog (nat_lit 292) #[.agg cc.toArray] [] w G fun G' _ r=>Sl Enc.str 16 G' r (Yy n c):=by
 induction n
 ·intro G w hG c cc hcc hn hb; exact (XC hn).elim
 rename_i n ih
 intro G w hG c cc hcc hn hb
 refine Zo ft [] Tryz.func292 V V ?_
 have hS:=St.start (X:=[]) hG
 have T1:=ZO hcc
 obtain ⟨v1,rfl,B1,B2,B3,B4,B5,B6,A1⟩:=T1
 refine ZL (CV c v1) _ hS V V V (fun p1 w1 G1 L1 M1 C1 S1=>?_)
 refine Za S1 (YC.drop 1 C1) Zy V V V <| Zn .neq V c.col [] V V V ?_
 refine WL.split (fun h0=>?_) (fun h0=>?_)
 ·have h1 : c.col ≠ []:=by simpa [SCmp.b] using h0
  clear h0
  refine Za S1 (YC.drop 1 C1) Zy V V V ?_
  refine WL.buildSlice _ [(0,[Zb c.col])] [Zb c.col] S1 ZaA V V V V (fun z hz=>by match z,hz with | [z0],_=>rfl) (fun b1 w2 N1 S2=>?_)
  have S3:=S2.pad
  refine WL.push (m:=([c.col] : List (List UInt8))) ZaA V V V (YH.nil Enc.str 16 9 G1) S3 0 V 1 _ _ _ _ _ V ⟨[Zb c.col],_,V,⟨V,B2⟩,V⟩ V (by have:=Zm; (simp only [Zau]; omega)) (by have:=Zm; (simp only [Zau]; omega)) V V V (fun v2 o1 w3 R1 S4=>?_)
  refine Za S4 (YC.drop 2 C1) Zy V V V <| Zn .neq V c.oth [] V V V ?_
  refine WL.split (fun h0=>?_) (fun h0=>?_)
  ·have h2 : c.oth ≠ []:=by simpa [SCmp.b] using h0
   clear h0
   refine Za S4 (YC.drop 2 C1) Zy V V V ?_
   refine WL.buildSlice _ [(0,[Zb c.oth])] [Zb c.oth] S4 ZaA V V V V (fun z hz=>by match z,hz with | [z0],_=>rfl) (fun b2 w4 N2 S5=>?_)
   refine WL.push (m:=([c.oth] : List (List UInt8))) ZaA V V V R1 S5 1 V 0 _ _ _ _ _ V ⟨[Zb c.oth],_,V,⟨V,B3⟩,V⟩ V (by have:=Zm; (simp only [Zau]; omega)) (by have:=Zm; (simp only [Zau]; omega)) V V V (fun v3 o2 w5 R2 S6=>?_)
   have S7:=S6.tail
   refine LP.go ft [] (fun m ρ1 w1=>∃ (k1 : Nat),∃ (v4 : Value) (o3 : OB),∃ (G2 : GH),m = c.l.length - k1 ∧ G1.le G2 ∧ St w [] G G2 [o3,some (b1,9,[Zb c.col])] w1 ∧ YH Enc.str 16 9 G2 v4 (X8 c ++ ((c.l.take k1).map (Yy n)).flatten) o3 ∧ FR ρ1 [(1,Zu p1),(3,v4),(4,U (k1 : Int))] ∧ k1 ≤ c.l.length) _ ⟨0,v3,o2,G1,V,(G1.le_refl),S7,(YH.cast R2 (by (rw [show ((c.l.take 0).map (Yy n)).flatten = [] from V,List.append_nil]; exact Zr9 ‹_› ‹_›))),⟨V,V,V,trivial⟩,(by omega)⟩ ?_
   rintro m ρ1 w6 ⟨k1,v4,o3,G2,rfl,L2,S8,R3,F9,f1⟩
   refine F9.set ?_
   clear F9
   have hul9:=@Zcp n k1 c
   have hul8:=@Zcp n (k1 + 1) c
   refine Za S8 (YC.drop 6 (C1.mono L2)) Y0 V V V ?_
   have V1:=A1.bound
   refine Zl (A1.mono (L1.trans L2)) Y2 V V ?_
   refine Z1 (k1 : Int) (c.l.length : Int) V V V (fun h3=>?_) (fun h3=>?_)
   ·refine Za S8 (YC.drop 6 (C1.mono L2)) Y0 V V V ?_
    refine WL.indexAddr (A1.mono (L1.trans L2)) k1 (by omega) Y2 Z5 V V V V (fun p2 x1 U1 E1=>?_)
    obtain ⟨D1,C2,R4⟩:=E1
    have T2:=ZO R4
    obtain ⟨v5,rfl,B7,ZK,hb9,Z9,Z7,Z6,A2⟩:=T2
    refine Zc S8 C2 (CV x1 v5) Z5 V V V V V ?_
    refine Zv S8 Zbx V V V (ih S8.imm x1 _ (ZJ x1 B7 ZK hb9 Z9 Z7 Z6 A2) (YR hn (List.mem_of_getElem? ‹_›)) (Nat.le_trans (Zgn (List.mem_of_getElem? ‹_›)) hb)) (fun w7 G3 r1 P1 S9 L3=>?_)
    refine YV ZaA V V V (R3.mono L3) S9 0 V P1 (by have:=Zm; (rw [XY (k:=k1) ‹_›] at hul8; simp only [List.length_append] at hul8 ⊢; omega)) (by have:=Zm; (rw [XY (k:=k1) ‹_›] at hul8; simp only [List.length_append] at hul8 ⊢; omega)) V V V (fun v6 o4 w9 R5 S10=>?_)
    refine ZC k1 (by have:=Zm; omega) V V V ?_
    exact BK.mk' _ ⟨k1 + 1,v6,o4,G3,V,(L2.trans L3),S10,(YH.cast R5 (by (exact (XY ‹_›).symm))),⟨V,V,V,trivial⟩,(by omega)⟩ (show c.l.length - (k1 + 1) < c.l.length - k1 by omega)
   have T3:=YH.freeze R3 S8 0 V
   obtain ⟨G4,L4,A3,S11⟩:=T3
   exact RT S11 V (Sl.cast A3 (by exact ZeR (by omega)))
  have h2 : c.oth = []:=by simpa [SCmp.b] using h0
  clear h0
  refine LP.go ft [] (fun m ρ1 w1=>∃ (k1 : Nat),∃ (v7 : Value) (o5 : OB),∃ (G5 : GH),m = c.l.length - k1 ∧ G1.le G5 ∧ St w [] G G5 [o5,some (b1,9,[Zb c.col])] w1 ∧ YH Enc.str 16 9 G5 v7 (X8 c ++ ((c.l.take k1).map (Yy n)).flatten) o5 ∧ FR ρ1 [(1,Zu p1),(3,v7),(4,U (k1 : Int))] ∧ k1 ≤ c.l.length) _ ⟨0,v2,o1,G1,V,(G1.le_refl),S4,(YH.cast R1 (by (rw [show ((c.l.take 0).map (Yy n)).flatten = [] from V,List.append_nil]; exact Zr7 ‹_› ‹_›))),⟨V,V,V,trivial⟩,(by omega)⟩ ?_
  rintro m ρ1 w10 ⟨k1,v7,o5,G5,rfl,L5,S12,R6,F9,f2⟩
  refine F9.set ?_
  clear F9
  have hul9:=@Zcp n k1 c
  have hul8:=@Zcp n (k1 + 1) c
  refine Za S12 (YC.drop 6 (C1.mono L5)) Y0 V V V ?_
  have V2:=A1.bound
  refine Zl (A1.mono (L1.trans L5)) Y2 V V ?_
  refine Z1 (k1 : Int) (c.l.length : Int) V V V (fun h4=>?_) (fun h4=>?_)
  ·refine Za S12 (YC.drop 6 (C1.mono L5)) Y0 V V V ?_
   refine WL.indexAddr (A1.mono (L1.trans L5)) k1 (by omega) Y2 Z5 V V V V (fun p3 x2 U2 E2=>?_)
   obtain ⟨D2,C3,R7⟩:=E2
   have T4:=ZO R7
   obtain ⟨v9,rfl,ZV,Ye,Yd,B16,B17,Yf,A4⟩:=T4
   refine Zc S12 C3 (CV x2 v9) Z5 V V V V V ?_
   refine Zv S12 Zbx V V V (ih S12.imm x2 _ (ZJ x2 ZV Ye Yd B16 B17 Yf A4) (YR hn (List.mem_of_getElem? ‹_›)) (Nat.le_trans (Zgn (List.mem_of_getElem? ‹_›)) hb)) (fun w11 G6 r2 P2 S13 L6=>?_)
   refine YV ZaA V V V (R6.mono L6) S13 0 V P2 (by have:=Zm; (rw [XY (k:=k1) ‹_›] at hul8; simp only [List.length_append] at hul8 ⊢; omega)) (by have:=Zm; (rw [XY (k:=k1) ‹_›] at hul8; simp only [List.length_append] at hul8 ⊢; omega)) V V V (fun v10 o6 w12 R8 S14=>?_)
   refine ZC k1 (by have:=Zm; omega) V V V ?_
   exact BK.mk' _ ⟨k1 + 1,v10,o6,G6,V,(L5.trans L6),S14,(YH.cast R8 (by (exact (XY ‹_›).symm))),⟨V,V,V,trivial⟩,(by omega)⟩ (show c.l.length - (k1 + 1) < c.l.length - k1 by omega)
  have T5:=YH.freeze R6 S12 0 V
  obtain ⟨G7,L7,A5,S15⟩:=T5
  exact RT S15 V (Sl.cast A5 (by exact ZeR (by omega)))
 have h1 : c.col = []:=by simpa [SCmp.b] using h0
 clear h0
 refine Za S1 (YC.drop 2 C1) Zy V V V <| Zn .neq V c.oth [] V V V ?_
 refine WL.split (fun h0=>?_) (fun h0=>?_)
 ·have h5 : c.oth ≠ []:=by simpa [SCmp.b] using h0
  clear h0
  refine Za S1 (YC.drop 2 C1) Zy V V V ?_
  refine WL.buildSlice _ [(0,[Zb c.oth])] [Zb c.oth] S1 ZaA V V V V (fun z hz=>by match z,hz with | [z0],_=>rfl) (fun b3 w13 N3 S16=>?_)
  have S17:=S16.pad
  refine WL.push (m:=([c.oth] : List (List UInt8))) ZaA V V V (YH.nil Enc.str 16 9 G1) S17 0 V 1 _ _ _ _ _ V ⟨[Zb c.oth],_,V,⟨V,B3⟩,V⟩ V (by have:=Zm; (simp only [Zau]; omega)) (by have:=Zm; (simp only [Zau]; omega)) V V V (fun v11 o7 w14 R9 S18=>?_)
  refine LP.go ft [] (fun m ρ1 w1=>∃ (k1 : Nat),∃ (v12 : Value) (o8 : OB),∃ (G9 : GH),m = c.l.length - k1 ∧ G1.le G9 ∧ St w [] G G9 [o8,some (b3,9,[Zb c.oth])] w1 ∧ YH Enc.str 16 9 G9 v12 (X8 c ++ ((c.l.take k1).map (Yy n)).flatten) o8 ∧ FR ρ1 [(1,Zu p1),(3,v12),(4,U (k1 : Int))] ∧ k1 ≤ c.l.length) _ ⟨0,v11,o7,G1,V,(G1.le_refl),S18,(YH.cast R9 (by (rw [show ((c.l.take 0).map (Yy n)).flatten = [] from V,List.append_nil]; exact Zr8 ‹_› ‹_›))),⟨V,V,V,trivial⟩,(by omega)⟩ ?_
  rintro m ρ1 w15 ⟨k1,v12,o8,G9,rfl,L9,S19,R10,F9,f3⟩
  refine F9.set ?_
  clear F9
  have hul9:=@Zcp n k1 c
  have hul8:=@Zcp n (k1 + 1) c
  refine Za S19 (YC.drop 6 (C1.mono L9)) Y0 V V V ?_
  have V3:=A1.bound
  refine Zl (A1.mono (L1.trans L9)) Y2 V V ?_
  refine Z1 (k1 : Int) (c.l.length : Int) V V V (fun h6=>?_) (fun h6=>?_)
  ·refine Za S19 (YC.drop 6 (C1.mono L9)) Y0 V V V ?_
   refine WL.indexAddr (A1.mono (L1.trans L9)) k1 (by omega) Y2 Z5 V V V V (fun p4 x3 U3 E3=>?_)
   obtain ⟨D3,C4,R11⟩:=E3
   have T6:=ZO R11
   obtain ⟨v13,rfl,B19,B20,B21,B22,B23,B24,A6⟩:=T6
   refine Zc S19 C4 (CV x3 v13) Z5 V V V V V ?_
   refine Zv S19 Zbx V V V (ih S19.imm x3 _ (ZJ x3 B19 B20 B21 B22 B23 B24 A6) (YR hn (List.mem_of_getElem? ‹_›)) (Nat.le_trans (Zgn (List.mem_of_getElem? ‹_›)) hb)) (fun w16 G10 r3 P3 S20 L10=>?_)
   refine YV ZaA V V V (R10.mono L10) S20 0 V P3 (by have:=Zm; (rw [XY (k:=k1) ‹_›] at hul8; simp only [List.length_append] at hul8 ⊢; omega)) (by have:=Zm; (rw [XY (k:=k1) ‹_›] at hul8; simp only [List.length_append] at hul8 ⊢; omega)) V V V (fun v14 o9 w17 R12 S21=>?_)
   refine ZC k1 (by have:=Zm; omega) V V V ?_
   exact BK.mk' _ ⟨k1 + 1,v14,o9,G10,V,(L9.trans L10),S21,(YH.cast R12 (by (exact (XY ‹_›).symm))),⟨V,V,V,trivial⟩,(by omega)⟩ (show c.l.length - (k1 + 1) < c.l.length - k1 by omega)
  have T7:=YH.freeze R10 S19 0 V
  obtain ⟨G11,L11,A7,S22⟩:=T7
  exact RT S22 V (Sl.cast A7 (by exact ZeR (by omega)))
 have h5 : c.oth = []:=by simpa [SCmp.b] using h0
 clear h0
 have S24:=S1.pad
 refine LP.go ft [] (fun m ρ1 w1=>∃ (k1 : Nat),∃ (v15 : Value) (o10 : OB),∃ (G12 : GH),m = c.l.length - k1 ∧ G1.le G12 ∧ St w [] G G12 [o10] w1 ∧ YH Enc.str 16 9 G12 v15 (X8 c ++ ((c.l.take k1).map (Yy n)).flatten) o10 ∧ FR ρ1 [(1,Zu p1),(3,v15),(4,U (k1 : Int))] ∧ k1 ≤ c.l.length) _ ⟨0,(Zh),none,G1,V,(G1.le_refl),S24,(YH.cast (YH.nil Enc.str 16 9 G1) (by (rw [show ((c.l.take 0).map (Yy n)).flatten = [] from V,List.append_nil]; exact Zr6 ‹_› ‹_›))),⟨V,V,V,trivial⟩,(by omega)⟩ ?_
 rintro m ρ1 w18 ⟨k1,v15,o10,G12,rfl,L12,S23,R13,F9,f4⟩
 refine F9.set ?_
 clear F9
 have hul9:=@Zcp n k1 c
 have hul8:=@Zcp n (k1 + 1) c
 refine Za S23 (YC.drop 6 (C1.mono L12)) Y0 V V V ?_
 have V4:=A1.bound
 have j1:=(L1.trans L12)
 refine Zl (A1.mono j1) Y2 V V ?_
 refine Z1 (k1 : Int) (c.l.length : Int) V V V (fun h7=>?_) (fun h7=>?_)
 ·refine Za S23 (YC.drop 6 (C1.mono L12)) Y0 V V V ?_
  refine WL.indexAddr (A1.mono j1) k1 (by omega) Y2 Z5 V V V V (fun p5 x4 U4 E4=>?_)
  obtain ⟨D4,C5,R14⟩:=E4
  have T8:=ZO R14
  obtain ⟨v16,rfl,X6,B26,B27,B28,B29,B30,A8⟩:=T8
  refine Zc S23 C5 (CV x4 v16) Z5 V V V V V ?_
  refine Zv S23 Zbx V V V (ih S23.imm x4 _ (ZJ x4 X6 B26 B27 B28 B29 B30 A8) (YR hn (List.mem_of_getElem? ‹_›)) (Nat.le_trans (Zgn (List.mem_of_getElem? ‹_›)) hb)) (fun w19 G13 r4 P4 S25 L13=>?_)
  refine YV ZaA V V V (R13.mono L13) S25 0 V P4 (by have:=Zm; (rw [XY (k:=k1) ‹_›] at hul8; simp only [List.length_append] at hul8 ⊢; omega)) (by have:=Zm; (rw [XY (k:=k1) ‹_›] at hul8; simp only [List.length_append] at hul8 ⊢; omega)) V V V (fun v17 o11 w20 R15 S26=>?_)
  refine ZC k1 (by have:=Zm; omega) V V V ?_
  exact BK.mk' _ ⟨k1 + 1,v17,o11,G13,V,(L12.trans L13),S26,(YH.cast R15 (by (exact (XY ‹_›).symm))),⟨V,V,V,trivial⟩,(by omega)⟩ (show c.l.length - (k1 + 1) < c.l.length - k1 by omega)
 have T9:=YH.freeze R13 S23 0 V
 obtain ⟨G14,L14,A9,S27⟩:=T9
 exact RT S27 V (Sl.cast A9 (by exact ZeR (by omega)))
theorem ZcW {G : GH} {w : World} (hG : G.In w) (n : Nat) (c : Cond) (l : List (List UInt8)) (cc : List Value) (hcc : CndE.rep G c cc) (vl : Value) (hvl : Sl Enc.str 16 G vl l) (hn : Xn c n) (hb : (Yy n c).length ≤ 1000000) : CL Tryz.prog (nat_lit 220) #[.agg cc.toArray,vl] [] w G fun _ _ r=>r = .bool (Qq n c l):=by
 refine Zo ft [] Tryz.func220 V V ?_
 have hS:=St.start (X:=[]) hG
 obtain ⟨v1,rfl,B1,B2,B3,B4,B5,B6,A1⟩:=ZO hcc
 refine ZL (CV c v1) _ hS V V V (fun p1 w1 G1 L1 M1 C1 S1=>?_)
 refine Zc S1 C1 (CV c v1) Z5 V V V V V ?_
 refine Zv S1 Zbx V V V (Zqv n S1.imm c _ (ZJ c B1 B2 B3 B4 B5 B6 (A1.mono L1)) hn hb) (fun w2 G2 r1 P1 S2 L2=>?_)
 refine LP.go ft [] (fun m ρ1 w1=>∃ (k1 : Nat),∃ (G3 : GH),m = (Yy n c).length - k1 ∧ G2.le G3 ∧ St w [] G G3 [] w1 ∧ FR ρ1 [(1,vl),(5,r1),(6,U (k1 : Int))] ∧ k1 ≤ (Yy n c).length ∧ ∀ j,j < k1 → ∀ s,(Yy n c)[j]? = some s → 0 ≤ YT l s) _ ⟨0,G2,V,(G2.le_refl),S2,⟨V,V,V,trivial⟩,(by omega),(by intro j hj; omega)⟩ ?_
 rintro m ρ1 w3 ⟨k1,G3,rfl,L3,S3,F9,f1,f2⟩
 refine F9.set ?_
 clear F9
 have V1:=P1.bound
 refine Zl (P1.mono L3) Yo V V ?_
 refine Z1 (k1 : Int) (((Yy n c).length : Nat) : Int) V V V (fun h1=>?_) (fun h1=>?_)
 ·refine WL.indexAddr (P1.mono L3) k1 (by omega) Yo Zy V V V V (fun p2 x1 U1 E1=>?_)
  obtain ⟨D1,C2,R1⟩:=E1
  obtain ⟨rfl,B7⟩:=R1
  refine Za S3 C2 Zy V V V ?_
  refine Zw S3 Zbw V V V (ZdL S3.imm l x1 _ (hvl.mono ((L1.trans L2).trans L3))) (fun w4 G4 S4 L4=>?_)
  refine Z1 (YT l x1) 0 V V V (fun h2=>?_) (fun h2=>?_)
  ·exact RB S4 V (by exact Ztx ‹_› ‹_›)
  refine ZC k1 (by have:=Zm; omega) V V V ?_
  exact BK.mk' _ ⟨k1 + 1,G4,V,(L3.trans L4),S4,⟨V,V,V,trivial⟩,(by omega),(by exact Yz ‹_› ‹_› (by omega))⟩ (show (Yy n c).length - (k1 + 1) < (Yy n c).length - k1 by omega)
 exact RB S3 V (by exact Zty ‹_› (by omega))
theorem Zqw (n : Nat) : ∀ {G : GH} {w : World} (hG : G.In w) (c : Cond) (q : Query) (cc : List Value) (hcc : CndE.rep G c cc) (cq : List Value) (hcq : QryE.rep G q cq) (hn : Xn c n) (hnn : q.names.length = q.cols.length),CL Tryz.prog (nat_lit 219) #[.agg cc.toArray, .agg cq.toArray] [] w G fun G' _ r=>Is CndE G' r (Zz n c q):=by
 induction n
 ·intro G w hG c q cc hcc cq hcq hn hnn; exact (XC hn).elim
 rename_i n ih
 intro G w hG c q cc hcc cq hcq hn hnn
 refine YA ft [] Tryz.func219 V V ?_
 have hS:=St.start (X:=[]) hG
 have T1:=ZO hcc
 obtain ⟨v1,rfl,B1,B2,B3,B4,B5,B6,A1⟩:=T1
 have T2:=Ze hcq
 obtain ⟨v2,v3,v4,v5,rfl,B7,ZK,A2,A3,hb9,Z9,Z7,Z6,ZV,Ye,A4,Yd,B16,B17,Yf,A5⟩:=T2
 refine WL.box (CV c v1) _ hS V V V (fun b1 w1 N1 S1=>?_)
 refine ZL (QV q v2 v3 v4 v5) _ S1 V V V (fun p1 w2 G1 L1 M1 C1 S2=>?_)
 refine WL.alloc S2 Z5 V V (fun b2 w3 N2 S3=>?_)
 refine Za S3 (YC.drop 3 C1) ZU V V V <| ZT S3 1 _ _ _ 1 _ V V Zy V V V ?_
 refine Zw S3 Zbw V V V (ZdL S3.imm q.names c.col _ (A3.mono L1)) (fun w4 G2 S4 L2=>?_)
 refine ZT S4 1 _ _ _ 1 _ V V Zy V V V <| Zn .neq V c.col [] V V V ?_
 refine WL.split (fun h0=>?_) (fun h0=>?_)
 ·have h1 : c.col ≠ []:=by simpa [SCmp.b] using h0
  clear h0
  refine Y9 (YT q.names c.col) 0 V V V (fun h2=>?_) (fun h2=>?_)
  ·refine Za S4 (YC.drop 2 (C1.mono L2)) ZU V V V ?_
   have j1:=(L1.trans L2)
   refine WL.indexAddr (A2.mono j1) (((YT q.names c.col)).toNat) (by (have:=Zcy (by assumption : 0 ≤ YT q.names _); omega)) Yo Zy V V V (congrArg (Value.int .i64) (Int.toNat_of_nonneg (by omega)).symm) (fun p2 x1 U1 E1=>?_)
   obtain ⟨D1,C2,R1⟩:=E1
   obtain ⟨rfl,B19⟩:=R1
   refine Za S4 C2 Zy V V V ?_
   refine WL.store S4 1 _ _ _ 1 _ [Zb x1] [U c.kind,Zb x1,Zb c.oth,U c.v.k,U c.v.n,Zb c.v.s,v1] _ V V Zy V (ZN V) V V V V V V (fun w5 S5=>?_)
   refine Za S5 (YC.drop 3 (C1.mono L2)) ZU V V V <| ZT S5 1 _ _ _ 2 _ V V Zy V V V ?_
   refine Zw S5 Zbw V V V (ZdL S5.imm q.names c.oth _ (A3.mono j1)) (fun w6 G3 S6 L3=>?_)
   refine ZT S6 1 _ _ _ 2 _ V V Zy V V V <| Zn .neq V c.oth [] V V V ?_
   refine WL.split (fun h0=>?_) (fun h0=>?_)
   ·have h3 : c.oth ≠ []:=by simpa [SCmp.b] using h0
    clear h0
    refine Y9 (YT q.names c.oth) 0 V V V (fun h4=>?_) (fun h4=>?_)
    ·refine Za S6 (YC.drop 2 (C1.mono (L2.trans L3))) ZU V V V ?_
     have j2:=(j1.trans L3)
     refine WL.indexAddr (A2.mono j2) (((YT q.names c.oth)).toNat) (by (have:=Zcy (by assumption : 0 ≤ YT q.names _); omega)) Yo Zy V V V (congrArg (Value.int .i64) (Int.toNat_of_nonneg (by omega)).symm) (fun p3 x2 U2 E2=>?_)
     obtain ⟨D2,C3,R2⟩:=E2
     obtain ⟨rfl,B20⟩:=R2
     refine Za S6 C3 Zy V V V ?_
     refine WL.store S6 1 _ _ _ 2 _ [Zb x2] [U c.kind,Zb x1,Zb x2,U c.v.k,U c.v.n,Zb c.v.s,v1] _ V V Zy V (ZN V) V V V V V V (fun w7 S7=>?_)
     have S9:=S7.pad
     refine LP.go ft [] (fun m ρ1 w1=>∃ (k1 : Nat),∃ (v6 : Value) (o1 : OB),∃ (G4 : GH),m = c.l.length - k1 ∧ G3.le G4 ∧ St w [] G G4 [o1,some (b2,27,[U 0,Zb [],Zb [],U 0,U 0,Zb [],Zh]),some (b1,27,[U c.kind,Zb x1,Zb x2,U c.v.k,U c.v.n,Zb c.v.s,v1])] w1 ∧ YH CndE 96 27 G4 v6 ((c.l.take k1).map fun x=>Zz n x q) o1 ∧ FR ρ1 [(2, .pointer (some ⟨b1,0,none⟩)),(3,Zu p1),(4, .pointer (some ⟨b2,0,none⟩)),(7,v6),(8,U (k1 : Int))] ∧ k1 ≤ c.l.length) _ ⟨0,(Zh),none,G3,V,(G3.le_refl),S9,(YH.cast (YH.nil CndE 96 27 G3) (by simp)),(Yt V),(by omega)⟩ ?_
     rintro m ρ1 w9 ⟨k1,v6,o1,G4,rfl,L4,S8,R3,F9,f1⟩
     refine F9.set ?_
     clear F9
     refine ZT S8 2 _ _ _ 6 _ V V Y0 V V V ?_
     have V1:=A1.bound
     have j3:=(j2.trans L4)
     refine Zl (A1.mono j3) Y2 V V ?_
     refine Z1 (k1 : Int) (c.l.length : Int) V V V (fun h5=>?_) (fun h5=>?_)
     ·have T3:=Sl.at (A1.mono j3) k1 (by omega)
      obtain ⟨p4,x3,U3,E3,W1⟩:=T3
      obtain ⟨D3,C4,R4⟩:=E3
      have T4:=ZO R4
      obtain ⟨v7,rfl,B21,B22,B23,B24,X6,B26,A6⟩:=T4
      refine dr [(7,false),(8,false),(9,false),(10,false)] [(54,v1),(56,Zu p4),(57, .agg (CV x3 v7).toArray),(58, .agg (QV q v2 v3 v4 v5).toArray)] S8 ⟨fun _ hSw=>ZT hSw 2 _ _ _ 6 _ V V Y0 V V V <| nu V V,fun _=>Zf k1 W1 Y2 Z5 V V V V <| nu V V,fun _ hSw=>Zc hSw C4 (CV x3 v7) Z5 V V V V V <| nu V V,fun _ hSw=>Zc hSw (C1.mono ((L2.trans L3).trans L4)) (QV q v2 v3 v4 v5) Zg V V V V V <| nu V V,trivial⟩ (fun w10 S10=>?_)
      refine Zv S10 Zas V V V (ih S10.imm x3 q _ (ZJ x3 B21 B22 B23 B24 X6 B26 A6) _ (Zd q B7 ZK (A2.mono j3) (A3.mono j3) hb9 Z9 Z7 Z6 ZV Ye (A4.mono j3) Yd B16 B17 Yf (A5.mono j3)) (YR hn (List.mem_of_getElem? ‹_›)) hnn) (fun w11 G5 r1 P1 S11 L5=>?_)
      obtain ⟨D4,rfl,R5⟩:=P1
      have T5:=ZO R5
      obtain ⟨v9,rfl,B27,B28,B29,B30,B31,B32,A7⟩:=T5
      refine WL.buildSlice _ [(0,(CV (Zz n x3 q) v9))] (CV (Zz n x3 q) v9) S11 QI V V V V (fun z hz=>by match z,hz with | [z0,z1,z2,z3,z4,z5,z6],_=>rfl) (fun b3 w12 N3 S12=>?_)
      refine WL.push (m:=([(Zz n x3 q)] : List Cond)) QI V V V (R3.mono L5) S12 1 V 0 _ _ _ _ _ V ⟨(CV (Zz n x3 q) v9),_,V,(ZJ (Zz n x3 q) B27 B28 B29 B30 B31 B32 A7),V⟩ V (by have:=Zm; have hby9:=(by assumption : Sl CndE 96 G _ c.l).bytes; simp only [List.length_append,List.length_map,List.length_take,List.length_cons,List.length_nil]; omega) (by have:=Zm; have hby9:=(by assumption : Sl CndE 96 G _ c.l).bytes; simp only [List.length_append,List.length_map,List.length_take,List.length_cons,List.length_nil]; omega) V V V (fun v10 o2 w13 R6 S13=>?_)
      have S14:=S13.tail
      refine ZC k1 (by have:=Zm; omega) V V V ?_
      exact BK.mk' _ ⟨k1 + 1,v10,o2,G5,V,(L4.trans L5),S14,(YH.cast R6 (by (exact (ZaR ‹_›).symm))),(Yt V),(by omega)⟩ (show c.l.length - (k1 + 1) < c.l.length - k1 by omega)
     refine WL.store S8 2 _ _ _ 6 _ [v6] [U c.kind,Zb x1,Zb x2,U c.v.k,U c.v.n,Zb c.v.s,v6] _ V R3.cells1 Y0 V (ZN V) (by simp only [ZW,R3.oneC] <;> rfl) V V V V V (fun w14 S15=>?_)
     refine Zs S15 2 _ _ _ 0 [U c.kind,Zb x1,Zb x2,U c.v.k,U c.v.n,Zb c.v.s,v6] V V V Z5 V V V ?_
     refine ZY S15 1 [U c.kind,Zb x1,Zb x2,U c.v.k,U c.v.n,Zb c.v.s,v6] V V Z5 V V (by simp only [ZW,R3.oneC] <;> rfl) V V V (fun w15 S16=>?_)
     have T6:=S16.sealAt 1 V N2
     obtain ⟨G6,L6,C5,S17⟩:=T6
     have T7:=YH.freeze (R3.mono L6) S17 0 V
     obtain ⟨G7,L7,A8,S18⟩:=T7
     exact YD [.agg #[U c.kind,Zb x1,Zb x2,U c.v.k,U c.v.n,Zb c.v.s,v6]] S18 ⟨_,_,_,V,V,S18.loadC (C5.mono L7) Z5 V V,V⟩ (Is.cast ⟨_,V,(ZJ (Cond.mk c.kind x1 x2 c.v ((c.l.take k1).map fun x=>Zz n x q)) B1 B19 B20 B4 B5 B6 A8)⟩ (by exact ZcN (by exact ZfQ ‹_› ‹_› ‹_›) (by exact ZfQ ‹_› ‹_› ‹_›) (by omega)))
    have S20:=S6.pad
    refine LP.go ft [] (fun m ρ1 w1=>∃ (k1 : Nat),∃ (v11 : Value) (o3 : OB),∃ (G9 : GH),m = c.l.length - k1 ∧ G3.le G9 ∧ St w [] G G9 [o3,some (b2,27,[U 0,Zb [],Zb [],U 0,U 0,Zb [],Zh]),some (b1,27,[U c.kind,Zb x1,Zb c.oth,U c.v.k,U c.v.n,Zb c.v.s,v1])] w1 ∧ YH CndE 96 27 G9 v11 ((c.l.take k1).map fun x=>Zz n x q) o3 ∧ FR ρ1 [(2, .pointer (some ⟨b1,0,none⟩)),(3,Zu p1),(4, .pointer (some ⟨b2,0,none⟩)),(7,v11),(8,U (k1 : Int))] ∧ k1 ≤ c.l.length) _ ⟨0,(Zh),none,G3,V,(G3.le_refl),S20,(YH.cast (YH.nil CndE 96 27 G3) (by simp)),(Yt V),(by omega)⟩ ?_
    rintro m ρ1 w16 ⟨k1,v11,o3,G9,rfl,L9,S19,R7,F9,f2⟩
    refine F9.set ?_
    clear F9
    refine ZT S19 2 _ _ _ 6 _ V V Y0 V V V ?_
    have V2:=A1.bound
    refine Zl (A1.mono (((L1.trans L2).trans L3).trans L9)) Y2 V V ?_
    refine Z1 (k1 : Int) (c.l.length : Int) V V V (fun h6=>?_) (fun h6=>?_)
    ·have T8:=Sl.at (A1.mono (((L1.trans L2).trans L3).trans L9)) k1 (by omega)
     obtain ⟨p5,x4,U4,E4,W2⟩:=T8
     obtain ⟨D5,C6,R8⟩:=E4
     have T9:=ZO R8
     obtain ⟨v12,rfl,B33,XM,B35,B36,B37,B38,A9⟩:=T9
     refine dr [(7,false),(8,false),(9,false),(10,false)] [(54,v1),(56,Zu p5),(57, .agg (CV x4 v12).toArray),(58, .agg (QV q v2 v3 v4 v5).toArray)] S19 ⟨fun _ hSw=>ZT hSw 2 _ _ _ 6 _ V V Y0 V V V <| nu V V,fun _=>Zf k1 W2 Y2 Z5 V V V V <| nu V V,fun _ hSw=>Zc hSw C6 (CV x4 v12) Z5 V V V V V <| nu V V,fun _ hSw=>Zc hSw (C1.mono ((L2.trans L3).trans L9)) (QV q v2 v3 v4 v5) Zg V V V V V <| nu V V,trivial⟩ (fun w17 S21=>?_)
     refine Zv S21 Zas V V V (ih S21.imm x4 q _ (ZJ x4 B33 XM B35 B36 B37 B38 A9) _ (Zd q B7 ZK (A2.mono (((L1.trans L2).trans L3).trans L9)) (A3.mono (((L1.trans L2).trans L3).trans L9)) hb9 Z9 Z7 Z6 ZV Ye (A4.mono (((L1.trans L2).trans L3).trans L9)) Yd B16 B17 Yf (A5.mono (((L1.trans L2).trans L3).trans L9))) (YR hn (List.mem_of_getElem? ‹_›)) hnn) (fun w18 G10 r2 P2 S22 L10=>?_)
     obtain ⟨D6,rfl,R9⟩:=P2
     have T10:=ZO R9
     obtain ⟨v13,rfl,Qj,Qk,XN,Qo,Zac,Q5,A10⟩:=T10
     refine WL.buildSlice _ [(0,(CV (Zz n x4 q) v13))] (CV (Zz n x4 q) v13) S22 QI V V V V (fun z hz=>by match z,hz with | [z0,z1,z2,z3,z4,z5,z6],_=>rfl) (fun b4 w19 N4 S23=>?_)
     refine WL.push (m:=([(Zz n x4 q)] : List Cond)) QI V V V (R7.mono L10) S23 1 V 0 _ _ _ _ _ V ⟨(CV (Zz n x4 q) v13),_,V,(ZJ (Zz n x4 q) Qj Qk XN Qo Zac Q5 A10),V⟩ V (by have:=Zm; have hby9:=(by assumption : Sl CndE 96 G _ c.l).bytes; simp only [List.length_append,List.length_map,List.length_take,List.length_cons,List.length_nil]; omega) (by have:=Zm; have hby9:=(by assumption : Sl CndE 96 G _ c.l).bytes; simp only [List.length_append,List.length_map,List.length_take,List.length_cons,List.length_nil]; omega) V V V (fun v14 o4 w20 R10 S24=>?_)
     have S25:=S24.tail
     refine ZC k1 (by have:=Zm; omega) V V V ?_
     exact BK.mk' _ ⟨k1 + 1,v14,o4,G10,V,(L9.trans L10),S25,(YH.cast R10 (by (exact (ZaR ‹_›).symm))),(Yt V),(by omega)⟩ (show c.l.length - (k1 + 1) < c.l.length - k1 by omega)
    refine WL.store S19 2 _ _ _ 6 _ [v11] [U c.kind,Zb x1,Zb c.oth,U c.v.k,U c.v.n,Zb c.v.s,v11] _ V R7.cells1 Y0 V (ZN V) (by simp only [ZW,R7.oneC] <;> rfl) V V V V V (fun w21 S26=>?_)
    refine Zs S26 2 _ _ _ 0 [U c.kind,Zb x1,Zb c.oth,U c.v.k,U c.v.n,Zb c.v.s,v11] V V V Z5 V V V ?_
    refine ZY S26 1 [U c.kind,Zb x1,Zb c.oth,U c.v.k,U c.v.n,Zb c.v.s,v11] V V Z5 V V (by simp only [ZW,R7.oneC] <;> rfl) V V V (fun w22 S27=>?_)
    have T11:=S27.sealAt 1 V N2
    obtain ⟨G11,L11,C7,S28⟩:=T11
    have T12:=YH.freeze (R7.mono L11) S28 0 V
    obtain ⟨G12,L12,A11,S29⟩:=T12
    exact YD [.agg #[U c.kind,Zb x1,Zb c.oth,U c.v.k,U c.v.n,Zb c.v.s,v11]] S29 ⟨_,_,_,V,V,S29.loadC (C7.mono L12) Z5 V V,V⟩ (Is.cast ⟨_,V,(ZJ (Cond.mk c.kind x1 c.oth c.v ((c.l.take k1).map fun x=>Zz n x q)) B1 B19 B3 B4 B5 B6 A11)⟩ (by exact ZcN (by exact ZfQ ‹_› ‹_› ‹_›) (by exact ZeD (by omega)) (by omega)))
   have h3 : c.oth = []:=by simpa [SCmp.b] using h0
   clear h0
   have S31:=S6.pad
   refine LP.go ft [] (fun m ρ1 w1=>∃ (k1 : Nat),∃ (v15 : Value) (o5 : OB),∃ (G13 : GH),m = c.l.length - k1 ∧ G3.le G13 ∧ St w [] G G13 [o5,some (b2,27,[U 0,Zb [],Zb [],U 0,U 0,Zb [],Zh]),some (b1,27,[U c.kind,Zb x1,Zb c.oth,U c.v.k,U c.v.n,Zb c.v.s,v1])] w1 ∧ YH CndE 96 27 G13 v15 ((c.l.take k1).map fun x=>Zz n x q) o5 ∧ FR ρ1 [(2, .pointer (some ⟨b1,0,none⟩)),(3,Zu p1),(4, .pointer (some ⟨b2,0,none⟩)),(7,v15),(8,U (k1 : Int))] ∧ k1 ≤ c.l.length) _ ⟨0,(Zh),none,G3,V,(G3.le_refl),S31,(YH.cast (YH.nil CndE 96 27 G3) (by simp)),(Yt V),(by omega)⟩ ?_
   rintro m ρ1 w23 ⟨k1,v15,o5,G13,rfl,L13,S30,R11,F9,f3⟩
   refine F9.set ?_
   clear F9
   refine ZT S30 2 _ _ _ 6 _ V V Y0 V V V ?_
   have V3:=A1.bound
   have j4:=((j1.trans L3).trans L13)
   refine Zl (A1.mono j4) Y2 V V ?_
   refine Z1 (k1 : Int) (c.l.length : Int) V V V (fun h7=>?_) (fun h7=>?_)
   ·have T13:=Sl.at (A1.mono j4) k1 (by omega)
    obtain ⟨p6,x5,U5,E5,W3⟩:=T13
    obtain ⟨D7,C8,R12⟩:=E5
    have T14:=ZO R12
    obtain ⟨v16,rfl,Zad,Qt,QJ,Zav,Zaw,QK,A12⟩:=T14
    refine dr [(7,false),(8,false),(9,false),(10,false)] [(54,v1),(56,Zu p6),(57, .agg (CV x5 v16).toArray),(58, .agg (QV q v2 v3 v4 v5).toArray)] S30 ⟨fun _ hSw=>ZT hSw 2 _ _ _ 6 _ V V Y0 V V V <| nu V V,fun _=>Zf k1 W3 Y2 Z5 V V V V <| nu V V,fun _ hSw=>Zc hSw C8 (CV x5 v16) Z5 V V V V V <| nu V V,fun _ hSw=>Zc hSw (C1.mono ((L2.trans L3).trans L13)) (QV q v2 v3 v4 v5) Zg V V V V V <| nu V V,trivial⟩ (fun w24 S32=>?_)
    refine Zv S32 Zas V V V (ih S32.imm x5 q _ (ZJ x5 Zad Qt QJ Zav Zaw QK A12) _ (Zd q B7 ZK (A2.mono j4) (A3.mono j4) hb9 Z9 Z7 Z6 ZV Ye (A4.mono j4) Yd B16 B17 Yf (A5.mono j4)) (YR hn (List.mem_of_getElem? ‹_›)) hnn) (fun w25 G14 r3 P3 S33 L14=>?_)
    obtain ⟨D8,rfl,R13⟩:=P3
    have T15:=ZO R13
    obtain ⟨v17,rfl,Zax,QL,ZaT,B54,ZaU,Zay,A13⟩:=T15
    refine WL.buildSlice _ [(0,(CV (Zz n x5 q) v17))] (CV (Zz n x5 q) v17) S33 QI V V V V (fun z hz=>by match z,hz with | [z0,z1,z2,z3,z4,z5,z6],_=>rfl) (fun b5 w26 N5 S34=>?_)
    refine WL.push (m:=([(Zz n x5 q)] : List Cond)) QI V V V (R11.mono L14) S34 1 V 0 _ _ _ _ _ V ⟨(CV (Zz n x5 q) v17),_,V,(ZJ (Zz n x5 q) Zax QL ZaT B54 ZaU Zay A13),V⟩ V (by have:=Zm; have hby9:=(by assumption : Sl CndE 96 G _ c.l).bytes; simp only [List.length_append,List.length_map,List.length_take,List.length_cons,List.length_nil]; omega) (by have:=Zm; have hby9:=(by assumption : Sl CndE 96 G _ c.l).bytes; simp only [List.length_append,List.length_map,List.length_take,List.length_cons,List.length_nil]; omega) V V V (fun v18 o6 w27 R14 S35=>?_)
    have S36:=S35.tail
    refine ZC k1 (by have:=Zm; omega) V V V ?_
    exact BK.mk' _ ⟨k1 + 1,v18,o6,G14,V,(L13.trans L14),S36,(YH.cast R14 (by (exact (ZaR ‹_›).symm))),(Yt V),(by omega)⟩ (show c.l.length - (k1 + 1) < c.l.length - k1 by omega)
   refine WL.store S30 2 _ _ _ 6 _ [v15] [U c.kind,Zb x1,Zb c.oth,U c.v.k,U c.v.n,Zb c.v.s,v15] _ V R11.cells1 Y0 V (ZN V) (by simp only [ZW,R11.oneC] <;> rfl) V V V V V (fun w28 S37=>?_)
   refine Zs S37 2 _ _ _ 0 [U c.kind,Zb x1,Zb c.oth,U c.v.k,U c.v.n,Zb c.v.s,v15] V V V Z5 V V V ?_
   refine ZY S37 1 [U c.kind,Zb x1,Zb c.oth,U c.v.k,U c.v.n,Zb c.v.s,v15] V V Z5 V V (by simp only [ZW,R11.oneC] <;> rfl) V V V (fun w29 S38=>?_)
   have T16:=S38.sealAt 1 V N2
   obtain ⟨G15,L15,C9,S39⟩:=T16
   have T17:=YH.freeze (R11.mono L15) S39 0 V
   obtain ⟨G16,L16,A14,S40⟩:=T17
   exact YD [.agg #[U c.kind,Zb x1,Zb c.oth,U c.v.k,U c.v.n,Zb c.v.s,v15]] S40 ⟨_,_,_,V,V,S40.loadC (C9.mono L16) Z5 V V,V⟩ (Is.cast ⟨_,V,(ZJ (Cond.mk c.kind x1 c.oth c.v ((c.l.take k1).map fun x=>Zz n x q)) B1 B19 B3 B4 B5 B6 A14)⟩ (by exact ZcN (by exact ZfQ ‹_› ‹_› ‹_›) (by exact Zfu ‹_›) (by omega)))
  refine Za S4 (YC.drop 3 (C1.mono L2)) ZU V V V <| ZT S4 1 _ _ _ 2 _ V V Zy V V V ?_
  have j5:=(L1.trans L2)
  refine Zw S4 Zbw V V V (ZdL S4.imm q.names c.oth _ (A3.mono j5)) (fun w30 G17 S41 L17=>?_)
  refine ZT S41 1 _ _ _ 2 _ V V Zy V V V <| Zn .neq V c.oth [] V V V ?_
  refine WL.split (fun h0=>?_) (fun h0=>?_)
  ·have h8 : c.oth ≠ []:=by simpa [SCmp.b] using h0
   clear h0
   refine Y9 (YT q.names c.oth) 0 V V V (fun h9=>?_) (fun h9=>?_)
   ·refine Za S41 (YC.drop 2 (C1.mono (L2.trans L17))) ZU V V V ?_
    have j6:=(j5.trans L17)
    refine WL.indexAddr (A2.mono j6) (((YT q.names c.oth)).toNat) (by (have:=Zcy (by assumption : 0 ≤ YT q.names _); omega)) Yo Zy V V V (congrArg (Value.int .i64) (Int.toNat_of_nonneg (by omega)).symm) (fun p7 x6 U6 E6=>?_)
    obtain ⟨D9,C10,R15⟩:=E6
    obtain ⟨rfl,ZaB⟩:=R15
    refine Za S41 C10 Zy V V V ?_
    refine WL.store S41 1 _ _ _ 2 _ [Zb x6] [U c.kind,Zb c.col,Zb x6,U c.v.k,U c.v.n,Zb c.v.s,v1] _ V V Zy V (ZN V) V V V V V V (fun w31 S42=>?_)
    have S44:=S42.pad
    refine LP.go ft [] (fun m ρ1 w1=>∃ (k1 : Nat),∃ (v19 : Value) (o7 : OB),∃ (G18 : GH),m = c.l.length - k1 ∧ G17.le G18 ∧ St w [] G G18 [o7,some (b2,27,[U 0,Zb [],Zb [],U 0,U 0,Zb [],Zh]),some (b1,27,[U c.kind,Zb c.col,Zb x6,U c.v.k,U c.v.n,Zb c.v.s,v1])] w1 ∧ YH CndE 96 27 G18 v19 ((c.l.take k1).map fun x=>Zz n x q) o7 ∧ FR ρ1 [(2, .pointer (some ⟨b1,0,none⟩)),(3,Zu p1),(4, .pointer (some ⟨b2,0,none⟩)),(7,v19),(8,U (k1 : Int))] ∧ k1 ≤ c.l.length) _ ⟨0,(Zh),none,G17,V,(G17.le_refl),S44,(YH.cast (YH.nil CndE 96 27 G17) (by simp)),(Yt V),(by omega)⟩ ?_
    rintro m ρ1 w32 ⟨k1,v19,o7,G18,rfl,L18,S43,R16,F9,f4⟩
    refine F9.set ?_
    clear F9
    refine ZT S43 2 _ _ _ 6 _ V V Y0 V V V ?_
    have V4:=A1.bound
    have j7:=(j6.trans L18)
    refine Zl (A1.mono j7) Y2 V V ?_
    refine Z1 (k1 : Int) (c.l.length : Int) V V V (fun h10=>?_) (fun h10=>?_)
    ·have T18:=Sl.at (A1.mono j7) k1 (by omega)
     obtain ⟨p8,x7,U7,E7,W4⟩:=T18
     obtain ⟨D10,C11,R17⟩:=E7
     have T19:=ZO R17
     obtain ⟨v20,rfl,Zbg,Zbh,Zbi,B61,B62,B63,A15⟩:=T19
     refine dr [(7,false),(8,false),(9,false),(10,false)] [(54,v1),(56,Zu p8),(57, .agg (CV x7 v20).toArray),(58, .agg (QV q v2 v3 v4 v5).toArray)] S43 ⟨fun _ hSw=>ZT hSw 2 _ _ _ 6 _ V V Y0 V V V <| nu V V,fun _=>Zf k1 W4 Y2 Z5 V V V V <| nu V V,fun _ hSw=>Zc hSw C11 (CV x7 v20) Z5 V V V V V <| nu V V,fun _ hSw=>Zc hSw (C1.mono ((L2.trans L17).trans L18)) (QV q v2 v3 v4 v5) Zg V V V V V <| nu V V,trivial⟩ (fun w33 S45=>?_)
     refine Zv S45 Zas V V V (ih S45.imm x7 q _ (ZJ x7 Zbg Zbh Zbi B61 B62 B63 A15) _ (Zd q B7 ZK (A2.mono j7) (A3.mono j7) hb9 Z9 Z7 Z6 ZV Ye (A4.mono j7) Yd B16 B17 Yf (A5.mono j7)) (YR hn (List.mem_of_getElem? ‹_›)) hnn) (fun w34 G19 r4 P4 S46 L19=>?_)
     obtain ⟨D11,rfl,R18⟩:=P4
     have T20:=ZO R18
     obtain ⟨v21,rfl,B64,B65,B66,B67,B68,B69,A16⟩:=T20
     refine WL.buildSlice _ [(0,(CV (Zz n x7 q) v21))] (CV (Zz n x7 q) v21) S46 QI V V V V (fun z hz=>by match z,hz with | [z0,z1,z2,z3,z4,z5,z6],_=>rfl) (fun b6 w35 N6 S47=>?_)
     refine WL.push (m:=([(Zz n x7 q)] : List Cond)) QI V V V (R16.mono L19) S47 1 V 0 _ _ _ _ _ V ⟨(CV (Zz n x7 q) v21),_,V,(ZJ (Zz n x7 q) B64 B65 B66 B67 B68 B69 A16),V⟩ V (by have:=Zm; have hby9:=(by assumption : Sl CndE 96 G _ c.l).bytes; simp only [List.length_append,List.length_map,List.length_take,List.length_cons,List.length_nil]; omega) (by have:=Zm; have hby9:=(by assumption : Sl CndE 96 G _ c.l).bytes; simp only [List.length_append,List.length_map,List.length_take,List.length_cons,List.length_nil]; omega) V V V (fun v22 o8 w36 R19 S48=>?_)
     have S49:=S48.tail
     refine ZC k1 (by have:=Zm; omega) V V V ?_
     exact BK.mk' _ ⟨k1 + 1,v22,o8,G19,V,(L18.trans L19),S49,(YH.cast R19 (by (exact (ZaR ‹_›).symm))),(Yt V),(by omega)⟩ (show c.l.length - (k1 + 1) < c.l.length - k1 by omega)
    refine WL.store S43 2 _ _ _ 6 _ [v19] [U c.kind,Zb c.col,Zb x6,U c.v.k,U c.v.n,Zb c.v.s,v19] _ V R16.cells1 Y0 V (ZN V) (by simp only [ZW,R16.oneC] <;> rfl) V V V V V (fun w37 S50=>?_)
    refine Zs S50 2 _ _ _ 0 [U c.kind,Zb c.col,Zb x6,U c.v.k,U c.v.n,Zb c.v.s,v19] V V V Z5 V V V ?_
    refine ZY S50 1 [U c.kind,Zb c.col,Zb x6,U c.v.k,U c.v.n,Zb c.v.s,v19] V V Z5 V V (by simp only [ZW,R16.oneC] <;> rfl) V V V (fun w38 S51=>?_)
    have T21:=S51.sealAt 1 V N2
    obtain ⟨G20,L20,C12,S52⟩:=T21
    have T22:=YH.freeze (R16.mono L20) S52 0 V
    obtain ⟨G21,L21,A17,S53⟩:=T22
    exact YD [.agg #[U c.kind,Zb c.col,Zb x6,U c.v.k,U c.v.n,Zb c.v.s,v19]] S53 ⟨_,_,_,V,V,S53.loadC (C12.mono L21) Z5 V V,V⟩ (Is.cast ⟨_,V,(ZJ (Cond.mk c.kind c.col x6 c.v ((c.l.take k1).map fun x=>Zz n x q)) B1 B2 ZaB B4 B5 B6 A17)⟩ (by exact ZcN (by exact ZeD (by omega)) (by exact ZfQ ‹_› ‹_› ‹_›) (by omega)))
   have S55:=S41.pad
   refine LP.go ft [] (fun m ρ1 w1=>∃ (k1 : Nat),∃ (v23 : Value) (o9 : OB),∃ (G22 : GH),m = c.l.length - k1 ∧ G17.le G22 ∧ St w [] G G22 [o9,some (b2,27,[U 0,Zb [],Zb [],U 0,U 0,Zb [],Zh]),some (b1,27,(CV c v1))] w1 ∧ YH CndE 96 27 G22 v23 ((c.l.take k1).map fun x=>Zz n x q) o9 ∧ FR ρ1 [(2, .pointer (some ⟨b1,0,none⟩)),(3,Zu p1),(4, .pointer (some ⟨b2,0,none⟩)),(7,v23),(8,U (k1 : Int))] ∧ k1 ≤ c.l.length) _ ⟨0,(Zh),none,G17,V,(G17.le_refl),S55,(YH.cast (YH.nil CndE 96 27 G17) (by simp)),(Yt V),(by omega)⟩ ?_
   rintro m ρ1 w39 ⟨k1,v23,o9,G22,rfl,L22,S54,R20,F9,f5⟩
   refine F9.set ?_
   clear F9
   refine ZT S54 2 _ _ _ 6 _ V V Y0 V V V ?_
   have V5:=A1.bound
   have j8:=((j5.trans L17).trans L22)
   refine Zl (A1.mono j8) Y2 V V ?_
   refine Z1 (k1 : Int) (c.l.length : Int) V V V (fun h11=>?_) (fun h11=>?_)
   ·have T23:=Sl.at (A1.mono j8) k1 (by omega)
    obtain ⟨p9,x9,U8,E8,W5⟩:=T23
    obtain ⟨D12,C13,R21⟩:=E8
    have T24:=ZO R21
    obtain ⟨v24,rfl,B70,B71,B72,B73,B74,B75,A18⟩:=T24
    refine dr [(7,false),(8,false),(9,false),(10,false)] [(54,v1),(56,Zu p9),(57, .agg (CV x9 v24).toArray),(58, .agg (QV q v2 v3 v4 v5).toArray)] S54 ⟨fun _ hSw=>ZT hSw 2 _ _ _ 6 _ V V Y0 V V V <| nu V V,fun _=>Zf k1 W5 Y2 Z5 V V V V <| nu V V,fun _ hSw=>Zc hSw C13 (CV x9 v24) Z5 V V V V V <| nu V V,fun _ hSw=>Zc hSw (C1.mono ((L2.trans L17).trans L22)) (QV q v2 v3 v4 v5) Zg V V V V V <| nu V V,trivial⟩ (fun w40 S56=>?_)
    refine Zv S56 Zas V V V (ih S56.imm x9 q _ (ZJ x9 B70 B71 B72 B73 B74 B75 A18) _ (Zd q B7 ZK (A2.mono j8) (A3.mono j8) hb9 Z9 Z7 Z6 ZV Ye (A4.mono j8) Yd B16 B17 Yf (A5.mono j8)) (YR hn (List.mem_of_getElem? ‹_›)) hnn) (fun w41 G23 r5 P5 S57 L23=>?_)
    obtain ⟨D13,rfl,R22⟩:=P5
    have T25:=ZO R22
    obtain ⟨v25,rfl,B76,B77,Zae,B79,B80,B81,A19⟩:=T25
    refine WL.buildSlice _ [(0,(CV (Zz n x9 q) v25))] (CV (Zz n x9 q) v25) S57 QI V V V V (fun z hz=>by match z,hz with | [z0,z1,z2,z3,z4,z5,z6],_=>rfl) (fun b7 w42 N7 S58=>?_)
    refine WL.push (m:=([(Zz n x9 q)] : List Cond)) QI V V V (R20.mono L23) S58 1 V 0 _ _ _ _ _ V ⟨(CV (Zz n x9 q) v25),_,V,(ZJ (Zz n x9 q) B76 B77 Zae B79 B80 B81 A19),V⟩ V (by have:=Zm; have hby9:=(by assumption : Sl CndE 96 G _ c.l).bytes; simp only [List.length_append,List.length_map,List.length_take,List.length_cons,List.length_nil]; omega) (by have:=Zm; have hby9:=(by assumption : Sl CndE 96 G _ c.l).bytes; simp only [List.length_append,List.length_map,List.length_take,List.length_cons,List.length_nil]; omega) V V V (fun v26 o10 w43 R23 S59=>?_)
    have S60:=S59.tail
    refine ZC k1 (by have:=Zm; omega) V V V ?_
    exact BK.mk' _ ⟨k1 + 1,v26,o10,G23,V,(L22.trans L23),S60,(YH.cast R23 (by (exact (ZaR ‹_›).symm))),(Yt V),(by omega)⟩ (show c.l.length - (k1 + 1) < c.l.length - k1 by omega)
   refine WL.store S54 2 _ _ _ 6 _ [v23] (CV c v23) _ V R20.cells1 Y0 V (ZN V) (by simp only [ZW,R20.oneC] <;> rfl) V V V V V (fun w44 S61=>?_)
   refine Zs S61 2 _ _ _ 0 (CV c v23) V V V Z5 V V V ?_
   refine WL.store S61 1 _ _ _ 0 _ (CV c v23) (CV c v23) _ V V Z5 V (ZN V) (by simp only [ZW,R20.oneC] <;> rfl) V V V V V (fun w45 S62=>?_)
   have T26:=S62.sealAt 1 V N2
   obtain ⟨G24,L24,C14,S63⟩:=T26
   have T27:=YH.freeze (R20.mono L24) S63 0 V
   obtain ⟨G25,L25,A20,S64⟩:=T27
   exact YD [.agg (CV c v23).toArray] S64 ⟨_,_,_,V,V,S64.loadC (C14.mono L25) Z5 V V,V⟩ (Is.cast ⟨_,V,(ZJ (Cond.mk c.kind c.col c.oth c.v ((c.l.take k1).map fun x=>Zz n x q)) B1 B2 B3 B4 B5 B6 A20)⟩ (by exact ZcN (by exact ZeD (by omega)) (by exact ZeD (by omega)) (by omega)))
  have h8 : c.oth = []:=by simpa [SCmp.b] using h0
  clear h0
  have S66:=S41.pad
  refine LP.go ft [] (fun m ρ1 w1=>∃ (k1 : Nat),∃ (v27 : Value) (o11 : OB),∃ (G26 : GH),m = c.l.length - k1 ∧ G17.le G26 ∧ St w [] G G26 [o11,some (b2,27,[U 0,Zb [],Zb [],U 0,U 0,Zb [],Zh]),some (b1,27,(CV c v1))] w1 ∧ YH CndE 96 27 G26 v27 ((c.l.take k1).map fun x=>Zz n x q) o11 ∧ FR ρ1 [(2, .pointer (some ⟨b1,0,none⟩)),(3,Zu p1),(4, .pointer (some ⟨b2,0,none⟩)),(7,v27),(8,U (k1 : Int))] ∧ k1 ≤ c.l.length) _ ⟨0,(Zh),none,G17,V,(G17.le_refl),S66,(YH.cast (YH.nil CndE 96 27 G17) (by simp)),(Yt V),(by omega)⟩ ?_
  rintro m ρ1 w46 ⟨k1,v27,o11,G26,rfl,L26,S65,R24,F9,f6⟩
  refine F9.set ?_
  clear F9
  refine ZT S65 2 _ _ _ 6 _ V V Y0 V V V ?_
  have V6:=A1.bound
  have j9:=((j5.trans L17).trans L26)
  refine Zl (A1.mono j9) Y2 V V ?_
  refine Z1 (k1 : Int) (c.l.length : Int) V V V (fun h12=>?_) (fun h12=>?_)
  ·have T28:=Sl.at (A1.mono j9) k1 (by omega)
   obtain ⟨p10,x10,U9,E9,W6⟩:=T28
   obtain ⟨D14,C15,R25⟩:=E9
   have T29:=ZO R25
   obtain ⟨v28,rfl,B82,B83,ZaC,B85,ZaV,B87,A21⟩:=T29
   refine dr [(7,false),(8,false),(9,false),(10,false)] [(54,v1),(56,Zu p10),(57, .agg (CV x10 v28).toArray),(58, .agg (QV q v2 v3 v4 v5).toArray)] S65 ⟨fun _ hSw=>ZT hSw 2 _ _ _ 6 _ V V Y0 V V V <| nu V V,fun _=>Zf k1 W6 Y2 Z5 V V V V <| nu V V,fun _ hSw=>Zc hSw C15 (CV x10 v28) Z5 V V V V V <| nu V V,fun _ hSw=>Zc hSw (C1.mono ((L2.trans L17).trans L26)) (QV q v2 v3 v4 v5) Zg V V V V V <| nu V V,trivial⟩ (fun w47 S67=>?_)
   refine Zv S67 Zas V V V (ih S67.imm x10 q _ (ZJ x10 B82 B83 ZaC B85 ZaV B87 A21) _ (Zd q B7 ZK (A2.mono j9) (A3.mono j9) hb9 Z9 Z7 Z6 ZV Ye (A4.mono j9) Yd B16 B17 Yf (A5.mono j9)) (YR hn (List.mem_of_getElem? ‹_›)) hnn) (fun w48 G27 r6 P6 S68 L27=>?_)
   obtain ⟨D15,rfl,R26⟩:=P6
   have T30:=ZO R26
   obtain ⟨v29,rfl,B88,B89,B90,B91,B92,B93,A22⟩:=T30
   refine WL.buildSlice _ [(0,(CV (Zz n x10 q) v29))] (CV (Zz n x10 q) v29) S68 QI V V V V (fun z hz=>by match z,hz with | [z0,z1,z2,z3,z4,z5,z6],_=>rfl) (fun b8 w49 N8 S69=>?_)
   refine WL.push (m:=([(Zz n x10 q)] : List Cond)) QI V V V (R24.mono L27) S69 1 V 0 _ _ _ _ _ V ⟨(CV (Zz n x10 q) v29),_,V,(ZJ (Zz n x10 q) B88 B89 B90 B91 B92 B93 A22),V⟩ V (by have:=Zm; have hby9:=(by assumption : Sl CndE 96 G _ c.l).bytes; simp only [List.length_append,List.length_map,List.length_take,List.length_cons,List.length_nil]; omega) (by have:=Zm; have hby9:=(by assumption : Sl CndE 96 G _ c.l).bytes; simp only [List.length_append,List.length_map,List.length_take,List.length_cons,List.length_nil]; omega) V V V (fun v30 o12 w50 R27 S70=>?_)
   have S71:=S70.tail
   refine ZC k1 (by have:=Zm; omega) V V V ?_
   exact BK.mk' _ ⟨k1 + 1,v30,o12,G27,V,(L26.trans L27),S71,(YH.cast R27 (by (exact (ZaR ‹_›).symm))),(Yt V),(by omega)⟩ (show c.l.length - (k1 + 1) < c.l.length - k1 by omega)
  refine WL.store S65 2 _ _ _ 6 _ [v27] (CV c v27) _ V R24.cells1 Y0 V (ZN V) (by simp only [ZW,R24.oneC] <;> rfl) V V V V V (fun w51 S72=>?_)
  refine Zs S72 2 _ _ _ 0 (CV c v27) V V V Z5 V V V ?_
  refine WL.store S72 1 _ _ _ 0 _ (CV c v27) (CV c v27) _ V V Z5 V (ZN V) (by simp only [ZW,R24.oneC] <;> rfl) V V V V V (fun w52 S73=>?_)
  have T31:=S73.sealAt 1 V N2
  obtain ⟨G28,L28,C16,S74⟩:=T31
  have T32:=YH.freeze (R24.mono L28) S74 0 V
  obtain ⟨G29,L29,A23,S75⟩:=T32
  exact YD [.agg (CV c v27).toArray] S75 ⟨_,_,_,V,V,S75.loadC (C16.mono L29) Z5 V V,V⟩ (Is.cast ⟨_,V,(ZJ (Cond.mk c.kind c.col c.oth c.v ((c.l.take k1).map fun x=>Zz n x q)) B1 B2 B3 B4 B5 B6 A23)⟩ (by exact ZcN (by exact ZeD (by omega)) (by exact Zfu ‹_›) (by omega)))
 have h1 : c.col = []:=by simpa [SCmp.b] using h0
 clear h0
 refine Za S4 (YC.drop 3 (C1.mono L2)) ZU V V V <| ZT S4 1 _ _ _ 2 _ V V Zy V V V ?_
 have j10:=(L1.trans L2)
 refine Zw S4 Zbw V V V (ZdL S4.imm q.names c.oth _ (A3.mono j10)) (fun w53 G30 S76 L30=>?_)
 refine ZT S76 1 _ _ _ 2 _ V V Zy V V V <| Zn .neq V c.oth [] V V V ?_
 refine WL.split (fun h0=>?_) (fun h0=>?_)
 ·have h13 : c.oth ≠ []:=by simpa [SCmp.b] using h0
  clear h0
  refine Y9 (YT q.names c.oth) 0 V V V (fun h14=>?_) (fun h14=>?_)
  ·refine Za S76 (YC.drop 2 (C1.mono (L2.trans L30))) ZU V V V ?_
   have j11:=(j10.trans L30)
   refine WL.indexAddr (A2.mono j11) (((YT q.names c.oth)).toNat) (by (have:=Zcy (by assumption : 0 ≤ YT q.names _); omega)) Yo Zy V V V (congrArg (Value.int .i64) (Int.toNat_of_nonneg (by omega)).symm) (fun p11 x11 U10 E10=>?_)
   obtain ⟨D16,C17,R28⟩:=E10
   obtain ⟨rfl,B94⟩:=R28
   refine Za S76 C17 Zy V V V ?_
   refine WL.store S76 1 _ _ _ 2 _ [Zb x11] [U c.kind,Zb c.col,Zb x11,U c.v.k,U c.v.n,Zb c.v.s,v1] _ V V Zy V (ZN V) V V V V V V (fun w54 S77=>?_)
   have S79:=S77.pad
   refine LP.go ft [] (fun m ρ1 w1=>∃ (k1 : Nat),∃ (v31 : Value) (o13 : OB),∃ (G31 : GH),m = c.l.length - k1 ∧ G30.le G31 ∧ St w [] G G31 [o13,some (b2,27,[U 0,Zb [],Zb [],U 0,U 0,Zb [],Zh]),some (b1,27,[U c.kind,Zb c.col,Zb x11,U c.v.k,U c.v.n,Zb c.v.s,v1])] w1 ∧ YH CndE 96 27 G31 v31 ((c.l.take k1).map fun x=>Zz n x q) o13 ∧ FR ρ1 [(2, .pointer (some ⟨b1,0,none⟩)),(3,Zu p1),(4, .pointer (some ⟨b2,0,none⟩)),(7,v31),(8,U (k1 : Int))] ∧ k1 ≤ c.l.length) _ ⟨0,(Zh),none,G30,V,(G30.le_refl),S79,(YH.cast (YH.nil CndE 96 27 G30) (by simp)),(Yt V),(by omega)⟩ ?_
   rintro m ρ1 w55 ⟨k1,v31,o13,G31,rfl,L31,S78,R29,F9,f7⟩
   refine F9.set ?_
   clear F9
   refine ZT S78 2 _ _ _ 6 _ V V Y0 V V V ?_
   have V7:=A1.bound
   have j12:=(j11.trans L31)
   refine Zl (A1.mono j12) Y2 V V ?_
   refine Z1 (k1 : Int) (c.l.length : Int) V V V (fun h15=>?_) (fun h15=>?_)
   ·have T33:=Sl.at (A1.mono j12) k1 (by omega)
    obtain ⟨p12,x12,U11,E11,W7⟩:=T33
    obtain ⟨D17,C18,R30⟩:=E11
    have T34:=ZO R30
    obtain ⟨v32,rfl,B95,B96,B97,B98,B99,QA,A24⟩:=T34
    refine dr [(7,false),(8,false),(9,false),(10,false)] [(54,v1),(56,Zu p12),(57, .agg (CV x12 v32).toArray),(58, .agg (QV q v2 v3 v4 v5).toArray)] S78 ⟨fun _ hSw=>ZT hSw 2 _ _ _ 6 _ V V Y0 V V V <| nu V V,fun _=>Zf k1 W7 Y2 Z5 V V V V <| nu V V,fun _ hSw=>Zc hSw C18 (CV x12 v32) Z5 V V V V V <| nu V V,fun _ hSw=>Zc hSw (C1.mono ((L2.trans L30).trans L31)) (QV q v2 v3 v4 v5) Zg V V V V V <| nu V V,trivial⟩ (fun w56 S80=>?_)
    refine Zv S80 Zas V V V (ih S80.imm x12 q _ (ZJ x12 B95 B96 B97 B98 B99 QA A24) _ (Zd q B7 ZK (A2.mono j12) (A3.mono j12) hb9 Z9 Z7 Z6 ZV Ye (A4.mono j12) Yd B16 B17 Yf (A5.mono j12)) (YR hn (List.mem_of_getElem? ‹_›)) hnn) (fun w57 G32 r7 P7 S81 L32=>?_)
    obtain ⟨D18,rfl,R31⟩:=P7
    have T35:=ZO R31
    obtain ⟨v33,rfl,ZaD,B102,B103,B104,XV,ZaE,A25⟩:=T35
    refine WL.buildSlice _ [(0,(CV (Zz n x12 q) v33))] (CV (Zz n x12 q) v33) S81 QI V V V V (fun z hz=>by match z,hz with | [z0,z1,z2,z3,z4,z5,z6],_=>rfl) (fun b9 w58 N9 S82=>?_)
    refine WL.push (m:=([(Zz n x12 q)] : List Cond)) QI V V V (R29.mono L32) S82 1 V 0 _ _ _ _ _ V ⟨(CV (Zz n x12 q) v33),_,V,(ZJ (Zz n x12 q) ZaD B102 B103 B104 XV ZaE A25),V⟩ V (by have:=Zm; have hby9:=(by assumption : Sl CndE 96 G _ c.l).bytes; simp only [List.length_append,List.length_map,List.length_take,List.length_cons,List.length_nil]; omega) (by have:=Zm; have hby9:=(by assumption : Sl CndE 96 G _ c.l).bytes; simp only [List.length_append,List.length_map,List.length_take,List.length_cons,List.length_nil]; omega) V V V (fun v34 o14 w59 R32 S83=>?_)
    have S84:=S83.tail
    refine ZC k1 (by have:=Zm; omega) V V V ?_
    exact BK.mk' _ ⟨k1 + 1,v34,o14,G32,V,(L31.trans L32),S84,(YH.cast R32 (by (exact (ZaR ‹_›).symm))),(Yt V),(by omega)⟩ (show c.l.length - (k1 + 1) < c.l.length - k1 by omega)
   refine WL.store S78 2 _ _ _ 6 _ [v31] [U c.kind,Zb c.col,Zb x11,U c.v.k,U c.v.n,Zb c.v.s,v31] _ V R29.cells1 Y0 V (ZN V) (by simp only [ZW,R29.oneC] <;> rfl) V V V V V (fun w60 S85=>?_)
   refine Zs S85 2 _ _ _ 0 [U c.kind,Zb c.col,Zb x11,U c.v.k,U c.v.n,Zb c.v.s,v31] V V V Z5 V V V ?_
   refine ZY S85 1 [U c.kind,Zb c.col,Zb x11,U c.v.k,U c.v.n,Zb c.v.s,v31] V V Z5 V V (by simp only [ZW,R29.oneC] <;> rfl) V V V (fun w61 S86=>?_)
   have T36:=S86.sealAt 1 V N2
   obtain ⟨G33,L33,C19,S87⟩:=T36
   have T37:=YH.freeze (R29.mono L33) S87 0 V
   obtain ⟨G34,L34,A26,S88⟩:=T37
   exact YD [.agg #[U c.kind,Zb c.col,Zb x11,U c.v.k,U c.v.n,Zb c.v.s,v31]] S88 ⟨_,_,_,V,V,S88.loadC (C19.mono L34) Z5 V V,V⟩ (Is.cast ⟨_,V,(ZJ (Cond.mk c.kind c.col x11 c.v ((c.l.take k1).map fun x=>Zz n x q)) B1 B2 B94 B4 B5 B6 A26)⟩ (by exact ZcN (by exact Zfu ‹_›) (by exact ZfQ ‹_› ‹_› ‹_›) (by omega)))
  have S90:=S76.pad
  refine LP.go ft [] (fun m ρ1 w1=>∃ (k1 : Nat),∃ (v35 : Value) (o15 : OB),∃ (G35 : GH),m = c.l.length - k1 ∧ G30.le G35 ∧ St w [] G G35 [o15,some (b2,27,[U 0,Zb [],Zb [],U 0,U 0,Zb [],Zh]),some (b1,27,(CV c v1))] w1 ∧ YH CndE 96 27 G35 v35 ((c.l.take k1).map fun x=>Zz n x q) o15 ∧ FR ρ1 [(2, .pointer (some ⟨b1,0,none⟩)),(3,Zu p1),(4, .pointer (some ⟨b2,0,none⟩)),(7,v35),(8,U (k1 : Int))] ∧ k1 ≤ c.l.length) _ ⟨0,(Zh),none,G30,V,(G30.le_refl),S90,(YH.cast (YH.nil CndE 96 27 G30) (by simp)),(Yt V),(by omega)⟩ ?_
  rintro m ρ1 w62 ⟨k1,v35,o15,G35,rfl,L35,S89,R33,F9,f8⟩
  refine F9.set ?_
  clear F9
  refine ZT S89 2 _ _ _ 6 _ V V Y0 V V V ?_
  have V8:=A1.bound
  have j13:=((j10.trans L30).trans L35)
  refine Zl (A1.mono j13) Y2 V V ?_
  refine Z1 (k1 : Int) (c.l.length : Int) V V V (fun h16=>?_) (fun h16=>?_)
  ·have T38:=Sl.at (A1.mono j13) k1 (by omega)
   obtain ⟨p13,x13,U12,E12,W8⟩:=T38
   obtain ⟨D19,C20,R34⟩:=E12
   have T39:=ZO R34
   obtain ⟨v36,rfl,XQ,Xi,QB,Zal,QS,Zam,A27⟩:=T39
   refine dr [(7,false),(8,false),(9,false),(10,false)] [(54,v1),(56,Zu p13),(57, .agg (CV x13 v36).toArray),(58, .agg (QV q v2 v3 v4 v5).toArray)] S89 ⟨fun _ hSw=>ZT hSw 2 _ _ _ 6 _ V V Y0 V V V <| nu V V,fun _=>Zf k1 W8 Y2 Z5 V V V V <| nu V V,fun _ hSw=>Zc hSw C20 (CV x13 v36) Z5 V V V V V <| nu V V,fun _ hSw=>Zc hSw (C1.mono ((L2.trans L30).trans L35)) (QV q v2 v3 v4 v5) Zg V V V V V <| nu V V,trivial⟩ (fun w63 S91=>?_)
   refine Zv S91 Zas V V V (ih S91.imm x13 q _ (ZJ x13 XQ Xi QB Zal QS Zam A27) _ (Zd q B7 ZK (A2.mono j13) (A3.mono j13) hb9 Z9 Z7 Z6 ZV Ye (A4.mono j13) Yd B16 B17 Yf (A5.mono j13)) (YR hn (List.mem_of_getElem? ‹_›)) hnn) (fun w64 G36 r8 P8 S92 L36=>?_)
   obtain ⟨D20,rfl,R35⟩:=P8
   have T40:=ZO R35
   obtain ⟨v37,rfl,Zan,ZaF,Zao,ZaG,XW,XR,A28⟩:=T40
   refine WL.buildSlice _ [(0,(CV (Zz n x13 q) v37))] (CV (Zz n x13 q) v37) S92 QI V V V V (fun z hz=>by match z,hz with | [z0,z1,z2,z3,z4,z5,z6],_=>rfl) (fun b10 w65 N10 S93=>?_)
   refine WL.push (m:=([(Zz n x13 q)] : List Cond)) QI V V V (R33.mono L36) S93 1 V 0 _ _ _ _ _ V ⟨(CV (Zz n x13 q) v37),_,V,(ZJ (Zz n x13 q) Zan ZaF Zao ZaG XW XR A28),V⟩ V (by have:=Zm; have hby9:=(by assumption : Sl CndE 96 G _ c.l).bytes; simp only [List.length_append,List.length_map,List.length_take,List.length_cons,List.length_nil]; omega) (by have:=Zm; have hby9:=(by assumption : Sl CndE 96 G _ c.l).bytes; simp only [List.length_append,List.length_map,List.length_take,List.length_cons,List.length_nil]; omega) V V V (fun v38 o16 w66 R36 S94=>?_)
   have S95:=S94.tail
   refine ZC k1 (by have:=Zm; omega) V V V ?_
   exact BK.mk' _ ⟨k1 + 1,v38,o16,G36,V,(L35.trans L36),S95,(YH.cast R36 (by (exact (ZaR ‹_›).symm))),(Yt V),(by omega)⟩ (show c.l.length - (k1 + 1) < c.l.length - k1 by omega)
  refine WL.store S89 2 _ _ _ 6 _ [v35] (CV c v35) _ V R33.cells1 Y0 V (ZN V) (by simp only [ZW,R33.oneC] <;> rfl) V V V V V (fun w67 S96=>?_)
  refine Zs S96 2 _ _ _ 0 (CV c v35) V V V Z5 V V V ?_
  refine WL.store S96 1 _ _ _ 0 _ (CV c v35) (CV c v35) _ V V Z5 V (ZN V) (by simp only [ZW,R33.oneC] <;> rfl) V V V V V (fun w68 S97=>?_)
  have T41:=S97.sealAt 1 V N2
  obtain ⟨G37,L37,C21,S98⟩:=T41
  have T42:=YH.freeze (R33.mono L37) S98 0 V
  obtain ⟨G38,L38,A29,S99⟩:=T42
  exact YD [.agg (CV c v35).toArray] S99 ⟨_,_,_,V,V,S99.loadC (C21.mono L38) Z5 V V,V⟩ (Is.cast ⟨_,V,(ZJ (Cond.mk c.kind c.col c.oth c.v ((c.l.take k1).map fun x=>Zz n x q)) B1 B2 B3 B4 B5 B6 A29)⟩ (by exact ZcN (by exact Zfu ‹_›) (by exact ZeD (by omega)) (by omega)))
 have h13 : c.oth = []:=by simpa [SCmp.b] using h0
 clear h0
 have S101:=S76.pad
 refine LP.go ft [] (fun m ρ1 w1=>∃ (k1 : Nat),∃ (v39 : Value) (o17 : OB),∃ (G39 : GH),m = c.l.length - k1 ∧ G30.le G39 ∧ St w [] G G39 [o17,some (b2,27,[U 0,Zb [],Zb [],U 0,U 0,Zb [],Zh]),some (b1,27,(CV c v1))] w1 ∧ YH CndE 96 27 G39 v39 ((c.l.take k1).map fun x=>Zz n x q) o17 ∧ FR ρ1 [(2, .pointer (some ⟨b1,0,none⟩)),(3,Zu p1),(4, .pointer (some ⟨b2,0,none⟩)),(7,v39),(8,U (k1 : Int))] ∧ k1 ≤ c.l.length) _ ⟨0,(Zh),none,G30,V,(G30.le_refl),S101,(YH.cast (YH.nil CndE 96 27 G30) (by simp)),(Yt V),(by omega)⟩ ?_
 rintro m ρ1 w69 ⟨k1,v39,o17,G39,rfl,L39,S100,R37,F9,f9⟩
 refine F9.set ?_
 clear F9
 refine ZT S100 2 _ _ _ 6 _ V V Y0 V V V ?_
 have V9:=A1.bound
 have j14:=((j10.trans L30).trans L39)
 refine Zl (A1.mono j14) Y2 V V ?_
 refine Z1 (k1 : Int) (c.l.length : Int) V V V (fun h17=>?_) (fun h17=>?_)
 ·have T43:=Sl.at (A1.mono j14) k1 (by omega)
  obtain ⟨p14,x14,U13,E13,W9⟩:=T43
  obtain ⟨D21,C22,R38⟩:=E13
  have T44:=ZO R38
  obtain ⟨v40,rfl,Xj,ZaH,QT,Zap,Zaq,ZaI,A30⟩:=T44
  refine dr [(7,false),(8,false),(9,false),(10,false)] [(54,v1),(56,Zu p14),(57, .agg (CV x14 v40).toArray),(58, .agg (QV q v2 v3 v4 v5).toArray)] S100 ⟨fun _ hSw=>ZT hSw 2 _ _ _ 6 _ V V Y0 V V V <| nu V V,fun _=>Zf k1 W9 Y2 Z5 V V V V <| nu V V,fun _ hSw=>Zc hSw C22 (CV x14 v40) Z5 V V V V V <| nu V V,fun _ hSw=>Zc hSw (C1.mono ((L2.trans L30).trans L39)) (QV q v2 v3 v4 v5) Zg V V V V V <| nu V V,trivial⟩ (fun w70 S102=>?_)
  refine Zv S102 Zas V V V (ih S102.imm x14 q _ (ZJ x14 Xj ZaH QT Zap Zaq ZaI A30) _ (Zd q B7 ZK (A2.mono j14) (A3.mono j14) hb9 Z9 Z7 Z6 ZV Ye (A4.mono j14) Yd B16 B17 Yf (A5.mono j14)) (YR hn (List.mem_of_getElem? ‹_›)) hnn) (fun w71 G40 r9 P9 S103 L40=>?_)
  obtain ⟨D22,rfl,R39⟩:=P9
  have T45:=ZO R39
  obtain ⟨v41,rfl,ZaJ,Zbt,Zbu,Qm,QU,Zbv,A31⟩:=T45
  refine WL.buildSlice _ [(0,(CV (Zz n x14 q) v41))] (CV (Zz n x14 q) v41) S103 QI V V V V (fun z hz=>by match z,hz with | [z0,z1,z2,z3,z4,z5,z6],_=>rfl) (fun b11 w72 N11 S104=>?_)
  refine WL.push (m:=([(Zz n x14 q)] : List Cond)) QI V V V (R37.mono L40) S104 1 V 0 _ _ _ _ _ V ⟨(CV (Zz n x14 q) v41),_,V,(ZJ (Zz n x14 q) ZaJ Zbt Zbu Qm QU Zbv A31),V⟩ V (by have:=Zm; have hby9:=(by assumption : Sl CndE 96 G _ c.l).bytes; simp only [List.length_append,List.length_map,List.length_take,List.length_cons,List.length_nil]; omega) (by have:=Zm; have hby9:=(by assumption : Sl CndE 96 G _ c.l).bytes; simp only [List.length_append,List.length_map,List.length_take,List.length_cons,List.length_nil]; omega) V V V (fun v42 o18 w73 R40 S105=>?_)
  have S106:=S105.tail
  refine ZC k1 (by have:=Zm; omega) V V V ?_
  exact BK.mk' _ ⟨k1 + 1,v42,o18,G40,V,(L39.trans L40),S106,(YH.cast R40 (by (exact (ZaR ‹_›).symm))),(Yt V),(by omega)⟩ (show c.l.length - (k1 + 1) < c.l.length - k1 by omega)
 refine WL.store S100 2 _ _ _ 6 _ [v39] (CV c v39) _ V R37.cells1 Y0 V (ZN V) (by simp only [ZW,R37.oneC] <;> rfl) V V V V V (fun w74 S107=>?_)
 refine Zs S107 2 _ _ _ 0 (CV c v39) V V V Z5 V V V ?_
 refine WL.store S107 1 _ _ _ 0 _ (CV c v39) (CV c v39) _ V V Z5 V (ZN V) (by simp only [ZW,R37.oneC] <;> rfl) V V V V V (fun w75 S108=>?_)
 have T46:=S108.sealAt 1 V N2
 obtain ⟨G41,L41,C23,S109⟩:=T46
 have T47:=YH.freeze (R37.mono L41) S109 0 V
 obtain ⟨G42,L42,A32,S110⟩:=T47
 exact YD [.agg (CV c v39).toArray] S110 ⟨_,_,_,V,V,S110.loadC (C23.mono L42) Z5 V V,V⟩ (Is.cast ⟨_,V,(ZJ (Cond.mk c.kind c.col c.oth c.v ((c.l.take k1).map fun x=>Zz n x q)) B1 B2 B3 B4 B5 B6 A32)⟩ (by exact ZcN (by exact Zfu ‹_›) (by exact Zfu ‹_›) (by omega)))
end Go.Civ
