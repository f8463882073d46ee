/- Lemmas. -/
import Derived.Test.YthgeclodflmiaaaGreatD35
import Derived.Test.YthgeclodflmiaaaGreatProg
import Derived.KernelRfl
import Derived.WalkKit
set_option linter.unusedVariables false
set_option linter.unusedSimpArgs false
set_option maxRecDepth 100000
set_option maxHeartbeats 4000000
namespace Go.Civ
open Go.Proofs
theorem ZtQ {G : GH} {w : World} (hG : G.In w) (l : List HRow) (vl : Value) (hvl : Sl HRowE 56 G vl l) (hl : l.length ≤ 1000000) : CL Tryz.prog (nat_lit 129) #[vl] [] w G fun G' _ r=>Sl (ValE.slice 32) 24 G' r (X0 l):=by
 refine Zh ft [] Tryz.func129 U U ?_
 have hS:=St.start (X:=[]) hG
 refine LP.go ft [] (fun m ρ1 w1=>∃ (k1 : Nat),∃ (vk : Value),∃ (G1 : GH),m = l.length - k1 ∧ G.le G1 ∧ St w [] G G1 [] w1 ∧ FR ρ1 [(0,vl),(3,vk),(4,S (k1 : Int))] ∧ k1 ≤ l.length ∧ Sl (ValE.slice 32) 24 G1 vk (X0 (l.take k1))) _ ⟨0,Ze,G,U,(G.le_refl),hS,⟨U,U,U,trivial⟩,(by omega),(Sl.cast (Sl.nil (ValE.slice 32) 24 G) U)⟩ ?_
 rintro m ρ1 w1 ⟨k1,vk,G1,rfl,L1,S1,F9,f1,f2⟩
 refine F9.set ?_
 clear F9
 have hvl1:=ZkO l k1
 have hiv:=Zaj (l.take k1)
 have V1:=hvl.bound
 refine Zl (hvl.mono L1) Yn U U ?_
 refine Zp (k1 : Int) (l.length : Int) U U U (fun h1=>?_) (fun h1=>?_)
 ·obtain ⟨xv,hxv⟩:=ZaO (l:=l) (k:=k1) (by omega)
  have V2:=f2.bound
  refine Zl f2 Ql U U ?_
  refine LP.go ft [] (fun m ρ1 w1=>∃ (j : Nat),∃ (G2 : GH),m = (0 + j) ∧ G1.le G2 ∧ St w [] G G2 [] w1 ∧ FR ρ1 [(0,vl),(3,vk),(4,S (k1 : Int)),(5,S (j : Int))] ∧ j ≤ (X0 (l.take k1)).length ∧ UpV (X0 (l.take k1)) xv.v j) _ ⟨(X0 (l.take k1)).length,G1,U,(G1.le_refl),S1,(Zq U),(by omega),(UpV.start)⟩ ?_
  rintro m ρ1 w2 ⟨j,G2,rfl,L2,S2,F9,f3,f4⟩
  refine F9.set ?_
  clear F9
  rcases Cmp.dec .gtr (j : Int) 0 with ⟨B1,q1⟩ | ⟨B1,q1⟩
  ·have h2 : 0 < (j : Int):=q1
   clear q1
   obtain ⟨p1,x1,U1,E1,W1⟩:=Sl.at (f2.mono L2) (j - 1) (by omega)
   obtain ⟨D1,C1,R1⟩:=E1
   obtain ⟨v1,rfl,A1⟩:=R1
   have j1:=(L1.trans L2)
   obtain ⟨p2,x2,U2,E2,W2⟩:=Sl.at (hvl.mono j1) k1 (by omega)
   obtain rfl : xv = x2:=Option.some.inj (hxv.symm.trans U2)
   obtain ⟨D2,C2,R2⟩:=E2
   obtain ⟨v2,rfl,A2,B2,B3,B4,B5⟩:=Z7 R2
   rcases Cmp.dec .gtr (ZL cmpV x1 xv.v) 0 with ⟨B6,q2⟩ | ⟨B6,q2⟩
   ·have h3 : 0 < (ZL cmpV x1 xv.v):=q2
    clear q2
    refine dr [] [(16, .bool true),(20,S ((j - 1 : Nat) : Int)),(21,Zs p1),(22,v1),(25,Zs p2),(27,v2),(28,S (ZL cmpV x1 xv.v)),(29, .bool true)] S2 ⟨fun _=>WL.cmpV .gtr U .i64 (j : Int) 0 _ B1 U U U <| nu U U,fun _=>QR j (by omega) (by have:=Zc; omega) U U U <| nu U U,fun _=>Zg (j - 1) W1 Ql ZK U U U U <| nu U U,fun _ hSw=>Z hSw C1 ZK U U U <| nu U U,fun _=>Zg k1 W2 Yn Zz U U U U <| nu U U,fun _ hSw=>Z hSw (XC.drop 0 C2) ZK U U U <| nu U U,fun _ hSw=>Z3 hSw ZgH U U U (ZcS hSw.imm x1 xv.v _ A1 _ A2) U,fun _=>WL.cmpV .gtr U .i64 (ZL cmpV x1 xv.v) 0 _ B6 U U U <| nu U U,trivial⟩ (fun w3 S3=>?_)
    refine QR j (by omega) (by have:=Zc; omega) U U U ?_
    exact BK.mk' _ ⟨j - 1,G2,U,L2,S3,(Zq U),(by omega),(by exact UpV.step ‹_› ‹_› ‹_›)⟩ (show (0 + (j - 1)) < (0 + j) by omega)
   have h3 : (ZL cmpV x1 xv.v) ≤ 0:=q2
   clear q2
   refine dr [] [(16, .bool true),(20,S ((j - 1 : Nat) : Int)),(21,Zs p1),(22,v1),(25,Zs p2),(27,v2),(28,S (ZL cmpV x1 xv.v)),(29, .bool false)] S2 ⟨fun _=>WL.cmpV .gtr U .i64 (j : Int) 0 _ B1 U U U <| nu U U,fun _=>QR j (by omega) (by have:=Zc; omega) U U U <| nu U U,fun _=>Zg (j - 1) W1 Ql ZK U U U U <| nu U U,fun _ hSw=>Z hSw C1 ZK U U U <| nu U U,fun _=>Zg k1 W2 Yn Zz U U U U <| nu U U,fun _ hSw=>Z hSw (XC.drop 0 C2) ZK U U U <| nu U U,fun _ hSw=>Z3 hSw ZgH U U U (ZcS hSw.imm x1 xv.v _ A1 _ A2) U,fun _=>WL.cmpV .gtr U .i64 (ZL cmpV x1 xv.v) 0 _ B6 U U U <| nu U U,trivial⟩ (fun w4 S4=>?_)
   rcases Cmp.dec .gtr (j : Int) 0 with ⟨B7,q3⟩ | ⟨B7,q3⟩
   ·have h4 : 0 < (j : Int):=q3
    clear q3
    obtain ⟨p3,x3,U3,E3,W3⟩:=Sl.at (f2.mono L2) (j - 1) (by omega)
    obtain rfl : x1 = x3:=Option.some.inj (U1.symm.trans U3)
    obtain ⟨D3,C3,R3⟩:=E3
    obtain ⟨v3,rfl,A3⟩:=R3
    obtain ⟨p4,x4,U4,E4,W4⟩:=Sl.at (hvl.mono j1) k1 (by omega)
    obtain rfl : xv = x4:=Option.some.inj (hxv.symm.trans U4)
    obtain ⟨D4,C4,R4⟩:=E4
    obtain ⟨v4,rfl,A4,B8,B9,B10,Y6⟩:=Z7 R4
    rcases Cmp.dec .eql (ZL cmpV x1 xv.v) 0 with ⟨YU,q4⟩ | ⟨YU,q4⟩
    ·have h5 : (ZL cmpV x1 xv.v) = 0:=q4
     clear q4
     refine dr [] [(34, .bool true),(38,S ((j - 1 : Nat) : Int)),(39,Zs p3),(40,v3),(43,Zs p4),(45,v4),(46,S (ZL cmpV x1 xv.v)),(47, .bool true)] S4 ⟨fun _=>WL.cmpV .gtr U .i64 (j : Int) 0 _ B7 U U U <| nu U U,fun _=>QR j (by omega) (by have:=Zc; omega) U U U <| nu U U,fun _=>Zg (j - 1) W3 Ql ZK U U U U <| nu U U,fun _ hSw=>Z hSw C3 ZK U U U <| nu U U,fun _=>Zg k1 W4 Yn Zz U U U U <| nu U U,fun _ hSw=>Z hSw (XC.drop 0 C4) ZK U U U <| nu U U,fun _ hSw=>Z3 hSw ZgH U U U (ZcS hSw.imm x1 xv.v _ A3 _ A4) U,fun _=>WL.cmpV .eql U .i64 (ZL cmpV x1 xv.v) 0 _ YU U U U <| nu U U,trivial⟩ (fun w5 S5=>?_)
     refine Zj k1 (by have:=Zc; omega) U U U ?_
     exact BK.mk' _ ⟨k1 + 1,vk,G2,U,j1,S5,⟨U,U,U,trivial⟩,(by omega),(Sl.cast (f2.mono L2) (by rw [Zb3 hxv]; exact (ZnQ (k:=j) hiv (by omega) ‹_› ‹_›).symm))⟩ (show l.length - (k1 + 1) < l.length - k1 by omega)
    have h5 : (ZL cmpV x1 xv.v) ≠ 0:=q4
    clear q4
    refine dr [] [(34, .bool true),(38,S ((j - 1 : Nat) : Int)),(39,Zs p3),(40,v3),(43,Zs p4),(45,v4),(46,S (ZL cmpV x1 xv.v)),(47, .bool false)] S4 ⟨fun _=>WL.cmpV .gtr U .i64 (j : Int) 0 _ B7 U U U <| nu U U,fun _=>QR j (by omega) (by have:=Zc; omega) U U U <| nu U U,fun _=>Zg (j - 1) W3 Ql ZK U U U U <| nu U U,fun _ hSw=>Z hSw C3 ZK U U U <| nu U U,fun _=>Zg k1 W4 Yn Zz U U U U <| nu U U,fun _ hSw=>Z hSw (XC.drop 0 C4) ZK U U U <| nu U U,fun _ hSw=>Z3 hSw ZgH U U U (ZcS hSw.imm x1 xv.v _ A3 _ A4) U,fun _=>WL.cmpV .eql U .i64 (ZL cmpV x1 xv.v) 0 _ YU U U U <| nu U U,trivial⟩ (fun w6 S6=>?_)
    refine WL.buildSlice _ [] [] S6 Zae U U U U (fun z hz=>by match z,hz with | [],_=>rfl) (fun b1 w7 N1 S7=>?_)
    refine Y3 (f2.mono L2) j (by omega) Ql ZK U U U U (fun v5 A5=>?_)
    have R5:=ZS.empty (ValE.slice 32) 24 31 G2 b1
    refine YN Zae U U U R5 S7 0 U A5 (by have:=Zc; simp only [Zx,List.length_take,List.length_drop]; omega) (by have:=Zc; simp only [Zx,List.length_take,List.length_drop]; omega) U U U (fun v6 o1 w9 R6 S8=>?_)
    refine WL.indexAddr (hvl.mono j1) k1 (by omega) Yn Zz U U U U (fun p5 x5 U5 E5=>?_)
    obtain rfl : xv = x5:=Option.some.inj (hxv.symm.trans U5)
    obtain ⟨D5,C5,R7⟩:=E5
    obtain ⟨v7,rfl,A6,Xa,XF,Xz,QK⟩:=Z7 R7
    refine Z S8 (XC.drop 0 C5) ZK U U U ?_
    refine WL.buildSlice _ [(0,[v7])] [v7] S8 Zae U U U (by show [(0,(v7 : Value).cells.toList)] = _; simp only [A6.cells1] <;> rfl) (fun z hz=>by match z,hz with | [z0],_=>rfl) (fun b2 w10 N2 S9=>?_)
    refine WL.push (m:=([xv.v] : List (List Val))) Zae U U U R6 S9 1 U 0 _ _ _ _ _ U ⟨[v7],_,U,⟨_,U,A6⟩,U⟩ U (by have:=Zc; simp only [Zx,List.length_take,List.length_drop]; omega) (by have:=Zc; simp only [Zx,List.length_take,List.length_drop]; omega) U U U (fun v9 o2 w11 R8 S10=>?_)
    have S11:=S10.tail
    refine QL (f2.mono L2) j (by omega) Ql ZK U U U U (fun v10 A7=>?_)
    refine YN Zae U U U R8 S11 0 U A7 (by have:=Zc; simp only [Zx,List.length_take,List.length_drop]; omega) (by have:=Zc; simp only [Zx,List.length_take,List.length_drop]; omega) U U U (fun v11 o3 w12 R9 S12=>?_)
    refine Zj k1 (by have:=Zc; omega) U U U ?_
    obtain ⟨G3,L3,A8,S13⟩:=ZS.freeze R9 S12 0 U
    have S14:=S13.tail
    exact BK.mk' _ ⟨k1 + 1,v11,G3,U,(L1.trans (L2.trans L3)),S14,⟨U,U,U,trivial⟩,(by omega),(Sl.cast A8 (by rw [Zb3 hxv]; exact ZqT hiv ‹_› (by omega) ‹_› (by omega) ‹_›))⟩ (show l.length - (k1 + 1) < l.length - k1 by omega)
   have h4 : (j : Int) ≤ 0:=q3
   clear q3
   refine dr [] [(34, .bool false)] S4 ⟨fun _=>WL.cmpV .gtr U .i64 (j : Int) 0 _ B7 U U U <| nu U U,trivial⟩ (fun w13 S15=>?_)
   refine WL.buildSlice _ [] [] S15 Zae U U U U (fun z hz=>by match z,hz with | [],_=>rfl) (fun b3 w14 N3 S16=>?_)
   refine Y3 (f2.mono L2) j (by omega) Ql ZK U U U U (fun v12 A9=>?_)
   have R10:=ZS.empty (ValE.slice 32) 24 31 G2 b3
   refine YN Zae U U U R10 S16 0 U A9 (by have:=Zc; simp only [Zx,List.length_take,List.length_drop]; omega) (by have:=Zc; simp only [Zx,List.length_take,List.length_drop]; omega) U U U (fun v13 o4 w15 R11 S17=>?_)
   refine WL.indexAddr (hvl.mono j1) k1 (by omega) Yn Zz U U U U (fun p6 x6 U6 E6=>?_)
   obtain rfl : xv = x6:=Option.some.inj (hxv.symm.trans U6)
   obtain ⟨D6,C6,R12⟩:=E6
   obtain ⟨v14,rfl,A10,XG,XY,Q8,ZaI⟩:=Z7 R12
   refine Z S17 (XC.drop 0 C6) ZK U U U ?_
   refine WL.buildSlice _ [(0,[v14])] [v14] S17 Zae U U U (by show [(0,(v14 : Value).cells.toList)] = _; simp only [A10.cells1] <;> rfl) (fun z hz=>by match z,hz with | [z0],_=>rfl) (fun b4 w16 N4 S18=>?_)
   refine WL.push (m:=([xv.v] : List (List Val))) Zae U U U R11 S18 1 U 0 _ _ _ _ _ U ⟨[v14],_,U,⟨_,U,A10⟩,U⟩ U (by have:=Zc; simp only [Zx,List.length_take,List.length_drop]; omega) (by have:=Zc; simp only [Zx,List.length_take,List.length_drop]; omega) U U U (fun v15 o5 w17 R13 S19=>?_)
   have S20:=S19.tail
   refine QL (f2.mono L2) j (by omega) Ql ZK U U U U (fun v16 A11=>?_)
   refine YN Zae U U U R13 S20 0 U A11 (by have:=Zc; simp only [Zx,List.length_take,List.length_drop]; omega) (by have:=Zc; simp only [Zx,List.length_take,List.length_drop]; omega) U U U (fun v17 o6 w18 R14 S21=>?_)
   refine Zj k1 (by have:=Zc; omega) U U U ?_
   obtain ⟨G4,L4,A12,S22⟩:=ZS.freeze R14 S21 0 U
   have S23:=S22.tail
   exact BK.mk' _ ⟨k1 + 1,v17,G4,U,(L1.trans (L2.trans L4)),S23,⟨U,U,U,trivial⟩,(by omega),(Sl.cast A12 (by rw [Zb3 hxv]; exact Zgu hiv ‹_› (by omega) (by omega)))⟩ (show l.length - (k1 + 1) < l.length - k1 by omega)
  have h2 : (j : Int) ≤ 0:=q1
  clear q1
  refine dr [] [(16, .bool false)] S2 ⟨fun _=>WL.cmpV .gtr U .i64 (j : Int) 0 _ B1 U U U <| nu U U,trivial⟩ (fun w19 S24=>?_)
  rcases Cmp.dec .gtr (j : Int) 0 with ⟨ZaJ,q5⟩ | ⟨ZaJ,q5⟩
  ·have h6 : 0 < (j : Int):=q5
   clear q5
   obtain ⟨p7,x7,U7,E7,W5⟩:=Sl.at (f2.mono L2) (j - 1) (by omega)
   obtain ⟨D7,C7,R15⟩:=E7
   obtain ⟨v18,rfl,A13⟩:=R15
   have j2:=(L1.trans L2)
   obtain ⟨p8,x9,U8,E8,W6⟩:=Sl.at (hvl.mono j2) k1 (by omega)
   obtain rfl : xv = x9:=Option.some.inj (hxv.symm.trans U8)
   obtain ⟨D8,C8,R16⟩:=E8
   obtain ⟨v19,rfl,A14,Zcv,ZbZ,Zaq,Zcw⟩:=Z7 R16
   rcases Cmp.dec .eql (ZL cmpV x7 xv.v) 0 with ⟨ZbG,q6⟩ | ⟨ZbG,q6⟩
   ·have h7 : (ZL cmpV x7 xv.v) = 0:=q6
    clear q6
    refine dr [] [(34, .bool true),(38,S ((j - 1 : Nat) : Int)),(39,Zs p7),(40,v18),(43,Zs p8),(45,v19),(46,S (ZL cmpV x7 xv.v)),(47, .bool true)] S24 ⟨fun _=>WL.cmpV .gtr U .i64 (j : Int) 0 _ ZaJ U U U <| nu U U,fun _=>QR j (by omega) (by have:=Zc; omega) U U U <| nu U U,fun _=>Zg (j - 1) W5 Ql ZK U U U U <| nu U U,fun _ hSw=>Z hSw C7 ZK U U U <| nu U U,fun _=>Zg k1 W6 Yn Zz U U U U <| nu U U,fun _ hSw=>Z hSw (XC.drop 0 C8) ZK U U U <| nu U U,fun _ hSw=>Z3 hSw ZgH U U U (ZcS hSw.imm x7 xv.v _ A13 _ A14) U,fun _=>WL.cmpV .eql U .i64 (ZL cmpV x7 xv.v) 0 _ ZbG U U U <| nu U U,trivial⟩ (fun w20 S25=>?_)
    refine Zj k1 (by have:=Zc; omega) U U U ?_
    exact BK.mk' _ ⟨k1 + 1,vk,G2,U,j2,S25,⟨U,U,U,trivial⟩,(by omega),(Sl.cast (f2.mono L2) (by rw [Zb3 hxv]; exact (ZnQ (k:=j) hiv (by omega) ‹_› ‹_›).symm))⟩ (show l.length - (k1 + 1) < l.length - k1 by omega)
   have h7 : (ZL cmpV x7 xv.v) ≠ 0:=q6
   clear q6
   refine dr [] [(34, .bool true),(38,S ((j - 1 : Nat) : Int)),(39,Zs p7),(40,v18),(43,Zs p8),(45,v19),(46,S (ZL cmpV x7 xv.v)),(47, .bool false)] S24 ⟨fun _=>WL.cmpV .gtr U .i64 (j : Int) 0 _ ZaJ U U U <| nu U U,fun _=>QR j (by omega) (by have:=Zc; omega) U U U <| nu U U,fun _=>Zg (j - 1) W5 Ql ZK U U U U <| nu U U,fun _ hSw=>Z hSw C7 ZK U U U <| nu U U,fun _=>Zg k1 W6 Yn Zz U U U U <| nu U U,fun _ hSw=>Z hSw (XC.drop 0 C8) ZK U U U <| nu U U,fun _ hSw=>Z3 hSw ZgH U U U (ZcS hSw.imm x7 xv.v _ A13 _ A14) U,fun _=>WL.cmpV .eql U .i64 (ZL cmpV x7 xv.v) 0 _ ZbG U U U <| nu U U,trivial⟩ (fun w21 S26=>?_)
   refine WL.buildSlice _ [] [] S26 Zae U U U U (fun z hz=>by match z,hz with | [],_=>rfl) (fun b5 w22 N5 S27=>?_)
   refine Y3 (f2.mono L2) j (by omega) Ql ZK U U U U (fun v20 A15=>?_)
   have R17:=ZS.empty (ValE.slice 32) 24 31 G2 b5
   refine YN Zae U U U R17 S27 0 U A15 (by have:=Zc; simp only [Zx,List.length_take,List.length_drop]; omega) (by have:=Zc; simp only [Zx,List.length_take,List.length_drop]; omega) U U U (fun v21 o7 w23 R18 S28=>?_)
   refine WL.indexAddr (hvl.mono j2) k1 (by omega) Yn Zz U U U U (fun p9 x10 U9 E9=>?_)
   obtain rfl : xv = x10:=Option.some.inj (hxv.symm.trans U9)
   obtain ⟨D9,C9,R19⟩:=E9
   obtain ⟨v22,rfl,A16,Zgd,Zfl,Zge,Zh9⟩:=Z7 R19
   refine Z S28 (XC.drop 0 C9) ZK U U U ?_
   refine WL.buildSlice _ [(0,[v22])] [v22] S28 Zae U U U (by show [(0,(v22 : Value).cells.toList)] = _; simp only [A16.cells1] <;> rfl) (fun z hz=>by match z,hz with | [z0],_=>rfl) (fun b6 w24 N6 S29=>?_)
   refine WL.push (m:=([xv.v] : List (List Val))) Zae U U U R18 S29 1 U 0 _ _ _ _ _ U ⟨[v22],_,U,⟨_,U,A16⟩,U⟩ U (by have:=Zc; simp only [Zx,List.length_take,List.length_drop]; omega) (by have:=Zc; simp only [Zx,List.length_take,List.length_drop]; omega) U U U (fun v23 o8 w25 R20 S30=>?_)
   have S31:=S30.tail
   refine QL (f2.mono L2) j (by omega) Ql ZK U U U U (fun v24 A17=>?_)
   refine YN Zae U U U R20 S31 0 U A17 (by have:=Zc; simp only [Zx,List.length_take,List.length_drop]; omega) (by have:=Zc; simp only [Zx,List.length_take,List.length_drop]; omega) U U U (fun v25 o9 w26 R21 S32=>?_)
   refine Zj k1 (by have:=Zc; omega) U U U ?_
   obtain ⟨G5,L5,A18,S33⟩:=ZS.freeze R21 S32 0 U
   have S34:=S33.tail
   exact BK.mk' _ ⟨k1 + 1,v25,G5,U,(L1.trans (L2.trans L5)),S34,⟨U,U,U,trivial⟩,(by omega),(Sl.cast A18 (by rw [Zb3 hxv]; exact Zgu hiv ‹_› (by omega) (by omega)))⟩ (show l.length - (k1 + 1) < l.length - k1 by omega)
  have h6 : (j : Int) ≤ 0:=q5
  clear q5
  refine dr [] [(34, .bool false)] S24 ⟨fun _=>WL.cmpV .gtr U .i64 (j : Int) 0 _ ZaJ U U U <| nu U U,trivial⟩ (fun w27 S35=>?_)
  refine WL.buildSlice _ [] [] S35 Zae U U U U (fun z hz=>by match z,hz with | [],_=>rfl) (fun b7 w28 N7 S36=>?_)
  refine Y3 (f2.mono L2) j (by omega) Ql ZK U U U U (fun v26 A19=>?_)
  have R22:=ZS.empty (ValE.slice 32) 24 31 G2 b7
  refine YN Zae U U U R22 S36 0 U A19 (by have:=Zc; simp only [Zx,List.length_take,List.length_drop]; omega) (by have:=Zc; simp only [Zx,List.length_take,List.length_drop]; omega) U U U (fun v27 o10 w29 R23 S37=>?_)
  refine WL.indexAddr (hvl.mono (L1.trans L2)) k1 (by omega) Yn Zz U U U U (fun p10 x11 U10 E10=>?_)
  obtain rfl : xv = x11:=Option.some.inj (hxv.symm.trans U10)
  obtain ⟨D10,C10,R24⟩:=E10
  obtain ⟨v28,rfl,A20,ZhA,ZhB,ZhC,Zjk⟩:=Z7 R24
  refine Z S37 (XC.drop 0 C10) ZK U U U ?_
  refine WL.buildSlice _ [(0,[v28])] [v28] S37 Zae U U U (by show [(0,(v28 : Value).cells.toList)] = _; simp only [A20.cells1] <;> rfl) (fun z hz=>by match z,hz with | [z0],_=>rfl) (fun b8 w30 N8 S38=>?_)
  refine WL.push (m:=([xv.v] : List (List Val))) Zae U U U R23 S38 1 U 0 _ _ _ _ _ U ⟨[v28],_,U,⟨_,U,A20⟩,U⟩ U (by have:=Zc; simp only [Zx,List.length_take,List.length_drop]; omega) (by have:=Zc; simp only [Zx,List.length_take,List.length_drop]; omega) U U U (fun v29 o11 w31 R25 S39=>?_)
  have S40:=S39.tail
  refine QL (f2.mono L2) j (by omega) Ql ZK U U U U (fun v30 A21=>?_)
  refine YN Zae U U U R25 S40 0 U A21 (by have:=Zc; simp only [Zx,List.length_take,List.length_drop]; omega) (by have:=Zc; simp only [Zx,List.length_take,List.length_drop]; omega) U U U (fun v31 o12 w32 R26 S41=>?_)
  refine Zj k1 (by have:=Zc; omega) U U U ?_
  obtain ⟨G6,L6,A22,S42⟩:=ZS.freeze R26 S41 0 U
  have S43:=S42.tail
  exact BK.mk' _ ⟨k1 + 1,v31,G6,U,(L1.trans (L2.trans L6)),S43,⟨U,U,U,trivial⟩,(by omega),(Sl.cast A22 (by rw [Zb3 hxv]; exact Zgu hiv ‹_› (by omega) (by omega)))⟩ (show l.length - (k1 + 1) < l.length - k1 by omega)
 exact RT S1 U (Sl.cast f2 (by rw [List.take_of_length_le (by omega)]))
end Go.Civ
