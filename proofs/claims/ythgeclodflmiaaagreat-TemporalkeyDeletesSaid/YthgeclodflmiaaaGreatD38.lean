/- Lemmas. -/
import Derived.Test.YthgeclodflmiaaaGreatD21
import Derived.Test.YthgeclodflmiaaaGreatD30
import Derived.Test.YthgeclodflmiaaaGreatD32
import Derived.Test.YthgeclodflmiaaaGreatD35
import Derived.Test.YthgeclodflmiaaaGreatD37
import Derived.Test.YthgeclodflmiaaaGreatProg
import Derived.KernelRfl
import Derived.WalkKit
set_option linter.unusedVariables false
set_option linter.unusedSimpArgs false
set_option maxRecDepth 100000
set_option maxHeartbeats 4000000
namespace Go.Civ
open Go.Proofs
theorem ZeD {G : GH} {w : World} (hG : G.In w) (l : List HRow) (at_ tx : Int) (vl : Value) (hvl : Sl HRowE 56 G vl l) (hl : l.length ≤ 2000) : CL Tryz.prog (nat_lit 70) #[vl,S at_,S tx] [] w G fun G' _ r=>Sl (ValE.slice 32) 24 G' r (ZR l at_ tx):=by
 refine Zh ft [] Tryz.func70 U U ?_
 have hS:=St.start (X:=[]) hG
 have S2:=hS.pad
 refine LP.go ft [] (fun m ρ1 w1=>∃ (k1 : Nat),∃ (v1 : Value) (o1 : OB),∃ (G1 : GH),m = l.length - k1 ∧ G.le G1 ∧ St w [] G G1 [o1] w1 ∧ ZS HRowE 56 37 G1 v1 (ZaP (l.take k1) at_ tx) o1 ∧ FR ρ1 [(0,vl),(1,S at_),(2,S tx),(7,v1),(8,S (k1 : Int))] ∧ k1 ≤ l.length) _ ⟨0,(Ze),none,G,U,(G.le_refl),S2,(ZS.cast (ZS.nil HRowE 56 37 G) (by rfl)),(Zq U),(by omega)⟩ ?_
 rintro m ρ1 w1 ⟨k1,v1,o1,G1,rfl,L1,S1,R1,F9,f1⟩
 refine F9.set ?_
 clear F9
 have hhl:=ZqW l at_ tx k1
 have V1:=hvl.bound
 refine Zl (hvl.mono L1) Yn U U ?_
 refine Zp (k1 : Int) (l.length : Int) U U U (fun h1=>?_) (fun h1=>?_)
 ·refine WL.indexAddr (hvl.mono L1) k1 (by omega) Yn Zz U U U U (fun p1 x1 U1 E1=>?_)
  obtain ⟨D1,C1,R2⟩:=E1
  obtain ⟨v2,rfl,A1,B1,B2,B3,B4⟩:=Z7 R2
  refine Zb S1 (XC.drop 1 C1) [S x1.r.d.a,S x1.r.d.b,S x1.r.x.a,S x1.r.x.b] Zct U U U U U ?_
  refine WL.alloc S1 Zct U U (fun b1 w2 N1 S3=>?_)
  refine Zi S3 0 [S x1.r.d.a,S x1.r.d.b,S x1.r.x.a,S x1.r.x.b] U U Zct U U U U U U (fun w3 S4=>?_)
  obtain ⟨G2,L2,C2,S5⟩:=S4.shutB N1
  refine Z S5 (XC.drop 0 (XC.drop 0 C2)) Zt U U U ?_
  refine QS x1.r.d.a at_ U U U (fun h2=>?_) (fun h2=>?_)
  ·refine Z S5 (XC.drop 1 (XC.drop 0 C2)) Zt U U U ?_
   refine Zp at_ x1.r.d.b U U U (fun h3=>?_) (fun h3=>?_)
   ·refine Z S5 (XC.drop 0 (XC.drop 2 C2)) Zt U U U ?_
    refine QS x1.r.x.a tx U U U (fun h4=>?_) (fun h4=>?_)
    ·refine Z S5 (XC.drop 1 (XC.drop 2 C2)) Zt U U U ?_
     refine Zp tx x1.r.x.b U U U (fun h5=>?_) (fun h5=>?_)
     ·refine WL.indexAddr (hvl.mono (L1.trans L2)) k1 (by omega) Yn Zz U U U U (fun p2 x2 U2 E2=>?_)
      obtain rfl : x1 = x2:=Option.some.inj (U1.symm.trans U2)
      obtain ⟨D2,C3,R3⟩:=E2
      obtain ⟨v3,rfl,A2,B5,B6,B7,B8⟩:=Z7 R3
      refine Zb S5 C3 [v3,S x1.r.d.a,S x1.r.d.b,S x1.r.x.a,S x1.r.x.b] Zz U U U U U ?_
      refine WL.buildSlice _ [(0,[v3,S x1.r.d.a,S x1.r.d.b,S x1.r.x.a,S x1.r.x.b])] [v3,S x1.r.d.a,S x1.r.d.b,S x1.r.x.a,S x1.r.x.b] S5 YD U U U U (fun z hz=>by match z,hz with | [z0,z1,z2,z3,z4],_=>rfl) (fun b2 w4 N2 S6=>?_)
      refine WL.push (m:=([x1] : List HRow)) YD U U U (R1.mono L2) S6 1 U 0 _ _ _ _ _ U ⟨[v3,S x1.r.d.a,S x1.r.d.b,S x1.r.x.a,S x1.r.x.b],_,U,(ZT x1 A2 B5 B6 B7 B8),U⟩ U (by have:=Zc; simp only [List.length_append,List.length_map,List.length_cons,List.length_nil]; omega) (by have:=Zc; simp only [List.length_append,List.length_map,List.length_cons,List.length_nil]; omega) U U U (fun v4 o2 w5 R4 S7=>?_)
      have S8:=S7.tail
      refine Zj k1 (by have:=Zc; omega) U U U ?_
      exact BK.mk' _ ⟨k1 + 1,v4,o2,G2,U,(L1.trans L2),S8,(ZS.cast R4 (by (exact (ZqV ‹_› ‹_› ‹_› ‹_› ‹_›).symm))),(Zq U),(by omega)⟩ (show l.length - (k1 + 1) < l.length - k1 by omega)
     refine Zj k1 (by have:=Zc; omega) U U U ?_
     exact BK.mk' _ ⟨k1 + 1,v1,o1,G2,U,(L1.trans L2),S5,(ZS.cast (R1.mono L2) (by (exact (Zf6 ‹_› (by omega)).symm))),(Zq U),(by omega)⟩ (show l.length - (k1 + 1) < l.length - k1 by omega)
    refine Zj k1 (by have:=Zc; omega) U U U ?_
    exact BK.mk' _ ⟨k1 + 1,v1,o1,G2,U,(L1.trans L2),S5,(ZS.cast (R1.mono L2) (by (exact (Zf6 ‹_› (by omega)).symm))),(Zq U),(by omega)⟩ (show l.length - (k1 + 1) < l.length - k1 by omega)
   refine Zj k1 (by have:=Zc; omega) U U U ?_
   exact BK.mk' _ ⟨k1 + 1,v1,o1,G2,U,(L1.trans L2),S5,(ZS.cast (R1.mono L2) (by (exact (Zf6 ‹_› (by omega)).symm))),(Zq U),(by omega)⟩ (show l.length - (k1 + 1) < l.length - k1 by omega)
  refine Zj k1 (by have:=Zc; omega) U U U ?_
  exact BK.mk' _ ⟨k1 + 1,v1,o1,G2,U,(L1.trans L2),S5,(ZS.cast (R1.mono L2) (by (exact (Zf6 ‹_› (by omega)).symm))),(Zq U),(by omega)⟩ (show l.length - (k1 + 1) < l.length - k1 by omega)
 obtain ⟨G3,L3,A3,S9⟩:=ZS.freeze R1 S1 0 U
 refine Z9 S9 ZyH U U U (ZtQ S9.imm (ZaP (l.take k1) at_ tx) _ A3 (by omega)) (fun w6 G4 r1 P1 S10 L4=>?_)
 exact RT S10 U (Sl.cast P1 (by rw [List.take_of_length_le (by omega)]; rfl))
end Go.Civ
set_option linter.unusedVariables false
set_option linter.unusedSimpArgs false
set_option maxRecDepth 100000
set_option maxHeartbeats 4000000
namespace Go.Civ
open Go.Proofs
theorem Zlj {G : GH} {w : World} (hG : G.In w) (l : List Int) (vl : Value) (hvl : Sl Enc.int 8 G vl l) (hl : l.length ≤ 1000000) : CL Tryz.prog (nat_lit 68) #[vl] [] w G fun G' _ r=>Sl Enc.int 8 G' r (Yc l):=by
 refine Zh ft [] Tryz.func68 U U ?_
 have hS:=St.start (X:=[]) hG
 refine LP.go ft [] (fun m ρ1 w1=>∃ (k1 : Nat),∃ (vk : Value),∃ (G1 : GH),m = l.length - k1 ∧ G.le G1 ∧ St w [] G G1 [] w1 ∧ FR ρ1 [(0,vl),(3,vk),(4,S (k1 : Int))] ∧ k1 ≤ l.length ∧ Sl Enc.int 8 G1 vk (Yc (l.take k1))) _ ⟨0,Ze,G,U,(G.le_refl),hS,⟨U,U,U,trivial⟩,(by omega),(Sl.cast (Sl.nil Enc.int 8 G) U)⟩ ?_
 rintro m ρ1 w1 ⟨k1,vk,G1,rfl,L1,S1,F9,f1,f2⟩
 refine F9.set ?_
 clear F9
 have hsl:=ZmP l k1
 have V1:=hvl.bound
 refine Zl (hvl.mono L1) Yp U U ?_
 refine Zp (k1 : Int) (l.length : Int) U U U (fun h1=>?_) (fun h1=>?_)
 ·obtain ⟨xv,hxv⟩:=ZaO (l:=l) (k:=k1) (by omega)
  refine LP.go ft [] (fun m ρ1 w1=>∃ (j : Nat),∃ (G2 : GH),m = ((Yc (l.take k1)).length - j) ∧ G1.le G2 ∧ St w [] G G2 [] w1 ∧ FR ρ1 [(0,vl),(3,vk),(4,S (k1 : Int)),(5,S (j : Int))] ∧ j ≤ (Yc (l.take k1)).length ∧ DnI (Yc (l.take k1)) xv j) _ ⟨0,G1,U,(G1.le_refl),S1,(Zq U),(by omega),(by intro i hi; omega)⟩ ?_
  rintro m ρ1 w2 ⟨j,G2,rfl,L2,S2,F9,f3,f4⟩
  refine F9.set ?_
  clear F9
  have V2:=f2.bound
  rcases Cmp.dec .lss (j : Int) (((Yc (l.take k1)).length : Nat) : Int) with ⟨B1,q1⟩ | ⟨B1,q1⟩
  ·have h2 : (j : Int) < (((Yc (l.take k1)).length : Nat) : Int):=q1
   clear q1
   obtain ⟨p1,x1,U1,E1,W1⟩:=Sl.at (f2.mono L2) j (by omega)
   obtain ⟨D1,C1,R1⟩:=E1
   obtain ⟨rfl,B2⟩:=R1
   have j1:=(L1.trans L2)
   obtain ⟨p2,x2,U2,E2,W2⟩:=Sl.at (hvl.mono j1) k1 (by omega)
   obtain rfl : xv = x2:=Option.some.inj (hxv.symm.trans U2)
   obtain ⟨D2,C2,R2⟩:=E2
   obtain ⟨rfl,B3⟩:=R2
   rcases Cmp.dec .lss x1 xv with ⟨B4,q2⟩ | ⟨B4,q2⟩
   ·have h3 : x1 < xv:=q2
    clear q2
    refine dr [] [(15,S (((Yc (l.take k1)).length : Nat) : Int)),(16, .bool true),(20,Zs p1),(21,S x1),(24,Zs p2),(25,S xv),(26, .bool true)] S2 ⟨fun _=>Zl (f2.mono L2) Yp U U <| nu U U,fun _=>WL.cmpV .lss U .i64 (j : Int) (((Yc (l.take k1)).length : Nat) : Int) _ B1 U U U <| nu U U,fun _=>Zg j W1 Yp Zt U U U U <| nu U U,fun _ hSw=>Z hSw C1 Zt U U U <| nu U U,fun _=>Zg k1 W2 Yp Zt U U U U <| nu U U,fun _ hSw=>Z hSw C2 Zt U U U <| nu U U,fun _=>WL.cmpV .lss U .i64 x1 xv _ B4 U U U <| nu U U,trivial⟩ (fun w3 S3=>?_)
    refine Zj j (by have:=Zc; omega) U U U ?_
    exact BK.mk' _ ⟨j + 1,G2,U,L2,S3,(Zq U),(by omega),(by exact DnI.step ‹_› ‹_› ‹_›)⟩ (show ((Yc (l.take k1)).length - (j + 1)) < ((Yc (l.take k1)).length - j) by omega)
   have h3 : xv ≤ x1:=q2
   clear q2
   refine dr [] [(15,S (((Yc (l.take k1)).length : Nat) : Int)),(16, .bool true),(20,Zs p1),(21,S x1),(24,Zs p2),(25,S xv),(26, .bool false)] S2 ⟨fun _=>Zl (f2.mono L2) Yp U U <| nu U U,fun _=>WL.cmpV .lss U .i64 (j : Int) (((Yc (l.take k1)).length : Nat) : Int) _ B1 U U U <| nu U U,fun _=>Zg j W1 Yp Zt U U U U <| nu U U,fun _ hSw=>Z hSw C1 Zt U U U <| nu U U,fun _=>Zg k1 W2 Yp Zt U U U U <| nu U U,fun _ hSw=>Z hSw C2 Zt U U U <| nu U U,fun _=>WL.cmpV .lss U .i64 x1 xv _ B4 U U U <| nu U U,trivial⟩ (fun w4 S4=>?_)
   have V3:=f2.bound
   rcases Cmp.dec .lss (j : Int) (((Yc (l.take k1)).length : Nat) : Int) with ⟨B5,q3⟩ | ⟨B5,q3⟩
   ·have h4 : (j : Int) < (((Yc (l.take k1)).length : Nat) : Int):=q3
    clear q3
    obtain ⟨p3,x3,U3,E3,W3⟩:=Sl.at (f2.mono L2) j (by omega)
    obtain rfl : x1 = x3:=Option.some.inj (U1.symm.trans U3)
    obtain ⟨D3,C3,R3⟩:=E3
    obtain ⟨rfl,B6⟩:=R3
    obtain ⟨p4,x4,U4,E4,W4⟩:=Sl.at (hvl.mono j1) k1 (by omega)
    obtain rfl : xv = x4:=Option.some.inj (hxv.symm.trans U4)
    obtain ⟨D4,C4,R4⟩:=E4
    obtain ⟨rfl,B7⟩:=R4
    rcases Cmp.dec .eql x1 xv with ⟨B8,q4⟩ | ⟨B8,q4⟩
    ·have h5 : x1 = xv:=q4
     clear q4
     refine dr [] [(32,S (((Yc (l.take k1)).length : Nat) : Int)),(33, .bool true),(37,Zs p3),(38,S x1),(41,Zs p4),(42,S xv),(43, .bool true)] S4 ⟨fun _=>Zl (f2.mono L2) Yp U U <| nu U U,fun _=>WL.cmpV .lss U .i64 (j : Int) (((Yc (l.take k1)).length : Nat) : Int) _ B5 U U U <| nu U U,fun _=>Zg j W3 Yp Zt U U U U <| nu U U,fun _ hSw=>Z hSw C3 Zt U U U <| nu U U,fun _=>Zg k1 W4 Yp Zt U U U U <| nu U U,fun _ hSw=>Z hSw C4 Zt U U U <| nu U U,fun _=>WL.cmpV .eql U .i64 x1 xv _ B8 U U U <| nu U U,trivial⟩ (fun w5 S5=>?_)
     refine Zj k1 (by have:=Zc; omega) U U U ?_
     exact BK.mk' _ ⟨k1 + 1,vk,G2,U,j1,S5,⟨U,U,U,trivial⟩,(by omega),(Sl.cast (f2.mono L2) (by rw [Zci hxv]; exact (ZnX (k:=j) ‹_› ‹_› ‹_›).symm))⟩ (show l.length - (k1 + 1) < l.length - k1 by omega)
    have h5 : x1 ≠ xv:=q4
    clear q4
    refine dr [] [(32,S (((Yc (l.take k1)).length : Nat) : Int)),(33, .bool true),(37,Zs p3),(38,S x1),(41,Zs p4),(42,S xv),(43, .bool false)] S4 ⟨fun _=>Zl (f2.mono L2) Yp U U <| nu U U,fun _=>WL.cmpV .lss U .i64 (j : Int) (((Yc (l.take k1)).length : Nat) : Int) _ B5 U U U <| nu U U,fun _=>Zg j W3 Yp Zt U U U U <| nu U U,fun _ hSw=>Z hSw C3 Zt U U U <| nu U U,fun _=>Zg k1 W4 Yp Zt U U U U <| nu U U,fun _ hSw=>Z hSw C4 Zt U U U <| nu U U,fun _=>WL.cmpV .eql U .i64 x1 xv _ B8 U U U <| nu U U,trivial⟩ (fun w6 S6=>?_)
    refine WL.buildSlice _ [] [] S6 Yb U U U U (fun z hz=>by match z,hz with | [],_=>rfl) (fun b1 w7 N1 S7=>?_)
    refine Y3 (f2.mono L2) j (by omega) Yp Zt U U U U (fun v1 A1=>?_)
    have R5:=ZS.empty Enc.int 8 3 G2 b1
    refine YN Yb U U U R5 S7 0 U A1 (by have:=Zc; simp only [Zx,List.length_take,List.length_drop]; omega) (by have:=Zc; simp only [Zx,List.length_take,List.length_drop]; omega) U U U (fun v2 o1 w9 R6 S8=>?_)
    refine WL.indexAddr (hvl.mono j1) k1 (by omega) Yp Zt U U U U (fun p5 x5 U5 E5=>?_)
    obtain rfl : xv = x5:=Option.some.inj (hxv.symm.trans U5)
    obtain ⟨D5,C5,R7⟩:=E5
    obtain ⟨rfl,B9⟩:=R7
    refine Z S8 C5 Zt U U U ?_
    refine WL.buildSlice _ [(0,[S xv])] [S xv] S8 Yb U U U U (fun z hz=>by match z,hz with | [z0],_=>rfl) (fun b2 w10 N2 S9=>?_)
    refine WL.push (m:=([xv] : List Int)) Yb U U U R6 S9 1 U 0 _ _ _ _ _ U ⟨[S xv],_,U,⟨U,B9⟩,U⟩ U (by have:=Zc; simp only [Zx,List.length_take,List.length_drop]; omega) (by have:=Zc; simp only [Zx,List.length_take,List.length_drop]; omega) U U U (fun v3 o2 w11 R8 S10=>?_)
    have S11:=S10.tail
    refine QL (f2.mono L2) j (by omega) Yp Zt U U U U (fun v4 A2=>?_)
    refine YN Yb U U U R8 S11 0 U A2 (by have:=Zc; simp only [Zx,List.length_take,List.length_drop]; omega) (by have:=Zc; simp only [Zx,List.length_take,List.length_drop]; omega) U U U (fun v5 o3 w12 R9 S12=>?_)
    refine Zj k1 (by have:=Zc; omega) U U U ?_
    obtain ⟨G3,L3,A3,S13⟩:=ZS.freeze R9 S12 0 U
    have S14:=S13.tail
    exact BK.mk' _ ⟨k1 + 1,v5,G3,U,(L1.trans (L2.trans L3)),S14,⟨U,U,U,trivial⟩,(by omega),(Sl.cast A3 (by rw [Zci hxv]; exact ZhT (k:=j) ‹_› (by omega) (Zwt ‹_› (by omega))))⟩ (show l.length - (k1 + 1) < l.length - k1 by omega)
   have h4 : (((Yc (l.take k1)).length : Nat) : Int) ≤ (j : Int):=q3
   clear q3
   refine dr [] [(32,S (((Yc (l.take k1)).length : Nat) : Int)),(33, .bool false)] S4 ⟨fun _=>Zl (f2.mono L2) Yp U U <| nu U U,fun _=>WL.cmpV .lss U .i64 (j : Int) (((Yc (l.take k1)).length : Nat) : Int) _ B5 U U U <| nu U U,trivial⟩ (fun w13 S15=>?_)
   refine WL.buildSlice _ [] [] S15 Yb U U U U (fun z hz=>by match z,hz with | [],_=>rfl) (fun b3 w14 N3 S16=>?_)
   refine Y3 (f2.mono L2) j (by omega) Yp Zt U U U U (fun v6 A4=>?_)
   have R10:=ZS.empty Enc.int 8 3 G2 b3
   refine YN Yb U U U R10 S16 0 U A4 (by have:=Zc; simp only [Zx,List.length_take,List.length_drop]; omega) (by have:=Zc; simp only [Zx,List.length_take,List.length_drop]; omega) U U U (fun v7 o4 w15 R11 S17=>?_)
   refine WL.indexAddr (hvl.mono j1) k1 (by omega) Yp Zt U U U U (fun p6 x6 U6 E6=>?_)
   obtain rfl : xv = x6:=Option.some.inj (hxv.symm.trans U6)
   obtain ⟨D6,C6,R12⟩:=E6
   obtain ⟨rfl,B10⟩:=R12
   refine Z S17 C6 Zt U U U ?_
   refine WL.buildSlice _ [(0,[S xv])] [S xv] S17 Yb U U U U (fun z hz=>by match z,hz with | [z0],_=>rfl) (fun b4 w16 N4 S18=>?_)
   refine WL.push (m:=([xv] : List Int)) Yb U U U R11 S18 1 U 0 _ _ _ _ _ U ⟨[S xv],_,U,⟨U,B10⟩,U⟩ U (by have:=Zc; simp only [Zx,List.length_take,List.length_drop]; omega) (by have:=Zc; simp only [Zx,List.length_take,List.length_drop]; omega) U U U (fun v9 o5 w17 R13 S19=>?_)
   have S20:=S19.tail
   refine QL (f2.mono L2) j (by omega) Yp Zt U U U U (fun v10 A5=>?_)
   refine YN Yb U U U R13 S20 0 U A5 (by have:=Zc; simp only [Zx,List.length_take,List.length_drop]; omega) (by have:=Zc; simp only [Zx,List.length_take,List.length_drop]; omega) U U U (fun v11 o6 w18 R14 S21=>?_)
   refine Zj k1 (by have:=Zc; omega) U U U ?_
   obtain ⟨G4,L4,A6,S22⟩:=ZS.freeze R14 S21 0 U
   have S23:=S22.tail
   exact BK.mk' _ ⟨k1 + 1,v11,G4,U,(L1.trans (L2.trans L4)),S23,⟨U,U,U,trivial⟩,(by omega),(Sl.cast A6 (by rw [Zci hxv]; (exfalso; omega)))⟩ (show l.length - (k1 + 1) < l.length - k1 by omega)
  have h2 : (((Yc (l.take k1)).length : Nat) : Int) ≤ (j : Int):=q1
  clear q1
  refine dr [] [(15,S (((Yc (l.take k1)).length : Nat) : Int)),(16, .bool false)] S2 ⟨fun _=>Zl (f2.mono L2) Yp U U <| nu U U,fun _=>WL.cmpV .lss U .i64 (j : Int) (((Yc (l.take k1)).length : Nat) : Int) _ B1 U U U <| nu U U,trivial⟩ (fun w19 S24=>?_)
  have V4:=f2.bound
  rcases Cmp.dec .lss (j : Int) (((Yc (l.take k1)).length : Nat) : Int) with ⟨Y6,q5⟩ | ⟨Y6,q5⟩
  ·have h6 : (j : Int) < (((Yc (l.take k1)).length : Nat) : Int):=q5
   clear q5
   obtain ⟨p7,x7,U7,E7,W5⟩:=Sl.at (f2.mono L2) j (by omega)
   obtain ⟨D7,C7,R15⟩:=E7
   obtain ⟨rfl,YU⟩:=R15
   have j2:=(L1.trans L2)
   obtain ⟨p8,x9,U8,E8,W6⟩:=Sl.at (hvl.mono j2) k1 (by omega)
   obtain rfl : xv = x9:=Option.some.inj (hxv.symm.trans U8)
   obtain ⟨D8,C8,R16⟩:=E8
   obtain ⟨rfl,Xa⟩:=R16
   rcases Cmp.dec .eql x7 xv with ⟨XF,q6⟩ | ⟨XF,q6⟩
   ·have h7 : x7 = xv:=q6
    clear q6
    refine dr [] [(32,S (((Yc (l.take k1)).length : Nat) : Int)),(33, .bool true),(37,Zs p7),(38,S x7),(41,Zs p8),(42,S xv),(43, .bool true)] S24 ⟨fun _=>Zl (f2.mono L2) Yp U U <| nu U U,fun _=>WL.cmpV .lss U .i64 (j : Int) (((Yc (l.take k1)).length : Nat) : Int) _ Y6 U U U <| nu U U,fun _=>Zg j W5 Yp Zt U U U U <| nu U U,fun _ hSw=>Z hSw C7 Zt U U U <| nu U U,fun _=>Zg k1 W6 Yp Zt U U U U <| nu U U,fun _ hSw=>Z hSw C8 Zt U U U <| nu U U,fun _=>WL.cmpV .eql U .i64 x7 xv _ XF U U U <| nu U U,trivial⟩ (fun w20 S25=>?_)
    refine Zj k1 (by have:=Zc; omega) U U U ?_
    exact BK.mk' _ ⟨k1 + 1,vk,G2,U,j2,S25,⟨U,U,U,trivial⟩,(by omega),(Sl.cast (f2.mono L2) (by rw [Zci hxv]; (exfalso; omega)))⟩ (show l.length - (k1 + 1) < l.length - k1 by omega)
   have h7 : x7 ≠ xv:=q6
   clear q6
   refine dr [] [(32,S (((Yc (l.take k1)).length : Nat) : Int)),(33, .bool true),(37,Zs p7),(38,S x7),(41,Zs p8),(42,S xv),(43, .bool false)] S24 ⟨fun _=>Zl (f2.mono L2) Yp U U <| nu U U,fun _=>WL.cmpV .lss U .i64 (j : Int) (((Yc (l.take k1)).length : Nat) : Int) _ Y6 U U U <| nu U U,fun _=>Zg j W5 Yp Zt U U U U <| nu U U,fun _ hSw=>Z hSw C7 Zt U U U <| nu U U,fun _=>Zg k1 W6 Yp Zt U U U U <| nu U U,fun _ hSw=>Z hSw C8 Zt U U U <| nu U U,fun _=>WL.cmpV .eql U .i64 x7 xv _ XF U U U <| nu U U,trivial⟩ (fun w21 S26=>?_)
   refine WL.buildSlice _ [] [] S26 Yb U U U U (fun z hz=>by match z,hz with | [],_=>rfl) (fun b5 w22 N5 S27=>?_)
   refine Y3 (f2.mono L2) j (by omega) Yp Zt U U U U (fun v12 A7=>?_)
   have R17:=ZS.empty Enc.int 8 3 G2 b5
   refine YN Yb U U U R17 S27 0 U A7 (by have:=Zc; simp only [Zx,List.length_take,List.length_drop]; omega) (by have:=Zc; simp only [Zx,List.length_take,List.length_drop]; omega) U U U (fun v13 o7 w23 R18 S28=>?_)
   refine WL.indexAddr (hvl.mono j2) k1 (by omega) Yp Zt U U U U (fun p9 x10 U9 E9=>?_)
   obtain rfl : xv = x10:=Option.some.inj (hxv.symm.trans U9)
   obtain ⟨D9,C9,R19⟩:=E9
   obtain ⟨rfl,Xz⟩:=R19
   refine Z S28 C9 Zt U U U ?_
   refine WL.buildSlice _ [(0,[S xv])] [S xv] S28 Yb U U U U (fun z hz=>by match z,hz with | [z0],_=>rfl) (fun b6 w24 N6 S29=>?_)
   refine WL.push (m:=([xv] : List Int)) Yb U U U R18 S29 1 U 0 _ _ _ _ _ U ⟨[S xv],_,U,⟨U,Xz⟩,U⟩ U (by have:=Zc; simp only [Zx,List.length_take,List.length_drop]; omega) (by have:=Zc; simp only [Zx,List.length_take,List.length_drop]; omega) U U U (fun v14 o8 w25 R20 S30=>?_)
   have S31:=S30.tail
   refine QL (f2.mono L2) j (by omega) Yp Zt U U U U (fun v15 A8=>?_)
   refine YN Yb U U U R20 S31 0 U A8 (by have:=Zc; simp only [Zx,List.length_take,List.length_drop]; omega) (by have:=Zc; simp only [Zx,List.length_take,List.length_drop]; omega) U U U (fun v16 o9 w26 R21 S32=>?_)
   refine Zj k1 (by have:=Zc; omega) U U U ?_
   obtain ⟨G5,L5,A9,S33⟩:=ZS.freeze R21 S32 0 U
   have S34:=S33.tail
   exact BK.mk' _ ⟨k1 + 1,v16,G5,U,(L1.trans (L2.trans L5)),S34,⟨U,U,U,trivial⟩,(by omega),(Sl.cast A9 (by rw [Zci hxv]; (exfalso; omega)))⟩ (show l.length - (k1 + 1) < l.length - k1 by omega)
  have h6 : (((Yc (l.take k1)).length : Nat) : Int) ≤ (j : Int):=q5
  clear q5
  refine dr [] [(32,S (((Yc (l.take k1)).length : Nat) : Int)),(33, .bool false)] S24 ⟨fun _=>Zl (f2.mono L2) Yp U U <| nu U U,fun _=>WL.cmpV .lss U .i64 (j : Int) (((Yc (l.take k1)).length : Nat) : Int) _ Y6 U U U <| nu U U,trivial⟩ (fun w27 S35=>?_)
  refine WL.buildSlice _ [] [] S35 Yb U U U U (fun z hz=>by match z,hz with | [],_=>rfl) (fun b7 w28 N7 S36=>?_)
  refine Y3 (f2.mono L2) j (by omega) Yp Zt U U U U (fun v17 A10=>?_)
  have R22:=ZS.empty Enc.int 8 3 G2 b7
  refine YN Yb U U U R22 S36 0 U A10 (by have:=Zc; simp only [Zx,List.length_take,List.length_drop]; omega) (by have:=Zc; simp only [Zx,List.length_take,List.length_drop]; omega) U U U (fun v18 o10 w29 R23 S37=>?_)
  refine WL.indexAddr (hvl.mono (L1.trans L2)) k1 (by omega) Yp Zt U U U U (fun p10 x11 U10 E10=>?_)
  obtain rfl : xv = x11:=Option.some.inj (hxv.symm.trans U10)
  obtain ⟨D10,C10,R24⟩:=E10
  obtain ⟨rfl,QK⟩:=R24
  refine Z S37 C10 Zt U U U ?_
  refine WL.buildSlice _ [(0,[S xv])] [S xv] S37 Yb U U U U (fun z hz=>by match z,hz with | [z0],_=>rfl) (fun b8 w30 N8 S38=>?_)
  refine WL.push (m:=([xv] : List Int)) Yb U U U R23 S38 1 U 0 _ _ _ _ _ U ⟨[S xv],_,U,⟨U,QK⟩,U⟩ U (by have:=Zc; simp only [Zx,List.length_take,List.length_drop]; omega) (by have:=Zc; simp only [Zx,List.length_take,List.length_drop]; omega) U U U (fun v19 o11 w31 R25 S39=>?_)
  have S40:=S39.tail
  refine QL (f2.mono L2) j (by omega) Yp Zt U U U U (fun v20 A11=>?_)
  refine YN Yb U U U R25 S40 0 U A11 (by have:=Zc; simp only [Zx,List.length_take,List.length_drop]; omega) (by have:=Zc; simp only [Zx,List.length_take,List.length_drop]; omega) U U U (fun v21 o12 w32 R26 S41=>?_)
  refine Zj k1 (by have:=Zc; omega) U U U ?_
  obtain ⟨G6,L6,A12,S42⟩:=ZS.freeze R26 S41 0 U
  have S43:=S42.tail
  exact BK.mk' _ ⟨k1 + 1,v21,G6,U,(L1.trans (L2.trans L6)),S43,⟨U,U,U,trivial⟩,(by omega),(Sl.cast A12 (by rw [Zci hxv]; exact ZhT (k:=j) ‹_› (by omega) (fun u hu=>by have:=(List.getElem?_eq_some_iff.1 hu).1; omega)))⟩ (show l.length - (k1 + 1) < l.length - k1 by omega)
 exact RT S1 U (Sl.cast f2 (by rw [List.take_of_length_le (by omega)]))
theorem Znc {G : GH} {w : World} (hG : G.In w) (s : Schema) (v : List Val) (cs : List Value) (hcs : SchemaE.rep G s cs) (vv : Value) (hvv : Sl ValE 32 G vv v) (k0 : 0 ≤ s.key) (hk : s.key ≤ v.length) : CL Tryz.prog (nat_lit 97) #[.agg cs.toArray,vv] [] w G fun G' _ r=>Sl ValE 32 G' r (v.take s.key.toNat):=by
 refine Zh ft [] Tryz.func97 U U ?_
 have hS:=St.start (X:=[]) hG
 obtain ⟨v1,v2,rfl,B1,A1,B2,A2⟩:=YZ hcs
 refine Zw [Za s.name,v1,S s.key,v2] _ hS U U U (fun p1 w1 G1 L1 M1 C1 S1=>?_)
 refine Z S1 (XC.drop 2 C1) Zt U U U ?_
 refine Y3 (hvv.mono L1) ((s.key).toNat) (by omega) Yv Z6 U U U (congrArg (Value.int .i64) (Int.toNat_of_nonneg (by omega)).symm) (fun v3 A3=>?_)
 exact RT S1 U (Sl.cast A3 (by rfl))
theorem Znd {G : GH} {w : World} (hG : G.In w) (v : List Val) (vd tx : Int) (vv : Value) (hvv : Sl ValE 32 G vv v) (hd64 : Z0 vd) (U64 : Z0 tx) (ka : vd ≤ 253402300800) (kb : tx ≤ 253402300800) : CL Tryz.prog (nat_lit 71) #[vv,S vd,S tx] [] w G fun G' _ r=>Is HRowE G' r (ZZ (some (Pt.mk tx vd v))):=by
 refine Y2 ft [] Tryz.func71 U U ?_
 have hS:=St.start (X:=[]) hG
 refine WL.alloc hS Zz U U (fun b1 w1 N1 S1=>?_)
 have hi1 : Z0 (vd + 1):=by have b1:=hd64.1; have b2:=U64.1; have:=hd64.1; have:=hd64.2; constructor <;> omega
 refine Zb0 .add U vd 1 U U U hi1 <| WL.build _ [(0,[S vd]),(1,[S (vd + 1)])] [S vd,S (vd + 1)] Z2 U XB U U U U ?_
 have hi2 : Z0 (tx + 1):=by have b1:=hd64.1; have b2:=U64.1; have:=U64.1; have:=U64.2; constructor <;> omega
 refine Zb0 .add U tx 1 U U U hi2 <| WL.build _ [(0,[S tx]),(1,[S (tx + 1)])] [S tx,S (tx + 1)] Z2 U XB U U U U <| WL.build _ [(0,[S vd,S (vd + 1)]),(1,[S tx,S (tx + 1)])] [S vd,S (vd + 1),S tx,S (tx + 1)] Zct U ZbY U U U U ?_
 refine WL.build _ [(0,[vv]),(1,[S vd,S (vd + 1),S tx,S (tx + 1)])] [vv,S vd,S (vd + 1),S tx,S (tx + 1)] Zz U Za6 U U (by show [(0,(vv : Value).cells.toList),(1,(.agg #[S vd,S (vd + 1),S tx,S (tx + 1)] : Value).cells.toList)] = _; simp only [hvv.cells1] <;> rfl) U ?_
 refine Zi S1 0 [vv,S vd,S (vd + 1),S tx,S (tx + 1)] U U Zz U U (by simp only [ZA,hvv.oneC] <;> rfl) U U U (fun w2 S2=>?_)
 obtain ⟨G1,L1,C1,S3⟩:=S2.shutB N1
 exact Xr [.agg #[vv,S vd,S (vd + 1),S tx,S (tx + 1)]] S3 ⟨_,_,_,U,U,S3.loadC C1 Zz U U,U⟩ (Is.cast ⟨_,U,(ZT (HRow.mk v (Rect.mk (Span.mk vd (vd + 1)) (Span.mk tx (tx + 1)))) (hvv.mono L1) hd64 hi1 U64 hi2)⟩ (by rfl))
theorem Zwu {G : GH} {w : World} (hG : G.In w) (s : Schema) (l : VV) (cs : List Value) (hcs : SchemaE.rep G s cs) (vl : Value) (hvl : Sl (ValE.slice 32) 24 G vl l) (k0 : 0 ≤ s.key) (hk : ∀ v ∈ l,s.key ≤ v.length) : CL Tryz.prog (nat_lit 69) #[.agg cs.toArray,vl] [] w G fun G' _ r=>∃ r0 r1,r = .tuple #[r0,r1] ∧ Sl ValE 32 G' r0 ((Ym s.key.toNat l).getD []) ∧ r1 = .bool ((Ym s.key.toNat l).isSome):=by
 refine Zh ft [] Tryz.func69 U U ?_
 have hbd9:=hvl.bound
 have hS:=St.start (X:=[]) hG
 obtain ⟨v1,v2,rfl,B1,A1,B2,A2⟩:=YZ hcs
 refine Zw [Za s.name,v1,S s.key,v2] _ hS U U U (fun p1 w1 G1 L1 M1 C1 S1=>?_)
 refine LP.go ft [] (fun m ρ1 w1=>∃ (k1 : Nat),∃ (G2 : GH),m = l.length - k1 ∧ G1.le G2 ∧ St w [] G G2 [] w1 ∧ FR ρ1 [(1,vl),(2,Zs p1),(6,S (k1 : Int))] ∧ k1 ≤ l.length ∧ ∀ i,i < k1 → ∀ x y,l[i]? = some x → l[i + 1]? = some y → decide (x.take s.key.toNat = y.take s.key.toNat) = false) _ ⟨0,G1,U,(G1.le_refl),S1,⟨U,U,U,trivial⟩,(by omega),(by intro i hi; omega)⟩ ?_
 rintro m ρ1 w2 ⟨k1,G2,rfl,L2,S2,F9,f1,f2⟩
 refine F9.set ?_
 clear F9
 refine Zj k1 (by have:=Zc; omega) U U U ?_
 have V1:=hvl.bound
 have j1:=(L1.trans L2)
 refine Zl (hvl.mono j1) Ql U U ?_
 refine Zp ((k1 + 1 : Nat) : Int) (l.length : Int) U U U (fun h1=>?_) (fun h1=>?_)
 ·obtain ⟨p2,x1,U1,E1,W1⟩:=Sl.at (hvl.mono j1) k1 (by omega)
  obtain ⟨D1,C2,R1⟩:=E1
  obtain ⟨v3,rfl,A3⟩:=R1
  obtain ⟨p3,x2,U2,E2,W2⟩:=Sl.at (hvl.mono j1) (k1 + 1) (by omega)
  obtain ⟨D2,C3,R2⟩:=E2
  obtain ⟨v4,rfl,A4⟩:=R2
  refine dr [(5,true),(12,false),(13,false)] [(14, .agg #[Za s.name,v1,S s.key,v2]),(17,Zs p2),(18,v3),(20, .agg #[Za s.name,v1,S s.key,v2]),(23,S ((k1 + 1 : Nat) : Int)),(24,Zs p3),(25,v4)] S2 ⟨fun _ hSw=>Zb hSw (C1.mono L2) [Za s.name,v1,S s.key,v2] Qo U U U U U <| nu U U,fun _=>Zg k1 W1 Ql ZK U U U U <| nu U U,fun _ hSw=>Z hSw C2 ZK U U U <| nu U U,fun _ hSw=>Zb hSw (C1.mono L2) [Za s.name,v1,S s.key,v2] Qo U U U U U <| nu U U,fun _=>Zj k1 (by have:=Zc; omega) U U U <| nu U U,fun _=>Zg (k1 + 1) W2 Ql ZK U U U U <| nu U U,fun _ hSw=>Z hSw C3 ZK U U U <| nu U U,trivial⟩ (fun w3 S3=>?_)
  refine Z9 S3 ZsH U U U (Znc S3.imm s x1 _ (Yo s B1 (A1.mono j1) B2 (A2.mono j1)) _ A3 k0 (hk _ (List.mem_of_getElem? ‹_›))) (fun w4 G3 r1 P1 S4 L3=>?_)
  refine ⟨S4.down S3.le L3,?_⟩
  have j2:=(j1.trans L3)
  refine Z9 S4 ZsH U U U (Znc S4.imm s x2 _ (Yo s B1 (A1.mono j2) B2 (A2.mono j2)) _ (A4.mono L3) k0 (hk _ (List.mem_of_getElem? ‹_›))) (fun w5 G4 r2 P2 S5 L4=>?_)
  refine Zr S5 ZsF U U U (Zma S5.imm (x1.take s.key.toNat) (x2.take s.key.toNat) _ (P1.mono L4) _ P2) (fun w6 G5 S6 L5=>?_)
  refine WL.split (fun (h2 : (decide ((x1.take s.key.toNat) = (x2.take s.key.toNat))) = true)=>?_) (fun (h2 : (decide ((x1.take s.key.toNat) = (x2.take s.key.toNat))) = false)=>?_)
  ·refine WL.indexAddr (hvl.mono ((j2.trans L4).trans L5)) k1 (by omega) Ql ZK U U U U (fun p4 x3 U3 E3=>?_)
   obtain rfl : x1 = x3:=Option.some.inj (U1.symm.trans U3)
   obtain ⟨D3,C4,R3⟩:=E3
   obtain ⟨v5,rfl,A5⟩:=R3
   refine Z S6 C4 ZK U U U ?_
   exact RT S6 U ⟨_,_,U,(Sl.cast A5 (by exact (Zog ‹_› ‹_› ‹_› ‹_›).1)),(congrArg Value.bool (by exact (Zog ‹_› ‹_› ‹_› ‹_›).2))⟩
  refine Zj k1 (by have:=Zc; omega) U U U ?_
  exact BK.mk' _ ⟨k1 + 1,G5,U,(L2.trans ((L3.trans L4).trans L5)),S6,⟨U,U,U,trivial⟩,(by omega),(by exact Zud ‹_› ‹_› ‹_› ‹_›)⟩ (show l.length - (k1 + 1) < l.length - k1 by omega)
 exact RT S2 U ⟨_,_,U,(Sl.cast (Sl.nil ValE 32 G2) (by exact (Zoh ‹_› (by omega)).1)),(congrArg Value.bool (by exact (Zoh ‹_› (by omega)).2))⟩
end Go.Civ
set_option linter.unusedVariables false
set_option linter.unusedSimpArgs false
set_option maxRecDepth 100000
set_option maxHeartbeats 4000000
namespace Go.Civ
open Go.Proofs
def ZjC (d : Nat) : Prop:=∀ {G : GH} {w : World} (hG : G.In w) (c : Cond) (dep n : Int) (cc : List Value) (hcc : (YQ d).rep G c cc) (pb : Nat) (hpb : XP w G (some (pb,(nat_lit 3),[S n]))) (hdep : 0 ≤ dep ∧ dep ≤ 31) (hn : 0 ≤ n ∧ n ≤ 100),CL Tryz.prog (nat_lit 47) #[.agg cc.toArray,S dep, .pointer (some ⟨pb,0,none⟩)] [pb] w G fun G' w' r=>(r = .bool ((YL d c dep n).1)) ∧ XP w' G' (some (pb,(nat_lit 3),[S ((YL d c dep n).2)]))
theorem Zui {G : GH} {w : World} (hG : G.In w) (d : Nat) (c : Cond) (dep n : Int) (hN : ZjC d) (pb : Nat) (hpb : XP w G (some (pb,(nat_lit 3),[S n]))) (cc : List Value) (hcc : (YQ d).rep G c cc) (pd : Addr) (hpd : XC G pd [S dep]) (pn : Addr) (hpn : XC G pn [.pointer (some ⟨pb,0,none⟩)]) (hdep : 0 ≤ dep ∧ dep ≤ 30) (hn : 0 ≤ n ∧ n ≤ 100) : CL Tryz.prog (nat_lit 105) #[.agg cc.toArray,Zs pd,Zs pn] [pb] w G fun G' w' r=>(r = .bool (!(YL d c (dep + 1) n).1)) ∧ XP w' G' (some (pb,(nat_lit 3),[S ((YL d c (dep + 1) n).2)])):=by
 refine Zh ft [] Tryz.func105 U U ?_
 have hdep64 : Z0 dep:=⟨by omega,by omega⟩
 have N64 : Z0 n:=⟨by omega,by omega⟩
 have hS:=St.lentO hG hpb
 obtain ⟨lv1,rfl,B1,B2,B3,B4,B5,B6,O1⟩:=Xo hcc
 refine Zw [S c.kind,Za c.col,Za c.oth,S c.v.k,S c.v.n,Za c.v.s,lv1] _ hS U U U (fun p1 w1 G1 L1 M1 C1 S1=>?_)
 refine Zb S1 C1 [S c.kind,Za c.col,Za c.oth,S c.v.k,S c.v.n,Za c.v.s,lv1] XI U U U U U <| Z S1 (hpd.mono L1) Zt U U U ?_
 have hi1 : Z0 (dep + 1):=by have:=hdep64.1; have:=hdep64.2; constructor <;> omega
 refine Zb0 .add U dep 1 U U U hi1 <| Z S1 (hpn.mono L1) Zs0 U U U ?_
 refine Qe Zs8 U U U (hN S1.imm c (dep + 1) n _ ((YQ _).mono L1 hcc) _ (S1.lentAt 0 U) (by omega) (by omega)) (fun w2 G2 r1 hres1 ⟨P1,hlc1⟩=>?_)
 have S2 : St w [pb] G G2 [some (pb,(nat_lit 3),[S ((YL d c (dep + 1) n).2)])] w2:=S1.callX 0 U [S ((YL d c (dep + 1) n).2)] hres1 (hlc1 _ U).1
 have L2:=hres1.le
 subst P1
 exact RT S2 U ⟨(congrArg Value.bool (by rfl)),(S2.lentAt 0 U).cast (by rfl)⟩
theorem ZrV {G : GH} {w : World} (hG : G.In w) (d : Nat) (l : List Cond) (dep n : Int) (hN : ZjC d) (pb : Nat) (hpb : XP w G (some (pb,(nat_lit 3),[S n]))) (vl : Value) (hvl : Sl (YQ d) 96 G vl l) (pd : Addr) (hpd : XC G pd [S dep]) (pn : Addr) (hpn : XC G pn [.pointer (some ⟨pb,0,none⟩)]) (hdep : 0 ≤ dep ∧ dep ≤ 30) (hn : 0 ≤ n ∧ n ≤ 100) : CL Tryz.prog (nat_lit 158) #[vl, .func (.func 105) #[] #[Zs pd,Zs pn]] [pb] w G fun G' w' r=>(r = S (ZeG (fun x m=>YL d x (dep + 1) m) l n 0)) ∧ XP w' G' (some (pb,(nat_lit 3),[S ((Xl (fun x m=>YL d x (dep + 1) m) l n).2)])):=by
 refine Zh ft [] Tryz.func158 U U ?_
 have hdep64 : Z0 dep:=⟨by omega,by omega⟩
 have N64 : Z0 n:=⟨by omega,by omega⟩
 have hS:=St.lentO hG hpb
 have V1:=hvl.bound
 refine Zl hvl Zdr U U ?_
 refine LP.go ft [] (fun m ρ1 w1=>∃ (k1 : Nat),∃ (mm : Int),∃ (G1 : GH),m = l.length - k1 ∧ G.le G1 ∧ St w [pb] G G1 [some (pb,(nat_lit 3),[S mm])] w1 ∧ FR ρ1 [(0,vl),(1, .func (.func 105) #[] #[Zs pd,Zs pn]),(7,S (l.length : Int)),(8,S (k1 : Int))] ∧ k1 ≤ l.length ∧ ((Xl (fun x m=>YL d x (dep + 1) m) (l.take k1) n).1 = true ∧ mm = (Xl (fun x m=>YL d x (dep + 1) m) (l.take k1) n).2) ∧ (0 ≤ mm ∧ mm ≤ 100)) _ ⟨0,n,G,U,(G.le_refl),hS,(Zq U),(by omega),(by exact ⟨U,U⟩),(by omega)⟩ ?_
 rintro m ρ1 w1 ⟨k1,mm,G1,rfl,L1,S1,F9,f1,f2,f3⟩
 refine F9.set ?_
 clear F9
 have hm64 : Z0 mm:=⟨by omega,by omega⟩
 have h9k:=(by assumption : (Xl (fun x m=>YL d x (dep + 1) m) (l.take k1) n).1 = true ∧ mm = (Xl (fun x m=>YL d x (dep + 1) m) (l.take k1) n).2)
 refine Zp (k1 : Int) (l.length : Int) U U U (fun h1=>?_) (fun h1=>?_)
 ·refine WL.indexAddr (hvl.mono L1) k1 (by omega) Zdr XI U U U U (fun p1 x1 U1 E1=>?_)
  obtain ⟨D1,C1,R1⟩:=E1
  obtain ⟨lv1,rfl,B1,B2,B3,B4,B5,B6,O1⟩:=Xo R1
  refine Zb S1 C1 [S x1.kind,Za x1.col,Za x1.oth,S x1.v.k,S x1.v.n,Za x1.v.s,lv1] XI U U U U U ?_
  refine Qe Zy5 U U U (Zui S1.imm _ x1 dep mm hN _ (S1.lentAt 0 U) _ R1 _ (hpd.mono L1) _ (hpn.mono L1) (by omega) (by omega)) (fun w2 G2 r1 hres1 ⟨P1,hlc1⟩=>?_)
  have S2 : St w [pb] G G2 [some (pb,(nat_lit 3),[S ((YL d x1 (dep + 1) mm).2)])] w2:=S1.callX 0 U [S ((YL d x1 (dep + 1) mm).2)] hres1 (hlc1 _ U).1
  have L2:=hres1.le
  subst P1
  refine WL.split (fun (h2 : (!(YL d x1 (dep + 1) mm).1) = true)=>?_) (fun (h2 : (!(YL d x1 (dep + 1) mm).1) = false)=>?_)
  ·exact RT S2 U ⟨(congrArg (Value.int .i64) (by exact (Zng h9k.1 h9k.2 ‹_› ‹_›).1)),(S2.lentAt 0 U).cast (by exact congrArg (fun v=>[Value.int .i64 v]) (Zng h9k.1 h9k.2 ‹_› ‹_›).2)⟩
  refine Zj k1 (by have:=Zc; omega) U U U ?_
  exact BK.mk' _ ⟨k1 + 1,(YL d x1 (dep + 1) mm).2,G2,U,(L1.trans L2),S2,(Zq U),(by omega),(by exact Zyh h9k.1 h9k.2 ‹_› ‹_›),(by exact ZrU ‹_› ‹_›)⟩ (show l.length - (k1 + 1) < l.length - k1 by omega)
 exact RT S1 U ⟨(congrArg (Value.int .i64) (by exact (Zom h9k.1 h9k.2 (by omega)).1)),(S1.lentAt 0 U).cast (by exact congrArg (fun v=>[Value.int .i64 v]) (Zom h9k.1 h9k.2 (by omega)).2)⟩
theorem Zni {G : GH} {w : World} (hG : G.In w) (d : Nat) (l : List Cond) (dep n : Int) (hN : ZjC d) (pb : Nat) (hpb : XP w G (some (pb,(nat_lit 3),[S n]))) (vl : Value) (hvl : Sl (YQ d) 96 G vl l) (pd : Addr) (hpd : XC G pd [S dep]) (pn : Addr) (hpn : XC G pn [.pointer (some ⟨pb,0,none⟩)]) (hdep : 0 ≤ dep ∧ dep ≤ 30) (hn : 0 ≤ n ∧ n ≤ 100) : CL Tryz.prog (nat_lit 104) #[vl, .func (.func 105) #[] #[Zs pd,Zs pn]] [pb] w G fun G' w' r=>(r = .bool (!(Xl (fun x m=>YL d x (dep + 1) m) l n).1)) ∧ XP w' G' (some (pb,(nat_lit 3),[S ((Xl (fun x m=>YL d x (dep + 1) m) l n).2)])):=by
 refine Zh ft [] Tryz.func104 U U ?_
 have hdep64 : Z0 dep:=⟨by omega,by omega⟩
 have N64 : Z0 n:=⟨by omega,by omega⟩
 have hS:=St.lentO hG hpb
 refine Qe ZyR U U U (ZrV hS.imm _ l dep n hN _ (hS.lentAt 0 U) _ hvl _ hpd _ hpn (by omega) (by omega)) (fun w1 G1 r1 hres1 ⟨P1,hlc1⟩=>?_)
 have S1 : St w [pb] G G1 [some (pb,(nat_lit 3),[S ((Xl (fun x m=>YL d x (dep + 1) m) l n).2)])] w1:=hS.callX 0 U [S ((Xl (fun x m=>YL d x (dep + 1) m) l n).2)] hres1 (hlc1 _ U).1
 have L1:=hres1.le
 subst P1
 refine Yf .geq U .i64 (ZeG (fun x m=>YL d x (dep + 1) m) l n 0) 0 U U U ?_
 exact RT S1 U ⟨(congrArg Value.bool (by exact Zol (by omega))),(S1.lentAt 0 U).cast (by rfl)⟩
theorem Zuj (d : Nat) : ∀ {G : GH} {w : World} (hG : G.In w) (c : Cond) (dep n : Int) (cc : List Value) (hcc : (YQ d).rep G c cc) (pb : Nat) (hpb : XP w G (some (pb,(nat_lit 3),[S n]))) (hdep : 0 ≤ dep ∧ dep ≤ 31) (hn : 0 ≤ n ∧ n ≤ 100),CL Tryz.prog (nat_lit 47) #[.agg cc.toArray,S dep, .pointer (some ⟨pb,0,none⟩)] [pb] w G fun G' w' r=>(r = .bool ((YL d c dep n).1)) ∧ XP w' G' (some (pb,(nat_lit 3),[S ((YL d c dep n).2)])):=by
 induction d
 ·intro G w hG c dep n cc hcc pb hpb hdep hn; exact (Zcp hcc).elim
 rename_i d ih
 intro G w hG c dep n cc hcc pb hpb hdep hn
 refine Zh ft [] Tryz.func47 U U ?_
 have hdep64 : Z0 dep:=⟨by omega,by omega⟩
 have N64 : Z0 n:=⟨by omega,by omega⟩
 have hS:=St.lentO hG hpb
 obtain ⟨lv1,rfl,B1,B2,B3,B4,B5,B6,O1⟩:=Zcq hcc
 refine Zw [S c.kind,Za c.col,Za c.oth,S c.v.k,S c.v.n,Za c.v.s,lv1] _ hS U U U (fun p1 w1 G1 L1 M1 C1 S1=>?_)
 refine Zw [S dep] _ S1 U U U (fun p2 w2 G2 L2 M2 C2 S2=>?_)
 refine Zw [.pointer (some ⟨pb,0,none⟩)] _ S2 U U U (fun p3 w3 G3 L3 M3 C3 S3=>?_)
 refine Z S3 C3 Zs0 U U U <| WL.nilCheck _ U U <| Ya S3 0 _ _ _ 0 _ U U Zt U U U ?_
 have hi1 : Z0 (n + 1):=by have:=N64.1; have:=N64.2; constructor <;> omega
 refine Zb0 .add U n 1 U U U hi1 <| WL.nilCheck _ U U ?_
 refine Zi S3 0 [S (n + 1)] U U Zt U U U U U U (fun w4 S4=>?_)
 refine Z S4 C3 Zs0 U U U <| WL.nilCheck _ U U <| Ya S4 0 _ _ _ 0 _ U U Zt U U U ?_
 refine QS (n + 1) 100 U U U (fun h1=>?_) (fun h1=>?_)
 ·refine Z S4 (C2.mono L3) Zt U U U ?_
  refine QS dep 30 U U U (fun h2=>?_) (fun h2=>?_)
  ·refine Z S4 (XC.drop 6 (C1.mono (L2.trans L3))) Zfj U U U ?_
   refine Qe Zy4 U U U (Zni S4.imm _ c.l dep (n + 1) ih _ (S4.lentAt 0 U) _ (O1.mono ((L1.trans L2).trans L3)) _ (C2.mono L3) _ C3 (by omega) (by omega)) (fun w5 G4 r1 hres1 ⟨P1,hlc1⟩=>?_)
   have S5 : St w [pb] G G4 [some (pb,(nat_lit 3),[S ((Xl (fun x m=>YL d x (dep + 1) m) c.l (n + 1)).2)])] w5:=S4.callX 0 U [S ((Xl (fun x m=>YL d x (dep + 1) m) c.l (n + 1)).2)] hres1 (hlc1 _ U).1
   have L4:=hres1.le
   subst P1
   exact RT S5 U ⟨(congrArg Value.bool (by (rw [Bool.not_not]; exact congrArg Prod.fst (Znh (by omega) (by omega))))),(S5.lentAt 0 U).cast (by exact congrArg (fun v=>[Value.int .i64 v]) (congrArg Prod.snd (Znh (by omega) (by omega))))⟩
  exact RT S4 U ⟨(congrArg Value.bool (by exact (Zhd (by omega)).1)),(S4.lentAt 0 U).cast (by exact congrArg (fun v=>[Value.int .i64 v]) (Zhd (by omega)).2)⟩
 exact RT S4 U ⟨(congrArg Value.bool (by exact (Zhd (by omega)).1)),(S4.lentAt 0 U).cast (by exact congrArg (fun v=>[Value.int .i64 v]) (Zhd (by omega)).2)⟩
end Go.Civ
set_option linter.unusedVariables false
set_option linter.unusedSimpArgs false
set_option maxRecDepth 100000
set_option maxHeartbeats 4000000
namespace Go.Civ
open Go.Proofs
theorem ZrW {G : GH} {w : World} (hG : G.In w) (d : Nat) (t : Table) (tx : Int) (v : List Val) (c : Cond) (mask : List Bool) (p : Span) (ct : List Value) (hct : TableE.rep G t ct) (vv : Value) (hvv : Sl ValE 32 G vv v) (cc : List Value) (hcc : (YQ d).rep G c cc) (vm : Value) (hvm : Sl Enc.bool 1 G vm mask) (cp : List Value) (hcp : SpanE.rep G p cp) (htx64 : Z0 tx) : CL Tryz.prog (nat_lit 50) #[.agg ct.toArray, .agg (S 3 :: S tx :: vv :: cc ++ (vm :: cp)).toArray] [] w G fun G' _ r=>∃ r0 r1,r = .tuple #[r0,r1] ∧ Is TableE G' r0 (Yq d t 3 tx v c mask p) ∧ r1 = S (Xt d t 3 tx v c mask p):=by
 refine Y2 ft [] Tryz.func50 U U ?_
 have hS:=St.start (X:=[]) hG
 have T1:=Zy hct
 obtain ⟨v1,v2,v3,rfl,B1,A1,B2,A2,A3,B3⟩:=T1
 have T2:=Xo hcc
 obtain ⟨lv1,rfl,B4,B5,B6,B7,B8,B9,O1⟩:=T2
 have T3:=ZI hcp
 obtain ⟨rfl,B10,Y6⟩:=T3
 refine Zw [Za t.s.name,v1,S t.s.key,v2,v3,S t.last] _ hS U U U (fun p1 w1 G1 L1 M1 C1 S1=>?_)
 refine Zw [S 3,S tx,vv,S c.kind,Za c.col,Za c.oth,S c.v.k,S c.v.n,Za c.v.s,lv1,vm,S p.a,S p.b] _ S1 U U U (fun p2 w2 G2 L2 M2 C2 S2=>?_)
 refine WL.alloc S2 Zm U U (fun b1 w3 N1 S3=>?_)
 refine Z S3 (XC.drop 0 C2) Zt U U U ?_
 refine ZC 3 1 U U U (fun h1=>?_) (fun h1=>?_)
 ·exact absurd h1 (by decide)
 refine ZC 3 2 U U U (fun h2=>?_) (fun h2=>?_)
 ·exact absurd h2 (by decide)
 have j1:=(L1.trans L2)
 refine Zb S3 (C1.mono L2) [Za t.s.name,v1,S t.s.key,v2,v3,S t.last] Zm U U U U U <| Z S3 (XC.drop 1 C2) Zt U U U <| Zb S3 (XC.drop 3 C2) [S c.kind,Za c.col,Za c.oth,S c.v.k,S c.v.n,Za c.v.s,lv1] XI U U U U U <| Zb S3 (XC.drop 11 C2) [S p.a,S p.b] Z2 U U U U U <| Z9 S3 Zuz U U U (Zk4 S3.imm _ t tx c p _ (Zo t B1 (A1.mono j1) B2 (A2.mono j1) (A3.mono j1) B3) _ ((YQ _).mono j1 hcc) _ (Z1 p B10 Y6) htx64) ?_
 rintro w4 G3 _ ⟨r2,_,rfl,A4,rfl⟩ S4 L3
 obtain ⟨D1,rfl,R1⟩:=A4
 have T4:=Zy R1
 obtain ⟨v4,v5,v6,rfl,YU,A5,Xa,A6,A7,XF⟩:=T4
 refine Zi S4 0 [Za ((ZM d t tx c p).s.name),v4,S ((ZM d t tx c p).s.key),v5,v6,S ((ZM d t tx c p).last)] U U Zm U U (by simp only [ZA,A5.oneC,A6.oneC,A7.oneC] <;> rfl) U U U (fun w5 S5=>?_)
 exact Xr [.agg #[Za ((ZM d t tx c p).s.name),v4,S ((ZM d t tx c p).s.key),v5,v6,S ((ZM d t tx c p).last)],S (Zar d t tx c p)] S5 ⟨_,_,_,U,U,S5.loadA 0 _ _ _ 0 [Za ((ZM d t tx c p).s.name),v4,S ((ZM d t tx c p).s.key),v5,v6,S ((ZM d t tx c p).last)] U U U Zm U,⟨_,U,U⟩⟩ ⟨_,_,U,(Is.cast ⟨_,U,(Zo (ZM d t tx c p) YU A5 Xa A6 A7 XF)⟩ (by first | exact (Znj (by decide) (by decide)).1 | exact (Znj (by decide) (by decide)).2)),(congrArg (Value.int .i64) (by first | exact (Znj (by decide) (by decide)).1 | exact (Znj (by decide) (by decide)).2))⟩
end Go.Civ
