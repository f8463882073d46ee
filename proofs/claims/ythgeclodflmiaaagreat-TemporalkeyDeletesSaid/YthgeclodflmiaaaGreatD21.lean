/- Lemmas. -/
import Derived.Test.YthgeclodflmiaaaGreatD11
import Derived.Test.YthgeclodflmiaaaGreatD13
import Derived.Test.YthgeclodflmiaaaGreatD19
import Derived.Test.YthgeclodflmiaaaGreatD20
import Derived.Test.YthgeclodflmiaaaGreatProg
import Derived.KernelRfl
import Derived.WalkKit
set_option linter.unusedVariables false
set_option linter.unusedSimpArgs false
set_option maxRecDepth 100000
set_option maxHeartbeats 4000000
namespace Go.Civ
open Go.Proofs
theorem Ztn {G : GH} {w : World} (hG : G.In w) (l : List Span) (vl : Value) (hvl : Sl SpanE 16 G vl l) : CL Tryz.prog (nat_lit 188) #[vl] [] w G fun G' w' r=>∃ o,ZS SpanE 16 (nat_lit 33) G' r l o ∧ Zff w w' G' o:=by
 refine Zh ft [] Tryz.func188 U U ?_
 have hS:=St.start (X:=[]) hG
 refine Zfg hvl Xe U U U (fun h1=>?_) ?_
 ·exact RT hS U ⟨none,ZS.cast (ZS.nil _ _ _ _) (by exact Eq.symm ‹_›),fun _ h=>by cases h⟩
 refine WL.buildSlice _ [] [] hS YR U U U U (fun z hz=>by match z,hz with | [],_=>rfl) (fun b1 w1 N1 S1=>?_)
 have R1:=ZS.empty SpanE 16 33 G b1
 refine YN YR U U U R1 S1 0 U hvl (by have:=Zc; have:=hvl.bytes; have:=hvl.bound; simp only [List.length_nil,Nat.zero_add]; omega) (by have:=Zc; have:=hvl.bytes; have:=hvl.bound; simp only [List.length_nil,Nat.zero_add]; omega) U U U (fun v1 o1 w2 R2 S2=>?_)
 exact RT S2 U ⟨_,ZS.cast R2 (by rfl),S2.freshAt 0 U⟩
theorem Zmz {G : GH} {w : World} (hG : G.In w) (l : List Span) (vl : Value) (hvl : Sl SpanE 16 G vl l) (hB : ∀ s ∈ l,ZN s = true) (hl : l.length ≤ 2000) : CL Tryz.prog (nat_lit 140) #[vl] [] w G fun G' _ r=>∃ r0 r1,r = .tuple #[r0,r1] ∧ Sl SpanE 16 G' r0 (Zai l) ∧ r1 = S 0:=by
 refine Zh ft [] Tryz.func140 U U ?_
 have hS:=St.start (X:=[]) hG
 refine Zr hS Zzc U U U (Zmu hS.imm l (fun x8=>!XD x8) _ hvl 187 #[] ⟨Zzd,fun G8 w8 v8 x8 L8 hG8 hon8 hA8=>by obtain ⟨cs_x8,rfl,hr_x8⟩:=hA8; exact ZqE hG8 x8 cs_x8 hr_x8⟩) (fun w1 G1 S1 L1=>?_)
 refine WL.split (fun (h1 : (l.any (fun x8=>!XD x8)) = true)=>?_) (fun (h1 : (l.any (fun x8=>!XD x8)) = false)=>?_)
 ·exact RT S1 U ⟨_,_,U,(Sl.cast (Sl.nil SpanE 16 G1) (by exact absurd ‹_› (by rw [Zkk hB]; simp))),(congrArg (Value.int .i64) (by exact absurd ‹_› (by rw [Zkk hB]; simp)))⟩
 refine Qe Zze U U U (Ztn S1.imm l _ (hvl.mono L1)) (fun w2 G2 r1 hres1 P1=>?_)
 have S2:=S1.call hres1
 have L2:=hres1.le
 obtain ⟨o1,R1,hf1⟩:=P1
 have S3:=S1.adoptO hres1 hf1
 refine Qe Zzf U U U (ZvQ S3.imm l _ _ R1 (S3.lentAt 0 U) (fun s hs=>Zo6 (hB s hs))) (fun w3 G3 r2 hres2 P2=>?_)
 have L3:=hres2.le
 obtain ⟨rfl,l1,o2,R2,hf2,hq1⟩:=P2
 have S5:=S3.callRow 0 U hres2 R1 R2 hf2
 have V1:=R2.bound
 refine XH R2 Xe U U ?_
 have S7:=S5.pad
 refine LP.go ft [] (fun m ρ1 w1=>∃ (k1 : Nat),∃ (v1 : Value) (o3 : OB),∃ (G4 : GH),m = l1.length - k1 ∧ G3.le G4 ∧ St w [] G G4 [o3,o2] w1 ∧ ZS SpanE 16 33 G4 v1 (Yy (l1.take k1)) o3 ∧ FR ρ1 [(5,v1),(15,r1),(16,S (l1.length : Int)),(17,S (k1 : Int))] ∧ k1 ≤ l1.length) _ ⟨0,(Ze),none,G3,U,(G3.le_refl),S7,(ZS.nil SpanE 16 33 G3),(Zq U),(by omega)⟩ ?_
 rintro m ρ1 w4 ⟨k1,v1,o3,G4,rfl,L4,S6,R3,F9,f1⟩
 refine F9.set ?_
 clear F9
 have len1:=Zix (l1.take k1)
 have lent:=List.length_take_le k1 l1
 have lenp:=hq1.1.length_eq
 refine Zp (k1 : Int) (l1.length : Int) U U U (fun h2=>?_) (fun h2=>?_)
 ·refine YW (R2.mono L4) k1 (by omega) Xe Z2 U U U U (fun p1 x1 ec1 U1 R4 ra1=>?_)
  obtain ⟨rfl,B1,B2⟩:=ZI R4
  refine Zah ra1 S6 1 U Z2 U U U U ?_
  refine WL.alloc S6 Z2 U U (fun b1 w5 N1 S8=>?_)
  refine Zi S8 0 [S x1.a,S x1.b] U U Z2 U U U U U U (fun w6 S9=>?_)
  obtain ⟨G5,L5,C1,S10⟩:=S9.shutB N1
  have V2:=R3.bound
  refine XH (R3.mono L5) Xe U U ?_
  rcases Cmp.dec .gtr (((Yy (l1.take k1)).length : Nat) : Int) 0 with ⟨B3,q1⟩ | ⟨B3,q1⟩
  ·have h3 : 0 < (((Yy (l1.take k1)).length : Nat) : Int):=q1
   clear q1
   obtain ⟨p2,x2,ec2,U2,R5,ra2,W1⟩:=ZS.atP (R3.mono L5) ((Yy (l1.take k1)).length - 1) (by omega)
   obtain ⟨rfl,B4,B5⟩:=ZI R5
   rcases Cmp.dec .leq x1.a x2.b with ⟨B6,q2⟩ | ⟨B6,q2⟩
   ·have h4 : x1.a ≤ x2.b:=q2
    clear q2
    refine dr [] [(24, .bool true),(27,S x1.a),(30,S (((Yy (l1.take k1)).length - 1 : Nat) : Int)),(31,Zs p2),(33,S x2.b),(34, .bool true)] S10 ⟨fun _=>WL.cmpV .gtr U .i64 (((Yy (l1.take k1)).length : Nat) : Int) 0 _ B3 U U U <| nu U U,fun _ hSw=>Z hSw (XC.drop 0 C1) Zt U U U <| nu U U,fun _=>QR ((Yy (l1.take k1)).length) (by omega) (by have:=Zc; omega) U U U <| nu U U,fun _=>Zg ((Yy (l1.take k1)).length - 1) W1 Xe Z2 U U U U <| nu U U,fun _ hSw=>Zdf ra2 hSw 0 U 1 _ U Zt U U U <| nu U U,fun _=>WL.cmpV .leq U .i64 x1.a x2.b _ B6 U U U <| nu U U,trivial⟩ (fun w7 S11=>?_)
    obtain ⟨p3,x3,ec3,U3,R6,ra3,W2⟩:=ZS.atP (R3.mono L5) ((Yy (l1.take k1)).length - 1) (by omega)
    obtain rfl : x2 = x3:=Option.some.inj (U2.symm.trans U3)
    obtain ⟨rfl,B7,B8⟩:=ZI R6
    obtain ⟨p4,x4,ec4,U4,R7,ra4,W3⟩:=ZS.atP (R3.mono L5) ((Yy (l1.take k1)).length - 1) (by omega)
    obtain rfl : x2 = x4:=Option.some.inj (U2.symm.trans U4)
    obtain ⟨rfl,B9,B10⟩:=ZI R7
    refine dr [(14,false)] [(38,S (((Yy (l1.take k1)).length - 1 : Nat) : Int)),(41,S (((Yy (l1.take k1)).length - 1 : Nat) : Int)),(42,Zs p3),(44,S x2.b),(46,S x1.b),(47,S (max x2.b x1.b)),(48,Zs p4)] S11 ⟨fun _=>QR ((Yy (l1.take k1)).length) (by omega) (by have:=Zc; omega) U U U <| nu U U,fun _=>QR ((Yy (l1.take k1)).length) (by omega) (by have:=Zc; omega) U U U <| nu U U,fun _=>Zg ((Yy (l1.take k1)).length - 1) W2 Xe Z2 U U U U <| nu U U,fun _ hSw=>Zdf ra3 hSw 0 U 1 _ U Zt U U U <| nu U U,fun _ hSw=>Z hSw (XC.drop 1 C1) Zt U U U <| nu U U,fun _=>ZeI x2.b x1.b U U U <| nu U U,fun _=>Zg ((Yy (l1.take k1)).length - 1) W3 Xe Z2 U U U U <| nu U U,trivial⟩ (fun w9 S12=>?_)
    refine Zdg (R3.mono L5) ra4 S12 0 U (by omega) U 1 _ [S (max x2.b x1.b)] (Span.mk x2.a (max x2.b x1.b)) [S x2.a,S (max x2.b x1.b)] U Zt U (leT U) U U (Z1 (Span.mk x2.a (max x2.b x1.b)) B9 (Za1 B8 B2)) U U U (fun o4 w10 R8 S13=>?_)
    refine Zj k1 (by have:=Zc; omega) U U U ?_
    exact BK.mk' _ ⟨k1 + 1,v1,o4,G5,U,(L4.trans L5),S13,(ZS.cast R8 (by (rw [Ze2 ‹_›]; exact (Zo4 ‹_› (by omega)).symm))),(Zq U),(by omega)⟩ (show l1.length - (k1 + 1) < l1.length - k1 by omega)
   have h4 : x2.b < x1.a:=q2
   clear q2
   refine dr [] [(24, .bool true),(27,S x1.a),(30,S (((Yy (l1.take k1)).length - 1 : Nat) : Int)),(31,Zs p2),(33,S x2.b),(34, .bool false)] S10 ⟨fun _=>WL.cmpV .gtr U .i64 (((Yy (l1.take k1)).length : Nat) : Int) 0 _ B3 U U U <| nu U U,fun _ hSw=>Z hSw (XC.drop 0 C1) Zt U U U <| nu U U,fun _=>QR ((Yy (l1.take k1)).length) (by omega) (by have:=Zc; omega) U U U <| nu U U,fun _=>Zg ((Yy (l1.take k1)).length - 1) W1 Xe Z2 U U U U <| nu U U,fun _ hSw=>Zdf ra2 hSw 0 U 1 _ U Zt U U U <| nu U U,fun _=>WL.cmpV .leq U .i64 x1.a x2.b _ B6 U U U <| nu U U,trivial⟩ (fun w11 S14=>?_)
   refine Zb S14 C1 [S x1.a,S x1.b] Z2 U U U U U ?_
   refine WL.buildSlice _ [(0,[S x1.a,S x1.b])] [S x1.a,S x1.b] S14 YR U U U U (fun z hz=>by match z,hz with | [z0,z1],_=>rfl) (fun b2 w12 N2 S15=>?_)
   refine WL.push (m:=([x1] : List Span)) YR U U U (R3.mono L5) S15 1 U 0 _ _ _ _ _ U ⟨[S x1.a,S x1.b],_,U,(Z1 x1 B1 B2),U⟩ U (by have:=Zc; simp only [List.length_cons,List.length_nil]; omega) (by have:=Zc; simp only [List.length_cons,List.length_nil]; omega) U U U (fun v2 o5 w13 R9 S16=>?_)
   have S17:=S16.tail
   refine Zj k1 (by have:=Zc; omega) U U U ?_
   exact BK.mk' _ ⟨k1 + 1,v2,o5,G5,U,(L4.trans L5),S17,(ZS.cast R9 (by (rw [Ze2 ‹_›]; exact (Zns ‹_› (by omega)).symm))),(Zq U),(by omega)⟩ (show l1.length - (k1 + 1) < l1.length - k1 by omega)
  have h3 : (((Yy (l1.take k1)).length : Nat) : Int) ≤ 0:=q1
  clear q1
  refine dr [] [(24, .bool false)] S10 ⟨fun _=>WL.cmpV .gtr U .i64 (((Yy (l1.take k1)).length : Nat) : Int) 0 _ B3 U U U <| nu U U,trivial⟩ (fun w14 S18=>?_)
  refine Zb S18 C1 [S x1.a,S x1.b] Z2 U U U U U ?_
  refine WL.buildSlice _ [(0,[S x1.a,S x1.b])] [S x1.a,S x1.b] S18 YR U U U U (fun z hz=>by match z,hz with | [z0,z1],_=>rfl) (fun b3 w15 N3 S19=>?_)
  refine WL.push (m:=([x1] : List Span)) YR U U U (R3.mono L5) S19 1 U 0 _ _ _ _ _ U ⟨[S x1.a,S x1.b],_,U,(Z1 x1 B1 B2),U⟩ U (by have:=Zc; simp only [List.length_cons,List.length_nil]; omega) (by have:=Zc; simp only [List.length_cons,List.length_nil]; omega) U U U (fun v3 o6 w16 R10 S20=>?_)
  have S21:=S20.tail
  refine Zj k1 (by have:=Zc; omega) U U U ?_
  exact BK.mk' _ ⟨k1 + 1,v3,o6,G5,U,(L4.trans L5),S21,(ZS.cast R10 (by (rw [Ze2 ‹_›]; exact (Zo3 (by omega)).symm))),(Zq U),(by omega)⟩ (show l1.length - (k1 + 1) < l1.length - k1 by omega)
 obtain ⟨G6,L6,A1,S22⟩:=ZS.freeze R3 S6 0 U
 refine Z9 S22 ZuE U U U (ZiF S22.imm (Yy (l1.take k1)) _ A1 (by rw [Ziy ‹_› hB (by omega)]; exact Nat.le_trans Zgb hl)) ?_
 rintro w17 G7 _ ⟨r4,_,rfl,A2,rfl⟩ S23 L7
 exact RT S23 U ⟨_,_,U,(Sl.cast A2 (by exact Ziy ‹_› hB (by omega))),(congrArg (Value.int .i64) (by rfl))⟩
theorem Zf2 {G : GH} {w : World} (hG : G.In w) (a b : List Span) (va : Value) (hva : Sl SpanE 16 G va a) (vb : Value) (hvb : Sl SpanE 16 G vb b) : CL Tryz.prog (nat_lit 75) #[va,vb] [] w G fun _ _ r=>r = .bool (decide (a = b)):=by
 refine Zh ft [] Tryz.func75 U U ?_
 have hS:=St.start (X:=[]) hG
 have V1:=hva.bound
 refine Zl hva Xe U U ?_
 have V2:=hvb.bound
 refine Zl hvb Xe U U ?_
 refine Yr (a.length : Int) (b.length : Int) U U U (fun h1=>?_) (fun h1=>?_)
 ·exact RB hS U (by rw [← XE]; exact (Qa (by omega)).symm)
 have V3:=hva.bound
 refine Zl hva Xe U U ?_
 refine LP.go ft [] (fun m ρ1 w1=>∃ (k1 : Nat),∃ (G1 : GH),m = a.length - k1 ∧ G.le G1 ∧ St w [] G G1 [] w1 ∧ FR ρ1 [(0,va),(1,vb),(12,S (a.length : Int)),(13,S (k1 : Int))] ∧ k1 ≤ a.length ∧ ∀ j,j < k1 → ∀ x y,a[j]? = some x → b[j]? = some y → decide (x = y) = true) _ ⟨0,G,U,(G.le_refl),hS,(Zq U),(by omega),(by intro j hj; omega)⟩ ?_
 rintro m ρ1 w1 ⟨k1,G1,rfl,L1,S1,F9,f1,f2⟩
 refine F9.set ?_
 clear F9
 refine Zp (k1 : Int) (a.length : Int) U U U (fun h2=>?_) (fun h2=>?_)
 ·obtain ⟨p1,x1,U1,E1,W1⟩:=Sl.at (hva.mono L1) k1 (by omega)
  obtain ⟨D1,C1,R1⟩:=E1
  obtain ⟨rfl,B1,B2⟩:=ZI R1
  obtain ⟨p2,x2,U2,E2,W2⟩:=Sl.at (hvb.mono L1) k1 (by omega)
  obtain ⟨D2,C2,R2⟩:=E2
  obtain ⟨rfl,B3,B4⟩:=ZI R2
  rcases Classical.em (x1 = x2) with h3 | h3
  ·refine dr [] [(18,Zs p1),(19, .agg #[S x1.a,S x1.b]),(22,Zs p2),(23, .agg #[S x2.a,S x2.b]),(24, .bool false)] S1 ⟨fun _=>Zg k1 W1 Xe Z2 U U U U <| nu U U,fun _ hSw=>Zb hSw C1 [S x1.a,S x1.b] Z2 U U U U U <| nu U U,fun _=>Zg k1 W2 Xe Z2 U U U U <| nu U U,fun _ hSw=>Zb hSw C2 [S x2.a,S x2.b] Z2 U U U U U <| nu U U,fun _=>XV false (Zfn x1 x2) Zlb (by simp [h3]) U U U <| nu U U,trivial⟩ (fun w2 S2=>?_)
   refine Zj k1 (by have:=Zc; omega) U U U ?_
   exact BK.mk' _ ⟨k1 + 1,G1,U,L1,S2,(Zq U),(by omega),(by exact QT ‹_› ‹_› ‹_› (decide_eq_true (by simp_all)))⟩ (show a.length - (k1 + 1) < a.length - k1 by omega)
  refine dr [] [(18,Zs p1),(19, .agg #[S x1.a,S x1.b]),(22,Zs p2),(23, .agg #[S x2.a,S x2.b]),(24, .bool true)] S1 ⟨fun _=>Zg k1 W1 Xe Z2 U U U U <| nu U U,fun _ hSw=>Zb hSw C1 [S x1.a,S x1.b] Z2 U U U U U <| nu U U,fun _=>Zg k1 W2 Xe Z2 U U U U <| nu U U,fun _ hSw=>Zb hSw C2 [S x2.a,S x2.b] Z2 U U U U U <| nu U U,fun _=>XV true (Zfn x1 x2) Zlb (by simp [h3]) U U U <| nu U U,trivial⟩ (fun w3 S3=>?_)
  exact RB S3 U (by rw [← XE]; exact (Q6 (f:=fun (x y : Span)=>decide (x = y)) ‹_› ‹_› (decide_eq_false (by simp_all))).symm)
 exact RB S1 U (by rw [← XE]; exact (Qr (by omega) ‹_› (by omega)).symm)
theorem ZhK {G : GH} {w : World} (hG : G.In w) (l : List HRow) (tx : Int) (vl : Value) (hvl : Sl HRowE 56 G vl l) (hgood : Z8 l) (hl : l.length ≤ 2000) : CL Tryz.prog (nat_lit 87) #[vl,S tx] [] w G fun G' _ r=>Sl SpanE 16 G' r (ZH l tx):=by
 refine Zh ft [] Tryz.func87 U U ?_
 have hS:=St.start (X:=[]) hG
 have V1:=hvl.bound
 refine Zl hvl Yn U U ?_
 have S2:=hS.pad
 refine LP.go ft [] (fun m ρ1 w1=>∃ (k1 : Nat),∃ (v1 : Value) (o1 : OB),∃ (G1 : GH),m = l.length - k1 ∧ G.le G1 ∧ St w [] G G1 [o1] w1 ∧ ZS SpanE 16 33 G1 v1 (Y7 (l.take k1) tx) o1 ∧ FR ρ1 [(1,S tx),(5,v1),(10,vl),(11,S (l.length : Int)),(12,S (k1 : Int))] ∧ k1 ≤ l.length) _ ⟨0,(Ze),none,G,U,(G.le_refl),S2,(ZS.nil SpanE 16 33 G),(Zq U),(by omega)⟩ ?_
 rintro m ρ1 w1 ⟨k1,v1,o1,G1,rfl,L1,S1,R1,F9,f1⟩
 refine F9.set ?_
 clear F9
 have hsl:=Zjs l tx k1
 refine Zp (k1 : Int) (l.length : Int) U U U (fun h1=>?_) (fun h1=>?_)
 ·refine WL.indexAddr (hvl.mono L1) k1 (by omega) Yn Zz U U U U (fun p1 x1 U1 E1=>?_)
  obtain ⟨D1,C1,R2⟩:=E1
  obtain ⟨v2,rfl,A1,B1,B2,B3,B4⟩:=Z7 R2
  refine Zb S1 C1 [v2,S x1.r.d.a,S x1.r.d.b,S x1.r.x.a,S x1.r.x.b] Zz U U U U U ?_
  refine WL.alloc S1 Zz U U (fun b1 w2 N1 S3=>?_)
  refine Zi S3 0 [v2,S x1.r.d.a,S x1.r.d.b,S x1.r.x.a,S x1.r.x.b] U U Zz U U (by simp only [ZA,A1.oneC] <;> rfl) U U U (fun w3 S4=>?_)
  obtain ⟨G2,L2,C2,S5⟩:=S4.shutB N1
  refine Z S5 (XC.drop 0 (XC.drop 2 (XC.drop 1 C2))) Zt U U U ?_
  refine QS x1.r.x.a tx U U U (fun h2=>?_) (fun h2=>?_)
  ·refine Z S5 (XC.drop 1 (XC.drop 2 (XC.drop 1 C2))) Zt U U U ?_
   refine Zp tx x1.r.x.b U U U (fun h3=>?_) (fun h3=>?_)
   ·refine Zb S5 (XC.drop 0 (XC.drop 1 C2)) [S x1.r.d.a,S x1.r.d.b] Z2 U U U U U ?_
    refine WL.buildSlice _ [(0,[S x1.r.d.a,S x1.r.d.b])] [S x1.r.d.a,S x1.r.d.b] S5 YR U U U U (fun z hz=>by match z,hz with | [z0,z1],_=>rfl) (fun b2 w4 N2 S6=>?_)
    refine WL.push (m:=([x1.r.d] : List Span)) YR U U U (R1.mono L2) S6 1 U 0 _ _ _ _ _ U ⟨[S x1.r.d.a,S x1.r.d.b],_,U,(Z1 x1.r.d B1 B2),U⟩ U (by have:=Zc; simp only [List.length_cons,List.length_nil]; omega) (by have:=Zc; simp only [List.length_cons,List.length_nil]; omega) U U U (fun v3 o2 w5 R3 S7=>?_)
    have S8:=S7.tail
    refine Zj k1 (by have:=Zc; omega) U U U ?_
    exact BK.mk' _ ⟨k1 + 1,v3,o2,G2,U,(L1.trans L2),S8,(ZS.cast R3 (by (rw [Ze6 ‹_›]; unfold Xv; simp_all <;> omega))),(Zq U),(by omega)⟩ (show l.length - (k1 + 1) < l.length - k1 by omega)
   refine Zj k1 (by have:=Zc; omega) U U U ?_
   exact BK.mk' _ ⟨k1 + 1,v1,o1,G2,U,(L1.trans L2),S5,(ZS.cast (R1.mono L2) (by (rw [Ze6 ‹_›]; unfold Xv; simp_all <;> omega))),(Zq U),(by omega)⟩ (show l.length - (k1 + 1) < l.length - k1 by omega)
  refine Zj k1 (by have:=Zc; omega) U U U ?_
  exact BK.mk' _ ⟨k1 + 1,v1,o1,G2,U,(L1.trans L2),S5,(ZS.cast (R1.mono L2) (by (rw [Ze6 ‹_›]; unfold Xv; simp_all <;> omega))),(Zq U),(by omega)⟩ (show l.length - (k1 + 1) < l.length - k1 by omega)
 obtain ⟨G3,L3,A2,S9⟩:=ZS.freeze R1 S1 0 U
 refine Z9 S9 Zu4 U U U (Zmz S9.imm (Y7 (l.take k1) tx) _ A2 (by rw [List.take_of_length_le (by omega)]; exact ZbP hgood.d tx) (by rw [List.take_of_length_le (by omega)]; exact Nat.le_trans (Zfs l tx) hl)) ?_
 rintro w6 G4 _ ⟨r2,_,rfl,A3,rfl⟩ S10 L4
 exact RT S10 U (Sl.cast A3 (by rw [List.take_of_length_le (by omega)]; rfl))
end Go.Civ
namespace Go.Civ
open Go.RowKit
set_option linter.unusedVariables false
theorem Zpp {d : Nat} {c : Cond} {l : List Col} : Z0 (YE d c l):=by unfold YE; split; exact Zo0; constructor <;> decide
section
variable {d : Nat} {t : Table} {tx : Int} {c : Cond} {p : Span} {set : List Val} {mask : List Bool}
theorem ZiL (h : Qh t p = false) : Qs = ZM d t tx c p ∧ 1 = Zar d t tx c p:=by
 have : ZdT d t tx c p = 1:=by unfold ZdT; rw [h]; rfl
 unfold ZM Zar; rw [this]; exact ⟨rfl,rfl⟩
theorem Zkq (h : Qh t p = true) : ZdT d t tx c p = or2 (YE d c t.s.cols) (Xk t tx):=by unfold ZdT; rw [h]; rfl
theorem Zpq (h : Qh t p = true) (h2 : Qf [YE d c t.s.cols,Xk t tx] ≠ 0) : Qs = ZM d t tx c p ∧ Qf [YE d c t.s.cols,Xk t tx] = Zar d t tx c p:=by
 rw [Zdl] at *
 unfold ZM Zar; rw [Zkq h,if_neg h2,if_neg h2]; exact ⟨rfl,rfl⟩
theorem Zpr (h : Qh t p = true) (h2 : Qf [YE d c t.s.cols,Xk t tx] = 0) : ZQ t tx (ZeT d t tx c p) = ZM d t tx c p ∧ XT (ZeT d t tx c p) = Zar d t tx c p:=by
 rw [Zdl] at *
 unfold ZM Zar; rw [Zkq h,if_pos h2,if_pos h2]; exact ⟨rfl,rfl⟩
theorem Zhw (h : Qh t p = true) : Zu t = true ∧ ZN p = true:=by unfold Qh at h; simpa using h
theorem ZqS (h : Qh t p = true) (h2 : Qf [YE d c t.s.cols,Xk t tx] = 0) : ChgOk t tx p fun _=>none:=by
 rw [Zdl] at h2
 obtain ⟨a,b⟩:=Zhw h
 obtain ⟨e1,e2⟩:=Zlf h2
 obtain ⟨e3,e4⟩:=Zm2 e2
 exact ⟨a,b,e3,e4,fun r hr u hu=>by cases hu⟩
end
section
variable {cols : List Col} {set : List Val} {mask : List Bool} {j : Nat}
end
section
variable {t : Table} {a b : Int}
end
end Go.Civ
namespace Go.Civ
open Go.RowKit
set_option linter.unusedVariables false
def UpV (out : VV) (v : List Val) (k : Nat) : Prop:=∀ j,k ≤ j → ∀ u,out[j]? = some u → 0 < ZL cmpV u v
theorem UpV.start {out : VV} {v : List Val} : UpV out v out.length:=fun j hj u hu=>by have:=(List.getElem?_eq_some_iff.1 hu).1; omega
theorem UpV.step {out : VV} {v u : List Val} {k : Nat} (h : UpV out v k) (hu : out[k - 1]? = some u) (h1 : 0 < ZL cmpV u v) : UpV out v (k - 1):=fun j hj w hw=>by
 by_cases e : k ≤ j
 ·exact h j e w hw
 ·obtain rfl : j = k - 1:=by omega
  rw [hu] at hw; obtain rfl:=Option.some.inj hw; exact h1
theorem ZnP {out : VV} {v u : List Val} {k : Nat} (hi : ZaK out) (hu : out[k]? = some u) (h : ZL cmpV u v ≤ 0) : ∀ j,j < k → ∀ w,out[j]? = some w → ZL cmpV w v < 0:=fun j hj w hw=>by
 obtain ⟨k1,rfl⟩:=List.getElem?_eq_some_iff.1 hu
 obtain ⟨j1,rfl⟩:=List.getElem?_eq_some_iff.1 hw
 have h1:=List.pairwise_iff_getElem.1 hi j k j1 k1 hj
 by_cases e : ZL cmpV out[k] v = 0
 ·rw [(ord.eq _ _).1 e] at h1; exact h1
 ·exact ord.trans _ _ _ h1 (by omega)
theorem ZnQ {out : VV} {v u : List Val} {k : Nat} (hi : ZaK out) (hk : 0 < k) (hu : out[k - 1]? = some u) (h : ZL cmpV u v = 0) : Zbo out v = out:=
 ZoX (Nat.le_of_lt (List.getElem?_eq_some_iff.1 hu).1) (ZnP hi hu (by omega)) hu (by omega) ((ord.eq _ _).1 h)
theorem Zm4 {out : VV} {v : List Val} {k : Nat} (hi : ZaK out) (hU : UpV out v k) (hk : k ≤ out.length) (h : k = 0 ∨ ∃ u,out[k - 1]? = some u ∧ ZL cmpV u v < 0) : Zbo out v = out.take k ++ [v] ++ out.drop k:=by
 refine ZsR hk (fun j hj w hw=>?_) (fun w hw=>?_) (fun e=>?_)
 ·rcases h with h | ⟨u,hu,h⟩
  ·omega
  ·by_cases e : j = k - 1
   ·subst e; rw [hu] at hw; obtain rfl:=Option.some.inj hw; exact h
   ·exact ZnP hi hu (by omega) j (by omega) w hw
 ·have:=hU k (Nat.le_refl _) w hw; omega
 ·have:=hU k (Nat.le_refl _) v e; rw [ord.refl] at this; omega
theorem Zgu {out : VV} {v : List Val} {k : Nat} (hi : ZaK out) (hU : UpV out v k) (hk : k ≤ out.length) (h : k = 0) : (([] ++ out.take k) ++ [v]) ++ out.drop k = Zbo out v:=by rw [Zm4 hi hU hk (.inl h)]; simp
theorem ZqT {out : VV} {v u : List Val} {k : Nat} (hi : ZaK out) (hU : UpV out v k) (hk : k ≤ out.length) (hu : out[k - 1]? = some u) (h1 : ZL cmpV u v ≤ 0) (h2 : ZL cmpV u v ≠ 0) : (([] ++ out.take k) ++ [v]) ++ out.drop k = Zbo out v:=by
 rw [Zm4 hi hU hk (.inr ⟨u,hu,by omega⟩)]; simp
theorem ZqU {kind : Int} {a b : List Span} : (Yh kind a b).length ≤ 2 * (a.length + b.length):=by
 have h:=ZjU (a ++ b)
 rw [List.length_append] at h
 unfold Yh
 exact Nat.le_trans (ZjV _) (by omega)
theorem ZaO {α : Type} {l : List α} {k : Nat} (h : k < l.length) : ∃ x,l[k]? = some x:=⟨_,List.getElem?_eq_getElem h⟩
end Go.Civ
namespace Go.Civ
theorem Ztv {x y : HRow} (h0 : decide (x.v = y.v) = true) (h1 : x.r.d.a = y.r.d.a) (h2 : x.r.d.b = y.r.d.b) (h3 : x.r.x.a = y.r.x.a) (h4 : x.r.x.b = y.r.x.b) : x = y:=by
 have h0:=of_decide_eq_true h0
 obtain ⟨xv,⟨⟨x1,x2⟩,⟨x3,x4⟩⟩⟩:=x; obtain ⟨yv,⟨⟨y1,y2⟩,⟨y3,y4⟩⟩⟩:=y; simp_all
end Go.Civ
namespace Go.Civ
end Go.Civ
namespace Go.Civ
open Go.RowKit
set_option linter.unusedVariables false
def Xl (f : Cond → Int → Bool × Int) : List Cond → Int → Bool × Int
 | [],m=>(true,m)
 | x :: r,m=>if (f x m).1 then Xl f r (f x m).2 else (false,(f x m).2)
def ZeG (f : Cond → Int → Bool × Int) : List Cond → Int → Int → Int
 | [],_,_=>-1
 | x :: r,m,i=>if (f x m).1 then ZeG f r (f x m).2 (i + 1) else i
theorem Zbz {f : Cond → Int → Bool × Int} {x : Cond} {r : List Cond} {m : Int} : Xl f (x :: r) m = if (f x m).1 then Xl f r (f x m).2 else (false,(f x m).2):=rfl
theorem ZgC {f : Cond → Int → Bool × Int} {x : Cond} {r : List Cond} {m i : Int} : ZeG f (x :: r) m i = if (f x m).1 then ZeG f r (f x m).2 (i + 1) else i:=rfl
def YL : Nat → Cond → Int → Int → Bool × Int
 | 0,_,_,n=>(false,n)
 | d + 1,c,dep,n=>if n + 1 ≤ 100 ∧ dep ≤ 30 then Xl (fun x m=>YL d x (dep + 1) m) c.l (n + 1) else (false,n + 1)
section
variable {f : Cond → Int → Bool × Int} {l : List Cond} {x : Cond} {k : Nat} {n m : Int}
theorem ZhY : ∀ {a b : List Cond} {n : Int},(Xl f a n).1 = true → Xl f (a ++ b) n = Xl f b (Xl f a n).2
 | [],b,n,_=>rfl
 | y :: a,b,n,h=>by
  rw [List.cons_append]
  rw [Zbz] at h
  rw [Zbz,Zbz]
  split at h
  ·rename_i q; rw [if_pos q,if_pos q]; exact ZhY h
  ·cases h
theorem ZhZ : ∀ {a b : List Cond} {n i : Int},(Xl f a n).1 = true → ZeG f (a ++ b) n i = ZeG f b (Xl f a n).2 (i + a.length)
 | [],b,n,i,_=>by simp [Xl]
 | y :: a,b,n,i,h=>by
  rw [List.cons_append]
  rw [Zbz] at h
  rw [Zbz,ZgC]
  split at h
  ·rename_i q
   rw [if_pos q,if_pos q,ZhZ h]
   congr 1
   simp only [List.length_cons]; omega
  ·cases h
theorem Zol : ∀ {l : List Cond} {n i : Int},0 ≤ i → decide (0 ≤ ZeG f l n i) = !(Xl f l n).1
 | [],n,i,_=>rfl
 | y :: l,n,i,h=>by
  rw [ZgC,Zbz]
  by_cases q : (f y n).1 = true
  ·rw [if_pos q,if_pos q]; exact Zol (by omega)
  ·rw [if_neg q,if_neg q]; exact decide_eq_true h
theorem Zyh (h : (Xl f (l.take k) n).1 = true) (hm : m = (Xl f (l.take k) n).2) (hx : l[k]? = some x) (h2 : (!(f x m).1) = false) : (Xl f (l.take (k + 1)) n).1 = true ∧ (f x m).2 = (Xl f (l.take (k + 1)) n).2:=by
 subst hm
 have e : l.take (k + 1) = l.take k ++ [x]:=by rw [List.take_add_one,hx]; rfl
 rw [e,ZhY h]
 have h3 : (f x (Xl f (l.take k) n).2).1 = true:=by simpa using h2
 simp only [Xl]
 rw [if_pos h3]; exact ⟨rfl,rfl⟩
theorem Zng (h : (Xl f (l.take k) n).1 = true) (hm : m = (Xl f (l.take k) n).2) (hx : l[k]? = some x) (h2 : (!(f x m).1) = true) : (k : Int) = ZeG f l n 0 ∧ (f x m).2 = (Xl f l n).2:=by
 subst hm
 obtain ⟨hk,hk2⟩:=List.getElem?_eq_some_iff.1 hx
 have e : l = l.take k ++ x :: l.drop (k + 1):=by rw [← hk2,← List.drop_eq_getElem_cons hk,List.take_append_drop]
 have h3 : ¬ (f x (Xl f (l.take k) n).2).1 = true:=by simpa using h2
 have e1:=ZhZ (b:=x :: l.drop (k + 1)) (i:=0) h
 have e2:=ZhY (b:=x :: l.drop (k + 1)) h
 rw [← e] at e1 e2
 rw [e1,e2]
 rw [ZgC,Zbz,if_neg h3,if_neg h3]
 refine ⟨?_,rfl⟩
 rw [List.length_take]; omega
theorem Zom (h : (Xl f (l.take k) n).1 = true) (hm : m = (Xl f (l.take k) n).2) (hk : l.length ≤ k) : (-1 : Int) = ZeG f l n 0 ∧ m = (Xl f l n).2:=by
 rw [List.take_of_length_le hk] at h hm
 have e1:=ZhZ (b:=[]) (i:=0) h
 rw [List.append_nil] at e1
 rw [e1]; exact ⟨rfl,hm⟩
end
theorem Zon {f : Cond → Int → Bool × Int} (hf : ∀ x m,0 ≤ m → m ≤ 100 → 0 ≤ (f x m).2 ∧ (f x m).2 ≤ 101 ∧ ((f x m).1 = true → (f x m).2 ≤ 100)) : ∀ {l : List Cond} {n : Int},0 ≤ n → n ≤ 100 → 0 ≤ (Xl f l n).2 ∧ (Xl f l n).2 ≤ 101 ∧ ((Xl f l n).1 = true → (Xl f l n).2 ≤ 100)
 | [],n,h1,h2=>⟨h1,by show n ≤ 101; omega,fun _=>h2⟩
 | x :: r,n,h1,h2=>by
  obtain ⟨a,b,c⟩:=hf x n h1 h2
  unfold Xl
  split
  ·rename_i q; exact Zon hf a (c q)
  ·exact ⟨a,b,fun h=>by cases h⟩
theorem ZjB : ∀ (d : Nat) (c : Cond) (dep n : Int),0 ≤ n → n ≤ 100 → 0 ≤ (YL d c dep n).2 ∧ (YL d c dep n).2 ≤ 101 ∧ ((YL d c dep n).1 = true → (YL d c dep n).2 ≤ 100)
 | 0,c,dep,n,h1,h2=>⟨h1,by show n ≤ 101; omega,fun h=>by cases h⟩
 | d + 1,c,dep,n,h1,h2=>by
  unfold YL
  split
  ·rename_i q
   exact Zon (fun x m a b=>ZjB d x (dep + 1) m a b) (by omega) q.1
  ·exact ⟨by show 0 ≤ n + 1; omega,by show n + 1 ≤ 101; omega,fun h=>by cases h⟩
theorem ZrU {d : Nat} {c : Cond} {dep m : Int} (h1 : (!(YL d c dep m).1) = false) (h2 : 0 ≤ m ∧ m ≤ 100) : 0 ≤ (YL d c dep m).2 ∧ (YL d c dep m).2 ≤ 100:=
 ⟨(ZjB d c dep m h2.1 h2.2).1,(ZjB d c dep m h2.1 h2.2).2.2 (by simpa using h1)⟩
theorem Zhd {d : Nat} {c : Cond} {dep n : Int} (h : 100 < n + 1 ∨ 30 < dep) : false = (YL (d + 1) c dep n).1 ∧ n + 1 = (YL (d + 1) c dep n).2:=by
 unfold YL; rw [if_neg (by omega)]; exact ⟨rfl,rfl⟩
theorem Znh {d : Nat} {c : Cond} {dep n : Int} (h1 : n + 1 ≤ 100) (h2 : dep ≤ 30) : Xl (fun x m=>YL d x (dep + 1) m) c.l (n + 1) = YL (d + 1) c dep n:=by
 conv=>rhs; unfold YL
 rw [if_pos ⟨h1,h2⟩]
end Go.Civ
