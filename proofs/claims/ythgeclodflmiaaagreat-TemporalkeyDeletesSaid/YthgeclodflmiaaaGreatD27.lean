/- Lemmas. -/
import Derived.Test.YthgeclodflmiaaaGreatD13
import Derived.Test.YthgeclodflmiaaaGreatD14
import Derived.Test.YthgeclodflmiaaaGreatD16
import Derived.Test.YthgeclodflmiaaaGreatProg
import Derived.KernelRfl
import Derived.WalkKit
set_option linter.unusedVariables false
set_option linter.unusedSimpArgs false
set_option maxRecDepth 100000
set_option maxHeartbeats 4000000
namespace Go.Civ
open Go.Proofs
theorem ZmH {G : GH} {w : World} (hG : G.In w) (c : Int) : CL Tryz.prog (nat_lit 170) #[.int .u8 c] [] w G fun _ _ r=>r = .bool (ZbI c):=by
 refine Zh ft [] Tryz.func170 U U ?_
 have hS:=St.start (X:=[]) hG
 refine QB c 65 U U U (fun h1=>?_) (fun h1=>?_)
 ·refine QS c 90 U U U (fun h2=>?_) (fun h2=>?_)
  ·exact RB hS U (by unfold ZbI; simp_all [Cmp.b] <;> (first | omega | (intros; omega) | (rw [Bool.eq_iff_iff]; simp <;> omega) | (rw [Bool.eq_iff_iff]; simp_all <;> omega)))
  refine QB c 97 U U U (fun h3=>?_) (fun h3=>?_)
  ·refine Yf .leq U .u8 c 122 U U U ?_
   exact RB hS U (by unfold ZbI; simp_all [Cmp.b] <;> (omega))
  exact RB hS U (by unfold ZbI; simp_all [Cmp.b] <;> (omega))
 refine QB c 97 U U U (fun h4=>?_) (fun h4=>?_)
 ·refine Yf .leq U .u8 c 122 U U U ?_
  exact RB hS U (by unfold ZbI; simp_all [Cmp.b] <;> (omega))
 exact RB hS U (by unfold ZbI; simp_all [Cmp.b] <;> (omega))
theorem Zwf {G : GH} {w : World} (hG : G.In w) (c : Int) : CL Tryz.prog (nat_lit 171) #[.int .u8 c] [] w G fun _ _ r=>r = .bool (Zgp c):=by
 refine Zh ft [] Tryz.func171 U U ?_
 have hS:=St.start (X:=[]) hG
 refine QB c 48 U U U (fun h1=>?_) (fun h1=>?_)
 ·refine Yf .leq U .u8 c 57 U U U ?_
  exact RB hS U (by unfold Zgp; simp_all [Cmp.b] <;> (first | omega | (intros; omega) | (rw [Bool.eq_iff_iff]; simp <;> omega) | (rw [Bool.eq_iff_iff]; simp_all <;> omega)))
 exact RB hS U (by unfold Zgp; simp_all [Cmp.b] <;> (omega))
theorem ZmI {G : GH} {w : World} (hG : G.In w) (s : List UInt8) : CL Tryz.prog (nat_lit 118) #[Za s] [] w G fun _ _ r=>r = .bool (Qu s):=by
 refine Zh ft [] Tryz.func118 U U ?_
 have hS:=St.start (X:=[]) hG
 refine QN s ul9 U U ?_
 refine Zp (s.length : Int) 1 U U U (fun h1=>?_) (fun h1=>?_)
 ·exact RB hS U (by exact (Zkc (by omega)).symm)
 refine QN s ul9 U U ?_
 refine Xd (s.length : Int) 30 U U U (fun h2=>?_) (fun h2=>?_)
 ·exact RB hS U (by exact (Zkc (by omega)).symm)
 refine ZbK s 0 (by omega) ul9 U U U (fun c1 U1=>?_)
 refine Zr hS ZuC U U U (ZmH hS.imm (c1.toNat : Int)) (fun w1 G1 S1 L1=>?_)
 refine WL.split (fun (h3 : (ZbI (c1.toNat : Int)) = true)=>?_) (fun (h3 : (ZbI (c1.toNat : Int)) = false)=>?_)
 ·refine QN s ul9 U U ?_
  refine LP.go ft [] (fun m ρ1 w1=>∃ (k1 : Nat),∃ (G2 : GH),m = s.length - k1 ∧ G1.le G2 ∧ St w [] G G2 [] w1 ∧ FR ρ1 [(0,Za s),(19,S (s.length : Int)),(20,S (k1 : Int))] ∧ k1 ≤ s.length ∧ ∀ j,j < k1 → ∀ c,s[j]? = some c → ZbX c = true) _ ⟨0,G1,U,(G1.le_refl),S1,⟨U,U,U,trivial⟩,(by omega),(by intro j hj; omega)⟩ ?_
  rintro m ρ1 w2 ⟨k1,G2,rfl,L2,S2,F9,f1,f2⟩
  refine F9.set ?_
  clear F9
  refine Zp (k1 : Int) (s.length : Int) U U U (fun h4=>?_) (fun h4=>?_)
  ·refine ZbK s k1 (by omega) ul9 U U U (fun c2 U2=>?_)
   refine Zr S2 ZuC U U U (ZmH S2.imm (c2.toNat : Int)) (fun w3 G3 S3 L3=>?_)
   refine WL.split (fun (h5 : (ZbI (c2.toNat : Int)) = true)=>?_) (fun (h5 : (ZbI (c2.toNat : Int)) = false)=>?_)
   ·refine Zj k1 (by have:=Zc; omega) U U U ?_
    exact BK.mk' _ ⟨k1 + 1,G3,U,(L2.trans L3),S3,⟨U,U,U,trivial⟩,(by omega),(by exact ZW ‹_› ‹_› (by exact Zv6 ‹_›))⟩ (show s.length - (k1 + 1) < s.length - k1 by omega)
   refine ZbK s k1 (by omega) ul9 U U U (fun c3 U3=>?_)
   obtain rfl : c2 = c3:=Option.some.inj (U2.symm.trans U3)
   refine Zr S3 ZyV U U U (Zwf S3.imm (c2.toNat : Int)) (fun w4 G4 S4 L4=>?_)
   refine WL.split (fun (h6 : (Zgp (c2.toNat : Int)) = true)=>?_) (fun (h6 : (Zgp (c2.toNat : Int)) = false)=>?_)
   ·refine Zj k1 (by have:=Zc; omega) U U U ?_
    exact BK.mk' _ ⟨k1 + 1,G4,U,(L2.trans (L3.trans L4)),S4,⟨U,U,U,trivial⟩,(by omega),(by exact ZW ‹_› ‹_› (by exact Zv7 ‹_›))⟩ (show s.length - (k1 + 1) < s.length - k1 by omega)
   refine ZbK s k1 (by omega) ul9 U U U (fun c4 U4=>?_)
   obtain rfl : c2 = c4:=Option.some.inj (U2.symm.trans U4)
   refine Zr S4 ZyW U U U (Zn2 S4.imm [95,47,43,45] (c2.toNat : Int)) (fun w5 G5 S5 L5=>?_)
   refine Zp (Go.Lib.indexByte [95,47,43,45] (c2.toNat : Int).toNat.toUInt8) 0 U U U (fun h7=>?_) (fun h7=>?_)
   ·exact RB S5 U (by exact (ZsT ‹_› (ZsU ‹_› ‹_› ‹_›)).symm)
   refine Zj k1 (by have:=Zc; omega) U U U ?_
   exact BK.mk' _ ⟨k1 + 1,G5,U,(L2.trans ((L3.trans L4).trans L5)),S5,⟨U,U,U,trivial⟩,(by omega),(by exact ZW ‹_› ‹_› (by exact Zv8 ‹_›))⟩ (show s.length - (k1 + 1) < s.length - k1 by omega)
  exact RB S2 U (by exact (Zqt (by omega) (by omega) ‹_› ‹_› (Y4 ‹_› (by omega))).symm)
 exact RB S1 U (by exact (Zqs ‹_› ‹_›).symm)
theorem Zk1 {G : GH} {w : World} (hG : G.In w) (l : List (List UInt8)) (nm : List UInt8) (vl : Value) (hvl : Sl Enc.str 16 G vl l) : CL Tryz.prog (nat_lit 174) #[vl,Za nm] [] w G fun _ _ r=>r = S (Xw l nm):=by
 refine Zh ft [] Tryz.func174 U U ?_
 have hS:=St.start (X:=[]) hG
 have V1:=hvl.bound
 refine Zl hvl Xy U U ?_
 refine LP.go ft [] (fun m ρ1 w1=>∃ (k1 : Nat),∃ (G1 : GH),m = l.length - k1 ∧ G.le G1 ∧ St w [] G G1 [] w1 ∧ FR ρ1 [(0,vl),(1,Za nm),(7,S (l.length : Int)),(8,S (k1 : Int))] ∧ k1 ≤ l.length ∧ ∀ j,j < k1 → ∀ x,l[j]? = some x → decide (x = nm) = false) _ ⟨0,G,U,(G.le_refl),hS,(Zq U),(by omega),(by intro j hj; omega)⟩ ?_
 rintro m ρ1 w1 ⟨k1,G1,rfl,L1,S1,F9,f1,f2⟩
 refine F9.set ?_
 clear F9
 refine Zp (k1 : Int) (l.length : Int) U U U (fun h1=>?_) (fun h1=>?_)
 ·refine WL.indexAddr (hvl.mono L1) k1 (by omega) Xy ZF U U U U (fun p1 x1 U1 E1=>?_)
  obtain ⟨D1,C1,R1⟩:=E1
  obtain ⟨rfl,B1⟩:=R1
  refine Z S1 C1 ZF U U U <| ZJ .eql U nm x1 U U U ?_
  refine WL.split (fun h0=>?_) (fun h0=>?_)
  ·have h2 : nm = x1:=by simpa [SCmp.b] using h0
   clear h0
   exact RI S1 U (by unfold Xw; exact (QO _ ‹_› (by simp_all) ‹_›).symm)
  have h2 : nm ≠ x1:=by simpa [SCmp.b] using h0
  clear h0
  refine Zj k1 (by have:=Zc; omega) U U U ?_
  exact BK.mk' _ ⟨k1 + 1,G1,U,L1,S1,(Zq U),(by omega),(by exact ZW ‹_› ‹_› (decide_eq_false (Ne.symm ‹_›)))⟩ (show l.length - (k1 + 1) < l.length - k1 by omega)
 exact RI S1 U (by unfold Xw; exact (Q2 ‹_› (by omega)).symm)
theorem ZmJ {G : GH} {w : World} (hG : G.In w) (l : List (List UInt8)) (nm : List UInt8) (vl : Value) (hvl : Sl Enc.str 16 G vl l) : CL Tryz.prog (nat_lit 173) #[vl,Za nm] [] w G fun _ _ r=>r = .bool (l.any fun x=>decide (x = nm)):=by
 refine Zh ft [] Tryz.func173 U U ?_
 have hS:=St.start (X:=[]) hG
 refine Zr hS ZuD U U U (Zk1 hS.imm l nm _ hvl) (fun w1 G1 S1 L1=>?_)
 refine Yf .geq U .i64 (Xw l nm) 0 U U U ?_
 exact RB S1 U (by exact Zv9)
theorem ZiU {G : GH} {w : World} (hG : G.In w) (l : List (List UInt8)) (vl : Value) (hvl : Sl Enc.str 16 G vl l) : CL Tryz.prog (nat_lit 119) #[vl] [] w G fun _ _ r=>r = .bool (Zbg l):=by
 refine Zh ft [] Tryz.func119 U U ?_
 have hS:=St.start (X:=[]) hG
 have V1:=hvl.bound
 refine Zl hvl Xy U U ?_
 refine LP.go ft [] (fun m ρ1 w1=>∃ (k1 : Nat),∃ (G1 : GH),m = l.length - k1 ∧ G.le G1 ∧ St w [] G G1 [] w1 ∧ FR ρ1 [(0,vl),(5,vl),(6,S (l.length : Int)),(7,S (k1 : Int))] ∧ k1 ≤ l.length ∧ ∀ j,j < k1 → ∀ s,l[j]? = some s → Zcz l j s = true) _ ⟨0,G,U,(G.le_refl),hS,(Zq U),(by omega),(by intro j hj; omega)⟩ ?_
 rintro m ρ1 w1 ⟨k1,G1,rfl,L1,S1,F9,f1,f2⟩
 refine F9.set ?_
 clear F9
 refine Zp (k1 : Int) (l.length : Int) U U U (fun h1=>?_) (fun h1=>?_)
 ·refine WL.indexAddr (hvl.mono L1) k1 (by omega) Xy ZF U U U U (fun p1 x1 U1 E1=>?_)
  obtain ⟨D1,C1,R1⟩:=E1
  obtain ⟨rfl,B1⟩:=R1
  refine Z S1 C1 ZF U U U ?_
  refine Zr S1 ZoQ U U U (ZmI S1.imm x1) (fun w2 G2 S2 L2=>?_)
  refine WL.split (fun (h2 : (Qu x1) = true)=>?_) (fun (h2 : (Qu x1) = false)=>?_)
  ·refine Y3 (hvl.mono (L1.trans L2)) k1 (by omega) Xy ZF U U U U (fun v1 A1=>?_)
   refine Zr S2 ZyX U U U (ZmJ S2.imm (l.take k1) x1 _ A1) (fun w3 G3 S3 L3=>?_)
   refine WL.split (fun (h3 : ((l.take k1).any fun x=>decide (x = x1)) = true)=>?_) (fun (h3 : ((l.take k1).any fun x=>decide (x = x1)) = false)=>?_)
   ·exact RB S3 U (by exact (Zmm ‹_› (Zqw ‹_›)).symm)
   refine Zj k1 (by have:=Zc; omega) U U U ?_
   exact BK.mk' _ ⟨k1 + 1,G3,U,(L1.trans (L2.trans L3)),S3,(Zq U),(by omega),(by exact Zfw (P:=fun j s=>Zcz l j s = true) ‹_› ‹_› (Zqu ‹_› ‹_›))⟩ (show l.length - (k1 + 1) < l.length - k1 by omega)
  exact RB S2 U (by exact (Zmm ‹_› (Zqv ‹_›)).symm)
 exact RB S1 U (by exact (Zqx ‹_› (by omega)).symm)
theorem ZmK {G : GH} {w : World} (hG : G.In w) (l : List Col) (vl : Value) (hvl : Sl ColE 24 G vl l) : CL Tryz.prog (nat_lit 120) #[vl] [] w G fun G' _ r=>Sl Enc.str 16 G' r (l.map Col.name):=by
 refine Zh ft [] Tryz.func120 U U ?_
 have hS:=St.start (X:=[]) hG
 have V1:=hvl.bound
 refine Zl hvl Qk U U ?_
 have S2:=hS.pad
 refine LP.go ft [] (fun m ρ1 w1=>∃ (k1 : Nat),∃ (v1 : Value) (o1 : OB),∃ (G1 : GH),m = l.length - k1 ∧ G.le G1 ∧ St w [] G G1 [o1] w1 ∧ ZS Enc.str 16 9 G1 v1 ((l.take k1).map Col.name) o1 ∧ FR ρ1 [(3,v1),(6,vl),(7,S (l.length : Int)),(8,S (k1 : Int))] ∧ k1 ≤ l.length) _ ⟨0,(Ze),none,G,U,(G.le_refl),S2,(ZS.cast (ZS.nil Enc.str 16 9 G) (by simp)),(Zq U),(by omega)⟩ ?_
 rintro m ρ1 w1 ⟨k1,v1,o1,G1,rfl,L1,S1,R1,F9,f1⟩
 refine F9.set ?_
 clear F9
 have htk:=List.length_take_le k1 l
 refine Zp (k1 : Int) (l.length : Int) U U U (fun h1=>?_) (fun h1=>?_)
 ·refine WL.indexAddr (hvl.mono L1) k1 (by omega) Qk YX U U U U (fun p1 x1 U1 E1=>?_)
  obtain ⟨D1,C1,R2⟩:=E1
  obtain ⟨rfl,B1,B2⟩:=Xm R2
  refine Zb S1 C1 [Za x1.name,S x1.kind] YX U U U U U ?_
  refine WL.alloc S1 YX U U (fun b1 w2 N1 S3=>?_)
  refine Zi S3 0 [Za x1.name,S x1.kind] U U YX U U U U U U (fun w3 S4=>?_)
  obtain ⟨G2,L2,C2,S5⟩:=S4.shutB N1
  refine Z S5 (XC.drop 0 C2) ZF U U U ?_
  refine WL.buildSlice _ [(0,[Za x1.name])] [Za x1.name] S5 ZoG U U U U (fun z hz=>by match z,hz with | [z0],_=>rfl) (fun b2 w4 N2 S6=>?_)
  refine WL.push (m:=([x1.name] : List (List UInt8))) ZoG U U U (R1.mono L2) S6 1 U 0 _ _ _ _ _ U ⟨[Za x1.name],_,U,⟨U,B1⟩,U⟩ U (by have:=Zc; have hby:=(by assumption : Sl ColE 24 G _ l).bytes; have hbl:=List.length_take_le' k1 l; simp only [Zx,List.length_map]; omega) (by have:=Zc; have hby:=(by assumption : Sl ColE 24 G _ l).bytes; have hbl:=List.length_take_le' k1 l; simp only [Zx,List.length_map]; omega) U U U (fun v2 o2 w5 R3 S7=>?_)
  have S8:=S7.tail
  refine Zj k1 (by have:=Zc; omega) U U U ?_
  exact BK.mk' _ ⟨k1 + 1,v2,o2,G2,U,(L1.trans L2),S8,(ZS.cast R3 (by (rw [List.take_add_one,(by assumption : l[k1]? = some _)]; simp))),(Zq U),(by omega)⟩ (show l.length - (k1 + 1) < l.length - k1 by omega)
 obtain ⟨G3,L3,A1,S9⟩:=ZS.freeze R1 S1 0 U
 exact RT S9 U (Sl.cast A1 (by rw [List.take_of_length_le (by omega)]))
theorem Zt9 {G : GH} {w : World} (hG : G.In w) (s : Schema) (cs : List Value) (hcs : SchemaE.rep G s cs) : CL Tryz.prog (nat_lit 196) #[.agg cs.toArray] [] w G fun G' _ r=>Sl Enc.str 16 G' r (s.cols.map Col.name):=by
 refine Zh ft [] Tryz.func196 U U ?_
 have hS:=St.start (X:=[]) hG
 obtain ⟨v1,v2,rfl,B1,A1,B2,A2⟩:=YZ hcs
 refine Zw [Za s.name,v1,S s.key,v2] _ hS U U U (fun p1 w1 G1 L1 M1 C1 S1=>?_)
 refine Z S1 (XC.drop 1 C1) ZaY U U U ?_
 have V1:=A1.bound
 refine Zl (A1.mono L1) Qk U U ?_
 have S3:=S1.pad
 refine LP.go ft [] (fun m ρ1 w1=>∃ (k1 : Nat),∃ (v3 : Value) (o1 : OB),∃ (G2 : GH),m = s.cols.length - k1 ∧ G1.le G2 ∧ St w [] G G2 [o1] w1 ∧ ZS Enc.str 16 9 G2 v3 ((s.cols.take k1).map Col.name) o1 ∧ FR ρ1 [(3,v3),(7,v1),(8,S (s.cols.length : Int)),(9,S (k1 : Int))] ∧ k1 ≤ s.cols.length) _ ⟨0,(Ze),none,G1,U,(G1.le_refl),S3,(ZS.cast (ZS.nil Enc.str 16 9 G1) (by simp)),(Zq U),(by omega)⟩ ?_
 rintro m ρ1 w2 ⟨k1,v3,o1,G2,rfl,L2,S2,R1,F9,f1⟩
 refine F9.set ?_
 clear F9
 have htk:=List.length_take_le k1 s.cols
 refine Zp (k1 : Int) (s.cols.length : Int) U U U (fun h1=>?_) (fun h1=>?_)
 ·refine WL.indexAddr (A1.mono (L1.trans L2)) k1 (by omega) Qk YX U U U U (fun p2 x1 U1 E1=>?_)
  obtain ⟨D1,C2,R2⟩:=E1
  obtain ⟨rfl,B3,B4⟩:=Xm R2
  refine Zb S2 C2 [Za x1.name,S x1.kind] YX U U U U U ?_
  refine WL.alloc S2 YX U U (fun b1 w3 N1 S4=>?_)
  refine Zi S4 0 [Za x1.name,S x1.kind] U U YX U U U U U U (fun w4 S5=>?_)
  obtain ⟨G3,L3,C3,S6⟩:=S5.shutB N1
  refine Z S6 (XC.drop 0 C3) ZF U U U ?_
  refine WL.buildSlice _ [(0,[Za x1.name])] [Za x1.name] S6 ZoG U U U U (fun z hz=>by match z,hz with | [z0],_=>rfl) (fun b2 w5 N2 S7=>?_)
  refine WL.push (m:=([x1.name] : List (List UInt8))) ZoG U U U (R1.mono L3) S7 1 U 0 _ _ _ _ _ U ⟨[Za x1.name],_,U,⟨U,B3⟩,U⟩ U (by have:=Zc; have hby:=(by assumption : Sl ColE 24 G _ s.cols).bytes; have hbl:=List.length_take_le' k1 s.cols; simp only [Zx,List.length_map]; omega) (by have:=Zc; have hby:=(by assumption : Sl ColE 24 G _ s.cols).bytes; have hbl:=List.length_take_le' k1 s.cols; simp only [Zx,List.length_map]; omega) U U U (fun v4 o2 w6 R3 S8=>?_)
  have S9:=S8.tail
  refine Zj k1 (by have:=Zc; omega) U U U ?_
  exact BK.mk' _ ⟨k1 + 1,v4,o2,G3,U,(L2.trans L3),S9,(ZS.cast R3 (by (rw [List.take_add_one,(by assumption : s.cols[k1]? = some _)]; simp))),(Zq U),(by omega)⟩ (show s.cols.length - (k1 + 1) < s.cols.length - k1 by omega)
 obtain ⟨G4,L4,A3,S10⟩:=ZS.freeze R1 S2 0 U
 exact RT S10 U (Sl.cast A3 (by rw [List.take_of_length_le (by omega)]))
theorem ZdW {G : GH} {w : World} (hG : G.In w) (s : Schema) (nm : List UInt8) (cs : List Value) (hcs : SchemaE.rep G s cs) : CL Tryz.prog (nat_lit 121) #[.agg cs.toArray,Za nm] [] w G fun _ _ r=>r = S (Xw (s.cols.map Col.name) nm):=by
 refine Zh ft [] Tryz.func121 U U ?_
 have hS:=St.start (X:=[]) hG
 obtain ⟨v1,v2,rfl,B1,A1,B2,A2⟩:=YZ hcs
 refine Zw [Za s.name,v1,S s.key,v2] _ hS U U U (fun p1 w1 G1 L1 M1 C1 S1=>?_)
 refine Z S1 (XC.drop 1 C1) ZaY U U U ?_
 refine Z9 S1 Zu2 U U U (ZmK S1.imm s.cols _ (A1.mono L1)) (fun w2 G2 r1 P1 S2 L2=>?_)
 refine Zr S2 ZuD U U U (Zk1 S2.imm (s.cols.map Col.name) nm _ P1) (fun w3 G3 S3 L3=>?_)
 exact RI S3 U (by rfl)
theorem ZhQ {G : GH} {w : World} (hG : G.In w) (s : Schema) (cs : List Value) (hcs : SchemaE.rep G s cs) : CL Tryz.prog (nat_lit 62) #[.agg cs.toArray] [] w G fun _ _ r=>r = .bool (YB s):=by
 refine Zh ft [] Tryz.func62 U U ?_
 have hS:=St.start (X:=[]) hG
 obtain ⟨v1,v2,rfl,B1,A1,B2,A2⟩:=YZ hcs
 refine Zw [Za s.name,v1,S s.key,v2] _ hS U U U (fun p1 w1 G1 L1 M1 C1 S1=>?_)
 refine Z S1 (XC.drop 1 C1) ZaY U U U ?_
 have V1:=A1.bound
 refine Zl (A1.mono L1) Qk U U <| Z S1 (XC.drop 0 C1) ZF U U U ?_
 refine Zr S1 ZoQ U U U (ZmI S1.imm s.name) (fun w2 G2 S2 L2=>?_)
 refine WL.split (fun (h1 : (Qu s.name) = true)=>?_) (fun (h1 : (Qu s.name) = false)=>?_)
 ·refine Zp (s.cols.length : Int) 1 U U U (fun h2=>?_) (fun h2=>?_)
  ·exact RB S2 U (by first | exact (XZ hA (Y4 ‹_› (by omega)) (Y4 ‹_› (by omega))).symm | exact (XJ ‹_› (by omega)).symm | exact (ZD ‹_› (Qy ‹_›)).symm | exact (ZD ‹_› (Qz (by omega))).symm | exact (ZD ‹_› (Q0 ‹_›)).symm | exact (ZD ‹_› (Q1 ‹_› ‹_›)).symm | exact (QW (by unfold Qx; simp_all [Cmp.b] <;> (first | omega | (intros; omega) | (rw [Bool.eq_iff_iff]; simp <;> omega) | (rw [Bool.eq_iff_iff]; simp_all <;> omega)))).symm)
  refine Xd (s.cols.length : Int) 8 U U U (fun h3=>?_) (fun h3=>?_)
  ·exact RB S2 U (by first | exact (XZ hA (Y4 ‹_› (by omega)) (Y4 ‹_› (by omega))).symm | exact (XJ ‹_› (by omega)).symm | exact (ZD ‹_› (Qy ‹_›)).symm | exact (ZD ‹_› (Qz (by omega))).symm | exact (ZD ‹_› (Q0 ‹_›)).symm | exact (ZD ‹_› (Q1 ‹_› ‹_›)).symm | exact (QW (by unfold Qx; simp_all [Cmp.b] <;> (first | omega | (intros; omega) | (rw [Bool.eq_iff_iff]; simp <;> omega) | (rw [Bool.eq_iff_iff]; simp_all <;> omega)))).symm)
  refine Z S2 (XC.drop 2 (C1.mono L2)) Zt U U U ?_
  refine Zp s.key 1 U U U (fun h4=>?_) (fun h4=>?_)
  ·exact RB S2 U (by first | exact (XZ hA (Y4 ‹_› (by omega)) (Y4 ‹_› (by omega))).symm | exact (XJ ‹_› (by omega)).symm | exact (ZD ‹_› (Qy ‹_›)).symm | exact (ZD ‹_› (Qz (by omega))).symm | exact (ZD ‹_› (Q0 ‹_›)).symm | exact (ZD ‹_› (Q1 ‹_› ‹_›)).symm | exact (QW (by unfold Qx; simp_all [Cmp.b] <;> (first | omega | (intros; omega) | (rw [Bool.eq_iff_iff]; simp <;> omega) | (rw [Bool.eq_iff_iff]; simp_all <;> omega)))).symm)
  refine Z S2 (XC.drop 2 (C1.mono L2)) Zt U U U ?_
  refine Xd s.key (s.cols.length : Int) U U U (fun h5=>?_) (fun h5=>?_)
  ·exact RB S2 U (by first | exact (XZ hA (Y4 ‹_› (by omega)) (Y4 ‹_› (by omega))).symm | exact (XJ ‹_› (by omega)).symm | exact (ZD ‹_› (Qy ‹_›)).symm | exact (ZD ‹_› (Qz (by omega))).symm | exact (ZD ‹_› (Q0 ‹_›)).symm | exact (ZD ‹_› (Q1 ‹_› ‹_›)).symm | exact (QW (by unfold Qx; simp_all [Cmp.b] <;> (first | omega | (intros; omega) | (rw [Bool.eq_iff_iff]; simp <;> omega) | (rw [Bool.eq_iff_iff]; simp_all <;> omega)))).symm)
  refine Z S2 (XC.drop 3 (C1.mono L2)) ZcK U U U ?_
  have V2:=A2.bound
  have j1:=(L1.trans L2)
  refine Zl (A2.mono j1) ZaZ U U ?_
  refine Xd (s.fks.length : Int) 8 U U U (fun h6=>?_) (fun h6=>?_)
  ·exact RB S2 U (by first | exact (XZ hA (Y4 ‹_› (by omega)) (Y4 ‹_› (by omega))).symm | exact (XJ ‹_› (by omega)).symm | exact (ZD ‹_› (Qy ‹_›)).symm | exact (ZD ‹_› (Qz (by omega))).symm | exact (ZD ‹_› (Q0 ‹_›)).symm | exact (ZD ‹_› (Q1 ‹_› ‹_›)).symm | exact (QW (by unfold Qx; simp_all [Cmp.b] <;> (first | omega | (intros; omega) | (rw [Bool.eq_iff_iff]; simp <;> omega) | (rw [Bool.eq_iff_iff]; simp_all <;> omega)))).symm)
  refine Z S2 (XC.drop 1 (C1.mono L2)) ZaY U U U ?_
  refine Z9 S2 Zu2 U U U (ZmK S2.imm s.cols _ (A1.mono j1)) (fun w3 G3 r1 P1 S3 L3=>?_)
  refine Zr S3 Zu1 U U U (ZiU S3.imm (s.cols.map Col.name) _ P1) (fun w4 G4 S4 L4=>?_)
  refine WL.split (fun (h7 : (Zbg (s.cols.map Col.name)) = true)=>?_) (fun (h7 : (Zbg (s.cols.map Col.name)) = false)=>?_)
  ·have hA : Qx s = true:=by unfold Qx; simp_all [Cmp.b] <;> (omega)
   have j2:=((L2.trans L3).trans L4)
   refine Z S4 (XC.drop 1 (C1.mono j2)) ZaY U U U ?_
   have V3:=A1.bound
   have j3:=((j1.trans L3).trans L4)
   refine Zl (A1.mono j3) Qk U U ?_
   refine LP.go ft [] (fun m ρ1 w1=>∃ (k1 : Nat),∃ (G5 : GH),m = s.cols.length - k1 ∧ G4.le G5 ∧ St w [] G G5 [] w1 ∧ FR ρ1 [(1,Zs p1),(50,v1),(51,S (s.cols.length : Int)),(52,S (k1 : Int))] ∧ k1 ≤ s.cols.length ∧ ∀ j,j < k1 → ∀ x,s.cols[j]? = some x → Zfx x = true) _ ⟨0,G4,U,(G4.le_refl),S4,(Zq U),(by omega),(by intro j hj; omega)⟩ ?_
   rintro m ρ1 w5 ⟨k1,G5,rfl,L5,S5,F9,f1,f2⟩
   refine F9.set ?_
   clear F9
   refine Zp (k1 : Int) (s.cols.length : Int) U U U (fun h8=>?_) (fun h8=>?_)
   ·refine WL.indexAddr (A1.mono (j3.trans L5)) k1 (by omega) Qk YX U U U U (fun p2 x1 U1 E1=>?_)
    obtain ⟨D1,C2,R1⟩:=E1
    obtain ⟨rfl,B3,B4⟩:=Xm R1
    refine Zb S5 C2 [Za x1.name,S x1.kind] YX U U U U U ?_
    refine WL.alloc S5 YX U U (fun b1 w6 N1 S6=>?_)
    refine Zi S6 0 [Za x1.name,S x1.kind] U U YX U U U U U U (fun w7 S7=>?_)
    obtain ⟨G6,L6,C3,S8⟩:=S7.shutB N1
    refine Z S8 (XC.drop 1 C3) Zt U U U ?_
    refine Zp x1.kind 1 U U U (fun h9=>?_) (fun h9=>?_)
    ·exact RB S8 U (by first | exact (XZ hA (Y4 ‹_› (by omega)) (Y4 ‹_› (by omega))).symm | exact (XJ ‹_› (by omega)).symm | exact (ZD ‹_› (Qy ‹_›)).symm | exact (ZD ‹_› (Qz (by omega))).symm | exact (ZD ‹_› (Q0 ‹_›)).symm | exact (ZD ‹_› (Q1 ‹_› ‹_›)).symm | exact (QW (by unfold Qx; simp_all [Cmp.b] <;> (first | omega | (intros; omega) | (rw [Bool.eq_iff_iff]; simp <;> omega) | (rw [Bool.eq_iff_iff]; simp_all <;> omega)))).symm)
    refine Z S8 (XC.drop 1 C3) Zt U U U ?_
    refine Xd x1.kind 4 U U U (fun h10=>?_) (fun h10=>?_)
    ·exact RB S8 U (by first | exact (XZ hA (Y4 ‹_› (by omega)) (Y4 ‹_› (by omega))).symm | exact (XJ ‹_› (by omega)).symm | exact (ZD ‹_› (Qy ‹_›)).symm | exact (ZD ‹_› (Qz (by omega))).symm | exact (ZD ‹_› (Q0 ‹_›)).symm | exact (ZD ‹_› (Q1 ‹_› ‹_›)).symm | exact (QW (by unfold Qx; simp_all [Cmp.b] <;> (first | omega | (intros; omega) | (rw [Bool.eq_iff_iff]; simp <;> omega) | (rw [Bool.eq_iff_iff]; simp_all <;> omega)))).symm)
    refine Zj k1 (by have:=Zc; omega) U U U ?_
    exact BK.mk' _ ⟨k1 + 1,G6,U,(L5.trans L6),S8,(Zq U),(by omega),(by exact ZW ‹_› ‹_› (Zqy (by omega) (by omega)))⟩ (show s.cols.length - (k1 + 1) < s.cols.length - k1 by omega)
   refine Z S5 (XC.drop 3 (C1.mono (j2.trans L5))) ZcK U U U ?_
   have V4:=A2.bound
   refine Zl (A2.mono (j3.trans L5)) ZaZ U U ?_
   refine LP.go ft [] (fun m ρ1 w1=>∃ (k2 : Nat),∃ (G7 : GH),m = s.fks.length - k2 ∧ G5.le G7 ∧ St w [] G G7 [] w1 ∧ FR ρ1 [(1,Zs p1),(66,v2),(67,S (s.fks.length : Int)),(68,S (k2 : Int))] ∧ k2 ≤ s.fks.length ∧ ∀ j,j < k2 → ∀ x,s.fks[j]? = some x → fkB s x = true) _ ⟨0,G5,U,(G5.le_refl),S5,(Zq U),(by omega),(by intro j hj; omega)⟩ ?_
   rintro m ρ1 w9 ⟨k2,G7,rfl,L7,S9,F9,f3,f4⟩
   refine F9.set ?_
   clear F9
   refine Zp (k2 : Int) (s.fks.length : Int) U U U (fun h11=>?_) (fun h11=>?_)
   ·refine WL.indexAddr (A2.mono ((j3.trans L5).trans L7)) k2 (by omega) ZaZ Qj U U U U (fun p3 x2 U2 E2=>?_)
    obtain ⟨D2,C4,R2⟩:=E2
    obtain ⟨v3,rfl,A3,B5⟩:=Xg R2
    refine Zb S9 C4 [v3,Za x2.table] Qj U U U U U ?_
    refine WL.alloc S9 Qj U U (fun b2 w10 N2 S10=>?_)
    refine Zi S10 0 [v3,Za x2.table] U U Qj U U (by simp only [ZA,A3.oneC] <;> rfl) U U U (fun w11 S11=>?_)
    obtain ⟨G9,L9,C5,S12⟩:=S11.shutB N2
    refine Z S12 (XC.drop 1 C5) ZF U U U ?_
    refine Zr S12 ZoQ U U U (ZmI S12.imm x2.table) (fun w12 G10 S13 L10=>?_)
    refine WL.split (fun (h12 : (Qu x2.table) = true)=>?_) (fun (h12 : (Qu x2.table) = false)=>?_)
    ·refine Z S13 (XC.drop 0 (C5.mono L10)) ZaH U U U ?_
     have V5:=A3.bound
     refine Zl (A3.mono (L9.trans L10)) Xy U U ?_
     refine Zp (x2.cols.length : Int) 1 U U U (fun h13=>?_) (fun h13=>?_)
     ·exact RB S13 U (by first | exact (XZ hA (Y4 ‹_› (by omega)) (Y4 ‹_› (by omega))).symm | exact (XJ ‹_› (by omega)).symm | exact (ZD ‹_› (Qy ‹_›)).symm | exact (ZD ‹_› (Qz (by omega))).symm | exact (ZD ‹_› (Q0 ‹_›)).symm | exact (ZD ‹_› (Q1 ‹_› ‹_›)).symm | exact (QW (by unfold Qx; simp_all [Cmp.b] <;> (first | omega | (intros; omega) | (rw [Bool.eq_iff_iff]; simp <;> omega) | (rw [Bool.eq_iff_iff]; simp_all <;> omega)))).symm)
     refine Z S13 (XC.drop 0 (C5.mono L10)) ZaH U U U ?_
     have V6:=A3.bound
     refine Zl (A3.mono (L9.trans L10)) Xy U U ?_
     refine Xd (x2.cols.length : Int) 8 U U U (fun h14=>?_) (fun h14=>?_)
     ·exact RB S13 U (by first | exact (XZ hA (Y4 ‹_› (by omega)) (Y4 ‹_› (by omega))).symm | exact (XJ ‹_› (by omega)).symm | exact (ZD ‹_› (Qy ‹_›)).symm | exact (ZD ‹_› (Qz (by omega))).symm | exact (ZD ‹_› (Q0 ‹_›)).symm | exact (ZD ‹_› (Q1 ‹_› ‹_›)).symm | exact (QW (by unfold Qx; simp_all [Cmp.b] <;> (first | omega | (intros; omega) | (rw [Bool.eq_iff_iff]; simp <;> omega) | (rw [Bool.eq_iff_iff]; simp_all <;> omega)))).symm)
     refine Z S13 (XC.drop 0 (C5.mono L10)) ZaH U U U ?_
     refine Zr S13 Zu1 U U U (ZiU S13.imm x2.cols _ (A3.mono (L9.trans L10))) (fun w13 G11 S14 L11=>?_)
     refine WL.split (fun (h15 : (Zbg x2.cols) = true)=>?_) (fun (h15 : (Zbg x2.cols) = false)=>?_)
     ·refine Z S14 (XC.drop 0 (C5.mono (L10.trans L11))) ZaH U U U ?_
      have V7:=A3.bound
      refine Zl (A3.mono ((L9.trans L10).trans L11)) Xy U U ?_
      refine LP.go ft [] (fun m ρ1 w1=>∃ (k3 : Nat),∃ (G12 : GH),m = x2.cols.length - k3 ∧ G11.le G12 ∧ St w [] G G12 [] w1 ∧ FR ρ1 [(1,Zs p1),(66,v2),(67,S (s.fks.length : Int)),(68,S (k2 : Int)),(95,v3),(96,S (x2.cols.length : Int)),(97,S (k3 : Int))] ∧ k3 ≤ x2.cols.length ∧ ∀ j,j < k3 → ∀ x,x2.cols[j]? = some x → decide (0 ≤ Xw (s.cols.map Col.name) x) = true) _ ⟨0,G11,U,(G11.le_refl),S14,(Zq U),(by omega),(by intro j hj; omega)⟩ ?_
      rintro m ρ1 w14 ⟨k3,G12,rfl,L12,S15,F9,f5,f6⟩
      refine F9.set ?_
      clear F9
      refine Zp (k3 : Int) (x2.cols.length : Int) U U U (fun h16=>?_) (fun h16=>?_)
      ·refine WL.indexAddr (A3.mono (((L9.trans L10).trans L11).trans L12)) k3 (by omega) Xy ZF U U U U (fun p4 x3 U3 E3=>?_)
       obtain ⟨D3,C6,R3⟩:=E3
       obtain ⟨rfl,B6⟩:=R3
       refine Z S15 C6 ZF U U U <| Zb S15 (C1.mono ((((((((L2.trans L3).trans L4).trans L5).trans L7).trans L9).trans L10).trans L11).trans L12)) [Za s.name,v1,S s.key,v2] Qo U U U U U ?_
       refine Zr S15 Zi0 U U U (ZdW S15.imm s x3 _ (Yo s B1 (A1.mono (((((((((L1.trans L2).trans L3).trans L4).trans L5).trans L7).trans L9).trans L10).trans L11).trans L12)) B2 (A2.mono (((((((((L1.trans L2).trans L3).trans L4).trans L5).trans L7).trans L9).trans L10).trans L11).trans L12)))) (fun w15 G13 S16 L13=>?_)
       refine Zp (Xw (s.cols.map Col.name) x3) 0 U U U (fun h17=>?_) (fun h17=>?_)
       ·exact RB S16 U (by first | exact (XZ hA (Y4 ‹_› (by omega)) (Y4 ‹_› (by omega))).symm | exact (XJ ‹_› (by omega)).symm | exact (ZD ‹_› (Qy ‹_›)).symm | exact (ZD ‹_› (Qz (by omega))).symm | exact (ZD ‹_› (Q0 ‹_›)).symm | exact (ZD ‹_› (Q1 ‹_› ‹_›)).symm | exact (QW (by unfold Qx; simp_all [Cmp.b] <;> (first | omega | (intros; omega) | (rw [Bool.eq_iff_iff]; simp <;> omega) | (rw [Bool.eq_iff_iff]; simp_all <;> omega)))).symm)
       refine Zj k3 (by have:=Zc; omega) U U U ?_
       exact BK.mk' _ ⟨k3 + 1,G13,U,(L12.trans L13),S16,(Zq U),(by omega),(by exact ZW ‹_› ‹_› (decide_eq_true ‹_›))⟩ (show x2.cols.length - (k3 + 1) < x2.cols.length - k3 by omega)
      refine Zj k2 (by have:=Zc; omega) U U U ?_
      exact BK.mk' _ ⟨k2 + 1,G12,U,(L7.trans (((L9.trans L10).trans L11).trans L12)),S15,(Zq U),(by omega),(by exact ZW ‹_› ‹_› (ZvA ‹_› (by omega) (by omega) ‹_› (Y4 ‹_› (by omega))))⟩ (show s.fks.length - (k2 + 1) < s.fks.length - k2 by omega)
     exact RB S14 U (by first | exact (XZ hA (Y4 ‹_› (by omega)) (Y4 ‹_› (by omega))).symm | exact (XJ ‹_› (by omega)).symm | exact (ZD ‹_› (Qy ‹_›)).symm | exact (ZD ‹_› (Qz (by omega))).symm | exact (ZD ‹_› (Q0 ‹_›)).symm | exact (ZD ‹_› (Q1 ‹_› ‹_›)).symm | exact (QW (by unfold Qx; simp_all [Cmp.b] <;> (first | omega | (intros; omega) | (rw [Bool.eq_iff_iff]; simp <;> omega) | (rw [Bool.eq_iff_iff]; simp_all <;> omega)))).symm)
    exact RB S13 U (by first | exact (XZ hA (Y4 ‹_› (by omega)) (Y4 ‹_› (by omega))).symm | exact (XJ ‹_› (by omega)).symm | exact (ZD ‹_› (Qy ‹_›)).symm | exact (ZD ‹_› (Qz (by omega))).symm | exact (ZD ‹_› (Q0 ‹_›)).symm | exact (ZD ‹_› (Q1 ‹_› ‹_›)).symm | exact (QW (by unfold Qx; simp_all [Cmp.b] <;> (first | omega | (intros; omega) | (rw [Bool.eq_iff_iff]; simp <;> omega) | (rw [Bool.eq_iff_iff]; simp_all <;> omega)))).symm)
   exact RB S9 U (by first | exact (XZ hA (Y4 ‹_› (by omega)) (Y4 ‹_› (by omega))).symm | exact (XJ ‹_› (by omega)).symm | exact (ZD ‹_› (Qy ‹_›)).symm | exact (ZD ‹_› (Qz (by omega))).symm | exact (ZD ‹_› (Q0 ‹_›)).symm | exact (ZD ‹_› (Q1 ‹_› ‹_›)).symm | exact (QW (by unfold Qx; simp_all [Cmp.b] <;> (first | omega | (intros; omega) | (rw [Bool.eq_iff_iff]; simp <;> omega) | (rw [Bool.eq_iff_iff]; simp_all <;> omega)))).symm)
  exact RB S4 U (by first | exact (XZ hA (Y4 ‹_› (by omega)) (Y4 ‹_› (by omega))).symm | exact (XJ ‹_› (by omega)).symm | exact (ZD ‹_› (Qy ‹_›)).symm | exact (ZD ‹_› (Qz (by omega))).symm | exact (ZD ‹_› (Q0 ‹_›)).symm | exact (ZD ‹_› (Q1 ‹_› ‹_›)).symm | exact (QW (by unfold Qx; simp_all [Cmp.b] <;> (first | omega | (intros; omega) | (rw [Bool.eq_iff_iff]; simp <;> omega) | (rw [Bool.eq_iff_iff]; simp_all <;> omega)))).symm)
 exact RB S2 U (by first | exact (XZ hA (Y4 ‹_› (by omega)) (Y4 ‹_› (by omega))).symm | exact (XJ ‹_› (by omega)).symm | exact (ZD ‹_› (Qy ‹_›)).symm | exact (ZD ‹_› (Qz (by omega))).symm | exact (ZD ‹_› (Q0 ‹_›)).symm | exact (ZD ‹_› (Q1 ‹_› ‹_›)).symm | exact (QW (by unfold Qx; simp_all [Cmp.b] <;> (first | omega | (intros; omega) | (rw [Bool.eq_iff_iff]; simp <;> omega) | (rw [Bool.eq_iff_iff]; simp_all <;> omega)))).symm)
theorem Zwg {G : GH} {w : World} (hG : G.In w) (x : Val) (cx : List Value) (hcx : ValE.rep G x cx) : CL Tryz.prog (nat_lit 123) #[.agg cx.toArray] [] w G fun _ _ r=>r = .bool (!Z4 x):=by
 refine Zh ft [] Tryz.func123 U U ?_
 have hS:=St.start (X:=[]) hG
 obtain ⟨rfl,B1,B2,B3⟩:=Yj hcx
 refine Zw [S x.k,S x.n,Za x.s] _ hS U U U (fun p1 w1 G1 L1 M1 C1 S1=>?_)
 refine Zb S1 C1 [S x.k,S x.n,Za x.s] Z6 U U U U U ?_
 refine Zr S1 Zcx U U U (QV S1.imm x _ (YP x B1 B2 B3)) (fun w2 G2 S2 L2=>?_)
 exact RB S2 U (by rfl)
theorem Zwh {G : GH} {w : World} (hG : G.In w) (c : Col) (x : Val) (cc : List Value) (hcc : ColE.rep G c cc) (cx : List Value) (hcx : ValE.rep G x cx) : CL Tryz.prog (nat_lit 126) #[.agg cc.toArray, .agg cx.toArray] [] w G fun _ _ r=>r = .bool (decide (c.kind = x.k)):=by
 refine Zh ft [] Tryz.func126 U U ?_
 have hS:=St.start (X:=[]) hG
 obtain ⟨rfl,B1,B2⟩:=Xm hcc
 obtain ⟨rfl,B3,B4,B5⟩:=Yj hcx
 refine Zw [Za c.name,S c.kind] _ hS U U U (fun p1 w1 G1 L1 M1 C1 S1=>?_)
 refine Zw [S x.k,S x.n,Za x.s] _ S1 U U U (fun p2 w2 G2 L2 M2 C2 S2=>?_)
 refine Z S2 (XC.drop 1 (C1.mono L2)) Zt U U U <| Z S2 (XC.drop 0 C2) Zt U U U <| Yf .eql U .i64 c.kind x.k U U U ?_
 exact RB S2 U (by rfl)
theorem Zrj {G : GH} {w : World} (hG : G.In w) (a : List Col) (b : List Val) (pf : Col → Val → Bool) (va : Value) (hva : Sl ColE 24 G va a) (vb : Value) (hvb : Sl ValE 32 G vb b) (fid : Nat) (fcap : Array Value) (hf : FnB2 Tryz.prog (Is ColE) (Is ValE) fid fcap G (fun x y=>x ∈ a ∧ y ∈ b) pf) : CL Tryz.prog (nat_lit 125) #[va,vb, .func (.func fid) #[] fcap] [] w G fun _ _ r=>r = .bool (eqF pf a b):=by
 refine Zh ft [] Tryz.func125 U U ?_
 have hS:=St.start (X:=[]) hG
 have V1:=hva.bound
 refine Zl hva Qk U U ?_
 have V2:=hvb.bound
 refine Zl hvb Yv U U ?_
 refine Yr (a.length : Int) (b.length : Int) U U U (fun h1=>?_) (fun h1=>?_)
 ·exact RB hS U (by exact (Qa (by omega)).symm)
 have V3:=hva.bound
 refine Zl hva Qk U U ?_
 refine LP.go ft [] (fun m ρ1 w1=>∃ (k1 : Nat),∃ (G1 : GH),m = a.length - k1 ∧ G.le G1 ∧ St w [] G G1 [] w1 ∧ FR ρ1 [(1,vb),(2, .func (.func fid) #[] fcap),(15,va),(16,S (a.length : Int)),(17,S (k1 : Int))] ∧ k1 ≤ a.length ∧ ∀ j,j < k1 → ∀ x y,a[j]? = some x → b[j]? = some y → pf x y = true) _ ⟨0,G,U,(G.le_refl),hS,(Zq U),(by omega),(by intro j hj; omega)⟩ ?_
 rintro m ρ1 w1 ⟨k1,G1,rfl,L1,S1,F9,f1,f2⟩
 refine F9.set ?_
 clear F9
 refine Zp (k1 : Int) (a.length : Int) U U U (fun h2=>?_) (fun h2=>?_)
 ·refine WL.indexAddr (hva.mono L1) k1 (by omega) Qk YX U U U U (fun p1 x1 U1 E1=>?_)
  obtain ⟨D1,C1,R1⟩:=E1
  obtain ⟨rfl,B1,B2⟩:=Xm R1
  refine Zb S1 C1 [Za x1.name,S x1.kind] YX U U U U U ?_
  refine WL.alloc S1 YX U U (fun b1 w2 N1 S2=>?_)
  refine Zi S2 0 [Za x1.name,S x1.kind] U U YX U U U U U U (fun w3 S3=>?_)
  obtain ⟨G2,L2,C2,S4⟩:=S3.shutB N1
  refine WL.indexAddr (hvb.mono (L1.trans L2)) k1 (by omega) Yv Z6 U U U U (fun p2 x2 U2 E2=>?_)
  obtain ⟨D2,C3,R2⟩:=E2
  obtain ⟨rfl,B3,B4,B5⟩:=Yj R2
  refine Zb S4 C3 [S x2.k,S x2.n,Za x2.s] Z6 U U U U U ?_
  refine WL.alloc S4 Z6 U U (fun b2 w4 N2 S5=>?_)
  refine Zi S5 0 [S x2.k,S x2.n,Za x2.s] U U Z6 U U U U U U (fun w5 S6=>?_)
  obtain ⟨G3,L3,C4,S7⟩:=S6.shutB N2
  refine Zb S7 (C2.mono L3) [Za x1.name,S x1.kind] YX U U U U U <| Zb S7 C4 [S x2.k,S x2.n,Za x2.s] Z6 U U U U U ?_
  refine Zr S7 hf.body U U U (hf.call _ _ (.agg #[Za x1.name,S x1.kind]) (.agg #[S x2.k,S x2.n,Za x2.s]) x1 x2 ((L1.trans L2).trans L3) S7.imm ⟨(List.mem_of_getElem? U1),(List.mem_of_getElem? U2)⟩ ⟨_,U,(ZeJ x1 B1 B2)⟩ ⟨_,U,(YP x2 B3 B4 B5)⟩) (fun w6 G4 S8 L4=>?_)
  refine WL.split (fun (h3 : (pf x1 x2) = true)=>?_) (fun (h3 : (pf x1 x2) = false)=>?_)
  ·refine Zj k1 (by have:=Zc; omega) U U U ?_
   exact BK.mk' _ ⟨k1 + 1,G4,U,(L1.trans ((L2.trans L3).trans L4)),S8,(Zq U),(by omega),(by exact QT ‹_› ‹_› ‹_› (by simp_all))⟩ (show a.length - (k1 + 1) < a.length - k1 by omega)
  exact RB S8 U (by exact (Q6 ‹_› ‹_› (by simp_all)).symm)
 exact RB S1 U (by exact (Qr (by omega) ‹_› (by omega)).symm)
theorem Zrk {G : GH} {w : World} (hG : G.In w) (s : Schema) (v : List Val) (cs : List Value) (hcs : SchemaE.rep G s cs) (vv : Value) (hvv : Sl ValE 32 G vv v) : CL Tryz.prog (nat_lit 63) #[.agg cs.toArray,vv] [] w G fun _ _ r=>r = S (X3 s v):=by
 refine Zh ft [] Tryz.func63 U U ?_
 have hS:=St.start (X:=[]) hG
 obtain ⟨v1,v2,rfl,B1,A1,B2,A2⟩:=YZ hcs
 refine Zw [Za s.name,v1,S s.key,v2] _ hS U U U (fun p1 w1 G1 L1 M1 C1 S1=>?_)
 refine Zb S1 C1 [Za s.name,v1,S s.key,v2] Qo U U U U U ?_
 refine Zr S1 ZsA U U U (ZhQ S1.imm s _ (Yo s B1 (A1.mono L1) B2 (A2.mono L1))) (fun w2 G2 S2 L2=>?_)
 refine WL.split (fun (h1 : (YB s) = true)=>?_) (fun (h1 : (YB s) = false)=>?_)
 ·have j1:=(L1.trans L2)
  refine Zr S2 ZoR U U U (Ze4 S2.imm v (fun x8=>!Z4 x8) _ (hvv.mono j1) 123 #[] ⟨ZyD,fun G8 w8 v8 x8 L8 hG8 hon8 hA8=>by obtain ⟨cs_x8,rfl,hr_x8⟩:=hA8; exact Zwg hG8 x8 cs_x8 hr_x8⟩) (fun w3 G3 S3 L3=>?_)
  refine WL.split (fun (h2 : (v.any (fun x8=>!Z4 x8)) = true)=>?_) (fun (h2 : (v.any (fun x8=>!Z4 x8)) = false)=>?_)
  ·exact RI S3 U (by exact (Zxx ‹_›).symm)
  refine Z S3 (XC.drop 1 (C1.mono (L2.trans L3))) ZaY U U U ?_
  refine Zr S3 ZyE U U U (Zrj S3.imm s.cols v (fun x8 y8=>decide (x8.kind = y8.k)) _ (A1.mono (j1.trans L3)) _ (hvv.mono (j1.trans L3)) 126 #[] ⟨ZyF,fun G8 w8 v8 u8 x8 y8 L8 hG8 hon8 hA8 hB8=>by obtain ⟨cs_x8,rfl,hr_x8⟩:=hA8; obtain ⟨cs_y8,rfl,hr_y8⟩:=hB8; exact Zwh hG8 x8 y8 cs_x8 hr_x8 cs_y8 hr_y8⟩) (fun w4 G4 S4 L4=>?_)
  refine WL.split (fun (h3 : (eqF (fun x8 y8=>decide (x8.kind = y8.k)) s.cols v) = true)=>?_) (fun (h3 : (eqF (fun x8 y8=>decide (x8.kind = y8.k)) s.cols v) = false)=>?_)
  ·exact RI S4 U (by exact (Zxy ‹_› ‹_› ‹_›).symm)
  exact RI S4 U (by exact (ZvB ‹_› ‹_› ‹_›).symm)
 exact RI S2 U (by exact (Zxw ‹_›).symm)
end Go.Civ
