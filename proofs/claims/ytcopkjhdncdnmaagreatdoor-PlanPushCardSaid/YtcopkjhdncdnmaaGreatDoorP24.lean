/- Lemmas. -/
import Derived.Test.YtcopkjhdncdnmaaGreatDoorP23
set_option linter.unusedVariables false
set_option linter.unusedSimpArgs false
set_option maxRecDepth 100000
set_option maxHeartbeats 4000000
namespace Go.Civ
open Go.Proofs
theorem ZjH {G : GH} {w : World} (hG : G.In w) (c : Int) : CL Tryz.prog (nat_lit 207) #[.int .u8 c] [] w G fun _ _ r=>r = .bool (Xh c):=by
 refine Zo ft [] Tryz.func207 V V ?_
 have hS:=St.start (X:=[]) hG
 refine Y9 c 65 V V V (fun h1=>?_) (fun h1=>?_)
 ·refine Qd c 90 V V V (fun h2=>?_) (fun h2=>?_)
  ·exact RB hS V (by unfold Xh; simp_all [Cmp.b] <;> (first | omega | (intros; omega) | (rw [Bool.eq_iff_iff]; simp <;> omega) | (rw [Bool.eq_iff_iff]; simp_all <;> omega)))
  refine Y9 c 97 V V V (fun h3=>?_) (fun h3=>?_)
  ·refine YK .leq V .u8 c 122 V V V ?_
   exact RB hS V (by unfold Xh; simp_all [Cmp.b] <;> (omega))
  exact RB hS V (by unfold Xh; simp_all [Cmp.b] <;> (omega))
 refine Y9 c 97 V V V (fun h4=>?_) (fun h4=>?_)
 ·refine YK .leq V .u8 c 122 V V V ?_
  exact RB hS V (by unfold Xh; simp_all [Cmp.b] <;> (omega))
 exact RB hS V (by unfold Xh; simp_all [Cmp.b] <;> (omega))
theorem ZpV {G : GH} {w : World} (hG : G.In w) (c : Int) : CL Tryz.prog (nat_lit 208) #[.int .u8 c] [] w G fun _ _ r=>r = .bool (Zab c):=by
 refine Zo ft [] Tryz.func208 V V ?_
 have hS:=St.start (X:=[]) hG
 refine Y9 c 48 V V V (fun h1=>?_) (fun h1=>?_)
 ·refine YK .leq V .u8 c 57 V V V ?_
  exact RB hS V (by unfold Zab; simp_all [Cmp.b] <;> (first | omega | (intros; omega) | (rw [Bool.eq_iff_iff]; simp <;> omega) | (rw [Bool.eq_iff_iff]; simp_all <;> omega)))
 exact RB hS V (by unfold Zab; simp_all [Cmp.b] <;> (omega))
theorem ZjI {G : GH} {w : World} (hG : G.In w) (s : List UInt8) : CL Tryz.prog (nat_lit 111) #[Zb s] [] w G fun _ _ r=>r = .bool (XU s):=by
 refine Zo ft [] Tryz.func111 V V ?_
 have hS:=St.start (X:=[]) hG
 refine Xo s Q2 V V ?_
 refine Z1 (s.length : Int) 1 V V V (fun h1=>?_) (fun h1=>?_)
 ·exact RB hS V (by exact (Ziw (by omega)).symm)
 refine Xo s Q2 V V ?_
 refine Yk (s.length : Int) 30 V V V (fun h2=>?_) (fun h2=>?_)
 ·exact RB hS V (by exact (Ziw (by omega)).symm)
 refine Xr s 0 (by omega) Q2 V V V (fun c1 U1=>?_)
 refine Zw hS Zc5 V V V (ZjH hS.imm (c1.toNat : Int)) (fun w1 G1 S1 L1=>?_)
 refine WL.split (fun (h3 : (Xh (c1.toNat : Int)) = true)=>?_) (fun (h3 : (Xh (c1.toNat : Int)) = false)=>?_)
 ·refine Xo s Q2 V V ?_
  refine LP.go ft [] (fun m ρ1 w1=>∃ (k1 : Nat),∃ (G2 : GH),m = s.length - k1 ∧ G1.le G2 ∧ St w [] G G2 [] w1 ∧ FR ρ1 [(0,Zb s),(19,U (s.length : Int)),(20,U (k1 : Int))] ∧ k1 ≤ s.length ∧ ∀ j,j < k1 → ∀ c,s[j]? = some c → ZbB c = true) _ ⟨0,G1,V,(G1.le_refl),S1,⟨V,V,V,trivial⟩,(by omega),(by intro j hj; omega)⟩ ?_
  rintro m ρ1 w2 ⟨k1,G2,rfl,L2,S2,F9,f1,f2⟩
  refine F9.set ?_
  clear F9
  refine Z1 (k1 : Int) (s.length : Int) V V V (fun h4=>?_) (fun h4=>?_)
  ·refine Xr s k1 (by omega) Q2 V V V (fun c2 U2=>?_)
   refine Zw S2 Zc5 V V V (ZjH S2.imm (c2.toNat : Int)) (fun w3 G3 S3 L3=>?_)
   refine WL.split (fun (h5 : (Xh (c2.toNat : Int)) = true)=>?_) (fun (h5 : (Xh (c2.toNat : Int)) = false)=>?_)
   ·refine ZC k1 (by have:=Zm; omega) V V V ?_
    exact BK.mk' _ ⟨k1 + 1,G3,V,(L2.trans L3),S3,⟨V,V,V,trivial⟩,(by omega),(by exact Yz ‹_› ‹_› (by exact ZpL ‹_›))⟩ (show s.length - (k1 + 1) < s.length - k1 by omega)
   refine Xr s k1 (by omega) Q2 V V V (fun c3 U3=>?_)
   obtain rfl : c2 = c3:=Option.some.inj (U2.symm.trans U3)
   refine Zw S3 Zdk V V V (ZpV S3.imm (c2.toNat : Int)) (fun w4 G4 S4 L4=>?_)
   refine WL.split (fun (h6 : (Zab (c2.toNat : Int)) = true)=>?_) (fun (h6 : (Zab (c2.toNat : Int)) = false)=>?_)
   ·refine ZC k1 (by have:=Zm; omega) V V V ?_
    exact BK.mk' _ ⟨k1 + 1,G4,V,(L2.trans (L3.trans L4)),S4,⟨V,V,V,trivial⟩,(by omega),(by exact Yz ‹_› ‹_› (by exact ZpM ‹_›))⟩ (show s.length - (k1 + 1) < s.length - k1 by omega)
   refine Xr s k1 (by omega) Q2 V V V (fun c4 U4=>?_)
   obtain rfl : c2 = c4:=Option.some.inj (U2.symm.trans U4)
   refine Zw S4 Zdl V V V (ZkI S4.imm [95,47,43,45] (c2.toNat : Int)) (fun w5 G5 S5 L5=>?_)
   refine Z1 (Go.Lib.indexByte [95,47,43,45] (c2.toNat : Int).toNat.toUInt8) 0 V V V (fun h7=>?_) (fun h7=>?_)
   ·exact RB S5 V (by exact (Zoy ‹_› (Zoz ‹_› ‹_› ‹_›)).symm)
   refine ZC k1 (by have:=Zm; omega) V V V ?_
   exact BK.mk' _ ⟨k1 + 1,G5,V,(L2.trans ((L3.trans L4).trans L5)),S5,⟨V,V,V,trivial⟩,(by omega),(by exact Yz ‹_› ‹_› (by exact ZpN ‹_›))⟩ (show s.length - (k1 + 1) < s.length - k1 by omega)
  exact RB S2 V (by exact (ZmV (by omega) (by omega) ‹_› ‹_› (Ys ‹_› (by omega))).symm)
 exact RB S1 V (by exact (ZmU ‹_› ‹_›).symm)
theorem ZfG {G : GH} {w : World} (hG : G.In w) (l : List (List UInt8)) (nm : List UInt8) (vl : Value) (hvl : Sl Enc.str 16 G vl l) : CL Tryz.prog (nat_lit 211) #[vl,Zb nm] [] w G fun _ _ r=>r = U (YT l nm):=by
 refine Zo ft [] Tryz.func211 V V ?_
 have hS:=St.start (X:=[]) hG
 have V1:=hvl.bound
 refine Zl hvl Yo V V ?_
 refine LP.go ft [] (fun m ρ1 w1=>∃ (k1 : Nat),∃ (G1 : GH),m = l.length - k1 ∧ G.le G1 ∧ St w [] G G1 [] w1 ∧ FR ρ1 [(0,vl),(1,Zb nm),(7,U (l.length : Int)),(8,U (k1 : Int))] ∧ k1 ≤ l.length ∧ ∀ j,j < k1 → ∀ x,l[j]? = some x → decide (x = nm) = false) _ ⟨0,G,V,(G.le_refl),hS,(Yt V),(by omega),(by intro j hj; omega)⟩ ?_
 rintro m ρ1 w1 ⟨k1,G1,rfl,L1,S1,F9,f1,f2⟩
 refine F9.set ?_
 clear F9
 refine Z1 (k1 : Int) (l.length : Int) V V V (fun h1=>?_) (fun h1=>?_)
 ·refine WL.indexAddr (hvl.mono L1) k1 (by omega) Yo Zy V V V V (fun p1 x1 U1 E1=>?_)
  obtain ⟨D1,C1,R1⟩:=E1
  obtain ⟨rfl,B1⟩:=R1
  refine Za S1 C1 Zy V V V <| Zn .eql V nm x1 V V V ?_
  refine WL.split (fun h0=>?_) (fun h0=>?_)
  ·have h2 : nm = x1:=by simpa [SCmp.b] using h0
   clear h0
   exact RI S1 V (by unfold YT; exact (Za2 _ ‹_› (by simp_all) ‹_›).symm)
  have h2 : nm ≠ x1:=by simpa [SCmp.b] using h0
  clear h0
  refine ZC k1 (by have:=Zm; omega) V V V ?_
  exact BK.mk' _ ⟨k1 + 1,G1,V,L1,S1,(Yt V),(by omega),(by exact Yz ‹_› ‹_› (decide_eq_false (Ne.symm ‹_›)))⟩ (show l.length - (k1 + 1) < l.length - k1 by omega)
 exact RI S1 V (by unfold YT; exact (QO ‹_› (by omega)).symm)
theorem Zck {G : GH} {w : World} (hG : G.In w) (l : List (List UInt8)) (nm : List UInt8) (vl : Value) (hvl : Sl Enc.str 16 G vl l) : CL Tryz.prog (nat_lit 210) #[vl,Zb nm] [] w G fun _ _ r=>r = .bool (l.any fun x=>decide (x = nm)):=by
 refine Zo ft [] Tryz.func210 V V ?_
 have hS:=St.start (X:=[]) hG
 refine Zw hS Zcg V V V (ZfG hS.imm l nm _ hvl) (fun w1 G1 S1 L1=>?_)
 refine YK .geq V .i64 (YT l nm) 0 V V V ?_
 exact RB S1 V (by exact Zla)
theorem Zh0 {G : GH} {w : World} (hG : G.In w) (l : List (List UInt8)) (vl : Value) (hvl : Sl Enc.str 16 G vl l) : CL Tryz.prog (nat_lit 112) #[vl] [] w G fun _ _ r=>r = .bool (Za8 l):=by
 refine Zo ft [] Tryz.func112 V V ?_
 have hS:=St.start (X:=[]) hG
 have V1:=hvl.bound
 refine Zl hvl Yo V V ?_
 refine LP.go ft [] (fun m ρ1 w1=>∃ (k1 : Nat),∃ (G1 : GH),m = l.length - k1 ∧ G.le G1 ∧ St w [] G G1 [] w1 ∧ FR ρ1 [(0,vl),(5,vl),(6,U (l.length : Int)),(7,U (k1 : Int))] ∧ k1 ≤ l.length ∧ ∀ j,j < k1 → ∀ s,l[j]? = some s → ZbC l j s = true) _ ⟨0,G,V,(G.le_refl),hS,(Yt V),(by omega),(by intro j hj; omega)⟩ ?_
 rintro m ρ1 w1 ⟨k1,G1,rfl,L1,S1,F9,f1,f2⟩
 refine F9.set ?_
 clear F9
 refine Z1 (k1 : Int) (l.length : Int) V V V (fun h1=>?_) (fun h1=>?_)
 ·refine WL.indexAddr (hvl.mono L1) k1 (by omega) Yo Zy V V V V (fun p1 x1 U1 E1=>?_)
  obtain ⟨D1,C1,R1⟩:=E1
  obtain ⟨rfl,B1⟩:=R1
  refine Za S1 C1 Zy V V V ?_
  refine Zw S1 QS V V V (ZjI S1.imm x1) (fun w2 G2 S2 L2=>?_)
  refine WL.split (fun (h2 : (XU x1) = true)=>?_) (fun (h2 : (XU x1) = false)=>?_)
  ·refine ZbY (hvl.mono (L1.trans L2)) k1 (by omega) Yo Zy V V V V (fun v1 A1=>?_)
   refine Zw S2 Zcf V V V (Zck S2.imm (l.take k1) x1 _ A1) (fun w3 G3 S3 L3=>?_)
   refine WL.split (fun (h3 : ((l.take k1).any fun x=>decide (x = x1)) = true)=>?_) (fun (h3 : ((l.take k1).any fun x=>decide (x = x1)) = false)=>?_)
   ·exact RB S3 V (by exact (ZjA ‹_› (ZmY ‹_›)).symm)
   refine ZC k1 (by have:=Zm; omega) V V V ?_
   exact BK.mk' _ ⟨k1 + 1,G3,V,(L1.trans (L2.trans L3)),S3,(Yt V),(by omega),(by exact Za9 (P:=fun j s=>ZbC l j s = true) ‹_› ‹_› (ZmW ‹_› ‹_›))⟩ (show l.length - (k1 + 1) < l.length - k1 by omega)
  exact RB S2 V (by exact (ZjA ‹_› (ZmX ‹_›)).symm)
 exact RB S1 V (by exact (ZmZ ‹_› (by omega)).symm)
theorem ZjJ {G : GH} {w : World} (hG : G.In w) (l : List Col) (vl : Value) (hvl : Sl ColE 24 G vl l) : CL Tryz.prog (nat_lit 113) #[vl] [] w G fun G' _ r=>Sl Enc.str 16 G' r (l.map Col.name):=by
 refine Zo ft [] Tryz.func113 V V ?_
 have hS:=St.start (X:=[]) hG
 have V1:=hvl.bound
 refine Zl hvl Yx V V ?_
 have S2:=hS.pad
 refine LP.go ft [] (fun m ρ1 w1=>∃ (k1 : Nat),∃ (v1 : Value) (o1 : OB),∃ (G1 : GH),m = l.length - k1 ∧ G.le G1 ∧ St w [] G G1 [o1] w1 ∧ YH Enc.str 16 9 G1 v1 ((l.take k1).map Col.name) o1 ∧ FR ρ1 [(3,v1),(6,vl),(7,U (l.length : Int)),(8,U (k1 : Int))] ∧ k1 ≤ l.length) _ ⟨0,(Zh),none,G,V,(G.le_refl),S2,(YH.cast (YH.nil Enc.str 16 9 G) (by simp)),(Yt V),(by omega)⟩ ?_
 rintro m ρ1 w1 ⟨k1,v1,o1,G1,rfl,L1,S1,R1,F9,f1⟩
 refine F9.set ?_
 clear F9
 have htk:=List.length_take_le k1 l
 refine Z1 (k1 : Int) (l.length : Int) V V V (fun h1=>?_) (fun h1=>?_)
 ·refine WL.indexAddr (hvl.mono L1) k1 (by omega) Yx Ym V V V V (fun p1 x1 U1 E1=>?_)
  obtain ⟨D1,C1,R2⟩:=E1
  obtain ⟨rfl,B1,B2⟩:=Yh R2
  refine Zc S1 C1 [Zb x1.name,U x1.kind] Ym V V V V V ?_
  refine WL.alloc S1 Ym V V (fun b1 w2 N1 S3=>?_)
  refine ZY S3 0 [Zb x1.name,U x1.kind] V V Ym V V V V V V (fun w3 S4=>?_)
  obtain ⟨G2,L2,C2,S5⟩:=S4.shutB N1
  refine Za S5 (YC.drop 0 C2) Zy V V V ?_
  refine WL.buildSlice _ [(0,[Zb x1.name])] [Zb x1.name] S5 ZaA V V V V (fun z hz=>by match z,hz with | [z0],_=>rfl) (fun b2 w4 N2 S6=>?_)
  refine WL.push (m:=([x1.name] : List (List UInt8))) ZaA V V V (R1.mono L2) S6 1 V 0 _ _ _ _ _ V ⟨[Zb x1.name],_,V,⟨V,B1⟩,V⟩ V (by have:=Zm; have hby:=(by assumption : Sl ColE 24 G _ l).bytes; have hbl:=List.length_take_le' k1 l; simp only [Zau,List.length_map]; omega) (by have:=Zm; have hby:=(by assumption : Sl ColE 24 G _ l).bytes; have hbl:=List.length_take_le' k1 l; simp only [Zau,List.length_map]; omega) V V V (fun v2 o2 w5 R3 S7=>?_)
  have S8:=S7.tail
  refine ZC k1 (by have:=Zm; omega) V V V ?_
  exact BK.mk' _ ⟨k1 + 1,v2,o2,G2,V,(L1.trans L2),S8,(YH.cast R3 (by (rw [List.take_add_one,(by assumption : l[k1]? = some _)]; simp))),(Yt V),(by omega)⟩ (show l.length - (k1 + 1) < l.length - k1 by omega)
 obtain ⟨G3,L3,A1,S9⟩:=YH.freeze R1 S1 0 V
 exact RT S9 V (Sl.cast A1 (by rw [List.take_of_length_le (by omega)]))
theorem Zo5 {G : GH} {w : World} (hG : G.In w) (s : Schema) (nm : List UInt8) (cs : List Value) (hcs : SchemaE.rep G s cs) : CL Tryz.prog (nat_lit 114) #[.agg cs.toArray,Zb nm] [] w G fun _ _ r=>r = U (YT (s.cols.map Col.name) nm):=by
 refine Zo ft [] Tryz.func114 V V ?_
 have hS:=St.start (X:=[]) hG
 obtain ⟨v1,v2,rfl,B1,A1,B2,A2⟩:=Xb hcs
 refine ZL [Zb s.name,v1,U s.key,v2] _ hS V V V (fun p1 w1 G1 L1 M1 C1 S1=>?_)
 refine Za S1 (YC.drop 1 C1) Yb V V V ?_
 refine Zv S1 Zan V V V (ZjJ S1.imm s.cols _ (A1.mono L1)) (fun w2 G2 r1 P1 S2 L2=>?_)
 refine Zw S2 Zcg V V V (ZfG S2.imm (s.cols.map Col.name) nm _ P1) (fun w3 G3 S3 L3=>?_)
 exact RI S3 V (by rfl)
theorem Zfi {G : GH} {w : World} (hG : G.In w) (s : Schema) (cs : List Value) (hcs : SchemaE.rep G s cs) : CL Tryz.prog (nat_lit 46) #[.agg cs.toArray] [] w G fun _ _ r=>r = .bool (X3 s):=by
 refine Zo ft [] Tryz.func46 V V ?_
 have hS:=St.start (X:=[]) hG
 obtain ⟨v1,v2,rfl,B1,A1,B2,A2⟩:=Xb hcs
 refine ZL [Zb s.name,v1,U s.key,v2] _ hS V V V (fun p1 w1 G1 L1 M1 C1 S1=>?_)
 refine Za S1 (YC.drop 1 C1) Yb V V V ?_
 have V1:=A1.bound
 refine Zl (A1.mono L1) Yx V V <| Za S1 (YC.drop 0 C1) Zy V V V ?_
 refine Zw S1 QS V V V (ZjI S1.imm s.name) (fun w2 G2 S2 L2=>?_)
 refine WL.split (fun (h1 : (XU s.name) = true)=>?_) (fun (h1 : (XU s.name) = false)=>?_)
 ·refine Z1 (s.cols.length : Int) 1 V V V (fun h2=>?_) (fun h2=>?_)
  ·exact RB S2 V (by first | exact (XL hA (Ys ‹_› (by omega)) (Ys ‹_› (by omega))).symm | exact (X9 ‹_› (by omega)).symm | exact (Yi ‹_› (Qf ‹_›)).symm | exact (Yi ‹_› (Qg (by omega))).symm | exact (Yi ‹_› (Qh ‹_›)).symm | exact (Yi ‹_› (Qi ‹_› ‹_›)).symm | exact (Q4 (by unfold Qs; simp_all [Cmp.b] <;> (first | omega | (intros; omega) | (rw [Bool.eq_iff_iff]; simp <;> omega) | (rw [Bool.eq_iff_iff]; simp_all <;> omega)))).symm)
  refine Yk (s.cols.length : Int) 8 V V V (fun h3=>?_) (fun h3=>?_)
  ·exact RB S2 V (by first | exact (XL hA (Ys ‹_› (by omega)) (Ys ‹_› (by omega))).symm | exact (X9 ‹_› (by omega)).symm | exact (Yi ‹_› (Qf ‹_›)).symm | exact (Yi ‹_› (Qg (by omega))).symm | exact (Yi ‹_› (Qh ‹_›)).symm | exact (Yi ‹_› (Qi ‹_› ‹_›)).symm | exact (Q4 (by unfold Qs; simp_all [Cmp.b] <;> (first | omega | (intros; omega) | (rw [Bool.eq_iff_iff]; simp <;> omega) | (rw [Bool.eq_iff_iff]; simp_all <;> omega)))).symm)
  refine Za S2 (YC.drop 2 (C1.mono L2)) Z3 V V V ?_
  refine Z1 s.key 1 V V V (fun h4=>?_) (fun h4=>?_)
  ·exact RB S2 V (by first | exact (XL hA (Ys ‹_› (by omega)) (Ys ‹_› (by omega))).symm | exact (X9 ‹_› (by omega)).symm | exact (Yi ‹_› (Qf ‹_›)).symm | exact (Yi ‹_› (Qg (by omega))).symm | exact (Yi ‹_› (Qh ‹_›)).symm | exact (Yi ‹_› (Qi ‹_› ‹_›)).symm | exact (Q4 (by unfold Qs; simp_all [Cmp.b] <;> (first | omega | (intros; omega) | (rw [Bool.eq_iff_iff]; simp <;> omega) | (rw [Bool.eq_iff_iff]; simp_all <;> omega)))).symm)
  refine Za S2 (YC.drop 2 (C1.mono L2)) Z3 V V V ?_
  refine Yk s.key (s.cols.length : Int) V V V (fun h5=>?_) (fun h5=>?_)
  ·exact RB S2 V (by first | exact (XL hA (Ys ‹_› (by omega)) (Ys ‹_› (by omega))).symm | exact (X9 ‹_› (by omega)).symm | exact (Yi ‹_› (Qf ‹_›)).symm | exact (Yi ‹_› (Qg (by omega))).symm | exact (Yi ‹_› (Qh ‹_›)).symm | exact (Yi ‹_› (Qi ‹_› ‹_›)).symm | exact (Q4 (by unfold Qs; simp_all [Cmp.b] <;> (first | omega | (intros; omega) | (rw [Bool.eq_iff_iff]; simp <;> omega) | (rw [Bool.eq_iff_iff]; simp_all <;> omega)))).symm)
  refine Za S2 (YC.drop 3 (C1.mono L2)) Zo3 V V V ?_
  have V2:=A2.bound
  have j1:=(L1.trans L2)
  refine Zl (A2.mono j1) ZlQ V V ?_
  refine Yk (s.fks.length : Int) 8 V V V (fun h6=>?_) (fun h6=>?_)
  ·exact RB S2 V (by first | exact (XL hA (Ys ‹_› (by omega)) (Ys ‹_› (by omega))).symm | exact (X9 ‹_› (by omega)).symm | exact (Yi ‹_› (Qf ‹_›)).symm | exact (Yi ‹_› (Qg (by omega))).symm | exact (Yi ‹_› (Qh ‹_›)).symm | exact (Yi ‹_› (Qi ‹_› ‹_›)).symm | exact (Q4 (by unfold Qs; simp_all [Cmp.b] <;> (first | omega | (intros; omega) | (rw [Bool.eq_iff_iff]; simp <;> omega) | (rw [Bool.eq_iff_iff]; simp_all <;> omega)))).symm)
  refine Za S2 (YC.drop 1 (C1.mono L2)) Yb V V V ?_
  refine Zv S2 Zan V V V (ZjJ S2.imm s.cols _ (A1.mono j1)) (fun w3 G3 r1 P1 S3 L3=>?_)
  refine Zw S3 Zam V V V (Zh0 S3.imm (s.cols.map Col.name) _ P1) (fun w4 G4 S4 L4=>?_)
  refine WL.split (fun (h7 : (Za8 (s.cols.map Col.name)) = true)=>?_) (fun (h7 : (Za8 (s.cols.map Col.name)) = false)=>?_)
  ·have hA : Qs s = true:=by unfold Qs; simp_all [Cmp.b] <;> (omega)
   have j2:=((L2.trans L3).trans L4)
   refine Za S4 (YC.drop 1 (C1.mono j2)) Yb V V V ?_
   have V3:=A1.bound
   have j3:=((j1.trans L3).trans L4)
   refine Zl (A1.mono j3) Yx V V ?_
   refine LP.go ft [] (fun m ρ1 w1=>∃ (k1 : Nat),∃ (G5 : GH),m = s.cols.length - k1 ∧ G4.le G5 ∧ St w [] G G5 [] w1 ∧ FR ρ1 [(1,Zu p1),(50,v1),(51,U (s.cols.length : Int)),(52,U (k1 : Int))] ∧ k1 ≤ s.cols.length ∧ ∀ j,j < k1 → ∀ x,s.cols[j]? = some x → Zff x = true) _ ⟨0,G4,V,(G4.le_refl),S4,(Yt V),(by omega),(by intro j hj; omega)⟩ ?_
   rintro m ρ1 w5 ⟨k1,G5,rfl,L5,S5,F9,f1,f2⟩
   refine F9.set ?_
   clear F9
   refine Z1 (k1 : Int) (s.cols.length : Int) V V V (fun h8=>?_) (fun h8=>?_)
   ·refine WL.indexAddr (A1.mono (j3.trans L5)) k1 (by omega) Yx Ym V V V V (fun p2 x1 U1 E1=>?_)
    obtain ⟨D1,C2,R1⟩:=E1
    obtain ⟨rfl,B3,B4⟩:=Yh R1
    refine Zc S5 C2 [Zb x1.name,U x1.kind] Ym V V V V V ?_
    refine WL.alloc S5 Ym V V (fun b1 w6 N1 S6=>?_)
    refine ZY S6 0 [Zb x1.name,U x1.kind] V V Ym V V V V V V (fun w7 S7=>?_)
    obtain ⟨G6,L6,C3,S8⟩:=S7.shutB N1
    refine Za S8 (YC.drop 1 C3) Z3 V V V ?_
    refine Z1 x1.kind 1 V V V (fun h9=>?_) (fun h9=>?_)
    ·exact RB S8 V (by first | exact (XL hA (Ys ‹_› (by omega)) (Ys ‹_› (by omega))).symm | exact (X9 ‹_› (by omega)).symm | exact (Yi ‹_› (Qf ‹_›)).symm | exact (Yi ‹_› (Qg (by omega))).symm | exact (Yi ‹_› (Qh ‹_›)).symm | exact (Yi ‹_› (Qi ‹_› ‹_›)).symm | exact (Q4 (by unfold Qs; simp_all [Cmp.b] <;> (first | omega | (intros; omega) | (rw [Bool.eq_iff_iff]; simp <;> omega) | (rw [Bool.eq_iff_iff]; simp_all <;> omega)))).symm)
    refine Za S8 (YC.drop 1 C3) Z3 V V V ?_
    refine Yk x1.kind 4 V V V (fun h10=>?_) (fun h10=>?_)
    ·exact RB S8 V (by first | exact (XL hA (Ys ‹_› (by omega)) (Ys ‹_› (by omega))).symm | exact (X9 ‹_› (by omega)).symm | exact (Yi ‹_› (Qf ‹_›)).symm | exact (Yi ‹_› (Qg (by omega))).symm | exact (Yi ‹_› (Qh ‹_›)).symm | exact (Yi ‹_› (Qi ‹_› ‹_›)).symm | exact (Q4 (by unfold Qs; simp_all [Cmp.b] <;> (first | omega | (intros; omega) | (rw [Bool.eq_iff_iff]; simp <;> omega) | (rw [Bool.eq_iff_iff]; simp_all <;> omega)))).symm)
    refine ZC k1 (by have:=Zm; omega) V V V ?_
    exact BK.mk' _ ⟨k1 + 1,G6,V,(L5.trans L6),S8,(Yt V),(by omega),(by exact Yz ‹_› ‹_› (Zna (by omega) (by omega)))⟩ (show s.cols.length - (k1 + 1) < s.cols.length - k1 by omega)
   refine Za S5 (YC.drop 3 (C1.mono (j2.trans L5))) Zo3 V V V ?_
   have V4:=A2.bound
   refine Zl (A2.mono (j3.trans L5)) ZlQ V V ?_
   refine LP.go ft [] (fun m ρ1 w1=>∃ (k2 : Nat),∃ (G7 : GH),m = s.fks.length - k2 ∧ G5.le G7 ∧ St w [] G G7 [] w1 ∧ FR ρ1 [(1,Zu p1),(66,v2),(67,U (s.fks.length : Int)),(68,U (k2 : Int))] ∧ k2 ≤ s.fks.length ∧ ∀ j,j < k2 → ∀ x,s.fks[j]? = some x → fkB s x = true) _ ⟨0,G5,V,(G5.le_refl),S5,(Yt V),(by omega),(by intro j hj; omega)⟩ ?_
   rintro m ρ1 w9 ⟨k2,G7,rfl,L7,S9,F9,f3,f4⟩
   refine F9.set ?_
   clear F9
   refine Z1 (k2 : Int) (s.fks.length : Int) V V V (fun h11=>?_) (fun h11=>?_)
   ·refine WL.indexAddr (A2.mono ((j3.trans L5).trans L7)) k2 (by omega) ZlQ ZiR V V V V (fun p3 x2 U2 E2=>?_)
    obtain ⟨D2,C4,R2⟩:=E2
    obtain ⟨v3,rfl,A3,B5⟩:=ZiJ R2
    refine Zc S9 C4 [v3,Zb x2.table] ZiR V V V V V ?_
    refine WL.alloc S9 ZiR V V (fun b2 w10 N2 S10=>?_)
    refine ZY S10 0 [v3,Zb x2.table] V V ZiR V V (by simp only [ZW,A3.oneC] <;> rfl) V V V (fun w11 S11=>?_)
    obtain ⟨G9,L9,C5,S12⟩:=S11.shutB N2
    refine Za S12 (YC.drop 1 C5) Zy V V V ?_
    refine Zw S12 QS V V V (ZjI S12.imm x2.table) (fun w12 G10 S13 L10=>?_)
    refine WL.split (fun (h12 : (XU x2.table) = true)=>?_) (fun (h12 : (XU x2.table) = false)=>?_)
    ·refine Za S13 (YC.drop 0 (C5.mono L10)) ZU V V V ?_
     have V5:=A3.bound
     refine Zl (A3.mono (L9.trans L10)) Yo V V ?_
     refine Z1 (x2.cols.length : Int) 1 V V V (fun h13=>?_) (fun h13=>?_)
     ·exact RB S13 V (by first | exact (XL hA (Ys ‹_› (by omega)) (Ys ‹_› (by omega))).symm | exact (X9 ‹_› (by omega)).symm | exact (Yi ‹_› (Qf ‹_›)).symm | exact (Yi ‹_› (Qg (by omega))).symm | exact (Yi ‹_› (Qh ‹_›)).symm | exact (Yi ‹_› (Qi ‹_› ‹_›)).symm | exact (Q4 (by unfold Qs; simp_all [Cmp.b] <;> (first | omega | (intros; omega) | (rw [Bool.eq_iff_iff]; simp <;> omega) | (rw [Bool.eq_iff_iff]; simp_all <;> omega)))).symm)
     refine Za S13 (YC.drop 0 (C5.mono L10)) ZU V V V ?_
     have V6:=A3.bound
     refine Zl (A3.mono (L9.trans L10)) Yo V V ?_
     refine Yk (x2.cols.length : Int) 8 V V V (fun h14=>?_) (fun h14=>?_)
     ·exact RB S13 V (by first | exact (XL hA (Ys ‹_› (by omega)) (Ys ‹_› (by omega))).symm | exact (X9 ‹_› (by omega)).symm | exact (Yi ‹_› (Qf ‹_›)).symm | exact (Yi ‹_› (Qg (by omega))).symm | exact (Yi ‹_› (Qh ‹_›)).symm | exact (Yi ‹_› (Qi ‹_› ‹_›)).symm | exact (Q4 (by unfold Qs; simp_all [Cmp.b] <;> (first | omega | (intros; omega) | (rw [Bool.eq_iff_iff]; simp <;> omega) | (rw [Bool.eq_iff_iff]; simp_all <;> omega)))).symm)
     refine Za S13 (YC.drop 0 (C5.mono L10)) ZU V V V ?_
     refine Zw S13 Zam V V V (Zh0 S13.imm x2.cols _ (A3.mono (L9.trans L10))) (fun w13 G11 S14 L11=>?_)
     refine WL.split (fun (h15 : (Za8 x2.cols) = true)=>?_) (fun (h15 : (Za8 x2.cols) = false)=>?_)
     ·refine Za S14 (YC.drop 0 (C5.mono (L10.trans L11))) ZU V V V ?_
      have V7:=A3.bound
      refine Zl (A3.mono ((L9.trans L10).trans L11)) Yo V V ?_
      refine LP.go ft [] (fun m ρ1 w1=>∃ (k3 : Nat),∃ (G12 : GH),m = x2.cols.length - k3 ∧ G11.le G12 ∧ St w [] G G12 [] w1 ∧ FR ρ1 [(1,Zu p1),(66,v2),(67,U (s.fks.length : Int)),(68,U (k2 : Int)),(95,v3),(96,U (x2.cols.length : Int)),(97,U (k3 : Int))] ∧ k3 ≤ x2.cols.length ∧ ∀ j,j < k3 → ∀ x,x2.cols[j]? = some x → decide (0 ≤ YT (s.cols.map Col.name) x) = true) _ ⟨0,G11,V,(G11.le_refl),S14,(Yt V),(by omega),(by intro j hj; omega)⟩ ?_
      rintro m ρ1 w14 ⟨k3,G12,rfl,L12,S15,F9,f5,f6⟩
      refine F9.set ?_
      clear F9
      refine Z1 (k3 : Int) (x2.cols.length : Int) V V V (fun h16=>?_) (fun h16=>?_)
      ·refine WL.indexAddr (A3.mono (((L9.trans L10).trans L11).trans L12)) k3 (by omega) Yo Zy V V V V (fun p4 x3 U3 E3=>?_)
       obtain ⟨D3,C6,R3⟩:=E3
       obtain ⟨rfl,B6⟩:=R3
       refine Za S15 C6 Zy V V V <| Zc S15 (C1.mono ((((((((L2.trans L3).trans L4).trans L5).trans L7).trans L9).trans L10).trans L11).trans L12)) [Zb s.name,v1,U s.key,v2] Xu V V V V V ?_
       refine Zw S15 ZaF V V V (Zo5 S15.imm s x3 _ (Qu s B1 (A1.mono (((((((((L1.trans L2).trans L3).trans L4).trans L5).trans L7).trans L9).trans L10).trans L11).trans L12)) B2 (A2.mono (((((((((L1.trans L2).trans L3).trans L4).trans L5).trans L7).trans L9).trans L10).trans L11).trans L12)))) (fun w15 G13 S16 L13=>?_)
       refine Z1 (YT (s.cols.map Col.name) x3) 0 V V V (fun h17=>?_) (fun h17=>?_)
       ·exact RB S16 V (by first | exact (XL hA (Ys ‹_› (by omega)) (Ys ‹_› (by omega))).symm | exact (X9 ‹_› (by omega)).symm | exact (Yi ‹_› (Qf ‹_›)).symm | exact (Yi ‹_› (Qg (by omega))).symm | exact (Yi ‹_› (Qh ‹_›)).symm | exact (Yi ‹_› (Qi ‹_› ‹_›)).symm | exact (Q4 (by unfold Qs; simp_all [Cmp.b] <;> (first | omega | (intros; omega) | (rw [Bool.eq_iff_iff]; simp <;> omega) | (rw [Bool.eq_iff_iff]; simp_all <;> omega)))).symm)
       refine ZC k3 (by have:=Zm; omega) V V V ?_
       exact BK.mk' _ ⟨k3 + 1,G13,V,(L12.trans L13),S16,(Yt V),(by omega),(by exact Yz ‹_› ‹_› (decide_eq_true ‹_›))⟩ (show x2.cols.length - (k3 + 1) < x2.cols.length - k3 by omega)
      refine ZC k2 (by have:=Zm; omega) V V V ?_
      exact BK.mk' _ ⟨k2 + 1,G12,V,(L7.trans (((L9.trans L10).trans L11).trans L12)),S15,(Yt V),(by omega),(by exact Yz ‹_› ‹_› (ZpO ‹_› (by omega) (by omega) ‹_› (Ys ‹_› (by omega))))⟩ (show s.fks.length - (k2 + 1) < s.fks.length - k2 by omega)
     exact RB S14 V (by first | exact (XL hA (Ys ‹_› (by omega)) (Ys ‹_› (by omega))).symm | exact (X9 ‹_› (by omega)).symm | exact (Yi ‹_› (Qf ‹_›)).symm | exact (Yi ‹_› (Qg (by omega))).symm | exact (Yi ‹_› (Qh ‹_›)).symm | exact (Yi ‹_› (Qi ‹_› ‹_›)).symm | exact (Q4 (by unfold Qs; simp_all [Cmp.b] <;> (first | omega | (intros; omega) | (rw [Bool.eq_iff_iff]; simp <;> omega) | (rw [Bool.eq_iff_iff]; simp_all <;> omega)))).symm)
    exact RB S13 V (by first | exact (XL hA (Ys ‹_› (by omega)) (Ys ‹_› (by omega))).symm | exact (X9 ‹_› (by omega)).symm | exact (Yi ‹_› (Qf ‹_›)).symm | exact (Yi ‹_› (Qg (by omega))).symm | exact (Yi ‹_› (Qh ‹_›)).symm | exact (Yi ‹_› (Qi ‹_› ‹_›)).symm | exact (Q4 (by unfold Qs; simp_all [Cmp.b] <;> (first | omega | (intros; omega) | (rw [Bool.eq_iff_iff]; simp <;> omega) | (rw [Bool.eq_iff_iff]; simp_all <;> omega)))).symm)
   exact RB S9 V (by first | exact (XL hA (Ys ‹_› (by omega)) (Ys ‹_› (by omega))).symm | exact (X9 ‹_› (by omega)).symm | exact (Yi ‹_› (Qf ‹_›)).symm | exact (Yi ‹_› (Qg (by omega))).symm | exact (Yi ‹_› (Qh ‹_›)).symm | exact (Yi ‹_› (Qi ‹_› ‹_›)).symm | exact (Q4 (by unfold Qs; simp_all [Cmp.b] <;> (first | omega | (intros; omega) | (rw [Bool.eq_iff_iff]; simp <;> omega) | (rw [Bool.eq_iff_iff]; simp_all <;> omega)))).symm)
  exact RB S4 V (by first | exact (XL hA (Ys ‹_› (by omega)) (Ys ‹_› (by omega))).symm | exact (X9 ‹_› (by omega)).symm | exact (Yi ‹_› (Qf ‹_›)).symm | exact (Yi ‹_› (Qg (by omega))).symm | exact (Yi ‹_› (Qh ‹_›)).symm | exact (Yi ‹_› (Qi ‹_› ‹_›)).symm | exact (Q4 (by unfold Qs; simp_all [Cmp.b] <;> (first | omega | (intros; omega) | (rw [Bool.eq_iff_iff]; simp <;> omega) | (rw [Bool.eq_iff_iff]; simp_all <;> omega)))).symm)
 exact RB S2 V (by first | exact (XL hA (Ys ‹_› (by omega)) (Ys ‹_› (by omega))).symm | exact (X9 ‹_› (by omega)).symm | exact (Yi ‹_› (Qf ‹_›)).symm | exact (Yi ‹_› (Qg (by omega))).symm | exact (Yi ‹_› (Qh ‹_›)).symm | exact (Yi ‹_› (Qi ‹_› ‹_›)).symm | exact (Q4 (by unfold Qs; simp_all [Cmp.b] <;> (first | omega | (intros; omega) | (rw [Bool.eq_iff_iff]; simp <;> omega) | (rw [Bool.eq_iff_iff]; simp_all <;> omega)))).symm)
end Go.Civ
set_option linter.unusedVariables false
set_option linter.unusedSimpArgs false
set_option maxRecDepth 100000
set_option maxHeartbeats 4000000
namespace Go.Civ
open Go.Proofs
theorem Zqa (d : Nat) : ∀ {G : GH} {w : World} (hG : G.In w) (c : Cond) (cc : List Value) (hcc : (Xd d).rep G c cc),CL Tryz.prog (nat_lit 398) #[.agg cc.toArray] [] w G fun _ _ r=>r = .bool (Z2 c):=by
 induction d
 ·intro G w hG c cc hcc; exact (QP hcc).elim
 rename_i d ih
 intro G w hG c cc hcc
 refine Zo ft [] Tryz.func398 V V ?_
 have hS:=St.start (X:=[]) hG
 obtain ⟨lv1,rfl,B1,B2,B3,B4,B5,B6,O1⟩:=QQ hcc
 refine ZL [U c.kind,Zb c.col,Zb c.oth,U c.v.k,U c.v.n,Zb c.v.s,lv1] _ hS V V V (fun p1 w1 G1 L1 M1 C1 S1=>?_)
 refine Zc S1 (YC.drop 3 C1) [U c.v.k,U c.v.n,Zb c.v.s] X5 V V V V V <| WL.build _ [] [U 0,U 0,Zb []] X5 V ZlP V V V V <| Zfd (ZaQ c.v (Val.mk 0 0 [])) ZcK V V V ?_
 refine WL.split (fun (h1 : (decide (c.v = (Val.mk 0 0 []))) = true)=>?_) (fun (h1 : (decide (c.v = (Val.mk 0 0 []))) = false)=>?_)
 ·refine Za S1 (YC.drop 0 C1) Z3 V V V ?_
  refine Zj c.kind 1 V V V (fun h2=>?_) (fun h2=>?_)
  ·refine Za S1 (YC.drop 1 C1) Zy V V V <| Zn .neq V c.col [] V V V ?_
   refine WL.split (fun h0=>?_) (fun h0=>?_)
   ·have h3 : c.col ≠ []:=by simpa [SCmp.b] using h0
    clear h0
    refine Za S1 (YC.drop 6 C1) Y0 V V V ?_
    have V1:=O1.bound
    refine Zl (O1.mono L1) Y2 V V ?_
    refine Zj (c.l.length : Int) 0 V V V (fun h4=>?_) (fun h4=>?_)
    ·refine Za S1 (YC.drop 2 C1) Zy V V V <| Zn .eql V c.oth [] V V V ?_
     refine WL.split (fun h0=>?_) (fun h0=>?_)
     ·have h5 : c.oth = []:=by simpa [SCmp.b] using h0
      clear h0
      refine Zc S1 (YC.drop 3 C1) [U c.v.k,U c.v.n,Zb c.v.s] X5 V V V V V ?_
      refine Zw S1 Ze5 V V V (Zfh S1.imm c.v _ (QN c.v B4 B5 B6)) (fun w2 G2 S2 L2=>?_)
      refine WL.split (fun (h6 : (Y1 c.v) = true)=>?_) (fun (h6 : (Y1 c.v) = false)=>?_)
      ·exact RB S2 V (by unfold Z2 ZQ Yn ZZ; (simp_all [Cmp.b,SCmp.b]; done))
      refine Za S2 (YC.drop 2 (C1.mono L2)) Zy V V V <| Zn .neq V c.oth [] V V V ?_
      refine WL.split (fun h0=>?_) (fun h0=>?_)
      ·have h7 : c.oth ≠ []:=by simpa [SCmp.b] using h0
       clear h0
       exact RB S2 V (by unfold Z2 ZQ Yn ZZ; (simp_all [Cmp.b,SCmp.b]; done))
      have h7 : c.oth = []:=by simpa [SCmp.b] using h0
      clear h0
      exact RB S2 V (by unfold Z2 ZQ Yn ZZ; (simp_all [Cmp.b,SCmp.b]; done))
     have h5 : c.oth ≠ []:=by simpa [SCmp.b] using h0
     clear h0
     refine Za S1 (YC.drop 2 C1) Zy V V V <| Zn .neq V c.oth [] V V V ?_
     refine WL.split (fun h0=>?_) (fun h0=>?_)
     ·have h8 : c.oth ≠ []:=by simpa [SCmp.b] using h0
      clear h0
      exact RB S1 V (by unfold Z2 ZQ Yn ZZ; (simp_all [Cmp.b,SCmp.b]; done))
     have h8 : c.oth = []:=by simpa [SCmp.b] using h0
     clear h0
     exact RB S1 V (by unfold Z2 ZQ Yn ZZ; (simp_all [Cmp.b,SCmp.b]; done))
    exact RB S1 V (by unfold Z2 ZQ Yn ZZ; (simp_all [Cmp.b,SCmp.b]; done))
   have h3 : c.col = []:=by simpa [SCmp.b] using h0
   clear h0
   exact RB S1 V (by unfold Z2 ZQ Yn ZZ; (simp_all [Cmp.b,SCmp.b]; done))
  refine Zj c.kind 2 V V V (fun h9=>?_) (fun h9=>?_)
  ·refine Za S1 (YC.drop 1 C1) Zy V V V <| Zn .neq V c.col [] V V V ?_
   refine WL.split (fun h0=>?_) (fun h0=>?_)
   ·have h10 : c.col ≠ []:=by simpa [SCmp.b] using h0
    clear h0
    refine Za S1 (YC.drop 6 C1) Y0 V V V ?_
    have V2:=O1.bound
    refine Zl (O1.mono L1) Y2 V V ?_
    refine Zj (c.l.length : Int) 0 V V V (fun h11=>?_) (fun h11=>?_)
    ·refine Za S1 (YC.drop 2 C1) Zy V V V <| Zn .eql V c.oth [] V V V ?_
     refine WL.split (fun h0=>?_) (fun h0=>?_)
     ·have h12 : c.oth = []:=by simpa [SCmp.b] using h0
      clear h0
      refine Zc S1 (YC.drop 3 C1) [U c.v.k,U c.v.n,Zb c.v.s] X5 V V V V V ?_
      refine Zw S1 Ze5 V V V (Zfh S1.imm c.v _ (QN c.v B4 B5 B6)) (fun w3 G3 S3 L3=>?_)
      refine WL.split (fun (h13 : (Y1 c.v) = true)=>?_) (fun (h13 : (Y1 c.v) = false)=>?_)
      ·exact RB S3 V (by unfold Z2 ZQ Yn ZZ; (simp_all [Cmp.b,SCmp.b]; done))
      refine Za S3 (YC.drop 2 (C1.mono L3)) Zy V V V <| Zn .neq V c.oth [] V V V ?_
      refine WL.split (fun h0=>?_) (fun h0=>?_)
      ·have h14 : c.oth ≠ []:=by simpa [SCmp.b] using h0
       clear h0
       exact RB S3 V (by unfold Z2 ZQ Yn ZZ; (simp_all [Cmp.b,SCmp.b]; done))
      have h14 : c.oth = []:=by simpa [SCmp.b] using h0
      clear h0
      exact RB S3 V (by unfold Z2 ZQ Yn ZZ; (simp_all [Cmp.b,SCmp.b]; done))
     have h12 : c.oth ≠ []:=by simpa [SCmp.b] using h0
     clear h0
     refine Za S1 (YC.drop 2 C1) Zy V V V <| Zn .neq V c.oth [] V V V ?_
     refine WL.split (fun h0=>?_) (fun h0=>?_)
     ·have h15 : c.oth ≠ []:=by simpa [SCmp.b] using h0
      clear h0
      exact RB S1 V (by unfold Z2 ZQ Yn ZZ; (simp_all [Cmp.b,SCmp.b]; done))
     have h15 : c.oth = []:=by simpa [SCmp.b] using h0
     clear h0
     exact RB S1 V (by unfold Z2 ZQ Yn ZZ; (simp_all [Cmp.b,SCmp.b]; done))
    exact RB S1 V (by unfold Z2 ZQ Yn ZZ; (simp_all [Cmp.b,SCmp.b]; done))
   have h10 : c.col = []:=by simpa [SCmp.b] using h0
   clear h0
   exact RB S1 V (by unfold Z2 ZQ Yn ZZ; (simp_all [Cmp.b,SCmp.b]; done))
  refine Zj c.kind 3 V V V (fun h16=>?_) (fun h16=>?_)
  ·refine Za S1 (YC.drop 1 C1) Zy V V V <| Zn .eql V c.col [] V V V ?_
   refine WL.split (fun h0=>?_) (fun h0=>?_)
   ·have h17 : c.col = []:=by simpa [SCmp.b] using h0
    clear h0
    refine Za S1 (YC.drop 2 C1) Zy V V V <| Zn .eql V c.oth [] V V V ?_
    refine WL.split (fun h0=>?_) (fun h0=>?_)
    ·have h18 : c.oth = []:=by simpa [SCmp.b] using h0
     clear h0
     refine Za S1 (YC.drop 6 C1) Y0 V V V ?_
     have V3:=O1.bound
     refine Zl (O1.mono L1) Y2 V V <| YK .eql V .i64 (c.l.length : Int) 0 V V V ?_
     exact RB S1 V (by unfold Z2 ZQ Yn ZZ; (simp_all [Cmp.b,SCmp.b]; rw [Bool.eq_iff_iff]; simp [List.length_eq_zero_iff]; done))
    have h18 : c.oth ≠ []:=by simpa [SCmp.b] using h0
    clear h0
    exact RB S1 V (by unfold Z2 ZQ Yn ZZ; (simp_all [Cmp.b,SCmp.b]; done))
   have h17 : c.col ≠ []:=by simpa [SCmp.b] using h0
   clear h0
   exact RB S1 V (by unfold Z2 ZQ Yn ZZ; (simp_all [Cmp.b,SCmp.b]; done))
  refine Zj c.kind 4 V V V (fun h19=>?_) (fun h19=>?_)
  ·refine Za S1 (YC.drop 1 C1) Zy V V V <| Zn .eql V c.col [] V V V ?_
   refine WL.split (fun h0=>?_) (fun h0=>?_)
   ·have h20 : c.col = []:=by simpa [SCmp.b] using h0
    clear h0
    refine Za S1 (YC.drop 2 C1) Zy V V V <| Zn .eql V c.oth [] V V V ?_
    refine WL.split (fun h0=>?_) (fun h0=>?_)
    ·have h21 : c.oth = []:=by simpa [SCmp.b] using h0
     clear h0
     refine Za S1 (YC.drop 6 C1) Y0 V V V ?_
     have V4:=O1.bound
     refine Zl (O1.mono L1) Y2 V V <| YK .eql V .i64 (c.l.length : Int) 1 V V V ?_
     exact RB S1 V (by unfold Z2 ZQ Yn ZZ; (simp_all [Cmp.b,SCmp.b]; rw [Bool.eq_iff_iff]; simp; omega))
    have h21 : c.oth ≠ []:=by simpa [SCmp.b] using h0
    clear h0
    exact RB S1 V (by unfold Z2 ZQ Yn ZZ; (simp_all [Cmp.b,SCmp.b]; done))
   have h20 : c.col ≠ []:=by simpa [SCmp.b] using h0
   clear h0
   exact RB S1 V (by unfold Z2 ZQ Yn ZZ; (simp_all [Cmp.b,SCmp.b]; done))
  refine Zj c.kind 5 V V V (fun h22=>?_) (fun h22=>?_)
  ·refine Za S1 (YC.drop 1 C1) Zy V V V <| Zn .eql V c.col [] V V V ?_
   refine WL.split (fun h0=>?_) (fun h0=>?_)
   ·have h23 : c.col = []:=by simpa [SCmp.b] using h0
    clear h0
    refine Za S1 (YC.drop 2 C1) Zy V V V <| Zn .eql V c.oth [] V V V ?_
    refine WL.split (fun h0=>?_) (fun h0=>?_)
    ·have h24 : c.oth = []:=by simpa [SCmp.b] using h0
     clear h0
     refine Za S1 (YC.drop 6 C1) Y0 V V V ?_
     have V5:=O1.bound
     refine Zl (O1.mono L1) Y2 V V <| YK .eql V .i64 (c.l.length : Int) 2 V V V ?_
     exact RB S1 V (by unfold Z2 ZQ Yn ZZ; (simp_all [Cmp.b,SCmp.b]; rw [Bool.eq_iff_iff]; simp; omega))
    have h24 : c.oth ≠ []:=by simpa [SCmp.b] using h0
    clear h0
    exact RB S1 V (by unfold Z2 ZQ Yn ZZ; (simp_all [Cmp.b,SCmp.b]; done))
   have h23 : c.col ≠ []:=by simpa [SCmp.b] using h0
   clear h0
   exact RB S1 V (by unfold Z2 ZQ Yn ZZ; (simp_all [Cmp.b,SCmp.b]; done))
  refine Zj c.kind 6 V V V (fun h25=>?_) (fun h25=>?_)
  ·refine Za S1 (YC.drop 1 C1) Zy V V V <| Zn .eql V c.col [] V V V ?_
   refine WL.split (fun h0=>?_) (fun h0=>?_)
   ·have h26 : c.col = []:=by simpa [SCmp.b] using h0
    clear h0
    refine Za S1 (YC.drop 2 C1) Zy V V V <| Zn .eql V c.oth [] V V V ?_
    refine WL.split (fun h0=>?_) (fun h0=>?_)
    ·have h27 : c.oth = []:=by simpa [SCmp.b] using h0
     clear h0
     refine Za S1 (YC.drop 6 C1) Y0 V V V ?_
     have V6:=O1.bound
     refine Zl (O1.mono L1) Y2 V V <| YK .eql V .i64 (c.l.length : Int) 2 V V V ?_
     exact RB S1 V (by unfold Z2 ZQ Yn ZZ; (simp_all [Cmp.b,SCmp.b]; rw [Bool.eq_iff_iff]; simp; omega))
    have h27 : c.oth ≠ []:=by simpa [SCmp.b] using h0
    clear h0
    exact RB S1 V (by unfold Z2 ZQ Yn ZZ; (simp_all [Cmp.b,SCmp.b]; done))
   have h26 : c.col ≠ []:=by simpa [SCmp.b] using h0
   clear h0
   exact RB S1 V (by unfold Z2 ZQ Yn ZZ; (simp_all [Cmp.b,SCmp.b]; done))
  exact RB S1 V (by unfold Z2 ZQ Yn ZZ; (simp_all [Cmp.b,SCmp.b]; done))
 refine Za S1 (YC.drop 0 C1) Z3 V V V ?_
 refine Zj c.kind 1 V V V (fun h28=>?_) (fun h28=>?_)
 ·refine Za S1 (YC.drop 1 C1) Zy V V V <| Zn .neq V c.col [] V V V ?_
  refine WL.split (fun h0=>?_) (fun h0=>?_)
  ·have h29 : c.col ≠ []:=by simpa [SCmp.b] using h0
   clear h0
   refine Za S1 (YC.drop 6 C1) Y0 V V V ?_
   have V7:=O1.bound
   refine Zl (O1.mono L1) Y2 V V ?_
   refine Zj (c.l.length : Int) 0 V V V (fun h30=>?_) (fun h30=>?_)
   ·refine Za S1 (YC.drop 2 C1) Zy V V V <| Zn .eql V c.oth [] V V V ?_
    refine WL.split (fun h0=>?_) (fun h0=>?_)
    ·have h31 : c.oth = []:=by simpa [SCmp.b] using h0
     clear h0
     refine Zc S1 (YC.drop 3 C1) [U c.v.k,U c.v.n,Zb c.v.s] X5 V V V V V ?_
     refine Zw S1 Ze5 V V V (Zfh S1.imm c.v _ (QN c.v B4 B5 B6)) (fun w4 G4 S4 L4=>?_)
     refine WL.split (fun (h32 : (Y1 c.v) = true)=>?_) (fun (h32 : (Y1 c.v) = false)=>?_)
     ·exact RB S4 V (by unfold Z2 ZQ Yn ZZ; (simp_all [Cmp.b,SCmp.b]; done))
     refine Za S4 (YC.drop 2 (C1.mono L4)) Zy V V V <| Zn .neq V c.oth [] V V V ?_
     refine WL.split (fun h0=>?_) (fun h0=>?_)
     ·have h33 : c.oth ≠ []:=by simpa [SCmp.b] using h0
      clear h0
      exact RB S4 V (by unfold Z2 ZQ Yn ZZ; (simp_all [Cmp.b,SCmp.b]; done))
     have h33 : c.oth = []:=by simpa [SCmp.b] using h0
     clear h0
     exact RB S4 V (by unfold Z2 ZQ Yn ZZ; (simp_all [Cmp.b,SCmp.b]; done))
    have h31 : c.oth ≠ []:=by simpa [SCmp.b] using h0
    clear h0
    refine Za S1 (YC.drop 2 C1) Zy V V V <| Zn .neq V c.oth [] V V V ?_
    refine WL.split (fun h0=>?_) (fun h0=>?_)
    ·have h34 : c.oth ≠ []:=by simpa [SCmp.b] using h0
     clear h0
     exact RB S1 V (by unfold Z2 ZQ Yn ZZ; (simp_all [Cmp.b,SCmp.b]; done))
    have h34 : c.oth = []:=by simpa [SCmp.b] using h0
    clear h0
    exact RB S1 V (by unfold Z2 ZQ Yn ZZ; (simp_all [Cmp.b,SCmp.b]; done))
   exact RB S1 V (by unfold Z2 ZQ Yn ZZ; (simp_all [Cmp.b,SCmp.b]; done))
  have h29 : c.col = []:=by simpa [SCmp.b] using h0
  clear h0
  exact RB S1 V (by unfold Z2 ZQ Yn ZZ; (simp_all [Cmp.b,SCmp.b]; done))
 refine Zj c.kind 2 V V V (fun h35=>?_) (fun h35=>?_)
 ·refine Za S1 (YC.drop 1 C1) Zy V V V <| Zn .neq V c.col [] V V V ?_
  refine WL.split (fun h0=>?_) (fun h0=>?_)
  ·have h36 : c.col ≠ []:=by simpa [SCmp.b] using h0
   clear h0
   refine Za S1 (YC.drop 6 C1) Y0 V V V ?_
   have V8:=O1.bound
   refine Zl (O1.mono L1) Y2 V V ?_
   refine Zj (c.l.length : Int) 0 V V V (fun h37=>?_) (fun h37=>?_)
   ·refine Za S1 (YC.drop 2 C1) Zy V V V <| Zn .eql V c.oth [] V V V ?_
    refine WL.split (fun h0=>?_) (fun h0=>?_)
    ·have h38 : c.oth = []:=by simpa [SCmp.b] using h0
     clear h0
     refine Zc S1 (YC.drop 3 C1) [U c.v.k,U c.v.n,Zb c.v.s] X5 V V V V V ?_
     refine Zw S1 Ze5 V V V (Zfh S1.imm c.v _ (QN c.v B4 B5 B6)) (fun w5 G5 S5 L5=>?_)
     refine WL.split (fun (h39 : (Y1 c.v) = true)=>?_) (fun (h39 : (Y1 c.v) = false)=>?_)
     ·exact RB S5 V (by unfold Z2 ZQ Yn ZZ; (simp_all [Cmp.b,SCmp.b]; done))
     refine Za S5 (YC.drop 2 (C1.mono L5)) Zy V V V <| Zn .neq V c.oth [] V V V ?_
     refine WL.split (fun h0=>?_) (fun h0=>?_)
     ·have h40 : c.oth ≠ []:=by simpa [SCmp.b] using h0
      clear h0
      exact RB S5 V (by unfold Z2 ZQ Yn ZZ; (simp_all [Cmp.b,SCmp.b]; done))
     have h40 : c.oth = []:=by simpa [SCmp.b] using h0
     clear h0
     exact RB S5 V (by unfold Z2 ZQ Yn ZZ; (simp_all [Cmp.b,SCmp.b]; done))
    have h38 : c.oth ≠ []:=by simpa [SCmp.b] using h0
    clear h0
    refine Za S1 (YC.drop 2 C1) Zy V V V <| Zn .neq V c.oth [] V V V ?_
    refine WL.split (fun h0=>?_) (fun h0=>?_)
    ·have h41 : c.oth ≠ []:=by simpa [SCmp.b] using h0
     clear h0
     exact RB S1 V (by unfold Z2 ZQ Yn ZZ; (simp_all [Cmp.b,SCmp.b]; done))
    have h41 : c.oth = []:=by simpa [SCmp.b] using h0
    clear h0
    exact RB S1 V (by unfold Z2 ZQ Yn ZZ; (simp_all [Cmp.b,SCmp.b]; done))
   exact RB S1 V (by unfold Z2 ZQ Yn ZZ; (simp_all [Cmp.b,SCmp.b]; done))
  have h36 : c.col = []:=by simpa [SCmp.b] using h0
  clear h0
  exact RB S1 V (by unfold Z2 ZQ Yn ZZ; (simp_all [Cmp.b,SCmp.b]; done))
 refine Zj c.kind 3 V V V (fun h42=>?_) (fun h42=>?_)
 ·refine Za S1 (YC.drop 1 C1) Zy V V V <| Zn .eql V c.col [] V V V ?_
  refine WL.split (fun h0=>?_) (fun h0=>?_)
  ·have h43 : c.col = []:=by simpa [SCmp.b] using h0
   clear h0
   refine Za S1 (YC.drop 2 C1) Zy V V V <| Zn .eql V c.oth [] V V V ?_
   refine WL.split (fun h0=>?_) (fun h0=>?_)
   ·have h44 : c.oth = []:=by simpa [SCmp.b] using h0
    clear h0
    exact RB S1 V (by unfold Z2 ZQ Yn ZZ; (simp_all [Cmp.b,SCmp.b]; done))
   have h44 : c.oth ≠ []:=by simpa [SCmp.b] using h0
   clear h0
   exact RB S1 V (by unfold Z2 ZQ Yn ZZ; (simp_all [Cmp.b,SCmp.b]; done))
  have h43 : c.col ≠ []:=by simpa [SCmp.b] using h0
  clear h0
  exact RB S1 V (by unfold Z2 ZQ Yn ZZ; (simp_all [Cmp.b,SCmp.b]; done))
 refine Zj c.kind 4 V V V (fun h45=>?_) (fun h45=>?_)
 ·refine Za S1 (YC.drop 1 C1) Zy V V V <| Zn .eql V c.col [] V V V ?_
  refine WL.split (fun h0=>?_) (fun h0=>?_)
  ·have h46 : c.col = []:=by simpa [SCmp.b] using h0
   clear h0
   refine Za S1 (YC.drop 2 C1) Zy V V V <| Zn .eql V c.oth [] V V V ?_
   refine WL.split (fun h0=>?_) (fun h0=>?_)
   ·have h47 : c.oth = []:=by simpa [SCmp.b] using h0
    clear h0
    exact RB S1 V (by unfold Z2 ZQ Yn ZZ; (simp_all [Cmp.b,SCmp.b]; done))
   have h47 : c.oth ≠ []:=by simpa [SCmp.b] using h0
   clear h0
   exact RB S1 V (by unfold Z2 ZQ Yn ZZ; (simp_all [Cmp.b,SCmp.b]; done))
  have h46 : c.col ≠ []:=by simpa [SCmp.b] using h0
  clear h0
  exact RB S1 V (by unfold Z2 ZQ Yn ZZ; (simp_all [Cmp.b,SCmp.b]; done))
 refine Zj c.kind 5 V V V (fun h48=>?_) (fun h48=>?_)
 ·refine Za S1 (YC.drop 1 C1) Zy V V V <| Zn .eql V c.col [] V V V ?_
  refine WL.split (fun h0=>?_) (fun h0=>?_)
  ·have h49 : c.col = []:=by simpa [SCmp.b] using h0
   clear h0
   refine Za S1 (YC.drop 2 C1) Zy V V V <| Zn .eql V c.oth [] V V V ?_
   refine WL.split (fun h0=>?_) (fun h0=>?_)
   ·have h50 : c.oth = []:=by simpa [SCmp.b] using h0
    clear h0
    exact RB S1 V (by unfold Z2 ZQ Yn ZZ; (simp_all [Cmp.b,SCmp.b]; done))
   have h50 : c.oth ≠ []:=by simpa [SCmp.b] using h0
   clear h0
   exact RB S1 V (by unfold Z2 ZQ Yn ZZ; (simp_all [Cmp.b,SCmp.b]; done))
  have h49 : c.col ≠ []:=by simpa [SCmp.b] using h0
  clear h0
  exact RB S1 V (by unfold Z2 ZQ Yn ZZ; (simp_all [Cmp.b,SCmp.b]; done))
 refine Zj c.kind 6 V V V (fun h51=>?_) (fun h51=>?_)
 ·refine Za S1 (YC.drop 1 C1) Zy V V V <| Zn .eql V c.col [] V V V ?_
  refine WL.split (fun h0=>?_) (fun h0=>?_)
  ·have h52 : c.col = []:=by simpa [SCmp.b] using h0
   clear h0
   refine Za S1 (YC.drop 2 C1) Zy V V V <| Zn .eql V c.oth [] V V V ?_
   refine WL.split (fun h0=>?_) (fun h0=>?_)
   ·have h53 : c.oth = []:=by simpa [SCmp.b] using h0
    clear h0
    exact RB S1 V (by unfold Z2 ZQ Yn ZZ; (simp_all [Cmp.b,SCmp.b]; done))
   have h53 : c.oth ≠ []:=by simpa [SCmp.b] using h0
   clear h0
   exact RB S1 V (by unfold Z2 ZQ Yn ZZ; (simp_all [Cmp.b,SCmp.b]; done))
  have h52 : c.col ≠ []:=by simpa [SCmp.b] using h0
  clear h0
  exact RB S1 V (by unfold Z2 ZQ Yn ZZ; (simp_all [Cmp.b,SCmp.b]; done))
 exact RB S1 V (by unfold Z2 ZQ Yn ZZ; (simp_all [Cmp.b,SCmp.b]; done))
theorem Zqb (d : Nat) : ∀ {G : GH} {w : World} (hG : G.In w) (c : Cond) (dep : Int) (cc : List Value) (hcc : (Xd d).rep G c cc) (hdep : 0 ≤ dep ∧ dep ≤ 13),CL Tryz.prog (nat_lit 343) #[.agg cc.toArray,U dep] [] w G fun _ _ r=>r = U (Ya d c dep):=by
 induction d
 ·intro G w hG c dep cc hcc hdep; exact (QP hcc).elim
 rename_i d ih
 intro G w hG c dep cc hcc hdep
 refine Zo ft [] Tryz.func343 V V ?_
 have hdep64 : ZM dep:=⟨by omega,by omega⟩
 have hS:=St.start (X:=[]) hG
 obtain ⟨lv1,rfl,B1,B2,B3,B4,B5,B6,O1⟩:=QQ hcc
 refine ZL [U c.kind,Zb c.col,Zb c.oth,U c.v.k,U c.v.n,Zb c.v.s,lv1] _ hS V V V (fun p1 w1 G1 L1 M1 C1 S1=>?_)
 refine Yk dep 12 V V V (fun h1=>?_) (fun h1=>?_)
 ·exact RI S1 V (by exact (ZpG ‹_›).symm)
 refine Zc S1 C1 [U c.kind,Zb c.col,Zb c.oth,U c.v.k,U c.v.n,Zb c.v.s,lv1] Z5 V V V V V ?_
 refine Zw S1 Zdy V V V (Zqa _ S1.imm c _ ((Xd _).mono L1 hcc)) (fun w2 G2 S2 L2=>?_)
 refine WL.split (fun (h2 : (Z2 c) = true)=>?_) (fun (h2 : (Z2 c) = false)=>?_)
 ·refine LP.go ft [] (fun m ρ1 w1=>∃ (k1 : Nat),∃ (nn : Int),∃ (G3 : GH),m = c.l.length - k1 ∧ G2.le G3 ∧ St w [] G G3 [] w1 ∧ FR ρ1 [(1,U dep),(2,Zu p1),(5,U nn),(6,U (k1 : Int))] ∧ k1 ≤ c.l.length ∧ nn = Y6 (fun x=>Ya d x (dep + 1)) (c.l.take k1) 1 ∧ 1 ≤ nn ∧ nn ≤ 61 + 60 * (13 - dep)) _ ⟨0,1,G2,V,(G2.le_refl),S2,(Yt V),(by omega),(by rfl),(by omega)⟩ ?_
  rintro m ρ1 w3 ⟨k1,nn,G3,rfl,L3,S3,F9,f1,f2,f3⟩
  refine F9.set ?_
  clear F9
  have hnn64 : ZM nn:=⟨by omega,by omega⟩
  refine Za S3 (YC.drop 6 (C1.mono (L2.trans L3))) Y0 V V V ?_
  have V1:=O1.bound
  have j1:=((L1.trans L2).trans L3)
  refine Zl (O1.mono j1) Y2 V V ?_
  refine Z1 (k1 : Int) (c.l.length : Int) V V V (fun h3=>?_) (fun h3=>?_)
  ·refine Qd nn 60 V V V (fun h4=>?_) (fun h4=>?_)
   ·refine Za S3 (YC.drop 6 (C1.mono (L2.trans L3))) Y0 V V V ?_
    refine WL.indexAddr (O1.mono j1) k1 (by omega) Y2 Z5 V V V V (fun p2 x1 U1 E1=>?_)
    obtain ⟨D1,C2,R1⟩:=E1
    obtain ⟨lv2,rfl,B7,ZK,hb9,Z9,Z7,Z6,O2⟩:=Za7 R1
    refine Zc S3 C2 [U x1.kind,Zb x1.col,Zb x1.oth,U x1.v.k,U x1.v.n,Zb x1.v.s,lv2] Z5 V V V V V ?_
    have hi1 : ZM (dep + 1):=by have:=hdep64.1; have:=hdep64.2; constructor <;> omega
    refine WL.ar .add V dep 1 V V V hi1 ?_
    refine Zw S3 ZcJ V V V (ih S3.imm x1 (dep + 1) _ R1 (by omega)) (fun w4 G4 S4 L4=>?_)
    have hi2 : ZM (nn + (Ya d x1 (dep + 1))):=by have:=hnn64.1; have:=hnn64.2; have:=(ZbN d x1 (dep + 1) (by omega)).1; have:=(ZbN d x1 (dep + 1) (by omega)).2; constructor <;> omega
    refine WL.ar .add V nn (Ya d x1 (dep + 1)) V V V hi2 ?_
    refine ZC k1 (by have:=Zm; omega) V V V ?_
    exact BK.mk' _ ⟨k1 + 1,(nn + (Ya d x1 (dep + 1))),G4,V,(L3.trans L4),S4,(Yt V),(by omega),(by exact ZkD ‹_› ‹_› (by omega)),(by have h9:=ZbN d x1 (dep + 1) (by omega); omega)⟩ (show c.l.length - (k1 + 1) < c.l.length - k1 by omega)
   exact RI S3 V (by exact (ZkW (by omega) ‹_› ‹_› (.inr (by omega))).symm)
  exact RI S3 V (by exact (ZkW (by omega) ‹_› ‹_› (.inl (by omega))).symm)
 exact RI S2 V (by exact (ZpH (by omega) ‹_›).symm)
theorem Zi2 {G : GH} {w : World} (hG : G.In w) (d : Nat) (c : Cond) (cc : List Value) (hcc : (Xd d).rep G c cc) : CL Tryz.prog (nat_lit 289) #[.agg cc.toArray] [] w G fun _ _ r=>r = .bool (decide (Ya d c 1 ≤ 60)):=by
 refine Zo ft [] Tryz.func289 V V ?_
 have hS:=St.start (X:=[]) hG
 obtain ⟨lv1,rfl,B1,B2,B3,B4,B5,B6,O1⟩:=Za7 hcc
 refine ZL [U c.kind,Zb c.col,Zb c.oth,U c.v.k,U c.v.n,Zb c.v.s,lv1] _ hS V V V (fun p1 w1 G1 L1 M1 C1 S1=>?_)
 refine Zc S1 C1 [U c.kind,Zb c.col,Zb c.oth,U c.v.k,U c.v.n,Zb c.v.s,lv1] Z5 V V V V V ?_
 refine Zw S1 ZcJ V V V (Zqb _ S1.imm c 1 _ ((Xd _).mono L1 hcc) (by omega)) (fun w2 G2 S2 L2=>?_)
 refine YK .leq V .i64 (Ya d c 1) 60 V V V ?_
 exact RB S2 V (by simp [Cmp.b])
theorem ZlU {G : GH} {w : World} (hG : G.In w) (d : Nat) (c : Cond) (l : List Col) (cc : List Value) (hcc : (Xd d).rep G c cc) (vl : Value) (hvl : Sl ColE 24 G vl l) : CL Tryz.prog (nat_lit 212) #[.agg cc.toArray,vl] [] w G fun _ _ r=>r = U (Xq d c l):=by
 refine Zo ft [] Tryz.func212 V V ?_
 have hS:=St.start (X:=[]) hG
 obtain ⟨lv1,rfl,B1,B2,B3,B4,B5,B6,O1⟩:=Za7 hcc
 refine ZL [U c.kind,Zb c.col,Zb c.oth,U c.v.k,U c.v.n,Zb c.v.s,lv1] _ hS V V V (fun p1 w1 G1 L1 M1 C1 S1=>?_)
 refine Zc S1 C1 [U c.kind,Zb c.col,Zb c.oth,U c.v.k,U c.v.n,Zb c.v.s,lv1] Z5 V V V V V ?_
 refine Zw S1 ZcE V V V (Zi2 S1.imm _ c _ ((Xd _).mono L1 hcc)) (fun w2 G2 S2 L2=>?_)
 refine WL.split (fun (h1 : (decide (Ya d c 1 ≤ 60)) = true)=>?_) (fun (h1 : (decide (Ya d c 1 ≤ 60)) = false)=>?_)
 ·refine Zc S2 (C1.mono L2) [U c.kind,Zb c.col,Zb c.oth,U c.v.k,U c.v.n,Zb c.v.s,lv1] Z5 V V V V V ?_
  refine Zw S2 ZcF V V V (Zo8 _ S2.imm c l _ ((Xd _).mono (L1.trans L2) hcc) _ (hvl.mono (L1.trans L2))) (fun w3 G3 S3 L3=>?_)
  exact RI S3 V (by unfold Xq; exact (if_pos (of_decide_eq_true ‹_›)).symm)
 exact RI S2 V (by unfold Xq; exact (if_neg (of_decide_eq_false ‹_›)).symm)
end Go.Civ
