/- Lemmas. -/
import Derived.Test.YthgeclodflmiaaaGreatD19
import Derived.Test.YthgeclodflmiaaaGreatD24
import Derived.Test.YthgeclodflmiaaaGreatD26
import Derived.Test.YthgeclodflmiaaaGreatD30
import Derived.Test.YthgeclodflmiaaaGreatProg
import Derived.KernelRfl
import Derived.WalkKit
set_option linter.unusedVariables false
set_option linter.unusedSimpArgs false
set_option maxRecDepth 100000
set_option maxHeartbeats 4000000
namespace Go.Civ
open Go.Proofs
theorem Zhy {G : GH} {w : World} (hG : G.In w) (t : Table) (ct : List Value) (hct : TableE.rep G t ct) (hv : Zu t = true) : CL Tryz.prog (nat_lit 60) #[.agg ct.toArray] [] w G fun G' _ r=>∃ r0 r1,r = .tuple #[r0,r1] ∧ Is PtE G' r0 (Y8 (Z5 t)) ∧ r1 = .bool ((Z5 t).isSome):=by
 refine Y2 ft [] Tryz.func60 U U ?_
 have hS:=St.start (X:=[]) hG
 obtain ⟨v1,v2,v3,rfl,B1,A1,B2,A2,A3,B3⟩:=Zy hct
 refine Zw [Za t.s.name,v1,S t.s.key,v2,v3,S t.last] _ hS U U U (fun p1 w1 G1 L1 M1 C1 S1=>?_)
 refine WL.alloc S1 Yl U U (fun b1 w2 N1 S2=>?_)
 obtain ⟨hg9,N9,h89,E9⟩:=ZY hv
 have hkl:=ZgZ hv
 have hk1:=Zha hv
 refine Z S2 (XC.drop 4 C1) YK U U U ?_
 have V1:=A3.bound
 refine Zl (A3.mono L1) Yn U U ?_
 have S4:=S2.pad
 refine LP.go ft [] (fun m ρ1 w1=>∃ (k1 : Nat),∃ (v4 : Value) (o1 : OB),∃ (G2 : GH),m = t.rows.length - k1 ∧ G1.le G2 ∧ St w [] G G2 [o1,some (b1,105,[S 0,S 0,Ze])] w1 ∧ ZS PtE 40 105 G2 v4 (Zb7 t.s.key.toNat t.rows k1) o1 ∧ FR ρ1 [(1,Zs p1),(2, .pointer (some ⟨b1,0,none⟩)),(4,v4),(17,v3),(18,S (t.rows.length : Int)),(19,S (k1 : Int))] ∧ k1 ≤ t.rows.length) _ ⟨0,(Ze),none,G1,U,(G1.le_refl),S4,(ZS.cast (ZS.nil PtE 40 105 G1) (by rfl)),(Zq U),(by omega)⟩ ?_
 rintro m ρ1 w3 ⟨k1,v4,o1,G2,rfl,L2,S3,R1,F9,f1⟩
 refine F9.set ?_
 clear F9
 have hpl:=Zg1 (k:=t.s.key.toNat) N9 k1
 refine Zp (k1 : Int) (t.rows.length : Int) U U U (fun h1=>?_) (fun h1=>?_)
 ·refine WL.indexAddr (A3.mono (L1.trans L2)) k1 (by omega) Yn Zz U U U U (fun p2 x1 U1 E1=>?_)
  obtain ⟨D1,C2,R2⟩:=E1
  obtain ⟨v5,rfl,A4,B4,B5,B6,B7⟩:=Z7 R2
  refine Zb S3 C2 [v5,S x1.r.d.a,S x1.r.d.b,S x1.r.x.a,S x1.r.x.b] Zz U U U U U ?_
  refine WL.alloc S3 Zz U U (fun b2 w4 N2 S5=>?_)
  refine Zi S5 0 [v5,S x1.r.d.a,S x1.r.d.b,S x1.r.x.a,S x1.r.x.b] U U Zz U U (by simp only [ZA,A4.oneC] <;> rfl) U U U (fun w5 S6=>?_)
  obtain ⟨G3,L3,C3,S7⟩:=S6.shutB N2
  have j1:=(L2.trans L3)
  refine Z S7 (XC.drop 4 (C1.mono j1)) YK U U U ?_
  refine Y3 (A3.mono ((L1.trans L2).trans L3)) k1 (by omega) Yn Zz U U U U (fun v6 A5=>?_)
  have V2:=A5.bound
  refine Zl A5 Yn U U ?_
  refine LP.go ft [] (fun m ρ1 w1=>∃ (k2 : Nat),∃ (v7 : Value) (o2 : OB),∃ (G4 : GH),m = (t.rows.take k1).length - k2 ∧ G3.le G4 ∧ St w [] G G4 [o2,some (b1,105,[S 0,S 0,Ze])] w1 ∧ ZS PtE 40 105 G4 v7 (Zb7 t.s.key.toNat t.rows k1 ++ Zb8 t.s.key.toNat x1 ((t.rows.take k1).take k2)) o2 ∧ FR ρ1 [(1,Zs p1),(2, .pointer (some ⟨b1,0,none⟩)),(4,v7),(6, .pointer (some (⟨b2,0,none⟩ : Addr))),(17,v3),(18,S (t.rows.length : Int)),(19,S (k1 : Int)),(27,v6),(28,S (((t.rows.take k1).length : Nat) : Int)),(29,S (k2 : Int))] ∧ k2 ≤ (t.rows.take k1).length) _ ⟨0,v4,o1,G3,U,(G3.le_refl),S7,(ZS.cast (R1.mono L3) (by (simp [Zb8]))),(Zq U),(by omega)⟩ ?_
  rintro m ρ1 w6 ⟨k2,v7,o2,G4,rfl,L4,S8,R3,F9,f2⟩
  refine F9.set ?_
  clear F9
  have hpl:=Zg1 (k:=t.s.key.toNat) N9 k1
  have hpi:=Zkw (k:=t.s.key.toNat) (a:=x1) (m:=(t.rows.take k1).take k2)
  have hpt:=List.length_take_le' k2 (t.rows.take k1)
  have hpu:=List.length_take_le' k1 t.rows
  refine Zp (k2 : Int) (((t.rows.take k1).length : Nat) : Int) U U U (fun h2=>?_) (fun h2=>?_)
  ·refine WL.indexAddr (A5.mono L4) k2 (by omega) Yn Zz U U U U (fun p3 x2 U2 E2=>?_)
   obtain ⟨D2,C4,R4⟩:=E2
   obtain ⟨v9,rfl,A6,B8,B9,B10,Y6⟩:=Z7 R4
   refine Zb S8 C4 [v9,S x2.r.d.a,S x2.r.d.b,S x2.r.x.a,S x2.r.x.b] Zz U U U U U ?_
   refine WL.alloc S8 Zz U U (fun b3 w7 N3 S9=>?_)
   refine Zi S9 0 [v9,S x2.r.d.a,S x2.r.d.b,S x2.r.x.a,S x2.r.x.b] U U Zz U U (by simp only [ZA,A6.oneC] <;> rfl) U U U (fun w9 S10=>?_)
   obtain ⟨G5,L5,C5,S11⟩:=S10.shutB N3
   have j2:=(L4.trans L5)
   refine Z S11 (XC.drop 0 (XC.drop 2 (XC.drop 1 (C3.mono j2)))) Zt U U U <| Z S11 (XC.drop 0 (XC.drop 2 (XC.drop 1 C5))) Zt U U U <| ZeI x1.r.x.a x2.r.x.a U U U <| Z S11 (XC.drop 0 (XC.drop 0 (XC.drop 1 (C3.mono j2)))) Zt U U U <| Z S11 (XC.drop 0 (XC.drop 0 (XC.drop 1 C5))) Zt U U U <| ZeI x1.r.d.a x2.r.d.a U U U <| WL.build _ [(0,[S (max x1.r.x.a x2.r.x.a)]),(1,[S (max x1.r.d.a x2.r.d.a)])] [S (max x1.r.x.a x2.r.x.a),S (max x1.r.d.a x2.r.d.a),Ze] Yl U ZkX U U U U ?_
   refine WL.alloc S11 Yl U U (fun b4 w10 N4 S12=>?_)
   refine Zi S12 0 [S (max x1.r.x.a x2.r.x.a),S (max x1.r.d.a x2.r.d.a),Ze] U U Yl U U U U U U (fun w11 S13=>?_)
   have hvka:=hkl x1 (List.mem_of_getElem? (by assumption : t.rows[k1]? = some x1))
   have hvkb:=hkl x2 (List.mem_of_mem_take (List.mem_of_getElem? U2))
   rcases Bool.eq_false_or_eq_true (XX (max x1.r.x.a x2.r.x.a) x1.r.x) with h3 | h3
   ·rcases Bool.eq_false_or_eq_true (XX (max x1.r.x.a x2.r.x.a) x2.r.x) with h4 | h4
    ·rcases Bool.eq_false_or_eq_true (XX (max x1.r.d.a x2.r.d.a) x1.r.d) with h5 | h5
     ·rcases Bool.eq_false_or_eq_true (XX (max x1.r.d.a x2.r.d.a) x2.r.d) with h6 | h6
      ·have j3:=((j1.trans L4).trans L5)
       refine drT [36,42,43,44] [(54, .agg #[S x1.r.x.a,S x1.r.x.b]),(56,S (max x1.r.x.a x2.r.x.a)),(57, .bool true),(61, .agg #[S x2.r.x.a,S x2.r.x.b]),(63,S (max x1.r.x.a x2.r.x.a)),(64, .bool true),(69, .agg #[S x1.r.d.a,S x1.r.d.b]),(71,S (max x1.r.d.a x2.r.d.a)),(72, .bool true),(77, .agg #[S x2.r.d.a,S x2.r.d.b]),(79,S (max x1.r.d.a x2.r.d.a)),(80, .bool true),(84,v5),(87,S t.s.key),(90,v9),(93,S t.s.key)] S13 ⟨fun _ hSw=>Zb hSw (XC.drop 2 (XC.drop 1 (C3.mono j2))) [S x1.r.x.a,S x1.r.x.b] Z2 U U U U U <| nu U U,fun _ hSw=>Ya hSw 0 _ _ _ 0 _ U U Zt U U U <| nu U U,fun _ hSw=>Z3 hSw Zaz U U U (Za0 hSw.imm x1.r.x (max x1.r.x.a x2.r.x.a) _ (Z1 x1.r.x B6 B7)) (congrArg Value.bool h3.symm),fun _ hSw=>Zb hSw (XC.drop 2 (XC.drop 1 C5)) [S x2.r.x.a,S x2.r.x.b] Z2 U U U U U <| nu U U,fun _ hSw=>Ya hSw 0 _ _ _ 0 _ U U Zt U U U <| nu U U,fun _ hSw=>Z3 hSw Zaz U U U (Za0 hSw.imm x2.r.x (max x1.r.x.a x2.r.x.a) _ (Z1 x2.r.x B10 Y6)) (congrArg Value.bool h4.symm),fun _ hSw=>Zb hSw (XC.drop 0 (XC.drop 1 (C3.mono j2))) [S x1.r.d.a,S x1.r.d.b] Z2 U U U U U <| nu U U,fun _ hSw=>Ya hSw 0 _ _ _ 1 _ U U Zt U U U <| nu U U,fun _ hSw=>Z3 hSw Zaz U U U (Za0 hSw.imm x1.r.d (max x1.r.d.a x2.r.d.a) _ (Z1 x1.r.d B4 B5)) (congrArg Value.bool h5.symm),fun _ hSw=>Zb hSw (XC.drop 0 (XC.drop 1 C5)) [S x2.r.d.a,S x2.r.d.b] Z2 U U U U U <| nu U U,fun _ hSw=>Ya hSw 0 _ _ _ 1 _ U U Zt U U U <| nu U U,fun _ hSw=>Z3 hSw Zaz U U U (Za0 hSw.imm x2.r.d (max x1.r.d.a x2.r.d.a) _ (Z1 x2.r.d B8 B9)) (congrArg Value.bool h6.symm),fun _ hSw=>Z hSw (XC.drop 0 (C3.mono j2)) ZK U U U <| nu U U,fun _ hSw=>Z hSw (XC.drop 2 (XC.drop 0 (C1.mono j3))) Zt U U U <| nu U U,fun _ hSw=>Z hSw (XC.drop 0 C5) ZK U U U <| nu U U,fun _ hSw=>Z hSw (XC.drop 2 (XC.drop 0 (C1.mono j3))) Zt U U U <| nu U U,trivial⟩ (fun w12 S14=>?_)
       refine TGI.toTG (I:=fun w9=>GH.In G5 w9) _ _ _ _ ?_
       refine TGI.fork 3 [36,42,43,44] [36,42] U U (by decide) (by decide) (TAI.cons U ?_ (TAI.cons U ?_ TAI.nil))
       ·have j4:=((L3.trans L4).trans L5)
        refine Y3 (A4.mono j4) ((t.s.key).toNat) (by omega) Yv Z6 U U U (congrArg (Value.int .i64) (Int.toNat_of_nonneg (by omega)).symm) (fun v10 A7=>?_)
        refine ⟨fun _=>S14.down S14.le (G5.le_refl),S14.imm,?_⟩
        refine TGI.fork 2 [42,43,44] [42] U U (by decide) (by decide) (TAI.cons U ?_ TAI.nil)
        refine Y3 (A6.mono L5) ((t.s.key).toNat) (by omega) Yv Z6 U U U (congrArg (Value.int .i64) (Int.toNat_of_nonneg (by omega)).symm) (fun v11 A8=>?_)
        refine ⟨fun _=>S14.down S14.le (G5.le_refl),S14.imm,?_⟩
        refine TGI.fork 1 [43,44] [43] U U (by decide) (by decide) (TAI.cons U ?_ TAI.nil)
        refine Zr S14 Zaq U U U (ZcL S14.imm (x1.v.take ((t.s.key).toNat)) (x2.v.take ((t.s.key).toNat)) _ A7 _ A8) (fun w13 G6 S15 L6=>?_)
        refine WL.split (fun (h7 : (decide ((x1.v.take ((t.s.key).toNat)) = (x2.v.take ((t.s.key).toNat)))) = true)=>?_) (fun (h7 : (decide ((x1.v.take ((t.s.key).toNat)) = (x2.v.take ((t.s.key).toNat)))) = false)=>?_)
        ·refine ⟨fun h=>absurd h (by decide),(S15.imm.down L6),?_⟩
         refine TGI.quiet 0 [44] 44 U U U U U (by decide) (S15.imm.down L6) (fun w9 _ K9 k9=>Zbk U U k9) ?_
         refine TGI.fin U ?_
         refine Z S15 (XC.drop 0 (C3.mono (j2.trans L6))) ZK U U U ?_
         have j5:=(j4.trans L6)
         refine WL.store S15 0 _ _ _ 2 _ [v5] [S (max x1.r.x.a x2.r.x.a),S (max x1.r.d.a x2.r.d.a),v5] _ U (A4.mono j5).cells1 ZK U (leT U) (by simp only [ZA,(A4.mono j5).oneC] <;> rfl) U U U U U (fun w14 S16=>?_)
         refine Z S16 (XC.drop 0 (C5.mono L6)) ZK U U U <| Z S16 (XC.drop 0 (C3.mono (j2.trans L6))) ZK U U U ?_
         have j6:=(L5.trans L6)
         refine Zr S16 ZkY U U U (ZgJ S16.imm x2.v x1.v _ (A6.mono j6) _ (A4.mono j5)) (fun w15 G7 S17 L7=>?_)
         refine Zp (XL x2.v x1.v) 0 U U U (fun h8=>?_) (fun h8=>?_)
         ·refine Z S17 (XC.drop 0 (C5.mono (L6.trans L7))) ZK U U U ?_
          have j7:=(j6.trans L7)
          refine WL.store S17 0 _ _ _ 2 _ [v9] [S (max x1.r.x.a x2.r.x.a),S (max x1.r.d.a x2.r.d.a),v9] _ U (A6.mono j7).cells1 ZK U (leT U) (by simp only [ZA,(A6.mono j7).oneC] <;> rfl) U U U U U (fun w16 S18=>?_)
          refine Yg S18 0 _ _ _ 0 [S (max x1.r.x.a x2.r.x.a),S (max x1.r.d.a x2.r.d.a),v9] U U U Yl U U U ?_
          refine WL.buildSlice _ [(0,[S (max x1.r.x.a x2.r.x.a),S (max x1.r.d.a x2.r.d.a),v9])] [S (max x1.r.x.a x2.r.x.a),S (max x1.r.d.a x2.r.d.a),v9] S18 ZcY U U U U (fun z hz=>by match z,hz with | [z0,z1,z2],_=>rfl) (fun b5 w17 N5 S19=>?_)
          refine WL.push (m:=([(Pt.mk (max x1.r.x.a x2.r.x.a) (max x1.r.d.a x2.r.d.a) x2.v)] : List Pt)) ZcY U U U (R3.mono j7) S19 2 U 0 _ _ _ _ _ U ⟨[S (max x1.r.x.a x2.r.x.a),S (max x1.r.d.a x2.r.d.a),v9],_,U,(Qv (Pt.mk (max x1.r.x.a x2.r.x.a) (max x1.r.d.a x2.r.d.a) x2.v) (Za1 B6 B10) (Za1 B4 B8) (A6.mono j7)),U⟩ U (by have:=Zc; simp only [Zx]; omega) (by have:=Zc; simp only [Zx]; omega) U U U (fun v12 o3 w18 R5 S20=>?_)
          have S21:=S20.tail
          refine Zj k2 (by have:=Zc; omega) U U U ?_
          have S22:=S21.tail
          exact BK.mk' _ ⟨k2 + 1,v12,o3,G7,U,(L4.trans j7),S22,(ZS.cast R5 (by ((rw [Zev ‹_› ‹_› ‹_› ‹_› ‹_› ‹_›,List.append_assoc]; first | rw [ZgX ‹_›] | rw [ZgY ‹_›])))),(Zq U),(by omega)⟩ (show (t.rows.take k1).length - (k2 + 1) < (t.rows.take k1).length - k2 by omega)
         refine Yg S17 0 _ _ _ 0 [S (max x1.r.x.a x2.r.x.a),S (max x1.r.d.a x2.r.d.a),v5] U U U Yl U U U ?_
         refine WL.buildSlice _ [(0,[S (max x1.r.x.a x2.r.x.a),S (max x1.r.d.a x2.r.d.a),v5])] [S (max x1.r.x.a x2.r.x.a),S (max x1.r.d.a x2.r.d.a),v5] S17 ZcY U U U U (fun z hz=>by match z,hz with | [z0,z1,z2],_=>rfl) (fun b6 w19 N6 S23=>?_)
         refine WL.push (m:=([(Pt.mk (max x1.r.x.a x2.r.x.a) (max x1.r.d.a x2.r.d.a) x1.v)] : List Pt)) ZcY U U U (R3.mono (j6.trans L7)) S23 2 U 0 _ _ _ _ _ U ⟨[S (max x1.r.x.a x2.r.x.a),S (max x1.r.d.a x2.r.d.a),v5],_,U,(Qv (Pt.mk (max x1.r.x.a x2.r.x.a) (max x1.r.d.a x2.r.d.a) x1.v) (Za1 B6 B10) (Za1 B4 B8) (A4.mono (j5.trans L7))),U⟩ U (by have:=Zc; simp only [Zx]; omega) (by have:=Zc; simp only [Zx]; omega) U U U (fun v13 o4 w20 R6 S24=>?_)
         have S25:=S24.tail
         refine Zj k2 (by have:=Zc; omega) U U U ?_
         have S26:=S25.tail
         exact BK.mk' _ ⟨k2 + 1,v13,o4,G7,U,(L4.trans (j6.trans L7)),S26,(ZS.cast R6 (by ((rw [Zev ‹_› ‹_› ‹_› ‹_› ‹_› ‹_›,List.append_assoc]; first | rw [ZgX ‹_›] | rw [ZgY ‹_›])))),(Zq U),(by omega)⟩ (show (t.rows.take k1).length - (k2 + 1) < (t.rows.take k1).length - k2 by omega)
        refine ⟨fun h=>absurd h (by decide),(S15.imm.down L6),?_⟩
        refine TGI.quiet 0 [44] 44 U U U U U (by decide) (S15.imm.down L6) (fun w9 _ K9 k9=>Zbk U U k9) ?_
        refine TGI.fin U ?_
        refine Zj k2 (by have:=Zc; omega) U U U ?_
        have S27:=S15.tail
        exact BK.mk' _ ⟨k2 + 1,v7,o2,G6,U,(L4.trans (L5.trans L6)),S27,(ZS.cast (R3.mono (L5.trans L6)) (by ((rw [Zaw ‹_› (by first | exact .inl ‹_› | exact .inr (.inl ‹_›) | exact .inr (.inr (.inl ‹_›)) | exact .inr (.inr (.inr (.inl ‹_›))) | exact .inr (.inr (.inr (.inr ‹_›))))])))),(Zq U),(by omega)⟩ (show (t.rows.take k1).length - (k2 + 1) < (t.rows.take k1).length - k2 by omega)
       refine Y3 (A6.mono L5) ((t.s.key).toNat) (by omega) Yv Z6 U U U (congrArg (Value.int .i64) (Int.toNat_of_nonneg (by omega)).symm) (fun v14 A9=>?_)
       refine ⟨fun _=>S14.down S14.le (G5.le_refl),S14.imm,?_⟩
       refine TGI.fork 2 [36,43,44] [36] U U (by decide) (by decide) (TAI.cons U ?_ TAI.nil)
       refine Y3 (A4.mono ((L3.trans L4).trans L5)) ((t.s.key).toNat) (by omega) Yv Z6 U U U (congrArg (Value.int .i64) (Int.toNat_of_nonneg (by omega)).symm) (fun v15 A10=>?_)
       refine ⟨fun _=>S14.down S14.le (G5.le_refl),S14.imm,?_⟩
       refine TGI.fork 1 [43,44] [43] U U (by decide) (by decide) (TAI.cons U ?_ TAI.nil)
       refine Zr S14 Zaq U U U (ZcL S14.imm (x1.v.take ((t.s.key).toNat)) (x2.v.take ((t.s.key).toNat)) _ A10 _ A9) (fun w21 G9 S28 L9=>?_)
       refine WL.split (fun (h9 : (decide ((x1.v.take ((t.s.key).toNat)) = (x2.v.take ((t.s.key).toNat)))) = true)=>?_) (fun (h9 : (decide ((x1.v.take ((t.s.key).toNat)) = (x2.v.take ((t.s.key).toNat)))) = false)=>?_)
       ·refine ⟨fun h=>absurd h (by decide),(S28.imm.down L9),?_⟩
        refine TGI.quiet 0 [44] 44 U U U U U (by decide) (S28.imm.down L9) (fun w9 _ K9 k9=>Zbk U U k9) ?_
        refine TGI.fin U ?_
        refine Z S28 (XC.drop 0 (C3.mono ((L4.trans L5).trans L9))) ZK U U U ?_
        refine WL.store S28 0 _ _ _ 2 _ [v5] [S (max x1.r.x.a x2.r.x.a),S (max x1.r.d.a x2.r.d.a),v5] _ U (A4.mono (((L3.trans L4).trans L5).trans L9)).cells1 ZK U (leT U) (by simp only [ZA,(A4.mono (((L3.trans L4).trans L5).trans L9)).oneC] <;> rfl) U U U U U (fun w22 S29=>?_)
        refine Z S29 (XC.drop 0 (C5.mono L9)) ZK U U U <| Z S29 (XC.drop 0 (C3.mono ((L4.trans L5).trans L9))) ZK U U U ?_
        refine Zr S29 ZkY U U U (ZgJ S29.imm x2.v x1.v _ (A6.mono (L5.trans L9)) _ (A4.mono (((L3.trans L4).trans L5).trans L9))) (fun w23 G10 S30 L10=>?_)
        refine Zp (XL x2.v x1.v) 0 U U U (fun h10=>?_) (fun h10=>?_)
        ·refine Z S30 (XC.drop 0 (C5.mono (L9.trans L10))) ZK U U U ?_
         refine WL.store S30 0 _ _ _ 2 _ [v9] [S (max x1.r.x.a x2.r.x.a),S (max x1.r.d.a x2.r.d.a),v9] _ U (A6.mono ((L5.trans L9).trans L10)).cells1 ZK U (leT U) (by simp only [ZA,(A6.mono ((L5.trans L9).trans L10)).oneC] <;> rfl) U U U U U (fun w24 S31=>?_)
         refine Yg S31 0 _ _ _ 0 [S (max x1.r.x.a x2.r.x.a),S (max x1.r.d.a x2.r.d.a),v9] U U U Yl U U U ?_
         refine WL.buildSlice _ [(0,[S (max x1.r.x.a x2.r.x.a),S (max x1.r.d.a x2.r.d.a),v9])] [S (max x1.r.x.a x2.r.x.a),S (max x1.r.d.a x2.r.d.a),v9] S31 ZcY U U U U (fun z hz=>by match z,hz with | [z0,z1,z2],_=>rfl) (fun b7 w25 N7 S32=>?_)
         refine WL.push (m:=([(Pt.mk (max x1.r.x.a x2.r.x.a) (max x1.r.d.a x2.r.d.a) x2.v)] : List Pt)) ZcY U U U (R3.mono ((L5.trans L9).trans L10)) S32 2 U 0 _ _ _ _ _ U ⟨[S (max x1.r.x.a x2.r.x.a),S (max x1.r.d.a x2.r.d.a),v9],_,U,(Qv (Pt.mk (max x1.r.x.a x2.r.x.a) (max x1.r.d.a x2.r.d.a) x2.v) (Za1 B6 B10) (Za1 B4 B8) (A6.mono ((L5.trans L9).trans L10))),U⟩ U (by have:=Zc; simp only [Zx]; omega) (by have:=Zc; simp only [Zx]; omega) U U U (fun v16 o5 w26 R7 S33=>?_)
         have S34:=S33.tail
         refine Zj k2 (by have:=Zc; omega) U U U ?_
         have S35:=S34.tail
         exact BK.mk' _ ⟨k2 + 1,v16,o5,G10,U,(L4.trans ((L5.trans L9).trans L10)),S35,(ZS.cast R7 (by ((rw [Zev ‹_› ‹_› ‹_› ‹_› ‹_› ‹_›,List.append_assoc]; first | rw [ZgX ‹_›] | rw [ZgY ‹_›])))),(Zq U),(by omega)⟩ (show (t.rows.take k1).length - (k2 + 1) < (t.rows.take k1).length - k2 by omega)
        refine Yg S30 0 _ _ _ 0 [S (max x1.r.x.a x2.r.x.a),S (max x1.r.d.a x2.r.d.a),v5] U U U Yl U U U ?_
        refine WL.buildSlice _ [(0,[S (max x1.r.x.a x2.r.x.a),S (max x1.r.d.a x2.r.d.a),v5])] [S (max x1.r.x.a x2.r.x.a),S (max x1.r.d.a x2.r.d.a),v5] S30 ZcY U U U U (fun z hz=>by match z,hz with | [z0,z1,z2],_=>rfl) (fun b8 w27 N8 S36=>?_)
        refine WL.push (m:=([(Pt.mk (max x1.r.x.a x2.r.x.a) (max x1.r.d.a x2.r.d.a) x1.v)] : List Pt)) ZcY U U U (R3.mono ((L5.trans L9).trans L10)) S36 2 U 0 _ _ _ _ _ U ⟨[S (max x1.r.x.a x2.r.x.a),S (max x1.r.d.a x2.r.d.a),v5],_,U,(Qv (Pt.mk (max x1.r.x.a x2.r.x.a) (max x1.r.d.a x2.r.d.a) x1.v) (Za1 B6 B10) (Za1 B4 B8) (A4.mono ((((L3.trans L4).trans L5).trans L9).trans L10))),U⟩ U (by have:=Zc; simp only [Zx]; omega) (by have:=Zc; simp only [Zx]; omega) U U U (fun v17 o6 w28 R8 S37=>?_)
        have S38:=S37.tail
        refine Zj k2 (by have:=Zc; omega) U U U ?_
        have S39:=S38.tail
        exact BK.mk' _ ⟨k2 + 1,v17,o6,G10,U,(L4.trans ((L5.trans L9).trans L10)),S39,(ZS.cast R8 (by ((rw [Zev ‹_› ‹_› ‹_› ‹_› ‹_› ‹_›,List.append_assoc]; first | rw [ZgX ‹_›] | rw [ZgY ‹_›])))),(Zq U),(by omega)⟩ (show (t.rows.take k1).length - (k2 + 1) < (t.rows.take k1).length - k2 by omega)
       refine ⟨fun h=>absurd h (by decide),(S28.imm.down L9),?_⟩
       refine TGI.quiet 0 [44] 44 U U U U U (by decide) (S28.imm.down L9) (fun w9 _ K9 k9=>Zbk U U k9) ?_
       refine TGI.fin U ?_
       refine Zj k2 (by have:=Zc; omega) U U U ?_
       have S40:=S28.tail
       exact BK.mk' _ ⟨k2 + 1,v7,o2,G9,U,(L4.trans (L5.trans L9)),S40,(ZS.cast (R3.mono (L5.trans L9)) (by ((rw [Zaw ‹_› (by first | exact .inl ‹_› | exact .inr (.inl ‹_›) | exact .inr (.inr (.inl ‹_›)) | exact .inr (.inr (.inr (.inl ‹_›))) | exact .inr (.inr (.inr (.inr ‹_›))))])))),(Zq U),(by omega)⟩ (show (t.rows.take k1).length - (k2 + 1) < (t.rows.take k1).length - k2 by omega)
      refine drT [36,42,43,44] [(54, .agg #[S x1.r.x.a,S x1.r.x.b]),(56,S (max x1.r.x.a x2.r.x.a)),(57, .bool true),(61, .agg #[S x2.r.x.a,S x2.r.x.b]),(63,S (max x1.r.x.a x2.r.x.a)),(64, .bool true),(69, .agg #[S x1.r.d.a,S x1.r.d.b]),(71,S (max x1.r.d.a x2.r.d.a)),(72, .bool true),(77, .agg #[S x2.r.d.a,S x2.r.d.b]),(79,S (max x1.r.d.a x2.r.d.a)),(80, .bool false)] S13 ⟨fun _ hSw=>Zb hSw (XC.drop 2 (XC.drop 1 (C3.mono j2))) [S x1.r.x.a,S x1.r.x.b] Z2 U U U U U <| nu U U,fun _ hSw=>Ya hSw 0 _ _ _ 0 _ U U Zt U U U <| nu U U,fun _ hSw=>Z3 hSw Zaz U U U (Za0 hSw.imm x1.r.x (max x1.r.x.a x2.r.x.a) _ (Z1 x1.r.x B6 B7)) (congrArg Value.bool h3.symm),fun _ hSw=>Zb hSw (XC.drop 2 (XC.drop 1 C5)) [S x2.r.x.a,S x2.r.x.b] Z2 U U U U U <| nu U U,fun _ hSw=>Ya hSw 0 _ _ _ 0 _ U U Zt U U U <| nu U U,fun _ hSw=>Z3 hSw Zaz U U U (Za0 hSw.imm x2.r.x (max x1.r.x.a x2.r.x.a) _ (Z1 x2.r.x B10 Y6)) (congrArg Value.bool h4.symm),fun _ hSw=>Zb hSw (XC.drop 0 (XC.drop 1 (C3.mono j2))) [S x1.r.d.a,S x1.r.d.b] Z2 U U U U U <| nu U U,fun _ hSw=>Ya hSw 0 _ _ _ 1 _ U U Zt U U U <| nu U U,fun _ hSw=>Z3 hSw Zaz U U U (Za0 hSw.imm x1.r.d (max x1.r.d.a x2.r.d.a) _ (Z1 x1.r.d B4 B5)) (congrArg Value.bool h5.symm),fun _ hSw=>Zb hSw (XC.drop 0 (XC.drop 1 C5)) [S x2.r.d.a,S x2.r.d.b] Z2 U U U U U <| nu U U,fun _ hSw=>Ya hSw 0 _ _ _ 1 _ U U Zt U U U <| nu U U,fun _ hSw=>Z3 hSw Zaz U U U (Za0 hSw.imm x2.r.d (max x1.r.d.a x2.r.d.a) _ (Z1 x2.r.d B8 B9)) (congrArg Value.bool h6.symm),trivial⟩ (fun w29 S41=>?_)
      refine TGI.toTG (I:=fun w9=>GH.In G5 w9) _ _ _ _ ?_
      refine TGI.fork 3 [36,42,43,44] [36,42] U U (by decide) (by decide) (TAI.cons U ?_ (TAI.cons U ?_ TAI.nil))
      ·refine WL.no U U ?_
       refine ⟨fun _=>S41.down S41.le (G5.le_refl),S41.imm,?_⟩
       refine TGI.fork 2 [42,43,44] [42] U U (by decide) (by decide) (TAI.cons U ?_ TAI.nil)
       refine WL.no U U ?_
       refine ⟨fun _=>S41.down S41.le (G5.le_refl),S41.imm,?_⟩
       refine TGI.fork 1 [43,44] [43] U U (by decide) (by decide) (TAI.cons U ?_ TAI.nil)
       refine WL.no U U ?_
       refine ⟨fun h=>absurd h (by decide),S41.imm,?_⟩
       refine TGI.quiet 0 [44] 44 U U U U U (by decide) S41.imm (fun w9 _ K9 k9=>Zao U U k9) ?_
       refine TGI.fin U ?_
       refine Zj k2 (by have:=Zc; omega) U U U ?_
       have S42:=S41.tail
       exact BK.mk' _ ⟨k2 + 1,v7,o2,G5,U,j2,S42,(ZS.cast (R3.mono L5) (by ((rw [Zaw ‹_› (by first | exact .inl ‹_› | exact .inr (.inl ‹_›) | exact .inr (.inr (.inl ‹_›)) | exact .inr (.inr (.inr (.inl ‹_›))) | exact .inr (.inr (.inr (.inr ‹_›))))])))),(Zq U),(by omega)⟩ (show (t.rows.take k1).length - (k2 + 1) < (t.rows.take k1).length - k2 by omega)
      refine WL.no U U ?_
      refine ⟨fun _=>S41.down S41.le (G5.le_refl),S41.imm,?_⟩
      refine TGI.fork 2 [36,43,44] [36] U U (by decide) (by decide) (TAI.cons U ?_ TAI.nil)
      refine WL.no U U ?_
      refine ⟨fun _=>S41.down S41.le (G5.le_refl),S41.imm,?_⟩
      refine TGI.fork 1 [43,44] [43] U U (by decide) (by decide) (TAI.cons U ?_ TAI.nil)
      refine WL.no U U ?_
      refine ⟨fun h=>absurd h (by decide),S41.imm,?_⟩
      refine TGI.quiet 0 [44] 44 U U U U U (by decide) S41.imm (fun w9 _ K9 k9=>Zao U U k9) ?_
      refine TGI.fin U ?_
      refine Zj k2 (by have:=Zc; omega) U U U ?_
      have S43:=S41.tail
      exact BK.mk' _ ⟨k2 + 1,v7,o2,G5,U,j2,S43,(ZS.cast (R3.mono L5) (by ((rw [Zaw ‹_› (by first | exact .inl ‹_› | exact .inr (.inl ‹_›) | exact .inr (.inr (.inl ‹_›)) | exact .inr (.inr (.inr (.inl ‹_›))) | exact .inr (.inr (.inr (.inr ‹_›))))])))),(Zq U),(by omega)⟩ (show (t.rows.take k1).length - (k2 + 1) < (t.rows.take k1).length - k2 by omega)
     refine drT [36,42,43,44] [(54, .agg #[S x1.r.x.a,S x1.r.x.b]),(56,S (max x1.r.x.a x2.r.x.a)),(57, .bool true),(61, .agg #[S x2.r.x.a,S x2.r.x.b]),(63,S (max x1.r.x.a x2.r.x.a)),(64, .bool true),(69, .agg #[S x1.r.d.a,S x1.r.d.b]),(71,S (max x1.r.d.a x2.r.d.a)),(72, .bool false)] S13 ⟨fun _ hSw=>Zb hSw (XC.drop 2 (XC.drop 1 (C3.mono j2))) [S x1.r.x.a,S x1.r.x.b] Z2 U U U U U <| nu U U,fun _ hSw=>Ya hSw 0 _ _ _ 0 _ U U Zt U U U <| nu U U,fun _ hSw=>Z3 hSw Zaz U U U (Za0 hSw.imm x1.r.x (max x1.r.x.a x2.r.x.a) _ (Z1 x1.r.x B6 B7)) (congrArg Value.bool h3.symm),fun _ hSw=>Zb hSw (XC.drop 2 (XC.drop 1 C5)) [S x2.r.x.a,S x2.r.x.b] Z2 U U U U U <| nu U U,fun _ hSw=>Ya hSw 0 _ _ _ 0 _ U U Zt U U U <| nu U U,fun _ hSw=>Z3 hSw Zaz U U U (Za0 hSw.imm x2.r.x (max x1.r.x.a x2.r.x.a) _ (Z1 x2.r.x B10 Y6)) (congrArg Value.bool h4.symm),fun _ hSw=>Zb hSw (XC.drop 0 (XC.drop 1 (C3.mono j2))) [S x1.r.d.a,S x1.r.d.b] Z2 U U U U U <| nu U U,fun _ hSw=>Ya hSw 0 _ _ _ 1 _ U U Zt U U U <| nu U U,fun _ hSw=>Z3 hSw Zaz U U U (Za0 hSw.imm x1.r.d (max x1.r.d.a x2.r.d.a) _ (Z1 x1.r.d B4 B5)) (congrArg Value.bool h5.symm),trivial⟩ (fun w30 S44=>?_)
     refine TGI.toTG (I:=fun w9=>GH.In G5 w9) _ _ _ _ ?_
     refine TGI.fork 3 [36,42,43,44] [36,42] U U (by decide) (by decide) (TAI.cons U ?_ (TAI.cons U ?_ TAI.nil))
     ·refine WL.no U U ?_
      refine ⟨fun _=>S44.down S44.le (G5.le_refl),S44.imm,?_⟩
      refine TGI.fork 2 [42,43,44] [42] U U (by decide) (by decide) (TAI.cons U ?_ TAI.nil)
      refine WL.no U U ?_
      refine ⟨fun _=>S44.down S44.le (G5.le_refl),S44.imm,?_⟩
      refine TGI.fork 1 [43,44] [43] U U (by decide) (by decide) (TAI.cons U ?_ TAI.nil)
      refine WL.no U U ?_
      refine ⟨fun h=>absurd h (by decide),S44.imm,?_⟩
      refine TGI.quiet 0 [44] 44 U U U U U (by decide) S44.imm (fun w9 _ K9 k9=>Zao U U k9) ?_
      refine TGI.fin U ?_
      refine Zj k2 (by have:=Zc; omega) U U U ?_
      have S45:=S44.tail
      exact BK.mk' _ ⟨k2 + 1,v7,o2,G5,U,j2,S45,(ZS.cast (R3.mono L5) (by ((rw [Zaw ‹_› (by first | exact .inl ‹_› | exact .inr (.inl ‹_›) | exact .inr (.inr (.inl ‹_›)) | exact .inr (.inr (.inr (.inl ‹_›))) | exact .inr (.inr (.inr (.inr ‹_›))))])))),(Zq U),(by omega)⟩ (show (t.rows.take k1).length - (k2 + 1) < (t.rows.take k1).length - k2 by omega)
     refine WL.no U U ?_
     refine ⟨fun _=>S44.down S44.le (G5.le_refl),S44.imm,?_⟩
     refine TGI.fork 2 [36,43,44] [36] U U (by decide) (by decide) (TAI.cons U ?_ TAI.nil)
     refine WL.no U U ?_
     refine ⟨fun _=>S44.down S44.le (G5.le_refl),S44.imm,?_⟩
     refine TGI.fork 1 [43,44] [43] U U (by decide) (by decide) (TAI.cons U ?_ TAI.nil)
     refine WL.no U U ?_
     refine ⟨fun h=>absurd h (by decide),S44.imm,?_⟩
     refine TGI.quiet 0 [44] 44 U U U U U (by decide) S44.imm (fun w9 _ K9 k9=>Zao U U k9) ?_
     refine TGI.fin U ?_
     refine Zj k2 (by have:=Zc; omega) U U U ?_
     have S46:=S44.tail
     exact BK.mk' _ ⟨k2 + 1,v7,o2,G5,U,j2,S46,(ZS.cast (R3.mono L5) (by ((rw [Zaw ‹_› (by first | exact .inl ‹_› | exact .inr (.inl ‹_›) | exact .inr (.inr (.inl ‹_›)) | exact .inr (.inr (.inr (.inl ‹_›))) | exact .inr (.inr (.inr (.inr ‹_›))))])))),(Zq U),(by omega)⟩ (show (t.rows.take k1).length - (k2 + 1) < (t.rows.take k1).length - k2 by omega)
    refine drT [36,42,43,44] [(54, .agg #[S x1.r.x.a,S x1.r.x.b]),(56,S (max x1.r.x.a x2.r.x.a)),(57, .bool true),(61, .agg #[S x2.r.x.a,S x2.r.x.b]),(63,S (max x1.r.x.a x2.r.x.a)),(64, .bool false)] S13 ⟨fun _ hSw=>Zb hSw (XC.drop 2 (XC.drop 1 (C3.mono j2))) [S x1.r.x.a,S x1.r.x.b] Z2 U U U U U <| nu U U,fun _ hSw=>Ya hSw 0 _ _ _ 0 _ U U Zt U U U <| nu U U,fun _ hSw=>Z3 hSw Zaz U U U (Za0 hSw.imm x1.r.x (max x1.r.x.a x2.r.x.a) _ (Z1 x1.r.x B6 B7)) (congrArg Value.bool h3.symm),fun _ hSw=>Zb hSw (XC.drop 2 (XC.drop 1 C5)) [S x2.r.x.a,S x2.r.x.b] Z2 U U U U U <| nu U U,fun _ hSw=>Ya hSw 0 _ _ _ 0 _ U U Zt U U U <| nu U U,fun _ hSw=>Z3 hSw Zaz U U U (Za0 hSw.imm x2.r.x (max x1.r.x.a x2.r.x.a) _ (Z1 x2.r.x B10 Y6)) (congrArg Value.bool h4.symm),trivial⟩ (fun w31 S47=>?_)
    refine TGI.toTG (I:=fun w9=>GH.In G5 w9) _ _ _ _ ?_
    refine TGI.fork 3 [36,42,43,44] [36,42] U U (by decide) (by decide) (TAI.cons U ?_ (TAI.cons U ?_ TAI.nil))
    ·refine WL.no U U ?_
     refine ⟨fun _=>S47.down S47.le (G5.le_refl),S47.imm,?_⟩
     refine TGI.fork 2 [42,43,44] [42] U U (by decide) (by decide) (TAI.cons U ?_ TAI.nil)
     refine WL.no U U ?_
     refine ⟨fun _=>S47.down S47.le (G5.le_refl),S47.imm,?_⟩
     refine TGI.fork 1 [43,44] [43] U U (by decide) (by decide) (TAI.cons U ?_ TAI.nil)
     refine WL.no U U ?_
     refine ⟨fun h=>absurd h (by decide),S47.imm,?_⟩
     refine TGI.quiet 0 [44] 44 U U U U U (by decide) S47.imm (fun w9 _ K9 k9=>Zao U U k9) ?_
     refine TGI.fin U ?_
     refine Zj k2 (by have:=Zc; omega) U U U ?_
     have S48:=S47.tail
     exact BK.mk' _ ⟨k2 + 1,v7,o2,G5,U,j2,S48,(ZS.cast (R3.mono L5) (by ((rw [Zaw ‹_› (by first | exact .inl ‹_› | exact .inr (.inl ‹_›) | exact .inr (.inr (.inl ‹_›)) | exact .inr (.inr (.inr (.inl ‹_›))) | exact .inr (.inr (.inr (.inr ‹_›))))])))),(Zq U),(by omega)⟩ (show (t.rows.take k1).length - (k2 + 1) < (t.rows.take k1).length - k2 by omega)
    refine WL.no U U ?_
    refine ⟨fun _=>S47.down S47.le (G5.le_refl),S47.imm,?_⟩
    refine TGI.fork 2 [36,43,44] [36] U U (by decide) (by decide) (TAI.cons U ?_ TAI.nil)
    refine WL.no U U ?_
    refine ⟨fun _=>S47.down S47.le (G5.le_refl),S47.imm,?_⟩
    refine TGI.fork 1 [43,44] [43] U U (by decide) (by decide) (TAI.cons U ?_ TAI.nil)
    refine WL.no U U ?_
    refine ⟨fun h=>absurd h (by decide),S47.imm,?_⟩
    refine TGI.quiet 0 [44] 44 U U U U U (by decide) S47.imm (fun w9 _ K9 k9=>Zao U U k9) ?_
    refine TGI.fin U ?_
    refine Zj k2 (by have:=Zc; omega) U U U ?_
    have S49:=S47.tail
    exact BK.mk' _ ⟨k2 + 1,v7,o2,G5,U,j2,S49,(ZS.cast (R3.mono L5) (by ((rw [Zaw ‹_› (by first | exact .inl ‹_› | exact .inr (.inl ‹_›) | exact .inr (.inr (.inl ‹_›)) | exact .inr (.inr (.inr (.inl ‹_›))) | exact .inr (.inr (.inr (.inr ‹_›))))])))),(Zq U),(by omega)⟩ (show (t.rows.take k1).length - (k2 + 1) < (t.rows.take k1).length - k2 by omega)
   refine drT [36,42,43,44] [(54, .agg #[S x1.r.x.a,S x1.r.x.b]),(56,S (max x1.r.x.a x2.r.x.a)),(57, .bool false)] S13 ⟨fun _ hSw=>Zb hSw (XC.drop 2 (XC.drop 1 (C3.mono j2))) [S x1.r.x.a,S x1.r.x.b] Z2 U U U U U <| nu U U,fun _ hSw=>Ya hSw 0 _ _ _ 0 _ U U Zt U U U <| nu U U,fun _ hSw=>Z3 hSw Zaz U U U (Za0 hSw.imm x1.r.x (max x1.r.x.a x2.r.x.a) _ (Z1 x1.r.x B6 B7)) (congrArg Value.bool h3.symm),trivial⟩ (fun w32 S50=>?_)
   refine TGI.toTG (I:=fun w9=>GH.In G5 w9) _ _ _ _ ?_
   refine TGI.fork 3 [36,42,43,44] [36,42] U U (by decide) (by decide) (TAI.cons U ?_ (TAI.cons U ?_ TAI.nil))
   ·refine WL.no U U ?_
    refine ⟨fun _=>S50.down S50.le (G5.le_refl),S50.imm,?_⟩
    refine TGI.fork 2 [42,43,44] [42] U U (by decide) (by decide) (TAI.cons U ?_ TAI.nil)
    refine WL.no U U ?_
    refine ⟨fun _=>S50.down S50.le (G5.le_refl),S50.imm,?_⟩
    refine TGI.fork 1 [43,44] [43] U U (by decide) (by decide) (TAI.cons U ?_ TAI.nil)
    refine WL.no U U ?_
    refine ⟨fun h=>absurd h (by decide),S50.imm,?_⟩
    refine TGI.quiet 0 [44] 44 U U U U U (by decide) S50.imm (fun w9 _ K9 k9=>Zao U U k9) ?_
    refine TGI.fin U ?_
    refine Zj k2 (by have:=Zc; omega) U U U ?_
    have S51:=S50.tail
    exact BK.mk' _ ⟨k2 + 1,v7,o2,G5,U,j2,S51,(ZS.cast (R3.mono L5) (by ((rw [Zaw ‹_› (by first | exact .inl ‹_› | exact .inr (.inl ‹_›) | exact .inr (.inr (.inl ‹_›)) | exact .inr (.inr (.inr (.inl ‹_›))) | exact .inr (.inr (.inr (.inr ‹_›))))])))),(Zq U),(by omega)⟩ (show (t.rows.take k1).length - (k2 + 1) < (t.rows.take k1).length - k2 by omega)
   refine WL.no U U ?_
   refine ⟨fun _=>S50.down S50.le (G5.le_refl),S50.imm,?_⟩
   refine TGI.fork 2 [36,43,44] [36] U U (by decide) (by decide) (TAI.cons U ?_ TAI.nil)
   refine WL.no U U ?_
   refine ⟨fun _=>S50.down S50.le (G5.le_refl),S50.imm,?_⟩
   refine TGI.fork 1 [43,44] [43] U U (by decide) (by decide) (TAI.cons U ?_ TAI.nil)
   refine WL.no U U ?_
   refine ⟨fun h=>absurd h (by decide),S50.imm,?_⟩
   refine TGI.quiet 0 [44] 44 U U U U U (by decide) S50.imm (fun w9 _ K9 k9=>Zao U U k9) ?_
   refine TGI.fin U ?_
   refine Zj k2 (by have:=Zc; omega) U U U ?_
   have S52:=S50.tail
   exact BK.mk' _ ⟨k2 + 1,v7,o2,G5,U,j2,S52,(ZS.cast (R3.mono L5) (by ((rw [Zaw ‹_› (by first | exact .inl ‹_› | exact .inr (.inl ‹_›) | exact .inr (.inr (.inl ‹_›)) | exact .inr (.inr (.inr (.inl ‹_›))) | exact .inr (.inr (.inr (.inr ‹_›))))])))),(Zq U),(by omega)⟩ (show (t.rows.take k1).length - (k2 + 1) < (t.rows.take k1).length - k2 by omega)
  refine Zj k1 (by have:=Zc; omega) U U U ?_
  exact BK.mk' _ ⟨k1 + 1,v7,o2,G4,U,(L2.trans (L3.trans L4)),S8,(ZS.cast R3 (by (rw [Zpz ‹_›,List.take_of_length_le (i:=k2) (by omega)]))),(Zq U),(by omega)⟩ (show t.rows.length - (k1 + 1) < t.rows.length - k1 by omega)
 have V3:=R1.bound
 refine XH R1 ZcX U U ?_
 refine ZC (((Zb7 t.s.key.toNat t.rows k1).length : Nat) : Int) 0 U U U (fun h11=>?_) (fun h11=>?_)
 ·refine WL.build _ [] [S 0,S 0,Ze] Yl U ZkX U U U U ?_
  refine Zi S3 1 [S 0,S 0,Ze] U U Yl U U U U U U (fun w33 S53=>?_)
  exact Xr [.agg #[S 0,S 0,Ze], .bool false] S53 ⟨_,_,_,U,U,S53.loadA 1 _ _ _ 0 [S 0,S 0,Ze] U U U Yl U,⟨_,U,U⟩⟩ ⟨_,_,U,(Is.cast ⟨_,U,(Qv (Pt.mk 0 0 []) ZP ZP (Sl.nil ValE 32 G2))⟩ (by exact (Zri (by omega) (by omega)).1)),(congrArg Value.bool (by exact (Zri (by omega) (by omega)).2))⟩
 refine Qe ZyC U U U (Zwe S3.imm (Zb7 t.s.key.toNat t.rows k1) _ _ R1 (S3.lentAt 0 U) (by rw [Zg0 (by omega)]; exact ZiR hg9)) (fun w34 G11 r1 hres1 P1=>?_)
 have L11:=hres1.le
 obtain ⟨rfl,l1,o7,R9,hf1,hq1⟩:=P1
 have S55:=S3.callRow 0 U hres1 R1 R9 hf1
 refine YW R9 0 (by (have h9:=hq1.1.length_eq; omega)) ZcX Yl U U U U (fun p4 x3 ec1 U3 R10 ra1=>?_)
 obtain ⟨v18,rfl,YU,Xa,A11⟩:=QG R10
 refine Zah ra1 S55 0 U Yl U U U U ?_
 refine WL.alloc S55 Yl U U (fun b9 w35 N9 S56=>?_)
 refine Zi S56 0 [S x3.tx,S x3.vd,v18] U U Yl U U (by simp only [ZA,A11.oneC] <;> rfl) U U U (fun w36 S57=>?_)
 have hp9 : _root_.List.Perm l1 (X7 t.s.key.toNat t.rows):=by have h9:=hq1.1; rwa [Zg0 (by omega)] at h9
 have hvd:=Zrh hv hp9 hq1.2 U3
 have j8:=(L2.trans L11)
 refine Zb S57 (C1.mono j8) [Za t.s.name,v1,S t.s.key,v2,v3,S t.last] Zm U U U U U <| Ya S57 0 _ _ _ 1 _ U U Zt U U U <| Ya S57 0 _ _ _ 0 _ U U Zt U U U ?_
 have j9:=((L1.trans L2).trans L11)
 refine Z9 S57 ZbZ U U U (Zp1 S57.imm t x3.vd x3.tx _ (Zo t B1 (A1.mono j9) B2 (A2.mono j9) (A3.mono j9) B3)) (fun w37 G12 r2 P2 S58 L12=>?_)
 have V4:=P2.bound
 refine Zl P2 Ql U U ?_
 refine LP.go ft [] (fun m ρ1 w1=>∃ (k3 : Nat),∃ (G13 : GH),m = (YO t x3.vd x3.tx).length - k3 ∧ G12.le G13 ∧ St w [] G G13 [some (b9,105,[S x3.tx,S x3.vd,v18]),o7,some (b1,105,[S 0,S 0,Ze])] w1 ∧ FR ρ1 [(1,Zs p1),(2, .pointer (some ⟨b1,0,none⟩)),(10, .pointer (some ⟨b9,0,none⟩)),(11,r2),(130,r2),(131,S (((YO t x3.vd x3.tx).length : Nat) : Int)),(132,S (k3 : Int))] ∧ k3 ≤ (YO t x3.vd x3.tx).length ∧ ∀ j,j < k3 → ∀ x,(YO t x3.vd x3.tx)[j]? = some x → (((YO t x3.vd x3.tx)).drop (j + 1)).any (fun y=>decide (x.take t.s.key.toNat = y.take t.s.key.toNat)) = false) _ ⟨0,G12,U,(G12.le_refl),S58,(Zq U),(by omega),(by intro j hj; omega)⟩ ?_
 rintro m ρ1 w38 ⟨k3,G13,rfl,L13,S59,F9,f3,f4⟩
 refine F9.set ?_
 clear F9
 refine Zp (k3 : Int) (((YO t x3.vd x3.tx).length : Nat) : Int) U U U (fun h12=>?_) (fun h12=>?_)
 ·refine WL.indexAddr (P2.mono L13) k3 (by omega) Ql ZK U U U U (fun p5 x4 U4 E3=>?_)
  obtain ⟨D3,C6,R11⟩:=E3
  obtain ⟨v19,rfl,A12⟩:=R11
  refine Z S59 C6 ZK U U U ?_
  refine Zj k3 (by have:=Zc; omega) U U U ?_
  refine QL (P2.mono L13) (k3 + 1) (by omega) Ql ZK U U U U (fun v20 A13=>?_)
  have V5:=A13.bound
  refine Zl A13 Ql U U ?_
  refine LP.go ft [] (fun m ρ1 w1=>∃ (k4 : Nat),∃ (G14 : GH),m = ((YO t x3.vd x3.tx).drop (k3 + 1)).length - k4 ∧ G13.le G14 ∧ St w [] G G14 [some (b9,105,[S x3.tx,S x3.vd,v18]),o7,some (b1,105,[S 0,S 0,Ze])] w1 ∧ FR ρ1 [(1,Zs p1),(2, .pointer (some ⟨b1,0,none⟩)),(10, .pointer (some ⟨b9,0,none⟩)),(11,r2),(13,v19),(130,r2),(131,S (((YO t x3.vd x3.tx).length : Nat) : Int)),(132,S (k3 : Int)),(140,v20),(141,S ((((YO t x3.vd x3.tx).drop (k3 + 1)).length : Nat) : Int)),(142,S (k4 : Int))] ∧ k4 ≤ ((YO t x3.vd x3.tx).drop (k3 + 1)).length ∧ ∀ j,j < k4 → ∀ y,(((YO t x3.vd x3.tx)).drop (k3 + 1))[j]? = some y → decide (x4.take t.s.key.toNat = y.take t.s.key.toNat) = false) _ ⟨0,G13,U,(G13.le_refl),S59,(Zq U),(by omega),(by intro j hj; omega)⟩ ?_
  rintro m ρ1 w39 ⟨k4,G14,rfl,L14,S60,F9,f5,f6⟩
  refine F9.set ?_
  clear F9
  refine Zp (k4 : Int) ((((YO t x3.vd x3.tx).drop (k3 + 1)).length : Nat) : Int) U U U (fun h13=>?_) (fun h13=>?_)
  ·refine WL.indexAddr (A13.mono L14) k4 (by omega) Ql ZK U U U U (fun p6 x5 U5 E4=>?_)
   obtain ⟨D4,C7,R12⟩:=E4
   obtain ⟨v21,rfl,A14⟩:=R12
   refine Z S60 C7 ZK U U U ?_
   have hsnk:=Zt8 hv hvd.1 hvd.2.1
   have hsa:=hsnk x4 (List.mem_of_getElem? U4)
   have hsb:=hsnk x5 (List.mem_of_mem_drop (List.mem_of_getElem? U5))
   have j10:=(((j8.trans L12).trans L13).trans L14)
   refine drT [4,9,10] [(149,S t.s.key),(154,S t.s.key)] S60 ⟨fun _ hSw=>Z hSw (XC.drop 2 (XC.drop 0 (C1.mono j10))) Zt U U U <| nu U U,fun _ hSw=>Z hSw (XC.drop 2 (XC.drop 0 (C1.mono j10))) Zt U U U <| nu U U,trivial⟩ (fun w40 S61=>?_)
   refine TGI.toTG (I:=fun w9=>GH.In G14 w9) _ _ _ _ ?_
   refine TGI.fork 2 [4,9,10] [4,9] U U (by decide) (by decide) (TAI.cons U ?_ (TAI.cons U ?_ TAI.nil))
   ·refine Y3 (A12.mono L14) ((t.s.key).toNat) (by omega) Yv Z6 U U U (congrArg (Value.int .i64) (Int.toNat_of_nonneg (by omega)).symm) (fun v22 A15=>?_)
    refine ⟨fun _=>S61.down S61.le (G14.le_refl),S61.imm,?_⟩
    refine TGI.fork 1 [9,10] [9] U U (by decide) (by decide) (TAI.cons U ?_ TAI.nil)
    refine Y3 A14 ((t.s.key).toNat) (by omega) Yv Z6 U U U (congrArg (Value.int .i64) (Int.toNat_of_nonneg (by omega)).symm) (fun v23 A16=>?_)
    refine ⟨fun _=>S61.down S61.le (G14.le_refl),S61.imm,?_⟩
    refine TGI.fork 0 [10] [10] U U (by decide) (by decide) (TAI.cons U ?_ TAI.nil)
    refine Zr S61 Zaq U U U (ZcL S61.imm (x4.take ((t.s.key).toNat)) (x5.take ((t.s.key).toNat)) _ A15 _ A16) (fun w41 G15 S62 L15=>?_)
    refine WL.split (fun (h14 : (decide ((x4.take ((t.s.key).toNat)) = (x5.take ((t.s.key).toNat)))) = true)=>?_) (fun (h14 : (decide ((x4.take ((t.s.key).toNat)) = (x5.take ((t.s.key).toNat)))) = false)=>?_)
    ·refine ⟨fun h=>absurd h (by decide),(S62.imm.down L15),?_⟩
     refine TGI.fin U ?_
     have j11:=(L14.trans L15)
     refine WL.store S62 0 _ _ _ 2 _ [v19] [S x3.tx,S x3.vd,v19] _ U (A12.mono j11).cells1 ZK U (leT U) (by simp only [ZA,(A12.mono j11).oneC] <;> rfl) U U U U U (fun w42 S63=>?_)
     refine Yg S63 0 _ _ _ 0 [S x3.tx,S x3.vd,v19] U U U Yl U U U ?_
     refine Zi S63 2 [S x3.tx,S x3.vd,v19] U U Yl U U (by simp only [ZA,(A12.mono j11).oneC] <;> rfl) U U U (fun w43 S64=>?_)
     exact Xr [.agg #[S x3.tx,S x3.vd,v19], .bool true] S64 ⟨_,_,_,U,U,S64.loadA 2 _ _ _ 0 [S x3.tx,S x3.vd,v19] U U U Yl U,⟨_,U,U⟩⟩ ⟨_,_,U,(Is.cast ⟨_,U,(Qv (Pt.mk x3.tx x3.vd x4) YU Xa (A12.mono j11))⟩ (by exact (ZiS hvd (Zg2 ‹_› ‹_› ⟨_,List.mem_of_getElem? ‹_›,of_decide_eq_true ‹_›⟩)).1)),(congrArg Value.bool (by exact (ZiS hvd (Zg2 ‹_› ‹_› ⟨_,List.mem_of_getElem? ‹_›,of_decide_eq_true ‹_›⟩)).2))⟩
    refine ⟨fun h=>absurd h (by decide),(S62.imm.down L15),?_⟩
    refine TGI.fin U ?_
    refine Zj k4 (by have:=Zc; omega) U U U ?_
    exact BK.mk' _ ⟨k4 + 1,G15,U,(L14.trans L15),S62,(Zq U),(by omega),(by exact ZW ‹_› ‹_› ‹_›)⟩ (show ((YO t x3.vd x3.tx).drop (k3 + 1)).length - (k4 + 1) < ((YO t x3.vd x3.tx).drop (k3 + 1)).length - k4 by omega)
   refine Y3 A14 ((t.s.key).toNat) (by omega) Yv Z6 U U U (congrArg (Value.int .i64) (Int.toNat_of_nonneg (by omega)).symm) (fun v24 A17=>?_)
   refine ⟨fun _=>S61.down S61.le (G14.le_refl),S61.imm,?_⟩
   refine TGI.fork 1 [4,10] [4] U U (by decide) (by decide) (TAI.cons U ?_ TAI.nil)
   refine Y3 (A12.mono L14) ((t.s.key).toNat) (by omega) Yv Z6 U U U (congrArg (Value.int .i64) (Int.toNat_of_nonneg (by omega)).symm) (fun v25 A18=>?_)
   refine ⟨fun _=>S61.down S61.le (G14.le_refl),S61.imm,?_⟩
   refine TGI.fork 0 [10] [10] U U (by decide) (by decide) (TAI.cons U ?_ TAI.nil)
   refine Zr S61 Zaq U U U (ZcL S61.imm (x4.take ((t.s.key).toNat)) (x5.take ((t.s.key).toNat)) _ A18 _ A17) (fun w44 G16 S65 L16=>?_)
   refine WL.split (fun (h15 : (decide ((x4.take ((t.s.key).toNat)) = (x5.take ((t.s.key).toNat)))) = true)=>?_) (fun (h15 : (decide ((x4.take ((t.s.key).toNat)) = (x5.take ((t.s.key).toNat)))) = false)=>?_)
   ·refine ⟨fun h=>absurd h (by decide),(S65.imm.down L16),?_⟩
    refine TGI.fin U ?_
    have j12:=(L14.trans L16)
    refine WL.store S65 0 _ _ _ 2 _ [v19] [S x3.tx,S x3.vd,v19] _ U (A12.mono j12).cells1 ZK U (leT U) (by simp only [ZA,(A12.mono j12).oneC] <;> rfl) U U U U U (fun w45 S66=>?_)
    refine Yg S66 0 _ _ _ 0 [S x3.tx,S x3.vd,v19] U U U Yl U U U ?_
    refine Zi S66 2 [S x3.tx,S x3.vd,v19] U U Yl U U (by simp only [ZA,(A12.mono j12).oneC] <;> rfl) U U U (fun w46 S67=>?_)
    exact Xr [.agg #[S x3.tx,S x3.vd,v19], .bool true] S67 ⟨_,_,_,U,U,S67.loadA 2 _ _ _ 0 [S x3.tx,S x3.vd,v19] U U U Yl U,⟨_,U,U⟩⟩ ⟨_,_,U,(Is.cast ⟨_,U,(Qv (Pt.mk x3.tx x3.vd x4) YU Xa (A12.mono j12))⟩ (by exact (ZiS hvd (Zg2 ‹_› ‹_› ⟨_,List.mem_of_getElem? ‹_›,of_decide_eq_true ‹_›⟩)).1)),(congrArg Value.bool (by exact (ZiS hvd (Zg2 ‹_› ‹_› ⟨_,List.mem_of_getElem? ‹_›,of_decide_eq_true ‹_›⟩)).2))⟩
   refine ⟨fun h=>absurd h (by decide),(S65.imm.down L16),?_⟩
   refine TGI.fin U ?_
   refine Zj k4 (by have:=Zc; omega) U U U ?_
   exact BK.mk' _ ⟨k4 + 1,G16,U,(L14.trans L16),S65,(Zq U),(by omega),(by exact ZW ‹_› ‹_› ‹_›)⟩ (show ((YO t x3.vd x3.tx).drop (k3 + 1)).length - (k4 + 1) < ((YO t x3.vd x3.tx).drop (k3 + 1)).length - k4 by omega)
  refine Zj k3 (by have:=Zc; omega) U U U ?_
  exact BK.mk' _ ⟨k3 + 1,G14,U,(L13.trans L14),S60,(Zq U),(by omega),(by exact Zfw (P:=fun j (x : List Val)=>(((YO t x3.vd x3.tx)).drop (j + 1)).any (fun y=>decide (x.take t.s.key.toNat = y.take t.s.key.toNat)) = false) ‹_› ‹_› (ZnS ‹_› (by omega)))⟩ (show (YO t x3.vd x3.tx).length - (k3 + 1) < (YO t x3.vd x3.tx).length - k3 by omega)
 refine Yg S59 0 _ _ _ 0 [S x3.tx,S x3.vd,v18] U U U Yl U U U ?_
 have j13:=(L12.trans L13)
 refine Zi S59 2 [S x3.tx,S x3.vd,v18] U U Yl U U (by simp only [ZA,(A11.mono j13).oneC] <;> rfl) U U U (fun w47 S68=>?_)
 exact Xr [.agg #[S x3.tx,S x3.vd,v18], .bool true] S68 ⟨_,_,_,U,U,S68.loadA 2 _ _ _ 0 [S x3.tx,S x3.vd,v18] U U U Yl U,⟨_,U,U⟩⟩ ⟨_,_,U,(Is.cast ⟨_,U,(Qv x3 YU Xa (A11.mono j13))⟩ (by exact absurd (ZnT ‹_› (by omega)) hvd.2.2.2)),(congrArg Value.bool (by exact absurd (ZnT ‹_› (by omega)) hvd.2.2.2))⟩
end Go.Civ
