/- Lemmas. -/
import Derived.Test.YthgeclodflmiaaaGreatD19
import Derived.Test.YthgeclodflmiaaaGreatD27
import Derived.Test.YthgeclodflmiaaaGreatD32
import Derived.Test.YthgeclodflmiaaaGreatD38
import Derived.Test.YthgeclodflmiaaaGreatProg
import Derived.KernelRfl
import Derived.WalkKit
set_option linter.unusedVariables false
set_option linter.unusedSimpArgs false
set_option maxRecDepth 100000
set_option maxHeartbeats 4000000
namespace Go.Civ
open Go.Proofs
theorem Zne {G : GH} {w : World} (hG : G.In w) (t : Table) (ct : List Value) (hct : TableE.rep G t ct) (hv : Zu t = true) : CL Tryz.prog (nat_lit 16) #[.agg ct.toArray] [] w G fun G' _ r=>∃ r0 r1,r = .tuple #[r0,r1] ∧ Is HRowE G' r0 (ZZ (XU t)) ∧ r1 = .bool ((XU t).isSome):=by
 refine Y2 ft [] Tryz.func16 U U ?_
 have hS:=St.start (X:=[]) hG
 obtain ⟨v1,v2,v3,rfl,B1,A1,B2,A2,A3,B3⟩:=Zy hct
 refine Zw [Za t.s.name,v1,S t.s.key,v2,v3,S t.last] _ hS U U U (fun p1 w1 G1 L1 M1 C1 S1=>?_)
 refine WL.alloc S1 Zz U U (fun b1 w2 N1 S2=>?_)
 obtain ⟨hg9,N9,h89,E9⟩:=ZY hv
 have hk0:=Zha hv
 have S4:=S2.pad
 have S5:=S4.pad
 refine LP.go ft [] (fun m ρ1 w1=>∃ (k1 : Nat),∃ (v4 : Value) (o1 : OB),∃ (v5 : Value) (o2 : OB),∃ (G2 : GH),m = t.rows.length - k1 ∧ G1.le G2 ∧ St w [] G G2 [o2,o1,some (b1,37,[Ze,S 0,S 0,S 0,S 0])] w1 ∧ ZS Enc.int 8 3 G2 v4 ((t.rows.take k1).map (fun (r : HRow)=>r.r.d.a)) o1 ∧ ZS Enc.int 8 3 G2 v5 ((t.rows.take k1).map (fun (r : HRow)=>r.r.x.a)) o2 ∧ FR ρ1 [(1,Zs p1),(2, .pointer (some ⟨b1,0,none⟩)),(4,v4),(5,v5),(6,S (k1 : Int))] ∧ k1 ≤ t.rows.length) _ ⟨0,(Ze),none,(Ze),none,G1,U,(G1.le_refl),S5,(ZS.cast (ZS.nil Enc.int 8 3 G1) (by rfl)),(ZS.cast (ZS.nil Enc.int 8 3 G1) (by rfl)),(Zq U),(by omega)⟩ ?_
 rintro m ρ1 w3 ⟨k1,v4,o1,v5,o2,G2,rfl,L2,S3,R1,R2,F9,f1⟩
 refine F9.set ?_
 clear F9
 have hlt:=List.length_take_le' k1 t.rows
 refine Z S3 (XC.drop 4 (C1.mono L2)) YK U U U ?_
 have V1:=A3.bound
 have j1:=(L1.trans L2)
 refine Zl (A3.mono j1) Yn U U ?_
 refine Zp (k1 : Int) (t.rows.length : Int) U U U (fun h1=>?_) (fun h1=>?_)
 ·refine drT [2,4,5,6,7,8,9,10,13,15,16,17,18,19,20,21,22,23] [] S3 trivial (fun w4 S6=>?_)
  refine TGI.toTG (I:=fun w9=>GH.In G2 w9) _ _ _ _ ?_
  refine TGI.quiet 17 [2,4,5,6,7,8,9,10,13,15,16,17,18,19,20,21,22,23] 2 U U U U U (by decide) S6.imm (fun w9 i9 K9 k9=>Z (St.start (X:=[]) i9) (XC.drop 4 (C1.mono L2)) YK U U U k9) ?_
  obtain ⟨p2,x1,U1,E1,W1⟩:=Sl.at (A3.mono j1) k1 (by omega)
  obtain ⟨D1,C2,R3⟩:=E1
  obtain ⟨v6,rfl,A4,B4,B5,B6,B7⟩:=Z7 R3
  refine TGI.quiet 16 [4,5,6,7,8,9,10,13,15,16,17,18,19,20,21,22,23] 4 U U U U U (by decide) S6.imm (fun w9 _ K9 k9=>Zg k1 W1 Yn Zz U U U U k9) ?_
  refine TGI.quiet 15 [5,6,7,8,9,10,13,15,16,17,18,19,20,21,22,23] 5 U U U U U (by decide) S6.imm (fun w9 _ K9 k9=>WL.fieldAddr _ 1 _ Za6 U U U k9) ?_
  refine TGI.quiet 14 [6,7,8,9,10,13,15,16,17,18,19,20,21,22,23] 6 U U U U U (by decide) S6.imm (fun w9 _ K9 k9=>WL.fieldAddr _ 0 _ ZbY U U U k9) ?_
  refine TGI.quiet 13 [7,8,9,10,13,15,16,17,18,19,20,21,22,23] 7 U U U U U (by decide) S6.imm (fun w9 _ K9 k9=>WL.fieldAddr _ 0 _ XB U U U k9) ?_
  refine TGI.quiet 12 [8,9,10,13,15,16,17,18,19,20,21,22,23] 8 U U U U U (by decide) S6.imm (fun w9 i9 K9 k9=>Z (St.start (X:=[]) i9) (XC.drop 0 (XC.drop 0 (XC.drop 1 C2))) Zt U U U k9) ?_
  refine TGI.quiet 11 [9,10,13,15,16,17,18,19,20,21,22,23] 13 U U U U U (by decide) S6.imm (fun w9 i9 K9 k9=>Z (St.start (X:=[]) i9) (XC.drop 4 (C1.mono L2)) YK U U U k9) ?_
  obtain ⟨p3,x2,U2,E2,W2⟩:=Sl.at (A3.mono j1) k1 (by omega)
  obtain rfl : x1 = x2:=Option.some.inj (U1.symm.trans U2)
  obtain ⟨D2,C3,R4⟩:=E2
  obtain ⟨v7,rfl,A5,B8,B9,B10,Y6⟩:=Z7 R4
  refine TGI.quiet 10 [9,10,15,16,17,18,19,20,21,22,23] 15 U U U U U (by decide) S6.imm (fun w9 _ K9 k9=>Zg k1 W2 Yn Zz U U U U k9) ?_
  refine TGI.quiet 9 [9,10,16,17,18,19,20,21,22,23] 16 U U U U U (by decide) S6.imm (fun w9 _ K9 k9=>WL.fieldAddr _ 1 _ Za6 U U U k9) ?_
  refine TGI.quiet 8 [9,10,17,18,19,20,21,22,23] 17 U U U U U (by decide) S6.imm (fun w9 _ K9 k9=>WL.fieldAddr _ 2 _ ZbY U U U k9) ?_
  refine TGI.quiet 7 [9,10,18,19,20,21,22,23] 18 U U U U U (by decide) S6.imm (fun w9 _ K9 k9=>WL.fieldAddr _ 0 _ XB U U U k9) ?_
  refine TGI.quiet 6 [9,10,19,20,21,22,23] 19 U U U U U (by decide) S6.imm (fun w9 i9 K9 k9=>Z (St.start (X:=[]) i9) (XC.drop 0 (XC.drop 2 (XC.drop 1 C3))) Zt U U U k9) ?_
  refine TGI.fork 5 [9,10,20,21,22,23] [9,20] U U (by decide) (by decide) (TAI.cons U ?_ (TAI.cons U ?_ TAI.nil))
  ·refine WL.buildSlice _ [(0,[S x1.r.d.a])] [S x1.r.d.a] S6 Yb U U U U (fun z hz=>by match z,hz with | [z0],_=>rfl) (fun b2 w5 N2 S7=>?_)
   refine ⟨fun h=>absurd h (by decide),S7.imm,?_⟩
   refine TGI.fork 4 [10,20,21,22,23] [10,20] U U (by decide) (by decide) (TAI.cons U ?_ (TAI.cons U ?_ TAI.nil))
   ·refine WL.push (m:=([x1.r.d.a] : List Int)) Yb U U U R1 S7 2 U 0 _ _ _ _ _ U ⟨[S x1.r.d.a],_,U,⟨U,B4⟩,U⟩ U (by have:=Zc; simp only [List.length_append,List.length_map,List.length_cons,List.length_nil]; omega) (by have:=Zc; simp only [List.length_append,List.length_map,List.length_cons,List.length_nil]; omega) U U U (fun v9 o3 w6 R5 S8=>?_)
    have S9:=S8.tail
    refine ⟨fun h=>absurd h (by decide),S9.imm,?_⟩
    refine TGI.fork 3 [20,21,22,23] [20] U U (by decide) (by decide) (TAI.cons U ?_ TAI.nil)
    refine WL.buildSlice _ [(0,[S x1.r.x.a])] [S x1.r.x.a] S9 Yb U U U U (fun z hz=>by match z,hz with | [z0],_=>rfl) (fun b3 w7 N3 S10=>?_)
    refine ⟨fun h=>absurd h (by decide),S10.imm,?_⟩
    refine TGI.fork 2 [21,22,23] [21] U U (by decide) (by decide) (TAI.cons U ?_ TAI.nil)
    refine WL.push (m:=([x1.r.x.a] : List Int)) Yb U U U R2 S10 1 U 0 _ _ _ _ _ U ⟨[S x1.r.x.a],_,U,⟨U,B10⟩,U⟩ U (by have:=Zc; simp only [List.length_append,List.length_map,List.length_cons,List.length_nil]; omega) (by have:=Zc; simp only [List.length_append,List.length_map,List.length_cons,List.length_nil]; omega) U U U (fun v10 o4 w9 R6 S11=>?_)
    have S12:=S11.tail
    refine ⟨fun h=>absurd h (by decide),S12.imm,?_⟩
    refine TGI.quiet 1 [22,23] 22 U U U U U (by decide) S12.imm (fun w9 _ K9 k9=>WL.assign U k9) ?_
    refine TGI.quiet 0 [23] 23 U U U U U (by decide) S12.imm (fun w9 _ K9 k9=>WL.assign U k9) ?_
    refine TGI.fin U ?_
    refine Zj k1 (by have:=Zc; omega) U U U ?_
    exact BK.mk' _ ⟨k1 + 1,v9,o3,v10,o4,G2,U,L2,S12,(ZS.cast R5 (by (rw [Xi ‹_›]))),(ZS.cast R6 (by (rw [Xi ‹_›]))),(Zq U),(by omega)⟩ (show t.rows.length - (k1 + 1) < t.rows.length - k1 by omega)
   refine WL.buildSlice _ [(0,[S x1.r.x.a])] [S x1.r.x.a] S7 Yb U U U U (fun z hz=>by match z,hz with | [z0],_=>rfl) (fun b4 w10 N4 S13=>?_)
   refine ⟨fun h=>absurd h (by decide),S13.imm,?_⟩
   refine TGI.fork 3 [10,21,22,23] [10] U U (by decide) (by decide) (TAI.cons U ?_ TAI.nil)
   refine WL.push (m:=([x1.r.d.a] : List Int)) Yb U U U R1 S13 3 U 1 _ _ _ _ _ U ⟨[S x1.r.d.a],_,U,⟨U,B4⟩,U⟩ U (by have:=Zc; simp only [List.length_append,List.length_map,List.length_cons,List.length_nil]; omega) (by have:=Zc; simp only [List.length_append,List.length_map,List.length_cons,List.length_nil]; omega) U U U (fun v11 o5 w11 R7 S14=>?_)
   refine ⟨fun h=>absurd h (by decide),S14.imm,?_⟩
   refine TGI.fork 2 [21,22,23] [21] U U (by decide) (by decide) (TAI.cons U ?_ TAI.nil)
   refine WL.push (m:=([x1.r.x.a] : List Int)) Yb U U U R2 S14 2 U 0 _ _ _ _ _ U ⟨[S x1.r.x.a],_,U,⟨U,B10⟩,U⟩ U (by have:=Zc; simp only [List.length_append,List.length_map,List.length_cons,List.length_nil]; omega) (by have:=Zc; simp only [List.length_append,List.length_map,List.length_cons,List.length_nil]; omega) U U U (fun v12 o6 w12 R8 S15=>?_)
   have S16:=S15.tail
   refine ⟨fun h=>absurd h (by decide),S16.imm,?_⟩
   refine TGI.quiet 1 [22,23] 22 U U U U U (by decide) S16.imm (fun w9 _ K9 k9=>WL.assign U k9) ?_
   refine TGI.quiet 0 [23] 23 U U U U U (by decide) S16.imm (fun w9 _ K9 k9=>WL.assign U k9) ?_
   refine TGI.fin U ?_
   refine Zj k1 (by have:=Zc; omega) U U U ?_
   have S17:=S16.tail
   exact BK.mk' _ ⟨k1 + 1,v11,o5,v12,o6,G2,U,L2,S17,(ZS.cast R7 (by (rw [Xi ‹_›]))),(ZS.cast R8 (by (rw [Xi ‹_›]))),(Zq U),(by omega)⟩ (show t.rows.length - (k1 + 1) < t.rows.length - k1 by omega)
  refine WL.buildSlice _ [(0,[S x1.r.x.a])] [S x1.r.x.a] S6 Yb U U U U (fun z hz=>by match z,hz with | [z0],_=>rfl) (fun b5 w13 N5 S18=>?_)
  refine ⟨fun h=>absurd h (by decide),S18.imm,?_⟩
  refine TGI.fork 4 [9,10,21,22,23] [9] U U (by decide) (by decide) (TAI.cons U ?_ TAI.nil)
  refine WL.buildSlice _ [(0,[S x1.r.d.a])] [S x1.r.d.a] S18 Yb U U U U (fun z hz=>by match z,hz with | [z0],_=>rfl) (fun b6 w14 N6 S19=>?_)
  refine ⟨fun h=>absurd h (by decide),S19.imm,?_⟩
  refine TGI.fork 3 [10,21,22,23] [10] U U (by decide) (by decide) (TAI.cons U ?_ TAI.nil)
  refine WL.push (m:=([x1.r.d.a] : List Int)) Yb U U U R1 S19 3 U 0 _ _ _ _ _ U ⟨[S x1.r.d.a],_,U,⟨U,B4⟩,U⟩ U (by have:=Zc; simp only [List.length_append,List.length_map,List.length_cons,List.length_nil]; omega) (by have:=Zc; simp only [List.length_append,List.length_map,List.length_cons,List.length_nil]; omega) U U U (fun v13 o7 w15 R9 S20=>?_)
  have S21:=S20.tail
  refine ⟨fun h=>absurd h (by decide),S21.imm,?_⟩
  refine TGI.fork 2 [21,22,23] [21] U U (by decide) (by decide) (TAI.cons U ?_ TAI.nil)
  refine WL.push (m:=([x1.r.x.a] : List Int)) Yb U U U R2 S21 1 U 0 _ _ _ _ _ U ⟨[S x1.r.x.a],_,U,⟨U,B10⟩,U⟩ U (by have:=Zc; simp only [List.length_append,List.length_map,List.length_cons,List.length_nil]; omega) (by have:=Zc; simp only [List.length_append,List.length_map,List.length_cons,List.length_nil]; omega) U U U (fun v14 o8 w16 R10 S22=>?_)
  have S23:=S22.tail
  refine ⟨fun h=>absurd h (by decide),S23.imm,?_⟩
  refine TGI.quiet 1 [22,23] 22 U U U U U (by decide) S23.imm (fun w9 _ K9 k9=>WL.assign U k9) ?_
  refine TGI.quiet 0 [23] 23 U U U U U (by decide) S23.imm (fun w9 _ K9 k9=>WL.assign U k9) ?_
  refine TGI.fin U ?_
  refine Zj k1 (by have:=Zc; omega) U U U ?_
  exact BK.mk' _ ⟨k1 + 1,v13,o7,v14,o8,G2,U,L2,S23,(ZS.cast R9 (by (rw [Xi ‹_›]))),(ZS.cast R10 (by (rw [Xi ‹_›]))),(Zq U),(by omega)⟩ (show t.rows.length - (k1 + 1) < t.rows.length - k1 by omega)
 obtain ⟨G3,L3,A6,S24⟩:=ZS.freeze R1 S3 1 U
 refine Z9 S24 ZoL U U U (Zlj S24.imm ((t.rows.take k1).map (fun (r : HRow)=>r.r.d.a)) _ A6 (by rw [List.length_map]; omega)) (fun w17 G4 r1 P1 S25 L4=>?_)
 obtain ⟨G5,L5,A7,S26⟩:=ZS.freeze (R2.mono (L3.trans L4)) S25 0 U
 refine Z9 S26 ZoL U U U (Zlj S26.imm ((t.rows.take k1).map (fun (r : HRow)=>r.r.x.a)) _ A7 (by rw [List.length_map]; omega)) (fun w18 G6 r2 P2 S27 L6=>?_)
 have hys:=Sl.cast (l':=(Yc (t.rows.map (fun (r : HRow)=>r.r.d.a)))) (P1.mono (L5.trans L6)) (by rw [List.take_of_length_le (by omega)])
 have hxs:=Sl.cast (l':=(Yc (t.rows.map (fun (r : HRow)=>r.r.x.a)))) P2 (by rw [List.take_of_length_le (by omega)])
 have hyl:=ZdX (t.rows.map (fun (r : HRow)=>r.r.d.a))
 have hxl:=ZdX (t.rows.map (fun (r : HRow)=>r.r.x.a))
 rw [List.length_map] at hyl hxl
 refine LP.go ft [] (fun m ρ1 w1=>∃ (k2 : Nat),∃ (G7 : GH),m = (Yc (t.rows.map (fun (r : HRow)=>r.r.x.a))).length - k2 ∧ G6.le G7 ∧ St w [] G G7 [none,none,some (b1,37,[Ze,S 0,S 0,S 0,S 0])] w1 ∧ FR ρ1 [(1,Zs p1),(2, .pointer (some ⟨b1,0,none⟩)),(4,r1),(5,r2),(7,S (k2 : Int))] ∧ k2 ≤ (Yc (t.rows.map (fun (r : HRow)=>r.r.x.a))).length ∧ ∀ i,i < k2 → ∀ x,(Yc (t.rows.map (fun (r : HRow)=>r.r.x.a)))[i]? = some x → ZeV t.s.key.toNat t.rows (Yc (t.rows.map (fun (r : HRow)=>r.r.d.a))) x = none) _ ⟨0,G6,U,(G6.le_refl),S27,(Zq U),(by omega),(by intro i hi; omega)⟩ ?_
 rintro m ρ1 w19 ⟨k2,G7,rfl,L7,S28,F9,f2,f3⟩
 refine F9.set ?_
 clear F9
 have V2:=hxs.bound
 refine Zl (hxs.mono L7) Yp U U ?_
 refine Zp (k2 : Int) (((Yc (t.rows.map (fun (r : HRow)=>r.r.x.a))).length : Nat) : Int) U U U (fun h2=>?_) (fun h2=>?_)
 ·obtain ⟨xv,hxv⟩:=ZaO (l:=(Yc (t.rows.map (fun (r : HRow)=>r.r.x.a)))) (k:=k2) (by omega)
  have hxb:=ZxZ hg9 hxv
  refine LP.go ft [] (fun m ρ1 w1=>∃ (k3 : Nat),∃ (G9 : GH),m = (Yc (t.rows.map (fun (r : HRow)=>r.r.d.a))).length - k3 ∧ G7.le G9 ∧ St w [] G G9 [none,none,some (b1,37,[Ze,S 0,S 0,S 0,S 0])] w1 ∧ FR ρ1 [(1,Zs p1),(2, .pointer (some ⟨b1,0,none⟩)),(4,r1),(5,r2),(7,S (k2 : Int)),(8,S (k3 : Int))] ∧ k3 ≤ (Yc (t.rows.map (fun (r : HRow)=>r.r.d.a))).length ∧ ∀ i,i < k3 → ∀ y,(Yc (t.rows.map (fun (r : HRow)=>r.r.d.a)))[i]? = some y → ((Ym t.s.key.toNat (ZR t.rows y xv)).map fun v=>Pt.mk xv y v) = none) _ ⟨0,G7,U,(G7.le_refl),S28,(Zq U),(by omega),(by intro i hi; omega)⟩ ?_
  rintro m ρ1 w20 ⟨k3,G9,rfl,L9,S29,F9,f4,f5⟩
  refine F9.set ?_
  clear F9
  have V3:=hys.bound
  refine Zl (hys.mono (L7.trans L9)) Yp U U ?_
  refine Zp (k3 : Int) (((Yc (t.rows.map (fun (r : HRow)=>r.r.d.a))).length : Nat) : Int) U U U (fun h3=>?_) (fun h3=>?_)
  ·obtain ⟨yv,hyv⟩:=ZaO (l:=(Yc (t.rows.map (fun (r : HRow)=>r.r.d.a)))) (k:=k3) (by omega)
   have hyb:=Zya hg9 hyv
   obtain ⟨p4,x3,U3,E3,W3⟩:=Sl.at (hys.mono (L7.trans L9)) k3 (by omega)
   obtain rfl : yv = x3:=Option.some.inj (hyv.symm.trans U3)
   obtain ⟨D3,C4,R11⟩:=E3
   obtain ⟨rfl,YU⟩:=R11
   obtain ⟨p5,x4,U4,E4,W4⟩:=Sl.at (hxs.mono (L7.trans L9)) k2 (by omega)
   obtain rfl : xv = x4:=Option.some.inj (hxv.symm.trans U4)
   obtain ⟨D4,C5,R12⟩:=E4
   obtain ⟨rfl,Xa⟩:=R12
   refine drT [12,13,14,15,16,17,18] [(58, .agg #[Za t.s.name,v1,S t.s.key,v2]),(60,v3),(63,Zs p4),(64,S yv),(67,Zs p5),(68,S xv)] S29 ⟨fun _ hSw=>Zb hSw (XC.drop 0 (C1.mono ((((((L2.trans L3).trans L4).trans L5).trans L6).trans L7).trans L9))) [Za t.s.name,v1,S t.s.key,v2] Qo U U U U U <| nu U U,fun _ hSw=>Z hSw (XC.drop 4 (C1.mono ((((((L2.trans L3).trans L4).trans L5).trans L6).trans L7).trans L9))) YK U U U <| nu U U,fun _=>Zg k3 W3 Yp Zt U U U U <| nu U U,fun _ hSw=>Z hSw C4 Zt U U U <| nu U U,fun _=>Zg k2 W4 Yp Zt U U U U <| nu U U,fun _ hSw=>Z hSw C5 Zt U U U <| nu U U,trivial⟩ (fun w21 S30=>?_)
   refine TGI.toTG (I:=fun w9=>GH.In G9 w9) _ _ _ _ ?_
   refine TGI.fork 6 [12,13,14,15,16,17,18] [12] U U (by decide) (by decide) (TAI.cons U ?_ TAI.nil)
   refine Z9 S30 ZsB U U U (ZeD S30.imm t.rows yv xv _ (A3.mono (((((((L1.trans L2).trans L3).trans L4).trans L5).trans L6).trans L7).trans L9)) (by omega)) (fun w22 G10 r3 P3 S31 L10=>?_)
   refine ⟨fun _=>S31.down S30.le L10,(S31.imm.down L10),?_⟩
   refine TGI.fork 5 [13,14,15,16,17,18] [13] U U (by decide) (by decide) (TAI.cons U ?_ TAI.nil)
   refine Z9 S31 ZzV U U U (Zwu S31.imm t.s (ZR t.rows yv xv) _ (Yo t.s B1 (A1.mono ((((((((L1.trans L2).trans L3).trans L4).trans L5).trans L6).trans L7).trans L9).trans L10)) B2 (A2.mono ((((((((L1.trans L2).trans L3).trans L4).trans L5).trans L6).trans L7).trans L9).trans L10))) _ P3 (by omega) (ZkD hv _ _)) ?_
   rintro w23 G11 _ ⟨r5,_,rfl,A8,rfl⟩ S32 L11
   have j2:=(L10.trans L11)
   refine ⟨fun h=>absurd h (by decide),(S32.imm.down j2),?_⟩
   refine TGI.quiet 4 [14,15,16,17,18] 14 U U U U U (by decide) (S32.imm.down j2) (fun w9 _ K9 k9=>WL.move U k9) ?_
   refine TGI.quiet 3 [15,16,17,18] 15 U U U U U (by decide) (S32.imm.down j2) (fun w9 _ K9 k9=>WL.extract _ _ U U U k9) ?_
   refine TGI.quiet 2 [16,17,18] 16 U U U U U (by decide) (S32.imm.down j2) (fun w9 _ K9 k9=>WL.extract _ _ U U U k9) ?_
   refine TGI.quiet 1 [17,18] 17 U U U U U (by decide) (S32.imm.down j2) (fun w9 _ K9 k9=>WL.assign U k9) ?_
   refine TGI.fork 0 [18] [18] U U (by decide) (by decide) (TAI.cons U ?_ TAI.nil)
   refine WL.assign U ?_
   refine ⟨fun h=>absurd h (by decide),(S32.imm.down j2),?_⟩
   refine TGI.fin U ?_
   refine Qn (d:=10) U (fun (h4 : ((Ym t.s.key.toNat (ZR t.rows yv xv)).isSome) = true)=>?_) (fun (h4 : ((Ym t.s.key.toNat (ZR t.rows yv xv)).isSome) = false)=>?_)
   ·obtain ⟨p6,x5,U5,E5,W5⟩:=Sl.at (hys.mono (((L7.trans L9).trans L10).trans L11)) k3 (by omega)
    obtain rfl : yv = x5:=Option.some.inj (hyv.symm.trans U5)
    obtain ⟨D5,C6,R13⟩:=E5
    obtain ⟨rfl,XF⟩:=R13
    obtain ⟨p7,x6,U6,E6,W6⟩:=Sl.at (hxs.mono (((L7.trans L9).trans L10).trans L11)) k2 (by omega)
    obtain rfl : xv = x6:=Option.some.inj (hxv.symm.trans U6)
    obtain ⟨D6,C7,R14⟩:=E6
    obtain ⟨rfl,Xz⟩:=R14
    refine drT [4,8,9,10,11] [(77,Zs p6),(81,Zs p7)] S32 ⟨fun _=>Zg k3 W5 Yp Zt U U U U <| nu U U,fun _=>Zg k2 W6 Yp Zt U U U U <| nu U U,trivial⟩ (fun w24 S33=>?_)
    refine TGI.toTG (I:=fun w9=>GH.In G11 w9) _ _ _ _ ?_
    refine TGI.quiet 4 [4,8,9,10,11] 4 U U U U U (by decide) S33.imm (fun w9 i9 K9 k9=>Z (St.start (X:=[]) i9) C6 Zt U U U k9) ?_
    refine TGI.quiet 3 [8,9,10,11] 8 U U U U U (by decide) S33.imm (fun w9 i9 K9 k9=>Z (St.start (X:=[]) i9) C7 Zt U U U k9) ?_
    refine TGI.fork 2 [9,10,11] [9] U U (by decide) (by decide) (TAI.cons U ?_ TAI.nil)
    refine Z9 S33 Zxd U U U (Znd S33.imm ((Ym t.s.key.toNat (ZR t.rows yv xv)).getD []) yv xv _ A8 hyb.1 hxb.1 hyb.2 hxb.2) (fun w25 G12 r7 P5 S34 L12=>?_)
    obtain ⟨D7,rfl,R15⟩:=P5
    obtain ⟨v15,rfl,A9,QK,XG,XY,Q8⟩:=Z7 R15
    refine ⟨fun h=>absurd h (by decide),(S34.imm.down L12),?_⟩
    refine TGI.fork 1 [10,11] [10] U U (by decide) (by decide) (TAI.cons U ?_ TAI.nil)
    refine Zi S34 2 [v15,S ((ZZ (some (Pt.mk xv yv ((Ym t.s.key.toNat (ZR t.rows yv xv)).getD [])))).r.d.a),S ((ZZ (some (Pt.mk xv yv ((Ym t.s.key.toNat (ZR t.rows yv xv)).getD [])))).r.d.b),S ((ZZ (some (Pt.mk xv yv ((Ym t.s.key.toNat (ZR t.rows yv xv)).getD [])))).r.x.a),S ((ZZ (some (Pt.mk xv yv ((Ym t.s.key.toNat (ZR t.rows yv xv)).getD [])))).r.x.b)] U U Zz U U (by simp only [ZA,A9.oneC] <;> rfl) U U U (fun w26 S35=>?_)
    refine ⟨fun h=>absurd h (by decide),(S35.imm.down L12),?_⟩
    refine TGI.quiet 0 [11] 11 U U U U U (by decide) (S35.imm.down L12) (fun w9 _ K9 k9=>WL.assign U k9) ?_
    refine TGI.fin U ?_
    exact Xr [.agg #[v15,S ((ZZ (some (Pt.mk xv yv ((Ym t.s.key.toNat (ZR t.rows yv xv)).getD [])))).r.d.a),S ((ZZ (some (Pt.mk xv yv ((Ym t.s.key.toNat (ZR t.rows yv xv)).getD [])))).r.d.b),S ((ZZ (some (Pt.mk xv yv ((Ym t.s.key.toNat (ZR t.rows yv xv)).getD [])))).r.x.a),S ((ZZ (some (Pt.mk xv yv ((Ym t.s.key.toNat (ZR t.rows yv xv)).getD [])))).r.x.b)], .bool true] S35 ⟨_,_,_,U,U,S35.loadA 2 _ _ _ 0 [v15,S ((ZZ (some (Pt.mk xv yv ((Ym t.s.key.toNat (ZR t.rows yv xv)).getD [])))).r.d.a),S ((ZZ (some (Pt.mk xv yv ((Ym t.s.key.toNat (ZR t.rows yv xv)).getD [])))).r.d.b),S ((ZZ (some (Pt.mk xv yv ((Ym t.s.key.toNat (ZR t.rows yv xv)).getD [])))).r.x.a),S ((ZZ (some (Pt.mk xv yv ((Ym t.s.key.toNat (ZR t.rows yv xv)).getD [])))).r.x.b)] U U U Zz U,⟨_,U,U⟩⟩ ⟨_,_,U,(Is.cast ⟨_,U,(ZT (HRow.mk ((ZZ (some (Pt.mk xv yv ((Ym t.s.key.toNat (ZR t.rows yv xv)).getD [])))).v) (Rect.mk (Span.mk ((ZZ (some (Pt.mk xv yv ((Ym t.s.key.toNat (ZR t.rows yv xv)).getD [])))).r.d.a) ((ZZ (some (Pt.mk xv yv ((Ym t.s.key.toNat (ZR t.rows yv xv)).getD [])))).r.d.b)) (Span.mk ((ZZ (some (Pt.mk xv yv ((Ym t.s.key.toNat (ZR t.rows yv xv)).getD [])))).r.x.a) ((ZZ (some (Pt.mk xv yv ((Ym t.s.key.toNat (ZR t.rows yv xv)).getD [])))).r.x.b)))) A9 QK XG XY Q8)⟩ (by exact (Zoi ‹_› hxv ‹_› hyv ‹_›).1)),(congrArg Value.bool (by exact (Zoi ‹_› hxv ‹_› hyv ‹_›).2))⟩
   refine Zj k3 (by have:=Zc; omega) U U U ?_
   exact BK.mk' _ ⟨k3 + 1,G11,U,(L9.trans j2),S32,(Zq U),(by omega),(by exact ZW ‹_› hyv (Zn3 ‹_›))⟩ (show (Yc (t.rows.map (fun (r : HRow)=>r.r.d.a))).length - (k3 + 1) < (Yc (t.rows.map (fun (r : HRow)=>r.r.d.a))).length - k3 by omega)
  refine Zj k2 (by have:=Zc; omega) U U U ?_
  exact BK.mk' _ ⟨k2 + 1,G9,U,(L7.trans L9),S29,(Zq U),(by omega),(by exact ZW ‹_› hxv (ZrM ‹_› (by omega)))⟩ (show (Yc (t.rows.map (fun (r : HRow)=>r.r.x.a))).length - (k2 + 1) < (Yc (t.rows.map (fun (r : HRow)=>r.r.x.a))).length - k2 by omega)
 refine WL.build _ [] [Ze,S 0,S 0,S 0,S 0] Zz U Za6 U U U U ?_
 refine Zi S28 2 [Ze,S 0,S 0,S 0,S 0] U U Zz U U U U U U (fun w27 S36=>?_)
 exact Xr [.agg #[Ze,S 0,S 0,S 0,S 0], .bool false] S36 ⟨_,_,_,U,U,S36.loadA 2 _ _ _ 0 [Ze,S 0,S 0,S 0,S 0] U U U Zz U,⟨_,U,U⟩⟩ ⟨_,_,U,(Is.cast ⟨_,U,(ZT (HRow.mk [] (Rect.mk (Span.mk 0 0) (Span.mk 0 0))) (Sl.nil ValE 32 G7) ZP ZP ZP ZP)⟩ (by exact (Zoj ‹_› (by omega)).1)),(congrArg Value.bool (by exact (Zoj ‹_› (by omega)).2))⟩
end Go.Civ
set_option linter.unusedVariables false
set_option linter.unusedSimpArgs false
set_option maxRecDepth 100000
set_option maxHeartbeats 4000000
namespace Go.Civ
open Go.Proofs
theorem ZgB {G : GH} {w : World} (hG : G.In w) (s : Schema) (nm : List UInt8) (cs : List Value) (hcs : SchemaE.rep G s cs) : CL Tryz.prog (nat_lit 28) #[.agg cs.toArray,Za nm] [] w G fun _ _ r=>r = S (Xw (s.cols.map Col.name) nm):=by
 refine Zh ft [] Tryz.func28 U U ?_
 have hS:=St.start (X:=[]) hG
 obtain ⟨v1,v2,rfl,B1,A1,B2,A2⟩:=YZ hcs
 refine Zw [Za s.name,v1,S s.key,v2] _ hS U U U (fun p1 w1 G1 L1 M1 C1 S1=>?_)
 refine LP.go ft [] (fun m ρ1 w1=>∃ (k1 : Nat),∃ (G2 : GH),m = s.cols.length - k1 ∧ G1.le G2 ∧ St w [] G G2 [] w1 ∧ FR ρ1 [(1,Za nm),(2,Zs p1),(5,S (k1 : Int))] ∧ k1 ≤ s.cols.length ∧ ∀ j,j < k1 → ∀ x,s.cols[j]? = some x → decide (x.name = nm) = false) _ ⟨0,G1,U,(G1.le_refl),S1,⟨U,U,U,trivial⟩,(by omega),(by intro j hj; omega)⟩ ?_
 rintro m ρ1 w2 ⟨k1,G2,rfl,L2,S2,F9,f1,f2⟩
 refine F9.set ?_
 clear F9
 refine Z S2 (XC.drop 1 (C1.mono L2)) ZaY U U U ?_
 have V1:=A1.bound
 have j1:=(L1.trans L2)
 refine Zl (A1.mono j1) Qk U U ?_
 refine Zp (k1 : Int) (s.cols.length : Int) U U U (fun h1=>?_) (fun h1=>?_)
 ·refine Z S2 (XC.drop 1 (C1.mono L2)) ZaY U U U ?_
  refine WL.indexAddr (A1.mono j1) k1 (by omega) Qk YX U U U U (fun p2 x1 U1 E1=>?_)
  obtain ⟨D1,C2,R1⟩:=E1
  obtain ⟨rfl,B3,B4⟩:=Xm R1
  refine Z S2 (XC.drop 0 C2) ZF U U U <| ZJ .eql U x1.name nm U U U ?_
  refine WL.split (fun h0=>?_) (fun h0=>?_)
  ·have h2 : x1.name = nm:=by simpa [SCmp.b] using h0
   clear h0
   exact RI S2 U (by exact Zyb ‹_› ‹_› ‹_›)
  have h2 : x1.name ≠ nm:=by simpa [SCmp.b] using h0
  clear h0
  refine Zj k1 (by have:=Zc; omega) U U U ?_
  exact BK.mk' _ ⟨k1 + 1,G2,U,L2,S2,⟨U,U,U,trivial⟩,(by omega),(by exact ZW ‹_› ‹_› (decide_eq_false ‹_›))⟩ (show s.cols.length - (k1 + 1) < s.cols.length - k1 by omega)
 exact RI S2 U (by exact Zyc ‹_› (by omega))
theorem Zww {G : GH} {w : World} (hG : G.In w) (s : Schema) (f : Foreign) (v : List Val) (cs : List Value) (hcs : SchemaE.rep G s cs) (cf : List Value) (hcf : ForeignE.rep G f cf) (vv : Value) (hvv : Sl ValE 32 G vv v) (ka : ∀ c ∈ f.cols,0 ≤ Xw (s.cols.map Col.name) c) (kb : s.cols.length ≤ v.length) (kc : f.cols.length ≤ 1000) : CL Tryz.prog (nat_lit 37) #[.agg cs.toArray, .agg cf.toArray,vv] [] w G fun G' _ r=>Sl ValE 32 G' r (ZcA s f.cols v):=by
 refine Zh ft [] Tryz.func37 U U ?_
 have hS:=St.start (X:=[]) hG
 obtain ⟨v1,v2,rfl,B1,A1,B2,A2⟩:=YZ hcs
 obtain ⟨v3,rfl,A3,B3⟩:=Xg hcf
 refine Zw [Za s.name,v1,S s.key,v2] _ hS U U U (fun p1 w1 G1 L1 M1 C1 S1=>?_)
 refine Zw [v3,Za f.table] _ S1 U U U (fun p2 w2 G2 L2 M2 C2 S2=>?_)
 have S4:=S2.pad
 refine LP.go ft [] (fun m ρ1 w1=>∃ (k1 : Nat),∃ (v4 : Value) (o1 : OB),∃ (G3 : GH),m = f.cols.length - k1 ∧ G2.le G3 ∧ St w [] G G3 [o1] w1 ∧ ZS ValE 32 58 G3 v4 (ZcA s (f.cols.take k1) v) o1 ∧ FR ρ1 [(2,vv),(3,Zs p1),(4,Zs p2),(7,v4),(8,S (k1 : Int))] ∧ k1 ≤ f.cols.length) _ ⟨0,(Ze),none,G2,U,(G2.le_refl),S4,(ZS.cast (ZS.nil ValE 32 58 G2) (by rfl)),(Zq U),(by omega)⟩ ?_
 rintro m ρ1 w3 ⟨k1,v4,o1,G3,rfl,L3,S3,R1,F9,f1⟩
 refine F9.set ?_
 clear F9
 have hrl:=Zue (s:=s) (v:=v) f.cols k1
 refine Z S3 (XC.drop 0 (C2.mono L3)) ZaH U U U ?_
 have V1:=A3.bound
 have j1:=((L1.trans L2).trans L3)
 refine Zl (A3.mono j1) Xy U U ?_
 refine Zp (k1 : Int) (f.cols.length : Int) U U U (fun h1=>?_) (fun h1=>?_)
 ·obtain ⟨cv,hcv⟩:=ZaO (l:=f.cols) (k:=k1) (by omega)
  have hix9:=ka cv (List.mem_of_getElem? hcv)
  have hlt9:=ZiY hix9
  have hfl:=(by assumption : Sl Enc.str 16 G _ f.cols).bytes
  obtain ⟨p3,x1,U1,E1,W1⟩:=Sl.at (A3.mono j1) k1 (by omega)
  obtain rfl : cv = x1:=Option.some.inj (hcv.symm.trans U1)
  obtain ⟨D1,C3,R2⟩:=E1
  obtain ⟨rfl,B4⟩:=R2
  obtain ⟨p4,x2,U2,E2,W2⟩:=Sl.at (hvv.mono j1) (((Xw (s.cols.map Col.name) cv)).toNat) (by omega)
  obtain ⟨D2,C4,R3⟩:=E2
  obtain ⟨rfl,B5,B6,B7⟩:=Yj R3
  refine dr [(11,false),(12,false),(13,false)] [(18, .agg #[Za s.name,v1,S s.key,v2]),(20,v3),(22,Zs p3),(23,Za cv),(24,S (Xw (s.cols.map Col.name) cv)),(25,Zs p4),(26, .agg #[S x2.k,S x2.n,Za x2.s])] S3 ⟨fun _ hSw=>Zb hSw (C1.mono (L2.trans L3)) [Za s.name,v1,S s.key,v2] Qo U U U U U <| nu U U,fun _ hSw=>Z hSw (XC.drop 0 (C2.mono L3)) ZaH U U U <| nu U U,fun _=>Zg k1 W1 Xy ZF U U U U <| nu U U,fun _ hSw=>Z hSw C3 ZF U U U <| nu U U,fun _ hSw=>Z3 hSw Zfl U U U (ZgB hSw.imm s cv _ (Yo s B1 (A1.mono j1) B2 (A2.mono j1))) U,fun _=>Zg (((Xw (s.cols.map Col.name) cv)).toNat) W2 Yv Z6 U U U (congrArg (Value.int .i64) (Int.toNat_of_nonneg (by omega)).symm) <| nu U U,fun _ hSw=>Zb hSw C4 [S x2.k,S x2.n,Za x2.s] Z6 U U U U U <| nu U U,trivial⟩ (fun w4 S5=>?_)
  refine WL.buildSlice _ [(0,[S x2.k,S x2.n,Za x2.s])] [S x2.k,S x2.n,Za x2.s] S5 ZlT U U U U (fun z hz=>by match z,hz with | [z0,z1,z2],_=>rfl) (fun b1 w5 N1 S6=>?_)
  refine WL.push (m:=([x2] : List Val)) ZlT U U U R1 S6 1 U 0 _ _ _ _ _ U ⟨[S x2.k,S x2.n,Za x2.s],_,U,(YP x2 B5 B6 B7),U⟩ U (by have:=Zc; simp only [Zx]; omega) (by have:=Zc; simp only [Zx]; omega) U U U (fun v5 o2 w6 R4 S7=>?_)
  have S8:=S7.tail
  refine Zj k1 (by have:=Zc; omega) U U U ?_
  exact BK.mk' _ ⟨k1 + 1,v5,o2,G3,U,L3,S8,(ZS.cast R4 (by (exact (ZrN hcv ‹_›).symm))),(Zq U),(by omega)⟩ (show f.cols.length - (k1 + 1) < f.cols.length - k1 by omega)
 obtain ⟨G4,L4,A4,S9⟩:=ZS.freeze R1 S3 0 U
 exact RT S9 U (Sl.cast A4 (by rw [List.take_of_length_le (by omega)]))
theorem Zuh {G : GH} {w : World} (hG : G.In w) (s : Schema) (l : VV) (key : List Val) (cs : List Value) (hcs : SchemaE.rep G s cs) (vl : Value) (hvl : Sl (ValE.slice 32) 24 G vl l) (vk : Value) (hvk : Sl ValE 32 G vk key) (k0 : 0 ≤ s.key) (hk : ∀ v ∈ l,s.key ≤ v.length) : CL Tryz.prog (nat_lit 95) #[.agg cs.toArray,vl,vk] [] w G fun _ _ r=>r = .bool (l.any fun u=>decide (u.take s.key.toNat = key)):=by
 refine Zh ft [] Tryz.func95 U U ?_
 have hS:=St.start (X:=[]) hG
 obtain ⟨v1,v2,rfl,B1,A1,B2,A2⟩:=YZ hcs
 refine Zw [Za s.name,v1,S s.key,v2] _ hS U U U (fun p1 w1 G1 L1 M1 C1 S1=>?_)
 refine LP.go ft [] (fun m ρ1 w1=>∃ (k1 : Nat),∃ (G2 : GH),m = l.length - k1 ∧ G1.le G2 ∧ St w [] G G2 [] w1 ∧ FR ρ1 [(1,vl),(2,vk),(3,Zs p1),(7,S (k1 : Int))] ∧ k1 ≤ l.length ∧ ∀ j,j < k1 → ∀ u,l[j]? = some u → decide (u.take s.key.toNat = key) = false) _ ⟨0,G1,U,(G1.le_refl),S1,(Zq U),(by omega),(by intro j hj; omega)⟩ ?_
 rintro m ρ1 w2 ⟨k1,G2,rfl,L2,S2,F9,f1,f2⟩
 refine F9.set ?_
 clear F9
 have V1:=hvl.bound
 have j1:=(L1.trans L2)
 refine Zl (hvl.mono j1) Ql U U ?_
 refine Zp (k1 : Int) (l.length : Int) U U U (fun h1=>?_) (fun h1=>?_)
 ·obtain ⟨p2,x1,U1,E1,W1⟩:=Sl.at (hvl.mono j1) k1 (by omega)
  obtain ⟨D1,C2,R1⟩:=E1
  obtain ⟨v3,rfl,A3⟩:=R1
  refine dr [(5,false),(7,false)] [(14, .agg #[Za s.name,v1,S s.key,v2]),(17,Zs p2),(18,v3)] S2 ⟨fun _ hSw=>Zb hSw (C1.mono L2) [Za s.name,v1,S s.key,v2] Qo U U U U U <| nu U U,fun _=>Zg k1 W1 Ql ZK U U U U <| nu U U,fun _ hSw=>Z hSw C2 ZK U U U <| nu U U,trivial⟩ (fun w3 S3=>?_)
  refine Z9 S3 ZsH U U U (Znc S3.imm s x1 _ (Yo s B1 (A1.mono j1) B2 (A2.mono j1)) _ A3 k0 (hk _ (List.mem_of_getElem? ‹_›))) (fun w4 G3 r1 P1 S4 L3=>?_)
  refine Zr S4 ZsF U U U (Zma S4.imm (x1.take s.key.toNat) key _ P1 _ (hvk.mono (j1.trans L3))) (fun w5 G4 S5 L4=>?_)
  refine WL.split (fun (h2 : (decide ((x1.take s.key.toNat) = key)) = true)=>?_) (fun (h2 : (decide ((x1.take s.key.toNat) = key)) = false)=>?_)
  ·exact RB S5 U (by exact Zuf ‹_› ‹_›)
  refine Zj k1 (by have:=Zc; omega) U U U ?_
  exact BK.mk' _ ⟨k1 + 1,G4,U,(L2.trans (L3.trans L4)),S5,(Zq U),(by omega),(by exact ZW ‹_› ‹_› ‹_›)⟩ (show l.length - (k1 + 1) < l.length - k1 by omega)
 exact RB S2 U (by exact (ZnS ‹_› (by omega)).symm)
theorem ZkE {G : GH} {w : World} (hG : G.In w) (a b : List (List UInt8)) (va : Value) (hva : Sl Enc.str 16 G va a) (vb : Value) (hvb : Sl Enc.str 16 G vb b) : CL Tryz.prog (nat_lit 94) #[va,vb] [] w G fun _ _ r=>r = .bool (decide (a = b)):=by
 refine Zh ft [] Tryz.func94 U U ?_
 have hS:=St.start (X:=[]) hG
 have V1:=hva.bound
 refine Zl hva Xy U U ?_
 have V2:=hvb.bound
 refine Zl hvb Xy U U ?_
 refine Yr (a.length : Int) (b.length : Int) U U U (fun h1=>?_) (fun h1=>?_)
 ·exact RB hS U (by rw [← XE]; first | exact (Qa (by omega)).symm | exact (Q6 (f:=fun (x y : (List UInt8))=>decide (x = y)) ‹_› ‹_› (decide_eq_false (by rintro rfl; first | exact absurd U ‹_› | simp_all))).symm | exact (Qr (by omega) ‹_› (by omega)).symm)
 refine LP.go ft [] (fun m ρ1 w1=>∃ (k1 : Nat),∃ (G1 : GH),m = a.length - k1 ∧ G.le G1 ∧ St w [] G G1 [] w1 ∧ FR ρ1 [(0,va),(1,vb),(5,S (k1 : Int))] ∧ k1 ≤ a.length ∧ ∀ j,j < k1 → ∀ x y,a[j]? = some x → b[j]? = some y → decide (x = y) = true) _ ⟨0,G,U,(G.le_refl),hS,⟨U,U,U,trivial⟩,(by omega),(by intro j hj; omega)⟩ ?_
 rintro m ρ1 w1 ⟨k1,G1,rfl,L1,S1,F9,f1,f2⟩
 refine F9.set ?_
 clear F9
 have V3:=hva.bound
 refine Zl (hva.mono L1) Xy U U ?_
 refine Zp (k1 : Int) (a.length : Int) U U U (fun h2=>?_) (fun h2=>?_)
 ·obtain ⟨p1,x1,U1,E1,W1⟩:=Sl.at (hva.mono L1) k1 (by omega)
  obtain ⟨D1,C1,R1⟩:=E1
  obtain ⟨rfl,B1⟩:=R1
  obtain ⟨p2,x2,U2,E2,W2⟩:=Sl.at (hvb.mono L1) k1 (by omega)
  obtain ⟨D2,C2,R2⟩:=E2
  obtain ⟨rfl,B2⟩:=R2
  rcases Classical.em (x1 = x2) with h3 | h3
  ·refine dr [] [(19,Zs p1),(20,Za x1),(23,Zs p2),(24,Za x2),(25, .bool false)] S1 ⟨fun _=>Zg k1 W1 Xy ZF U U U U <| nu U U,fun _ hSw=>Z hSw C1 ZF U U U <| nu U U,fun _=>Zg k1 W2 Xy ZF U U U U <| nu U U,fun _ hSw=>Z hSw C2 ZF U U U <| nu U U,fun _=>YF .neq U x1 x2 false (by simp [h3,SCmp.b]) U U U <| nu U U,trivial⟩ (fun w2 S2=>?_)
   refine Zj k1 (by have:=Zc; omega) U U U ?_
   exact BK.mk' _ ⟨k1 + 1,G1,U,L1,S2,⟨U,U,U,trivial⟩,(by omega),(by exact QT ‹_› ‹_› ‹_› (decide_eq_true (‹_›)))⟩ (show a.length - (k1 + 1) < a.length - k1 by omega)
  refine dr [] [(19,Zs p1),(20,Za x1),(23,Zs p2),(24,Za x2),(25, .bool true)] S1 ⟨fun _=>Zg k1 W1 Xy ZF U U U U <| nu U U,fun _ hSw=>Z hSw C1 ZF U U U <| nu U U,fun _=>Zg k1 W2 Xy ZF U U U U <| nu U U,fun _ hSw=>Z hSw C2 ZF U U U <| nu U U,fun _=>YF .neq U x1 x2 true (by simp [h3,SCmp.b]) U U U <| nu U U,trivial⟩ (fun w3 S3=>?_)
  exact RB S3 U (by rw [← XE]; first | exact (Qa (by omega)).symm | exact (Q6 (f:=fun (x y : (List UInt8))=>decide (x = y)) ‹_› ‹_› (decide_eq_false (by rintro rfl; first | exact absurd U ‹_› | simp_all))).symm | exact (Qr (by omega) ‹_› (by omega)).symm)
 exact RB S1 U (by rw [← XE]; first | exact (Qa (by omega)).symm | exact (Q6 (f:=fun (x y : (List UInt8))=>decide (x = y)) ‹_› ‹_› (decide_eq_false (by rintro rfl; first | exact absurd U ‹_› | simp_all))).symm | exact (Qr (by omega) ‹_› (by omega)).symm)
theorem Zok {G : GH} {w : World} (hG : G.In w) (t o : Schema) (f : Foreign) (cs : List Value) (hcs : SchemaE.rep G t cs) (cu : List Value) (hcu : SchemaE.rep G o cu) (cf : List Value) (hcf : ForeignE.rep G f cf) (hs : YB t = true) (ho : YB o = true) : CL Tryz.prog (nat_lit 32) #[.agg cs.toArray, .agg cu.toArray, .agg cf.toArray] [] w G fun _ _ r=>r = .bool (XN t o f):=by
 refine Zh ft [] Tryz.func32 U U ?_
 have hS:=St.start (X:=[]) hG
 obtain ⟨v1,v2,rfl,B1,A1,B2,A2⟩:=YZ hcs
 obtain ⟨v3,v4,rfl,B3,A3,B4,A4⟩:=YZ hcu
 obtain ⟨v5,rfl,A5,B5⟩:=Xg hcf
 refine Zw [Za t.name,v1,S t.key,v2] _ hS U U U (fun p1 w1 G1 L1 M1 C1 S1=>?_)
 refine Zw [Za o.name,v3,S o.key,v4] _ S1 U U U (fun p2 w2 G2 L2 M2 C2 S2=>?_)
 refine Zw [v5,Za f.table] _ S2 U U U (fun p3 w3 G3 L3 M3 C3 S3=>?_)
 refine LP.go ft [] (fun m ρ1 w1=>∃ (k1 : Nat),∃ (ow : Bool),∃ (G4 : GH),m = t.fks.length - k1 ∧ G3.le G4 ∧ St w [] G G4 [] w1 ∧ FR ρ1 [(3,Zs p1),(4,Zs p2),(5,Zs p3),(7, .bool ow),(8,S (k1 : Int))] ∧ k1 ≤ t.fks.length ∧ ow = (t.fks.take k1).any (fun g=>decide (g.table = f.table) && decide (g.cols = f.cols))) _ ⟨0,false,G3,U,(G3.le_refl),S3,(Zq U),(by omega),(by rfl)⟩ ?_
 rintro m ρ1 w4 ⟨k1,ow,G4,rfl,L4,S4,F9,f1,f2⟩
 refine F9.set ?_
 clear F9
 have j1:=((L2.trans L3).trans L4)
 refine Z S4 (XC.drop 3 (C1.mono j1)) ZcK U U U ?_
 have V1:=A2.bound
 have j2:=(((L1.trans L2).trans L3).trans L4)
 refine Zl (A2.mono j2) ZaZ U U ?_
 refine Zp (k1 : Int) (t.fks.length : Int) U U U (fun h1=>?_) (fun h1=>?_)
 ·obtain ⟨p4,x1,U1,E1,W1⟩:=Sl.at (A2.mono j2) k1 (by omega)
  obtain ⟨D1,C4,R1⟩:=E1
  obtain ⟨v6,rfl,A6,B6⟩:=Xg R1
  rcases Classical.em (x1.table = f.table) with h2 | h2
  ·obtain ⟨p5,x2,U2,E2,W2⟩:=Sl.at (A2.mono j2) k1 (by omega)
   obtain rfl : x1 = x2:=Option.some.inj (U1.symm.trans U2)
   obtain ⟨D2,C5,R2⟩:=E2
   obtain ⟨v7,rfl,A7,B7⟩:=Xg R2
   rcases Bool.eq_false_or_eq_true (decide (x1.cols = f.cols)) with h3 | h3
   ·refine dr [] [(18,v2),(20,Zs p4),(22,Za x1.table),(24,Za f.table),(25, .bool true),(28,v2),(30,Zs p5),(32,v7),(34,v5),(35, .bool true)] S4 ⟨fun _ hSw=>Z hSw (XC.drop 3 (C1.mono j1)) ZcK U U U <| nu U U,fun _=>Zg k1 W1 ZaZ Qj U U U U <| nu U U,fun _ hSw=>Z hSw (XC.drop 1 C4) ZF U U U <| nu U U,fun _ hSw=>Z hSw (XC.drop 1 (C3.mono L4)) ZF U U U <| nu U U,fun _=>YF .eql U x1.table f.table true (by simp [h2,SCmp.b]) U U U <| nu U U,fun _ hSw=>Z hSw (XC.drop 3 (C1.mono j1)) ZcK U U U <| nu U U,fun _=>Zg k1 W2 ZaZ Qj U U U U <| nu U U,fun _ hSw=>Z hSw (XC.drop 0 C5) ZaH U U U <| nu U U,fun _ hSw=>Z hSw (XC.drop 0 (C3.mono L4)) ZaH U U U <| nu U U,fun _ hSw=>Z3 hSw Zxh U U U (ZkE hSw.imm x1.cols f.cols _ A7 _ (A5.mono j2)) (congrArg Value.bool h3.symm),trivial⟩ (fun w5 S5=>?_)
    refine Zj k1 (by have:=Zc; omega) U U U ?_
    exact BK.mk' _ ⟨k1 + 1,true,G4,U,L4,S5,(Zq U),(by omega),(by exact Zyd (ow:=ow) ‹_› ‹_› ‹_›)⟩ (show t.fks.length - (k1 + 1) < t.fks.length - k1 by omega)
   refine dr [] [(18,v2),(20,Zs p4),(22,Za x1.table),(24,Za f.table),(25, .bool true),(28,v2),(30,Zs p5),(32,v7),(34,v5),(35, .bool false)] S4 ⟨fun _ hSw=>Z hSw (XC.drop 3 (C1.mono j1)) ZcK U U U <| nu U U,fun _=>Zg k1 W1 ZaZ Qj U U U U <| nu U U,fun _ hSw=>Z hSw (XC.drop 1 C4) ZF U U U <| nu U U,fun _ hSw=>Z hSw (XC.drop 1 (C3.mono L4)) ZF U U U <| nu U U,fun _=>YF .eql U x1.table f.table true (by simp [h2,SCmp.b]) U U U <| nu U U,fun _ hSw=>Z hSw (XC.drop 3 (C1.mono j1)) ZcK U U U <| nu U U,fun _=>Zg k1 W2 ZaZ Qj U U U U <| nu U U,fun _ hSw=>Z hSw (XC.drop 0 C5) ZaH U U U <| nu U U,fun _ hSw=>Z hSw (XC.drop 0 (C3.mono L4)) ZaH U U U <| nu U U,fun _ hSw=>Z3 hSw Zxh U U U (ZkE hSw.imm x1.cols f.cols _ A7 _ (A5.mono j2)) (congrArg Value.bool h3.symm),trivial⟩ (fun w6 S6=>?_)
   refine Zj k1 (by have:=Zc; omega) U U U ?_
   exact BK.mk' _ ⟨k1 + 1,ow,G4,U,L4,S6,(Zq U),(by omega),(by exact ZrO ‹_› ‹_› (by first | exact .inl ‹_› | exact .inr ‹_›))⟩ (show t.fks.length - (k1 + 1) < t.fks.length - k1 by omega)
  refine dr [] [(18,v2),(20,Zs p4),(22,Za x1.table),(24,Za f.table),(25, .bool false)] S4 ⟨fun _ hSw=>Z hSw (XC.drop 3 (C1.mono j1)) ZcK U U U <| nu U U,fun _=>Zg k1 W1 ZaZ Qj U U U U <| nu U U,fun _ hSw=>Z hSw (XC.drop 1 C4) ZF U U U <| nu U U,fun _ hSw=>Z hSw (XC.drop 1 (C3.mono L4)) ZF U U U <| nu U U,fun _=>YF .eql U x1.table f.table false (by simp [h2,SCmp.b]) U U U <| nu U U,trivial⟩ (fun w7 S7=>?_)
  refine Zj k1 (by have:=Zc; omega) U U U ?_
  exact BK.mk' _ ⟨k1 + 1,ow,G4,U,L4,S7,(Zq U),(by omega),(by exact ZrO ‹_› ‹_› (by first | exact .inl ‹_› | exact .inr ‹_›))⟩ (show t.fks.length - (k1 + 1) < t.fks.length - k1 by omega)
 have how : ow = ZgA t f:=by rw [(by assumption : ow = (t.fks.take k1).any (fun g=>decide (g.table = f.table) && decide (g.cols = f.cols))),List.take_of_length_le (by omega)]; rfl
 refine Qn (d:=7) U (fun (h4 : ow = true)=>?_) (fun (h4 : ow = false)=>?_)
 ·have j3:=(L3.trans L4)
  refine Z S4 (XC.drop 1 (C3.mono L4)) ZF U U U <| Z S4 (XC.drop 0 (C2.mono j3)) ZF U U U <| ZJ .neq U f.table o.name U U U ?_
  refine WL.split (fun h0=>?_) (fun h0=>?_)
  ·have h5 : f.table ≠ o.name:=by simpa [SCmp.b] using h0
   clear h0
   exact RB S4 U (by exact ZrD ‹_›)
  have h5 : f.table = o.name:=by simpa [SCmp.b] using h0
  clear h0
  refine Z S4 (XC.drop 0 (C3.mono L4)) ZaH U U U ?_
  have V2:=A5.bound
  refine Zl (A5.mono j2) Xy U U <| Z S4 (XC.drop 2 (C2.mono j3)) Zt U U U ?_
  refine Yr (f.cols.length : Int) o.key U U U (fun h6=>?_) (fun h6=>?_)
  ·exact RB S4 U (by exact ZrE ‹_›)
  have hown : ZgA t f = true:=how.symm.trans ‹_›
  have hkk:=(ZfJ ho).2
  refine LP.go ft [] (fun m ρ1 w1=>∃ (k2 : Nat),∃ (G5 : GH),m = f.cols.length - k2 ∧ G4.le G5 ∧ St w [] G G5 [] w1 ∧ FR ρ1 [(3,Zs p1),(4,Zs p2),(5,Zs p3),(9,S (k2 : Int))] ∧ k2 ≤ f.cols.length ∧ ∀ j,j < k2 → ∀ c,f.cols[j]? = some c → ZcU t o j c = true) _ ⟨0,G4,U,(G4.le_refl),S4,(Zq U),(by omega),(by intro j hj; omega)⟩ ?_
  rintro m ρ1 w9 ⟨k2,G5,rfl,L5,S8,F9,f3,f4⟩
  refine F9.set ?_
  clear F9
  have j4:=(L4.trans L5)
  refine Z S8 (XC.drop 0 (C3.mono j4)) ZaH U U U ?_
  have V3:=A5.bound
  have j5:=(j2.trans L5)
  refine Zl (A5.mono j5) Xy U U ?_
  refine Zp (k2 : Int) (f.cols.length : Int) U U U (fun h7=>?_) (fun h7=>?_)
  ·obtain ⟨cv,hcv⟩:=ZaO (l:=f.cols) (k:=k2) (by omega)
   have hix9:=ZhX hs hown cv (List.mem_of_getElem? hcv)
   have hlt9:=ZiY hix9
   obtain ⟨p6,x3,U3,E3,W3⟩:=Sl.at (A5.mono j5) k2 (by omega)
   obtain rfl : cv = x3:=Option.some.inj (hcv.symm.trans U3)
   obtain ⟨D3,C6,R3⟩:=E3
   obtain ⟨rfl,B8⟩:=R3
   obtain ⟨p7,x4,U4,E4,W4⟩:=Sl.at (A1.mono j5) (((Xw (t.cols.map Col.name) cv)).toNat) (by omega)
   obtain ⟨D4,C7,R4⟩:=E4
   obtain ⟨rfl,B9,B10⟩:=Xm R4
   obtain ⟨p8,x5,U5,E5,W5⟩:=Sl.at (A3.mono j5) k2 (by omega)
   obtain ⟨D5,C8,R5⟩:=E5
   obtain ⟨rfl,Y6,YU⟩:=Xm R5
   rcases Cmp.dec .neq x4.kind x5.kind with ⟨Xa,q1⟩ | ⟨Xa,q1⟩
   ·have h8 : x4.kind ≠ x5.kind:=q1
    clear q1
    refine dr [] [(62,v1),(63, .agg #[Za t.name,v1,S t.key,v2]),(65,v5),(67,Zs p6),(68,Za cv),(69,S (Xw (t.cols.map Col.name) cv)),(70,Zs p7),(72,S x4.kind),(74,v3),(76,Zs p8),(78,S x5.kind),(79, .bool true)] S8 ⟨fun _ hSw=>Z hSw (XC.drop 1 (C1.mono (j1.trans L5))) ZaY U U U <| nu U U,fun _ hSw=>Zb hSw (C1.mono (j1.trans L5)) [Za t.name,v1,S t.key,v2] Qo U U U U U <| nu U U,fun _ hSw=>Z hSw (XC.drop 0 (C3.mono j4)) ZaH U U U <| nu U U,fun _=>Zg k2 W3 Xy ZF U U U U <| nu U U,fun _ hSw=>Z hSw C6 ZF U U U <| nu U U,fun _ hSw=>Z3 hSw Zfl U U U (ZgB hSw.imm t cv _ (Yo t B1 (A1.mono j5) B2 (A2.mono j5))) U,fun _=>Zg (((Xw (t.cols.map Col.name) cv)).toNat) W4 Qk YX U U U (congrArg (Value.int .i64) (Int.toNat_of_nonneg (by omega)).symm) <| nu U U,fun _ hSw=>Z hSw (XC.drop 1 C7) Zt U U U <| nu U U,fun _ hSw=>Z hSw (XC.drop 1 (C2.mono (j3.trans L5))) ZaY U U U <| nu U U,fun _=>Zg k2 W5 Qk YX U U U U <| nu U U,fun _ hSw=>Z hSw (XC.drop 1 C8) Zt U U U <| nu U U,fun _=>WL.cmpV .neq U .i64 x4.kind x5.kind _ Xa U U U <| nu U U,trivial⟩ (fun w10 S9=>?_)
    exact RB S9 U (by exact ZrF ‹_› (ZrA ‹_› ‹_› ‹_›))
   have h8 : x4.kind = x5.kind:=q1
   clear q1
   refine dr [] [(62,v1),(63, .agg #[Za t.name,v1,S t.key,v2]),(65,v5),(67,Zs p6),(68,Za cv),(69,S (Xw (t.cols.map Col.name) cv)),(70,Zs p7),(72,S x4.kind),(74,v3),(76,Zs p8),(78,S x5.kind),(79, .bool false)] S8 ⟨fun _ hSw=>Z hSw (XC.drop 1 (C1.mono (j1.trans L5))) ZaY U U U <| nu U U,fun _ hSw=>Zb hSw (C1.mono (j1.trans L5)) [Za t.name,v1,S t.key,v2] Qo U U U U U <| nu U U,fun _ hSw=>Z hSw (XC.drop 0 (C3.mono j4)) ZaH U U U <| nu U U,fun _=>Zg k2 W3 Xy ZF U U U U <| nu U U,fun _ hSw=>Z hSw C6 ZF U U U <| nu U U,fun _ hSw=>Z3 hSw Zfl U U U (ZgB hSw.imm t cv _ (Yo t B1 (A1.mono j5) B2 (A2.mono j5))) U,fun _=>Zg (((Xw (t.cols.map Col.name) cv)).toNat) W4 Qk YX U U U (congrArg (Value.int .i64) (Int.toNat_of_nonneg (by omega)).symm) <| nu U U,fun _ hSw=>Z hSw (XC.drop 1 C7) Zt U U U <| nu U U,fun _ hSw=>Z hSw (XC.drop 1 (C2.mono (j3.trans L5))) ZaY U U U <| nu U U,fun _=>Zg k2 W5 Qk YX U U U U <| nu U U,fun _ hSw=>Z hSw (XC.drop 1 C8) Zt U U U <| nu U U,fun _=>WL.cmpV .neq U .i64 x4.kind x5.kind _ Xa U U U <| nu U U,trivial⟩ (fun w11 S10=>?_)
   refine Zj k2 (by have:=Zc; omega) U U U ?_
   exact BK.mk' _ ⟨k2 + 1,G5,U,L5,S10,(Zq U),(by omega),(by exact Zfw (P:=fun j c=>ZcU t o j c = true) ‹_› ‹_› (Zr9 ‹_› ‹_› ‹_›))⟩ (show f.cols.length - (k2 + 1) < f.cols.length - k2 by omega)
  exact RB S8 U (by exact ZrG hown ‹_› ‹_› ‹_› (by omega))
 exact RB S4 U (by exact ZrC (how.symm.trans ‹_›))
end Go.Civ
