/- Lemmas. -/
import Derived.Test.YthgeclodflmiaaaGreatD19
import Derived.Test.YthgeclodflmiaaaGreatD39
import Derived.Test.YthgeclodflmiaaaGreatProg
import Derived.KernelRfl
import Derived.WalkKit
set_option linter.unusedVariables false
set_option linter.unusedSimpArgs false
set_option maxRecDepth 100000
set_option maxHeartbeats 4000000
namespace Go.Civ
open Go.Proofs
theorem ZrT {G : GH} {w : World} (hG : G.In w) (t o : Table) (f : Foreign) (fr : Int) (ct : List Value) (hct : TableE.rep G t ct) (cu : List Value) (hcu : TableE.rep G o cu) (cf : List Value) (hcf : ForeignE.rep G f cf) (hfr : Z0 fr) (hfm : fr ≤ 253402300800) (hvt : Zu t = true) (hvo : Zu o = true) (hk : LinkOk (Link.mk t o f)) : CL Tryz.prog (nat_lit 33) #[.agg ct.toArray, .agg cu.toArray, .agg cf.toArray,S fr] [] w G fun G' _ r=>∃ r0 r1,r = .tuple #[r0,r1] ∧ Is HRowE G' r0 (ZZ (Qq t o f fr)) ∧ r1 = .bool ((Qq t o f fr).isSome):=by
 refine Y2 ft [] Tryz.func33 U U ?_
 have hS:=St.start (X:=[]) hG
 obtain ⟨v1,v2,v3,rfl,B1,A1,B2,A2,A3,B3⟩:=Zy hct
 obtain ⟨v4,v5,v6,rfl,B4,A4,B5,A5,A6,B6⟩:=Zy hcu
 obtain ⟨v7,rfl,A7,B7⟩:=Xg hcf
 refine Zw [Za t.s.name,v1,S t.s.key,v2,v3,S t.last] _ hS U U U (fun p1 w1 G1 L1 M1 C1 S1=>?_)
 refine Zw [Za o.s.name,v4,S o.s.key,v5,v6,S o.last] _ S1 U U U (fun p2 w2 G2 L2 M2 C2 S2=>?_)
 refine Zw [v7,Za f.table] _ S2 U U U (fun p3 w3 G3 L3 M3 C3 S3=>?_)
 refine WL.alloc S3 Zz U U (fun b1 w4 N1 S4=>?_)
 obtain ⟨hgt9,hnt9,ht89,het9⟩:=ZY hvt
 obtain ⟨hgo9,hno9,O89,heo9⟩:=ZY hvo
 have hfb : Z0 fr ∧ fr ≤ 253402300800:=⟨hfr,hfm⟩
 have hko:=Zha hvo
 have hfc : (f.cols.length : Int) = o.s.key:=hk.key
 have hkc:=(ZpD (Xb hvo).1)
 refine WL.buildSlice _ [] [] S4 Yb U U U U (fun z hz=>by match z,hz with | [],_=>rfl) (fun b2 w5 N2 S5=>?_)
 refine WL.buildSlice _ [(0,[S fr])] [S fr] S5 Yb U U U U (fun z hz=>by match z,hz with | [z0],_=>rfl) (fun b3 w6 N3 S6=>?_)
 have R1 : ZS Enc.int 8 3 G3 (.slice (some ⟨b2,0,none⟩) 0 0) [] (some (b2,3,[])):=ZS.ofNew U U (by simp [reach]) (by simp [reach])
 have R3 : ZS Enc.int 8 3 G3 (.slice (some ⟨b3,0,none⟩) 1 1) [fr] (some (b3,3,[S fr])):=ZS.ofNew ⟨[S fr],_,U,⟨U,hfr⟩,U⟩ U (by simp [reach]) (by simp [reach])
 refine LP.go ft [] (fun m ρ1 w1=>∃ (k1 : Nat),∃ (v9 : Value) (o1 : OB),∃ (v10 : Value) (o2 : OB),∃ (G4 : GH),m = t.rows.length - k1 ∧ G3.le G4 ∧ St w [] G G4 [o2,o1,some (b1,37,[Ze,S 0,S 0,S 0,S 0])] w1 ∧ ZS Enc.int 8 3 G4 v9 ((t.rows.take k1).map (fun (r : HRow)=>r.r.d.a)) o1 ∧ ZS Enc.int 8 3 G4 v10 (fr :: (t.rows.take k1).map (fun (r : HRow)=>r.r.x.a)) o2 ∧ FR ρ1 [(3,S fr),(4,Zs p1),(5,Zs p2),(6,Zs p3),(8, .pointer (some ⟨b1,0,none⟩)),(10,v9),(11,v10),(12,S (k1 : Int))] ∧ k1 ≤ t.rows.length) _ ⟨0,(.slice (some ⟨b2,0,none⟩) 0 0),(some (b2,3,[])),(.slice (some ⟨b3,0,none⟩) 1 1),(some (b3,3,[S fr])),G3,U,(G3.le_refl),S6,(ZS.cast R1 (by rfl)),(ZS.cast R3 (by rfl)),(Zq U),(by omega)⟩ ?_
 rintro m ρ1 w7 ⟨k1,v9,o1,v10,o2,G4,rfl,L4,S7,R2,R4,F9,f1⟩
 refine F9.set ?_
 clear F9
 have hlt:=List.length_take_le' k1 t.rows
 have j1:=((L2.trans L3).trans L4)
 refine Z S7 (XC.drop 4 (C1.mono j1)) YK U U U ?_
 have V1:=A3.bound
 have j2:=(((L1.trans L2).trans L3).trans L4)
 refine Zl (A3.mono j2) Yn U U ?_
 refine Zp (k1 : Int) (t.rows.length : Int) U U U (fun h1=>?_) (fun h1=>?_)
 ·refine drT [2,4,5,6,7,8,9,10,13,15,16,17,18,19,20,21,22,23] [] S7 trivial (fun w9 S8=>?_)
  refine TGI.toTG (I:=fun w9=>GH.In G4 w9) _ _ _ _ ?_
  refine TGI.quiet 17 [2,4,5,6,7,8,9,10,13,15,16,17,18,19,20,21,22,23] 2 U U U U U (by decide) S8.imm (fun w9 i9 K9 k9=>Z (St.start (X:=[]) i9) (XC.drop 4 (C1.mono j1)) YK U U U k9) ?_
  obtain ⟨p4,x1,U1,E1,W1⟩:=Sl.at (A3.mono j2) k1 (by omega)
  obtain ⟨D1,C4,R5⟩:=E1
  obtain ⟨v11,rfl,A8,B8,B9,B10,Y6⟩:=Z7 R5
  refine TGI.quiet 16 [4,5,6,7,8,9,10,13,15,16,17,18,19,20,21,22,23] 4 U U U U U (by decide) S8.imm (fun w9 _ K9 k9=>Zg k1 W1 Yn Zz U U U U k9) ?_
  refine TGI.quiet 15 [5,6,7,8,9,10,13,15,16,17,18,19,20,21,22,23] 5 U U U U U (by decide) S8.imm (fun w9 _ K9 k9=>WL.fieldAddr _ 1 _ Za6 U U U k9) ?_
  refine TGI.quiet 14 [6,7,8,9,10,13,15,16,17,18,19,20,21,22,23] 6 U U U U U (by decide) S8.imm (fun w9 _ K9 k9=>WL.fieldAddr _ 0 _ ZbY U U U k9) ?_
  refine TGI.quiet 13 [7,8,9,10,13,15,16,17,18,19,20,21,22,23] 7 U U U U U (by decide) S8.imm (fun w9 _ K9 k9=>WL.fieldAddr _ 0 _ XB U U U k9) ?_
  refine TGI.quiet 12 [8,9,10,13,15,16,17,18,19,20,21,22,23] 8 U U U U U (by decide) S8.imm (fun w9 i9 K9 k9=>Z (St.start (X:=[]) i9) (XC.drop 0 (XC.drop 0 (XC.drop 1 C4))) Zt U U U k9) ?_
  refine TGI.quiet 11 [9,10,13,15,16,17,18,19,20,21,22,23] 13 U U U U U (by decide) S8.imm (fun w9 i9 K9 k9=>Z (St.start (X:=[]) i9) (XC.drop 4 (C1.mono j1)) YK U U U k9) ?_
  obtain ⟨p5,x2,U2,E2,W2⟩:=Sl.at (A3.mono j2) k1 (by omega)
  obtain rfl : x1 = x2:=Option.some.inj (U1.symm.trans U2)
  obtain ⟨D2,C5,R6⟩:=E2
  obtain ⟨v12,rfl,A9,YU,Xa,XF,Xz⟩:=Z7 R6
  refine TGI.quiet 10 [9,10,15,16,17,18,19,20,21,22,23] 15 U U U U U (by decide) S8.imm (fun w9 _ K9 k9=>Zg k1 W2 Yn Zz U U U U k9) ?_
  refine TGI.quiet 9 [9,10,16,17,18,19,20,21,22,23] 16 U U U U U (by decide) S8.imm (fun w9 _ K9 k9=>WL.fieldAddr _ 1 _ Za6 U U U k9) ?_
  refine TGI.quiet 8 [9,10,17,18,19,20,21,22,23] 17 U U U U U (by decide) S8.imm (fun w9 _ K9 k9=>WL.fieldAddr _ 2 _ ZbY U U U k9) ?_
  refine TGI.quiet 7 [9,10,18,19,20,21,22,23] 18 U U U U U (by decide) S8.imm (fun w9 _ K9 k9=>WL.fieldAddr _ 0 _ XB U U U k9) ?_
  refine TGI.quiet 6 [9,10,19,20,21,22,23] 19 U U U U U (by decide) S8.imm (fun w9 i9 K9 k9=>Z (St.start (X:=[]) i9) (XC.drop 0 (XC.drop 2 (XC.drop 1 C5))) Zt U U U k9) ?_
  refine TGI.fork 5 [9,10,20,21,22,23] [9,20] U U (by decide) (by decide) (TAI.cons U ?_ (TAI.cons U ?_ TAI.nil))
  ·refine WL.buildSlice _ [(0,[S x1.r.d.a])] [S x1.r.d.a] S8 Yb U U U U (fun z hz=>by match z,hz with | [z0],_=>rfl) (fun b4 w10 N4 S9=>?_)
   refine ⟨fun h=>absurd h (by decide),S9.imm,?_⟩
   refine TGI.fork 4 [10,20,21,22,23] [10,20] U U (by decide) (by decide) (TAI.cons U ?_ (TAI.cons U ?_ TAI.nil))
   ·refine WL.push (m:=([x1.r.d.a] : List Int)) Yb U U U R2 S9 2 U 0 _ _ _ _ _ U ⟨[S x1.r.d.a],_,U,⟨U,B8⟩,U⟩ U (by have:=Zc; simp only [List.length_append,List.length_map,List.length_cons,List.length_nil]; omega) (by have:=Zc; simp only [List.length_append,List.length_map,List.length_cons,List.length_nil]; omega) U U U (fun v13 o3 w11 R7 S10=>?_)
    have S11:=S10.tail
    refine ⟨fun h=>absurd h (by decide),S11.imm,?_⟩
    refine TGI.fork 3 [20,21,22,23] [20] U U (by decide) (by decide) (TAI.cons U ?_ TAI.nil)
    refine WL.buildSlice _ [(0,[S x1.r.x.a])] [S x1.r.x.a] S11 Yb U U U U (fun z hz=>by match z,hz with | [z0],_=>rfl) (fun b5 w12 N5 S12=>?_)
    refine ⟨fun h=>absurd h (by decide),S12.imm,?_⟩
    refine TGI.fork 2 [21,22,23] [21] U U (by decide) (by decide) (TAI.cons U ?_ TAI.nil)
    refine WL.push (m:=([x1.r.x.a] : List Int)) Yb U U U R4 S12 1 U 0 _ _ _ _ _ U ⟨[S x1.r.x.a],_,U,⟨U,XF⟩,U⟩ U (by have:=Zc; simp only [List.length_append,List.length_map,List.length_cons,List.length_nil]; omega) (by have:=Zc; simp only [List.length_append,List.length_map,List.length_cons,List.length_nil]; omega) U U U (fun v14 o4 w13 R8 S13=>?_)
    have S14:=S13.tail
    refine ⟨fun h=>absurd h (by decide),S14.imm,?_⟩
    refine TGI.quiet 1 [22,23] 22 U U U U U (by decide) S14.imm (fun w9 _ K9 k9=>WL.assign U k9) ?_
    refine TGI.quiet 0 [23] 23 U U U U U (by decide) S14.imm (fun w9 _ K9 k9=>WL.assign U k9) ?_
    refine TGI.fin U ?_
    refine Zj k1 (by have:=Zc; omega) U U U ?_
    exact BK.mk' _ ⟨k1 + 1,v13,o3,v14,o4,G4,U,L4,S14,(ZS.cast R7 (by (rw [Xi ‹_›]))),(ZS.cast R8 (by (rw [Xi ‹_›]; rfl))),(Zq U),(by omega)⟩ (show t.rows.length - (k1 + 1) < t.rows.length - k1 by omega)
   refine WL.buildSlice _ [(0,[S x1.r.x.a])] [S x1.r.x.a] S9 Yb U U U U (fun z hz=>by match z,hz with | [z0],_=>rfl) (fun b6 w14 N6 S15=>?_)
   refine ⟨fun h=>absurd h (by decide),S15.imm,?_⟩
   refine TGI.fork 3 [10,21,22,23] [10] U U (by decide) (by decide) (TAI.cons U ?_ TAI.nil)
   refine WL.push (m:=([x1.r.d.a] : List Int)) Yb U U U R2 S15 3 U 1 _ _ _ _ _ U ⟨[S x1.r.d.a],_,U,⟨U,B8⟩,U⟩ U (by have:=Zc; simp only [List.length_append,List.length_map,List.length_cons,List.length_nil]; omega) (by have:=Zc; simp only [List.length_append,List.length_map,List.length_cons,List.length_nil]; omega) U U U (fun v15 o5 w15 R9 S16=>?_)
   refine ⟨fun h=>absurd h (by decide),S16.imm,?_⟩
   refine TGI.fork 2 [21,22,23] [21] U U (by decide) (by decide) (TAI.cons U ?_ TAI.nil)
   refine WL.push (m:=([x1.r.x.a] : List Int)) Yb U U U R4 S16 2 U 0 _ _ _ _ _ U ⟨[S x1.r.x.a],_,U,⟨U,XF⟩,U⟩ U (by have:=Zc; simp only [List.length_append,List.length_map,List.length_cons,List.length_nil]; omega) (by have:=Zc; simp only [List.length_append,List.length_map,List.length_cons,List.length_nil]; omega) U U U (fun v16 o6 w16 R10 S17=>?_)
   have S18:=S17.tail
   refine ⟨fun h=>absurd h (by decide),S18.imm,?_⟩
   refine TGI.quiet 1 [22,23] 22 U U U U U (by decide) S18.imm (fun w9 _ K9 k9=>WL.assign U k9) ?_
   refine TGI.quiet 0 [23] 23 U U U U U (by decide) S18.imm (fun w9 _ K9 k9=>WL.assign U k9) ?_
   refine TGI.fin U ?_
   refine Zj k1 (by have:=Zc; omega) U U U ?_
   have S19:=S18.tail
   exact BK.mk' _ ⟨k1 + 1,v15,o5,v16,o6,G4,U,L4,S19,(ZS.cast R9 (by (rw [Xi ‹_›]))),(ZS.cast R10 (by (rw [Xi ‹_›]; rfl))),(Zq U),(by omega)⟩ (show t.rows.length - (k1 + 1) < t.rows.length - k1 by omega)
  refine WL.buildSlice _ [(0,[S x1.r.x.a])] [S x1.r.x.a] S8 Yb U U U U (fun z hz=>by match z,hz with | [z0],_=>rfl) (fun b7 w17 N7 S20=>?_)
  refine ⟨fun h=>absurd h (by decide),S20.imm,?_⟩
  refine TGI.fork 4 [9,10,21,22,23] [9] U U (by decide) (by decide) (TAI.cons U ?_ TAI.nil)
  refine WL.buildSlice _ [(0,[S x1.r.d.a])] [S x1.r.d.a] S20 Yb U U U U (fun z hz=>by match z,hz with | [z0],_=>rfl) (fun b8 w18 N8 S21=>?_)
  refine ⟨fun h=>absurd h (by decide),S21.imm,?_⟩
  refine TGI.fork 3 [10,21,22,23] [10] U U (by decide) (by decide) (TAI.cons U ?_ TAI.nil)
  refine WL.push (m:=([x1.r.d.a] : List Int)) Yb U U U R2 S21 3 U 0 _ _ _ _ _ U ⟨[S x1.r.d.a],_,U,⟨U,B8⟩,U⟩ U (by have:=Zc; simp only [List.length_append,List.length_map,List.length_cons,List.length_nil]; omega) (by have:=Zc; simp only [List.length_append,List.length_map,List.length_cons,List.length_nil]; omega) U U U (fun v17 o7 w19 R11 S22=>?_)
  have S23:=S22.tail
  refine ⟨fun h=>absurd h (by decide),S23.imm,?_⟩
  refine TGI.fork 2 [21,22,23] [21] U U (by decide) (by decide) (TAI.cons U ?_ TAI.nil)
  refine WL.push (m:=([x1.r.x.a] : List Int)) Yb U U U R4 S23 1 U 0 _ _ _ _ _ U ⟨[S x1.r.x.a],_,U,⟨U,XF⟩,U⟩ U (by have:=Zc; simp only [List.length_append,List.length_map,List.length_cons,List.length_nil]; omega) (by have:=Zc; simp only [List.length_append,List.length_map,List.length_cons,List.length_nil]; omega) U U U (fun v18 o8 w20 R12 S24=>?_)
  have S25:=S24.tail
  refine ⟨fun h=>absurd h (by decide),S25.imm,?_⟩
  refine TGI.quiet 1 [22,23] 22 U U U U U (by decide) S25.imm (fun w9 _ K9 k9=>WL.assign U k9) ?_
  refine TGI.quiet 0 [23] 23 U U U U U (by decide) S25.imm (fun w9 _ K9 k9=>WL.assign U k9) ?_
  refine TGI.fin U ?_
  refine Zj k1 (by have:=Zc; omega) U U U ?_
  exact BK.mk' _ ⟨k1 + 1,v17,o7,v18,o8,G4,U,L4,S25,(ZS.cast R11 (by (rw [Xi ‹_›]))),(ZS.cast R12 (by (rw [Xi ‹_›]; rfl))),(Zq U),(by omega)⟩ (show t.rows.length - (k1 + 1) < t.rows.length - k1 by omega)
 refine LP.go ft [] (fun m ρ1 w1=>∃ (k2 : Nat),∃ (v19 : Value) (o9 : OB),∃ (v20 : Value) (o10 : OB),∃ (G5 : GH),m = o.rows.length - k2 ∧ G4.le G5 ∧ St w [] G G5 [o10,o9,some (b1,37,[Ze,S 0,S 0,S 0,S 0])] w1 ∧ ZS Enc.int 8 3 G5 v19 ((t.rows.map (fun (r : HRow)=>r.r.d.a)) ++ (o.rows.take k2).map (fun (r : HRow)=>r.r.d.b)) o9 ∧ ZS Enc.int 8 3 G5 v20 ((fr :: t.rows.map (fun (r : HRow)=>r.r.x.a)) ++ (o.rows.take k2).map (fun (r : HRow)=>r.r.x.b)) o10 ∧ FR ρ1 [(3,S fr),(4,Zs p1),(5,Zs p2),(6,Zs p3),(8, .pointer (some ⟨b1,0,none⟩)),(10,v19),(11,v20),(13,S (k2 : Int))] ∧ k2 ≤ o.rows.length) _ ⟨0,v9,o1,v10,o2,G4,U,(G4.le_refl),S7,(ZS.cast R2 (by rw [List.take_of_length_le (by omega)]; simp)),(ZS.cast R4 (by rw [List.take_of_length_le (by omega)]; simp)),(Zq U),(by omega)⟩ ?_
 rintro m ρ1 w21 ⟨k2,v19,o9,v20,o10,G5,rfl,L5,S26,R13,R14,F9,f2⟩
 refine F9.set ?_
 clear F9
 have hlt2:=List.length_take_le' k2 o.rows
 have j3:=((L3.trans L4).trans L5)
 refine Z S26 (XC.drop 4 (C2.mono j3)) YK U U U ?_
 have V2:=A6.bound
 have j4:=(j2.trans L5)
 refine Zl (A6.mono j4) Yn U U ?_
 refine Zp (k2 : Int) (o.rows.length : Int) U U U (fun h2=>?_) (fun h2=>?_)
 ·refine drT [2,4,5,6,7,8,9,10,13,15,16,17,18,19,20,21,22,23] [] S26 trivial (fun w22 S27=>?_)
  refine TGI.toTG (I:=fun w9=>GH.In G5 w9) _ _ _ _ ?_
  refine TGI.quiet 17 [2,4,5,6,7,8,9,10,13,15,16,17,18,19,20,21,22,23] 2 U U U U U (by decide) S27.imm (fun w9 i9 K9 k9=>Z (St.start (X:=[]) i9) (XC.drop 4 (C2.mono j3)) YK U U U k9) ?_
  obtain ⟨p6,x3,U3,E3,W3⟩:=Sl.at (A6.mono j4) k2 (by omega)
  obtain ⟨D3,C6,R15⟩:=E3
  obtain ⟨v21,rfl,A10,QK,XG,XY,Q8⟩:=Z7 R15
  refine TGI.quiet 16 [4,5,6,7,8,9,10,13,15,16,17,18,19,20,21,22,23] 4 U U U U U (by decide) S27.imm (fun w9 _ K9 k9=>Zg k2 W3 Yn Zz U U U U k9) ?_
  refine TGI.quiet 15 [5,6,7,8,9,10,13,15,16,17,18,19,20,21,22,23] 5 U U U U U (by decide) S27.imm (fun w9 _ K9 k9=>WL.fieldAddr _ 1 _ Za6 U U U k9) ?_
  refine TGI.quiet 14 [6,7,8,9,10,13,15,16,17,18,19,20,21,22,23] 6 U U U U U (by decide) S27.imm (fun w9 _ K9 k9=>WL.fieldAddr _ 0 _ ZbY U U U k9) ?_
  refine TGI.quiet 13 [7,8,9,10,13,15,16,17,18,19,20,21,22,23] 7 U U U U U (by decide) S27.imm (fun w9 _ K9 k9=>WL.fieldAddr _ 1 _ XB U U U k9) ?_
  refine TGI.quiet 12 [8,9,10,13,15,16,17,18,19,20,21,22,23] 8 U U U U U (by decide) S27.imm (fun w9 i9 K9 k9=>Z (St.start (X:=[]) i9) (XC.drop 1 (XC.drop 0 (XC.drop 1 C6))) Zt U U U k9) ?_
  refine TGI.quiet 11 [9,10,13,15,16,17,18,19,20,21,22,23] 13 U U U U U (by decide) S27.imm (fun w9 i9 K9 k9=>Z (St.start (X:=[]) i9) (XC.drop 4 (C2.mono j3)) YK U U U k9) ?_
  obtain ⟨p7,x4,U4,E4,W4⟩:=Sl.at (A6.mono j4) k2 (by omega)
  obtain rfl : x3 = x4:=Option.some.inj (U3.symm.trans U4)
  obtain ⟨D4,C7,R16⟩:=E4
  obtain ⟨v22,rfl,A11,ZaI,ZaJ,Zcv,ZbZ⟩:=Z7 R16
  refine TGI.quiet 10 [9,10,15,16,17,18,19,20,21,22,23] 15 U U U U U (by decide) S27.imm (fun w9 _ K9 k9=>Zg k2 W4 Yn Zz U U U U k9) ?_
  refine TGI.quiet 9 [9,10,16,17,18,19,20,21,22,23] 16 U U U U U (by decide) S27.imm (fun w9 _ K9 k9=>WL.fieldAddr _ 1 _ Za6 U U U k9) ?_
  refine TGI.quiet 8 [9,10,17,18,19,20,21,22,23] 17 U U U U U (by decide) S27.imm (fun w9 _ K9 k9=>WL.fieldAddr _ 2 _ ZbY U U U k9) ?_
  refine TGI.quiet 7 [9,10,18,19,20,21,22,23] 18 U U U U U (by decide) S27.imm (fun w9 _ K9 k9=>WL.fieldAddr _ 1 _ XB U U U k9) ?_
  refine TGI.quiet 6 [9,10,19,20,21,22,23] 19 U U U U U (by decide) S27.imm (fun w9 i9 K9 k9=>Z (St.start (X:=[]) i9) (XC.drop 1 (XC.drop 2 (XC.drop 1 C7))) Zt U U U k9) ?_
  refine TGI.fork 5 [9,10,20,21,22,23] [9,20] U U (by decide) (by decide) (TAI.cons U ?_ (TAI.cons U ?_ TAI.nil))
  ·refine WL.buildSlice _ [(0,[S x3.r.d.b])] [S x3.r.d.b] S27 Yb U U U U (fun z hz=>by match z,hz with | [z0],_=>rfl) (fun b9 w23 N9 S28=>?_)
   refine ⟨fun h=>absurd h (by decide),S28.imm,?_⟩
   refine TGI.fork 4 [10,20,21,22,23] [10,20] U U (by decide) (by decide) (TAI.cons U ?_ (TAI.cons U ?_ TAI.nil))
   ·refine WL.push (m:=([x3.r.d.b] : List Int)) Yb U U U R13 S28 2 U 0 _ _ _ _ _ U ⟨[S x3.r.d.b],_,U,⟨U,XG⟩,U⟩ U (by have:=Zc; simp only [List.length_append,List.length_map,List.length_cons,List.length_nil]; omega) (by have:=Zc; simp only [List.length_append,List.length_map,List.length_cons,List.length_nil]; omega) U U U (fun v23 o11 w24 R17 S29=>?_)
    have S30:=S29.tail
    refine ⟨fun h=>absurd h (by decide),S30.imm,?_⟩
    refine TGI.fork 3 [20,21,22,23] [20] U U (by decide) (by decide) (TAI.cons U ?_ TAI.nil)
    refine WL.buildSlice _ [(0,[S x3.r.x.b])] [S x3.r.x.b] S30 Yb U U U U (fun z hz=>by match z,hz with | [z0],_=>rfl) (fun b10 w25 N10 S31=>?_)
    refine ⟨fun h=>absurd h (by decide),S31.imm,?_⟩
    refine TGI.fork 2 [21,22,23] [21] U U (by decide) (by decide) (TAI.cons U ?_ TAI.nil)
    refine WL.push (m:=([x3.r.x.b] : List Int)) Yb U U U R14 S31 1 U 0 _ _ _ _ _ U ⟨[S x3.r.x.b],_,U,⟨U,ZbZ⟩,U⟩ U (by have:=Zc; simp only [List.length_append,List.length_map,List.length_cons,List.length_nil]; omega) (by have:=Zc; simp only [List.length_append,List.length_map,List.length_cons,List.length_nil]; omega) U U U (fun v24 o12 w26 R18 S32=>?_)
    have S33:=S32.tail
    refine ⟨fun h=>absurd h (by decide),S33.imm,?_⟩
    refine TGI.quiet 1 [22,23] 22 U U U U U (by decide) S33.imm (fun w9 _ K9 k9=>WL.assign U k9) ?_
    refine TGI.quiet 0 [23] 23 U U U U U (by decide) S33.imm (fun w9 _ K9 k9=>WL.assign U k9) ?_
    refine TGI.fin U ?_
    refine Zj k2 (by have:=Zc; omega) U U U ?_
    exact BK.mk' _ ⟨k2 + 1,v23,o11,v24,o12,G5,U,L5,S33,(ZS.cast R17 (by (rw [Xi ‹_›,List.append_assoc]))),(ZS.cast R18 (by (rw [Xi ‹_›,List.append_assoc]))),(Zq U),(by omega)⟩ (show o.rows.length - (k2 + 1) < o.rows.length - k2 by omega)
   refine WL.buildSlice _ [(0,[S x3.r.x.b])] [S x3.r.x.b] S28 Yb U U U U (fun z hz=>by match z,hz with | [z0],_=>rfl) (fun b11 w27 N11 S34=>?_)
   refine ⟨fun h=>absurd h (by decide),S34.imm,?_⟩
   refine TGI.fork 3 [10,21,22,23] [10] U U (by decide) (by decide) (TAI.cons U ?_ TAI.nil)
   refine WL.push (m:=([x3.r.d.b] : List Int)) Yb U U U R13 S34 3 U 1 _ _ _ _ _ U ⟨[S x3.r.d.b],_,U,⟨U,XG⟩,U⟩ U (by have:=Zc; simp only [List.length_append,List.length_map,List.length_cons,List.length_nil]; omega) (by have:=Zc; simp only [List.length_append,List.length_map,List.length_cons,List.length_nil]; omega) U U U (fun v25 o13 w28 R19 S35=>?_)
   refine ⟨fun h=>absurd h (by decide),S35.imm,?_⟩
   refine TGI.fork 2 [21,22,23] [21] U U (by decide) (by decide) (TAI.cons U ?_ TAI.nil)
   refine WL.push (m:=([x3.r.x.b] : List Int)) Yb U U U R14 S35 2 U 0 _ _ _ _ _ U ⟨[S x3.r.x.b],_,U,⟨U,ZbZ⟩,U⟩ U (by have:=Zc; simp only [List.length_append,List.length_map,List.length_cons,List.length_nil]; omega) (by have:=Zc; simp only [List.length_append,List.length_map,List.length_cons,List.length_nil]; omega) U U U (fun v26 o14 w29 R20 S36=>?_)
   have S37:=S36.tail
   refine ⟨fun h=>absurd h (by decide),S37.imm,?_⟩
   refine TGI.quiet 1 [22,23] 22 U U U U U (by decide) S37.imm (fun w9 _ K9 k9=>WL.assign U k9) ?_
   refine TGI.quiet 0 [23] 23 U U U U U (by decide) S37.imm (fun w9 _ K9 k9=>WL.assign U k9) ?_
   refine TGI.fin U ?_
   refine Zj k2 (by have:=Zc; omega) U U U ?_
   have S38:=S37.tail
   exact BK.mk' _ ⟨k2 + 1,v25,o13,v26,o14,G5,U,L5,S38,(ZS.cast R19 (by (rw [Xi ‹_›,List.append_assoc]))),(ZS.cast R20 (by (rw [Xi ‹_›,List.append_assoc]))),(Zq U),(by omega)⟩ (show o.rows.length - (k2 + 1) < o.rows.length - k2 by omega)
  refine WL.buildSlice _ [(0,[S x3.r.x.b])] [S x3.r.x.b] S27 Yb U U U U (fun z hz=>by match z,hz with | [z0],_=>rfl) (fun b12 w30 N12 S39=>?_)
  refine ⟨fun h=>absurd h (by decide),S39.imm,?_⟩
  refine TGI.fork 4 [9,10,21,22,23] [9] U U (by decide) (by decide) (TAI.cons U ?_ TAI.nil)
  refine WL.buildSlice _ [(0,[S x3.r.d.b])] [S x3.r.d.b] S39 Yb U U U U (fun z hz=>by match z,hz with | [z0],_=>rfl) (fun b13 w31 N13 S40=>?_)
  refine ⟨fun h=>absurd h (by decide),S40.imm,?_⟩
  refine TGI.fork 3 [10,21,22,23] [10] U U (by decide) (by decide) (TAI.cons U ?_ TAI.nil)
  refine WL.push (m:=([x3.r.d.b] : List Int)) Yb U U U R13 S40 3 U 0 _ _ _ _ _ U ⟨[S x3.r.d.b],_,U,⟨U,XG⟩,U⟩ U (by have:=Zc; simp only [List.length_append,List.length_map,List.length_cons,List.length_nil]; omega) (by have:=Zc; simp only [List.length_append,List.length_map,List.length_cons,List.length_nil]; omega) U U U (fun v27 o15 w32 R21 S41=>?_)
  have S42:=S41.tail
  refine ⟨fun h=>absurd h (by decide),S42.imm,?_⟩
  refine TGI.fork 2 [21,22,23] [21] U U (by decide) (by decide) (TAI.cons U ?_ TAI.nil)
  refine WL.push (m:=([x3.r.x.b] : List Int)) Yb U U U R14 S42 1 U 0 _ _ _ _ _ U ⟨[S x3.r.x.b],_,U,⟨U,ZbZ⟩,U⟩ U (by have:=Zc; simp only [List.length_append,List.length_map,List.length_cons,List.length_nil]; omega) (by have:=Zc; simp only [List.length_append,List.length_map,List.length_cons,List.length_nil]; omega) U U U (fun v28 o16 w33 R22 S43=>?_)
  have S44:=S43.tail
  refine ⟨fun h=>absurd h (by decide),S44.imm,?_⟩
  refine TGI.quiet 1 [22,23] 22 U U U U U (by decide) S44.imm (fun w9 _ K9 k9=>WL.assign U k9) ?_
  refine TGI.quiet 0 [23] 23 U U U U U (by decide) S44.imm (fun w9 _ K9 k9=>WL.assign U k9) ?_
  refine TGI.fin U ?_
  refine Zj k2 (by have:=Zc; omega) U U U ?_
  exact BK.mk' _ ⟨k2 + 1,v27,o15,v28,o16,G5,U,L5,S44,(ZS.cast R21 (by (rw [Xi ‹_›,List.append_assoc]))),(ZS.cast R22 (by (rw [Xi ‹_›,List.append_assoc]))),(Zq U),(by omega)⟩ (show o.rows.length - (k2 + 1) < o.rows.length - k2 by omega)
 obtain ⟨G6,L6,A12,S45⟩:=ZS.freeze R13 S26 1 U
 refine Z9 S45 ZoL U U U (Zlj S45.imm ((t.rows.map (fun (r : HRow)=>r.r.d.a)) ++ (o.rows.take k2).map (fun (r : HRow)=>r.r.d.b)) _ A12 (by simp only [List.length_append,List.length_cons,List.length_map]; omega)) (fun w34 G7 r1 P1 S46 L7=>?_)
 obtain ⟨G9,L9,A13,S47⟩:=ZS.freeze (R14.mono (L6.trans L7)) S46 0 U
 refine Z9 S47 ZoL U U U (Zlj S47.imm ((fr :: t.rows.map (fun (r : HRow)=>r.r.x.a)) ++ (o.rows.take k2).map (fun (r : HRow)=>r.r.x.b)) _ A13 (by simp only [List.length_append,List.length_cons,List.length_map]; omega)) (fun w35 G10 r2 P2 S48 L10=>?_)
 have hgys:=Sl.cast (l':=(gYS t o)) (P1.mono (L9.trans L10)) (by rw [List.take_of_length_le (by omega)])
 have hgxs:=Sl.cast (l':=(gXS t o fr)) P2 (by rw [List.take_of_length_le (by omega)])
 have hyl:=ZdX ((t.rows.map (fun (r : HRow)=>r.r.d.a)) ++ o.rows.map (fun (r : HRow)=>r.r.d.b))
 have hxl:=ZdX ((fr :: t.rows.map (fun (r : HRow)=>r.r.x.a)) ++ o.rows.map (fun (r : HRow)=>r.r.x.b))
 simp only [List.length_append,List.length_cons,List.length_map] at hyl hxl
 refine LP.go ft [] (fun m ρ1 w1=>∃ (k3 : Nat),∃ (G11 : GH),m = (gXS t o fr).length - k3 ∧ G10.le G11 ∧ St w [] G G11 [none,none,some (b1,37,[Ze,S 0,S 0,S 0,S 0])] w1 ∧ FR ρ1 [(3,S fr),(4,Zs p1),(5,Zs p2),(6,Zs p3),(8, .pointer (some ⟨b1,0,none⟩)),(10,r1),(11,r2),(14,S (k3 : Int))] ∧ k3 ≤ (gXS t o fr).length ∧ ∀ i,i < k3 → ∀ x,(gXS t o fr)[i]? = some x → ZbA (gM t o f) o.rows t.rows fr (gYS t o) x = none) _ ⟨0,G10,U,(G10.le_refl),S48,(Zq U),(by omega),(by intro i hi; omega)⟩ ?_
 rintro m ρ1 w36 ⟨k3,G11,rfl,L11,S49,F9,f3,f4⟩
 refine F9.set ?_
 clear F9
 have V3:=hgxs.bound
 refine Zl (hgxs.mono L11) Yp U U ?_
 refine Zp (k3 : Int) (((gXS t o fr).length : Nat) : Int) U U U (fun h3=>?_) (fun h3=>?_)
 ·obtain ⟨xv,hxv⟩:=ZaO (l:=(gXS t o fr)) (k:=k3) (by omega)
  have hxb:=Zye hgt9 hgo9 hfb hxv
  refine WL.indexAddr (hgxs.mono L11) k3 (by omega) Yp Zt U U U U (fun p8 x5 U5 E5=>?_)
  obtain rfl : xv = x5:=Option.some.inj (hxv.symm.trans U5)
  obtain ⟨D5,C8,R23⟩:=E5
  obtain ⟨rfl,Zaq⟩:=R23
  refine Z S49 C8 Zt U U U ?_
  refine Zp xv fr U U U (fun h4=>?_) (fun h4=>?_)
  ·refine Zj k3 (by have:=Zc; omega) U U U ?_
   exact BK.mk' _ ⟨k3 + 1,G11,U,L11,S49,(Zq U),(by omega),(by exact ZW ‹_› hxv (by exact ZrP (.inl ‹_›)))⟩ (show (gXS t o fr).length - (k3 + 1) < (gXS t o fr).length - k3 by omega)
  refine WL.indexAddr (hgxs.mono L11) k3 (by omega) Yp Zt U U U U (fun p9 x6 U6 E6=>?_)
  obtain rfl : xv = x6:=Option.some.inj (hxv.symm.trans U6)
  obtain ⟨D6,C9,R24⟩:=E6
  obtain ⟨rfl,Zcw⟩:=R24
  refine Z S49 C9 Zt U U U ?_
  refine QB xv 253402300800 U U U (fun h5=>?_) (fun h5=>?_)
  ·refine Zj k3 (by have:=Zc; omega) U U U ?_
   exact BK.mk' _ ⟨k3 + 1,G11,U,L11,S49,(Zq U),(by omega),(by exact ZW ‹_› hxv (by exact ZrP (.inr ‹_›)))⟩ (show (gXS t o fr).length - (k3 + 1) < (gXS t o fr).length - k3 by omega)
  refine LP.go ft [] (fun m ρ1 w1=>∃ (k4 : Nat),∃ (G12 : GH),m = (gYS t o).length - k4 ∧ G11.le G12 ∧ St w [] G G12 [none,none,some (b1,37,[Ze,S 0,S 0,S 0,S 0])] w1 ∧ FR ρ1 [(3,S fr),(4,Zs p1),(5,Zs p2),(6,Zs p3),(8, .pointer (some ⟨b1,0,none⟩)),(10,r1),(11,r2),(14,S (k3 : Int)),(15,S (k4 : Int))] ∧ k4 ≤ (gYS t o).length ∧ ∀ i,i < k4 → ∀ y,(gYS t o)[i]? = some y → ((Zbi (gM t o f) o.rows t.rows xv y).map fun v=>Pt.mk xv y v) = none) _ ⟨0,G11,U,(G11.le_refl),S49,(Zq U),(by omega),(by intro i hi; omega)⟩ ?_
  rintro m ρ1 w37 ⟨k4,G12,rfl,L12,S50,F9,f5,f6⟩
  refine F9.set ?_
  clear F9
  have V4:=hgys.bound
  have j5:=(L11.trans L12)
  refine Zl (hgys.mono j5) Yp U U ?_
  refine Zp (k4 : Int) (((gYS t o).length : Nat) : Int) U U U (fun h6=>?_) (fun h6=>?_)
  ·obtain ⟨yv,hyv⟩:=ZaO (l:=(gYS t o)) (k:=k4) (by omega)
   have hyb:=Zyf hgt9 hgo9 hyv
   obtain ⟨p10,x7,U7,E7,W5⟩:=Sl.at (hgys.mono j5) k4 (by omega)
   obtain rfl : yv = x7:=Option.some.inj (hyv.symm.trans U7)
   obtain ⟨D7,C10,R25⟩:=E7
   obtain ⟨rfl,ZbG⟩:=R25
   obtain ⟨p11,x9,U8,E8,W6⟩:=Sl.at (hgxs.mono j5) k3 (by omega)
   obtain rfl : xv = x9:=Option.some.inj (hxv.symm.trans U8)
   obtain ⟨D8,C11,R26⟩:=E8
   obtain ⟨rfl,Zgd⟩:=R26
   refine dr [(10,false),(11,false)] [(110,v3),(113,Zs p10),(114,S yv),(117,Zs p11),(118,S xv)] S50 ⟨fun _ hSw=>Z hSw (XC.drop 4 (C1.mono (((((((((L2.trans L3).trans L4).trans L5).trans L6).trans L7).trans L9).trans L10).trans L11).trans L12))) YK U U U <| nu U U,fun _=>Zg k4 W5 Yp Zt U U U U <| nu U U,fun _ hSw=>Z hSw C10 Zt U U U <| nu U U,fun _=>Zg k3 W6 Yp Zt U U U U <| nu U U,fun _ hSw=>Z hSw C11 Zt U U U <| nu U U,trivial⟩ (fun w38 S51=>?_)
   refine Z9 S51 ZsB U U U (ZeD S51.imm t.rows yv xv _ (A3.mono ((((((((((L1.trans L2).trans L3).trans L4).trans L5).trans L6).trans L7).trans L9).trans L10).trans L11).trans L12)) (by omega)) (fun w39 G13 r3 P3 S52 L13=>?_)
   have j6:=(j5.trans L13)
   obtain ⟨p12,x10,U9,E9,W7⟩:=Sl.at (hgys.mono j6) k4 (by omega)
   obtain rfl : yv = x10:=Option.some.inj (hyv.symm.trans U9)
   obtain ⟨D9,C12,R27⟩:=E9
   obtain ⟨rfl,Zfl⟩:=R27
   obtain ⟨p13,x11,U10,E10,W8⟩:=Sl.at (hgxs.mono j6) k3 (by omega)
   obtain rfl : xv = x11:=Option.some.inj (hxv.symm.trans U10)
   obtain ⟨D10,C13,R28⟩:=E10
   obtain ⟨rfl,Zge⟩:=R28
   refine dr [(10,false),(11,false)] [(121,v6),(124,Zs p12),(125,S yv),(128,Zs p13),(129,S xv)] S52 ⟨fun _ hSw=>Z hSw (XC.drop 4 (C2.mono (((((((((L3.trans L4).trans L5).trans L6).trans L7).trans L9).trans L10).trans L11).trans L12).trans L13))) YK U U U <| nu U U,fun _=>Zg k4 W7 Yp Zt U U U U <| nu U U,fun _ hSw=>Z hSw C12 Zt U U U <| nu U U,fun _=>Zg k3 W8 Yp Zt U U U U <| nu U U,fun _ hSw=>Z hSw C13 Zt U U U <| nu U U,trivial⟩ (fun w40 S53=>?_)
   refine Z9 S53 ZsB U U U (ZeD S53.imm o.rows yv xv _ (A6.mono (((((((((((L1.trans L2).trans L3).trans L4).trans L5).trans L6).trans L7).trans L9).trans L10).trans L11).trans L12).trans L13)) (by omega)) (fun w41 G14 r4 P4 S54 L14=>?_)
   refine LP.go ft [] (fun m ρ1 w1=>∃ (k5 : Nat),∃ (G15 : GH),m = (ZR t.rows yv xv).length - k5 ∧ G14.le G15 ∧ St w [] G G15 [none,none,some (b1,37,[Ze,S 0,S 0,S 0,S 0])] w1 ∧ FR ρ1 [(3,S fr),(4,Zs p1),(5,Zs p2),(6,Zs p3),(8, .pointer (some ⟨b1,0,none⟩)),(10,r1),(11,r2),(14,S (k3 : Int)),(15,S (k4 : Int)),(16,r3),(17,r4),(18,S (k5 : Int))] ∧ k5 ≤ (ZR t.rows yv xv).length ∧ ∀ i,i < k5 → ∀ v,(ZR t.rows yv xv)[i]? = some v → (!(ZR o.rows yv xv).any (gM t o f v)) = false) _ ⟨0,G14,U,(G14.le_refl),S54,(Zq U),(by omega),(by intro i hi; omega)⟩ ?_
   rintro m ρ1 w42 ⟨k5,G15,rfl,L15,S55,F9,f7,f8⟩
   refine F9.set ?_
   clear F9
   have V5:=P3.bound
   have j7:=(L14.trans L15)
   refine Zl (P3.mono j7) Ql U U ?_
   refine Zp (k5 : Int) (((ZR t.rows yv xv).length : Nat) : Int) U U U (fun h7=>?_) (fun h7=>?_)
   ·obtain ⟨wv,hwv⟩:=ZaO (l:=(ZR t.rows yv xv)) (k:=k5) (by omega)
    have hwl:=ZrS hvt yv xv wv (List.mem_of_getElem? hwv)
    obtain ⟨p14,x12,U11,E11,W9⟩:=Sl.at (P3.mono j7) k5 (by omega)
    obtain rfl : wv = x12:=Option.some.inj (hwv.symm.trans U11)
    obtain ⟨D11,C14,R29⟩:=E11
    obtain ⟨v29,rfl,A14⟩:=R29
    refine dr [(10,true),(11,false),(12,false)] [(138, .agg #[Za o.s.name,v4,S o.s.key,v5]),(141, .agg #[Za t.s.name,v1,S t.s.key,v2]),(142, .agg #[v7,Za f.table]),(145,Zs p14),(146,v29)] S55 ⟨fun _ hSw=>Zb hSw (XC.drop 0 (C2.mono (((((((((((L3.trans L4).trans L5).trans L6).trans L7).trans L9).trans L10).trans L11).trans L12).trans L13).trans L14).trans L15))) [Za o.s.name,v4,S o.s.key,v5] Qo U U U U U <| nu U U,fun _ hSw=>Zb hSw (XC.drop 0 (C1.mono ((((((((((((L2.trans L3).trans L4).trans L5).trans L6).trans L7).trans L9).trans L10).trans L11).trans L12).trans L13).trans L14).trans L15))) [Za t.s.name,v1,S t.s.key,v2] Qo U U U U U <| nu U U,fun _ hSw=>Zb hSw (C3.mono ((((((((((L4.trans L5).trans L6).trans L7).trans L9).trans L10).trans L11).trans L12).trans L13).trans L14).trans L15)) [v7,Za f.table] Qj U U U U U <| nu U U,fun _=>Zg k5 W9 Ql ZK U U U U <| nu U U,fun _ hSw=>Z hSw C14 ZK U U U <| nu U U,trivial⟩ (fun w43 S56=>?_)
    refine Z9 S56 Zs3 U U U (Zww S56.imm t.s f wv _ (Yo t.s B1 (A1.mono (((((((((((((L1.trans L2).trans L3).trans L4).trans L5).trans L6).trans L7).trans L9).trans L10).trans L11).trans L12).trans L13).trans L14).trans L15)) B2 (A2.mono (((((((((((((L1.trans L2).trans L3).trans L4).trans L5).trans L6).trans L7).trans L9).trans L10).trans L11).trans L12).trans L13).trans L14).trans L15))) _ (QQ f (A7.mono (((((((((((((L1.trans L2).trans L3).trans L4).trans L5).trans L6).trans L7).trans L9).trans L10).trans L11).trans L12).trans L13).trans L14).trans L15)) B7) _ A14 hk.cols hwl (by omega)) (fun w44 G16 r5 P5 S57 L16=>?_)
    refine ⟨S57.down S56.le L16,?_⟩
    refine Zr S57 Z0a U U U (Zuh S57.imm o.s (ZR o.rows yv xv) (ZcA t.s f.cols wv) _ (Yo o.s B4 (A4.mono ((((((((((((((L1.trans L2).trans L3).trans L4).trans L5).trans L6).trans L7).trans L9).trans L10).trans L11).trans L12).trans L13).trans L14).trans L15).trans L16)) B5 (A5.mono ((((((((((((((L1.trans L2).trans L3).trans L4).trans L5).trans L6).trans L7).trans L9).trans L10).trans L11).trans L12).trans L13).trans L14).trans L15).trans L16))) _ (P4.mono (L15.trans L16)) _ P5 (by omega) (ZkD hvo _ _)) (fun w45 G17 S58 L17=>?_)
    refine WL.split (fun (h8 : ((ZR o.rows yv xv).any fun u=>decide (u.take o.s.key.toNat = (ZcA t.s f.cols wv))) = true)=>?_) (fun (h8 : ((ZR o.rows yv xv).any fun u=>decide (u.take o.s.key.toNat = (ZcA t.s f.cols wv))) = false)=>?_)
    ·refine Zj k5 (by have:=Zc; omega) U U U ?_
     exact BK.mk' _ ⟨k5 + 1,G17,U,(L15.trans (L16.trans L17)),S58,(Zq U),(by omega),(by exact ZW ‹_› hwv (by exact congrArg not ‹_›))⟩ (show (ZR t.rows yv xv).length - (k5 + 1) < (ZR t.rows yv xv).length - k5 by omega)
    obtain ⟨p15,x13,U12,E12,W10⟩:=Sl.at (P3.mono ((j7.trans L16).trans L17)) k5 (by omega)
    obtain rfl : wv = x13:=Option.some.inj (hwv.symm.trans U12)
    obtain ⟨D12,C15,R30⟩:=E12
    obtain ⟨v30,rfl,A15⟩:=R30
    have j8:=((((j6.trans L14).trans L15).trans L16).trans L17)
    obtain ⟨p16,x14,U13,E13,W11⟩:=Sl.at (hgys.mono j8) k4 (by omega)
    obtain rfl : yv = x14:=Option.some.inj (hyv.symm.trans U13)
    obtain ⟨D13,C16,R31⟩:=E13
    obtain ⟨rfl,Zh9⟩:=R31
    obtain ⟨p17,x15,U14,E14,W12⟩:=Sl.at (hgxs.mono j8) k3 (by omega)
    obtain rfl : xv = x15:=Option.some.inj (hxv.symm.trans U14)
    obtain ⟨D14,C17,R32⟩:=E14
    obtain ⟨rfl,ZhA⟩:=R32
    refine drT [3,7,11,12,13,14] [(152,Zs p15),(156,Zs p16),(160,Zs p17)] S58 ⟨fun _=>Zg k5 W10 Ql ZK U U U U <| nu U U,fun _=>Zg k4 W11 Yp Zt U U U U <| nu U U,fun _=>Zg k3 W12 Yp Zt U U U U <| nu U U,trivial⟩ (fun w46 S59=>?_)
    refine TGI.toTG (I:=fun w9=>GH.In G17 w9) _ _ _ _ ?_
    refine TGI.quiet 5 [3,7,11,12,13,14] 3 U U U U U (by decide) S59.imm (fun w9 i9 K9 k9=>Z (St.start (X:=[]) i9) C15 ZK U U U k9) ?_
    refine TGI.quiet 4 [7,11,12,13,14] 7 U U U U U (by decide) S59.imm (fun w9 i9 K9 k9=>Z (St.start (X:=[]) i9) C16 Zt U U U k9) ?_
    refine TGI.quiet 3 [11,12,13,14] 11 U U U U U (by decide) S59.imm (fun w9 i9 K9 k9=>Z (St.start (X:=[]) i9) C17 Zt U U U k9) ?_
    refine TGI.fork 2 [12,13,14] [12] U U (by decide) (by decide) (TAI.cons U ?_ TAI.nil)
    refine Z9 S59 Zxd U U U (Znd S59.imm wv yv xv _ A15 hyb.1 hxb.1 hyb.2 hxb.2) (fun w47 G18 r6 P6 S60 L18=>?_)
    obtain ⟨D15,rfl,R33⟩:=P6
    obtain ⟨v31,rfl,A16,ZhB,ZhC,Zjk,Zjl⟩:=Z7 R33
    refine ⟨fun h=>absurd h (by decide),(S60.imm.down L18),?_⟩
    refine TGI.fork 1 [13,14] [13] U U (by decide) (by decide) (TAI.cons U ?_ TAI.nil)
    refine Zi S60 2 [v31,S ((ZZ (some (Pt.mk xv yv wv))).r.d.a),S ((ZZ (some (Pt.mk xv yv wv))).r.d.b),S ((ZZ (some (Pt.mk xv yv wv))).r.x.a),S ((ZZ (some (Pt.mk xv yv wv))).r.x.b)] U U Zz U U (by simp only [ZA,A16.oneC] <;> rfl) U U U (fun w48 S61=>?_)
    refine ⟨fun h=>absurd h (by decide),(S61.imm.down L18),?_⟩
    refine TGI.quiet 0 [14] 14 U U U U U (by decide) (S61.imm.down L18) (fun w9 _ K9 k9=>WL.assign U k9) ?_
    refine TGI.fin U ?_
    exact Xr [.agg #[v31,S ((ZZ (some (Pt.mk xv yv wv))).r.d.a),S ((ZZ (some (Pt.mk xv yv wv))).r.d.b),S ((ZZ (some (Pt.mk xv yv wv))).r.x.a),S ((ZZ (some (Pt.mk xv yv wv))).r.x.b)], .bool true] S61 ⟨_,_,_,U,U,S61.loadA 2 _ _ _ 0 [v31,S ((ZZ (some (Pt.mk xv yv wv))).r.d.a),S ((ZZ (some (Pt.mk xv yv wv))).r.d.b),S ((ZZ (some (Pt.mk xv yv wv))).r.x.a),S ((ZZ (some (Pt.mk xv yv wv))).r.x.b)] U U U Zz U,⟨_,U,U⟩⟩ ⟨_,_,U,(Is.cast ⟨_,U,(ZT (HRow.mk ((ZZ (some (Pt.mk xv yv wv))).v) (Rect.mk (Span.mk ((ZZ (some (Pt.mk xv yv wv))).r.d.a) ((ZZ (some (Pt.mk xv yv wv))).r.d.b)) (Span.mk ((ZZ (some (Pt.mk xv yv wv))).r.x.a) ((ZZ (some (Pt.mk xv yv wv))).r.x.b)))) A16 ZhB ZhC Zjk Zjl)⟩ (by exact (ZrQ ‹_› hxv (by omega) (by omega) ‹_› hyv ‹_› hwv ‹_›).1)),(congrArg Value.bool (by exact (ZrQ ‹_› hxv (by omega) (by omega) ‹_› hyv ‹_› hwv ‹_›).2))⟩
   refine Zj k4 (by have:=Zc; omega) U U U ?_
   exact BK.mk' _ ⟨k4 + 1,G15,U,(L12.trans ((L13.trans L14).trans L15)),S55,(Zq U),(by omega),(by exact ZW ‹_› hyv (Zwv ‹_› (by omega)))⟩ (show (gYS t o).length - (k4 + 1) < (gYS t o).length - k4 by omega)
  refine Zj k3 (by have:=Zc; omega) U U U ?_
  exact BK.mk' _ ⟨k3 + 1,G12,U,j5,S50,(Zq U),(by omega),(by exact ZW ‹_› hxv (by exact Zyg (by omega) (by omega) ‹_› (by omega)))⟩ (show (gXS t o fr).length - (k3 + 1) < (gXS t o fr).length - k3 by omega)
 refine WL.build _ [] [Ze,S 0,S 0,S 0,S 0] Zz U Za6 U U U U ?_
 refine Zi S49 2 [Ze,S 0,S 0,S 0,S 0] U U Zz U U U U U U (fun w49 S62=>?_)
 exact Xr [.agg #[Ze,S 0,S 0,S 0,S 0], .bool false] S62 ⟨_,_,_,U,U,S62.loadA 2 _ _ _ 0 [Ze,S 0,S 0,S 0,S 0] U U U Zz U,⟨_,U,U⟩⟩ ⟨_,_,U,(Is.cast ⟨_,U,(ZT (HRow.mk [] (Rect.mk (Span.mk 0 0) (Span.mk 0 0))) (Sl.nil ValE 32 G11) ZP ZP ZP ZP)⟩ (by exact (ZrR ‹_› (by omega)).1)),(congrArg Value.bool (by exact (ZrR ‹_› (by omega)).2))⟩
end Go.Civ
