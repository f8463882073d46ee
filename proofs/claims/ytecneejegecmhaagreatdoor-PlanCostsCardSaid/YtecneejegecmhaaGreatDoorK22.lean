/- Lemmas. -/
import Derived.Test.YtecneejegecmhaaGreatDoorK14
import Derived.Test.YtecneejegecmhaaGreatDoorK21
set_option linter.unusedVariables false
set_option linter.unusedSimpArgs false
set_option linter.unnecessarySimpa false
set_option linter.unusedVariables false
set_option linter.unusedSimpArgs false
set_option maxRecDepth 100000
set_option maxHeartbeats 4000000
namespace Go.Civ
open Go.Proofs
theorem Zt2 : Yj Tryz.prog (nat_lit 152) = some ⟨true,4,64, .agg #[Za [],Za [],Za [],Za []]⟩:=by kernel_rfl
theorem ZzL : Yj Tryz.prog (nat_lit 171) = some ⟨true,24,24, .agg #[.int .u8 0, .int .u8 0, .int .u8 0, .int .u8 0, .int .u8 0, .int .u8 0, .int .u8 0, .int .u8 0, .int .u8 0, .int .u8 0, .int .u8 0, .int .u8 0, .int .u8 0, .int .u8 0, .int .u8 0, .int .u8 0, .int .u8 0, .int .u8 0, .int .u8 0, .int .u8 0, .int .u8 0, .int .u8 0, .int .u8 0, .int .u8 0]⟩:=by kernel_rfl
theorem Zkl : Yj Tryz.prog (nat_lit 220) = some ⟨true,13,208, .agg #[Za [],Za [],Za [],Za [],Za [],Za [],Za [],Za [],Za [],Za [],Za [],Za [],Za []]⟩:=by kernel_rfl
theorem Zt3 : Yj Tryz.prog (nat_lit 222) = some ⟨true,12,96, .agg #[U 0,U 0,U 0,U 0,U 0,U 0,U 0,U 0,U 0,U 0,U 0,U 0]⟩:=by kernel_rfl
theorem Zkm : Tryz.prog.underlying (nat_lit 152) = some (.array (nat_lit 4) (nat_lit 9)):=by kernel_rfl
theorem Zip : Tryz.prog.underlying (nat_lit 171) = some (.array (nat_lit 24) (nat_lit 5)):=by kernel_rfl
theorem Zt4 : Tryz.prog.underlying (nat_lit 220) = some (.array (nat_lit 13) (nat_lit 9)):=by kernel_rfl
theorem Zkn : Tryz.prog.underlying (nat_lit 222) = some (.array (nat_lit 12) (nat_lit 3)):=by kernel_rfl
end Go.Civ
set_option linter.unusedVariables false
set_option linter.unusedSimpArgs false
set_option maxRecDepth 100000
set_option maxHeartbeats 4000000
namespace Go.Civ
open Go.Proofs
theorem ZlG {G : GH} {w : World} (hG : G.In w) (c : Int) : CL Tryz.prog (nat_lit 81) #[.int .u8 c] [] w G fun _ _ r=>r = .bool (YQ c):=by
 refine Zg ft [] Tryz.func81 V V ?_
 have hS:=St.start (X:=[]) hG
 refine ZM c 65 V V V (fun h1=>?_) (fun h1=>?_)
 ·refine X2 c 90 V V V (fun h2=>?_) (fun h2=>?_)
  ·exact RB hS V (by unfold YQ; simp_all [Cmp.b])
  refine ZM c 97 V V V (fun h3=>?_) (fun h3=>?_)
  ·refine Yd .leq V .u8 c 122 V V V ?_
   exact RB hS V (by unfold YQ; simp_all [Cmp.b] <;> (omega))
  exact RB hS V (by unfold YQ; simp_all [Cmp.b] <;> (omega))
 refine ZM c 97 V V V (fun h4=>?_) (fun h4=>?_)
 ·refine Yd .leq V .u8 c 122 V V V ?_
  exact RB hS V (by unfold YQ; simp_all [Cmp.b] <;> (omega))
 exact RB hS V (by unfold YQ; simp_all [Cmp.b] <;> (omega))
theorem ZuA {G : GH} {w : World} (hG : G.In w) (c : Int) : CL Tryz.prog (nat_lit 82) #[.int .u8 c] [] w G fun _ _ r=>r = .bool (QE c):=by
 refine Zg ft [] Tryz.func82 V V ?_
 have hS:=St.start (X:=[]) hG
 refine ZM c 48 V V V (fun h1=>?_) (fun h1=>?_)
 ·refine Yd .leq V .u8 c 57 V V V ?_
  exact RB hS V (by unfold QE; simp_all [Cmp.b])
 exact RB hS V (by unfold QE; simp_all [Cmp.b] <;> (omega))
theorem Zis {G : GH} {w : World} (hG : G.In w) (s : List UInt8) : CL Tryz.prog (nat_lit 45) #[Za s] [] w G fun _ _ r=>r = .bool (X5 s):=by
 refine Zg ft [] Tryz.func45 V V ?_
 have hS:=St.start (X:=[]) hG
 refine YN s X1 V V ?_
 refine Zp (s.length : Int) 1 V V V (fun h1=>?_) (fun h1=>?_)
 ·exact RB hS V (by exact (ZdE (by omega)).symm)
 refine YN s X1 V V ?_
 refine Z1 (s.length : Int) 30 V V V (fun h2=>?_) (fun h2=>?_)
 ·exact RB hS V (by exact (ZdE (by omega)).symm)
 refine YY s 0 (by omega) X1 V V V (fun c1 U1=>?_)
 refine Zl hS Zeq V V V (ZlG hS.imm (c1.toNat : Int)) (fun w1 G1 S1 L1=>?_)
 refine WL.split (fun (h3 : (YQ (c1.toNat : Int)) = true)=>?_) (fun (h3 : (YQ (c1.toNat : Int)) = false)=>?_)
 ·refine YN s X1 V V ?_
  refine LP.go ft [] (fun m ρ1 w1=>∃ (k1 : Nat),∃ (G2 : GH),m = s.length - k1 ∧ G1.le G2 ∧ St w [] G G2 [] w1 ∧ FR ρ1 [(0,Za s),(19,U (s.length : Int)),(20,U (k1 : Int))] ∧ k1 ≤ s.length ∧ ∀ j,j < k1 → ∀ c,s[j]? = some c → ZaG c = true) _ ⟨0,G1,V,(G1.le_refl),S1,⟨V,V,V,trivial⟩,(by omega),(by intro j hj; omega)⟩ ?_
  rintro m ρ1 w2 ⟨k1,G2,rfl,L2,S2,F9,f1,f2⟩
  refine F9.set ?_
  clear F9
  refine Zp (k1 : Int) (s.length : Int) V V V (fun h4=>?_) (fun h4=>?_)
  ·refine YY s k1 (by omega) X1 V V V (fun c2 U2=>?_)
   refine Zl S2 Zeq V V V (ZlG S2.imm (c2.toNat : Int)) (fun w3 G3 S3 L3=>?_)
   refine WL.split (fun (h5 : (YQ (c2.toNat : Int)) = true)=>?_) (fun (h5 : (YQ (c2.toNat : Int)) = false)=>?_)
   ·refine Zq k1 (by have:=Zb; omega) V V V ?_
    exact BK.mk' _ ⟨k1 + 1,G3,V,(L2.trans L3),S3,⟨V,V,V,trivial⟩,(by omega),(by exact Ys ‹_› ‹_› (by exact Zmq ‹_›))⟩ (show s.length - (k1 + 1) < s.length - k1 by omega)
   refine YY s k1 (by omega) X1 V V V (fun c3 U3=>?_)
   obtain rfl : c2 = c3:=Option.some.inj (U2.symm.trans U3)
   refine Zl S3 Zfj V V V (ZuA S3.imm (c2.toNat : Int)) (fun w4 G4 S4 L4=>?_)
   refine WL.split (fun (h6 : (QE (c2.toNat : Int)) = true)=>?_) (fun (h6 : (QE (c2.toNat : Int)) = false)=>?_)
   ·refine Zq k1 (by have:=Zb; omega) V V V ?_
    exact BK.mk' _ ⟨k1 + 1,G4,V,(L2.trans (L3.trans L4)),S4,⟨V,V,V,trivial⟩,(by omega),(by exact Ys ‹_› ‹_› (by exact Zmr ‹_›))⟩ (show s.length - (k1 + 1) < s.length - k1 by omega)
   refine YY s k1 (by omega) X1 V V V (fun c4 U4=>?_)
   obtain rfl : c2 = c4:=Option.some.inj (U2.symm.trans U4)
   refine Zl S4 Zfk V V V (Zma S4.imm [95,47,43,45] (c2.toNat : Int)) (fun w5 G5 S5 L5=>?_)
   refine Zp (Go.Lib.indexByte [95,47,43,45] (c2.toNat : Int).toNat.toUInt8) 0 V V V (fun h7=>?_) (fun h7=>?_)
   ·exact RB S5 V (by exact (ZkI ‹_› (ZkJ ‹_› ‹_› ‹_›)).symm)
   refine Zq k1 (by have:=Zb; omega) V V V ?_
   exact BK.mk' _ ⟨k1 + 1,G5,V,(L2.trans ((L3.trans L4).trans L5)),S5,⟨V,V,V,trivial⟩,(by omega),(by exact Ys ‹_› ‹_› (by exact ZtG ‹_›))⟩ (show s.length - (k1 + 1) < s.length - k1 by omega)
  exact RB S2 V (by exact (Zjh (by omega) (by omega) ‹_› ‹_› (Zbk ‹_› (by omega))).symm)
 exact RB S1 V (by exact (Zjg ‹_› ‹_›).symm)
theorem Zju {G : GH} {w : World} (hG : G.In w) (l : List (List UInt8)) (nm : List UInt8) (vl : Value) (hvl : Sl Enc.str 16 G vl l) : CL Tryz.prog (nat_lit 154) #[vl,Za nm] [] w G fun _ _ r=>r = U (ixS l nm):=by
 refine Zg ft [] Tryz.func154 V V ?_
 have hS:=St.start (X:=[]) hG
 have V1:=hvl.bound
 refine Zm hvl Yb V V ?_
 refine LP.go ft [] (fun m ρ1 w1=>∃ (k1 : Nat),∃ (G1 : GH),m = l.length - k1 ∧ G.le G1 ∧ St w [] G G1 [] w1 ∧ FR ρ1 [(0,vl),(1,Za nm),(7,U (l.length : Int)),(8,U (k1 : Int))] ∧ k1 ≤ l.length ∧ ∀ j,j < k1 → ∀ x,l[j]? = some x → decide (x = nm) = false) _ ⟨0,G,V,(G.le_refl),hS,(ZS V),(by omega),(by intro j hj; omega)⟩ ?_
 rintro m ρ1 w1 ⟨k1,G1,rfl,L1,S1,F9,f1,f2⟩
 refine F9.set ?_
 clear F9
 refine Zp (k1 : Int) (l.length : Int) V V V (fun h1=>?_) (fun h1=>?_)
 ·refine WL.indexAddr (hvl.mono L1) k1 (by omega) Yb Zv V V V V (fun p1 x1 U1 E1=>?_)
  obtain ⟨D1,C1,R1⟩:=E1
  obtain ⟨rfl,B1⟩:=R1
  refine Z S1 C1 Zv V V V <| Zn .eql V nm x1 V V V ?_
  refine WL.split (fun h0=>?_) (fun h0=>?_)
  ·have h2 : nm = x1:=by simpa [SCmp.b] using h0
   clear h0
   exact RI S1 V (by unfold ixS; exact (ZaY _ ‹_› (by simp_all) ‹_›).symm)
  have h2 : nm ≠ x1:=by simpa [SCmp.b] using h0
  clear h0
  refine Zq k1 (by have:=Zb; omega) V V V ?_
  exact BK.mk' _ ⟨k1 + 1,G1,V,L1,S1,(ZS V),(by omega),(by exact Ys ‹_› ‹_› (decide_eq_false (Ne.symm ‹_›)))⟩ (show l.length - (k1 + 1) < l.length - k1 by omega)
 exact RI S1 V (by unfold ixS; exact (ZaB ‹_› (by omega)).symm)
theorem Zd7 {G : GH} {w : World} (hG : G.In w) (l : List (List UInt8)) (nm : List UInt8) (vl : Value) (hvl : Sl Enc.str 16 G vl l) : CL Tryz.prog (nat_lit 153) #[vl,Za nm] [] w G fun _ _ r=>r = .bool (l.any fun x=>decide (x = nm)):=by
 refine Zg ft [] Tryz.func153 V V ?_
 have hS:=St.start (X:=[]) hG
 refine Zl hS Ztp V V V (Zju hS.imm l nm _ hvl) (fun w1 G1 S1 L1=>?_)
 refine Yd .geq V .i64 (ixS l nm) 0 V V V ?_
 exact RB S1 V (by exact ZtH)
theorem Zit {G : GH} {w : World} (hG : G.In w) (l : List (List UInt8)) (vl : Value) (hvl : Sl Enc.str 16 G vl l) : CL Tryz.prog (nat_lit 109) #[vl] [] w G fun _ _ r=>r = .bool (Zbo l):=by
 refine Zg ft [] Tryz.func109 V V ?_
 have hS:=St.start (X:=[]) hG
 have V1:=hvl.bound
 refine Zm hvl Yb V V ?_
 refine LP.go ft [] (fun m ρ1 w1=>∃ (k1 : Nat),∃ (G1 : GH),m = l.length - k1 ∧ G.le G1 ∧ St w [] G G1 [] w1 ∧ FR ρ1 [(0,vl),(5,vl),(6,U (l.length : Int)),(7,U (k1 : Int))] ∧ k1 ≤ l.length ∧ ∀ j,j < k1 → ∀ s,l[j]? = some s → Zcc l j s = true) _ ⟨0,G,V,(G.le_refl),hS,(ZS V),(by omega),(by intro j hj; omega)⟩ ?_
 rintro m ρ1 w1 ⟨k1,G1,rfl,L1,S1,F9,f1,f2⟩
 refine F9.set ?_
 clear F9
 refine Zp (k1 : Int) (l.length : Int) V V V (fun h1=>?_) (fun h1=>?_)
 ·refine WL.indexAddr (hvl.mono L1) k1 (by omega) Yb Zv V V V V (fun p1 x1 U1 E1=>?_)
  obtain ⟨D1,C1,R1⟩:=E1
  obtain ⟨rfl,B1⟩:=R1
  refine Z S1 C1 Zv V V V ?_
  refine Zl S1 Zbe V V V (Zis S1.imm x1) (fun w2 G2 S2 L2=>?_)
  refine WL.split (fun (h2 : (X5 x1) = true)=>?_) (fun (h2 : (X5 x1) = false)=>?_)
  ·refine Zbn (hvl.mono (L1.trans L2)) k1 (by omega) Yb Zv V V V V (fun v1 A1=>?_)
   refine Zl S2 ZnL V V V (Zd7 S2.imm (l.take k1) x1 _ A1) (fun w3 G3 S3 L3=>?_)
   refine WL.split (fun (h3 : ((l.take k1).any fun x=>decide (x = x1)) = true)=>?_) (fun (h3 : ((l.take k1).any fun x=>decide (x = x1)) = false)=>?_)
   ·exact RB S3 V (by exact (ZkK ‹_› (ZoI ‹_›)).symm)
   refine Zq k1 (by have:=Zb; omega) V V V ?_
   exact BK.mk' _ ⟨k1 + 1,G3,V,(L1.trans (L2.trans L3)),S3,(ZS V),(by omega),(by exact QQ (P:=fun j s=>Zcc l j s = true) ‹_› ‹_› (ZoG ‹_› ‹_›))⟩ (show l.length - (k1 + 1) < l.length - k1 by omega)
  exact RB S2 V (by exact (ZkK ‹_› (ZoH ‹_›)).symm)
 exact RB S1 V (by exact (ZoJ ‹_› (by omega)).symm)
theorem ZlH {G : GH} {w : World} (hG : G.In w) (l : List Col) (vl : Value) (hvl : Sl ColE 24 G vl l) : CL Tryz.prog (nat_lit 110) #[vl] [] w G fun G' _ r=>Sl Enc.str 16 G' r (l.map Col.name):=by
 refine Zg ft [] Tryz.func110 V V ?_
 have hS:=St.start (X:=[]) hG
 have V1:=hvl.bound
 refine Zm hvl Q6 V V ?_
 have S2:=hS.pad
 refine LP.go ft [] (fun m ρ1 w1=>∃ (k1 : Nat),∃ (v1 : Value) (o1 : OB),∃ (G1 : GH),m = l.length - k1 ∧ G.le G1 ∧ St w [] G G1 [o1] w1 ∧ YX Enc.str 16 9 G1 v1 ((l.take k1).map Col.name) o1 ∧ FR ρ1 [(3,v1),(6,vl),(7,U (l.length : Int)),(8,U (k1 : Int))] ∧ k1 ≤ l.length) _ ⟨0,(Zf),none,G,V,(G.le_refl),S2,(YX.cast (YX.nil Enc.str 16 9 G) (by simp)),(ZS V),(by omega)⟩ ?_
 rintro m ρ1 w1 ⟨k1,v1,o1,G1,rfl,L1,S1,R1,F9,f1⟩
 refine F9.set ?_
 clear F9
 have htk:=List.length_take_le k1 l
 refine Zp (k1 : Int) (l.length : Int) V V V (fun h1=>?_) (fun h1=>?_)
 ·refine WL.indexAddr (hvl.mono L1) k1 (by omega) Q6 Q9 V V V V (fun p1 x1 U1 E1=>?_)
  obtain ⟨D1,C1,R2⟩:=E1
  obtain ⟨rfl,B1,B2⟩:=XU R2
  refine Zc S1 C1 [Za x1.name,U x1.kind] Q9 V V V V V ?_
  refine WL.alloc S1 Q9 V V (fun b1 w2 N1 S3=>?_)
  refine Z9 S3 0 [Za x1.name,U x1.kind] V V Q9 V V V V V V (fun w3 S4=>?_)
  obtain ⟨G2,L2,C2,S5⟩:=S4.shutB N1
  refine Z S5 (Xh.drop 0 C2) Zv V V V ?_
  refine WL.buildSlice _ [(0,[Za x1.name])] [Za x1.name] S5 XI V V V V (fun z hz=>by match z,hz with | [z0],_=>rfl) (fun b2 w4 N2 S6=>?_)
  refine WL.push (m:=([x1.name] : List (List UInt8))) XI V V V (R1.mono L2) S6 1 V 0 _ _ _ _ _ V ⟨[Za x1.name],_,V,⟨V,B1⟩,V⟩ V (by have:=Zb; have hby:=(by assumption : Sl ColE 24 G _ l).bytes; have hbl:=List.length_take_le' k1 l; simp only [Zo,List.length_map]; omega) (by have:=Zb; have hby:=(by assumption : Sl ColE 24 G _ l).bytes; have hbl:=List.length_take_le' k1 l; simp only [Zo,List.length_map]; omega) V V V (fun v2 o2 w5 R3 S7=>?_)
  have S8:=S7.tail
  refine Zq k1 (by have:=Zb; omega) V V V ?_
  exact BK.mk' _ ⟨k1 + 1,v2,o2,G2,V,(L1.trans L2),S8,(YX.cast R3 (by (rw [List.take_add_one,(by assumption : l[k1]? = some _)]; simp))),(ZS V),(by omega)⟩ (show l.length - (k1 + 1) < l.length - k1 by omega)
 obtain ⟨G3,L3,A1,S9⟩:=YX.freeze R1 S1 0 V
 exact RT S9 V (Sl.cast A1 (by rw [List.take_of_length_le (by omega)]))
theorem Zr7 {G : GH} {w : World} (hG : G.In w) (s : Schema) (nm : List UInt8) (cs : List Value) (hcs : Qv.rep G s cs) : CL Tryz.prog (nat_lit 111) #[.agg cs.toArray,Za nm] [] w G fun _ _ r=>r = U (ixS (s.cols.map Col.name) nm):=by
 refine Zg ft [] Tryz.func111 V V ?_
 have hS:=St.start (X:=[]) hG
 obtain ⟨v1,v2,rfl,B1,A1,B2,A2⟩:=Qj hcs
 refine Z4 [Za s.name,v1,U s.key,v2] _ hS V V V (fun p1 w1 G1 L1 M1 C1 S1=>?_)
 refine Z S1 (Xh.drop 1 C1) QR V V V ?_
 refine Yq S1 Zfp V V V (ZlH S1.imm s.cols _ (A1.mono L1)) (fun w2 G2 r1 P1 S2 L2=>?_)
 refine Zl S2 Ztp V V V (Zju S2.imm (s.cols.map Col.name) nm _ P1) (fun w3 G3 S3 L3=>?_)
 exact RI S3 V (by rfl)
theorem Zhw {G : GH} {w : World} (hG : G.In w) (s : Schema) (cs : List Value) (hcs : Qv.rep G s cs) : CL Tryz.prog (nat_lit 69) #[.agg cs.toArray] [] w G fun _ _ r=>r = .bool (Qq s):=by
 refine Zg ft [] Tryz.func69 V V ?_
 have hS:=St.start (X:=[]) hG
 obtain ⟨v1,v2,rfl,B1,A1,B2,A2⟩:=Qj hcs
 refine Z4 [Za s.name,v1,U s.key,v2] _ hS V V V (fun p1 w1 G1 L1 M1 C1 S1=>?_)
 refine Z S1 (Xh.drop 1 C1) QR V V V ?_
 have V1:=A1.bound
 refine Zm (A1.mono L1) Q6 V V <| Z S1 (Xh.drop 0 C1) Zv V V V ?_
 refine Zl S1 Zbe V V V (Zis S1.imm s.name) (fun w2 G2 S2 L2=>?_)
 refine WL.split (fun (h1 : (X5 s.name) = true)=>?_) (fun (h1 : (X5 s.name) = false)=>?_)
 ·refine Zp (s.cols.length : Int) 1 V V V (fun h2=>?_) (fun h2=>?_)
  ·exact RB S2 V (by exact (Zds (by unfold Zbv; simp_all [Cmp.b] <;> (omega))).symm)
  refine Z1 (s.cols.length : Int) 8 V V V (fun h3=>?_) (fun h3=>?_)
  ·exact RB S2 V (by exact (Zds (by unfold Zbv; simp_all [Cmp.b] <;> (omega))).symm)
  refine Z S2 (Xh.drop 2 (C1.mono L2)) Zk V V V ?_
  refine Zp s.key 1 V V V (fun h4=>?_) (fun h4=>?_)
  ·exact RB S2 V (by exact (Zds (by unfold Zbv; simp_all [Cmp.b] <;> (omega))).symm)
  refine Z S2 (Xh.drop 2 (C1.mono L2)) Zk V V V ?_
  refine Z1 s.key (s.cols.length : Int) V V V (fun h5=>?_) (fun h5=>?_)
  ·exact RB S2 V (by exact (Zds (by unfold Zbv; simp_all [Cmp.b] <;> (omega))).symm)
  refine Z S2 (Xh.drop 3 (C1.mono L2)) Zxp V V V ?_
  have V2:=A2.bound
  have j1:=(L1.trans L2)
  refine Zm (A2.mono j1) Zr5 V V ?_
  refine Z1 (s.fks.length : Int) 8 V V V (fun h6=>?_) (fun h6=>?_)
  ·exact RB S2 V (by exact (Zds (by unfold Zbv; simp_all [Cmp.b] <;> (omega))).symm)
  refine Z S2 (Xh.drop 1 (C1.mono L2)) QR V V V ?_
  refine Yq S2 Zfp V V V (ZlH S2.imm s.cols _ (A1.mono j1)) (fun w3 G3 r1 P1 S3 L3=>?_)
  refine Zl S3 ZdU V V V (Zit S3.imm (s.cols.map Col.name) _ P1) (fun w4 G4 S4 L4=>?_)
  refine WL.split (fun (h7 : (Zbo (s.cols.map Col.name)) = true)=>?_) (fun (h7 : (Zbo (s.cols.map Col.name)) = false)=>?_)
  ·have hA : Zbv s = true:=by unfold Zbv; simp_all [Cmp.b] <;> (omega)
   have j2:=((L2.trans L3).trans L4)
   refine Z S4 (Xh.drop 1 (C1.mono j2)) QR V V V ?_
   have V3:=A1.bound
   have j3:=((j1.trans L3).trans L4)
   refine Zm (A1.mono j3) Q6 V V ?_
   refine LP.go ft [] (fun m ρ1 w1=>∃ (k1 : Nat),∃ (G5 : GH),m = s.cols.length - k1 ∧ G4.le G5 ∧ St w [] G G5 [] w1 ∧ FR ρ1 [(1,ZP p1),(50,v1),(51,U (s.cols.length : Int)),(52,U (k1 : Int))] ∧ k1 ≤ s.cols.length ∧ ∀ j,j < k1 → ∀ x,s.cols[j]? = some x → ZeO x = true) _ ⟨0,G4,V,(G4.le_refl),S4,(ZS V),(by omega),(by intro j hj; omega)⟩ ?_
   rintro m ρ1 w5 ⟨k1,G5,rfl,L5,S5,F9,f1,f2⟩
   refine F9.set ?_
   clear F9
   refine Zp (k1 : Int) (s.cols.length : Int) V V V (fun h8=>?_) (fun h8=>?_)
   ·refine WL.indexAddr (A1.mono (j3.trans L5)) k1 (by omega) Q6 Q9 V V V V (fun p2 x1 U1 E1=>?_)
    obtain ⟨D1,C2,R1⟩:=E1
    obtain ⟨rfl,Z7,Z5⟩:=XU R1
    refine Zc S5 C2 [Za x1.name,U x1.kind] Q9 V V V V V ?_
    refine WL.alloc S5 Q9 V V (fun b1 w6 N1 S6=>?_)
    refine Z9 S6 0 [Za x1.name,U x1.kind] V V Q9 V V V V V V (fun w7 S7=>?_)
    obtain ⟨G6,L6,C3,S8⟩:=S7.shutB N1
    refine Z S8 (Xh.drop 1 C3) Zk V V V ?_
    refine Zp x1.kind 1 V V V (fun h9=>?_) (fun h9=>?_)
    ·exact RB S8 V (by exact (Zji ‹_› (by omega)).symm)
    refine Z S8 (Xh.drop 1 C3) Zk V V V ?_
    refine Z1 x1.kind 4 V V V (fun h10=>?_) (fun h10=>?_)
    ·exact RB S8 V (by exact (Zji ‹_› (by omega)).symm)
    refine Zq k1 (by have:=Zb; omega) V V V ?_
    exact BK.mk' _ ⟨k1 + 1,G6,V,(L5.trans L6),S8,(ZS V),(by omega),(by exact Ys ‹_› ‹_› (ZoK (by omega) (by omega)))⟩ (show s.cols.length - (k1 + 1) < s.cols.length - k1 by omega)
   refine Z S5 (Xh.drop 3 (C1.mono (j2.trans L5))) Zxp V V V ?_
   have V4:=A2.bound
   refine Zm (A2.mono (j3.trans L5)) Zr5 V V ?_
   refine LP.go ft [] (fun m ρ1 w1=>∃ (k2 : Nat),∃ (G7 : GH),m = s.fks.length - k2 ∧ G5.le G7 ∧ St w [] G G7 [] w1 ∧ FR ρ1 [(1,ZP p1),(66,v2),(67,U (s.fks.length : Int)),(68,U (k2 : Int))] ∧ k2 ≤ s.fks.length ∧ ∀ j,j < k2 → ∀ x,s.fks[j]? = some x → fkB s x = true) _ ⟨0,G5,V,(G5.le_refl),S5,(ZS V),(by omega),(by intro j hj; omega)⟩ ?_
   rintro m ρ1 w9 ⟨k2,G7,rfl,L7,S9,F9,f3,f4⟩
   refine F9.set ?_
   clear F9
   refine Zp (k2 : Int) (s.fks.length : Int) V V V (fun h11=>?_) (fun h11=>?_)
   ·refine WL.indexAddr (A2.mono ((j3.trans L5).trans L7)) k2 (by omega) Zr5 ZjW V V V V (fun p3 x2 U2 E2=>?_)
    obtain ⟨D2,C4,R2⟩:=E2
    obtain ⟨v3,rfl,A3,ZD⟩:=Zj5 R2
    refine Zc S9 C4 [v3,Za x2.table] ZjW V V V V V ?_
    refine WL.alloc S9 ZjW V V (fun b2 w10 N2 S10=>?_)
    refine Z9 S10 0 [v3,Za x2.table] V V ZjW V V (by simp only [YE,A3.oneC] <;> rfl) V V V (fun w11 S11=>?_)
    obtain ⟨G9,L9,C5,S12⟩:=S11.shutB N2
    refine Z S12 (Xh.drop 1 C5) Zv V V V ?_
    refine Zl S12 Zbe V V V (Zis S12.imm x2.table) (fun w12 G10 S13 L10=>?_)
    refine WL.split (fun (h12 : (X5 x2.table) = true)=>?_) (fun (h12 : (X5 x2.table) = false)=>?_)
    ·refine Z S13 (Xh.drop 0 (C5.mono L10)) ZH V V V ?_
     have V5:=A3.bound
     refine Zm (A3.mono (L9.trans L10)) Yb V V ?_
     refine Zp (x2.cols.length : Int) 1 V V V (fun h13=>?_) (fun h13=>?_)
     ·exact RB S13 V (by exact (Zex ‹_› (Zms (by omega))).symm)
     refine Z S13 (Xh.drop 0 (C5.mono L10)) ZH V V V ?_
     have V6:=A3.bound
     refine Zm (A3.mono (L9.trans L10)) Yb V V ?_
     refine Z1 (x2.cols.length : Int) 8 V V V (fun h14=>?_) (fun h14=>?_)
     ·exact RB S13 V (by exact (Zex ‹_› (Zms (by omega))).symm)
     refine Z S13 (Xh.drop 0 (C5.mono L10)) ZH V V V ?_
     refine Zl S13 ZdU V V V (Zit S13.imm x2.cols _ (A3.mono (L9.trans L10))) (fun w13 G11 S14 L11=>?_)
     refine WL.split (fun (h15 : (Zbo x2.cols) = true)=>?_) (fun (h15 : (Zbo x2.cols) = false)=>?_)
     ·refine Z S14 (Xh.drop 0 (C5.mono (L10.trans L11))) ZH V V V ?_
      have V7:=A3.bound
      refine Zm (A3.mono ((L9.trans L10).trans L11)) Yb V V ?_
      refine LP.go ft [] (fun m ρ1 w1=>∃ (k3 : Nat),∃ (G12 : GH),m = x2.cols.length - k3 ∧ G11.le G12 ∧ St w [] G G12 [] w1 ∧ FR ρ1 [(1,ZP p1),(66,v2),(67,U (s.fks.length : Int)),(68,U (k2 : Int)),(95,v3),(96,U (x2.cols.length : Int)),(97,U (k3 : Int))] ∧ k3 ≤ x2.cols.length ∧ ∀ j,j < k3 → ∀ x,x2.cols[j]? = some x → decide (0 ≤ ixS (s.cols.map Col.name) x) = true) _ ⟨0,G11,V,(G11.le_refl),S14,(ZS V),(by omega),(by intro j hj; omega)⟩ ?_
      rintro m ρ1 w14 ⟨k3,G12,rfl,L12,S15,F9,f5,f6⟩
      refine F9.set ?_
      clear F9
      refine Zp (k3 : Int) (x2.cols.length : Int) V V V (fun h16=>?_) (fun h16=>?_)
      ·refine WL.indexAddr (A3.mono (((L9.trans L10).trans L11).trans L12)) k3 (by omega) Yb Zv V V V V (fun p4 x3 U3 E3=>?_)
       obtain ⟨D3,C6,R3⟩:=E3
       obtain ⟨rfl,hb6⟩:=R3
       refine Z S15 C6 Zv V V V <| Zc S15 (C1.mono ((((((((L2.trans L3).trans L4).trans L5).trans L7).trans L9).trans L10).trans L11).trans L12)) [Za s.name,v1,U s.key,v2] Qz V V V V V ?_
       refine Zl S15 Zfq V V V (Zr7 S15.imm s x3 _ (Zan s B1 (A1.mono (((((((((L1.trans L2).trans L3).trans L4).trans L5).trans L7).trans L9).trans L10).trans L11).trans L12)) B2 (A2.mono (((((((((L1.trans L2).trans L3).trans L4).trans L5).trans L7).trans L9).trans L10).trans L11).trans L12)))) (fun w15 G13 S16 L13=>?_)
       refine Zp (ixS (s.cols.map Col.name) x3) 0 V V V (fun h17=>?_) (fun h17=>?_)
       ·exact RB S16 V (by exact (Zex ‹_› (ZtL ‹_› ‹_›)).symm)
       refine Zq k3 (by have:=Zb; omega) V V V ?_
       exact BK.mk' _ ⟨k3 + 1,G13,V,(L12.trans L13),S16,(ZS V),(by omega),(by exact Ys ‹_› ‹_› (decide_eq_true ‹_›))⟩ (show x2.cols.length - (k3 + 1) < x2.cols.length - k3 by omega)
      refine Zq k2 (by have:=Zb; omega) V V V ?_
      exact BK.mk' _ ⟨k2 + 1,G12,V,(L7.trans (((L9.trans L10).trans L11).trans L12)),S15,(ZS V),(by omega),(by exact Ys ‹_› ‹_› (ZtI ‹_› (by omega) (by omega) ‹_› (Zbk ‹_› (by omega))))⟩ (show s.fks.length - (k2 + 1) < s.fks.length - k2 by omega)
     exact RB S14 V (by exact (Zex ‹_› (ZtK ‹_›)).symm)
    exact RB S13 V (by exact (Zex ‹_› (ZtJ ‹_›)).symm)
   exact RB S9 V (by exact (ZqD hA (Zbk ‹_› (by omega)) (Zbk ‹_› (by omega))).symm)
  exact RB S4 V (by exact (Zds (by unfold Zbv; simp_all [Cmp.b])).symm)
 exact RB S2 V (by exact (Zds (by unfold Zbv; simp_all [Cmp.b])).symm)
end Go.Civ
set_option linter.unusedVariables false
set_option linter.unusedSimpArgs false
set_option maxRecDepth 100000
set_option maxHeartbeats 4000000
namespace Go.Civ
open Go.Proofs
theorem Zjz {G : GH} {w : World} (hG : G.In w) (c : Int) : CL Tryz.prog (nat_lit 202) #[.int .u8 c] [] w G fun _ _ r=>r = .bool (YQ c):=by
 refine Zg ft [] Tryz.func202 V V ?_
 have hS:=St.start (X:=[]) hG
 refine ZM c 97 V V V (fun h1=>?_) (fun h1=>?_)
 ·refine X2 c 122 V V V (fun h2=>?_) (fun h2=>?_)
  ·exact RB hS V (by unfold YQ; simp_all [Cmp.b])
  refine ZM c 65 V V V (fun h3=>?_) (fun h3=>?_)
  ·refine Yd .leq V .u8 c 90 V V V ?_
   exact RB hS V (by unfold YQ; simp_all [Cmp.b] <;> (omega))
  exact RB hS V (by unfold YQ; simp_all [Cmp.b] <;> (omega))
 refine ZM c 65 V V V (fun h4=>?_) (fun h4=>?_)
 ·refine Yd .leq V .u8 c 90 V V V ?_
  exact RB hS V (by unfold YQ; simp_all [Cmp.b] <;> (omega))
 exact RB hS V (by unfold YQ; simp_all [Cmp.b] <;> (omega))
theorem ZrE {G : GH} {w : World} (hG : G.In w) (c : Int) : CL Tryz.prog (nat_lit 203) #[.int .u8 c] [] w G fun _ _ r=>r = .bool (QE c):=by
 refine Zg ft [] Tryz.func203 V V ?_
 have hS:=St.start (X:=[]) hG
 refine ZM c 48 V V V (fun h1=>?_) (fun h1=>?_)
 ·refine Yd .leq V .u8 c 57 V V V ?_
  exact RB hS V (by unfold QE; simp_all [Cmp.b])
 exact RB hS V (by unfold QE; simp_all [Cmp.b] <;> (omega))
theorem Zj0 {G : GH} {w : World} (hG : G.In w) (c : Int) : CL Tryz.prog (nat_lit 142) #[.int .u8 c] [] w G fun _ _ r=>r = .bool (YQ c):=by
 refine Zg ft [] Tryz.func142 V V ?_
 have hS:=St.start (X:=[]) hG
 refine ZM c 97 V V V (fun h1=>?_) (fun h1=>?_)
 ·refine X2 c 122 V V V (fun h2=>?_) (fun h2=>?_)
  ·exact RB hS V (by unfold YQ; simp_all [Cmp.b])
  refine ZM c 65 V V V (fun h3=>?_) (fun h3=>?_)
  ·refine Yd .leq V .u8 c 90 V V V ?_
   exact RB hS V (by unfold YQ; simp_all [Cmp.b] <;> (omega))
  exact RB hS V (by unfold YQ; simp_all [Cmp.b] <;> (omega))
 refine ZM c 65 V V V (fun h4=>?_) (fun h4=>?_)
 ·refine Yd .leq V .u8 c 90 V V V ?_
  exact RB hS V (by unfold YQ; simp_all [Cmp.b] <;> (omega))
 exact RB hS V (by unfold YQ; simp_all [Cmp.b] <;> (omega))
theorem ZrF {G : GH} {w : World} (hG : G.In w) (c : Int) : CL Tryz.prog (nat_lit 143) #[.int .u8 c] [] w G fun _ _ r=>r = .bool (QE c):=by
 refine Zg ft [] Tryz.func143 V V ?_
 have hS:=St.start (X:=[]) hG
 refine ZM c 48 V V V (fun h1=>?_) (fun h1=>?_)
 ·refine Yd .leq V .u8 c 57 V V V ?_
  exact RB hS V (by unfold QE; simp_all [Cmp.b])
 exact RB hS V (by unfold QE; simp_all [Cmp.b] <;> (omega))
theorem ZbW {G : GH} {w : World} (hG : G.In w) (s : List UInt8) (hg : Glob G) : CL Tryz.prog (nat_lit 161) #[Za s] [] w G fun _ _ r=>r = .bool (YB s):=by
 refine Zg ft [] Tryz.func161 V V ?_
 have hg0:=hg
 obtain ⟨⟨rv,hrc,hrs⟩,hac⟩:=hg0
 have hS:=St.start (X:=[]) hG
 refine Zn .eql V s [] V V V ?_
 refine WL.split (fun h0=>?_) (fun h0=>?_)
 ·have h1 : s = []:=by simpa [SCmp.b] using h0
  clear h0
  exact RB hS V (by exact (Zvv ‹_›).symm)
 have h1 : s ≠ []:=by simpa [SCmp.b] using h0
 clear h0
 refine YN s X1 V V ?_
 refine Z1 (s.length : Int) 30 V V V (fun h2=>?_) (fun h2=>?_)
 ·exact RB hS V (by exact (ZkM (.inr (by omega))).symm)
 refine YY s 0 (by (have h9:=ZoU ‹_›; omega)) X1 V V V (fun c1 U1=>?_)
 refine Zl hS Ztw V V V (Zjz hS.imm (c1.toNat : Int)) (fun w1 G1 S1 L1=>?_)
 refine WL.split (fun (h3 : (YQ (c1.toNat : Int)) = true)=>?_) (fun (h3 : (YQ (c1.toNat : Int)) = false)=>?_)
 ·refine Z S1 (hrc.mono L1) ZH V V V ?_
  refine Zl S1 ZnL V V V (Zd7 S1.imm resvL s _ (hrs.mono L1)) (fun w2 G2 S2 L2=>?_)
  refine WL.split (fun (h4 : (resvL.any fun x=>decide (x = s)) = true)=>?_) (fun (h4 : (resvL.any fun x=>decide (x = s)) = false)=>?_)
  ·exact RB S2 V (by exact (Zvw ‹_›).symm)
  refine YN s X1 V V ?_
  refine LP.go ft [] (fun m ρ1 w1=>∃ (k1 : Nat),∃ (G3 : GH),m = s.length - k1 ∧ G2.le G3 ∧ St w [] G G3 [] w1 ∧ FR ρ1 [(0,Za s),(23,U (s.length : Int)),(24,U (k1 : Int))] ∧ k1 ≤ s.length ∧ ∀ j,j < k1 → ∀ c,s[j]? = some c → qnC c = true) _ ⟨0,G2,V,(G2.le_refl),S2,⟨V,V,V,trivial⟩,(by omega),(by intro j hj; omega)⟩ ?_
  rintro m ρ1 w3 ⟨k1,G3,rfl,L3,S3,F9,f1,f2⟩
  refine F9.set ?_
  clear F9
  refine Zp (k1 : Int) (s.length : Int) V V V (fun h5=>?_) (fun h5=>?_)
  ·refine YY s k1 (by omega) X1 V V V (fun c2 U2=>?_)
   refine Zl S3 Ztw V V V (Zjz S3.imm (c2.toNat : Int)) (fun w4 G4 S4 L4=>?_)
   refine WL.split (fun (h6 : (YQ (c2.toNat : Int)) = true)=>?_) (fun (h6 : (YQ (c2.toNat : Int)) = false)=>?_)
   ·refine Zq k1 (by have:=Zb; omega) V V V ?_
    exact BK.mk' _ ⟨k1 + 1,G4,V,(L3.trans L4),S4,⟨V,V,V,trivial⟩,(by omega),(by exact Ys ‹_› ‹_› (by exact ZrW ‹_›))⟩ (show s.length - (k1 + 1) < s.length - k1 by omega)
   refine YY s k1 (by omega) X1 V V V (fun c3 U3=>?_)
   obtain rfl : c2 = c3:=Option.some.inj (U2.symm.trans U3)
   refine Zl S4 Zz9 V V V (ZrE S4.imm (c2.toNat : Int)) (fun w5 G5 S5 L5=>?_)
   refine WL.split (fun (h7 : (QE (c2.toNat : Int)) = true)=>?_) (fun (h7 : (QE (c2.toNat : Int)) = false)=>?_)
   ·refine Zq k1 (by have:=Zb; omega) V V V ?_
    exact BK.mk' _ ⟨k1 + 1,G5,V,(L3.trans (L4.trans L5)),S5,⟨V,V,V,trivial⟩,(by omega),(by exact Ys ‹_› ‹_› (by exact ZrX ‹_›))⟩ (show s.length - (k1 + 1) < s.length - k1 by omega)
   refine YY s k1 (by omega) X1 V V V (fun c4 U4=>?_)
   obtain rfl : c2 = c4:=Option.some.inj (U2.symm.trans U4)
   refine Zz (c2.toNat : Int) 95 V V V (fun h8=>?_) (fun h8=>?_)
   ·exact RB S5 V (by exact (ZoT ‹_› (ZoR ‹_› ‹_› ‹_›)).symm)
   refine Zq k1 (by have:=Zb; omega) V V V ?_
   exact BK.mk' _ ⟨k1 + 1,G5,V,(L3.trans (L4.trans L5)),S5,⟨V,V,V,trivial⟩,(by omega),(by exact Ys ‹_› ‹_› (by exact ZrY ‹_›))⟩ (show s.length - (k1 + 1) < s.length - k1 by omega)
  exact RB S3 V (by exact (Zvx (ZoU ‹_›) (by omega) ‹_› ‹_› (Zbk ‹_› (by omega)) ‹_›).symm)
 exact RB S1 V (by exact (ZoS ‹_› ‹_›).symm)
theorem Zob {G : GH} {w : World} (hG : G.In w) (s : List UInt8) : CL Tryz.prog (nat_lit 144) #[Za s] [] w G fun _ _ r=>r = .bool (ZeP s):=by
 refine Zg ft [] Tryz.func144 V V ?_
 have hS:=St.start (X:=[]) hG
 refine Zn .eql V s [115,99,97,110] V V V ?_
 refine WL.split (fun h0=>?_) (fun h0=>?_)
 ·have h1 : s = [115,99,97,110]:=by simpa [SCmp.b] using h0
  clear h0
  exact RB hS V (by exact XO _ ‹_›)
 have h1 : s ≠ [115,99,97,110]:=by simpa [SCmp.b] using h0
 clear h0
 refine Zn .eql V s [115,101,108,101,99,116] V V V ?_
 refine WL.split (fun h0=>?_) (fun h0=>?_)
 ·have h2 : s = [115,101,108,101,99,116]:=by simpa [SCmp.b] using h0
  clear h0
  exact RB hS V (by exact XO _ ‹_›)
 have h2 : s ≠ [115,101,108,101,99,116]:=by simpa [SCmp.b] using h0
 clear h0
 refine Zn .eql V s [111,102] V V V ?_
 refine WL.split (fun h0=>?_) (fun h0=>?_)
 ·have h3 : s = [111,102]:=by simpa [SCmp.b] using h0
  clear h0
  exact RB hS V (by exact XO _ ‹_›)
 have h3 : s ≠ [111,102]:=by simpa [SCmp.b] using h0
 clear h0
 refine Zn .eql V s [112,114,111,106,101,99,116] V V V ?_
 refine WL.split (fun h0=>?_) (fun h0=>?_)
 ·have h4 : s = [112,114,111,106,101,99,116]:=by simpa [SCmp.b] using h0
  clear h0
  exact RB hS V (by exact XO _ ‹_›)
 have h4 : s ≠ [112,114,111,106,101,99,116]:=by simpa [SCmp.b] using h0
 clear h0
 refine Zn .eql V s [114,101,110,97,109,101] V V V ?_
 refine WL.split (fun h0=>?_) (fun h0=>?_)
 ·have h5 : s = [114,101,110,97,109,101]:=by simpa [SCmp.b] using h0
  clear h0
  exact RB hS V (by exact XO _ ‹_›)
 have h5 : s ≠ [114,101,110,97,109,101]:=by simpa [SCmp.b] using h0
 clear h0
 refine Zn .eql V s [116,111] V V V ?_
 refine WL.split (fun h0=>?_) (fun h0=>?_)
 ·have h6 : s = [116,111]:=by simpa [SCmp.b] using h0
  clear h0
  exact RB hS V (by exact XO _ ‹_›)
 have h6 : s ≠ [116,111]:=by simpa [SCmp.b] using h0
 clear h0
 refine Zn .eql V s [106,111,105,110] V V V ?_
 refine WL.split (fun h0=>?_) (fun h0=>?_)
 ·have h7 : s = [106,111,105,110]:=by simpa [SCmp.b] using h0
  clear h0
  exact RB hS V (by exact XO _ ‹_›)
 have h7 : s ≠ [106,111,105,110]:=by simpa [SCmp.b] using h0
 clear h0
 refine Zn .eql V s [117,110,105,111,110] V V V ?_
 refine WL.split (fun h0=>?_) (fun h0=>?_)
 ·have h8 : s = [117,110,105,111,110]:=by simpa [SCmp.b] using h0
  clear h0
  exact RB hS V (by exact XO _ ‹_›)
 have h8 : s ≠ [117,110,105,111,110]:=by simpa [SCmp.b] using h0
 clear h0
 refine Zn .eql V s [101,120,99,101,112,116] V V V ?_
 refine WL.split (fun h0=>?_) (fun h0=>?_)
 ·have h9 : s = [101,120,99,101,112,116]:=by simpa [SCmp.b] using h0
  clear h0
  exact RB hS V (by exact XO _ ‹_›)
 have h9 : s ≠ [101,120,99,101,112,116]:=by simpa [SCmp.b] using h0
 clear h0
 refine Zn .eql V s [100,117,114,105,110,103] V V V ?_
 refine WL.split (fun h0=>?_) (fun h0=>?_)
 ·have h10 : s = [100,117,114,105,110,103]:=by simpa [SCmp.b] using h0
  clear h0
  exact RB hS V (by exact XO _ ‹_›)
 have h10 : s ≠ [100,117,114,105,110,103]:=by simpa [SCmp.b] using h0
 clear h0
 refine Zn .eql V s [103,114,111,117,112] V V V ?_
 refine WL.split (fun h0=>?_) (fun h0=>?_)
 ·have h11 : s = [103,114,111,117,112]:=by simpa [SCmp.b] using h0
  clear h0
  exact RB hS V (by exact XO _ ‹_›)
 have h11 : s ≠ [103,114,111,117,112]:=by simpa [SCmp.b] using h0
 clear h0
 refine Zn .eql V s [97,115] V V V ?_
 refine WL.split (fun h0=>?_) (fun h0=>?_)
 ·have h12 : s = [97,115]:=by simpa [SCmp.b] using h0
  clear h0
  exact RB hS V (by exact XO _ ‹_›)
 have h12 : s ≠ [97,115]:=by simpa [SCmp.b] using h0
 clear h0
 refine Zn .eql V s [99,111,117,110,116] V V V ?_
 refine WL.split (fun h0=>?_) (fun h0=>?_)
 ·have h13 : s = [99,111,117,110,116]:=by simpa [SCmp.b] using h0
  clear h0
  exact RB hS V (by exact XO _ ‹_›)
 have h13 : s ≠ [99,111,117,110,116]:=by simpa [SCmp.b] using h0
 clear h0
 refine Zn .eql V s [115,117,109] V V V ?_
 refine WL.split (fun h0=>?_) (fun h0=>?_)
 ·have h14 : s = [115,117,109]:=by simpa [SCmp.b] using h0
  clear h0
  exact RB hS V (by exact XO _ ‹_›)
 have h14 : s ≠ [115,117,109]:=by simpa [SCmp.b] using h0
 clear h0
 refine Zn .eql V s [109,105,110] V V V ?_
 refine WL.split (fun h0=>?_) (fun h0=>?_)
 ·have h15 : s = [109,105,110]:=by simpa [SCmp.b] using h0
  clear h0
  exact RB hS V (by exact XO _ ‹_›)
 have h15 : s ≠ [109,105,110]:=by simpa [SCmp.b] using h0
 clear h0
 refine Zn .eql V s [109,97,120] V V V ?_
 refine WL.split (fun h0=>?_) (fun h0=>?_)
 ·have h16 : s = [109,97,120]:=by simpa [SCmp.b] using h0
  clear h0
  exact RB hS V (by exact XO _ ‹_›)
 have h16 : s ≠ [109,97,120]:=by simpa [SCmp.b] using h0
 clear h0
 refine Zn .eql V s [114,101,108,97,116,101] V V V ?_
 refine WL.split (fun h0=>?_) (fun h0=>?_)
 ·have h17 : s = [114,101,108,97,116,101]:=by simpa [SCmp.b] using h0
  clear h0
  exact RB hS V (by exact XO _ ‹_›)
 have h17 : s ≠ [114,101,108,97,116,101]:=by simpa [SCmp.b] using h0
 clear h0
 refine Zn .eql V s [97,110,100] V V V ?_
 refine WL.split (fun h0=>?_) (fun h0=>?_)
 ·have h18 : s = [97,110,100]:=by simpa [SCmp.b] using h0
  clear h0
  exact RB hS V (by exact XO _ ‹_›)
 have h18 : s ≠ [97,110,100]:=by simpa [SCmp.b] using h0
 clear h0
 refine Zn .eql V s [111,114] V V V ?_
 refine WL.split (fun h0=>?_) (fun h0=>?_)
 ·have h19 : s = [111,114]:=by simpa [SCmp.b] using h0
  clear h0
  exact RB hS V (by exact XO _ ‹_›)
 have h19 : s ≠ [111,114]:=by simpa [SCmp.b] using h0
 clear h0
 refine Zn .eql V s [110,111,116] V V V ?_
 refine WL.split (fun h0=>?_) (fun h0=>?_)
 ·have h20 : s = [110,111,116]:=by simpa [SCmp.b] using h0
  clear h0
  exact RB hS V (by exact XO _ ‹_›)
 have h20 : s ≠ [110,111,116]:=by simpa [SCmp.b] using h0
 clear h0
 refine Zn .eql V s [97,108,119,97,121,115] V V V ?_
 refine WL.split (fun h0=>?_) (fun h0=>?_)
 ·have h21 : s = [97,108,119,97,121,115]:=by simpa [SCmp.b] using h0
  clear h0
  exact RB hS V (by exact XO _ ‹_›)
 have h21 : s ≠ [97,108,119,97,121,115]:=by simpa [SCmp.b] using h0
 clear h0
 refine Zn .eql V s [116,114,117,101] V V V ?_
 refine WL.split (fun h0=>?_) (fun h0=>?_)
 ·have h22 : s = [116,114,117,101]:=by simpa [SCmp.b] using h0
  clear h0
  exact RB hS V (by exact XO _ ‹_›)
 have h22 : s ≠ [116,114,117,101]:=by simpa [SCmp.b] using h0
 clear h0
 refine Zn .eql V s [102,97,108,115,101] V V V ?_
 refine WL.split (fun h0=>?_) (fun h0=>?_)
 ·have h23 : s = [102,97,108,115,101]:=by simpa [SCmp.b] using h0
  clear h0
  exact RB hS V (by exact XO _ ‹_›)
 have h23 : s ≠ [102,97,108,115,101]:=by simpa [SCmp.b] using h0
 clear h0
 refine Zn .eql V s [102,111,114,101,118,101,114] V V V ?_
 refine WL.split (fun h0=>?_) (fun h0=>?_)
 ·have h24 : s = [102,111,114,101,118,101,114]:=by simpa [SCmp.b] using h0
  clear h0
  exact RB hS V (by exact XO _ ‹_›)
 have h24 : s ≠ [102,111,114,101,118,101,114]:=by simpa [SCmp.b] using h0
 clear h0
 exact RB hS V (by exact Zv1 ‹_› ‹_› ‹_› ‹_› ‹_› ‹_› ‹_› ‹_› ‹_› ‹_› ‹_› ‹_› ‹_› ‹_› ‹_› ‹_› ‹_› ‹_› ‹_› ‹_› ‹_› ‹_› ‹_› ‹_›)
theorem Zau {G : GH} {w : World} (hG : G.In w) (s : List UInt8) : CL Tryz.prog (nat_lit 98) #[Za s] [] w G fun _ _ r=>r = .bool (YB s):=by
 refine Zg ft [] Tryz.func98 V V ?_
 have hS:=St.start (X:=[]) hG
 refine YN s X1 V V ?_
 refine Zp (s.length : Int) 1 V V V (fun h1=>?_) (fun h1=>?_)
 ·exact RB hS V (by exact (ZkM (by omega)).symm)
 refine YN s X1 V V ?_
 refine Z1 (s.length : Int) 30 V V V (fun h2=>?_) (fun h2=>?_)
 ·exact RB hS V (by exact (ZkM (by omega)).symm)
 refine YY s 0 (by omega) X1 V V V (fun c1 U1=>?_)
 refine Zl hS Ztn V V V (Zj0 hS.imm (c1.toNat : Int)) (fun w1 G1 S1 L1=>?_)
 refine WL.split (fun (h3 : (YQ (c1.toNat : Int)) = true)=>?_) (fun (h3 : (YQ (c1.toNat : Int)) = false)=>?_)
 ·refine LP.go ft [] (fun m ρ1 w1=>∃ (k1 : Nat),∃ (G2 : GH),m = s.length - k1 ∧ G1.le G2 ∧ St w [] G G2 [] w1 ∧ FR ρ1 [(0,Za s),(3,U (k1 : Int))] ∧ k1 ≤ s.length ∧ ∀ j,j < k1 → ∀ c,s[j]? = some c → qnC c = true) _ ⟨0,G1,V,(G1.le_refl),S1,⟨V,V,trivial⟩,(by omega),(by intro j hj; omega)⟩ ?_
  rintro m ρ1 w2 ⟨k1,G2,rfl,L2,S2,F9,f1,f2⟩
  refine F9.set ?_
  clear F9
  refine YN s X1 V V ?_
  refine Zp (k1 : Int) (s.length : Int) V V V (fun h4=>?_) (fun h4=>?_)
  ·refine YY s k1 (by omega) X1 V V V (fun c2 U2=>?_)
   refine Zl S2 Ztn V V V (Zj0 S2.imm (c2.toNat : Int)) (fun w3 G3 S3 L3=>?_)
   refine WL.split (fun (h5 : (YQ (c2.toNat : Int)) = true)=>?_) (fun (h5 : (YQ (c2.toNat : Int)) = false)=>?_)
   ·refine Zq k1 (by have:=Zb; omega) V V V ?_
    exact BK.mk' _ ⟨k1 + 1,G3,V,(L2.trans L3),S3,⟨V,V,trivial⟩,(by omega),(by exact Ys ‹_› ‹_› (by exact ZrW ‹_›))⟩ (show s.length - (k1 + 1) < s.length - k1 by omega)
   refine YY s k1 (by omega) X1 V V V (fun c3 U3=>?_)
   obtain rfl : c2 = c3:=Option.some.inj (U2.symm.trans U3)
   refine Zl S3 Zzi V V V (ZrF S3.imm (c2.toNat : Int)) (fun w4 G4 S4 L4=>?_)
   refine WL.split (fun (h6 : (QE (c2.toNat : Int)) = true)=>?_) (fun (h6 : (QE (c2.toNat : Int)) = false)=>?_)
   ·refine Zq k1 (by have:=Zb; omega) V V V ?_
    exact BK.mk' _ ⟨k1 + 1,G4,V,(L2.trans (L3.trans L4)),S4,⟨V,V,trivial⟩,(by omega),(by exact Ys ‹_› ‹_› (by exact ZrX ‹_›))⟩ (show s.length - (k1 + 1) < s.length - k1 by omega)
   refine YY s k1 (by omega) X1 V V V (fun c4 U4=>?_)
   obtain rfl : c2 = c4:=Option.some.inj (U2.symm.trans U4)
   refine Zz (c2.toNat : Int) 95 V V V (fun h7=>?_) (fun h7=>?_)
   ·exact RB S4 V (by exact (ZoT ‹_› (ZoR ‹_› ‹_› ‹_›)).symm)
   refine Zq k1 (by have:=Zb; omega) V V V ?_
   exact BK.mk' _ ⟨k1 + 1,G4,V,(L2.trans (L3.trans L4)),S4,⟨V,V,trivial⟩,(by omega),(by exact Ys ‹_› ‹_› (by exact ZrY ‹_›))⟩ (show s.length - (k1 + 1) < s.length - k1 by omega)
  refine Zl S2 Zzj V V V (Zob S2.imm s) (fun w5 G5 S5 L5=>?_)
  exact RB S5 V (by exact Zvy (by omega) (by omega) ‹_› ‹_› (Zbk ‹_› (by omega)))
 exact RB S1 V (by exact (ZoS ‹_› ‹_›).symm)
theorem Zft {G : GH} {w : World} (hG : G.In w) (l : List (List UInt8)) (hg : Glob G) (vl : Value) (hvl : Sl Enc.str 16 G vl l) : CL Tryz.prog (nat_lit 163) #[vl] [] w G fun _ _ r=>r = .bool (QF l):=by
 refine Zg ft [] Tryz.func163 V V ?_
 have hg0:=hg
 obtain ⟨⟨rv,hrc,hrs⟩,hac⟩:=hg0
 have hS:=St.start (X:=[]) hG
 have V1:=hvl.bound
 refine Zm hvl Yb V V ?_
 refine LP.go ft [] (fun m ρ1 w1=>∃ (k1 : Nat),∃ (G1 : GH),m = l.length - k1 ∧ G.le G1 ∧ St w [] G G1 [] w1 ∧ FR ρ1 [(0,vl),(5,vl),(6,U (l.length : Int)),(7,U (k1 : Int))] ∧ k1 ≤ l.length ∧ ∀ j,j < k1 → ∀ s,l[j]? = some s → qnA l j s = true) _ ⟨0,G,V,(G.le_refl),hS,(ZS V),(by omega),(by intro j hj; omega)⟩ ?_
 rintro m ρ1 w1 ⟨k1,G1,rfl,L1,S1,F9,f1,f2⟩
 refine F9.set ?_
 clear F9
 refine Zp (k1 : Int) (l.length : Int) V V V (fun h1=>?_) (fun h1=>?_)
 ·refine WL.indexAddr (hvl.mono L1) k1 (by omega) Yb Zv V V V V (fun p1 x1 U1 E1=>?_)
  obtain ⟨D1,C1,R1⟩:=E1
  obtain ⟨rfl,B1⟩:=R1
  refine Z S1 C1 Zv V V V ?_
  refine Zl S1 ZdX V V V (ZbW S1.imm x1 (hg.mono L1)) (fun w2 G2 S2 L2=>?_)
  refine WL.split (fun (h2 : (YB x1) = true)=>?_) (fun (h2 : (YB x1) = false)=>?_)
  ·refine Zbn (hvl.mono (L1.trans L2)) k1 (by omega) Yb Zv V V V V (fun v1 A1=>?_)
   refine Zl S2 ZnL V V V (Zd7 S2.imm (l.take k1) x1 _ A1) (fun w3 G3 S3 L3=>?_)
   refine WL.split (fun (h3 : ((l.take k1).any fun x=>decide (x = x1)) = true)=>?_) (fun (h3 : ((l.take k1).any fun x=>decide (x = x1)) = false)=>?_)
   ·exact RB S3 V (by exact (ZhN ‹_› (Zmz ‹_›)).symm)
   refine Zq k1 (by have:=Zb; omega) V V V ?_
   exact BK.mk' _ ⟨k1 + 1,G3,V,(L1.trans (L2.trans L3)),S3,(ZS V),(by omega),(by exact QQ (P:=fun j s=>qnA l j s = true) ‹_› ‹_› (Zmx ‹_› ‹_›))⟩ (show l.length - (k1 + 1) < l.length - k1 by omega)
  exact RB S2 V (by exact (ZhN ‹_› (Zmy ‹_›)).symm)
 exact RB S1 V (by exact (Zm0 ‹_› (by omega)).symm)
theorem Zgh {G : GH} {w : World} (hG : G.In w) (l : List (List UInt8)) (vl : Value) (hvl : Sl Enc.str 16 G vl l) : CL Tryz.prog (nat_lit 100) #[vl] [] w G fun _ _ r=>r = .bool (QF l):=by
 refine Zg ft [] Tryz.func100 V V ?_
 have hS:=St.start (X:=[]) hG
 refine LP.go ft [] (fun m ρ1 w1=>∃ (k1 : Nat),∃ (G1 : GH),m = l.length - k1 ∧ G.le G1 ∧ St w [] G G1 [] w1 ∧ FR ρ1 [(0,vl),(3,U (k1 : Int))] ∧ k1 ≤ l.length ∧ ∀ j,j < k1 → ∀ s,l[j]? = some s → qnA l j s = true) _ ⟨0,G,V,(G.le_refl),hS,⟨V,V,trivial⟩,(by omega),(by intro j hj; omega)⟩ ?_
 rintro m ρ1 w1 ⟨k1,G1,rfl,L1,S1,F9,f1,f2⟩
 refine F9.set ?_
 clear F9
 have V1:=hvl.bound
 refine Zm (hvl.mono L1) Yb V V ?_
 refine Zp (k1 : Int) (l.length : Int) V V V (fun h1=>?_) (fun h1=>?_)
 ·refine WL.indexAddr (hvl.mono L1) k1 (by omega) Yb Zv V V V V (fun p1 x1 U1 E1=>?_)
  obtain ⟨D1,C1,R1⟩:=E1
  obtain ⟨rfl,B1⟩:=R1
  refine Z S1 C1 Zv V V V ?_
  refine Zl S1 Zb4 V V V (Zau S1.imm x1) (fun w2 G2 S2 L2=>?_)
  refine WL.split (fun (h2 : (YB x1) = true)=>?_) (fun (h2 : (YB x1) = false)=>?_)
  ·refine LP.go ft [] (fun m ρ1 w1=>∃ (k2 : Nat),∃ (G3 : GH),m = k1 - k2 ∧ G2.le G3 ∧ St w [] G G3 [] w1 ∧ FR ρ1 [(0,vl),(3,U (k1 : Int)),(4,U (k2 : Int))] ∧ k2 ≤ k1 ∧ ∀ j,j < k2 → ∀ x,l[j]? = some x → ¬ x = x1) _ ⟨0,G2,V,(G2.le_refl),S2,⟨V,V,V,trivial⟩,(by omega),(by intro j hj; omega)⟩ ?_
   rintro m ρ1 w3 ⟨k2,G3,rfl,L3,S3,F9,f3,f4⟩
   refine F9.set ?_
   clear F9
   refine Zp (k2 : Int) (k1 : Int) V V V (fun h3=>?_) (fun h3=>?_)
   ·have j1:=((L1.trans L2).trans L3)
    obtain ⟨p2,x2,U2,E2,W1⟩:=Sl.at (hvl.mono j1) k2 (by omega)
    obtain ⟨D2,C2,R2⟩:=E2
    obtain ⟨rfl,B2⟩:=R2
    obtain ⟨p3,x3,U3,E3,W2⟩:=Sl.at (hvl.mono j1) k1 (by omega)
    obtain rfl : x1 = x3:=Option.some.inj (U1.symm.trans U3)
    obtain ⟨D3,C3,R3⟩:=E3
    obtain ⟨rfl,Z7⟩:=R3
    rcases Classical.em (x2 = x1) with h4 | h4
    ·refine dr [] [(24,ZP p2),(25,Za x2),(28,ZP p3),(29,Za x1),(30, .bool true)] S3 ⟨fun _=>Zy k2 W1 Yb Zv V V V V <| nu V V,fun _ hSw=>Z hSw C2 Zv V V V <| nu V V,fun _=>Zy k1 W2 Yb Zv V V V V <| nu V V,fun _ hSw=>Z hSw C3 Zv V V V <| nu V V,fun _=>Xn .eql V x2 x1 true (by simp [h4,SCmp.b]) V V V <| nu V V,trivial⟩ (fun w4 S4=>?_)
     exact RB S4 V (by exact (ZtQ (k:=k1) (j:=k2) ‹_› ‹_› (by omega) ‹_›).symm)
    refine dr [] [(24,ZP p2),(25,Za x2),(28,ZP p3),(29,Za x1),(30, .bool false)] S3 ⟨fun _=>Zy k2 W1 Yb Zv V V V V <| nu V V,fun _ hSw=>Z hSw C2 Zv V V V <| nu V V,fun _=>Zy k1 W2 Yb Zv V V V V <| nu V V,fun _ hSw=>Z hSw C3 Zv V V V <| nu V V,fun _=>Xn .eql V x2 x1 false (by simp [h4,SCmp.b]) V V V <| nu V V,trivial⟩ (fun w5 S5=>?_)
    refine Zq k2 (by have:=Zb; omega) V V V ?_
    exact BK.mk' _ ⟨k2 + 1,G3,V,L3,S5,⟨V,V,V,trivial⟩,(by omega),(by exact Ys (P:=fun x=>¬ x = _) ‹_› ‹_› ‹_›)⟩ (show k1 - (k2 + 1) < k1 - k2 by omega)
   refine Zq k1 (by have:=Zb; omega) V V V ?_
   exact BK.mk' _ ⟨k1 + 1,G3,V,(L1.trans (L2.trans L3)),S3,⟨V,V,trivial⟩,(by omega),(by exact QQ (P:=fun j s=>qnA l j s = true) ‹_› ‹_› (Zmx ‹_› (ZtP (fun j hj=>(by assumption : ∀ j,j < k2 → ∀ x,l[j]? = some x → ¬ x = _) j (by omega)))))⟩ (show l.length - (k1 + 1) < l.length - k1 by omega)
  exact RB S2 V (by exact (ZhN ‹_› (Zmy ‹_›)).symm)
 exact RB S1 V (by exact (Zm0 ‹_› (by omega)).symm)
end Go.Civ
