/- Lemmas. -/
import Derived.Test.YthgeclodflmiaaaGreatD15
import Derived.Test.YthgeclodflmiaaaGreatD21
import Derived.Test.YthgeclodflmiaaaGreatD24
import Derived.Test.YthgeclodflmiaaaGreatD26
import Derived.Test.YthgeclodflmiaaaGreatD27
import Derived.Test.YthgeclodflmiaaaGreatD28
import Derived.Test.YthgeclodflmiaaaGreatD29
import Derived.Test.YthgeclodflmiaaaGreatProg
import Derived.KernelRfl
import Derived.WalkKit
set_option linter.unusedVariables false
set_option linter.unusedSimpArgs false
set_option maxRecDepth 100000
set_option maxHeartbeats 4000000
namespace Go.Civ
open Go.Proofs
theorem Zp1 {G : GH} {w : World} (hG : G.In w) (t : Table) (at_ tx : Int) (ct : List Value) (hct : TableE.rep G t ct) : CL Tryz.prog (nat_lit 23) #[.agg ct.toArray,S at_,S tx] [] w G fun G' _ r=>Sl (ValE.slice 32) 24 G' r (YO t at_ tx):=by
 refine Zh ft [] Tryz.func23 U U ?_
 have hS:=St.start (X:=[]) hG
 obtain ⟨v1,v2,v3,rfl,B1,A1,B2,A2,A3,B3⟩:=Zy hct
 refine Zw [Za t.s.name,v1,S t.s.key,v2,v3,S t.last] _ hS U U U (fun p1 w1 G1 L1 M1 C1 S1=>?_)
 refine Zb S1 C1 [Za t.s.name,v1,S t.s.key,v2,v3,S t.last] Zm U U U U U ?_
 refine Zr S1 XF U U U (Zbv S1.imm t _ (Zo t B1 (A1.mono L1) B2 (A2.mono L1) (A3.mono L1) B3)) (fun w2 G2 S2 L2=>?_)
 refine WL.split (fun (h1 : (Zu t) = true)=>?_) (fun (h1 : (Zu t) = false)=>?_)
 ·refine Zr S2 ZoO U U U (Zew S2.imm at_) (fun w3 G3 S3 L3=>?_)
  refine WL.split (fun (h2 : (Y1 at_) = true)=>?_) (fun (h2 : (Y1 at_) = false)=>?_)
  ·refine Zr S3 ZoO U U U (Zew S3.imm tx) (fun w4 G4 S4 L4=>?_)
   refine WL.split (fun (h3 : (Y1 tx) = true)=>?_) (fun (h3 : (Y1 tx) = false)=>?_)
   ·obtain ⟨hg9,N9,h89,_⟩:=ZY (by assumption : Zu t = true)
    have hgl:=@ZdU t.rows
    refine Z S4 (XC.drop 4 (C1.mono ((L2.trans L3).trans L4))) YK U U U ?_
    refine Z9 S4 ZoP U U U (ZfA S4.imm t.rows _ (A3.mono (((L1.trans L2).trans L3).trans L4)) hg9 (Zm0 h89) (Nat.le_trans N9 (by decide))) (fun w5 G5 r1 P1 S5 L5=>?_)
    have V1:=P1.bound
    refine Zl P1 Zbe U U ?_
    have S7:=S5.pad
    refine LP.go ft [] (fun m ρ1 w1=>∃ (k1 : Nat),∃ (v4 : Value) (o1 : OB),∃ (G6 : GH),m = (Yx t.rows).length - k1 ∧ G5.le G6 ∧ St w [] G G6 [o1] w1 ∧ ZS (ValE.slice 32) 24 31 G6 v4 (Zdd ((Yx t.rows).take k1) at_ tx) o1 ∧ FR ρ1 [(1,S at_),(2,S tx),(7,v4),(25,r1),(26,S (((Yx t.rows).length : Nat) : Int)),(27,S (k1 : Int))] ∧ k1 ≤ (Yx t.rows).length) _ ⟨0,(Ze),none,G5,U,(G5.le_refl),S7,(ZS.cast (ZS.nil (ValE.slice 32) 24 31 G5) (by rfl)),(Zq U),(by omega)⟩ ?_
    rintro m ρ1 w6 ⟨k1,v4,o1,G6,rfl,L6,S6,R1,F9,f1⟩
    refine F9.set ?_
    clear F9
    have hsl:=ZqO (Yx t.rows) k1 at_ tx
    refine Zp (k1 : Int) (((Yx t.rows).length : Nat) : Int) U U U (fun h4=>?_) (fun h4=>?_)
    ·refine WL.indexAddr (P1.mono L6) k1 (by omega) Zbe Qg U U U U (fun p2 x1 U1 E1=>?_)
     obtain ⟨D1,C2,R2⟩:=E1
     obtain ⟨v5,v6,rfl,A4,A5⟩:=ZaL R2
     refine Zb S6 C2 [v5,v6] Qg U U U U U ?_
     refine WL.alloc S6 Qg U U (fun b1 w7 N1 S8=>?_)
     refine Zi S8 0 [v5,v6] U U Qg U U (by simp only [ZA,A4.oneC,A5.oneC] <;> rfl) U U U (fun w9 S9=>?_)
     obtain ⟨G7,L7,C3,S10⟩:=S9.shutB N1
     have hok9:=ZgR hg9 (Nat.le_trans N9 (by decide)) (by assumption : (Yx t.rows)[k1]? = some _)
     refine Z S10 (XC.drop 1 C3) YK U U U ?_
     refine Z9 S10 ZsG U U U (ZhK S10.imm x1.t tx _ (A5.mono L7) hok9.1 hok9.2) (fun w10 G9 r2 P2 S11 L9=>?_)
     refine Zr S11 ZoH U U U (ZqH S11.imm (ZH x1.t tx) at_ _ P2 (Zc3 hok9.1 _) (Ztk hok9.1 _) (Nat.le_trans (Zd2 _ _) hok9.2)) (fun w11 G10 S12 L10=>?_)
     refine WL.split (fun (h5 : (Xx (ZH x1.t tx) at_) = true)=>?_) (fun (h5 : (Xx (ZH x1.t tx) at_) = false)=>?_)
     ·refine Z S12 (XC.drop 0 (C3.mono (L9.trans L10))) ZK U U U ?_
      refine Z9 S12 Zgf U U U (ZaE S12.imm x1.v _ (A4.mono ((L7.trans L9).trans L10))) (fun w12 G11 r3 P3 S13 L11=>?_)
      refine WL.buildSlice _ [(0,[r3])] [r3] S13 Zae U U U (by show [(0,(r3 : Value).cells.toList)] = _; simp only [P3.cells1] <;> rfl) (fun z hz=>by match z,hz with | [z0],_=>rfl) (fun b2 w13 N2 S14=>?_)
      refine WL.push (m:=([x1.v] : List (List Val))) Zae U U U (R1.mono (((L7.trans L9).trans L10).trans L11)) S14 1 U 0 _ _ _ _ _ U ⟨[r3],_,U,⟨_,U,P3⟩,U⟩ U (by have:=Zc; simp only [Zx]; omega) (by have:=Zc; simp only [Zx]; omega) U U U (fun v7 o2 w14 R3 S15=>?_)
      have S16:=S15.tail
      refine Zj k1 (by have:=Zc; omega) U U U ?_
      exact BK.mk' _ ⟨k1 + 1,v7,o2,G11,U,(L6.trans (((L7.trans L9).trans L10).trans L11)),S16,(ZS.cast R3 (by (exact (ZqN ‹_› ‹_›).symm))),(Zq U),(by omega)⟩ (show (Yx t.rows).length - (k1 + 1) < (Yx t.rows).length - k1 by omega)
     refine Zj k1 (by have:=Zc; omega) U U U ?_
     exact BK.mk' _ ⟨k1 + 1,v4,o1,G10,U,(L6.trans ((L7.trans L9).trans L10)),S12,(ZS.cast (R1.mono ((L7.trans L9).trans L10)) (by (exact (Zts ‹_› ‹_›).symm))),(Zq U),(by omega)⟩ (show (Yx t.rows).length - (k1 + 1) < (Yx t.rows).length - k1 by omega)
    obtain ⟨G12,L12,A6,S17⟩:=ZS.freeze R1 S6 0 U
    exact RT S17 U (Sl.cast A6 (by exact ZxI ‹_› ‹_› ‹_› (by omega)))
   exact RT S4 U (Sl.cast (Sl.nil (ValE.slice 32) 24 G4) (by exact ZxH ‹_›))
  exact RT S3 U (Sl.cast (Sl.nil (ValE.slice 32) 24 G3) (by exact ZxG ‹_›))
 exact RT S2 U (Sl.cast (Sl.nil (ValE.slice 32) 24 G2) (by exact ZxF ‹_›))
theorem Zzv {G : GH} {w : World} (hG : G.In w) (t : Table) (tx : Int) (ct : List Value) (hct : TableE.rep G t ct) : CL Tryz.prog (nat_lit 57) #[.agg ct.toArray,S tx] [] w G fun G' _ r=>Sl Zec 40 G' r (atH t tx):=by
 refine Zh ft [] Tryz.func57 U U ?_
 have hS:=St.start (X:=[]) hG
 obtain ⟨v1,v2,v3,rfl,B1,A1,B2,A2,A3,B3⟩:=Zy hct
 refine Zw [Za t.s.name,v1,S t.s.key,v2,v3,S t.last] _ hS U U U (fun p1 w1 G1 L1 M1 C1 S1=>?_)
 refine Zb S1 C1 [Za t.s.name,v1,S t.s.key,v2,v3,S t.last] Zm U U U U U ?_
 refine Zr S1 XF U U U (Zbv S1.imm t _ (Zo t B1 (A1.mono L1) B2 (A2.mono L1) (A3.mono L1) B3)) (fun w2 G2 S2 L2=>?_)
 refine WL.split (fun (h1 : (Zu t) = true)=>?_) (fun (h1 : (Zu t) = false)=>?_)
 ·refine Zr S2 ZoO U U U (Zew S2.imm tx) (fun w3 G3 S3 L3=>?_)
  refine WL.split (fun (h2 : (Y1 tx) = true)=>?_) (fun (h2 : (Y1 tx) = false)=>?_)
  ·obtain ⟨hg9,N9,h89,_⟩:=ZY (by assumption : Zu t = true)
   have hgl:=@ZdU t.rows
   refine Z S3 (XC.drop 4 (C1.mono (L2.trans L3))) YK U U U ?_
   refine Z9 S3 ZoP U U U (ZfA S3.imm t.rows _ (A3.mono ((L1.trans L2).trans L3)) hg9 (Zm0 h89) (Nat.le_trans N9 (by decide))) (fun w4 G4 r1 P1 S4 L4=>?_)
   have V1:=P1.bound
   refine Zl P1 Zbe U U ?_
   have S6:=S4.pad
   refine LP.go ft [] (fun m ρ1 w1=>∃ (k1 : Nat),∃ (v4 : Value) (o1 : OB),∃ (G5 : GH),m = (Yx t.rows).length - k1 ∧ G4.le G5 ∧ St w [] G G5 [o1] w1 ∧ ZS Zec 40 73 G5 v4 (ZbS ((Yx t.rows).take k1) tx) o1 ∧ FR ρ1 [(1,S tx),(5,v4),(20,r1),(21,S (((Yx t.rows).length : Nat) : Int)),(22,S (k1 : Int))] ∧ k1 ≤ (Yx t.rows).length) _ ⟨0,(Ze),none,G4,U,(G4.le_refl),S6,(ZS.cast (ZS.nil Zec 40 73 G4) (by rfl)),(Zq U),(by omega)⟩ ?_
   rintro m ρ1 w5 ⟨k1,v4,o1,G5,rfl,L5,S5,R1,F9,f1⟩
   refine F9.set ?_
   clear F9
   have hfl:=Zj1 (k:=k1) (tx:=tx) N9
   refine Zp (k1 : Int) (((Yx t.rows).length : Nat) : Int) U U U (fun h3=>?_) (fun h3=>?_)
   ·refine WL.indexAddr (P1.mono L5) k1 (by omega) Zbe Qg U U U U (fun p2 x1 U1 E1=>?_)
    obtain ⟨D1,C2,R2⟩:=E1
    obtain ⟨v5,v6,rfl,A4,A5⟩:=ZaL R2
    refine Zb S5 C2 [v5,v6] Qg U U U U U ?_
    refine WL.alloc S5 Qg U U (fun b1 w6 N1 S7=>?_)
    refine Zi S7 0 [v5,v6] U U Qg U U (by simp only [ZA,A4.oneC,A5.oneC] <;> rfl) U U U (fun w7 S8=>?_)
    obtain ⟨G6,L6,C3,S9⟩:=S8.shutB N1
    have hok9:=ZgR hg9 (Nat.le_trans N9 (by decide)) (by assumption : (Yx t.rows)[k1]? = some _)
    refine Z S9 (XC.drop 1 C3) YK U U U ?_
    refine Z9 S9 ZsG U U U (ZhK S9.imm x1.t tx _ (A5.mono L6) hok9.1 hok9.2) (fun w9 G7 r2 P2 S10 L7=>?_)
    have V2:=P2.bound
    refine Zl P2 Xe U U ?_
    refine LP.go ft [] (fun m ρ1 w1=>∃ (k2 : Nat),∃ (v7 : Value) (o2 : OB),∃ (G9 : GH),m = (ZH x1.t tx).length - k2 ∧ G7.le G9 ∧ St w [] G G9 [o2] w1 ∧ ZS Zec 40 73 G9 v7 (ZbS ((Yx t.rows).take k1) tx ++ ((ZH x1.t tx).take k2).map (Fact.mk x1.v)) o2 ∧ FR ρ1 [(1,S tx),(5,v7),(7, .pointer (some (⟨b1,0,none⟩ : Addr))),(20,r1),(21,S (((Yx t.rows).length : Nat) : Int)),(22,S (k1 : Int)),(29,r2),(30,S (((ZH x1.t tx).length : Nat) : Int)),(31,S (k2 : Int))] ∧ k2 ≤ (ZH x1.t tx).length) _ ⟨0,v4,o1,G7,U,(G7.le_refl),S10,(ZS.cast (R1.mono (L6.trans L7)) (by simp)),(Zq U),(by omega)⟩ ?_
    rintro m ρ1 w10 ⟨k2,v7,o2,G9,rfl,L9,S11,R3,F9,f2⟩
    refine F9.set ?_
    clear F9
    have htl:=Nat.le_trans (Zd2 x1.t tx) hok9.2
    refine Zp (k2 : Int) (((ZH x1.t tx).length : Nat) : Int) U U U (fun h4=>?_) (fun h4=>?_)
    ·refine WL.indexAddr (P2.mono L9) k2 (by omega) Xe Z2 U U U U (fun p3 x2 U2 E2=>?_)
     obtain ⟨D2,C4,R4⟩:=E2
     obtain ⟨rfl,B4,B5⟩:=ZI R4
     refine Zb S11 C4 [S x2.a,S x2.b] Z2 U U U U U ?_
     refine WL.alloc S11 Z2 U U (fun b2 w11 N2 S12=>?_)
     refine Zi S12 0 [S x2.a,S x2.b] U U Z2 U U U U U U (fun w12 S13=>?_)
     obtain ⟨G10,L10,C5,S14⟩:=S13.shutB N2
     refine dr [(3,true),(5,false),(6,false),(7,false),(8,false)] [(37,v5),(39, .agg #[S x2.a,S x2.b])] S14 ⟨fun _ hSw=>Z hSw (XC.drop 0 (C3.mono ((L7.trans L9).trans L10))) ZK U U U <| nu U U,fun _ hSw=>Zb hSw C5 [S x2.a,S x2.b] Z2 U U U U U <| nu U U,trivial⟩ (fun w13 S15=>?_)
     refine Z9 S15 Zgf U U U (ZaE S15.imm x1.v _ (A4.mono (((L6.trans L7).trans L9).trans L10))) (fun w14 G11 r3 P3 S16 L11=>?_)
     refine ⟨S16.down S15.le L11,?_⟩
     refine WL.build _ [(0,[r3]),(1,[S x2.a,S x2.b])] [r3,S x2.a,S x2.b] ZoB U ZzP U U (by show [(0,(r3 : Value).cells.toList),(1,(.agg #[S x2.a,S x2.b] : Value).cells.toList)] = _; simp only [P3.cells1] <;> rfl) U ?_
     refine WL.buildSlice _ [(0,[r3,S x2.a,S x2.b])] [r3,S x2.a,S x2.b] S16 ZwQ U U U U (fun z hz=>by match z,hz with | [z0,z1,z2],_=>rfl) (fun b3 w15 N3 S17=>?_)
     refine WL.push (m:=([(Fact.mk x1.v x2)] : List Fact)) ZwQ U U U (R3.mono (L10.trans L11)) S17 1 U 0 _ _ _ _ _ U ⟨[r3,S x2.a,S x2.b],_,U,(Zsm (Fact.mk x1.v x2) P3 B4 B5),U⟩ U (by have:=Zc; simp only [List.length_append,List.length_map,List.length_take,List.length_cons,List.length_nil]; omega) (by have:=Zc; simp only [List.length_append,List.length_map,List.length_take,List.length_cons,List.length_nil]; omega) U U U (fun v9 o3 w16 R5 S18=>?_)
     have S19:=S18.tail
     refine Zj k2 (by have:=Zc; omega) U U U ?_
     exact BK.mk' _ ⟨k2 + 1,v9,o3,G11,U,(L9.trans (L10.trans L11)),S19,(ZS.cast R5 (by (rw [Xi ‹_›,List.append_assoc]))),(Zq U),(by omega)⟩ (show (ZH x1.t tx).length - (k2 + 1) < (ZH x1.t tx).length - k2 by omega)
    refine Zj k1 (by have:=Zc; omega) U U U ?_
    exact BK.mk' _ ⟨k1 + 1,v7,o2,G9,U,(L5.trans ((L6.trans L7).trans L9)),S11,(ZS.cast R3 (by (rw [Znz ‹_›,Ztt (by omega)]))),(Zq U),(by omega)⟩ (show (Yx t.rows).length - (k1 + 1) < (Yx t.rows).length - k1 by omega)
   obtain ⟨G12,L12,A6,S20⟩:=ZS.freeze R1 S5 0 U
   exact RT S20 U (Sl.cast A6 (by exact Z0i ‹_› ‹_› (by omega)))
  exact RT S3 U (Sl.cast (Sl.nil Zec 40 G3) (by exact Z0h ‹_›))
 exact RT S2 U (Sl.cast (Sl.nil Zec 40 G2) (by exact Z0g ‹_›))
end Go.Civ
set_option linter.unusedVariables false
set_option linter.unusedSimpArgs false
set_option maxRecDepth 100000
set_option maxHeartbeats 4000000
namespace Go.Civ
open Go.Proofs
theorem ZtH {G : GH} {w : World} (hG : G.In w) (d : Nat) (c : Cond) (ns : List (List UInt8)) (l : List Val) (cc : List Value) (hcc : (YQ d).rep G c cc) (vn : Value) (hvn : Sl Enc.str 16 G vn ns) (vl : Value) (hvl : Sl ValE 32 G vl l) : CL Tryz.prog (nat_lit 197) #[.agg cc.toArray,vn,vl] [] w G fun _ _ r=>∃ r0 r1,r = .tuple #[r0,r1] ∧ r0 = .bool (X6 d c ns l) ∧ r1 = S (Zfv d c ns l):=by
 refine Zh ft [] Tryz.func197 U U ?_
 have hS:=St.start (X:=[]) hG
 obtain ⟨lv1,rfl,B1,B2,B3,B4,B5,B6,O1⟩:=Xo hcc
 refine Zw [S c.kind,Za c.col,Za c.oth,S c.v.k,S c.v.n,Za c.v.s,lv1] _ hS U U U (fun p1 w1 G1 L1 M1 C1 S1=>?_)
 have V1:=hvn.bound
 refine Zl (hvn.mono L1) Xy U U ?_
 have V2:=hvl.bound
 refine Zl (hvl.mono L1) Yv U U ?_
 refine Yr (ns.length : Int) (l.length : Int) U U U (fun h1=>?_) (fun h1=>?_)
 ·exact RT S1 U ⟨_,_,U,(congrArg Value.bool (by exact (ZeR (by first | exact .inl (by omega) | exact .inr (.inl (by omega)) | exact .inr (.inr ‹_›))).1.symm)),(congrArg (Value.int .i64) (by exact (ZeR (by first | exact .inl (by omega) | exact .inr (.inl (by omega)) | exact .inr (.inr ‹_›))).2.symm))⟩
 have V3:=hvn.bound
 refine Zl (hvn.mono L1) Xy U U ?_
 refine Xd (ns.length : Int) 100 U U U (fun h2=>?_) (fun h2=>?_)
 ·exact RT S1 U ⟨_,_,U,(congrArg Value.bool (by exact (ZeR (by first | exact .inl (by omega) | exact .inr (.inl (by omega)) | exact .inr (.inr ‹_›))).1.symm)),(congrArg (Value.int .i64) (by exact (ZeR (by first | exact .inl (by omega) | exact .inr (.inl (by omega)) | exact .inr (.inr ‹_›))).2.symm))⟩
 refine Zr S1 ZkZ U U U (Zlc S1.imm l _ (hvl.mono L1)) (fun w2 G2 S2 L2=>?_)
 refine WL.split (fun (h3 : (l.all Z4) = true)=>?_) (fun (h3 : (l.all Z4) = false)=>?_)
 ·have V4:=hvn.bound
  have j1:=(L1.trans L2)
  refine Zl (hvn.mono j1) Xy U U ?_
  have S4:=S2.pad
  refine LP.go ft [] (fun m ρ1 w1=>∃ (k1 : Nat),∃ (v1 : Value) (o1 : OB),∃ (G3 : GH),m = ns.length - k1 ∧ G2.le G3 ∧ St w [] G G3 [o1] w1 ∧ ZS ColE 24 130 G3 v1 (ZaM ns l k1) o1 ∧ FR ρ1 [(2,vl),(3,Zs p1),(8,v1),(27,vn),(28,S (ns.length : Int)),(29,S (k1 : Int))] ∧ k1 ≤ ns.length) _ ⟨0,(Ze),none,G2,U,(G2.le_refl),S4,(ZS.cast (ZS.nil ColE 24 130 G2) (by simp [ZaM])),(Zq U),(by omega)⟩ ?_
  rintro m ρ1 w3 ⟨k1,v1,o1,G3,rfl,L3,S3,R1,F9,f1⟩
  refine F9.set ?_
  clear F9
  have hcl8:=Zqq ns l k1
  refine Zp (k1 : Int) (ns.length : Int) U U U (fun h4=>?_) (fun h4=>?_)
  ·refine WL.indexAddr (hvn.mono (j1.trans L3)) k1 (by omega) Xy ZF U U U U (fun p2 x1 U1 E1=>?_)
   obtain ⟨D1,C2,R2⟩:=E1
   obtain ⟨rfl,B7⟩:=R2
   refine Z S3 C2 ZF U U U ?_
   refine WL.indexAddr (hvl.mono (j1.trans L3)) k1 (by omega) Yv Z6 U U U U (fun p3 x2 U2 E2=>?_)
   obtain ⟨D2,C3,R3⟩:=E2
   obtain ⟨rfl,B8,B9,B10⟩:=Yj R3
   refine Z S3 (XC.drop 0 C3) Zt U U U <| WL.build _ [(0,[Za x1]),(1,[S x2.k])] [Za x1,S x2.k] YX U ZoC U U U U ?_
   refine WL.buildSlice _ [(0,[Za x1,S x2.k])] [Za x1,S x2.k] S3 Zs2 U U U U (fun z hz=>by match z,hz with | [z0,z1],_=>rfl) (fun b1 w4 N1 S5=>?_)
   refine WL.push (m:=([(Col.mk x1 x2.k)] : List Col)) Zs2 U U U R1 S5 1 U 0 _ _ _ _ _ U ⟨[Za x1,S x2.k],_,U,(ZeJ (Col.mk x1 x2.k) B7 B8),U⟩ U (by have:=Zc; simp only [Zx]; omega) (by have:=Zc; simp only [Zx]; omega) U U U (fun v2 o2 w5 R4 S6=>?_)
   have S7:=S6.tail
   refine Zj k1 (by have:=Zc; omega) U U U ?_
   exact BK.mk' _ ⟨k1 + 1,v2,o2,G3,U,L3,S7,(ZS.cast R4 (by (exact (ZoY ‹_› ‹_›).symm))),(Zq U),(by omega)⟩ (show ns.length - (k1 + 1) < ns.length - k1 by omega)
  have hcn9 : ZaM ns l k1 = Zak ns l:=Zqr (by omega)
  refine Zb S3 (C1.mono (L2.trans L3)) [S c.kind,Za c.col,Za c.oth,S c.v.k,S c.v.n,Za c.v.s,lv1] XI U U U U U ?_
  obtain ⟨G4,L4,A1,S8⟩:=ZS.freeze R1 S3 0 U
  have j2:=((j1.trans L3).trans L4)
  refine Zr S8 ZuA U U U (ZnW S8.imm _ c (ZaM ns l k1) _ ((YQ _).mono j2 hcc) _ A1) (fun w6 G5 S9 L5=>?_)
  refine Yr (YE d c (ZaM ns l k1)) 0 U U U (fun h5=>?_) (fun h5=>?_)
  ·exact RT S9 U ⟨_,_,U,(congrArg Value.bool (by exact (Zml hcn9 (Zld (by omega) (by omega) ‹_›) ‹_›).1.symm)),(congrArg (Value.int .i64) (by exact (Zml hcn9 (Zld (by omega) (by omega) ‹_›) ‹_›).2.symm))⟩
  have hwt:=Zpa (by assumption : YE d c (ZaM ns l k1) = 0)
  have hcl9 : l.length = (ZaM ns l k1).length:=by rw [hcn9,ZoZ (by omega)]
  refine Zb S9 (C1.mono (((L2.trans L3).trans L4).trans L5)) [S c.kind,Za c.col,Za c.oth,S c.v.k,S c.v.n,Za c.v.s,lv1] XI U U U U U ?_
  refine Zr S9 ZgI U U U (Zrm _ S9.imm c (ZaM ns l k1) l _ ((YQ _).mono (j2.trans L5) hcc) _ (A1.mono L5) _ (hvl.mono (j2.trans L5)) hwt.1 hwt.2 hcl9) (fun w7 G6 S10 L6=>?_)
  exact RT S10 U ⟨_,_,U,(congrArg Value.bool (by exact (ZnG hcn9 (Zld (by omega) (by omega) ‹_›) ‹_›).1.symm)),(congrArg (Value.int .i64) (by exact (ZnG hcn9 (Zld (by omega) (by omega) ‹_›) ‹_›).2.symm))⟩
 exact RT S2 U ⟨_,_,U,(congrArg Value.bool (by exact (ZeR (by first | exact .inl (by omega) | exact .inr (.inl (by omega)) | exact .inr (.inr ‹_›))).1.symm)),(congrArg (Value.int .i64) (by exact (ZeR (by first | exact .inl (by omega) | exact .inr (.inl (by omega)) | exact .inr (.inr ‹_›))).2.symm))⟩
end Go.Civ
namespace Go.Civ
open Go.RowKit
set_option linter.unusedVariables false
theorem Zwt {out : List Int} {x u : Int} {k : Nat} (h : out[k]? = some u) (h1 : x < u) : ∀ w,out[k]? = some w → x < w:=fun w hw=>by rw [h] at hw; obtain rfl:=Option.some.inj hw; exact h1
theorem Zud {l : VV} {k K : Nat} {x y : List Val} (h : ∀ i,i < k → ∀ x y,l[i]? = some x → l[i + 1]? = some y → decide (x.take K = y.take K) = false) (hx : l[k]? = some x) (hy : l[k + 1]? = some y) (hxy : decide (x.take K = y.take K) = false) :
  ∀ i,i < k + 1 → ∀ x y,l[i]? = some x → l[i + 1]? = some y → decide (x.take K = y.take K) = false:=fun i hi a b ha hb=>by
 by_cases e : i = k
 ·subst e
  rw [hx] at ha; rw [hy] at hb
  obtain rfl:=Option.some.inj ha
  obtain rfl:=Option.some.inj hb
  exact hxy
 ·exact h i (by omega) a b ha hb
theorem Zog {l : VV} {j K : Nat} {v w : List Val} (h1 : ∀ i,i < j → ∀ x y,l[i]? = some x → l[i + 1]? = some y → decide (x.take K = y.take K) = false) (h2 : l[j]? = some v) (h3 : l[j + 1]? = some w) (h4 : decide (v.take K = w.take K) = true) :
  v = (Ym K l).getD [] ∧ true = (Ym K l).isSome:=by rw [ZmQ h1 h2 h3 h4]; exact ⟨rfl,rfl⟩
theorem Zoh {l : VV} {j K : Nat} (h1 : ∀ i,i < j → ∀ x y,l[i]? = some x → l[i + 1]? = some y → decide (x.take K = y.take K) = false) (h2 : l.length ≤ j + 1) :
  [] = (Ym K l).getD [] ∧ false = (Ym K l).isSome:=by rw [ZmR h1 h2]; exact ⟨rfl,rfl⟩
theorem ZpC {x : Int} (h1 : -62135596800 ≤ x) (h2 : x ≤ 253402300800) : Z0 x ∧ x ≤ 253402300800:=⟨by constructor <;> omega,h2⟩
section
variable {l o : List HRow} {k : Nat} {x fr : Int}
theorem ZdG (hg : Z8 l) {r : HRow} (hr : r ∈ l) : (Z0 r.r.d.a ∧ r.r.d.a ≤ 253402300800) ∧ (Z0 r.r.d.b ∧ r.r.d.b ≤ 253402300800) ∧ (Z0 r.r.x.a ∧ r.r.x.a ≤ 253402300800) ∧ (Z0 r.r.x.b ∧ r.r.x.b ≤ 253402300800):=by
 have h:=(Yk (hg r hr)).2
 unfold ZN at h
 simp at h
 exact ⟨ZpC (by omega) (by omega),ZpC (by omega) (by omega),ZpC (by omega) (by omega),ZpC (by omega) (by omega)⟩
theorem ZxZ (hg : Z8 l) (h : (Yc (l.map (fun (r : HRow)=>r.r.x.a)))[k]? = some x) : Z0 x ∧ x ≤ 253402300800:=by
 obtain ⟨r,hr,rfl⟩:=List.mem_map.1 (Zbw.1 (List.mem_of_getElem? h))
 exact (ZdG hg hr).2.2.1
theorem Zya (hg : Z8 l) (h : (Yc (l.map (fun (r : HRow)=>r.r.d.a)))[k]? = some x) : Z0 x ∧ x ≤ 253402300800:=by
 obtain ⟨r,hr,rfl⟩:=List.mem_map.1 (Zbw.1 (List.mem_of_getElem? h))
 exact (ZdG hg hr).1
end
section
variable {t : Table} {x y : Int} {k : Nat}
theorem ZkD (hv : Zu t = true) (y x : Int) : ∀ v ∈ ZR t.rows y x,t.s.key ≤ v.length:=fun v h=>by
 rw [← Zbt (ZY hv).1,Zau (ZY hv).1] at h
 obtain ⟨r,hr,rfl,_⟩:=h
 exact ZgZ hv r hr
theorem Zn3 {K : Nat} {l : VV} {x y : Int} (h : (Ym K l).isSome = false) : ((Ym K l).map fun v=>Pt.mk x y v) = none:=by
 cases e : Ym K l with
 | none=>rfl
 | some v=>rw [e] at h; cases h
theorem ZrM {K : Nat} {l : List HRow} {ys : List Int} {j : Nat} (h : ∀ i,i < j → ∀ y,ys[i]? = some y → ((Ym K (ZR l y x)).map fun v=>Pt.mk x y v) = none) (hj : ys.length ≤ j) : ZeV K l ys x = none:=ZfD h hj
theorem Zoi {i j : Nat} (h1 : ∀ i',i' < i → ∀ x,(Yc (t.rows.map (fun (r : HRow)=>r.r.x.a)))[i']? = some x → ZeV t.s.key.toNat t.rows (Yc (t.rows.map (fun (r : HRow)=>r.r.d.a))) x = none) (hx : (Yc (t.rows.map (fun (r : HRow)=>r.r.x.a)))[i]? = some x)
  (h2 : ∀ i',i' < j → ∀ y,(Yc (t.rows.map (fun (r : HRow)=>r.r.d.a)))[i']? = some y → ((Ym t.s.key.toNat (ZR t.rows y x)).map fun v=>Pt.mk x y v) = none) (hy : (Yc (t.rows.map (fun (r : HRow)=>r.r.d.a)))[j]? = some y)
  (h : (Ym t.s.key.toNat (ZR t.rows y x)).isSome = true) : ZZ (some (Pt.mk x y ((Ym t.s.key.toNat (ZR t.rows y x)).getD []))) = ZZ (XU t) ∧ true = (XU t).isSome:=by
 cases e : Ym t.s.key.toNat (ZR t.rows y x) with
 | none=>rw [e] at h; cases h
 | some v=>
  have hG : ZeV t.s.key.toNat t.rows (Yc (t.rows.map (fun (r : HRow)=>r.r.d.a))) x = some ⟨x,y,v⟩:=ZdY h2 hy (by rw [e]; rfl)
  have : XU t = some ⟨x,y,v⟩:=ZdY h1 hx hG
  rw [this]; exact ⟨rfl,rfl⟩
theorem Zoj {i : Nat} (h1 : ∀ i',i' < i → ∀ x,(Yc (t.rows.map (fun (r : HRow)=>r.r.x.a)))[i']? = some x → ZeV t.s.key.toNat t.rows (Yc (t.rows.map (fun (r : HRow)=>r.r.d.a))) x = none) (hi : (Yc (t.rows.map (fun (r : HRow)=>r.r.x.a))).length ≤ i) :
  HRow.mk [] (Rect.mk (Span.mk 0 0) (Span.mk 0 0)) = ZZ (XU t) ∧ false = (XU t).isSome:=by
 have : XU t = none:=ZfD h1 hi
 rw [this]; exact ⟨rfl,rfl⟩
end
end Go.Civ
set_option linter.unusedVariables false
set_option linter.unusedSimpArgs false
set_option maxRecDepth 100000
set_option maxHeartbeats 4000000
namespace Go.Civ
open Go.Proofs
theorem ZkF {G : GH} {w : World} (hG : G.In w) (x : Link) (v : List Val) (y : HRow) (cx : List Value) (hcx : Zez.rep G x cx) (vv : Value) (hvv : Sl ValE 32 G vv v) (cr : List Value) (hcr : HRowE.rep G y cr) (ka : ∀ c ∈ x.f.cols,0 ≤ Xw (x.t.s.cols.map Col.name) c) (kb : x.t.s.cols.length ≤ v.length) (kc : x.f.cols.length ≤ y.v.length) : CL Tryz.prog (nat_lit 144) #[.agg cx.toArray,vv, .agg cr.toArray] [] w G fun _ _ r=>r = .bool (mtB x.t.s x.f.cols v y.v):=by
 refine Zh ft [] Tryz.func144 U U ?_
 have hS:=St.start (X:=[]) hG
 obtain ⟨v1,v2,v3,v4,v5,v6,v7,rfl,B1,A1,B2,A2,A3,B3,B4,A4,B5,A5,A6,B6,A7,B7⟩:=ZdC hcx
 obtain ⟨v9,rfl,A8,B8,B9,B10,Y6⟩:=Z7 hcr
 refine Zw [Za x.t.s.name,v1,S x.t.s.key,v2,v3,S x.t.last,Za x.o.s.name,v4,S x.o.s.key,v5,v6,S x.o.last,v7,Za x.f.table] _ hS U U U (fun p1 w1 G1 L1 M1 C1 S1=>?_)
 refine Zw [v9,S y.r.d.a,S y.r.d.b,S y.r.x.a,S y.r.x.b] _ S1 U U U (fun p2 w2 G2 L2 M2 C2 S2=>?_)
 refine Z S2 (XC.drop 0 (XC.drop 12 (C1.mono L2))) ZaH U U U ?_
 have V1:=A7.bound
 have j1:=(L1.trans L2)
 refine Zl (A7.mono j1) Xy U U ?_
 refine LP.go ft [] (fun m ρ1 w1=>∃ (k1 : Nat),∃ (G3 : GH),m = x.f.cols.length - k1 ∧ G2.le G3 ∧ St w [] G G3 [] w1 ∧ FR ρ1 [(1,vv),(3,Zs p1),(5,Zs p2),(11,v7),(12,S (x.f.cols.length : Int)),(13,S (k1 : Int))] ∧ k1 ≤ x.f.cols.length ∧ ∀ j,j < k1 → ∀ c,x.f.cols[j]? = some c → y.v[j]? = some (Zcs v (Xw (x.t.s.cols.map Col.name) c))) _ ⟨0,G2,U,(G2.le_refl),S2,(Zq U),(by omega),(by intro j hj; omega)⟩ ?_
 rintro m ρ1 w3 ⟨k1,G3,rfl,L3,S3,F9,f1,f2⟩
 refine F9.set ?_
 clear F9
 refine Zp (k1 : Int) (x.f.cols.length : Int) U U U (fun h1=>?_) (fun h1=>?_)
 ·have j2:=(j1.trans L3)
  refine WL.indexAddr (A7.mono j2) k1 (by omega) Xy ZF U U U U (fun p3 x1 U1 E1=>?_)
  obtain ⟨D1,C3,R1⟩:=E1
  obtain ⟨rfl,YU⟩:=R1
  refine Z S3 C3 ZF U U U ?_
  have hix9:=ka x1 (List.mem_of_getElem? U1)
  have hlt9:=ZiY hix9
  obtain ⟨p4,x2,U2,E2,W1⟩:=Sl.at (hvv.mono j2) (((Xw (x.t.s.cols.map Col.name) x1)).toNat) (by omega)
  obtain ⟨D2,C4,R2⟩:=E2
  obtain ⟨rfl,Xa,XF,Xz⟩:=Yj R2
  obtain ⟨p5,x3,U3,E3,W2⟩:=Sl.at (A8.mono j2) k1 (by omega)
  obtain ⟨D3,C5,R3⟩:=E3
  obtain ⟨rfl,QK,XG,XY⟩:=Yj R3
  rcases Classical.em (x2 = x3) with h2 | h2
  ·refine dr [] [(21, .agg #[Za x.t.s.name,v1,S x.t.s.key,v2]),(23,S (Xw (x.t.s.cols.map Col.name) x1)),(24,Zs p4),(25, .agg #[S x2.k,S x2.n,Za x2.s]),(27,v9),(29,Zs p5),(30, .agg #[S x3.k,S x3.n,Za x3.s]),(31, .bool false)] S3 ⟨fun _ hSw=>Zb hSw (XC.drop 0 (XC.drop 0 (C1.mono (L2.trans L3)))) [Za x.t.s.name,v1,S x.t.s.key,v2] Qo U U U U U <| nu U U,fun _ hSw=>Z3 hSw Zi0 U U U (ZdW hSw.imm x.t.s x1 _ (Yo x.t.s B1 (A1.mono j2) B2 (A2.mono j2))) U,fun _=>Zg (((Xw (x.t.s.cols.map Col.name) x1)).toNat) W1 Yv Z6 U U U (congrArg (Value.int .i64) (Int.toNat_of_nonneg (by omega)).symm) <| nu U U,fun _ hSw=>Zb hSw C4 [S x2.k,S x2.n,Za x2.s] Z6 U U U U U <| nu U U,fun _ hSw=>Z hSw (XC.drop 0 (C2.mono L3)) ZK U U U <| nu U U,fun _=>Zg k1 W2 Yv Z6 U U U U <| nu U U,fun _ hSw=>Zb hSw C5 [S x3.k,S x3.n,Za x3.s] Z6 U U U U U <| nu U U,fun _=>XV false (QC x2 x3) Zbf (by simp [h2]) U U U <| nu U U,trivial⟩ (fun w4 S4=>?_)
   refine Zj k1 (by have:=Zc; omega) U U U ?_
   exact BK.mk' _ ⟨k1 + 1,G3,U,L3,S4,(Zq U),(by omega),(by exact Zws ‹_› ‹_› ‹_› ‹_› ‹_›)⟩ (show x.f.cols.length - (k1 + 1) < x.f.cols.length - k1 by omega)
  refine dr [] [(21, .agg #[Za x.t.s.name,v1,S x.t.s.key,v2]),(23,S (Xw (x.t.s.cols.map Col.name) x1)),(24,Zs p4),(25, .agg #[S x2.k,S x2.n,Za x2.s]),(27,v9),(29,Zs p5),(30, .agg #[S x3.k,S x3.n,Za x3.s]),(31, .bool true)] S3 ⟨fun _ hSw=>Zb hSw (XC.drop 0 (XC.drop 0 (C1.mono (L2.trans L3)))) [Za x.t.s.name,v1,S x.t.s.key,v2] Qo U U U U U <| nu U U,fun _ hSw=>Z3 hSw Zi0 U U U (ZdW hSw.imm x.t.s x1 _ (Yo x.t.s B1 (A1.mono j2) B2 (A2.mono j2))) U,fun _=>Zg (((Xw (x.t.s.cols.map Col.name) x1)).toNat) W1 Yv Z6 U U U (congrArg (Value.int .i64) (Int.toNat_of_nonneg (by omega)).symm) <| nu U U,fun _ hSw=>Zb hSw C4 [S x2.k,S x2.n,Za x2.s] Z6 U U U U U <| nu U U,fun _ hSw=>Z hSw (XC.drop 0 (C2.mono L3)) ZK U U U <| nu U U,fun _=>Zg k1 W2 Yv Z6 U U U U <| nu U U,fun _ hSw=>Zb hSw C5 [S x3.k,S x3.n,Za x3.s] Z6 U U U U U <| nu U U,fun _=>XV true (QC x2 x3) Zbf (by simp [h2]) U U U <| nu U U,trivial⟩ (fun w5 S5=>?_)
  exact RB S5 U (by exact Zzz ‹_› ‹_› ‹_› ‹_›)
 exact RB S3 U (by exact ZxX (by omega) ‹_› (by omega))
theorem Zyi {G : GH} {w : World} (hG : G.In w) (x : Link) (v : List Val) (d : Span) (tx : Int) (cx : List Value) (hcx : Zez.rep G x cx) (vv : Value) (hvv : Sl ValE 32 G vv v) (cd : List Value) (hcd : SpanE.rep G d cd) (hk : LinkOk x) (hlen : x.t.s.cols.length ≤ v.length) (hd : ZN d = true) : CL Tryz.prog (nat_lit 93) #[.agg cx.toArray,vv, .agg cd.toArray,S tx] [] w G fun G' _ r=>Sl SpanE 16 G' r (QE (lM x) x.o.rows v d tx):=by
 refine Zh ft [] Tryz.func93 U U ?_
 have hS:=St.start (X:=[]) hG
 obtain ⟨v1,v2,v3,v4,v5,v6,v7,rfl,B1,A1,B2,A2,A3,B3,B4,A4,B5,A5,A6,B6,A7,B7⟩:=ZdC hcx
 obtain ⟨rfl,B8,B9⟩:=ZI hcd
 refine Zw [Za x.t.s.name,v1,S x.t.s.key,v2,v3,S x.t.last,Za x.o.s.name,v4,S x.o.s.key,v5,v6,S x.o.last,v7,Za x.f.table] _ hS U U U (fun p1 w1 G1 L1 M1 C1 S1=>?_)
 refine Zw [S d.a,S d.b] _ S1 U U U (fun p2 w2 G2 L2 M2 C2 S2=>?_)
 obtain ⟨hg9,N9,h89,E9⟩:=ZY hk.o
 refine Z S2 (XC.drop 4 (XC.drop 6 (C1.mono L2))) YK U U U ?_
 have V1:=A6.bound
 have j1:=(L1.trans L2)
 refine Zl (A6.mono j1) Yn U U ?_
 have S4:=S2.pad
 refine LP.go ft [] (fun m ρ1 w1=>∃ (k1 : Nat),∃ (v9 : Value) (o1 : OB),∃ (G3 : GH),m = x.o.rows.length - k1 ∧ G2.le G3 ∧ St w [] G G3 [o1] w1 ∧ ZS SpanE 16 33 G3 v9 (Zby (lM x) (x.o.rows.take k1) v tx) o1 ∧ FR ρ1 [(1,vv),(3,S tx),(4,Zs p1),(6,Zs p2),(9,v9),(18,v6),(19,S (x.o.rows.length : Int)),(20,S (k1 : Int))] ∧ k1 ≤ x.o.rows.length) _ ⟨0,(Ze),none,G2,U,(G2.le_refl),S4,(ZS.cast (ZS.nil SpanE 16 33 G2) (by rfl)),(Zq U),(by omega)⟩ ?_
 rintro m ρ1 w3 ⟨k1,v9,o1,G3,rfl,L3,S3,R1,F9,f1⟩
 refine F9.set ?_
 clear F9
 have hcl:=Zna (M:=lM x) x.o.rows v tx k1
 refine Zp (k1 : Int) (x.o.rows.length : Int) U U U (fun h1=>?_) (fun h1=>?_)
 ·have j2:=(j1.trans L3)
  refine WL.indexAddr (A6.mono j2) k1 (by omega) Yn Zz U U U U (fun p3 x1 U1 E1=>?_)
  obtain ⟨D1,C3,R2⟩:=E1
  obtain ⟨v10,rfl,A8,B10,Y6,YU,Xa⟩:=Z7 R2
  refine Zb S3 C3 [v10,S x1.r.d.a,S x1.r.d.b,S x1.r.x.a,S x1.r.x.b] Zz U U U U U ?_
  refine WL.alloc S3 Zz U U (fun b1 w4 N1 S5=>?_)
  refine Zi S5 0 [v10,S x1.r.d.a,S x1.r.d.b,S x1.r.x.a,S x1.r.x.b] U U Zz U U (by simp only [ZA,A8.oneC] <;> rfl) U U U (fun w5 S6=>?_)
  obtain ⟨G4,L4,C4,S7⟩:=S6.shutB N1
  refine Zb S7 (XC.drop 2 (XC.drop 1 C4)) [S x1.r.x.a,S x1.r.x.b] Z2 U U U U U ?_
  refine Zr S7 Zaz U U U (Za0 S7.imm x1.r.x tx _ (Z1 x1.r.x YU Xa)) (fun w6 G5 S8 L5=>?_)
  refine WL.split (fun (h2 : (XX tx x1.r.x) = true)=>?_) (fun (h2 : (XX tx x1.r.x) = false)=>?_)
  ·refine Zb S8 (C1.mono (((L2.trans L3).trans L4).trans L5)) [Za x.t.s.name,v1,S x.t.s.key,v2,v3,S x.t.last,Za x.o.s.name,v4,S x.o.s.key,v5,v6,S x.o.last,v7,Za x.f.table] Zcu U U U U U <| Zb S8 (C4.mono L5) [v10,S x1.r.d.a,S x1.r.d.b,S x1.r.x.a,S x1.r.x.b] Zz U U U U U ?_
   have j3:=((j2.trans L4).trans L5)
   have j4:=(L4.trans L5)
   refine Zr S8 Zu5 U U U (ZkF S8.imm x v x1 _ (ZcV x B1 (A1.mono j3) B2 (A2.mono j3) (A3.mono j3) B3 B4 (A4.mono j3) B5 (A5.mono j3) (A6.mono j3) B6 (A7.mono j3) B7) _ (hvv.mono j3) _ (ZT x1 (A8.mono j4) B10 Y6 YU Xa) hk.cols hlen (hk.olen (List.mem_of_getElem? (by assumption : x.o.rows[k1]? = some _)))) (fun w7 G6 S9 L6=>?_)
   refine WL.split (fun (h3 : (mtB x.t.s x.f.cols v x1.v) = true)=>?_) (fun (h3 : (mtB x.t.s x.f.cols v x1.v) = false)=>?_)
   ·refine Zb S9 (XC.drop 0 (XC.drop 1 (C4.mono (L5.trans L6)))) [S x1.r.d.a,S x1.r.d.b] Z2 U U U U U ?_
    refine WL.buildSlice _ [(0,[S x1.r.d.a,S x1.r.d.b])] [S x1.r.d.a,S x1.r.d.b] S9 YR U U U U (fun z hz=>by match z,hz with | [z0,z1],_=>rfl) (fun b2 w9 N2 S10=>?_)
    refine WL.push (m:=([x1.r.d] : List Span)) YR U U U (R1.mono (j4.trans L6)) S10 1 U 0 _ _ _ _ _ U ⟨[S x1.r.d.a,S x1.r.d.b],_,U,(Z1 x1.r.d B10 Y6),U⟩ U (by have:=Zc; simp only [Zx]; omega) (by have:=Zc; simp only [Zx]; omega) U U U (fun v11 o2 w10 R3 S11=>?_)
    have S12:=S11.tail
    refine Zj k1 (by have:=Zc; omega) U U U ?_
    exact BK.mk' _ ⟨k1 + 1,v11,o2,G6,U,(L3.trans (j4.trans L6)),S12,(ZS.cast R3 (by (exact (ZtX ‹_› ‹_› ‹_›).symm))),(Zq U),(by omega)⟩ (show x.o.rows.length - (k1 + 1) < x.o.rows.length - k1 by omega)
   refine Zj k1 (by have:=Zc; omega) U U U ?_
   exact BK.mk' _ ⟨k1 + 1,v9,o1,G6,U,(L3.trans (j4.trans L6)),S9,(ZS.cast (R1.mono (j4.trans L6)) (by (exact (Zoe ‹_› (by first | exact .inl ‹_› | exact .inr ‹_›)).symm))),(Zq U),(by omega)⟩ (show x.o.rows.length - (k1 + 1) < x.o.rows.length - k1 by omega)
  refine Zj k1 (by have:=Zc; omega) U U U ?_
  exact BK.mk' _ ⟨k1 + 1,v9,o1,G5,U,(L3.trans (L4.trans L5)),S8,(ZS.cast (R1.mono (L4.trans L5)) (by (exact (Zoe ‹_› (by first | exact .inl ‹_› | exact .inr ‹_›)).symm))),(Zq U),(by omega)⟩ (show x.o.rows.length - (k1 + 1) < x.o.rows.length - k1 by omega)
 obtain ⟨G7,L7,A9,S13⟩:=ZS.freeze R1 S3 0 U
 refine Z9 S13 Zu4 U U U (Zmz S13.imm (Zby (lM x) (x.o.rows.take k1) v tx) _ A9 (by rw [List.take_of_length_le (by omega)]; exact Zey hg9) (by omega)) ?_
 rintro w11 G9 _ ⟨r2,_,rfl,A10,rfl⟩ S14 L9
 refine Zb S14 (C2.mono ((L3.trans L7).trans L9)) [S d.a,S d.b] Z2 U U U U U ?_
 refine WL.buildSlice _ [(0,[S d.a,S d.b])] [S d.a,S d.b] S14 YR U U U U (fun z hz=>by match z,hz with | [z0,z1],_=>rfl) (fun b3 w12 N3 S15=>?_)
 obtain ⟨G10,L10,A11,S16⟩:=St.sealSl (E:=SpanE) (by_:=16) (l:=([d] : List Span)) S15 N3 ⟨[S d.a,S d.b],_,U,(Z1 d B8 B9),U⟩ U (by simp [reach]) (by simp [reach])
 refine Z9 S16 ZsD U U U (Zjy S16.imm [d] (Zai (Zby (lM x) (x.o.rows.take k1) v tx)) _ A11 _ (A10.mono L10) (ZcR (YG hd)) (Q7 (fun s hs=>YG (Zey (fun r hr=>hg9 r (List.mem_of_mem_take hr)) s hs))).can (by intro s hs; rw [List.mem_singleton.1 hs]; exact Zcg hd) (fun s hs=>Zcg (ZiA (Zey (fun r hr=>hg9 r (List.mem_of_mem_take hr))) s hs)) (by simp) (Nat.le_trans Zgb (by omega))) ?_
 rintro w13 G11 _ ⟨r5,_,rfl,A12,rfl⟩ S17 L11
 exact RT S17 U (Sl.cast A12 (by rw [List.take_of_length_le (by omega)]; rfl))
theorem ZrY {G : GH} {w : World} (hG : G.In w) (a b : List (List UInt8)) (va : Value) (hva : Sl Enc.str 16 G va a) (vb : Value) (hvb : Sl Enc.str 16 G vb b) : CL Tryz.prog (nat_lit 143) #[va,vb] [] w G fun _ _ r=>r = .bool (decide (a = b)):=by
 refine Zh ft [] Tryz.func143 U U ?_
 have hS:=St.start (X:=[]) hG
 have V1:=hva.bound
 refine Zl hva Xy U U ?_
 have V2:=hvb.bound
 refine Zl hvb Xy U U ?_
 refine Yr (a.length : Int) (b.length : Int) U U U (fun h1=>?_) (fun h1=>?_)
 ·exact RB hS U (by rw [← XE]; exact (Qa (by omega)).symm)
 have V3:=hva.bound
 refine Zl hva Xy U U ?_
 refine LP.go ft [] (fun m ρ1 w1=>∃ (k1 : Nat),∃ (G1 : GH),m = a.length - k1 ∧ G.le G1 ∧ St w [] G G1 [] w1 ∧ FR ρ1 [(0,va),(1,vb),(12,S (a.length : Int)),(13,S (k1 : Int))] ∧ k1 ≤ a.length ∧ ∀ j,j < k1 → ∀ x y,a[j]? = some x → b[j]? = some y → decide (x = y) = true) _ ⟨0,G,U,(G.le_refl),hS,(Zq U),(by omega),(by intro j hj; omega)⟩ ?_
 rintro m ρ1 w1 ⟨k1,G1,rfl,L1,S1,F9,f1,f2⟩
 refine F9.set ?_
 clear F9
 refine Zp (k1 : Int) (a.length : Int) U U U (fun h2=>?_) (fun h2=>?_)
 ·obtain ⟨p1,x1,U1,E1,W1⟩:=Sl.at (hva.mono L1) k1 (by omega)
  obtain ⟨D1,C1,R1⟩:=E1
  obtain ⟨rfl,B1⟩:=R1
  obtain ⟨p2,x2,U2,E2,W2⟩:=Sl.at (hvb.mono L1) k1 (by omega)
  obtain ⟨D2,C2,R2⟩:=E2
  obtain ⟨rfl,B2⟩:=R2
  rcases Classical.em (x1 = x2) with h3 | h3
  ·refine dr [] [(18,Zs p1),(19,Za x1),(22,Zs p2),(23,Za x2),(24, .bool false)] S1 ⟨fun _=>Zg k1 W1 Xy ZF U U U U <| nu U U,fun _ hSw=>Z hSw C1 ZF U U U <| nu U U,fun _=>Zg k1 W2 Xy ZF U U U U <| nu U U,fun _ hSw=>Z hSw C2 ZF U U U <| nu U U,fun _=>YF .neq U x1 x2 false (by simp [h3,SCmp.b]) U U U <| nu U U,trivial⟩ (fun w2 S2=>?_)
   refine Zj k1 (by have:=Zc; omega) U U U ?_
   exact BK.mk' _ ⟨k1 + 1,G1,U,L1,S2,(Zq U),(by omega),(by exact QT ‹_› ‹_› ‹_› (by simp_all))⟩ (show a.length - (k1 + 1) < a.length - k1 by omega)
  refine dr [] [(18,Zs p1),(19,Za x1),(22,Zs p2),(23,Za x2),(24, .bool true)] S1 ⟨fun _=>Zg k1 W1 Xy ZF U U U U <| nu U U,fun _ hSw=>Z hSw C1 ZF U U U <| nu U U,fun _=>Zg k1 W2 Xy ZF U U U U <| nu U U,fun _ hSw=>Z hSw C2 ZF U U U <| nu U U,fun _=>YF .neq U x1 x2 true (by simp [h3,SCmp.b]) U U U <| nu U U,trivial⟩ (fun w3 S3=>?_)
  exact RB S3 U (by rw [← XE]; exact (Q6 (f:=fun (x y : List UInt8)=>decide (x = y)) ‹_› ‹_› (by simp_all)).symm)
 exact RB S1 U (by rw [← XE]; exact (Qr (by omega) ‹_› (by omega)).symm)
theorem ZrZ {G : GH} {w : World} (hG : G.In w) (l : List Foreign) (pf : Foreign → Bool) (vl : Value) (hvl : Sl ForeignE 40 G vl l) (fid : Nat) (fcap : Array Value) (hf : FnB Tryz.prog (Is ForeignE) fid fcap G (fun x=>x ∈ l) pf) : CL Tryz.prog (nat_lit 191) #[vl, .func (.func fid) #[] fcap] [] w G fun _ _ r=>r = S (Qi pf l):=by
 refine Zh ft [] Tryz.func191 U U ?_
 have hS:=St.start (X:=[]) hG
 have V1:=hvl.bound
 refine Zl hvl ZaZ U U ?_
 refine LP.go ft [] (fun m ρ1 w1=>∃ (k1 : Nat),∃ (G1 : GH),m = l.length - k1 ∧ G.le G1 ∧ St w [] G G1 [] w1 ∧ FR ρ1 [(0,vl),(1, .func (.func fid) #[] fcap),(7,S (l.length : Int)),(8,S (k1 : Int))] ∧ k1 ≤ l.length ∧ ∀ j,j < k1 → ∀ x,l[j]? = some x → pf x = false) _ ⟨0,G,U,(G.le_refl),hS,(Zq U),(by omega),(by intro j hj; omega)⟩ ?_
 rintro m ρ1 w1 ⟨k1,G1,rfl,L1,S1,F9,f1,f2⟩
 refine F9.set ?_
 clear F9
 refine Zp (k1 : Int) (l.length : Int) U U U (fun h1=>?_) (fun h1=>?_)
 ·refine WL.indexAddr (hvl.mono L1) k1 (by omega) ZaZ Qj U U U U (fun p1 x1 U1 E1=>?_)
  obtain ⟨D1,C1,R1⟩:=E1
  obtain ⟨v1,rfl,A1,B1⟩:=Xg R1
  refine Zb S1 C1 [v1,Za x1.table] Qj U U U U U ?_
  refine Zr S1 hf.body U U U (hf.call _ _ (.agg #[v1,Za x1.table]) x1 L1 S1.imm (List.mem_of_getElem? U1) ⟨_,U,(QQ x1 A1 B1)⟩) (fun w2 G2 S2 L2=>?_)
  refine WL.split (fun (h2 : (pf x1) = true)=>?_) (fun (h2 : (pf x1) = false)=>?_)
  ·exact RI S2 U (by exact (QO _ ‹_› ‹_› ‹_›).symm)
  refine Zj k1 (by have:=Zc; omega) U U U ?_
  exact BK.mk' _ ⟨k1 + 1,G2,U,(L1.trans L2),S2,(Zq U),(by omega),(by exact ZW ‹_› ‹_› ‹_›)⟩ (show l.length - (k1 + 1) < l.length - k1 by omega)
 exact RI S1 U (by exact (Q2 ‹_› (by omega)).symm)
theorem Znk {G : GH} {w : World} (hG : G.In w) (l : List Foreign) (pf : Foreign → Bool) (vl : Value) (hvl : Sl ForeignE 40 G vl l) (fid : Nat) (fcap : Array Value) (hf : FnB Tryz.prog (Is ForeignE) fid fcap G (fun x=>x ∈ l) pf) : CL Tryz.prog (nat_lit 141) #[vl, .func (.func fid) #[] fcap] [] w G fun _ _ r=>r = .bool (l.any pf):=by
 refine Zh ft [] Tryz.func141 U U ?_
 have hS:=St.start (X:=[]) hG
 refine Zr hS Zzg U U U (ZrZ hS.imm l pf _ hvl fid fcap (hf.up (G.le_refl))) (fun w1 G1 S1 L1=>?_)
 refine Yf .geq U .i64 (Qi pf l) 0 U U U ?_
 exact RB S1 U (by exact ZcH _ _)
theorem Zwx {G : GH} {w : World} (hG : G.In w) (y : Foreign) (fc : List (List UInt8)) (ftb : List UInt8) (cy : List Value) (hcy : ForeignE.rep G y cy) (vc : Value) (hvc : Sl Enc.str 16 G vc fc) (pf : Addr) (hpf : XC G pf [vc,Za ftb]) : CL Tryz.prog (nat_lit 142) #[.agg cy.toArray,Zs pf] [] w G fun _ _ r=>r = .bool (decide (y.table = ftb) && decide (y.cols = fc)):=by
 refine Zh ft [] Tryz.func142 U U ?_
 have hS:=St.start (X:=[]) hG
 obtain ⟨v1,rfl,A1,B1⟩:=Xg hcy
 refine Zw [v1,Za y.table] _ hS U U U (fun p1 w1 G1 L1 M1 C1 S1=>?_)
 refine Z S1 (XC.drop 1 C1) ZF U U U <| Z S1 (XC.drop 1 (hpf.mono L1)) ZF U U U <| ZJ .eql U y.table ftb U U U ?_
 refine WL.split (fun h0=>?_) (fun h0=>?_)
 ·have h1 : y.table = ftb:=by simpa [SCmp.b] using h0
  clear h0
  refine Z S1 (XC.drop 0 C1) ZaH U U U <| Z S1 (XC.drop 0 (hpf.mono L1)) ZaH U U U ?_
  refine Zr S1 ZyO U U U (ZrY S1.imm y.cols fc _ (A1.mono L1) _ (hvc.mono L1)) (fun w2 G2 S2 L2=>?_)
  exact RB S2 U (by simp_all [SCmp.b])
 have h1 : y.table ≠ ftb:=by simpa [SCmp.b] using h0
 clear h0
 exact RB S1 U (by simp_all [SCmp.b])
theorem Zyj {G : GH} {w : World} (hG : G.In w) (t o : Schema) (f : Foreign) (cs : List Value) (hcs : SchemaE.rep G t cs) (cu : List Value) (hcu : SchemaE.rep G o cu) (cf : List Value) (hcf : ForeignE.rep G f cf) (hs : YB t = true) (ho : YB o = true) : CL Tryz.prog (nat_lit 90) #[.agg cs.toArray, .agg cu.toArray, .agg cf.toArray] [] w G fun _ _ r=>r = .bool (XN t o f):=by
 refine Zh ft [] Tryz.func90 U U ?_
 have hS:=St.start (X:=[]) hG
 obtain ⟨v1,v2,rfl,B1,A1,B2,A2⟩:=YZ hcs
 obtain ⟨v3,v4,rfl,B3,A3,B4,A4⟩:=YZ hcu
 obtain ⟨v5,rfl,A5,B5⟩:=Xg hcf
 refine Zw [Za t.name,v1,S t.key,v2] _ hS U U U (fun p1 w1 G1 L1 M1 C1 S1=>?_)
 refine Zw [Za o.name,v3,S o.key,v4] _ S1 U U U (fun p2 w2 G2 L2 M2 C2 S2=>?_)
 refine Zw [v5,Za f.table] _ S2 U U U (fun p3 w3 G3 L3 M3 C3 S3=>?_)
 have j1:=(L2.trans L3)
 refine Z S3 (XC.drop 3 (C1.mono j1)) ZcK U U U ?_
 have j2:=((L1.trans L2).trans L3)
 refine Zr S3 ZyM U U U (Znk S3.imm t.fks (fun x8=>(decide (x8.table = f.table) && decide (x8.cols = f.cols))) _ (A2.mono j2) 142 #[Zs p3] ⟨ZyN,fun G8 w8 v8 x8 L8 hG8 hon8 hA8=>by obtain ⟨cs_x8,rfl,hr_x8⟩:=hA8; exact Zwx hG8 x8 f.cols f.table cs_x8 hr_x8 v5 ((A5.mono j2).mono L8) p3 (C3.mono L8)⟩) (fun w4 G4 S4 L4=>?_)
 refine WL.split (fun (h1 : (t.fks.any (fun x8=>(decide (x8.table = f.table) && decide (x8.cols = f.cols)))) = true)=>?_) (fun (h1 : (t.fks.any (fun x8=>(decide (x8.table = f.table) && decide (x8.cols = f.cols)))) = false)=>?_)
 ·have j3:=(L3.trans L4)
  refine Z S4 (XC.drop 1 (C3.mono L4)) ZF U U U <| Z S4 (XC.drop 0 (C2.mono j3)) ZF U U U <| ZJ .neq U f.table o.name U U U ?_
  refine WL.split (fun h0=>?_) (fun h0=>?_)
  ·have h2 : f.table ≠ o.name:=by simpa [SCmp.b] using h0
   clear h0
   exact RB S4 U (by exact ZrD ‹_›)
  have h2 : f.table = o.name:=by simpa [SCmp.b] using h0
  clear h0
  refine Z S4 (XC.drop 0 (C3.mono L4)) ZaH U U U ?_
  have V1:=A5.bound
  have j4:=(j2.trans L4)
  refine Zl (A5.mono j4) Xy U U <| Z S4 (XC.drop 2 (C2.mono j3)) Zt U U U ?_
  refine Yr (f.cols.length : Int) o.key U U U (fun h3=>?_) (fun h3=>?_)
  ·exact RB S4 U (by exact ZrE ‹_›)
  refine Z S4 (XC.drop 0 (C3.mono L4)) ZaH U U U ?_
  have V2:=A5.bound
  refine Zl (A5.mono j4) Xy U U ?_
  refine LP.go ft [] (fun m ρ1 w1=>∃ (k1 : Nat),∃ (G5 : GH),m = f.cols.length - k1 ∧ G4.le G5 ∧ St w [] G G5 [] w1 ∧ FR ρ1 [(3,Zs p1),(4,Zs p2),(32,v5),(33,S (f.cols.length : Int)),(34,S (k1 : Int))] ∧ k1 ≤ f.cols.length ∧ ∀ j,j < k1 → ∀ c,f.cols[j]? = some c → ZcU t o j c = true) _ ⟨0,G4,U,(G4.le_refl),S4,(Zq U),(by omega),(by intro j hj; omega)⟩ ?_
  rintro m ρ1 w5 ⟨k1,G5,rfl,L5,S5,F9,f1,f2⟩
  refine F9.set ?_
  clear F9
  refine Zp (k1 : Int) (f.cols.length : Int) U U U (fun h4=>?_) (fun h4=>?_)
  ·have j5:=(j4.trans L5)
   refine WL.indexAddr (A5.mono j5) k1 (by omega) Xy ZF U U U U (fun p4 x1 U1 E1=>?_)
   obtain ⟨D1,C4,R1⟩:=E1
   obtain ⟨rfl,B6⟩:=R1
   refine Z S5 C4 ZF U U U ?_
   have hix9:=ZhX hs (by assumption : ZgA t f = true) x1 (List.mem_of_getElem? U1)
   have hlt9:=ZiY hix9
   have hkk:=(ZfJ ho).2
   obtain ⟨p5,x2,U2,E2,W1⟩:=Sl.at (A1.mono j5) (((Xw (t.cols.map Col.name) x1)).toNat) (by omega)
   obtain ⟨D2,C5,R2⟩:=E2
   obtain ⟨rfl,B7,B8⟩:=Xm R2
   obtain ⟨p6,x3,U3,E3,W2⟩:=Sl.at (A3.mono j5) k1 (by omega)
   obtain ⟨D3,C6,R3⟩:=E3
   obtain ⟨rfl,B9,B10⟩:=Xm R3
   rcases Cmp.dec .neq x2.kind x3.kind with ⟨Y6,q1⟩ | ⟨Y6,q1⟩
   ·have h5 : x2.kind ≠ x3.kind:=q1
    clear q1
    have j6:=((j1.trans L4).trans L5)
    refine dr [] [(40,v1),(41, .agg #[Za t.name,v1,S t.key,v2]),(43,S (Xw (t.cols.map Col.name) x1)),(44,Zs p5),(46,S x2.kind),(48,v3),(50,Zs p6),(52,S x3.kind),(53, .bool true)] S5 ⟨fun _ hSw=>Z hSw (XC.drop 1 (C1.mono j6)) ZaY U U U <| nu U U,fun _ hSw=>Zb hSw (C1.mono j6) [Za t.name,v1,S t.key,v2] Qo U U U U U <| nu U U,fun _ hSw=>Z3 hSw Zi0 U U U (ZdW hSw.imm t x1 _ (Yo t B1 (A1.mono j5) B2 (A2.mono j5))) U,fun _=>Zg (((Xw (t.cols.map Col.name) x1)).toNat) W1 Qk YX U U U (congrArg (Value.int .i64) (Int.toNat_of_nonneg (by omega)).symm) <| nu U U,fun _ hSw=>Z hSw (XC.drop 1 C5) Zt U U U <| nu U U,fun _ hSw=>Z hSw (XC.drop 1 (C2.mono (j3.trans L5))) ZaY U U U <| nu U U,fun _=>Zg k1 W2 Qk YX U U U U <| nu U U,fun _ hSw=>Z hSw (XC.drop 1 C6) Zt U U U <| nu U U,fun _=>WL.cmpV .neq U .i64 x2.kind x3.kind _ Y6 U U U <| nu U U,trivial⟩ (fun w6 S6=>?_)
    exact RB S6 U (by exact ZrF ‹_› (ZrA ‹_› ‹_› ‹_›))
   have h5 : x2.kind = x3.kind:=q1
   clear q1
   have j7:=((j1.trans L4).trans L5)
   refine dr [] [(40,v1),(41, .agg #[Za t.name,v1,S t.key,v2]),(43,S (Xw (t.cols.map Col.name) x1)),(44,Zs p5),(46,S x2.kind),(48,v3),(50,Zs p6),(52,S x3.kind),(53, .bool false)] S5 ⟨fun _ hSw=>Z hSw (XC.drop 1 (C1.mono j7)) ZaY U U U <| nu U U,fun _ hSw=>Zb hSw (C1.mono j7) [Za t.name,v1,S t.key,v2] Qo U U U U U <| nu U U,fun _ hSw=>Z3 hSw Zi0 U U U (ZdW hSw.imm t x1 _ (Yo t B1 (A1.mono j5) B2 (A2.mono j5))) U,fun _=>Zg (((Xw (t.cols.map Col.name) x1)).toNat) W1 Qk YX U U U (congrArg (Value.int .i64) (Int.toNat_of_nonneg (by omega)).symm) <| nu U U,fun _ hSw=>Z hSw (XC.drop 1 C5) Zt U U U <| nu U U,fun _ hSw=>Z hSw (XC.drop 1 (C2.mono (j3.trans L5))) ZaY U U U <| nu U U,fun _=>Zg k1 W2 Qk YX U U U U <| nu U U,fun _ hSw=>Z hSw (XC.drop 1 C6) Zt U U U <| nu U U,fun _=>WL.cmpV .neq U .i64 x2.kind x3.kind _ Y6 U U U <| nu U U,trivial⟩ (fun w7 S7=>?_)
   refine Zj k1 (by have:=Zc; omega) U U U ?_
   exact BK.mk' _ ⟨k1 + 1,G5,U,L5,S7,(Zq U),(by omega),(by exact Zfw (P:=fun j c=>ZcU t o j c = true) ‹_› ‹_› (Zr9 ‹_› ‹_› ‹_›))⟩ (show f.cols.length - (k1 + 1) < f.cols.length - k1 by omega)
  exact RB S5 U (by exact ZrG ‹_› ‹_› ‹_› ‹_› (by omega))
 exact RB S4 U (by exact ZrC ‹_›)
end Go.Civ
