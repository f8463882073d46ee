/- Lemmas. -/
import Derived.Test.YthgeclodflmiaaaGreatD31
import Derived.Test.YthgeclodflmiaaaGreatD32
import Derived.Test.YthgeclodflmiaaaGreatD35
import Derived.Test.YthgeclodflmiaaaGreatD37
import Derived.Test.YthgeclodflmiaaaGreatProg
import Derived.KernelRfl
import Derived.WalkKit
set_option linter.unusedVariables false
set_option linter.unusedSimpArgs false
set_option maxRecDepth 100000
set_option maxHeartbeats 4000000
namespace Go.Civ
open Go.Proofs
theorem Zsg {G : GH} {w : World} (hG : G.In w) (d : Nat) (t : Table) (tx : Int) (c : Cond) (p : Span) (l : List Table) (ct : List Value) (hct : TableE.rep G t ct) (cc : List Value) (hcc : (YQ d).rep G c cc) (cp : List Value) (hcp : SpanE.rep G p cp) (vl : Value) (hvl : Sl TableE 104 G vl l) (htx64 : Z0 tx) : CL Tryz.prog (nat_lit 53) #[.agg ct.toArray,S tx, .agg cc.toArray, .agg cp.toArray,vl] [] w G fun G' _ r=>∃ r0 r1,r = .tuple #[r0,r1] ∧ Is TableE G' r0 (ZV d t tx c p l) ∧ r1 = S (XO d t tx c p l):=by
 refine Y2 ft [] Tryz.func53 U U ?_
 have hS:=St.start (X:=[]) hG
 have T1:=Zy hct
 obtain ⟨v1,v2,v3,rfl,B1,A1,B2,A2,A3,B3⟩:=T1
 have T2:=Xo hcc
 obtain ⟨lv1,rfl,B4,B5,B6,B7,B8,B9,O1⟩:=T2
 have T3:=ZI hcp
 obtain ⟨rfl,B10,Y6⟩:=T3
 refine Zw [Za t.s.name,v1,S t.s.key,v2,v3,S t.last] _ hS U U U (fun p1 w1 G1 L1 M1 C1 S1=>?_)
 refine Zw [S c.kind,Za c.col,Za c.oth,S c.v.k,S c.v.n,Za c.v.s,lv1] _ S1 U U U (fun p2 w2 G2 L2 M2 C2 S2=>?_)
 refine Zw [S p.a,S p.b] _ S2 U U U (fun p3 w3 G3 L3 M3 C3 S3=>?_)
 refine WL.alloc S3 Zm U U (fun b1 w4 N1 S4=>?_)
 refine Zb S4 (C1.mono (L2.trans L3)) [Za t.s.name,v1,S t.s.key,v2,v3,S t.last] Zm U U U U U ?_
 have j1:=((L1.trans L2).trans L3)
 refine Zr S4 ZsC U U U (Zj8 S4.imm t _ (Zo t B1 (A1.mono j1) B2 (A2.mono j1) (A3.mono j1) B3)) (fun w5 G4 S5 L4=>?_)
 refine WL.split (fun (h1 : (YI t) = true)=>?_) (fun (h1 : (YI t) = false)=>?_)
 ·have V1:=hvl.bound
  have j2:=(j1.trans L4)
  refine Zl (hvl.mono j2) Qw U U ?_
  refine Xd (l.length : Int) 8 U U U (fun h2=>?_) (fun h2=>?_)
  ·refine WL.build _ [] [Za [],Ze,S 0,Ze,Ze,S 0] Zm U QF U U U U ?_
   refine Zi S5 0 [Za [],Ze,S 0,Ze,Ze,S 0] U U Zm U U U U U U (fun w6 S6=>?_)
   exact Xr [.agg #[Za [],Ze,S 0,Ze,Ze,S 0],S 1] S6 ⟨_,_,_,U,U,S6.loadA 0 _ _ _ 0 [Za [],Ze,S 0,Ze,Ze,S 0] U U U Zm U,⟨_,U,U⟩⟩ ⟨_,_,U,(Is.cast ⟨_,U,(Zo (Table.mk (Schema.mk [] [] 0 []) [] 0) (by simp [reach]) (Sl.nil ColE 24 G4) ZP (Sl.nil ForeignE 40 G4) (Sl.nil HRowE 56 G4) ZP)⟩ (by with_reducible exact (ZgE (Zvd (by omega))).1)),(congrArg (Value.int .i64) (by with_reducible exact (ZgE (Zvd (by omega))).2))⟩
  have V2:=hvl.bound
  refine Zl (hvl.mono j2) Qw U U ?_
  refine LP.go ft [] (fun m ρ1 w1=>∃ (k1 : Nat),∃ (G5 : GH),m = l.length - k1 ∧ G4.le G5 ∧ St w [] G G5 [some (b1,28,[Za [],Ze,S 0,Ze,Ze,S 0])] w1 ∧ FR ρ1 [(1,S tx),(4,vl),(5,Zs p1),(7,Zs p2),(8,Zs p3),(10, .pointer (some ⟨b1,0,none⟩)),(35,vl),(36,S (l.length : Int)),(37,S (k1 : Int))] ∧ k1 ≤ l.length ∧ ∀ j,j < k1 → ∀ x,l[j]? = some x → Zu x = true) _ ⟨0,G4,U,(G4.le_refl),S5,(Zq U),(by omega),(by intro j hj; omega)⟩ ?_
  rintro m ρ1 w7 ⟨k1,G5,rfl,L5,S7,F9,f1,f2⟩
  refine F9.set ?_
  clear F9
  refine Zp (k1 : Int) (l.length : Int) U U U (fun h3=>?_) (fun h3=>?_)
  ·refine WL.indexAddr (hvl.mono (j2.trans L5)) k1 (by omega) Qw Zm U U U U (fun p4 x1 U1 E1=>?_)
   obtain ⟨D1,C4,R1⟩:=E1
   have T4:=Zy R1
   obtain ⟨v4,v5,v6,rfl,YU,A4,Xa,A5,A6,Xz⟩:=T4
   refine Zb S7 C4 [Za x1.s.name,v4,S x1.s.key,v5,v6,S x1.last] Zm U U U U U ?_
   refine WL.alloc S7 Zm U U (fun b2 w9 N2 S8=>?_)
   refine Zi S8 0 [Za x1.s.name,v4,S x1.s.key,v5,v6,S x1.last] U U Zm U U (by simp only [ZA,A4.oneC,A5.oneC,A6.oneC] <;> rfl) U U U (fun w10 S9=>?_)
   have T5:=S9.shutB N2
   obtain ⟨G6,L6,C5,S10⟩:=T5
   refine Zb S10 C5 [Za x1.s.name,v4,S x1.s.key,v5,v6,S x1.last] Zm U U U U U ?_
   refine Zr S10 XF U U U (Zbv S10.imm x1 _ (Zo x1 YU (A4.mono L6) Xa (A5.mono L6) (A6.mono L6) Xz)) (fun w11 G7 S11 L7=>?_)
   refine WL.split (fun (h4 : (Zu x1) = true)=>?_) (fun (h4 : (Zu x1) = false)=>?_)
   ·refine Zj k1 (by have:=Zc; omega) U U U ?_
    exact BK.mk' _ ⟨k1 + 1,G7,U,(L5.trans (L6.trans L7)),S11,(Zq U),(by omega),(by with_reducible exact ZW ‹_› ‹_› ‹_›)⟩ (show l.length - (k1 + 1) < l.length - k1 by omega)
   refine WL.build _ [] [Za [],Ze,S 0,Ze,Ze,S 0] Zm U QF U U U U ?_
   refine Zi S11 0 [Za [],Ze,S 0,Ze,Ze,S 0] U U Zm U U U U U U (fun w12 S12=>?_)
   exact Xr [.agg #[Za [],Ze,S 0,Ze,Ze,S 0],S 1] S12 ⟨_,_,_,U,U,S12.loadA 0 _ _ _ 0 [Za [],Ze,S 0,Ze,Ze,S 0] U U U Zm U,⟨_,U,U⟩⟩ ⟨_,_,U,(Is.cast ⟨_,U,(Zo (Table.mk (Schema.mk [] [] 0 []) [] 0) (by simp [reach]) (Sl.nil ColE 24 G7) ZP (Sl.nil ForeignE 40 G7) (Sl.nil HRowE 56 G7) ZP)⟩ (by with_reducible exact (ZgE (ZpG ‹_› ‹_›)).1)),(congrArg (Value.int .i64) (by with_reducible exact (ZgE (ZpG ‹_› ‹_›)).2))⟩
  refine Qe Zy8 U U U (Zuo S7.imm l _ (hvl.mono (j2.trans L5))) (fun w13 G9 r1 hres1 P1=>?_)
  have S13:=S7.call hres1
  have L9:=hres1.le
  obtain ⟨o1,R2,hf1⟩:=P1
  have S14:=S7.adoptO hres1 hf1
  refine Qe Zy7 U U U (Zsf S14.imm l (fun x8=>decide (x8.s.name = t.s.name)) _ _ R2 (S14.lentAt 0 U) 111 #[Zs p1] ⟨Zy9,fun G8 w8 v8 x8 L8 hG8 hon8 hA8=>by obtain ⟨cs_x8,rfl,hr_x8⟩:=hA8; exact Zw3 hG8 x8 t.s.name t.s.cols t.s.key t.s.fks t.rows t.last cs_x8 hr_x8 v1 ((A1.mono (((((L1.trans L2).trans L3).trans L4).trans L5).trans L9)).mono L8) v2 ((A2.mono (((((L1.trans L2).trans L3).trans L4).trans L5).trans L9)).mono L8) v3 ((A3.mono (((((L1.trans L2).trans L3).trans L4).trans L5).trans L9)).mono L8) p1 ((C1.mono ((((L2.trans L3).trans L4).trans L5).trans L9)).mono L8) ‹_› ‹_› ‹_›⟩) (fun w14 G10 r2 hres2 P2=>?_)
  have L10:=hres2.le
  obtain ⟨o2,R3,hf2⟩:=P2
  have S16:=S14.callRowO 0 U hres2 hf2
  have hoth:=ZS.cast (l':=YV t l) R3 U
  have huv:=ZpK (by assumption : YI t = true)
  have hall:=(by assumption : ∀ j,j < k1 → ∀ x,l[j]? = some x → Zu x = true)
  have hov:=Zsb huv hall (by omega)
  have hol:=@Zop t l
  have hok8:=Zum (t:=t) hov
  have O9 : (YV t l ++ [t]).length ≤ 9:=by rw [List.length_append]; simp only [List.length_cons,List.length_nil]; omega
  refine Zb S16 (C1.mono (((((L2.trans L3).trans L4).trans L5).trans L9).trans L10)) [Za t.s.name,v1,S t.s.key,v2,v3,S t.last] Zm U U U U U ?_
  refine WL.buildSlice _ [(0,[Za t.s.name,v1,S t.s.key,v2,v3,S t.last])] [Za t.s.name,v1,S t.s.key,v2,v3,S t.last] S16 Zfk U U U U (fun z hz=>by match z,hz with | [z0,z1,z2,z3,z4,z5],_=>rfl) (fun b3 w15 N3 S17=>?_)
  refine WL.push (m:=([t] : List Table)) Zfk U U U hoth S17 1 U 0 _ _ _ _ _ U ⟨[Za t.s.name,v1,S t.s.key,v2,v3,S t.last],_,U,(Zo t B1 (A1.mono ((((((L1.trans L2).trans L3).trans L4).trans L5).trans L9).trans L10)) B2 (A2.mono ((((((L1.trans L2).trans L3).trans L4).trans L5).trans L9).trans L10)) (A3.mono ((((((L1.trans L2).trans L3).trans L4).trans L5).trans L9).trans L10)) B3),U⟩ U (by have:=Zc; simp only [Zx]; omega) (by have:=Zc; simp only [Zx]; omega) U U U (fun v7 o3 w16 R4 S18=>?_)
  have S19:=S18.tail
  have V3:=R4.bound
  refine XH R4 Qw U U ?_
  have S21:=S19.pad
  refine LP.go ft [] (fun m ρ1 w1=>∃ (k2 : Nat),∃ (v9 : Value) (o4 : OB),∃ (G11 : GH),m = ((YV t l) ++ [t]).length - k2 ∧ G10.le G11 ∧ St w [] G G11 [o4,o3,some (b1,28,[Za [],Ze,S 0,Ze,Ze,S 0])] w1 ∧ ZS Zez 248 139 G11 v9 (QA t ((YV t l ++ [t]).take k2)) o4 ∧ FR ρ1 [(1,S tx),(5,Zs p1),(7,Zs p2),(8,Zs p3),(10, .pointer (some ⟨b1,0,none⟩)),(14,v9),(53,v7),(54,S ((((YV t l) ++ [t]).length : Nat) : Int)),(55,S (k2 : Int))] ∧ k2 ≤ ((YV t l) ++ [t]).length ∧ ∀ j,j < k2 → ∀ x,(YV t l ++ [t])[j]? = some x → lkA t x = true) _ ⟨0,(Ze),none,G10,U,(G10.le_refl),S21,(ZS.cast (ZS.nil Zez 248 139 G10) (by rfl)),(Zq U),(by omega),(by intro j hj; omega)⟩ ?_
  rintro m ρ1 w17 ⟨k2,v9,o4,G11,rfl,L11,S20,R5,F9,f3,f4⟩
  refine F9.set ?_
  clear F9
  have hok9:=hok8 k2
  refine Zp (k2 : Int) ((((YV t l) ++ [t]).length : Nat) : Int) U U U (fun h5=>?_) (fun h5=>?_)
  ·refine YW (R4.mono L11) k2 (by omega) Qw Zm U U U U (fun p5 x2 ec1 U2 R6 ra1=>?_)
   have T6:=Zy R6
   obtain ⟨v10,v11,v12,rfl,QK,A7,XG,A8,A9,XY⟩:=T6
   refine Zah ra1 S20 1 U Zm U U U U ?_
   refine WL.alloc S20 Zm U U (fun b4 w18 N4 S22=>?_)
   refine Zi S22 0 [Za x2.s.name,v10,S x2.s.key,v11,v12,S x2.last] U U Zm U U (by simp only [ZA,A7.oneC,A8.oneC,A9.oneC] <;> rfl) U U U (fun w19 S23=>?_)
   have T7:=S23.shutB N4
   obtain ⟨G12,L12,C6,S24⟩:=T7
   refine Z S24 (XC.drop 3 (XC.drop 0 C6)) ZcK U U U ?_
   have V4:=A8.bound
   refine Zl (A8.mono L12) ZaZ U U ?_
   refine LP.go ft [] (fun m ρ1 w1=>∃ (k3 : Nat),∃ (v13 : Value) (o5 : OB),∃ (G13 : GH),m = x2.s.fks.length - k3 ∧ G12.le G13 ∧ St w [] G G13 [o5,o3,some (b1,28,[Za [],Ze,S 0,Ze,Ze,S 0])] w1 ∧ ZS Zez 248 139 G13 v13 (QA t ((YV t l ++ [t]).take k2) ++ lks t x2 (x2.s.fks.take k3)) o5 ∧ FR ρ1 [(1,S tx),(5,Zs p1),(7,Zs p2),(8,Zs p3),(10, .pointer (some ⟨b1,0,none⟩)),(14,v13),(17, .pointer (some (⟨b4,0,none⟩ : Addr))),(53,v7),(54,S ((((YV t l) ++ [t]).length : Nat) : Int)),(55,S (k2 : Int)),(61,v11),(62,S (x2.s.fks.length : Int)),(63,S (k3 : Int))] ∧ k3 ≤ x2.s.fks.length ∧ ∀ j,j < k3 → ∀ f,x2.s.fks[j]? = some f → lkB t x2 f = true) _ ⟨0,v9,o4,G12,U,(G12.le_refl),S24,(ZS.cast (R5.mono L12) (by simp [lks])),(Zq U),(by omega),(by intro j hj; omega)⟩ ?_
   rintro m ρ1 w20 ⟨k3,v13,o5,G13,rfl,L13,S25,R7,F9,f5,f6⟩
   refine F9.set ?_
   clear F9
   have hf8:=Zve (hov _ (List.mem_of_getElem? (by assumption : (YV t l ++ [t])[k2]? = some _)))
   have hlk8:=Zoo (t:=t) (o:=x2) (x2.s.fks.take k3)
   rw [List.length_take] at hlk8
   refine Zp (k3 : Int) (x2.s.fks.length : Int) U U U (fun h6=>?_) (fun h6=>?_)
   ·have j3:=(L12.trans L13)
    refine WL.indexAddr (A8.mono j3) k3 (by omega) ZaZ Qj U U U U (fun p6 x3 U3 E2=>?_)
    obtain ⟨D2,C7,R8⟩:=E2
    have T8:=Xg R8
    obtain ⟨v14,rfl,A10,Q8⟩:=T8
    refine Zb S25 C7 [v14,Za x3.table] Qj U U U U U ?_
    refine WL.alloc S25 Qj U U (fun b5 w21 N5 S26=>?_)
    refine Zi S26 0 [v14,Za x3.table] U U Qj U U (by simp only [ZA,A10.oneC] <;> rfl) U U U (fun w22 S27=>?_)
    have T9:=S27.shutB N5
    obtain ⟨G14,L14,C8,S28⟩:=T9
    refine Z S28 (XC.drop 1 C8) ZF U U U <| Z S28 (XC.drop 0 (XC.drop 0 (C1.mono (((((((((L2.trans L3).trans L4).trans L5).trans L9).trans L10).trans L11).trans L12).trans L13).trans L14)))) ZF U U U <| ZJ .neq U x3.table t.s.name U U U ?_
    refine WL.split (fun h0=>?_) (fun h0=>?_)
    ·have h7 : x3.table ≠ t.s.name:=by simpa [SCmp.b] using h0
     clear h0
     refine Zj k3 (by have:=Zc; omega) U U U ?_
     exact BK.mk' _ ⟨k3 + 1,v13,o5,G14,U,(L13.trans L14),S28,(ZS.cast (R7.mono L14) (by (rw [Zz3 ‹_› ‹_›]))),(Zq U),(by omega),(by with_reducible exact ZW ‹_› ‹_› (by exact ZpI ‹_›))⟩ (show x2.s.fks.length - (k3 + 1) < x2.s.fks.length - k3 by omega)
    have h7 : x3.table = t.s.name:=by simpa [SCmp.b] using h0
    clear h0
    refine Zb S28 (XC.drop 0 (C6.mono (L13.trans L14))) [Za x2.s.name,v10,S x2.s.key,v11] Qo U U U U U <| Zb S28 (XC.drop 0 (C1.mono (((((((((L2.trans L3).trans L4).trans L5).trans L9).trans L10).trans L11).trans L12).trans L13).trans L14))) [Za t.s.name,v1,S t.s.key,v2] Qo U U U U U <| Zb S28 C8 [v14,Za x3.table] Qj U U U U U ?_
    have j4:=(j3.trans L14)
    refine Zr S28 ZzY U U U (Zyj S28.imm x2.s t.s x3 _ (Yo x2.s QK (A7.mono j4) XG (A8.mono j4)) _ (Yo t.s B1 (A1.mono ((((((((((L1.trans L2).trans L3).trans L4).trans L5).trans L9).trans L10).trans L11).trans L12).trans L13).trans L14)) B2 (A2.mono ((((((((((L1.trans L2).trans L3).trans L4).trans L5).trans L9).trans L10).trans L11).trans L12).trans L13).trans L14))) _ (QQ x3 (A10.mono L14) Q8) (Xb (hov _ (List.mem_of_getElem? ‹_›))).1 (Xb huv).1) (fun w23 G15 S29 L15=>?_)
    refine WL.split (fun (h8 : (XN x2.s t.s x3) = true)=>?_) (fun (h8 : (XN x2.s t.s x3) = false)=>?_)
    ·refine Zb S29 (C6.mono ((L13.trans L14).trans L15)) [Za x2.s.name,v10,S x2.s.key,v11,v12,S x2.last] Zm U U U U U <| Zb S29 (C8.mono L15) [v14,Za x3.table] Qj U U U U U <| WL.build _ [(0,[Za x2.s.name,v10,S x2.s.key,v11,v12,S x2.last]),(2,[v14,Za x3.table])] [Za x2.s.name,v10,S x2.s.key,v11,v12,S x2.last,Za [],Ze,S 0,Ze,Ze,S 0,v14,Za x3.table] Zcu U Zy2 U U U U ?_
     refine WL.buildSlice _ [(0,[Za x2.s.name,v10,S x2.s.key,v11,v12,S x2.last,Za [],Ze,S 0,Ze,Ze,S 0,v14,Za x3.table])] [Za x2.s.name,v10,S x2.s.key,v11,v12,S x2.last,Za [],Ze,S 0,Ze,Ze,S 0,v14,Za x3.table] S29 Zux U U U U (fun z hz=>by match z,hz with | [z0,z1,z2,z3,z4,z5,z6,z7,z8,z9,z10,z11,z12,z13],_=>rfl) (fun b6 w24 N6 S30=>?_)
     have j5:=(L14.trans L15)
     have j6:=(j4.trans L15)
     refine WL.push (m:=([(Link.mk x2 (Table.mk (Schema.mk [] [] 0 []) [] 0) x3)] : List Link)) Zux U U U (R7.mono j5) S30 1 U 0 _ _ _ _ _ U ⟨[Za x2.s.name,v10,S x2.s.key,v11,v12,S x2.last,Za [],Ze,S 0,Ze,Ze,S 0,v14,Za x3.table],_,U,(ZcV (Link.mk x2 (Table.mk (Schema.mk [] [] 0 []) [] 0) x3) QK (A7.mono j6) XG (A8.mono j6) (A9.mono j6) XY (by simp [reach]) (Sl.nil ColE 24 G15) ZP (Sl.nil ForeignE 40 G15) (Sl.nil HRowE 56 G15) ZP (A10.mono j5) Q8),U⟩ U (by have:=Zc; simp only [Zx]; omega) (by have:=Zc; simp only [Zx]; omega) U U U (fun v15 o6 w25 R9 S31=>?_)
     have S32:=S31.tail
     refine Zj k3 (by have:=Zc; omega) U U U ?_
     exact BK.mk' _ ⟨k3 + 1,v15,o6,G15,U,(L13.trans j5),S32,(ZS.cast R9 (by (rw [Zz2 ‹_› ‹_›,List.append_assoc]))),(Zq U),(by omega),(by with_reducible exact ZW ‹_› ‹_› (by exact ZfK ‹_›))⟩ (show x2.s.fks.length - (k3 + 1) < x2.s.fks.length - k3 by omega)
    refine WL.build _ [] [Za [],Ze,S 0,Ze,Ze,S 0] Zm U QF U U U U ?_
    refine Zi S29 2 [Za [],Ze,S 0,Ze,Ze,S 0] U U Zm U U U U U U (fun w26 S33=>?_)
    exact Xr [.agg #[Za [],Ze,S 0,Ze,Ze,S 0],S 1] S33 ⟨_,_,_,U,U,S33.loadA 2 _ _ _ 0 [Za [],Ze,S 0,Ze,Ze,S 0] U U U Zm U,⟨_,U,U⟩⟩ ⟨_,_,U,(Is.cast ⟨_,U,(Zo (Table.mk (Schema.mk [] [] 0 []) [] 0) (by simp [reach]) (Sl.nil ColE 24 G15) ZP (Sl.nil ForeignE 40 G15) (Sl.nil HRowE 56 G15) ZP)⟩ (by with_reducible exact (ZgE (ZpH ‹_› ‹_› ‹_› ‹_›)).1)),(congrArg (Value.int .i64) (by with_reducible exact (ZgE (ZpH ‹_› ‹_› ‹_› ‹_›)).2))⟩
   refine Zj k2 (by have:=Zc; omega) U U U ?_
   exact BK.mk' _ ⟨k2 + 1,v13,o5,G13,U,(L11.trans (L12.trans L13)),S25,(ZS.cast R7 (by (exact (ZkI ‹_› (by omega)).symm))),(Zq U),(by omega),(by with_reducible exact ZW ‹_› ‹_› (Zno ‹_› (by omega)))⟩ (show ((YV t l) ++ [t]).length - (k2 + 1) < ((YV t l) ++ [t]).length - k2 by omega)
  have hok:=Zz1 (by assumption : YI t = true) (by omega) hall (by omega) (by assumption : ∀ i,i < k2 → ∀ x,(YV t l ++ [t])[i]? = some x → lkA t x = true) (by omega)
  have hlnk:=ZS.cast (l':=QA t (YV t l ++ [t])) R5 (by rw [List.take_of_length_le (by omega)])
  refine Zb S20 (C1.mono ((((((L2.trans L3).trans L4).trans L5).trans L9).trans L10).trans L11)) [Za t.s.name,v1,S t.s.key,v2,v3,S t.last] Zm U U U U U <| Zb S20 (C2.mono (((((L3.trans L4).trans L5).trans L9).trans L10).trans L11)) [S c.kind,Za c.col,Za c.oth,S c.v.k,S c.v.n,Za c.v.s,lv1] XI U U U U U <| Zb S20 (C3.mono ((((L4.trans L5).trans L9).trans L10).trans L11)) [S p.a,S p.b] Z2 U U U U U <| Z9 S20 Zuz U U U (Zk4 S20.imm _ t tx c p _ (Zo t B1 (A1.mono (((((((L1.trans L2).trans L3).trans L4).trans L5).trans L9).trans L10).trans L11)) B2 (A2.mono (((((((L1.trans L2).trans L3).trans L4).trans L5).trans L9).trans L10).trans L11)) (A3.mono (((((((L1.trans L2).trans L3).trans L4).trans L5).trans L9).trans L10).trans L11)) B3) _ ((YQ _).mono (((((((L1.trans L2).trans L3).trans L4).trans L5).trans L9).trans L10).trans L11) hcc) _ (Z1 p B10 Y6) htx64) ?_
  rintro w27 G16 _ ⟨r4,_,rfl,A11,rfl⟩ S34 L16
  obtain ⟨D3,rfl,R10⟩:=A11
  have T10:=Zy R10
  obtain ⟨v16,v17,v18,rfl,ZaI,A12,ZaJ,A13,A14,Zcv⟩:=T10
  refine WL.alloc S34 Zm U U (fun b7 w28 N7 S35=>?_)
  refine Zi S35 0 [Za ((ZM d t tx c p).s.name),v16,S ((ZM d t tx c p).s.key),v17,v18,S ((ZM d t tx c p).last)] U U Zm U U (by simp only [ZA,A12.oneC,A13.oneC,A14.oneC] <;> rfl) U U U (fun w29 S36=>?_)
  have T11:=S36.shutB N7
  obtain ⟨G17,L17,C9,S37⟩:=T11
  refine Yr (Zar d t tx c p) 0 U U U (fun h9=>?_) (fun h9=>?_)
  ·refine WL.build _ [] [Za [],Ze,S 0,Ze,Ze,S 0] Zm U QF U U U U ?_
   refine Zi S37 2 [Za [],Ze,S 0,Ze,Ze,S 0] U U Zm U U U U U U (fun w30 S38=>?_)
   exact Xr [.agg #[Za [],Ze,S 0,Ze,Ze,S 0],S (Zar d t tx c p)] S38 ⟨_,_,_,U,U,S38.loadA 2 _ _ _ 0 [Za [],Ze,S 0,Ze,Ze,S 0] U U U Zm U,⟨_,U,U⟩⟩ ⟨_,_,U,(Is.cast ⟨_,U,(Zo (Table.mk (Schema.mk [] [] 0 []) [] 0) (by simp [reach]) (Sl.nil ColE 24 G17) ZP (Sl.nil ForeignE 40 G17) (Sl.nil HRowE 56 G17) ZP)⟩ (by with_reducible exact (Zym hok ‹_›).1)),(congrArg (Value.int .i64) (by with_reducible exact (Zym hok ‹_›).2))⟩
  have hW:=Zvf (by assumption : Zar d t tx c p = 0)
  have V5:=hlnk.bound
  have j7:=(L16.trans L17)
  refine XH (hlnk.mono j7) ZoE U U ?_
  refine LP.go ft [] (fun m ρ1 w1=>∃ (k4 : Nat),∃ (G18 : GH),m = (QA t (YV t l ++ [t])).length - k4 ∧ G17.le G18 ∧ St w [] G G18 [o4,o3,some (b1,28,[Za [],Ze,S 0,Ze,Ze,S 0])] w1 ∧ FR ρ1 [(1,S tx),(5,Zs p1),(10, .pointer (some ⟨b1,0,none⟩)),(20, .pointer (some (⟨b7,0,none⟩ : Addr))),(101,v9),(102,S (((QA t (YV t l ++ [t])).length : Nat) : Int)),(103,S (k4 : Int))] ∧ k4 ≤ (QA t (YV t l ++ [t])).length ∧ ∀ j,j < k4 → ∀ x,(QA t (YV t l ++ [t]))[j]? = some x → lkG t (ZM d t tx c p) tx x = false) _ ⟨0,G17,U,(G17.le_refl),S37,(Zq U),(by omega),(by intro j hj; omega)⟩ ?_
  rintro m ρ1 w31 ⟨k4,G18,rfl,L18,S39,F9,f7,f8⟩
  refine F9.set ?_
  clear F9
  refine Zp (k4 : Int) (((QA t (YV t l ++ [t])).length : Nat) : Int) U U U (fun h10=>?_) (fun h10=>?_)
  ·refine YW (hlnk.mono (j7.trans L18)) k4 (by omega) ZoE Zcu U U U U (fun p7 x4 ec2 U4 R11 ra2=>?_)
   have T12:=ZdC R11
   obtain ⟨v19,v20,v21,v22,v23,v24,v25,rfl,ZbZ,A15,Zaq,A16,A17,Zcw,ZbG,A18,Zgd,A19,A20,Zfl,A21,Zge⟩:=T12
   refine Zah ra2 S39 0 U Zcu U U U U ?_
   refine WL.alloc S39 Zcu U U (fun b8 w32 N8 S40=>?_)
   refine Zi S40 0 [Za x4.t.s.name,v19,S x4.t.s.key,v20,v21,S x4.t.last,Za x4.o.s.name,v22,S x4.o.s.key,v23,v24,S x4.o.last,v25,Za x4.f.table] U U Zcu U U (by simp only [ZA,A15.oneC,A16.oneC,A17.oneC,A18.oneC,A19.oneC,A20.oneC,A21.oneC] <;> rfl) U U U (fun w33 S41=>?_)
   refine Zb S41 (C9.mono L18) [Za ((ZM d t tx c p).s.name),v16,S ((ZM d t tx c p).s.key),v17,v18,S ((ZM d t tx c p).last)] Zm U U U U U ?_
   have j8:=(L17.trans L18)
   refine WL.store S41 0 _ _ _ 6 _ [Za ((ZM d t tx c p).s.name),v16,S ((ZM d t tx c p).s.key),v17,v18,S ((ZM d t tx c p).last)] [Za x4.t.s.name,v19,S x4.t.s.key,v20,v21,S x4.t.last,Za ((ZM d t tx c p).s.name),v16,S ((ZM d t tx c p).s.key),v17,v18,S ((ZM d t tx c p).last),v25,Za x4.f.table] _ U U Zm U (leT U) (by simp only [ZA,(A12.mono j8).oneC,(A13.mono j8).oneC,(A14.mono j8).oneC] <;> rfl) U U U U U (fun w34 S42=>?_)
   refine Ya S42 0 _ _ _ 0 _ U U ZF U U U <| Z S42 (XC.drop 0 (XC.drop 0 (C1.mono (((((((((L2.trans L3).trans L4).trans L5).trans L9).trans L10).trans L11).trans L16).trans L17).trans L18)))) ZF U U U <| ZJ .eql U x4.t.s.name t.s.name U U U ?_
   refine WL.split (fun h0=>?_) (fun h0=>?_)
   ·have h11 : x4.t.s.name = t.s.name:=by simpa [SCmp.b] using h0
    clear h0
    refine Zb S42 (C9.mono L18) [Za ((ZM d t tx c p).s.name),v16,S ((ZM d t tx c p).s.key),v17,v18,S ((ZM d t tx c p).last)] Zm U U U U U ?_
    refine WL.store S42 0 _ _ _ 0 _ [Za ((ZM d t tx c p).s.name),v16,S ((ZM d t tx c p).s.key),v17,v18,S ((ZM d t tx c p).last)] [Za ((ZM d t tx c p).s.name),v16,S ((ZM d t tx c p).s.key),v17,v18,S ((ZM d t tx c p).last),Za ((ZM d t tx c p).s.name),v16,S ((ZM d t tx c p).s.key),v17,v18,S ((ZM d t tx c p).last),v25,Za x4.f.table] _ U U Zm U (leT U) (by simp only [ZA,(A12.mono j8).oneC,(A13.mono j8).oneC,(A14.mono j8).oneC] <;> rfl) U U U U U (fun w35 S43=>?_)
    refine Yg S43 0 _ _ _ 0 [Za ((ZM d t tx c p).s.name),v16,S ((ZM d t tx c p).s.key),v17,v18,S ((ZM d t tx c p).last),Za ((ZM d t tx c p).s.name),v16,S ((ZM d t tx c p).s.key),v17,v18,S ((ZM d t tx c p).last),v25,Za x4.f.table] U U U Zcu U U U ?_
    refine Z9 S43 Zxg U U U (Zvb S43.imm (Link.mk (ZM d t tx c p) (ZM d t tx c p) x4.f) tx _ (ZcV (Link.mk (ZM d t tx c p) (ZM d t tx c p) x4.f) ZaI (A12.mono j8) ZaJ (A13.mono j8) (A14.mono j8) Zcv ZaI (A12.mono j8) ZaJ (A13.mono j8) (A14.mono j8) Zcv A21 Zge) hW.tx.1 (by exact (Zvg hW hov hok ‹_›).2 ‹_›)) ?_
    rintro w36 G19 _ ⟨r7,_,rfl,A22,rfl⟩ S44 L19
    obtain ⟨D4,rfl,R12⟩:=A22
    have T13:=QG R12
    obtain ⟨v26,rfl,Zh9,ZhA,A23⟩:=T13
    refine WL.alloc S44 Yl U U (fun b9 w37 N9 S45=>?_)
    refine Zi S45 0 [S ((Y8 (Zcc (Link.mk (ZM d t tx c p) (ZM d t tx c p) x4.f) tx)).tx),S ((Y8 (Zcc (Link.mk (ZM d t tx c p) (ZM d t tx c p) x4.f) tx)).vd),v26] U U Yl U U (by simp only [ZA,A23.oneC] <;> rfl) U U U (fun w38 S46=>?_)
    have T14:=S46.shutB N9
    obtain ⟨G20,L20,C10,S47⟩:=T14
    refine Qn (d:=124) U (fun (h12 : ((Zcc (Link.mk (ZM d t tx c p) (ZM d t tx c p) x4.f) tx).isSome) = true)=>?_) (fun (h12 : ((Zcc (Link.mk (ZM d t tx c p) (ZM d t tx c p) x4.f) tx).isSome) = false)=>?_)
    ·refine WL.build _ [] [Za [],Ze,S 0,Ze,Ze,S 0] Zm U QF U U U U ?_
     refine Zi S47 3 [Za [],Ze,S 0,Ze,Ze,S 0] U U Zm U U U U U U (fun w39 S48=>?_)
     exact Xr [.agg #[Za [],Ze,S 0,Ze,Ze,S 0],S 15] S48 ⟨_,_,_,U,U,S48.loadA 3 _ _ _ 0 [Za [],Ze,S 0,Ze,Ze,S 0] U U U Zm U,⟨_,U,U⟩⟩ ⟨_,_,U,(Is.cast ⟨_,U,(Zo (Table.mk (Schema.mk [] [] 0 []) [] 0) (by simp [reach]) (Sl.nil ColE 24 G20) ZP (Sl.nil ForeignE 40 G20) (Sl.nil HRowE 56 G20) ZP)⟩ (by with_reducible exact (ZpJ hok ‹_› ‹_› (by first | exact (Zhg ‹_›).trans ‹_› | exact (Zhh ‹_›).trans ‹_›)).1)),(congrArg (Value.int .i64) (by with_reducible exact (ZpJ hok ‹_› ‹_› (by first | exact (Zhg ‹_›).trans ‹_› | exact (Zhh ‹_›).trans ‹_›)).2))⟩
    refine Zj k4 (by have:=Zc; omega) U U U ?_
    have S49:=S47.tail
    exact BK.mk' _ ⟨k4 + 1,G20,U,(L18.trans (L19.trans L20)),S49,(Zq U),(by omega),(by with_reducible exact ZW ‹_› ‹_› (by exact (Zhg ‹_›).trans ‹_›))⟩ (show (QA t (YV t l ++ [t])).length - (k4 + 1) < (QA t (YV t l ++ [t])).length - k4 by omega)
   have h11 : x4.t.s.name ≠ t.s.name:=by simpa [SCmp.b] using h0
   clear h0
   refine Yg S42 0 _ _ _ 0 [Za x4.t.s.name,v19,S x4.t.s.key,v20,v21,S x4.t.last,Za ((ZM d t tx c p).s.name),v16,S ((ZM d t tx c p).s.key),v17,v18,S ((ZM d t tx c p).last),v25,Za x4.f.table] U U U Zcu U U U ?_
   refine Z9 S42 Zxg U U U (Zvb S42.imm (Link.mk x4.t (ZM d t tx c p) x4.f) tx _ (ZcV (Link.mk x4.t (ZM d t tx c p) x4.f) ZbZ A15 Zaq A16 A17 Zcw ZaI (A12.mono j8) ZaJ (A13.mono j8) (A14.mono j8) Zcv A21 Zge) hW.tx.1 (by exact (Zvg hW hov hok ‹_›).1)) ?_
   rintro w40 G21 _ ⟨r10,_,rfl,A24,rfl⟩ S50 L21
   obtain ⟨D5,rfl,R13⟩:=A24
   have T15:=QG R13
   obtain ⟨v27,rfl,ZhB,ZhC,A25⟩:=T15
   refine WL.alloc S50 Yl U U (fun b10 w41 N10 S51=>?_)
   refine Zi S51 0 [S ((Y8 (Zcc (Link.mk x4.t (ZM d t tx c p) x4.f) tx)).tx),S ((Y8 (Zcc (Link.mk x4.t (ZM d t tx c p) x4.f) tx)).vd),v27] U U Yl U U (by simp only [ZA,A25.oneC] <;> rfl) U U U (fun w42 S52=>?_)
   have T16:=S52.shutB N10
   obtain ⟨G22,L22,C11,S53⟩:=T16
   refine Qn (d:=124) U (fun (h13 : ((Zcc (Link.mk x4.t (ZM d t tx c p) x4.f) tx).isSome) = true)=>?_) (fun (h13 : ((Zcc (Link.mk x4.t (ZM d t tx c p) x4.f) tx).isSome) = false)=>?_)
   ·refine WL.build _ [] [Za [],Ze,S 0,Ze,Ze,S 0] Zm U QF U U U U ?_
    refine Zi S53 3 [Za [],Ze,S 0,Ze,Ze,S 0] U U Zm U U U U U U (fun w43 S54=>?_)
    exact Xr [.agg #[Za [],Ze,S 0,Ze,Ze,S 0],S 15] S54 ⟨_,_,_,U,U,S54.loadA 3 _ _ _ 0 [Za [],Ze,S 0,Ze,Ze,S 0] U U U Zm U,⟨_,U,U⟩⟩ ⟨_,_,U,(Is.cast ⟨_,U,(Zo (Table.mk (Schema.mk [] [] 0 []) [] 0) (by simp [reach]) (Sl.nil ColE 24 G22) ZP (Sl.nil ForeignE 40 G22) (Sl.nil HRowE 56 G22) ZP)⟩ (by with_reducible exact (ZpJ hok ‹_› ‹_› (by first | exact (Zhg ‹_›).trans ‹_› | exact (Zhh ‹_›).trans ‹_›)).1)),(congrArg (Value.int .i64) (by with_reducible exact (ZpJ hok ‹_› ‹_› (by first | exact (Zhg ‹_›).trans ‹_› | exact (Zhh ‹_›).trans ‹_›)).2))⟩
   refine Zj k4 (by have:=Zc; omega) U U U ?_
   have S55:=S53.tail
   exact BK.mk' _ ⟨k4 + 1,G22,U,(L18.trans (L21.trans L22)),S55,(Zq U),(by omega),(by with_reducible exact ZW ‹_› ‹_› (by exact (Zhh ‹_›).trans ‹_›))⟩ (show (QA t (YV t l ++ [t])).length - (k4 + 1) < (QA t (YV t l ++ [t])).length - k4 by omega)
  refine Zb S39 (C9.mono L18) [Za ((ZM d t tx c p).s.name),v16,S ((ZM d t tx c p).s.key),v17,v18,S ((ZM d t tx c p).last)] Zm U U U U U ?_
  have j9:=(L17.trans L18)
  refine Zi S39 2 [Za ((ZM d t tx c p).s.name),v16,S ((ZM d t tx c p).s.key),v17,v18,S ((ZM d t tx c p).last)] U U Zm U U (by simp only [ZA,(A12.mono j9).oneC,(A13.mono j9).oneC,(A14.mono j9).oneC] <;> rfl) U U U (fun w44 S56=>?_)
  exact Xr [.agg #[Za ((ZM d t tx c p).s.name),v16,S ((ZM d t tx c p).s.key),v17,v18,S ((ZM d t tx c p).last)],S 0] S56 ⟨_,_,_,U,U,S56.loadA 2 _ _ _ 0 [Za ((ZM d t tx c p).s.name),v16,S ((ZM d t tx c p).s.key),v17,v18,S ((ZM d t tx c p).last)] U U U Zm U,⟨_,U,U⟩⟩ ⟨_,_,U,(Is.cast ⟨_,U,(Zo (ZM d t tx c p) ZaI (A12.mono j9) ZaJ (A13.mono j9) (A14.mono j9) Zcv)⟩ (by with_reducible exact (Zyn hok ‹_› ‹_› (by omega)).1)),(congrArg (Value.int .i64) (by with_reducible exact (Zyn hok ‹_› ‹_› (by omega)).2))⟩
 refine WL.build _ [] [Za [],Ze,S 0,Ze,Ze,S 0] Zm U QF U U U U ?_
 refine Zi S5 0 [Za [],Ze,S 0,Ze,Ze,S 0] U U Zm U U U U U U (fun w45 S57=>?_)
 exact Xr [.agg #[Za [],Ze,S 0,Ze,Ze,S 0],S 1] S57 ⟨_,_,_,U,U,S57.loadA 0 _ _ _ 0 [Za [],Ze,S 0,Ze,Ze,S 0] U U U Zm U,⟨_,U,U⟩⟩ ⟨_,_,U,(Is.cast ⟨_,U,(Zo (Table.mk (Schema.mk [] [] 0 []) [] 0) (by simp [reach]) (Sl.nil ColE 24 G4) ZP (Sl.nil ForeignE 40 G4) (Sl.nil HRowE 56 G4) ZP)⟩ (by with_reducible exact (ZgE (Zll ‹_›)).1)),(congrArg (Value.int .i64) (by with_reducible exact (ZgE (Zll ‹_›)).2))⟩
end Go.Civ
