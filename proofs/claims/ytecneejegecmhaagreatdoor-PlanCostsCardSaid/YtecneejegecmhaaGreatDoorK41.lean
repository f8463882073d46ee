/- Lemmas. -/
import Derived.Test.YtecneejegecmhaaGreatDoorK38
set_option linter.unusedVariables false
set_option linter.unusedSimpArgs false
set_option linter.unusedVariables false
set_option linter.unusedSimpArgs false
set_option maxRecDepth 100000
set_option maxHeartbeats 4000000
namespace Go.Civ
open Go.Proofs
theorem Zqf {G : GH} {w : World} (hG : G.In w) (x : Stp) (i : Int) (cx : List Value) (hcx : StpE.rep G x cx) : CL Tryz.prog (nat_lit 28) #[.agg cx.toArray,U i] [] w G fun _ _ r=>r = .bool (Xu x i):=by
 refine Zg ft [] Tryz.func28 V V ?_
 have hS:=St.start (X:=[]) hG
 have T1:=Q8 hcx
 obtain ⟨v1,v2,v3,v4,v5,rfl,B1,B2,A1,A2,Z7,Z5,ZD,hb6,hb7,ZV,A3,hb9,ZI,ZJ,ZL,A4,Y0,Y6,A5,YA,Y9⟩:=T1
 refine Z4 (SV x.q v1 v2 v3 v4 (U x.a) (U x.b) v5 (U x.span.a) (U x.span.b)) _ hS V V V (fun p1 w1 G1 L1 M1 C1 S1=>?_)
 refine Z S1 (Xh.drop 0 (Xh.drop 0 C1)) Zk V V V ?_
 refine Zl S1 Zel V V V (ZgQ S1.imm x.q.kind) (fun w2 G2 S2 L2=>?_)
 refine Zc S2 (Xh.drop 0 (C1.mono L2)) (QV x.q v1 v2 v3 v4) Zt V V V V V ?_
 refine WL.alloc S2 Zt V V (fun b1 w3 N1 S3=>?_)
 have j1:=(L1.trans L2)
 refine WL.store S3 0 _ _ _ 0 _ (QV x.q v1 v2 v3 v4) (QV x.q v1 v2 v3 v4) _ V V Zt V (ZZ V) (by simp only [YE,(A1.mono j1).oneC,(A2.mono j1).oneC,(A3.mono j1).oneC,(A4.mono j1).oneC] <;> rfl) V V V V V (fun w4 S4=>?_)
 refine Yz S4 0 _ _ _ 15 _ V V Yu V V V ?_
 have V1:=A4.bound
 refine Zm (A4.mono j1) Y1 V V ?_
 refine Zz (x.q.l.length : Int) 0 V V V (fun h1=>?_) (fun h1=>?_)
 ·exact RB S4 V (by exact sr (ZcQ (by omega)))
 refine WL.store S4 0 _ _ _ 15 _ [Zf] (QV x.q v1 v2 v3 (Zf)) _ V V Yu V (ZZ V) V V V V V V (fun w5 S5=>?_)
 have S6:=S5.pad
 refine LP.go ft [] (fun m ρ1 w1=>∃ (k1 : Nat),∃ (v6 : Value) (o1 : OB),∃ (G3 : GH),m = (ZT x.q.kind).toNat - k1 ∧ G2.le G3 ∧ St w [] G G3 [o1,some (b1,39,(QV x.q v1 v2 v3 v6))] w1 ∧ YX QryE 224 39 G3 v6 (List.replicate k1 scT) o1 ∧ FR ρ1 [(1,U i),(2,ZP p1),(5,U (ZT x.q.kind)),(6, .pointer (some ⟨b1,0,none⟩)),(7,U (k1 : Int))] ∧ k1 ≤ (ZT x.q.kind).toNat) _ ⟨0,(Zf),none,G2,V,(G2.le_refl),S6,(YX.cast (YX.nil QryE 224 39 G2) (by rfl)),(ZS V),(by omega)⟩ ?_
 rintro m ρ1 w6 ⟨k1,v6,o1,G3,rfl,L3,S7,R1,F9,f1⟩
 refine F9.set ?_
 clear F9
 have hob:=@Zbq x.q.kind
 refine Zp (k1 : Int) (ZT x.q.kind) V V V (fun h2=>?_) (fun h2=>?_)
 ·refine Yz S7 1 _ _ _ 15 _ V V Yu V V V <| WL.build _ [(0,[U 1]),(1,[Za [116]])] [U 1,Za [116],Zf,Zf,U 0,Za [],Za [],U 0,U 0,Za [],Zf,U 0,U 0,U 0,U 0,Zf] Zt V ZfZ V V V V ?_
  refine WL.buildSlice _ [(0,[U 1,Za [116],Zf,Zf,U 0,Za [],Za [],U 0,U 0,Za [],Zf,U 0,U 0,U 0,U 0,Zf])] [U 1,Za [116],Zf,Zf,U 0,Za [],Za [],U 0,U 0,Za [],Zf,U 0,U 0,U 0,U 0,Zf] S7 Zbb V V V V (fun z hz=>by match z,hz with | [z0,z1,z2,z3,z4,z5,z6,z7,z8,z9,z10,z11,z12,z13,z14,z15],_=>rfl) (fun b2 w7 N2 S8=>?_)
  refine WL.push (m:=([(Query.mk 1 [116] [] [] (Cond.mk 0 [] [] (Val.mk 0 0 []) []) 0 0 (Span.mk 0 0) [])] : List Query)) Zbb V V V R1 S8 1 V 0 _ _ _ _ _ V ⟨[U 1,Za [116],Zf,Zf,U 0,Za [],Za [],U 0,U 0,Za [],Zf,U 0,U 0,U 0,U 0,Zf],_,V,(Zr (Query.mk 1 [116] [] [] (Cond.mk 0 [] [] (Val.mk 0 0 []) []) 0 0 (Span.mk 0 0) []) (show Zj 1 from by constructor <;> decide) (by simp [reach]) (Sl.nil Enc.str 16 G3) (Sl.nil Enc.str 16 G3) Yf (by simp [reach]) (by simp [reach]) Yf Yf (by simp [reach]) (Sl.nil CndE 96 G3) Yf Yf Yf Yf (Sl.nil QryE 224 G3)),V⟩ V (by have:=Zb; simp only [List.length_append,List.length_replicate,List.length_take,List.length_cons,List.length_nil]; omega) (by have:=Zb; simp only [List.length_append,List.length_replicate,List.length_take,List.length_cons,List.length_nil]; omega) V V V (fun v7 o2 w9 R2 S9=>?_)
  have S10:=S9.tail
  refine WL.store S10 1 _ _ _ 15 _ [v7] (QV x.q v1 v2 v3 v7) _ V R2.cells1 Yu V (ZZ V) (by simp only [YE,R2.oneC] <;> rfl) V V V V V (fun w10 S11=>?_)
  refine Zq k1 (by have:=Zb; omega) V V V ?_
  exact BK.mk' _ ⟨k1 + 1,v7,o2,G3,V,L3,S11,(YX.cast R2 (by (exact ZnH))),(ZS V),(by omega)⟩ (show (ZT x.q.kind).toNat - (k1 + 1) < (ZT x.q.kind).toNat - k1 by omega)
 have T2:=YX.freeze R1 S7 0 V
 obtain ⟨G4,L4,A6,S12⟩:=T2
 have hsc9:=Sl.cast (l':=(List.replicate (ZT x.q.kind).toNat scT)) A6 (by congr 1; omega)
 have hrq : Xx (rwQ x.q) (Y7 (rwQ x.q)):=QI _
 refine Yp S12 1 _ _ _ 0 (QV x.q v1 v2 v3 v6) V V V Zt V V V ?_
 have j2:=((j1.trans L3).trans L4)
 refine Zl S12 Zfe V V V (ZrJ S12.imm (Y7 (rwQ x.q)) (Query.mk x.q.kind x.q.table x.q.cols x.q.names x.q.cond x.q.rel x.q.fn x.q.span (List.replicate (ZT x.q.kind).toNat scT)) _ (Zr (Query.mk x.q.kind x.q.table x.q.cols x.q.names x.q.cond x.q.rel x.q.fn x.q.span (List.replicate (ZT x.q.kind).toNat scT)) B1 B2 (A1.mono j2) (A2.mono j2) Z7 Z5 ZD hb6 hb7 ZV (A3.mono j2) hb9 ZI ZJ ZL hsc9) hrq) (fun w11 G5 S13 L5=>?_)
 refine WL.split (fun (h3 : (Xd (Y7 (rwQ x.q)) (Query.mk x.q.kind x.q.table x.q.cols x.q.names x.q.cond x.q.rel x.q.fn x.q.span (List.replicate (ZT x.q.kind).toNat scT))) = true)=>?_) (fun (h3 : (Xd (Y7 (rwQ x.q)) (Query.mk x.q.kind x.q.table x.q.cols x.q.names x.q.cond x.q.rel x.q.fn x.q.span (List.replicate (ZT x.q.kind).toNat scT))) = false)=>?_)
 ·have j3:=(((L2.trans L3).trans L4).trans L5)
  refine Z S13 (Xh.drop 18 (C1.mono j3)) QX V V V ?_
  have V2:=A5.bound
  have j4:=(j2.trans L5)
  refine Zm (A5.mono j4) QM V V ?_
  refine Z1 (x.keys.length : Int) 8 V V V (fun h4=>?_) (fun h4=>?_)
  ·exact RB S13 V (by exact sr (ZwC (by omega)))
  refine Z S13 (Xh.drop 18 (C1.mono j3)) QX V V V ?_
  have V3:=A5.bound
  refine Zm (A5.mono j4) QM V V ?_
  refine Z1 (x.keys.length : Int) 0 V V V (fun h5=>?_) (fun h5=>?_)
  ·refine Yz S13 1 _ _ _ 0 _ V V Zk V V V ?_
   refine Zz x.q.kind 5 V V V (fun h6=>?_) (fun h6=>?_)
   ·exact RB S13 V (by exact sr (ZwD (by omega) ‹_›))
   refine Zc S13 (Xh.drop 19 (C1.mono j3)) [U x.span.a,U x.span.b] Y5 V V V V V <| WL.build _ [] [U 0,U 0] Y5 V ZbL V V V V <| ZaZ (QT x.span (Span.mk 0 0)) ZbG V V V ?_
   refine WL.split (fun (h7 : (!decide (x.span = (Span.mk 0 0))) = true)=>?_) (fun (h7 : (!decide (x.span = (Span.mk 0 0))) = false)=>?_)
   ·refine Yz S13 1 _ _ _ 0 _ V V Zk V V V ?_
    refine Zz x.q.kind 1 V V V (fun h8=>?_) (fun h8=>?_)
    ·exact RB S13 V (by exact sr (Zry (ntT ‹_›) (by exact .inl ‹_›)))
    omega
   refine LP.go ft [] (fun m ρ1 w1=>∃ (k2 : Nat),∃ (G6 : GH),m = x.keys.length - k2 ∧ G5.le G6 ∧ St w [] G G6 [none,some (b1,39,(QV x.q v1 v2 v3 v6))] w1 ∧ FR ρ1 [(1,U i),(2,ZP p1),(5,U (ZT x.q.kind)),(8,U (k2 : Int))] ∧ k2 ≤ x.keys.length ∧ ∀ j,j < k2 → ∀ y,x.keys[j]? = some y → kyB y = true) _ ⟨0,G5,V,(G5.le_refl),S13,(ZS V),(by omega),(by intro j hj; omega)⟩ ?_
   rintro m ρ1 w12 ⟨k2,G6,rfl,L6,S14,F9,f2,f3⟩
   refine F9.set ?_
   clear F9
   have j5:=(j3.trans L6)
   refine Z S14 (Xh.drop 18 (C1.mono j5)) QX V V V ?_
   have V4:=A5.bound
   have j6:=(j4.trans L6)
   refine Zm (A5.mono j6) QM V V ?_
   refine Zp (k2 : Int) (x.keys.length : Int) V V V (fun h9=>?_) (fun h9=>?_)
   ·refine Z S14 (Xh.drop 18 (C1.mono j5)) QX V V V ?_
    refine WL.indexAddr (A5.mono j6) k2 (by omega) QM QO V V V V (fun p2 x1 U1 E1=>?_)
    obtain ⟨D1,C2,R3⟩:=E1
    have T3:=XK R3
    obtain ⟨rfl,Yr,YH⟩:=T3
    refine Yy _ 2 0 V QP Zk V V V <| Z S14 (Xh.drop 0 C2) Zk V V V ?_
    refine Zp x1.1 0 V V V (fun h10=>?_) (fun h10=>?_)
    ·exact RB S14 V (by exact sr (ZiE ‹_› (by omega)))
    refine Z S14 (Xh.drop 18 (C1.mono j5)) QX V V V ?_
    refine WL.indexAddr (A5.mono j6) k2 (by omega) QM QO V V V V (fun p3 x2 U2 E2=>?_)
    have T4 : x1 = x2:=Option.some.inj (U1.symm.trans U2)
    obtain rfl:=T4
    obtain ⟨D2,C3,R4⟩:=E2
    have T5:=XK R4
    obtain ⟨rfl,YJ,YO⟩:=T5
    refine Yy _ 2 1 V QP Zk V V V <| Z S14 (Xh.drop 1 C3) Zk V V V ?_
    refine Zp x1.2 0 V V V (fun h11=>?_) (fun h11=>?_)
    ·exact RB S14 V (by exact sr (ZiE ‹_› (by omega)))
    refine Z S14 (Xh.drop 18 (C1.mono j5)) QX V V V ?_
    refine WL.indexAddr (A5.mono j6) k2 (by omega) QM QO V V V V (fun p4 x3 U3 E3=>?_)
    have T6 : x1 = x3:=Option.some.inj (U1.symm.trans U3)
    obtain rfl:=T6
    obtain ⟨D3,C4,R5⟩:=E3
    have T7:=XK R5
    obtain ⟨rfl,Xf,Xg⟩:=T7
    refine Yy _ 2 0 V QP Zk V V V <| Z S14 (Xh.drop 0 C4) Zk V V V ?_
    refine ZM x1.1 8 V V V (fun h12=>?_) (fun h12=>?_)
    ·exact RB S14 V (by exact sr (ZiE ‹_› (by omega)))
    refine Z S14 (Xh.drop 18 (C1.mono j5)) QX V V V ?_
    refine WL.indexAddr (A5.mono j6) k2 (by omega) QM QO V V V V (fun p5 x4 U4 E4=>?_)
    have T8 : x1 = x4:=Option.some.inj (U1.symm.trans U4)
    obtain rfl:=T8
    obtain ⟨D4,C5,R6⟩:=E4
    have T9:=XK R6
    obtain ⟨rfl,YK,Xc⟩:=T9
    refine Yy _ 2 1 V QP Zk V V V <| Z S14 (Xh.drop 1 C5) Zk V V V ?_
    refine ZM x1.2 8 V V V (fun h13=>?_) (fun h13=>?_)
    ·exact RB S14 V (by exact sr (ZiE ‹_› (by omega)))
    refine Zq k2 (by have:=Zb; omega) V V V ?_
    exact BK.mk' _ ⟨k2 + 1,G6,V,L6,S14,(ZS V),(by omega),(by exact Ys ‹_› ‹_› (Zl1 (by omega)))⟩ (show x.keys.length - (k2 + 1) < x.keys.length - k2 by omega)
   have hry : Qg x = true:=Zrz (k:=k2) (by omega) ((Zik hrq).trans ‹_›) (by omega) (by exact .inr ‹_›) (by exact .inl (ntF ‹_›)) ‹_› (by omega)
   refine Z S14 (Xh.drop 16 (C1.mono j5)) Zk V V V <| Yd .geq V .i64 (ZT x.q.kind) 1 V V V ?_
   refine Zl S14 Zcn V V V (Za6 S14.imm x.a i (Cmp.b .geq (ZT x.q.kind) 1)) (fun w13 G7 S15 L7=>?_)
   refine WL.split (fun (h14 : (Zar x.a i (Cmp.b .geq (ZT x.q.kind) 1)) = true)=>?_) (fun (h14 : (Zar x.a i (Cmp.b .geq (ZT x.q.kind) 1)) = false)=>?_)
   ·refine Z S15 (Xh.drop 17 (C1.mono (j5.trans L7))) Zk V V V <| Yd .eql V .i64 (ZT x.q.kind) 2 V V V ?_
    refine Zl S15 Zcn V V V (Za6 S15.imm x.b i (Cmp.b .eql (ZT x.q.kind) 2)) (fun w14 G9 S16 L9=>?_)
    exact RB S16 V (by exact Zr1 hry ‹_›)
   exact RB S15 V (by exact Zr0 hry ‹_›)
  refine Zc S13 (Xh.drop 19 (C1.mono j3)) [U x.span.a,U x.span.b] Y5 V V V V V <| WL.build _ [] [U 0,U 0] Y5 V ZbL V V V V <| ZaZ (QT x.span (Span.mk 0 0)) ZbG V V V ?_
  refine WL.split (fun (h15 : (!decide (x.span = (Span.mk 0 0))) = true)=>?_) (fun (h15 : (!decide (x.span = (Span.mk 0 0))) = false)=>?_)
  ·refine Yz S13 1 _ _ _ 0 _ V V Zk V V V ?_
   refine Zz x.q.kind 1 V V V (fun h16=>?_) (fun h16=>?_)
   ·exact RB S13 V (by exact sr (Zry (ntT ‹_›) (by exact .inl ‹_›)))
   refine Zc S13 (Xh.drop 19 (C1.mono j3)) [U x.span.a,U x.span.b] Y5 V V V V V ?_
   refine Zl S13 Zff V V V (Zqe S13.imm x.span _ (QD x.span YA Y9)) (fun w15 G10 S17 L10=>?_)
   refine WL.split (fun (h17 : (ZF x.span) = true)=>?_) (fun (h17 : (ZF x.span) = false)=>?_)
   ·refine LP.go ft [] (fun m ρ1 w1=>∃ (k2 : Nat),∃ (G11 : GH),m = x.keys.length - k2 ∧ G10.le G11 ∧ St w [] G G11 [none,some (b1,39,(QV x.q v1 v2 v3 v6))] w1 ∧ FR ρ1 [(1,U i),(2,ZP p1),(5,U (ZT x.q.kind)),(8,U (k2 : Int))] ∧ k2 ≤ x.keys.length ∧ ∀ j,j < k2 → ∀ y,x.keys[j]? = some y → kyB y = true) _ ⟨0,G10,V,(G10.le_refl),S17,(ZS V),(by omega),(by intro j hj; omega)⟩ ?_
    rintro m ρ1 w16 ⟨k2,G11,rfl,L11,S18,F9,f4,f5⟩
    refine F9.set ?_
    clear F9
    have j7:=((j3.trans L10).trans L11)
    refine Z S18 (Xh.drop 18 (C1.mono j7)) QX V V V ?_
    have V5:=A5.bound
    have j8:=((j4.trans L10).trans L11)
    refine Zm (A5.mono j8) QM V V ?_
    refine Zp (k2 : Int) (x.keys.length : Int) V V V (fun h18=>?_) (fun h18=>?_)
    ·refine Z S18 (Xh.drop 18 (C1.mono j7)) QX V V V ?_
     refine WL.indexAddr (A5.mono j8) k2 (by omega) QM QO V V V V (fun p6 x5 U5 E5=>?_)
     obtain ⟨D5,C6,R7⟩:=E5
     have T10:=XK R7
     obtain ⟨rfl,XR,Qa⟩:=T10
     refine Yy _ 2 0 V QP Zk V V V <| Z S18 (Xh.drop 0 C6) Zk V V V ?_
     refine Zp x5.1 0 V V V (fun h19=>?_) (fun h19=>?_)
     ·exact RB S18 V (by exact sr (ZcQ (by omega)))
     refine Z S18 (Xh.drop 18 (C1.mono j7)) QX V V V ?_
     refine WL.indexAddr (A5.mono j8) k2 (by omega) QM QO V V V V (fun p7 x6 U6 E6=>?_)
     have T11 : x5 = x6:=Option.some.inj (U5.symm.trans U6)
     obtain rfl:=T11
     obtain ⟨D6,C7,R8⟩:=E6
     have T12:=XK R8
     obtain ⟨rfl,Qh,Q0⟩:=T12
     refine Yy _ 2 1 V QP Zk V V V <| Z S18 (Xh.drop 1 C7) Zk V V V ?_
     refine Zp x5.2 0 V V V (fun h20=>?_) (fun h20=>?_)
     ·exact RB S18 V (by exact sr (ZcQ (by omega)))
     refine Z S18 (Xh.drop 18 (C1.mono j7)) QX V V V ?_
     refine WL.indexAddr (A5.mono j8) k2 (by omega) QM QO V V V V (fun p8 x7 U7 E7=>?_)
     have T13 : x5 = x7:=Option.some.inj (U5.symm.trans U7)
     obtain rfl:=T13
     obtain ⟨D7,C8,R9⟩:=E7
     have T14:=XK R9
     obtain ⟨rfl,Qs,Q1⟩:=T14
     refine Yy _ 2 0 V QP Zk V V V <| Z S18 (Xh.drop 0 C8) Zk V V V ?_
     refine ZM x5.1 8 V V V (fun h21=>?_) (fun h21=>?_)
     ·exact RB S18 V (by exact sr (ZcQ (by omega)))
     refine Z S18 (Xh.drop 18 (C1.mono j7)) QX V V V ?_
     refine WL.indexAddr (A5.mono j8) k2 (by omega) QM QO V V V V (fun p9 x9 U8 E8=>?_)
     have T15 : x5 = x9:=Option.some.inj (U5.symm.trans U8)
     obtain rfl:=T15
     obtain ⟨D8,C9,R10⟩:=E8
     have T16:=XK R10
     obtain ⟨rfl,Qb,Xw⟩:=T16
     refine Yy _ 2 1 V QP Zk V V V <| Z S18 (Xh.drop 1 C9) Zk V V V ?_
     refine ZM x5.2 8 V V V (fun h22=>?_) (fun h22=>?_)
     ·exact RB S18 V (by exact sr (ZcQ (by omega)))
     refine Zq k2 (by have:=Zb; omega) V V V ?_
     exact BK.mk' _ ⟨k2 + 1,G11,V,L11,S18,(ZS V),(by omega),(by exact Ys ‹_› ‹_› (Zl1 (by omega)))⟩ (show x.keys.length - (k2 + 1) < x.keys.length - k2 by omega)
    have hry : Qg x = true:=Zrz (k:=k2) (by omega) ((Zik hrq).trans ‹_›) (by omega) (by exact .inl (by omega)) (by exact .inr ⟨‹_›,‹_›⟩) ‹_› (by omega)
    refine Z S18 (Xh.drop 16 (C1.mono j7)) Zk V V V <| Yd .geq V .i64 (ZT x.q.kind) 1 V V V ?_
    refine Zl S18 Zcn V V V (Za6 S18.imm x.a i (Cmp.b .geq (ZT x.q.kind) 1)) (fun w17 G12 S19 L12=>?_)
    refine WL.split (fun (h23 : (Zar x.a i (Cmp.b .geq (ZT x.q.kind) 1)) = true)=>?_) (fun (h23 : (Zar x.a i (Cmp.b .geq (ZT x.q.kind) 1)) = false)=>?_)
    ·refine Z S19 (Xh.drop 17 (C1.mono (j7.trans L12))) Zk V V V <| Yd .eql V .i64 (ZT x.q.kind) 2 V V V ?_
     refine Zl S19 Zcn V V V (Za6 S19.imm x.b i (Cmp.b .eql (ZT x.q.kind) 2)) (fun w18 G13 S20 L13=>?_)
     exact RB S20 V (by exact Zr1 hry ‹_›)
    exact RB S19 V (by exact Zr0 hry ‹_›)
   exact RB S17 V (by exact sr (Zry (ntT ‹_›) (by exact .inr ‹_›)))
  refine LP.go ft [] (fun m ρ1 w1=>∃ (k2 : Nat),∃ (G14 : GH),m = x.keys.length - k2 ∧ G5.le G14 ∧ St w [] G G14 [none,some (b1,39,(QV x.q v1 v2 v3 v6))] w1 ∧ FR ρ1 [(1,U i),(2,ZP p1),(5,U (ZT x.q.kind)),(8,U (k2 : Int))] ∧ k2 ≤ x.keys.length ∧ ∀ j,j < k2 → ∀ y,x.keys[j]? = some y → kyB y = true) _ ⟨0,G5,V,(G5.le_refl),S13,(ZS V),(by omega),(by intro j hj; omega)⟩ ?_
  rintro m ρ1 w19 ⟨k2,G14,rfl,L14,S21,F9,f6,f7⟩
  refine F9.set ?_
  clear F9
  have j9:=(j3.trans L14)
  refine Z S21 (Xh.drop 18 (C1.mono j9)) QX V V V ?_
  have V6:=A5.bound
  have j10:=(j4.trans L14)
  refine Zm (A5.mono j10) QM V V ?_
  refine Zp (k2 : Int) (x.keys.length : Int) V V V (fun h24=>?_) (fun h24=>?_)
  ·refine Z S21 (Xh.drop 18 (C1.mono j9)) QX V V V ?_
   refine WL.indexAddr (A5.mono j10) k2 (by omega) QM QO V V V V (fun p10 x10 U9 E9=>?_)
   obtain ⟨D9,C10,R11⟩:=E9
   have T17:=XK R11
   obtain ⟨rfl,Qt,XS⟩:=T17
   refine Yy _ 2 0 V QP Zk V V V <| Z S21 (Xh.drop 0 C10) Zk V V V ?_
   refine Zp x10.1 0 V V V (fun h25=>?_) (fun h25=>?_)
   ·exact RB S21 V (by exact sr (ZcQ (by omega)))
   refine Z S21 (Xh.drop 18 (C1.mono j9)) QX V V V ?_
   refine WL.indexAddr (A5.mono j10) k2 (by omega) QM QO V V V V (fun p11 x11 U10 E10=>?_)
   have T18 : x10 = x11:=Option.some.inj (U9.symm.trans U10)
   obtain rfl:=T18
   obtain ⟨D10,C11,R12⟩:=E10
   have T19:=XK R12
   obtain ⟨rfl,Qc,Qu⟩:=T19
   refine Yy _ 2 1 V QP Zk V V V <| Z S21 (Xh.drop 1 C11) Zk V V V ?_
   refine Zp x10.2 0 V V V (fun h26=>?_) (fun h26=>?_)
   ·exact RB S21 V (by exact sr (ZcQ (by omega)))
   refine Z S21 (Xh.drop 18 (C1.mono j9)) QX V V V ?_
   refine WL.indexAddr (A5.mono j10) k2 (by omega) QM QO V V V V (fun p12 x12 U11 E11=>?_)
   have T20 : x10 = x12:=Option.some.inj (U9.symm.trans U11)
   obtain rfl:=T20
   obtain ⟨D11,C12,R13⟩:=E11
   have T21:=XK R13
   obtain ⟨rfl,Zbc,ZcR⟩:=T21
   refine Yy _ 2 0 V QP Zk V V V <| Z S21 (Xh.drop 0 C12) Zk V V V ?_
   refine ZM x10.1 8 V V V (fun h27=>?_) (fun h27=>?_)
   ·exact RB S21 V (by exact sr (ZcQ (by omega)))
   refine Z S21 (Xh.drop 18 (C1.mono j9)) QX V V V ?_
   refine WL.indexAddr (A5.mono j10) k2 (by omega) QM QO V V V V (fun p13 x13 U12 E12=>?_)
   have T22 : x10 = x13:=Option.some.inj (U9.symm.trans U12)
   obtain rfl:=T22
   obtain ⟨D12,C13,R14⟩:=E12
   have T23:=XK R14
   obtain ⟨rfl,Zbd,Zck⟩:=T23
   refine Yy _ 2 1 V QP Zk V V V <| Z S21 (Xh.drop 1 C13) Zk V V V ?_
   refine ZM x10.2 8 V V V (fun h28=>?_) (fun h28=>?_)
   ·exact RB S21 V (by exact sr (ZcQ (by omega)))
   refine Zq k2 (by have:=Zb; omega) V V V ?_
   exact BK.mk' _ ⟨k2 + 1,G14,V,L14,S21,(ZS V),(by omega),(by exact Ys ‹_› ‹_› (Zl1 (by omega)))⟩ (show x.keys.length - (k2 + 1) < x.keys.length - k2 by omega)
  have hry : Qg x = true:=Zrz (k:=k2) (by omega) ((Zik hrq).trans ‹_›) (by omega) (by exact .inl (by omega)) (by exact .inl (ntF ‹_›)) ‹_› (by omega)
  refine Z S21 (Xh.drop 16 (C1.mono j9)) Zk V V V <| Yd .geq V .i64 (ZT x.q.kind) 1 V V V ?_
  refine Zl S21 Zcn V V V (Za6 S21.imm x.a i (Cmp.b .geq (ZT x.q.kind) 1)) (fun w20 G15 S22 L15=>?_)
  refine WL.split (fun (h29 : (Zar x.a i (Cmp.b .geq (ZT x.q.kind) 1)) = true)=>?_) (fun (h29 : (Zar x.a i (Cmp.b .geq (ZT x.q.kind) 1)) = false)=>?_)
  ·refine Z S22 (Xh.drop 17 (C1.mono (j9.trans L15))) Zk V V V <| Yd .eql V .i64 (ZT x.q.kind) 2 V V V ?_
   refine Zl S22 Zcn V V V (Za6 S22.imm x.b i (Cmp.b .eql (ZT x.q.kind) 2)) (fun w21 G16 S23 L16=>?_)
   exact RB S23 V (by exact Zr1 hry ‹_›)
  exact RB S22 V (by exact Zr0 hry ‹_›)
 exact RB S13 V (by exact sr (ZwB ((Zik hrq).trans ‹_›)))
theorem Zog {G : GH} {w : World} (hG : G.In w) (p : Pln) (cp : List Value) (hcp : PlnE.rep G p cp) : CL Tryz.prog (nat_lit 9) #[.agg cp.toArray] [] w G fun _ _ r=>r = .bool (XC p):=by
 refine Zg ft [] Tryz.func9 V V ?_
 have hS:=St.start (X:=[]) hG
 have T1:=Za8 hcp
 obtain ⟨v1,v2,rfl,A1,A2⟩:=T1
 refine Z4 [v1,v2] _ hS V V V (fun p1 w1 G1 L1 M1 C1 S1=>?_)
 refine Z S1 (Xh.drop 0 C1) QG V V V ?_
 have V1:=A1.bound
 refine Zm (A1.mono L1) QS V V ?_
 refine Zp (p.steps.length : Int) 1 V V V (fun h1=>?_) (fun h1=>?_)
 ·exact RB S1 V (by exact Zfb (by omega))
 refine Z1 (p.steps.length : Int) 60 V V V (fun h2=>?_) (fun h2=>?_)
 ·exact RB S1 V (by exact Zfb (by omega))
 refine Z S1 (Xh.drop 1 C1) QR V V V ?_
 have V2:=A2.bound
 refine Zm (A2.mono L1) Q6 V V ?_
 refine Zp (p.cols.length : Int) 1 V V V (fun h3=>?_) (fun h3=>?_)
 ·exact RB S1 V (by exact Zfb (by omega))
 refine Z S1 (Xh.drop 1 C1) QR V V V ?_
 have V3:=A2.bound
 refine Zm (A2.mono L1) Q6 V V ?_
 refine Z1 (p.cols.length : Int) 8 V V V (fun h4=>?_) (fun h4=>?_)
 ·exact RB S1 V (by exact Zfb (by omega))
 refine Zeh Qr V V V p.steps.length (by omega) S1 V V V (fun v3 o1 w2 R1 S2=>?_)
 refine LP.go ft [] (fun m ρ1 w1=>∃ (k1 : Nat),∃ (v4 : Value) (o2 : OB),∃ (G2 : GH),m = p.steps.length - k1 ∧ G1.le G2 ∧ St w [] G G2 [o2] w1 ∧ YX Enc.int 8 3 G2 v4 (Ql p.steps.length (p.steps.take k1)) o2 ∧ FR ρ1 [(1,ZP p1),(3,U (p.steps.length : Int)),(4,v4),(5,U (k1 : Int))] ∧ k1 ≤ p.steps.length ∧ ∀ j,j < k1 → ∀ s,p.steps[j]? = some s → Xu s (j : Int) = true) _ ⟨0,v3,o1,G1,V,(G1.le_refl),S2,(YX.cast R1 (by rfl)),(ZS V),(by omega),(by intro j hj; omega)⟩ ?_
 rintro m ρ1 w3 ⟨k1,v4,o2,G2,rfl,L2,S3,R2,F9,f1,f2⟩
 refine F9.set ?_
 clear F9
 have hul2:=Zic (n:=p.steps.length) (l:=p.steps.take k1)
 have hsu2:=ZjR (n:=p.steps.length) (l:=p.steps) k1
 refine Zp (k1 : Int) (p.steps.length : Int) V V V (fun h5=>?_) (fun h5=>?_)
 ·refine Z S3 (Xh.drop 0 (C1.mono L2)) QG V V V ?_
  refine WL.indexAddr (A1.mono (L1.trans L2)) k1 (by omega) QS XQ V V V V (fun p2 x1 U1 E1=>?_)
  obtain ⟨D1,C2,R3⟩:=E1
  have T2:=Q8 R3
  obtain ⟨v5,v6,v7,v9,v10,rfl,B1,B2,A3,A4,Z7,Z5,ZD,hb6,hb7,ZV,A5,hb9,ZI,ZJ,ZL,A6,Y0,Y6,A7,YA,Y9⟩:=T2
  refine Zc S3 C2 (SV x1.q v5 v6 v7 v9 (U x1.a) (U x1.b) v10 (U x1.span.a) (U x1.span.b)) XQ V V V V V ?_
  refine WL.alloc S3 XQ V V (fun b1 w4 N1 S4=>?_)
  refine WL.store S4 0 _ _ _ 0 _ (SV x1.q v5 v6 v7 v9 (U x1.a) (U x1.b) v10 (U x1.span.a) (U x1.span.b)) (SV x1.q v5 v6 v7 v9 (U x1.a) (U x1.b) v10 (U x1.span.a) (U x1.span.b)) _ V V XQ V (ZZ V) (by simp only [YE,A3.oneC,A4.oneC,A5.oneC,A6.oneC,A7.oneC] <;> rfl) V V V V V (fun w5 S5=>?_)
  have T3:=S5.shutB N1
  obtain ⟨G3,L3,C3,S6⟩:=T3
  refine Zc S6 C3 (SV x1.q v5 v6 v7 v9 (U x1.a) (U x1.b) v10 (U x1.span.a) (U x1.span.b)) XQ V V V V V ?_
  refine Zl S6 Q0 V V V (Zqf S6.imm x1 (k1 : Int) _ (Zdn x1 B1 B2 (A3.mono L3) (A4.mono L3) Z7 Z5 ZD hb6 hb7 ZV (A5.mono L3) hb9 ZI ZJ ZL (A6.mono L3) Y0 Y6 (A7.mono L3) YA Y9)) (fun w6 G4 S7 L4=>?_)
  refine WL.split (fun (h6 : (Xu x1 (k1 : Int)) = true)=>?_) (fun (h6 : (Xu x1 (k1 : Int)) = false)=>?_)
  ·have T4:=Ze9 (by assumption : Xu _ (k1 : Int) = true)
   obtain ⟨hiA,hiB,hiC,hiD⟩:=T4
   refine Z S7 (Xh.drop 16 (C3.mono L4)) Zk V V V ?_
   refine ZM x1.a 0 V V V (fun h7=>?_) (fun h7=>?_)
   ·have j1:=(L3.trans L4)
    have T5:=YX.atP (R2.mono j1) ((x1.a).toNat) (by omega)
    obtain ⟨p3,x2,ec1,U2,R4,ra1,W1⟩:=T5
    obtain ⟨rfl,Yr⟩:=R4
    have hi1 : Zj (x2 + 1):=by (try have hsa9:=ZfX hsu2 ‹_›); (try have hsa8:=ZfX hsu3 ‹_›); have:=Yr.1; have:=Yr.2; constructor <;> omega
    have T6:=YX.atP (R2.mono j1) ((x1.a).toNat) (by omega)
    obtain ⟨p4,x3,ec2,U3,R5,ra2,W2⟩:=T6
    have T7 : x2 = x3:=Option.some.inj (U2.symm.trans U3)
    obtain rfl:=T7
    obtain ⟨rfl,YH⟩:=R5
    refine dr [(10,false)] [(52,U x1.a),(55,U x1.a),(56,ZP p3),(57,U x2),(58,U (x2 + 1)),(59,ZP p4)] S7 ⟨fun _ hSw=>Z hSw (Xh.drop 16 (C3.mono L4)) Zk V V V <| nu V V,fun _ hSw=>Z hSw (Xh.drop 16 (C3.mono L4)) Zk V V V <| nu V V,fun _=>Zy ((x1.a).toNat) W1 Xz Zk V V V (congrArg (Value.int .i64) (Int.toNat_of_nonneg (by omega)).symm) <| nu V V,fun _ hSw=>X4 ra1 hSw 0 V _ V Zk V V V <| nu V V,fun _=>WL.ar .add V x2 1 V V V hi1 <| nu V V,fun _=>Zy ((x1.a).toNat) W2 Xz Zk V V V (congrArg (Value.int .i64) (Int.toNat_of_nonneg (by omega)).symm) <| nu V V,trivial⟩ (fun w7 S8=>?_)
    refine XJ (R2.mono j1) ra2 S8 0 V (by omega) V 0 _ [U (x2 + 1)] (x2 + 1) [U (x2 + 1)] V Zk V (ZZ V) V V ⟨V,hi1⟩ V V V V (fun o3 w9 R6 S9=>?_)
    have hsu3:=Zg2 (x:=x1.a) hsu2 (by omega)
    rw [← ZfW (by omega) (by assumption : (Ql p.steps.length (p.steps.take k1))[x1.a.toNat]? = some _)] at hsu3
    refine Z S9 (Xh.drop 17 (C3.mono L4)) Zk V V V ?_
    refine ZM x1.b 0 V V V (fun h8=>?_) (fun h8=>?_)
    ·have T8:=YX.atP R6 ((x1.b).toNat) (by (rw [List.length_set]; omega))
     obtain ⟨p5,x4,ec3,U4,R7,ra3,W3⟩:=T8
     obtain ⟨rfl,YJ⟩:=R7
     have hi2 : Zj (x4 + 1):=by (try have hsa9:=ZfX hsu2 ‹_›); (try have hsa8:=ZfX hsu3 ‹_›); have:=YJ.1; have:=YJ.2; constructor <;> omega
     have T9:=YX.atP R6 ((x1.b).toNat) (by (rw [List.length_set]; omega))
     obtain ⟨p6,x5,ec4,U5,R8,ra4,W4⟩:=T9
     have T10 : x4 = x5:=Option.some.inj (U4.symm.trans U5)
     obtain rfl:=T10
     obtain ⟨rfl,YO⟩:=R8
     refine dr [(10,false)] [(65,U x1.b),(68,U x1.b),(69,ZP p5),(70,U x4),(71,U (x4 + 1)),(72,ZP p6)] S9 ⟨fun _ hSw=>Z hSw (Xh.drop 17 (C3.mono L4)) Zk V V V <| nu V V,fun _ hSw=>Z hSw (Xh.drop 17 (C3.mono L4)) Zk V V V <| nu V V,fun _=>Zy ((x1.b).toNat) W3 Xz Zk V V V (congrArg (Value.int .i64) (Int.toNat_of_nonneg (by omega)).symm) <| nu V V,fun _ hSw=>X4 ra3 hSw 0 V _ V Zk V V V <| nu V V,fun _=>WL.ar .add V x4 1 V V V hi2 <| nu V V,fun _=>Zy ((x1.b).toNat) W4 Xz Zk V V V (congrArg (Value.int .i64) (Int.toNat_of_nonneg (by omega)).symm) <| nu V V,trivial⟩ (fun w10 S10=>?_)
     refine XJ R6 ra4 S10 0 V (by (rw [List.length_set]; omega)) V 0 _ [U (x4 + 1)] (x4 + 1) [U (x4 + 1)] V Zk V (ZZ V) V V ⟨V,hi2⟩ V V V V (fun o4 w11 R9 S11=>?_)
     refine Zq k1 (by have:=Zb; omega) V V V ?_
     exact BK.mk' _ ⟨k1 + 1,v4,o4,G4,V,(L2.trans j1),S11,(YX.cast R9 (by (exact ZyS ‹_› (by omega) ‹_› (by omega) ‹_›))),(ZS V),(by omega),(by exact QQ (P:=fun j s=>Xu s (j : Int) = true) ‹_› ‹_› ‹_›)⟩ (show p.steps.length - (k1 + 1) < p.steps.length - k1 by omega)
    refine Zq k1 (by have:=Zb; omega) V V V ?_
    exact BK.mk' _ ⟨k1 + 1,v4,o3,G4,V,(L2.trans j1),S9,(YX.cast R6 (by (exact ZyR ‹_› (by omega) ‹_› (by omega)))),(ZS V),(by omega),(by exact QQ (P:=fun j s=>Xu s (j : Int) = true) ‹_› ‹_› ‹_›)⟩ (show p.steps.length - (k1 + 1) < p.steps.length - k1 by omega)
   refine Z S7 (Xh.drop 17 (C3.mono L4)) Zk V V V ?_
   refine ZM x1.b 0 V V V (fun h9=>?_) (fun h9=>?_)
   ·omega
   refine Zq k1 (by have:=Zb; omega) V V V ?_
   exact BK.mk' _ ⟨k1 + 1,v4,o2,G4,V,(L2.trans (L3.trans L4)),S7,(YX.cast (R2.mono (L3.trans L4)) (by (exact ZyQ ‹_› (by omega) (by omega)))),(ZS V),(by omega),(by exact QQ (P:=fun j s=>Xu s (j : Int) = true) ‹_› ‹_› ‹_›)⟩ (show p.steps.length - (k1 + 1) < p.steps.length - k1 by omega)
  exact RB S7 V (by exact Zl4 (Zie ‹_› ‹_›))
 have hrr:=YX.cast (l':=Ql p.steps.length p.steps) R2 (by rw [List.take_of_length_le (by omega)])
 have T11:=YX.freeze hrr S3 0 V
 obtain ⟨G5,L5,A8,S12⟩:=T11
 have hul:=Zic (n:=p.steps.length) (l:=p.steps)
 have hss:=Zp8 ‹_› (by omega : p.steps.length ≤ k1)
 refine LP.go ft [] (fun m ρ1 w1=>∃ (k2 : Nat),∃ (G6 : GH),m = p.steps.length - k2 ∧ G5.le G6 ∧ St w [] G G6 [none] w1 ∧ FR ρ1 [(1,ZP p1),(3,U (p.steps.length : Int)),(4,v4),(7,U (k2 : Int))] ∧ k2 ≤ p.steps.length ∧ laS (Ql p.steps.length p.steps) k2) _ ⟨0,G5,V,(G5.le_refl),S12,(ZS V),(by omega),(by exact Z1e)⟩ ?_
 rintro m ρ1 w12 ⟨k2,G6,rfl,L6,S13,F9,f3,f4⟩
 refine F9.set ?_
 clear F9
 refine Zp (k2 : Int) (p.steps.length : Int) V V V (fun h10=>?_) (fun h10=>?_)
 ·refine XW p.steps.length (by omega) (by have:=Zb; omega) V V V ?_
  refine Zp (k2 : Int) ((p.steps.length - 1 : Nat) : Int) V V V (fun h11=>?_) (fun h11=>?_)
  ·refine WL.indexAddr (A8.mono L6) k2 (by omega) Xz Zk V V V V (fun p7 x6 U6 E2=>?_)
   obtain ⟨D2,C4,R10⟩:=E2
   obtain ⟨rfl,Xf⟩:=R10
   refine Z S13 C4 Zk V V V ?_
   refine Zz x6 1 V V V (fun h12=>?_) (fun h12=>?_)
   ·exact RB S13 V (by exact Zxc (ZyN ‹_› (by omega) ‹_›))
   refine XW p.steps.length (by omega) (by have:=Zb; omega) V V V ?_
   refine Ze (k2 : Int) ((p.steps.length - 1 : Nat) : Int) V V V (fun h13=>?_) (fun h13=>?_)
   ·refine WL.indexAddr (A8.mono L6) k2 (by omega) Xz Zk V V V V (fun p8 x7 U7 E3=>?_)
    have T12 : x6 = x7:=Option.some.inj (U6.symm.trans U7)
    obtain rfl:=T12
    obtain ⟨D3,C5,R11⟩:=E3
    obtain ⟨rfl,Xg⟩:=R11
    refine Z S13 C5 Zk V V V ?_
    refine Zz x6 0 V V V (fun h14=>?_) (fun h14=>?_)
    ·exact RB S13 V (by exact Zfb (by omega))
    omega
   refine Zq k2 (by have:=Zb; omega) V V V ?_
   exact BK.mk' _ ⟨k2 + 1,G6,V,L6,S13,(ZS V),(by omega),(by exact Zxb ‹_› ‹_› (fun _=>by omega) (fun _=>by omega))⟩ (show p.steps.length - (k2 + 1) < p.steps.length - k2 by omega)
  refine XW p.steps.length (by omega) (by have:=Zb; omega) V V V ?_
  refine Ze (k2 : Int) ((p.steps.length - 1 : Nat) : Int) V V V (fun h15=>?_) (fun h15=>?_)
  ·refine WL.indexAddr (A8.mono L6) k2 (by omega) Xz Zk V V V V (fun p9 x9 U8 E4=>?_)
   obtain ⟨D4,C6,R12⟩:=E4
   obtain ⟨rfl,YK⟩:=R12
   refine Z S13 C6 Zk V V V ?_
   refine Zz x9 0 V V V (fun h16=>?_) (fun h16=>?_)
   ·exact RB S13 V (by exact Zxc (Z1c ‹_› (by omega) ‹_›))
   refine Zq k2 (by have:=Zb; omega) V V V ?_
   exact BK.mk' _ ⟨k2 + 1,G6,V,L6,S13,(ZS V),(by omega),(by exact Zxb ‹_› ‹_› (fun _=>by omega) (fun _=>by omega))⟩ (show p.steps.length - (k2 + 1) < p.steps.length - k2 by omega)
  refine Zq k2 (by have:=Zb; omega) V V V ?_
  exact BK.mk' _ ⟨k2 + 1,G6,V,L6,S13,(ZS V),(by omega),(by (exfalso; omega))⟩ (show p.steps.length - (k2 + 1) < p.steps.length - k2 by omega)
 have hla:=Z1d (by assumption : laS (Ql p.steps.length p.steps) k2) (by omega) (by omega)
 refine LP.go ft [] (fun m ρ1 w1=>∃ (k3 : Nat),∃ (G7 : GH),m = p.cols.length - k3 ∧ G6.le G7 ∧ St w [] G G7 [none] w1 ∧ FR ρ1 [(1,ZP p1),(8,U (k3 : Int))] ∧ k3 ≤ p.cols.length ∧ ∀ j,j < k3 → ∀ c,p.cols[j]? = some c → Zbx p.cols j c = true) _ ⟨0,G6,V,(G6.le_refl),S13,⟨V,V,trivial⟩,(by omega),(by intro j hj; omega)⟩ ?_
 rintro m ρ1 w13 ⟨k3,G7,rfl,L7,S14,F9,f5,f6⟩
 refine F9.set ?_
 clear F9
 have j2:=(((L2.trans L5).trans L6).trans L7)
 refine Z S14 (Xh.drop 1 (C1.mono j2)) QR V V V ?_
 have V4:=A2.bound
 have j3:=((((L1.trans L2).trans L5).trans L6).trans L7)
 refine Zm (A2.mono j3) Q6 V V ?_
 refine Zp (k3 : Int) (p.cols.length : Int) V V V (fun h17=>?_) (fun h17=>?_)
 ·refine Z S14 (Xh.drop 1 (C1.mono j2)) QR V V V ?_
  refine WL.indexAddr (A2.mono j3) k3 (by omega) Q6 Q9 V V V V (fun p10 x10 U9 E5=>?_)
  obtain ⟨D5,C7,R13⟩:=E5
  have T13:=XU R13
  obtain ⟨rfl,Xc,XR⟩:=T13
  refine Z S14 (Xh.drop 0 C7) Zv V V V ?_
  refine Zl S14 Qs V V V (Zqd S14.imm x10.name) (fun w14 G9 S15 L9=>?_)
  refine WL.split (fun (h18 : (X5 x10.name) = true)=>?_) (fun (h18 : (X5 x10.name) = false)=>?_)
  ·refine LP.go ft [] (fun m ρ1 w1=>∃ (k4 : Nat),∃ (G10 : GH),m = k3 - k4 ∧ G9.le G10 ∧ St w [] G G10 [none] w1 ∧ FR ρ1 [(1,ZP p1),(8,U (k3 : Int)),(9,U (k4 : Int))] ∧ k4 ≤ k3 ∧ ∀ j,j < k4 → ∀ x,p.cols[j]? = some x → ¬ x.name = x10.name) _ ⟨0,G9,V,(G9.le_refl),S15,⟨V,V,V,trivial⟩,(by omega),(by intro j hj; omega)⟩ ?_
   rintro m ρ1 w15 ⟨k4,G10,rfl,L10,S16,F9,f7,f8⟩
   refine F9.set ?_
   clear F9
   refine Zp (k4 : Int) (k3 : Int) V V V (fun h19=>?_) (fun h19=>?_)
   ·have T14:=Sl.at (A2.mono ((((((L1.trans L2).trans L5).trans L6).trans L7).trans L9).trans L10)) k4 (by omega)
    obtain ⟨p11,x11,U10,E6,W5⟩:=T14
    obtain ⟨D6,C8,R14⟩:=E6
    have T15:=XU R14
    obtain ⟨rfl,Qa,Qh⟩:=T15
    have T16:=Sl.at (A2.mono ((((((L1.trans L2).trans L5).trans L6).trans L7).trans L9).trans L10)) k3 (by omega)
    obtain ⟨p12,x12,U11,E7,W6⟩:=T16
    have T17 : x10 = x12:=Option.some.inj (U9.symm.trans U11)
    obtain rfl:=T17
    obtain ⟨D7,C9,R15⟩:=E7
    have T18:=XU R15
    obtain ⟨rfl,Q1,Qb⟩:=T18
    have T19:=Classical.em (x11.name = x10.name)
    rcases T19 with h20 | h20
    ·refine dr [] [(123,v2),(125,ZP p11),(127,Za x11.name),(129,v2),(131,ZP p12),(133,Za x10.name),(134, .bool true)] S16 ⟨fun _ hSw=>Z hSw (Xh.drop 1 (C1.mono (((((L2.trans L5).trans L6).trans L7).trans L9).trans L10))) QR V V V <| nu V V,fun _=>Zy k4 W5 Q6 Q9 V V V V <| nu V V,fun _ hSw=>Z hSw (Xh.drop 0 C8) Zv V V V <| nu V V,fun _ hSw=>Z hSw (Xh.drop 1 (C1.mono (((((L2.trans L5).trans L6).trans L7).trans L9).trans L10))) QR V V V <| nu V V,fun _=>Zy k3 W6 Q6 Q9 V V V V <| nu V V,fun _ hSw=>Z hSw (Xh.drop 0 C9) Zv V V V <| nu V V,fun _=>Xn .eql V x11.name x10.name true (by simp [h20,SCmp.b]) V V V <| nu V V,trivial⟩ (fun w16 S17=>?_)
     exact RB S17 V (by exact ZnI (ZjS ‹_› (ZwG (ZyP (j:=k4) ‹_› (by omega) ‹_›))))
    refine dr [] [(123,v2),(125,ZP p11),(127,Za x11.name),(129,v2),(131,ZP p12),(133,Za x10.name),(134, .bool false)] S16 ⟨fun _ hSw=>Z hSw (Xh.drop 1 (C1.mono (((((L2.trans L5).trans L6).trans L7).trans L9).trans L10))) QR V V V <| nu V V,fun _=>Zy k4 W5 Q6 Q9 V V V V <| nu V V,fun _ hSw=>Z hSw (Xh.drop 0 C8) Zv V V V <| nu V V,fun _ hSw=>Z hSw (Xh.drop 1 (C1.mono (((((L2.trans L5).trans L6).trans L7).trans L9).trans L10))) QR V V V <| nu V V,fun _=>Zy k3 W6 Q6 Q9 V V V V <| nu V V,fun _ hSw=>Z hSw (Xh.drop 0 C9) Zv V V V <| nu V V,fun _=>Xn .eql V x11.name x10.name false (by simp [h20,SCmp.b]) V V V <| nu V V,trivial⟩ (fun w17 S18=>?_)
    refine Zq k4 (by have:=Zb; omega) V V V ?_
    exact BK.mk' _ ⟨k4 + 1,G10,V,L10,S18,⟨V,V,V,trivial⟩,(by omega),(by exact Ys (P:=fun (x : Col)=>¬ x.name = _) ‹_› ‹_› ‹_›)⟩ (show k3 - (k4 + 1) < k3 - k4 by omega)
   refine Zq k3 (by have:=Zb; omega) V V V ?_
   exact BK.mk' _ ⟨k3 + 1,G10,V,(L7.trans (L9.trans L10)),S16,⟨V,V,trivial⟩,(by omega),(by exact QQ (P:=fun j c=>Zbx p.cols j c = true) ‹_› ‹_› (ZwH ‹_› (ZyO (fun j hj=>(by assumption : ∀ j,j < k4 → ∀ x,p.cols[j]? = some x → ¬ x.name = _) j (by omega)))))⟩ (show p.cols.length - (k3 + 1) < p.cols.length - k3 by omega)
  exact RB S15 V (by exact ZnI (ZjS ‹_› (ZwF ‹_›)))
 exact RB S14 V (by exact Z1f (by omega) (Zp7 ‹_› (by omega)) hss hla)
end Go.Civ
