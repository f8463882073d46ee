/- Lemmas. -/
import Derived.Test.YthgeclodflmiaaaGreatD28
import Derived.Test.YthgeclodflmiaaaGreatProg
import Derived.KernelRfl
import Derived.WalkKit
set_option linter.unusedVariables false
set_option linter.unusedSimpArgs false
set_option maxRecDepth 100000
set_option maxHeartbeats 4000000
namespace Go.Civ
open Go.Proofs
theorem Zk3 {G : GH} {w : World} (hG : G.In w) (t : Table) (tx : Int) (v : List Val) (d : Span) (ct : List Value) (hct : TableE.rep G t ct) (vv : Value) (hvv : Sl ValE 32 G vv v) (cd : List Value) (hcd : SpanE.rep G d cd) (htx64 : Z0 tx) : CL Tryz.prog (nat_lit 20) #[.agg ct.toArray,S tx,vv, .agg cd.toArray] [] w G fun G' _ r=>∃ r0 r1,r = .tuple #[r0,r1] ∧ Is TableE G' r0 (Yt t tx v d) ∧ r1 = S (YS t tx v d):=by
 refine Y2 ft [] Tryz.func20 U U ?_
 have hS:=St.start (X:=[]) hG
 obtain ⟨v1,v2,v3,rfl,B1,A1,B2,A2,A3,B3⟩:=Zy hct
 obtain ⟨rfl,B4,B5⟩:=ZI hcd
 refine Zw [Za t.s.name,v1,S t.s.key,v2,v3,S t.last] _ hS U U U (fun p1 w1 G1 L1 M1 C1 S1=>?_)
 refine Zw [S d.a,S d.b] _ S1 U U U (fun p2 w2 G2 L2 M2 C2 S2=>?_)
 refine WL.alloc S2 Zm U U (fun b1 w3 N1 S3=>?_)
 refine Zb S3 (C1.mono L2) [Za t.s.name,v1,S t.s.key,v2,v3,S t.last] Zm U U U U U ?_
 have j1:=(L1.trans L2)
 refine Zr S3 XF U U U (Zbv S3.imm t _ (Zo t B1 (A1.mono j1) B2 (A2.mono j1) (A3.mono j1) B3)) (fun w4 G3 S4 L3=>?_)
 refine WL.split (fun (h1 : (Zu t) = true)=>?_) (fun (h1 : (Zu t) = false)=>?_)
 ·refine Zb S4 (C2.mono L3) [S d.a,S d.b] Z2 U U U U U ?_
  refine Zr S4 ZoM U U U (ZgK S4.imm d _ (Z1 d B4 B5)) (fun w5 G4 S5 L4=>?_)
  refine WL.split (fun (h2 : (ZN d) = true)=>?_) (fun (h2 : (ZN d) = false)=>?_)
  ·have hok : Qh t d = true:=ZgV ‹_› ‹_›
   have j2:=((L2.trans L3).trans L4)
   have j3:=((j1.trans L3).trans L4)
   refine dr [(7,false),(8,false),(9,false)] [(22, .agg #[Za t.s.name,v1,S t.s.key,v2]),(24,S (X3 t.s v)),(25, .agg #[Za t.s.name,v1,S t.s.key,v2,v3,S t.last]),(27,S (Xk t tx))] S5 ⟨fun _ hSw=>Zb hSw (XC.drop 0 (C1.mono j2)) [Za t.s.name,v1,S t.s.key,v2] Qo U U U U U <| nu U U,fun _ hSw=>Z3 hSw Zxb U U U (Zrk hSw.imm t.s v _ (Yo t.s B1 (A1.mono j3) B2 (A2.mono j3)) _ (hvv.mono j3)) U,fun _ hSw=>Zb hSw (C1.mono j2) [Za t.s.name,v1,S t.s.key,v2,v3,S t.last] Zm U U U U U <| nu U U,fun _ hSw=>Z3 hSw Zxf U U U (ZmL hSw.imm t tx _ (Zo t B1 (A1.mono j3) B2 (A2.mono j3) (A3.mono j3) B3)) U,trivial⟩ (fun w6 S6=>?_)
   refine WL.buildSlice _ [(0,[S (X3 t.s v)]),(1,[S (Xk t tx)])] [S (X3 t.s v),S (Xk t tx)] S6 Zuy U U U U (fun z hz=>by match z,hz with | [z0,z1],_=>rfl) (fun b2 w7 N2 S7=>?_)
   obtain ⟨G5,L5,A4,S8⟩:=St.sealSl (E:=Enc.int) (by_:=8) (l:=([(X3 t.s v),(Xk t tx)] : List Int)) S7 N2 ⟨[S (X3 t.s v)],_,U,⟨U,ZsV t.s v⟩,⟨[S (Xk t tx)],_,U,⟨U,(Zm1 t tx)⟩,U⟩⟩ U (by simp [reach]) (by simp [reach])
   refine Zr S8 Zxe U U U (ZuP S8.imm [(X3 t.s v),(Xk t tx)] _ A4) (fun w9 G6 S9 L6=>?_)
   refine Yr (Qf [(X3 t.s v),(Xk t tx)]) 0 U U U (fun h3=>?_) (fun h3=>?_)
   ·refine WL.build _ [] [Za [],Ze,S 0,Ze,Ze,S 0] Zm U QF U U U U ?_
    refine Zi S9 0 [Za [],Ze,S 0,Ze,Ze,S 0] U U Zm U U U U U U (fun w10 S10=>?_)
    exact Xr [.agg #[Za [],Ze,S 0,Ze,Ze,S 0],S (Qf [(X3 t.s v),(Xk t tx)])] S10 ⟨_,_,_,U,U,S10.loadA 0 _ _ _ 0 [Za [],Ze,S 0,Ze,Ze,S 0] U U U Zm U,⟨_,U,U⟩⟩ ⟨_,_,U,(Is.cast ⟨_,U,(Zo (Table.mk (Schema.mk [] [] 0 []) [] 0) (by simp [reach]) (Sl.nil ColE 24 G6) ZP (Sl.nil ForeignE 40 G6) (Sl.nil HRowE 56 G6) ZP)⟩ (by with_reducible exact (Zpm hok ‹_›).1)),(congrArg (Value.int .i64) (by with_reducible exact (Zpm hok ‹_›).2))⟩
   obtain ⟨hg9,hl9,N9⟩:=Zgt (by assumption : Zu t = true) (by assumption : ZN d = true) ‹_›
   have hv9:=(ZY (by assumption : Zu t = true)).2.1
   refine drT [1,6,7,8] [(36, .agg #[S d.a,S d.b]),(38, .agg #[S tx,S 253402300800]),(39, .agg #[S d.a,S d.b,S tx,S 253402300800])] S9 ⟨fun _ hSw=>Zb hSw (C2.mono (((L3.trans L4).trans L5).trans L6)) [S d.a,S d.b] Z2 U U U U U <| nu U U,fun _=>WL.build _ [(0,[S tx]),(1,[S 253402300800])] [S tx,S 253402300800] Z2 U XB U U U U <| nu U U,fun _=>WL.build _ [(0,[S d.a,S d.b]),(1,[S tx,S 253402300800])] [S d.a,S d.b,S tx,S 253402300800] Zct U ZbY U U U U <| nu U U,trivial⟩ (fun w11 S11=>?_)
   refine TG.fork 3 [1,6,7,8] [1,7] U U (by decide) (by decide) (TA.cons U ?_ (TA.cons U ?_ TA.nil))
   ·refine Z9 S11 Zgf U U U (ZaE S11.imm v _ (hvv.mono ((j3.trans L5).trans L6))) (fun w12 G7 r1 P1 S12 L7=>?_)
    refine ⟨fun _=>S12.down S11.le L7,?_⟩
    refine TG.quiet 2 [6,7,8] 6 U U U U U (by decide) (fun w9 K9 k9=>WL.build _ [(0,[r1]),(1,[S d.a,S d.b,S tx,S 253402300800])] [r1,S d.a,S d.b,S tx,S 253402300800] Zz U Za6 U U (by show [(0,(r1 : Value).cells.toList),(1,(.agg #[S d.a,S d.b,S tx,S 253402300800] : Value).cells.toList)] = _; simp only [P1.cells1] <;> rfl) U k9) ?_
    refine TG.fork 1 [7,8] [7] U U (by decide) (by decide) (TA.cons U ?_ TA.nil)
    refine WL.alloc S12 Zz U U (fun b3 w13 N3 S13=>?_)
    refine ⟨fun _=>S13.tail.down S11.le L7,?_⟩
    refine TG.fork 0 [8] [8] U U (by decide) (by decide) (TA.cons U ?_ TA.nil)
    refine Zi S13 0 [r1,S d.a,S d.b,S tx,S 253402300800] U U Zz U U (by simp only [ZA,P1.oneC] <;> rfl) U U U (fun w14 S14=>?_)
    obtain ⟨G9,L9,C3,S15⟩:=S14.shutB N3
    refine ⟨fun h=>absurd h (by decide),?_⟩
    refine TG.fin U ?_
    refine drT [4,6,7,8,9,10,11,12] [(41, .agg #[Za t.s.name,v1,S t.s.key,v2,v3,S t.last]),(44,v3),(46, .agg #[r1,S d.a,S d.b,S tx,S 253402300800])] S15 ⟨fun _ hSw=>Zb hSw (C1.mono ((((((L2.trans L3).trans L4).trans L5).trans L6).trans L7).trans L9)) [Za t.s.name,v1,S t.s.key,v2,v3,S t.last] Zm U U U U U <| nu U U,fun _ hSw=>Z hSw (XC.drop 4 (C1.mono ((((((L2.trans L3).trans L4).trans L5).trans L6).trans L7).trans L9))) YK U U U <| nu U U,fun _ hSw=>Zb hSw C3 [r1,S d.a,S d.b,S tx,S 253402300800] Zz U U U U U <| nu U U,trivial⟩ (fun w15 S16=>?_)
    refine TG.fork 7 [4,6,7,8,9,10,11,12] [4,6] U U (by decide) (by decide) (TA.cons U ?_ (TA.cons U ?_ TA.nil))
    ·refine Qe ZoN U U U (ZfB S16.imm t.rows _ (A3.mono (((((((L1.trans L2).trans L3).trans L4).trans L5).trans L6).trans L7).trans L9))) (fun w16 G10 r2 hres1 P2=>?_)
     have S17:=S16.call hres1
     have L10:=hres1.le
     obtain ⟨o1,R1,hf1⟩:=P2
     have S18:=S16.adoptO hres1 hf1
     refine ⟨fun _=>S18.tail.down S16.le L10,?_⟩
     refine TG.fork 6 [6,7,8,9,10,11,12] [6] U U (by decide) (by decide) (TA.cons U ?_ TA.nil)
     refine WL.buildSlice _ [(0,[r1,S d.a,S d.b,S tx,S 253402300800])] [r1,S d.a,S d.b,S tx,S 253402300800] S18 YD U U U U (fun z hz=>by match z,hz with | [z0,z1,z2,z3,z4],_=>rfl) (fun b4 w17 N4 S19=>?_)
     refine ⟨fun _=>S19.tail.tail.down S16.le L10,?_⟩
     refine TG.fork 5 [7,8,9,10,11,12] [7] U U (by decide) (by decide) (TA.cons U ?_ TA.nil)
     refine WL.push (m:=([(HRow.mk v (Rect.mk d (Span.mk tx 253402300800)))] : List HRow)) YD U U U R1 S19 1 U 0 _ _ _ _ _ U ⟨[r1,S d.a,S d.b,S tx,S 253402300800],_,U,(ZT (HRow.mk v (Rect.mk d (Span.mk tx 253402300800))) (P1.mono (L9.trans L10)) B4 B5 htx64 (show Z0 253402300800 from by constructor <;> decide)),U⟩ U (by have:=Zc; simp only [Zx]; omega) (by have:=Zc; simp only [Zx]; omega) U U U (fun v4 o2 w18 R2 S20=>?_)
     have S21:=S20.tail
     refine ⟨fun _=>S21.tail.down S16.le L10,?_⟩
     refine TG.fork 4 [8,9,10,11,12] [8] U U (by decide) (by decide) (TA.cons U ?_ TA.nil)
     obtain ⟨G11,L11,A5,S22⟩:=ZS.freeze R2 S21 0 U
     refine Z9 S22 ZlV U U U (Zg6 S22.imm t tx (t.rows ++ [(HRow.mk v (Rect.mk d (Span.mk tx 253402300800)))]) _ (Zo t B1 (A1.mono (((((((((L1.trans L2).trans L3).trans L4).trans L5).trans L6).trans L7).trans L9).trans L10).trans L11)) B2 (A2.mono (((((((((L1.trans L2).trans L3).trans L4).trans L5).trans L6).trans L7).trans L9).trans L10).trans L11)) (A3.mono (((((((((L1.trans L2).trans L3).trans L4).trans L5).trans L6).trans L7).trans L9).trans L10).trans L11)) B3) _ A5 htx64 hg9 hl9 (Nat.le_trans N9 (by decide))) ?_
     rintro w19 G12 _ ⟨r4,_,rfl,A6,rfl⟩ S23 L12
     obtain ⟨D1,rfl,R3⟩:=A6
     obtain ⟨v5,v6,v7,rfl,B6,A7,B7,A8,A9,B8⟩:=Zy R3
     refine ⟨fun h=>absurd h (by decide),?_⟩
     refine TG.quiet 3 [9,10,11,12] 9 U U U U U (by decide) (fun w9 K9 k9=>WL.extract _ _ U U U k9) ?_
     refine TG.quiet 2 [10,11,12] 10 U U U U U (by decide) (fun w9 K9 k9=>WL.extract _ _ U U U k9) ?_
     refine TG.fork 1 [11,12] [11] U U (by decide) (by decide) (TA.cons U ?_ TA.nil)
     refine Zi S23 1 [Za ((ZQ t tx (t.rows ++ [(HRow.mk v (Rect.mk d (Span.mk tx 253402300800)))])).s.name),v5,S ((ZQ t tx (t.rows ++ [(HRow.mk v (Rect.mk d (Span.mk tx 253402300800)))])).s.key),v6,v7,S ((ZQ t tx (t.rows ++ [(HRow.mk v (Rect.mk d (Span.mk tx 253402300800)))])).last)] U U Zm U U (by simp only [ZA,A7.oneC,A8.oneC,A9.oneC] <;> rfl) U U U (fun w20 S24=>?_)
     refine ⟨fun h=>absurd h (by decide),?_⟩
     refine TG.quiet 0 [12] 12 U U U U U (by decide) (fun w9 K9 k9=>WL.assign U k9) ?_
     refine TG.fin U ?_
     exact Xr [.agg #[Za ((ZQ t tx (t.rows ++ [(HRow.mk v (Rect.mk d (Span.mk tx 253402300800)))])).s.name),v5,S ((ZQ t tx (t.rows ++ [(HRow.mk v (Rect.mk d (Span.mk tx 253402300800)))])).s.key),v6,v7,S ((ZQ t tx (t.rows ++ [(HRow.mk v (Rect.mk d (Span.mk tx 253402300800)))])).last)],S (XT (t.rows ++ [(HRow.mk v (Rect.mk d (Span.mk tx 253402300800)))]))] S24 ⟨_,_,_,U,U,S24.loadA 1 _ _ _ 0 [Za ((ZQ t tx (t.rows ++ [(HRow.mk v (Rect.mk d (Span.mk tx 253402300800)))])).s.name),v5,S ((ZQ t tx (t.rows ++ [(HRow.mk v (Rect.mk d (Span.mk tx 253402300800)))])).s.key),v6,v7,S ((ZQ t tx (t.rows ++ [(HRow.mk v (Rect.mk d (Span.mk tx 253402300800)))])).last)] U U U Zm U,⟨_,U,U⟩⟩ ⟨_,_,U,(Is.cast ⟨_,U,(Zo (ZQ t tx (t.rows ++ [(HRow.mk v (Rect.mk d (Span.mk tx 253402300800)))])) B6 A7 B7 A8 A9 B8)⟩ (by with_reducible exact (Zc7 hok ‹_›).1)),(congrArg (Value.int .i64) (by with_reducible exact (Zc7 hok ‹_›).2))⟩
    refine WL.buildSlice _ [(0,[r1,S d.a,S d.b,S tx,S 253402300800])] [r1,S d.a,S d.b,S tx,S 253402300800] S16 YD U U U U (fun z hz=>by match z,hz with | [z0,z1,z2,z3,z4],_=>rfl) (fun b5 w21 N5 S25=>?_)
    refine ⟨fun _=>S25.tail.down S16.le (G9.le_refl),?_⟩
    refine TG.fork 6 [4,7,8,9,10,11,12] [4] U U (by decide) (by decide) (TA.cons U ?_ TA.nil)
    refine Qe ZoN U U U (ZfB S25.imm t.rows _ (A3.mono (((((((L1.trans L2).trans L3).trans L4).trans L5).trans L6).trans L7).trans L9))) (fun w22 G13 r6 hres2 P4=>?_)
    have S26:=S25.call hres2
    have L13:=hres2.le
    obtain ⟨o3,R4,hf2⟩:=P4
    have S27:=S25.adoptO hres2 hf2
    refine ⟨fun _=>S27.tail.tail.down S16.le L13,?_⟩
    refine TG.fork 5 [7,8,9,10,11,12] [7] U U (by decide) (by decide) (TA.cons U ?_ TA.nil)
    refine WL.push (m:=([(HRow.mk v (Rect.mk d (Span.mk tx 253402300800)))] : List HRow)) YD U U U R4 S27 0 U 1 _ _ _ _ _ U ⟨[r1,S d.a,S d.b,S tx,S 253402300800],_,U,(ZT (HRow.mk v (Rect.mk d (Span.mk tx 253402300800))) (P1.mono (L9.trans L13)) B4 B5 htx64 (show Z0 253402300800 from by constructor <;> decide)),U⟩ U (by have:=Zc; simp only [Zx]; omega) (by have:=Zc; simp only [Zx]; omega) U U U (fun v9 o4 w23 R5 S28=>?_)
    refine ⟨fun _=>S28.tail.tail.down S16.le L13,?_⟩
    refine TG.fork 4 [8,9,10,11,12] [8] U U (by decide) (by decide) (TA.cons U ?_ TA.nil)
    obtain ⟨G14,L14,A10,S29⟩:=ZS.freeze R5 S28 0 U
    refine Z9 S29 ZlV U U U (Zg6 S29.imm t tx (t.rows ++ [(HRow.mk v (Rect.mk d (Span.mk tx 253402300800)))]) _ (Zo t B1 (A1.mono (((((((((L1.trans L2).trans L3).trans L4).trans L5).trans L6).trans L7).trans L9).trans L13).trans L14)) B2 (A2.mono (((((((((L1.trans L2).trans L3).trans L4).trans L5).trans L6).trans L7).trans L9).trans L13).trans L14)) (A3.mono (((((((((L1.trans L2).trans L3).trans L4).trans L5).trans L6).trans L7).trans L9).trans L13).trans L14)) B3) _ A10 htx64 hg9 hl9 (Nat.le_trans N9 (by decide))) ?_
    rintro w24 G15 _ ⟨r8,_,rfl,A11,rfl⟩ S30 L15
    obtain ⟨D2,rfl,R6⟩:=A11
    obtain ⟨v10,v11,v12,rfl,B9,A12,B10,A13,A14,Y6⟩:=Zy R6
    refine ⟨fun h=>absurd h (by decide),?_⟩
    refine TG.quiet 3 [9,10,11,12] 9 U U U U U (by decide) (fun w9 K9 k9=>WL.extract _ _ U U U k9) ?_
    refine TG.quiet 2 [10,11,12] 10 U U U U U (by decide) (fun w9 K9 k9=>WL.extract _ _ U U U k9) ?_
    refine TG.fork 1 [11,12] [11] U U (by decide) (by decide) (TA.cons U ?_ TA.nil)
    refine Zi S30 2 [Za ((ZQ t tx (t.rows ++ [(HRow.mk v (Rect.mk d (Span.mk tx 253402300800)))])).s.name),v10,S ((ZQ t tx (t.rows ++ [(HRow.mk v (Rect.mk d (Span.mk tx 253402300800)))])).s.key),v11,v12,S ((ZQ t tx (t.rows ++ [(HRow.mk v (Rect.mk d (Span.mk tx 253402300800)))])).last)] U U Zm U U (by simp only [ZA,A12.oneC,A13.oneC,A14.oneC] <;> rfl) U U U (fun w25 S31=>?_)
    refine ⟨fun h=>absurd h (by decide),?_⟩
    refine TG.quiet 0 [12] 12 U U U U U (by decide) (fun w9 K9 k9=>WL.assign U k9) ?_
    refine TG.fin U ?_
    exact Xr [.agg #[Za ((ZQ t tx (t.rows ++ [(HRow.mk v (Rect.mk d (Span.mk tx 253402300800)))])).s.name),v10,S ((ZQ t tx (t.rows ++ [(HRow.mk v (Rect.mk d (Span.mk tx 253402300800)))])).s.key),v11,v12,S ((ZQ t tx (t.rows ++ [(HRow.mk v (Rect.mk d (Span.mk tx 253402300800)))])).last)],S (XT (t.rows ++ [(HRow.mk v (Rect.mk d (Span.mk tx 253402300800)))]))] S31 ⟨_,_,_,U,U,S31.loadA 2 _ _ _ 0 [Za ((ZQ t tx (t.rows ++ [(HRow.mk v (Rect.mk d (Span.mk tx 253402300800)))])).s.name),v10,S ((ZQ t tx (t.rows ++ [(HRow.mk v (Rect.mk d (Span.mk tx 253402300800)))])).s.key),v11,v12,S ((ZQ t tx (t.rows ++ [(HRow.mk v (Rect.mk d (Span.mk tx 253402300800)))])).last)] U U U Zm U,⟨_,U,U⟩⟩ ⟨_,_,U,(Is.cast ⟨_,U,(Zo (ZQ t tx (t.rows ++ [(HRow.mk v (Rect.mk d (Span.mk tx 253402300800)))])) B9 A12 B10 A13 A14 Y6)⟩ (by with_reducible exact (Zc7 hok ‹_›).1)),(congrArg (Value.int .i64) (by with_reducible exact (Zc7 hok ‹_›).2))⟩
   refine WL.alloc S11 Zz U U (fun b6 w26 N6 S32=>?_)
   refine ⟨fun _=>S32.tail.down S11.le (G6.le_refl),?_⟩
   refine TG.fork 2 [1,6,8] [1] U U (by decide) (by decide) (TA.cons U ?_ TA.nil)
   have j4:=((j3.trans L5).trans L6)
   refine Z9 S32 Zgf U U U (ZaE S32.imm v _ (hvv.mono j4)) (fun w27 G16 r10 P6 S33 L16=>?_)
   refine ⟨fun _=>S33.tail.down S11.le L16,?_⟩
   refine TG.quiet 1 [6,8] 6 U U U U U (by decide) (fun w9 K9 k9=>WL.build _ [(0,[r10]),(1,[S d.a,S d.b,S tx,S 253402300800])] [r10,S d.a,S d.b,S tx,S 253402300800] Zz U Za6 U U (by show [(0,(r10 : Value).cells.toList),(1,(.agg #[S d.a,S d.b,S tx,S 253402300800] : Value).cells.toList)] = _; simp only [P6.cells1] <;> rfl) U k9) ?_
   refine TG.fork 0 [8] [8] U U (by decide) (by decide) (TA.cons U ?_ TA.nil)
   refine Zi S33 0 [r10,S d.a,S d.b,S tx,S 253402300800] U U Zz U U (by simp only [ZA,P6.oneC] <;> rfl) U U U (fun w28 S34=>?_)
   obtain ⟨G17,L17,C4,S35⟩:=S34.shutB N6
   refine ⟨fun h=>absurd h (by decide),?_⟩
   refine TG.fin U ?_
   have j5:=((((j2.trans L5).trans L6).trans L16).trans L17)
   refine drT [4,6,7,8,9,10,11,12] [(41, .agg #[Za t.s.name,v1,S t.s.key,v2,v3,S t.last]),(44,v3),(46, .agg #[r10,S d.a,S d.b,S tx,S 253402300800])] S35 ⟨fun _ hSw=>Zb hSw (C1.mono j5) [Za t.s.name,v1,S t.s.key,v2,v3,S t.last] Zm U U U U U <| nu U U,fun _ hSw=>Z hSw (XC.drop 4 (C1.mono j5)) YK U U U <| nu U U,fun _ hSw=>Zb hSw C4 [r10,S d.a,S d.b,S tx,S 253402300800] Zz U U U U U <| nu U U,trivial⟩ (fun w29 S36=>?_)
   refine TG.fork 7 [4,6,7,8,9,10,11,12] [4,6] U U (by decide) (by decide) (TA.cons U ?_ (TA.cons U ?_ TA.nil))
   ·have j6:=((j4.trans L16).trans L17)
    refine Qe ZoN U U U (ZfB S36.imm t.rows _ (A3.mono j6)) (fun w30 G18 r11 hres3 P7=>?_)
    have S37:=S36.call hres3
    have L18:=hres3.le
    obtain ⟨o5,R7,hf3⟩:=P7
    have S38:=S36.adoptO hres3 hf3
    refine ⟨fun _=>S38.tail.down S36.le L18,?_⟩
    refine TG.fork 6 [6,7,8,9,10,11,12] [6] U U (by decide) (by decide) (TA.cons U ?_ TA.nil)
    refine WL.buildSlice _ [(0,[r10,S d.a,S d.b,S tx,S 253402300800])] [r10,S d.a,S d.b,S tx,S 253402300800] S38 YD U U U U (fun z hz=>by match z,hz with | [z0,z1,z2,z3,z4],_=>rfl) (fun b7 w31 N7 S39=>?_)
    refine ⟨fun _=>S39.tail.tail.down S36.le L18,?_⟩
    refine TG.fork 5 [7,8,9,10,11,12] [7] U U (by decide) (by decide) (TA.cons U ?_ TA.nil)
    refine WL.push (m:=([(HRow.mk v (Rect.mk d (Span.mk tx 253402300800)))] : List HRow)) YD U U U R7 S39 1 U 0 _ _ _ _ _ U ⟨[r10,S d.a,S d.b,S tx,S 253402300800],_,U,(ZT (HRow.mk v (Rect.mk d (Span.mk tx 253402300800))) (P6.mono (L17.trans L18)) B4 B5 htx64 (show Z0 253402300800 from by constructor <;> decide)),U⟩ U (by have:=Zc; simp only [Zx]; omega) (by have:=Zc; simp only [Zx]; omega) U U U (fun v13 o6 w32 R8 S40=>?_)
    have S41:=S40.tail
    refine ⟨fun _=>S41.tail.down S36.le L18,?_⟩
    refine TG.fork 4 [8,9,10,11,12] [8] U U (by decide) (by decide) (TA.cons U ?_ TA.nil)
    obtain ⟨G19,L19,A15,S42⟩:=ZS.freeze R8 S41 0 U
    have j7:=((j6.trans L18).trans L19)
    refine Z9 S42 ZlV U U U (Zg6 S42.imm t tx (t.rows ++ [(HRow.mk v (Rect.mk d (Span.mk tx 253402300800)))]) _ (Zo t B1 (A1.mono j7) B2 (A2.mono j7) (A3.mono j7) B3) _ A15 htx64 hg9 hl9 (Nat.le_trans N9 (by decide))) ?_
    rintro w33 G20 _ ⟨r13,_,rfl,A16,rfl⟩ S43 L20
    obtain ⟨D3,rfl,R9⟩:=A16
    obtain ⟨v14,v15,v16,rfl,YU,A17,Xa,A18,A19,Xz⟩:=Zy R9
    refine ⟨fun h=>absurd h (by decide),?_⟩
    refine TG.quiet 3 [9,10,11,12] 9 U U U U U (by decide) (fun w9 K9 k9=>WL.extract _ _ U U U k9) ?_
    refine TG.quiet 2 [10,11,12] 10 U U U U U (by decide) (fun w9 K9 k9=>WL.extract _ _ U U U k9) ?_
    refine TG.fork 1 [11,12] [11] U U (by decide) (by decide) (TA.cons U ?_ TA.nil)
    refine Zi S43 1 [Za ((ZQ t tx (t.rows ++ [(HRow.mk v (Rect.mk d (Span.mk tx 253402300800)))])).s.name),v14,S ((ZQ t tx (t.rows ++ [(HRow.mk v (Rect.mk d (Span.mk tx 253402300800)))])).s.key),v15,v16,S ((ZQ t tx (t.rows ++ [(HRow.mk v (Rect.mk d (Span.mk tx 253402300800)))])).last)] U U Zm U U (by simp only [ZA,A17.oneC,A18.oneC,A19.oneC] <;> rfl) U U U (fun w34 S44=>?_)
    refine ⟨fun h=>absurd h (by decide),?_⟩
    refine TG.quiet 0 [12] 12 U U U U U (by decide) (fun w9 K9 k9=>WL.assign U k9) ?_
    refine TG.fin U ?_
    exact Xr [.agg #[Za ((ZQ t tx (t.rows ++ [(HRow.mk v (Rect.mk d (Span.mk tx 253402300800)))])).s.name),v14,S ((ZQ t tx (t.rows ++ [(HRow.mk v (Rect.mk d (Span.mk tx 253402300800)))])).s.key),v15,v16,S ((ZQ t tx (t.rows ++ [(HRow.mk v (Rect.mk d (Span.mk tx 253402300800)))])).last)],S (XT (t.rows ++ [(HRow.mk v (Rect.mk d (Span.mk tx 253402300800)))]))] S44 ⟨_,_,_,U,U,S44.loadA 1 _ _ _ 0 [Za ((ZQ t tx (t.rows ++ [(HRow.mk v (Rect.mk d (Span.mk tx 253402300800)))])).s.name),v14,S ((ZQ t tx (t.rows ++ [(HRow.mk v (Rect.mk d (Span.mk tx 253402300800)))])).s.key),v15,v16,S ((ZQ t tx (t.rows ++ [(HRow.mk v (Rect.mk d (Span.mk tx 253402300800)))])).last)] U U U Zm U,⟨_,U,U⟩⟩ ⟨_,_,U,(Is.cast ⟨_,U,(Zo (ZQ t tx (t.rows ++ [(HRow.mk v (Rect.mk d (Span.mk tx 253402300800)))])) YU A17 Xa A18 A19 Xz)⟩ (by with_reducible exact (Zc7 hok ‹_›).1)),(congrArg (Value.int .i64) (by with_reducible exact (Zc7 hok ‹_›).2))⟩
   refine WL.buildSlice _ [(0,[r10,S d.a,S d.b,S tx,S 253402300800])] [r10,S d.a,S d.b,S tx,S 253402300800] S36 YD U U U U (fun z hz=>by match z,hz with | [z0,z1,z2,z3,z4],_=>rfl) (fun b8 w35 N8 S45=>?_)
   refine ⟨fun _=>S45.tail.down S36.le (G17.le_refl),?_⟩
   refine TG.fork 6 [4,7,8,9,10,11,12] [4] U U (by decide) (by decide) (TA.cons U ?_ TA.nil)
   have j8:=((j4.trans L16).trans L17)
   refine Qe ZoN U U U (ZfB S45.imm t.rows _ (A3.mono j8)) (fun w36 G21 r15 hres4 P9=>?_)
   have S46:=S45.call hres4
   have L21:=hres4.le
   obtain ⟨o7,R10,hf4⟩:=P9
   have S47:=S45.adoptO hres4 hf4
   refine ⟨fun _=>S47.tail.tail.down S36.le L21,?_⟩
   refine TG.fork 5 [7,8,9,10,11,12] [7] U U (by decide) (by decide) (TA.cons U ?_ TA.nil)
   refine WL.push (m:=([(HRow.mk v (Rect.mk d (Span.mk tx 253402300800)))] : List HRow)) YD U U U R10 S47 0 U 1 _ _ _ _ _ U ⟨[r10,S d.a,S d.b,S tx,S 253402300800],_,U,(ZT (HRow.mk v (Rect.mk d (Span.mk tx 253402300800))) (P6.mono (L17.trans L21)) B4 B5 htx64 (show Z0 253402300800 from by constructor <;> decide)),U⟩ U (by have:=Zc; simp only [Zx]; omega) (by have:=Zc; simp only [Zx]; omega) U U U (fun v17 o8 w37 R11 S48=>?_)
   refine ⟨fun _=>S48.tail.tail.down S36.le L21,?_⟩
   refine TG.fork 4 [8,9,10,11,12] [8] U U (by decide) (by decide) (TA.cons U ?_ TA.nil)
   obtain ⟨G22,L22,A20,S49⟩:=ZS.freeze R11 S48 0 U
   have j9:=((j8.trans L21).trans L22)
   refine Z9 S49 ZlV U U U (Zg6 S49.imm t tx (t.rows ++ [(HRow.mk v (Rect.mk d (Span.mk tx 253402300800)))]) _ (Zo t B1 (A1.mono j9) B2 (A2.mono j9) (A3.mono j9) B3) _ A20 htx64 hg9 hl9 (Nat.le_trans N9 (by decide))) ?_
   rintro w38 G23 _ ⟨r17,_,rfl,A21,rfl⟩ S50 L23
   obtain ⟨D4,rfl,R12⟩:=A21
   obtain ⟨v18,v19,v20,rfl,QK,A22,XG,A23,A24,XY⟩:=Zy R12
   refine ⟨fun h=>absurd h (by decide),?_⟩
   refine TG.quiet 3 [9,10,11,12] 9 U U U U U (by decide) (fun w9 K9 k9=>WL.extract _ _ U U U k9) ?_
   refine TG.quiet 2 [10,11,12] 10 U U U U U (by decide) (fun w9 K9 k9=>WL.extract _ _ U U U k9) ?_
   refine TG.fork 1 [11,12] [11] U U (by decide) (by decide) (TA.cons U ?_ TA.nil)
   refine Zi S50 2 [Za ((ZQ t tx (t.rows ++ [(HRow.mk v (Rect.mk d (Span.mk tx 253402300800)))])).s.name),v18,S ((ZQ t tx (t.rows ++ [(HRow.mk v (Rect.mk d (Span.mk tx 253402300800)))])).s.key),v19,v20,S ((ZQ t tx (t.rows ++ [(HRow.mk v (Rect.mk d (Span.mk tx 253402300800)))])).last)] U U Zm U U (by simp only [ZA,A22.oneC,A23.oneC,A24.oneC] <;> rfl) U U U (fun w39 S51=>?_)
   refine ⟨fun h=>absurd h (by decide),?_⟩
   refine TG.quiet 0 [12] 12 U U U U U (by decide) (fun w9 K9 k9=>WL.assign U k9) ?_
   refine TG.fin U ?_
   exact Xr [.agg #[Za ((ZQ t tx (t.rows ++ [(HRow.mk v (Rect.mk d (Span.mk tx 253402300800)))])).s.name),v18,S ((ZQ t tx (t.rows ++ [(HRow.mk v (Rect.mk d (Span.mk tx 253402300800)))])).s.key),v19,v20,S ((ZQ t tx (t.rows ++ [(HRow.mk v (Rect.mk d (Span.mk tx 253402300800)))])).last)],S (XT (t.rows ++ [(HRow.mk v (Rect.mk d (Span.mk tx 253402300800)))]))] S51 ⟨_,_,_,U,U,S51.loadA 2 _ _ _ 0 [Za ((ZQ t tx (t.rows ++ [(HRow.mk v (Rect.mk d (Span.mk tx 253402300800)))])).s.name),v18,S ((ZQ t tx (t.rows ++ [(HRow.mk v (Rect.mk d (Span.mk tx 253402300800)))])).s.key),v19,v20,S ((ZQ t tx (t.rows ++ [(HRow.mk v (Rect.mk d (Span.mk tx 253402300800)))])).last)] U U U Zm U,⟨_,U,U⟩⟩ ⟨_,_,U,(Is.cast ⟨_,U,(Zo (ZQ t tx (t.rows ++ [(HRow.mk v (Rect.mk d (Span.mk tx 253402300800)))])) QK A22 XG A23 A24 XY)⟩ (by with_reducible exact (Zc7 hok ‹_›).1)),(congrArg (Value.int .i64) (by with_reducible exact (Zc7 hok ‹_›).2))⟩
  refine WL.build _ [] [Za [],Ze,S 0,Ze,Ze,S 0] Zm U QF U U U U ?_
  refine Zi S5 0 [Za [],Ze,S 0,Ze,Ze,S 0] U U Zm U U U U U U (fun w40 S52=>?_)
  exact Xr [.agg #[Za [],Ze,S 0,Ze,Ze,S 0],S 1] S52 ⟨_,_,_,U,U,S52.loadA 0 _ _ _ 0 [Za [],Ze,S 0,Ze,Ze,S 0] U U U Zm U,⟨_,U,U⟩⟩ ⟨_,_,U,(Is.cast ⟨_,U,(Zo (Table.mk (Schema.mk [] [] 0 []) [] 0) (by simp [reach]) (Sl.nil ColE 24 G4) ZP (Sl.nil ForeignE 40 G4) (Sl.nil HRowE 56 G4) ZP)⟩ (by with_reducible exact (ZiJ (ZgU ‹_›)).1)),(congrArg (Value.int .i64) (by with_reducible exact (ZiJ (ZgU ‹_›)).2))⟩
 refine WL.build _ [] [Za [],Ze,S 0,Ze,Ze,S 0] Zm U QF U U U U ?_
 refine Zi S4 0 [Za [],Ze,S 0,Ze,Ze,S 0] U U Zm U U U U U U (fun w41 S53=>?_)
 exact Xr [.agg #[Za [],Ze,S 0,Ze,Ze,S 0],S 1] S53 ⟨_,_,_,U,U,S53.loadA 0 _ _ _ 0 [Za [],Ze,S 0,Ze,Ze,S 0] U U U Zm U,⟨_,U,U⟩⟩ ⟨_,_,U,(Is.cast ⟨_,U,(Zo (Table.mk (Schema.mk [] [] 0 []) [] 0) (by simp [reach]) (Sl.nil ColE 24 G3) ZP (Sl.nil ForeignE 40 G3) (Sl.nil HRowE 56 G3) ZP)⟩ (by with_reducible exact (ZiJ (ZgT ‹_›)).1)),(congrArg (Value.int .i64) (by with_reducible exact (ZiJ (ZgT ‹_›)).2))⟩
end Go.Civ
