/- Lemmas. -/
import Derived.Test.YtecneejegecmhaaGreatDoorK33
set_option linter.unusedVariables false
set_option linter.unusedSimpArgs false
set_option linter.unusedVariables false
set_option linter.unusedSimpArgs false
set_option maxRecDepth 100000
set_option maxHeartbeats 4000000
namespace Go.Civ
open Go.Proofs
theorem ZmX {G : GH} {w : World} (hG : G.In w) (a b : Span) (ca : List Value) (hca : SpanE.rep G a ca) (cb : List Value) (hcb : SpanE.rep G b cb) : CL Tryz.prog (nat_lit 72) #[.agg ca.toArray, .agg cb.toArray] [] w G fun G' _ r=>∃ r0 r1,r = .tuple #[r0,r1] ∧ Is SpanE G' r0 ((ZX a b).1) ∧ r1 = .bool ((ZX a b).2):=by
 refine Yw ft [] Tryz.func72 V V ?_
 have hS:=St.start (X:=[]) hG
 obtain ⟨rfl,B1,B2⟩:=QH hca
 obtain ⟨rfl,Z7,Z5⟩:=QH hcb
 refine Z4 [U a.a,U a.b] _ hS V V V (fun p1 w1 G1 L1 M1 C1 S1=>?_)
 refine Z4 [U b.a,U b.b] _ S1 V V V (fun p2 w2 G2 L2 M2 C2 S2=>?_)
 refine WL.alloc S2 Y5 V V (fun b1 w3 N1 S3=>?_)
 refine Z S3 (Xh.drop 0 (C1.mono L2)) Zk V V V <| Z S3 (Xh.drop 0 C2) Zk V V V <| ZbN a.a b.a V V V <| Z S3 (Xh.drop 1 (C1.mono L2)) Zk V V V <| Z S3 (Xh.drop 1 C2) Zk V V V <| YR a.b b.b V V V <| WL.build _ [(0,[U (max a.a b.a)]),(1,[U (min a.b b.b)])] [U (max a.a b.a),U (min a.b b.b)] Y5 V ZbL V V V V ?_
 refine WL.alloc S3 Y5 V V (fun b2 w4 N2 S4=>?_)
 refine Z9 S4 0 [U (max a.a b.a),U (min a.b b.b)] V V Y5 V V V V V V (fun w5 S5=>?_)
 obtain ⟨G3,L3,C3,S6⟩:=S5.shutB N2
 refine Z S6 (Xh.drop 0 C3) Zk V V V <| Z S6 (Xh.drop 1 C3) Zk V V V ?_
 refine ZM (max a.a b.a) (min a.b b.b) V V V (fun h1=>?_) (fun h1=>?_)
 ·refine WL.build _ [] [U 0,U 0] Y5 V ZbL V V V V ?_
  refine Z9 S6 0 [U 0,U 0] V V Y5 V V V V V V (fun w6 S7=>?_)
  exact Qk [.agg #[U 0,U 0], .bool false] S7 ⟨_,_,_,V,V,S7.loadA 0 _ _ _ 0 [U 0,U 0] V V V Y5 V,⟨_,V,V⟩⟩ ⟨_,_,V,(Is.cast ⟨_,V,(QD (Span.mk 0 0) Yf Yf)⟩ (by exact (Zpd ‹_›).1)),(congrArg Value.bool (by exact (Zpd ‹_›).2))⟩
 refine Zc S6 C3 [U (max a.a b.a),U (min a.b b.b)] Y5 V V V V V ?_
 refine Z9 S6 0 [U (max a.a b.a),U (min a.b b.b)] V V Y5 V V V V V V (fun w7 S8=>?_)
 exact Qk [.agg #[U (max a.a b.a),U (min a.b b.b)], .bool true] S8 ⟨_,_,_,V,V,S8.loadA 0 _ _ _ 0 [U (max a.a b.a),U (min a.b b.b)] V V V Y5 V,⟨_,V,V⟩⟩ ⟨_,_,V,(Is.cast ⟨_,V,(QD (Span.mk (max a.a b.a) (min a.b b.b)) (Ziz B1 Z7) (Zbj B2 Z5))⟩ (by exact (Zpe (by omega)).1)),(congrArg Value.bool (by exact (Zpe (by omega)).2))⟩
theorem ZiT {G : GH} {w : World} (hG : G.In w) (q : Query) (cq : List Value) (hcq : QryE.rep G q cq) : CL Tryz.prog (nat_lit 71) #[.agg cq.toArray] [] w G fun G' _ r=>Is QryE G' r (ZU q):=by
 refine Yw ft [] Tryz.func71 V V ?_
 have hS:=St.start (X:=[]) hG
 obtain ⟨v1,v2,v3,v4,rfl,B1,B2,A1,A2,Z7,Z5,ZD,hb6,hb7,ZV,A3,hb9,ZI,ZJ,ZL,A4⟩:=Zs hcq
 refine WL.box (QV q v1 v2 v3 v4) _ hS V V V (fun b1 w1 N1 S1=>?_)
 refine WL.alloc S1 Zt V V (fun b2 w2 N2 S2=>?_)
 refine WL.store S2 1 _ _ _ 15 _ [Zf] (QV q v1 v2 v3 (Zf)) _ V V Yu V (ZZ V) V V V V V V (fun w3 S3=>?_)
 refine Yp S3 1 _ _ _ 0 (QV q v1 v2 v3 (Zf)) V V V Zt V V V ?_
 refine WL.store S3 0 _ _ _ 0 _ (QV q v1 v2 v3 (Zf)) (QV q v1 v2 v3 (Zf)) _ V V Zt V (ZZ V) (by simp only [YE,A1.oneC,A2.oneC,A3.oneC] <;> rfl) V V V V V (fun w4 S4=>?_)
 obtain ⟨G1,L1,C1,S5⟩:=S4.shutB N2
 exact Qk [.agg (QV q v1 v2 v3 (Zf)).toArray] S5 ⟨_,_,_,V,V,S5.loadC C1 Zt V V,V⟩ (Is.cast ⟨_,V,(Zr (Query.mk q.kind q.table q.cols q.names q.cond q.rel q.fn q.span []) B1 B2 (A1.mono L1) (A2.mono L1) Z7 Z5 ZD hb6 hb7 ZV (A3.mono L1) hb9 ZI ZJ ZL (Sl.nil QryE 224 G1))⟩ (by rfl))
theorem Zdo {G : GH} {w : World} (hG : G.In w) (q : Query) (l : List Query) (cq : List Value) (hcq : QryE.rep G q cq) (vl : Value) (hvl : Sl QryE 224 G vl l) : CL Tryz.prog (nat_lit 77) #[.agg cq.toArray,vl] [] w G fun G' _ r=>Is QryE G' r (Ym q l):=by
 refine Yw ft [] Tryz.func77 V V ?_
 have hS:=St.start (X:=[]) hG
 obtain ⟨v1,v2,v3,v4,rfl,B1,B2,A1,A2,Z7,Z5,ZD,hb6,hb7,ZV,A3,hb9,ZI,ZJ,ZL,A4⟩:=Zs hcq
 refine WL.box (QV q v1 v2 v3 v4) _ hS V V V (fun b1 w1 N1 S1=>?_)
 refine WL.alloc S1 Zt V V (fun b2 w2 N2 S2=>?_)
 refine WL.store S2 1 _ _ _ 15 _ [vl] (QV q v1 v2 v3 vl) _ V hvl.cells1 Yu V (ZZ V) (by simp only [YE,hvl.oneC] <;> rfl) V V V V V (fun w3 S3=>?_)
 refine Yp S3 1 _ _ _ 0 (QV q v1 v2 v3 vl) V V V Zt V V V ?_
 refine WL.store S3 0 _ _ _ 0 _ (QV q v1 v2 v3 vl) (QV q v1 v2 v3 vl) _ V V Zt V (ZZ V) (by simp only [YE,A1.oneC,A2.oneC,A3.oneC,hvl.oneC] <;> rfl) V V V V V (fun w4 S4=>?_)
 obtain ⟨G1,L1,C1,S5⟩:=S4.shutB N2
 exact Qk [.agg (QV q v1 v2 v3 vl).toArray] S5 ⟨_,_,_,V,V,S5.loadC C1 Zt V V,V⟩ (Is.cast ⟨_,V,(Zr (Query.mk q.kind q.table q.cols q.names q.cond q.rel q.fn q.span l) B1 B2 (A1.mono L1) (A2.mono L1) Z7 Z5 ZD hb6 hb7 ZV (A3.mono L1) hb9 ZI ZJ ZL (hvl.mono L1))⟩ (by rfl))
theorem Zfv {G : GH} {w : World} (hG : G.In w) (l : List (List UInt8)) (vl : Value) (hvl : Sl Enc.str 16 G vl l) : CL Tryz.prog (nat_lit 18) #[vl] [] w G fun G' w' r=>∃ o,YX Enc.str 16 (nat_lit 9) G' r l o ∧ ZjB w w' G' o:=by
 refine Zg ft [] Tryz.func18 V V ?_
 have hS:=St.start (X:=[]) hG
 refine Zk5 hvl Yb V V V (fun h1=>?_) ?_
 ·exact RT hS V ⟨none,YX.cast (YX.nil _ _ _ _) (by exact Eq.symm ‹_›),fun _ h=>by cases h⟩
 refine WL.buildSlice _ [] [] hS XI V V V V (fun z hz=>by match z,hz with | [],_=>rfl) (fun b1 w1 N1 S1=>?_)
 have R1:=YX.empty Enc.str 16 9 G b1
 refine Zf4 XI V V V R1 S1 0 V hvl (by have:=Zb; have:=hvl.bytes; have:=hvl.bound; simp only [List.length_nil,Nat.zero_add]; omega) (by have:=Zb; have:=hvl.bytes; have:=hvl.bound; simp only [List.length_nil,Nat.zero_add]; omega) V V V (fun v1 o1 w2 R2 S2=>?_)
 exact RT S2 V ⟨_,YX.cast R2 (by rfl),S2.freshAt 0 V⟩
theorem Zok (n : Nat) : ∀ {G : GH} {w : World} (hG : G.In w) (c : Cond) (cc : List Value) (hcc : CndE.rep G c cc) (hn : Qd c n),CL Tryz.prog (nat_lit 79) #[.agg cc.toArray] [] w G fun G' _ r=>Is CndE G' r c:=by
 induction n
 ·intro G w hG c cc hcc hn; exact (ZaU hn).elim
 rename_i n ih
 intro G w hG c cc hcc hn
 refine Yw ft [] Tryz.func79 V V ?_
 have hS:=St.start (X:=[]) hG
 have T1:=Yl hcc
 obtain ⟨v1,rfl,B1,B2,Z7,Z5,ZD,hb6,A1⟩:=T1
 refine WL.box (CV c v1) _ hS V V V (fun b1 w1 N1 S1=>?_)
 refine WL.alloc S1 ZY V V (fun b2 w2 N2 S2=>?_)
 refine Yz S2 1 _ _ _ 6 _ V V XD V V V ?_
 have V1:=A1.bound
 refine Zm A1 Xr V V ?_
 have S4:=S2.pad
 refine LP.go ft [] (fun m ρ1 w1=>∃ (k1 : Nat),∃ (v2 : Value) (o1 : OB),∃ (G1 : GH),m = c.l.length - k1 ∧ G.le G1 ∧ St w [] G G1 [o1,some (b2,34,[U 0,Za [],Za [],U 0,U 0,Za [],Zf]),some (b1,34,(CV c v1))] w1 ∧ YX CndE 96 34 G1 v2 (c.l.take k1) o1 ∧ FR ρ1 [(1, .pointer (some ⟨b1,0,none⟩)),(2, .pointer (some ⟨b2,0,none⟩)),(3,v2),(7,v1),(8,U (c.l.length : Int)),(9,U (k1 : Int))] ∧ k1 ≤ c.l.length) _ ⟨0,(Zf),none,G,V,(G.le_refl),S4,(YX.cast (YX.nil CndE 96 34 G) (by simp)),(ZS V),(by omega)⟩ ?_
 rintro m ρ1 w3 ⟨k1,v2,o1,G1,rfl,L1,S3,R1,F9,f1⟩
 refine F9.set ?_
 clear F9
 have hlt9:=List.length_take_le' k1 c.l
 refine Zp (k1 : Int) (c.l.length : Int) V V V (fun h1=>?_) (fun h1=>?_)
 ·refine WL.indexAddr (A1.mono L1) k1 (by omega) Xr ZY V V V V (fun p1 x1 U1 E1=>?_)
  obtain ⟨D1,C1,R2⟩:=E1
  have T2:=Yl R2
  obtain ⟨v3,rfl,hb7,ZV,hb9,ZI,ZJ,ZL,A2⟩:=T2
  refine Zc S3 C1 (CV x1 v3) ZY V V V V V ?_
  refine WL.alloc S3 ZY V V (fun b3 w4 N3 S5=>?_)
  refine WL.store S5 0 _ _ _ 0 _ (CV x1 v3) (CV x1 v3) _ V V ZY V (ZZ V) (by simp only [YE,A2.oneC] <;> rfl) V V V V V (fun w5 S6=>?_)
  have T3:=S6.shutB N3
  obtain ⟨G2,L2,C2,S7⟩:=T3
  refine Zc S7 C2 (CV x1 v3) ZY V V V V V ?_
  refine Yq S7 Zeo V V V (ih S7.imm x1 _ (ZR x1 hb7 ZV hb9 ZI ZJ ZL (A2.mono L2)) (Xb hn (List.mem_of_getElem? ‹_›))) (fun w6 G3 r1 P1 S8 L3=>?_)
  obtain ⟨D2,rfl,R3⟩:=P1
  have T4:=Yl R3
  obtain ⟨v4,rfl,Y0,Y6,YA,Y9,Yr,YH,A3⟩:=T4
  refine WL.buildSlice _ [(0,(CV x1 v4))] (CV x1 v4) S8 Zxt V V V V (fun z hz=>by match z,hz with | [z0,z1,z2,z3,z4,z5,z6],_=>rfl) (fun b4 w7 N4 S9=>?_)
  refine WL.push (m:=([x1] : List Cond)) Zxt V V V (R1.mono (L2.trans L3)) S9 1 V 0 _ _ _ _ _ V ⟨(CV x1 v4),_,V,(ZR x1 Y0 Y6 YA Y9 Yr YH A3),V⟩ V (by have:=Zb; have hby9:=(by assumption : Sl CndE 96 G _ c.l).bytes; simp only [List.length_append,List.length_map,List.length_take,List.length_cons,List.length_nil]; omega) (by have:=Zb; have hby9:=(by assumption : Sl CndE 96 G _ c.l).bytes; simp only [List.length_append,List.length_map,List.length_take,List.length_cons,List.length_nil]; omega) V V V (fun v5 o2 w9 R4 S10=>?_)
  have S11:=S10.tail
  refine Zq k1 (by have:=Zb; omega) V V V ?_
  exact BK.mk' _ ⟨k1 + 1,v5,o2,G3,V,(L1.trans (L2.trans L3)),S11,(YX.cast R4 (by (rw [List.take_add_one,(by assumption : c.l[k1]? = some _)]; rfl))),(ZS V),(by omega)⟩ (show c.l.length - (k1 + 1) < c.l.length - k1 by omega)
 refine WL.store S3 2 _ _ _ 6 _ [v2] (CV c v2) _ V R1.cells1 XD V (ZZ V) (by simp only [YE,R1.oneC] <;> rfl) V V V V V (fun w10 S12=>?_)
 refine Yp S12 2 _ _ _ 0 (CV c v2) V V V ZY V V V ?_
 refine WL.store S12 1 _ _ _ 0 _ (CV c v2) (CV c v2) _ V V ZY V (ZZ V) (by simp only [YE,R1.oneC] <;> rfl) V V V V V (fun w11 S13=>?_)
 have T5:=S13.sealAt 1 V N2
 obtain ⟨G4,L4,C3,S14⟩:=T5
 have T6:=YX.freeze (R1.mono L4) S14 0 V
 obtain ⟨G5,L5,A4,S15⟩:=T6
 exact Qk [.agg (CV c v2).toArray] S15 ⟨_,_,_,V,V,S15.loadC (C3.mono L5) ZY V V,V⟩ (Is.cast ⟨_,V,(ZR (Cond.mk c.kind c.col c.oth c.v (c.l.take k1)) B1 B2 Z7 Z5 ZD hb6 A4)⟩ (by (rw [List.take_of_length_le (by omega)]; exact Zuc c)))
theorem Zev (n : Nat) : ∀ {G : GH} {w : World} (hG : G.In w) (q : Query) (cq : List Value) (hcq : QryE.rep G q cq) (hn : Xx q n),CL Tryz.prog (nat_lit 40) #[.agg cq.toArray] [] w G fun G' _ r=>Is QryE G' r q:=by
 induction n
 ·intro G w hG q cq hcq hn; exact (ZaH hn).elim
 rename_i n ih
 intro G w hG q cq hcq hn
 refine Yw ft [] Tryz.func40 V V ?_
 have hS:=St.start (X:=[]) hG
 have T1:=Zs hcq
 obtain ⟨v1,v2,v3,v4,rfl,B1,B2,A1,A2,Z7,Z5,ZD,hb6,hb7,ZV,A3,hb9,ZI,ZJ,ZL,A4⟩:=T1
 refine WL.box (QV q v1 v2 v3 v4) _ hS V V V (fun b1 w1 N1 S1=>?_)
 refine WL.alloc S1 Zt V V (fun b2 w2 N2 S2=>?_)
 refine dr [(2,true),(5,true),(8,false),(10,false),(12,false),(14,false)] [(7,v1),(10,v2),(13, .agg (CV q.cond v3).toArray)] S2 ⟨fun _ hSw=>Yz hSw 1 _ _ _ 2 _ V V ZH V V V <| nu V V,fun _ hSw=>Yz hSw 1 _ _ _ 3 _ V V ZH V V V <| nu V V,fun _ hSw=>Yp hSw 1 _ _ _ 4 (CV q.cond v3) V V V ZY V V V <| nu V V,trivial⟩ (fun w3 S3=>?_)
 refine Zax YH V V V (Zfv S3.imm q.cols _ A1) (fun w4 G1 r1 hres1 P1=>?_)
 have S4:=S3.call hres1
 have L1:=hres1.le
 obtain ⟨o1,R1,hf1⟩:=P1
 have S5:=S3.adoptO hres1 hf1
 refine ⟨S5.tail.down S3.le L1,?_⟩
 refine Zax YH V V V (Zfv S5.imm q.names _ (A2.mono L1)) (fun w5 G2 r2 hres2 P2=>?_)
 have S6:=S5.call hres2
 have L2:=hres2.le
 obtain ⟨o2,R2,hf2⟩:=P2
 have S7:=S5.adoptO hres2 hf2
 have j1:=(L1.trans L2)
 refine ⟨S7.tail.tail.down S3.le j1,?_⟩
 refine Yq S7 Zeo V V V (Zok (n + 1) S7.imm q.cond _ (ZR q.cond Z7 Z5 ZD hb6 hb7 ZV (A3.mono j1)) (Zaz hn)) (fun w6 G3 r3 P3 S8 L3=>?_)
 obtain ⟨D1,rfl,R3⟩:=P3
 have T2:=Yl R3
 obtain ⟨v5,rfl,Y0,Y6,YA,Y9,Yr,YJ,A5⟩:=T2
 have j2:=(L2.trans L3)
 refine WL.store S8 3 _ _ _ 2 _ [r1] (QV q r1 v2 v3 v4) _ V (R1.mono j2).cells1 ZH V (ZZ V) (by simp only [YE,(R1.mono j2).oneC] <;> rfl) V V V V V (fun w7 S9=>?_)
 refine WL.store S9 3 _ _ _ 3 _ [r2] (QV q r1 r2 v3 v4) _ V (R2.mono L3).cells1 ZH V (ZZ V) (by simp only [YE,(R2.mono L3).oneC] <;> rfl) V V V V V (fun w9 S10=>?_)
 refine WL.store S10 3 _ _ _ 4 _ (CV q.cond v5) (QV q r1 r2 v5 v4) _ V V ZY V (ZZ V) (by simp only [YE,A5.oneC] <;> rfl) V V V V V (fun w10 S11=>?_)
 refine Yz S11 3 _ _ _ 15 _ V V Yu V V V ?_
 have V1:=A4.bound
 refine Zm (A4.mono (j1.trans L3)) Y1 V V ?_
 have S13:=S11.pad
 refine LP.go ft [] (fun m ρ1 w1=>∃ (k1 : Nat),∃ (v6 : Value) (o3 : OB),∃ (G4 : GH),m = q.l.length - k1 ∧ G3.le G4 ∧ St w [] G G4 [o3,o2,o1,some (b2,39,[U 0,Za [],Zf,Zf,U 0,Za [],Za [],U 0,U 0,Za [],Zf,U 0,U 0,U 0,U 0,Zf]),some (b1,39,(QV q r1 r2 v5 v4))] w1 ∧ YX QryE 224 39 G4 v6 (q.l.take k1) o3 ∧ FR ρ1 [(1, .pointer (some ⟨b1,0,none⟩)),(2, .pointer (some ⟨b2,0,none⟩)),(3,v6),(19,v4),(20,U (q.l.length : Int)),(21,U (k1 : Int))] ∧ k1 ≤ q.l.length) _ ⟨0,(Zf),none,G3,V,(G3.le_refl),S13,(YX.cast (YX.nil QryE 224 39 G3) (by simp)),(ZS V),(by omega)⟩ ?_
 rintro m ρ1 w11 ⟨k1,v6,o3,G4,rfl,L4,S12,R4,F9,f1⟩
 refine F9.set ?_
 clear F9
 have hlt9:=List.length_take_le' k1 q.l
 refine Zp (k1 : Int) (q.l.length : Int) V V V (fun h1=>?_) (fun h1=>?_)
 ·refine WL.indexAddr (A4.mono ((j1.trans L3).trans L4)) k1 (by omega) Y1 Zt V V V V (fun p1 x1 U1 E1=>?_)
  obtain ⟨D2,C1,R5⟩:=E1
  have T3:=Zs R5
  obtain ⟨v7,v9,v10,v11,rfl,YO,Xf,A6,A7,Xg,YK,Xc,XR,Qa,Qh,A8,Q0,Qs,Q1,Qb,A9⟩:=T3
  refine Zc S12 C1 (QV x1 v7 v9 v10 v11) Zt V V V V V ?_
  refine WL.alloc S12 Zt V V (fun b3 w12 N3 S14=>?_)
  refine WL.store S14 0 _ _ _ 0 _ (QV x1 v7 v9 v10 v11) (QV x1 v7 v9 v10 v11) _ V V Zt V (ZZ V) (by simp only [YE,A6.oneC,A7.oneC,A8.oneC,A9.oneC] <;> rfl) V V V V V (fun w13 S15=>?_)
  have T4:=S15.shutB N3
  obtain ⟨G5,L5,C2,S16⟩:=T4
  refine Zc S16 C2 (QV x1 v7 v9 v10 v11) Zt V V V V V ?_
  refine Yq S16 Zck V V V (ih S16.imm x1 _ (Zr x1 YO Xf (A6.mono L5) (A7.mono L5) Xg YK Xc XR Qa Qh (A8.mono L5) Q0 Qs Q1 Qb (A9.mono L5)) (XN hn (List.mem_of_getElem? ‹_›))) (fun w14 G6 r4 P4 S17 L6=>?_)
  obtain ⟨D3,rfl,R6⟩:=P4
  have T5:=Zs R6
  obtain ⟨v12,v13,v14,v15,rfl,Xw,Qt,A10,A11,XS,Qc,Qu,Zbc,ZcR,Zbd,A12,Zb0,Zb1,Zb2,Zb3,A13⟩:=T5
  refine WL.buildSlice _ [(0,(QV x1 v12 v13 v14 v15))] (QV x1 v12 v13 v14 v15) S17 Zbb V V V V (fun z hz=>by match z,hz with | [z0,z1,z2,z3,z4,z5,z6,z7,z8,z9,z10,z11,z12,z13,z14,z15],_=>rfl) (fun b4 w15 N4 S18=>?_)
  refine WL.push (m:=([x1] : List Query)) Zbb V V V (R4.mono (L5.trans L6)) S18 1 V 0 _ _ _ _ _ V ⟨(QV x1 v12 v13 v14 v15),_,V,(Zr x1 Xw Qt A10 A11 XS Qc Qu Zbc ZcR Zbd A12 Zb0 Zb1 Zb2 Zb3 A13),V⟩ V (by have:=Zb; have hby9:=(by assumption : Sl QryE 224 G _ q.l).bytes; simp only [List.length_append,List.length_map,List.length_take,List.length_cons,List.length_nil]; omega) (by have:=Zb; have hby9:=(by assumption : Sl QryE 224 G _ q.l).bytes; simp only [List.length_append,List.length_map,List.length_take,List.length_cons,List.length_nil]; omega) V V V (fun v16 o4 w16 R7 S19=>?_)
  have S20:=S19.tail
  refine Zq k1 (by have:=Zb; omega) V V V ?_
  exact BK.mk' _ ⟨k1 + 1,v16,o4,G6,V,(L4.trans (L5.trans L6)),S20,(YX.cast R7 (by (rw [List.take_add_one,(by assumption : q.l[k1]? = some _)]; rfl))),(ZS V),(by omega)⟩ (show q.l.length - (k1 + 1) < q.l.length - k1 by omega)
 refine WL.store S12 4 _ _ _ 15 _ [v6] (QV q r1 r2 v5 v6) _ V R4.cells1 Yu V (ZZ V) (by simp only [YE,R4.oneC] <;> rfl) V V V V V (fun w17 S21=>?_)
 refine Yp S21 4 _ _ _ 0 (QV q r1 r2 v5 v6) V V V Zt V V V ?_
 refine WL.store S21 3 _ _ _ 0 _ (QV q r1 r2 v5 v6) (QV q r1 r2 v5 v6) _ V V Zt V (ZZ V) (by simp only [YE,(R1.mono (j2.trans L4)).oneC,(R2.mono (L3.trans L4)).oneC,(A5.mono L4).oneC,R4.oneC] <;> rfl) V V V V V (fun w18 S22=>?_)
 have T6:=S22.sealAt 3 V N2
 obtain ⟨G7,L7,C3,S23⟩:=T6
 have T7:=YX.freeze (R1.mono ((j2.trans L4).trans L7)) S23 2 V
 obtain ⟨G9,L9,A14,S24⟩:=T7
 have T8:=YX.freeze (R2.mono (((L3.trans L4).trans L7).trans L9)) S24 1 V
 obtain ⟨G10,L10,A15,S25⟩:=T8
 have T9:=YX.freeze (R4.mono ((L7.trans L9).trans L10)) S25 0 V
 obtain ⟨G11,L11,A16,S26⟩:=T9
 exact Qk [.agg (QV q r1 r2 v5 v6).toArray] S26 ⟨_,_,_,V,V,S26.loadC (C3.mono ((L9.trans L10).trans L11)) Zt V V,V⟩ (Is.cast ⟨_,V,(Zr (Query.mk q.kind q.table q.cols q.names q.cond q.rel q.fn q.span (q.l.take k1)) B1 B2 (A14.mono (L10.trans L11)) (A15.mono L11) Y0 Y6 YA Y9 Yr YJ (A5.mono ((((L4.trans L7).trans L9).trans L10).trans L11)) hb9 ZI ZJ ZL A16)⟩ (by (rw [List.take_of_length_le (by omega)]; exact Zud q)))
theorem Zqm (m : Nat) : ∀ {G : GH} {w : World} (hG : G.In w) (nd x : Query) (cn : List Value) (hcn : QryE.rep G nd cn) (cx : List Value) (hcx : QryE.rep G x cx) (hn : Xx x m) (hs : Sim x),CL Tryz.prog (nat_lit 75) #[.agg cn.toArray, .agg cx.toArray] [] w G fun G' _ r=>Is QryE G' r (XY nd x):=by
 induction m
 ·intro G w hG nd x cn hcn cx hcx hn hs; exact (ZaH hn).elim
 rename_i m ih
 intro G w hG nd x cn hcn cx hcx hn hs
 refine Yw ft [] Tryz.func75 V V ?_
 have har:=hs.ar
 have hS:=St.start (X:=[]) hG
 have T1:=Zs hcn
 obtain ⟨v1,v2,v3,v4,rfl,B1,B2,A1,A2,Z7,Z5,ZD,hb6,hb7,ZV,A3,hb9,ZI,ZJ,ZL,A4⟩:=T1
 have T2:=Zs hcx
 obtain ⟨v5,v6,v7,v9,rfl,Y0,Y6,A5,A6,YA,Y9,Yr,YH,YJ,YO,A7,Xf,Xg,YK,Xc,A8⟩:=T2
 refine WL.box (QV nd v1 v2 v3 v4) _ hS V V V (fun b1 w1 N1 S1=>?_)
 refine Z4 (QV x v5 v6 v7 v9) _ S1 V V V (fun p1 w2 G1 L1 M1 C1 S2=>?_)
 refine WL.alloc S2 Zt V V (fun b2 w3 N2 S3=>?_)
 refine Z S3 (Xh.drop 0 C1) Zk V V V ?_
 refine Ze x.kind 2 V V V (fun h1=>?_) (fun h1=>?_)
 ·have T3:=Sl.at (A8.mono L1) 0 (by (have:=har.1 (by omega); omega))
  obtain ⟨p2,x1,U1,E1,W1⟩:=T3
  obtain ⟨D1,C2,R1⟩:=E1
  have T4:=Zs R1
  obtain ⟨v10,v11,v12,v13,rfl,XR,Qa,A9,A10,Qh,Q0,Qs,Q1,Qb,Xw,A11,Qt,XS,Qc,Qu,A12⟩:=T4
  refine dr [(6,true),(7,true),(8,false),(9,false)] [(14, .agg (QV x v5 v6 v7 v9).toArray),(15, .agg (QV nd v1 v2 v3 v4).toArray),(17,v9),(18,ZP p2),(19, .agg (QV x1 v10 v11 v12 v13).toArray)] S3 ⟨fun _ hSw=>Zc hSw C1 (QV x v5 v6 v7 v9) Zt V V V V V <| nu V V,fun _ hSw=>Yp hSw 1 _ _ _ 0 (QV nd v1 v2 v3 v4) V V V Zt V V V <| nu V V,fun _ hSw=>Z hSw (Xh.drop 15 C1) Yu V V V <| nu V V,fun _=>Zy 0 W1 Y1 Zt V V V V <| nu V V,fun _ hSw=>Zc hSw C2 (QV x1 v10 v11 v12 v13) Zt V V V V V <| nu V V,trivial⟩ (fun w4 S4=>?_)
  refine Yq S4 ZiN V V V (ih S4.imm nd x1 _ (Zr nd B1 B2 (A1.mono L1) (A2.mono L1) Z7 Z5 ZD hb6 hb7 ZV (A3.mono L1) hb9 ZI ZJ ZL (A4.mono L1)) _ (Zr x1 XR Qa A9 A10 Qh Q0 Qs Q1 Qb Xw A11 Qt XS Qc Qu A12) (XN hn (List.mem_of_getElem? ‹_›)) (hs.kid (List.mem_of_getElem? ‹_›))) (fun w5 G2 r1 P1 S5 L2=>?_)
  obtain ⟨D2,rfl,R2⟩:=P1
  have T5:=Zs R2
  obtain ⟨v14,v15,v16,v17,rfl,Zbc,ZcR,A13,A14,Zbd,Zck,Zb0,Zb1,Zb2,Zb3,A15,Zbe,Zcl,Zcm,Zc2,A16⟩:=T5
  refine ⟨S5.down S4.le L2,?_⟩
  refine WL.buildSlice _ [(0,(QV (XY nd x1) v14 v15 v16 v17))] (QV (XY nd x1) v14 v15 v16 v17) S5 Zbb V V V V (fun z hz=>by match z,hz with | [z0,z1,z2,z3,z4,z5,z6,z7,z8,z9,z10,z11,z12,z13,z14,z15],_=>rfl) (fun b3 w6 N3 S6=>?_)
  refine ⟨S6.tail.down S4.le L2,?_⟩
  have T6:=St.sealSl (E:=QryE) (by_:=224) (l:=([(XY nd x1)] : List Query)) S6 N3 ⟨(QV (XY nd x1) v14 v15 v16 v17),_,V,(Zr (XY nd x1) Zbc ZcR A13 A14 Zbd Zck Zb0 Zb1 Zb2 Zb3 A15 Zbe Zcl Zcm Zc2 A16),V⟩ V (by simp [reach]) (by simp [reach])
  obtain ⟨G3,L3,A17,S7⟩:=T6
  have j1:=((L1.trans L2).trans L3)
  refine Yq S7 Zen V V V (Zdo S7.imm x [(XY nd x1)] _ (Zr x Y0 Y6 (A5.mono j1) (A6.mono j1) YA Y9 Yr YH YJ YO (A7.mono j1) Xf Xg YK Xc (A8.mono j1)) _ A17) (fun w7 G4 r2 P2 S8 L4=>?_)
  obtain ⟨D3,rfl,R3⟩:=P2
  have T7:=Zs R3
  obtain ⟨v18,v19,v20,v21,rfl,Zc3,Zd0,A18,A19,Zd1,Zd2,Zgc,Zfc,Zei,Zfd,A20,Zej,Zek,Zel,Zfe,A21⟩:=T7
  refine WL.store S8 0 _ _ _ 0 _ (QV (Ym x [(XY nd x1)]) v18 v19 v20 v21) (QV (Ym x [(XY nd x1)]) v18 v19 v20 v21) _ V V Zt V (ZZ V) (by simp only [YE,A18.oneC,A19.oneC,A20.oneC,A21.oneC] <;> rfl) V V V V V (fun w9 S9=>?_)
  exact Qk [.agg (QV (Ym x [(XY nd x1)]) v18 v19 v20 v21).toArray] S9 ⟨_,_,_,V,V,S9.loadA 0 _ _ _ 0 (QV (Ym x [(XY nd x1)]) v18 v19 v20 v21) V V V Zt V,V⟩ (Is.cast ⟨_,V,(Zr (Ym x [(XY nd x1)]) Zc3 Zd0 A18 A19 Zd1 Zd2 Zgc Zfc Zei Zfd A20 Zej Zek Zel Zfe A21)⟩ (by with_reducible exact ZqQ (by omega) ‹_›))
 refine Ze x.kind 3 V V V (fun h2=>?_) (fun h2=>?_)
 ·exfalso; have h9:=hs.kd; have h8:=hs.len; omega
 refine Ze x.kind 4 V V V (fun h3=>?_) (fun h3=>?_)
 ·exfalso; have h9:=hs.kd; have h8:=hs.len; omega
 refine Ze x.kind 9 V V V (fun h4=>?_) (fun h4=>?_)
 ·exfalso; have h9:=hs.kd; have h8:=hs.len; omega
 refine Ze x.kind 5 V V V (fun h5=>?_) (fun h5=>?_)
 ·exfalso; have h9:=hs.kd; have h8:=hs.len; omega
 refine Ze x.kind 6 V V V (fun h6=>?_) (fun h6=>?_)
 ·exfalso; have h9:=hs.kd; have h8:=hs.len; omega
 refine Ze x.kind 7 V V V (fun h7=>?_) (fun h7=>?_)
 ·exfalso; have h9:=hs.kd; have h8:=hs.len; omega
 refine Ze x.kind 8 V V V (fun h8=>?_) (fun h8=>?_)
 ·refine Yp S3 1 _ _ _ 13 [U nd.span.a,U nd.span.b] V V V Y5 V V V <| Zc S3 (Xh.drop 13 C1) [U x.span.a,U x.span.b] Y5 V V V V V <| Yq S3 ZiL V V V (ZmX S3.imm nd.span x.span _ (QD nd.span ZJ ZL) _ (QD x.span YK Xc)) ?_
  rintro w10 G5 _ ⟨r4,_,rfl,A22,rfl⟩ S10 L5
  obtain ⟨D4,rfl,R4⟩:=A22
  have T8:=QH R4
  obtain ⟨rfl,Zff,Zcn⟩:=T8
  refine WL.alloc S10 Y5 V V (fun b4 w11 N4 S11=>?_)
  refine Z9 S11 0 [U (((ZX nd.span x.span).1).a),U (((ZX nd.span x.span).1).b)] V V Y5 V V V V V V (fun w12 S12=>?_)
  have T9:=S12.shutB N4
  obtain ⟨G6,L6,C3,S13⟩:=T9
  refine ZgX (d:=51) V (fun (h9 : ((ZX nd.span x.span).2) = true)=>?_) (fun (h9 : ((ZX nd.span x.span).2) = false)=>?_)
  ·refine Zc S13 C3 [U (((ZX nd.span x.span).1).a),U (((ZX nd.span x.span).1).b)] Y5 V V V V V ?_
   refine WL.store S13 1 _ _ _ 13 _ [U (((ZX nd.span x.span).1).a),U (((ZX nd.span x.span).1).b)] [U nd.kind,Za nd.table,v1,v2,U nd.cond.kind,Za nd.cond.col,Za nd.cond.oth,U nd.cond.v.k,U nd.cond.v.n,Za nd.cond.v.s,v3,U nd.rel,U nd.fn,U (((ZX nd.span x.span).1).a),U (((ZX nd.span x.span).1).b),v4] _ V V Y5 V (ZZ V) V V V V V V (fun w13 S14=>?_)
   have j2:=((L1.trans L5).trans L6)
   have T10:=Sl.at (A8.mono j2) 0 (by (have:=har.1 (by omega); omega))
   obtain ⟨p3,x2,U2,E2,W2⟩:=T10
   obtain ⟨D5,C4,R5⟩:=E2
   have T11:=Zs R5
   obtain ⟨v22,v23,v24,v25,rfl,Zfg,hb64,A23,A24,Zfh,Zbf,Zd3,ZcS,Zd4,Zem,A25,Zho,Zgd,ZiM,Zhp,A26⟩:=T11
   refine dr [(5,true),(6,false),(7,false)] [(55, .agg #[U nd.kind,Za nd.table,v1,v2,U nd.cond.kind,Za nd.cond.col,Za nd.cond.oth,U nd.cond.v.k,U nd.cond.v.n,Za nd.cond.v.s,v3,U nd.rel,U nd.fn,U (((ZX nd.span x.span).1).a),U (((ZX nd.span x.span).1).b),v4]),(57,v9),(58,ZP p3),(59, .agg (QV x2 v22 v23 v24 v25).toArray)] S14 ⟨fun _ hSw=>Yp hSw 1 _ _ _ 0 [U nd.kind,Za nd.table,v1,v2,U nd.cond.kind,Za nd.cond.col,Za nd.cond.oth,U nd.cond.v.k,U nd.cond.v.n,Za nd.cond.v.s,v3,U nd.rel,U nd.fn,U (((ZX nd.span x.span).1).a),U (((ZX nd.span x.span).1).b),v4] V V V Zt V V V <| nu V V,fun _ hSw=>Z hSw (Xh.drop 15 (C1.mono (L5.trans L6))) Yu V V V <| nu V V,fun _=>Zy 0 W2 Y1 Zt V V V V <| nu V V,fun _ hSw=>Zc hSw C4 (QV x2 v22 v23 v24 v25) Zt V V V V V <| nu V V,trivial⟩ (fun w14 S15=>?_)
   refine WL.buildSlice _ [(0,(QV x2 v22 v23 v24 v25))] (QV x2 v22 v23 v24 v25) S15 Zbb V V V V (fun z hz=>by match z,hz with | [z0,z1,z2,z3,z4,z5,z6,z7,z8,z9,z10,z11,z12,z13,z14,z15],_=>rfl) (fun b5 w15 N5 S16=>?_)
   refine ⟨S16.tail.down S15.le (G6.le_refl),?_⟩
   have T12:=St.sealSl (E:=QryE) (by_:=224) (l:=([x2] : List Query)) S16 N5 ⟨(QV x2 v22 v23 v24 v25),_,V,(Zr x2 Zfg hb64 A23 A24 Zfh Zbf Zd3 ZcS Zd4 Zem A25 Zho Zgd ZiM Zhp A26),V⟩ V (by simp [reach]) (by simp [reach])
   obtain ⟨G7,L7,A27,S17⟩:=T12
   have j3:=(j2.trans L7)
   refine Yq S17 Zen V V V (Zdo S17.imm (Query.mk nd.kind nd.table nd.cols nd.names nd.cond nd.rel nd.fn ((ZX nd.span x.span).1) nd.l) [x2] _ (Zr (Query.mk nd.kind nd.table nd.cols nd.names nd.cond nd.rel nd.fn ((ZX nd.span x.span).1) nd.l) B1 B2 (A1.mono j3) (A2.mono j3) Z7 Z5 ZD hb6 hb7 ZV (A3.mono j3) hb9 ZI Zff Zcn (A4.mono j3)) _ A27) (fun w16 G9 r6 P4 S18 L9=>?_)
   obtain ⟨D6,rfl,R6⟩:=P4
   have T13:=Zs R6
   obtain ⟨v26,v27,v28,v29,rfl,Zfi,Zeo,A28,A29,Zep,Zeq,Zfj,Zfk,Zhq,B85,A30,ZiO,Zer,Zhr,ZiP,A31⟩:=T13
   refine WL.store S18 0 _ _ _ 0 _ (QV (Ym (Query.mk nd.kind nd.table nd.cols nd.names nd.cond nd.rel nd.fn ((ZX nd.span x.span).1) nd.l) [x2]) v26 v27 v28 v29) (QV (Ym (Query.mk nd.kind nd.table nd.cols nd.names nd.cond nd.rel nd.fn ((ZX nd.span x.span).1) nd.l) [x2]) v26 v27 v28 v29) _ V V Zt V (ZZ V) (by simp only [YE,A28.oneC,A29.oneC,A30.oneC,A31.oneC] <;> rfl) V V V V V (fun w17 S19=>?_)
   exact Qk [.agg (QV (Ym (Query.mk nd.kind nd.table nd.cols nd.names nd.cond nd.rel nd.fn ((ZX nd.span x.span).1) nd.l) [x2]) v26 v27 v28 v29).toArray] S19 ⟨_,_,_,V,V,S19.loadA 0 _ _ _ 0 (QV (Ym (Query.mk nd.kind nd.table nd.cols nd.names nd.cond nd.rel nd.fn ((ZX nd.span x.span).1) nd.l) [x2]) v26 v27 v28 v29) V V V Zt V,V⟩ (Is.cast ⟨_,V,(Zr (Ym (Query.mk nd.kind nd.table nd.cols nd.names nd.cond nd.rel nd.fn ((ZX nd.span x.span).1) nd.l) [x2]) Zfi Zeo A28 A29 Zep Zeq Zfj Zfk Zhq B85 A30 ZiO Zer Zhr ZiP A31)⟩ (by with_reducible exact ZvX ‹_› ‹_› ‹_›))
  refine Yp S13 1 _ _ _ 0 (QV nd v1 v2 v3 v4) V V V Zt V V V <| Zc S13 (C1.mono (L5.trans L6)) (QV x v5 v6 v7 v9) Zt V V V V V ?_
  refine WL.buildSlice _ [(0,(QV x v5 v6 v7 v9))] (QV x v5 v6 v7 v9) S13 Zbb V V V V (fun z hz=>by match z,hz with | [z0,z1,z2,z3,z4,z5,z6,z7,z8,z9,z10,z11,z12,z13,z14,z15],_=>rfl) (fun b6 w18 N6 S20=>?_)
  have j4:=((L1.trans L5).trans L6)
  have T14:=St.sealSl (E:=QryE) (by_:=224) (l:=([x] : List Query)) S20 N6 ⟨(QV x v5 v6 v7 v9),_,V,(Zr x Y0 Y6 (A5.mono j4) (A6.mono j4) YA Y9 Yr YH YJ YO (A7.mono j4) Xf Xg YK Xc (A8.mono j4)),V⟩ V (by simp [reach]) (by simp [reach])
  obtain ⟨G10,L10,A32,S21⟩:=T14
  have j5:=(j4.trans L10)
  refine Yq S21 Zen V V V (Zdo S21.imm nd [x] _ (Zr nd B1 B2 (A1.mono j5) (A2.mono j5) Z7 Z5 ZD hb6 hb7 ZV (A3.mono j5) hb9 ZI ZJ ZL (A4.mono j5)) _ A32) (fun w19 G11 r7 P5 S22 L11=>?_)
  obtain ⟨D7,rfl,R7⟩:=P5
  have T15:=Zs R7
  obtain ⟨v30,v31,v32,v33,rfl,Zhs,ZiQ,A33,A34,ZiR,Zht,Zfl,Zd5,Zhu,ZbM,A35,Zb4,Zhv,Zdf,ZdR,A36⟩:=T15
  refine WL.store S22 0 _ _ _ 0 _ (QV (Ym nd [x]) v30 v31 v32 v33) (QV (Ym nd [x]) v30 v31 v32 v33) _ V V Zt V (ZZ V) (by simp only [YE,A33.oneC,A34.oneC,A35.oneC,A36.oneC] <;> rfl) V V V V V (fun w20 S23=>?_)
  exact Qk [.agg (QV (Ym nd [x]) v30 v31 v32 v33).toArray] S23 ⟨_,_,_,V,V,S23.loadA 0 _ _ _ 0 (QV (Ym nd [x]) v30 v31 v32 v33) V V V Zt V,V⟩ (Is.cast ⟨_,V,(Zr (Ym nd [x]) Zhs ZiQ A33 A34 ZiR Zht Zfl Zd5 Zhu ZbM A35 Zb4 Zhv Zdf ZdR A36)⟩ (by with_reducible exact ZvY ‹_› ‹_›))
 refine Yp S3 1 _ _ _ 0 (QV nd v1 v2 v3 v4) V V V Zt V V V <| Zc S3 C1 (QV x v5 v6 v7 v9) Zt V V V V V ?_
 refine WL.buildSlice _ [(0,(QV x v5 v6 v7 v9))] (QV x v5 v6 v7 v9) S3 Zbb V V V V (fun z hz=>by match z,hz with | [z0,z1,z2,z3,z4,z5,z6,z7,z8,z9,z10,z11,z12,z13,z14,z15],_=>rfl) (fun b7 w21 N7 S24=>?_)
 have T16:=St.sealSl (E:=QryE) (by_:=224) (l:=([x] : List Query)) S24 N7 ⟨(QV x v5 v6 v7 v9),_,V,(Zr x Y0 Y6 (A5.mono L1) (A6.mono L1) YA Y9 Yr YH YJ YO (A7.mono L1) Xf Xg YK Xc (A8.mono L1)),V⟩ V (by simp [reach]) (by simp [reach])
 obtain ⟨G12,L12,A37,S25⟩:=T16
 have j6:=(L1.trans L12)
 refine Yq S25 Zen V V V (Zdo S25.imm nd [x] _ (Zr nd B1 B2 (A1.mono j6) (A2.mono j6) Z7 Z5 ZD hb6 hb7 ZV (A3.mono j6) hb9 ZI ZJ ZL (A4.mono j6)) _ A37) (fun w22 G13 r8 P6 S26 L13=>?_)
 obtain ⟨D8,rfl,R8⟩:=P6
 have T17:=Zs R8
 obtain ⟨v34,v35,v36,v37,rfl,ZdS,ZdT,A38,A39,Zg7,Zin,Zfm,Zfn,Zfo,ZdU,A40,Zfp,Zfq,Zfr,ZdV,A41⟩:=T17
 refine WL.store S26 0 _ _ _ 0 _ (QV (Ym nd [x]) v34 v35 v36 v37) (QV (Ym nd [x]) v34 v35 v36 v37) _ V V Zt V (ZZ V) (by simp only [YE,A38.oneC,A39.oneC,A40.oneC,A41.oneC] <;> rfl) V V V V V (fun w23 S27=>?_)
 exact Qk [.agg (QV (Ym nd [x]) v34 v35 v36 v37).toArray] S27 ⟨_,_,_,V,V,S27.loadA 0 _ _ _ 0 (QV (Ym nd [x]) v34 v35 v36 v37) V V V Zt V,V⟩ (Is.cast ⟨_,V,(Zr (Ym nd [x]) ZdS ZdT A38 A39 Zg7 Zin Zfm Zfn Zfo ZdU A40 Zfp Zfq Zfr ZdV A41)⟩ (by with_reducible exact ZqR ‹_› ‹_› ‹_› ‹_› ‹_› ‹_› ‹_› ‹_›))
theorem Zmd {G : GH} {w : World} (hG : G.In w) (nd x : Query) (l : List Schema) (cn : List Value) (hcn : QryE.rep G nd cn) (cx : List Value) (hcx : QryE.rep G x cx) (vl : Value) (hvl : Sl Qv 72 G vl l) (hs : Sim x) : CL Tryz.prog (nat_lit 76) #[.agg cn.toArray, .agg cx.toArray,vl] [] w G fun G' _ r=>Is QryE G' r (QL l nd x):=by
 refine Yw ft [] Tryz.func76 V V ?_
 have hS:=St.start (X:=[]) hG
 have T1:=Zs hcn
 obtain ⟨v1,v2,v3,v4,rfl,B1,B2,A1,A2,Z7,Z5,ZD,hb6,hb7,ZV,A3,hb9,ZI,ZJ,ZL,A4⟩:=T1
 have T2:=Zs hcx
 obtain ⟨v5,v6,v7,v9,rfl,Y0,Y6,A5,A6,YA,Y9,Yr,YH,YJ,YO,A7,Xf,Xg,YK,Xc,A8⟩:=T2
 refine WL.box (QV nd v1 v2 v3 v4) _ hS V V V (fun b1 w1 N1 S1=>?_)
 refine Z4 (QV x v5 v6 v7 v9) _ S1 V V V (fun p1 w2 G1 L1 M1 C1 S2=>?_)
 refine WL.alloc S2 Zt V V (fun b2 w3 N2 S3=>?_)
 refine Z S3 (Xh.drop 0 C1) Zk V V V ?_
 refine Ze x.kind 3 V V V (fun h1=>?_) (fun h1=>?_)
 ·exfalso; have h9:=hs.kd; have h8:=hs.len; omega
 refine Ze x.kind 4 V V V (fun h2=>?_) (fun h2=>?_)
 ·exfalso; have h9:=hs.kd; have h8:=hs.len; omega
 refine Ze x.kind 6 V V V (fun h3=>?_) (fun h3=>?_)
 ·exfalso; have h9:=hs.kd; have h8:=hs.len; omega
 refine Ze x.kind 7 V V V (fun h4=>?_) (fun h4=>?_)
 ·exfalso; have h9:=hs.kd; have h8:=hs.len; omega
 refine Ze x.kind 9 V V V (fun h5=>?_) (fun h5=>?_)
 ·exfalso; have h9:=hs.kd; have h8:=hs.len; omega
 refine Ze x.kind 5 V V V (fun h6=>?_) (fun h6=>?_)
 ·exfalso; have h9:=hs.kd; have h8:=hs.len; omega
 refine Ze x.kind 10 V V V (fun h7=>?_) (fun h7=>?_)
 ·exfalso; have h9:=hs.kd; have h8:=hs.len; omega
 refine Yp S3 1 _ _ _ 0 (QV nd v1 v2 v3 v4) V V V Zt V V V <| Zc S3 C1 (QV x v5 v6 v7 v9) Zt V V V V V ?_
 refine WL.buildSlice _ [(0,(QV x v5 v6 v7 v9))] (QV x v5 v6 v7 v9) S3 Zbb V V V V (fun z hz=>by match z,hz with | [z0,z1,z2,z3,z4,z5,z6,z7,z8,z9,z10,z11,z12,z13,z14,z15],_=>rfl) (fun b3 w4 N3 S4=>?_)
 have T3:=St.sealSl (E:=QryE) (by_:=224) (l:=([x] : List Query)) S4 N3 ⟨(QV x v5 v6 v7 v9),_,V,(Zr x Y0 Y6 (A5.mono L1) (A6.mono L1) YA Y9 Yr YH YJ YO (A7.mono L1) Xf Xg YK Xc (A8.mono L1)),V⟩ V (by simp [reach]) (by simp [reach])
 obtain ⟨G2,L2,A9,S5⟩:=T3
 have j1:=(L1.trans L2)
 refine Yq S5 Zen V V V (Zdo S5.imm nd [x] _ (Zr nd B1 B2 (A1.mono j1) (A2.mono j1) Z7 Z5 ZD hb6 hb7 ZV (A3.mono j1) hb9 ZI ZJ ZL (A4.mono j1)) _ A9) (fun w5 G3 r1 P1 S6 L3=>?_)
 obtain ⟨D1,rfl,R1⟩:=P1
 have T4:=Zs R1
 obtain ⟨v10,v11,v12,v13,rfl,XR,Qa,A10,A11,Qh,Q0,Qs,Q1,Qb,Xw,A12,Qt,XS,Qc,Qu,A13⟩:=T4
 refine WL.store S6 0 _ _ _ 0 _ (QV (Ym nd [x]) v10 v11 v12 v13) (QV (Ym nd [x]) v10 v11 v12 v13) _ V V Zt V (ZZ V) (by simp only [YE,A10.oneC,A11.oneC,A12.oneC,A13.oneC] <;> rfl) V V V V V (fun w6 S7=>?_)
 exact Qk [.agg (QV (Ym nd [x]) v10 v11 v12 v13).toArray] S7 ⟨_,_,_,V,V,S7.loadA 0 _ _ _ 0 (QV (Ym nd [x]) v10 v11 v12 v13) V V V Zt V,V⟩ (Is.cast ⟨_,V,(Zr (Ym nd [x]) XR Qa A10 A11 Qh Q0 Qs Q1 Qb Xw A12 Qt XS Qc Qu A13)⟩ (by exact Zrl ‹_› ‹_› ‹_› ‹_› ‹_› ‹_› ‹_›))
theorem Zqn (n : Nat) : ∀ {G : GH} {w : World} (hG : G.In w) (q : Query) (l : List Schema) (cq : List Value) (hcq : QryE.rep G q cq) (vl : Value) (hvl : Sl Qv 72 G vl l) (hn : Xx q n) (hs : Sim q),CL Tryz.prog (nat_lit 38) #[.agg cq.toArray,vl] [] w G fun G' _ r=>Is QryE G' r (Yg l q):=by
 induction n
 ·intro G w hG q l cq hcq vl hvl hn hs; exact (ZaH hn).elim
 rename_i n ih
 intro G w hG q l cq hcq vl hvl hn hs
 refine Yw ft [] Tryz.func38 V V ?_
 have har:=hs.ar
 have hS:=St.start (X:=[]) hG
 have T1:=Zs hcq
 obtain ⟨v1,v2,v3,v4,rfl,B1,B2,A1,A2,Z7,Z5,ZD,hb6,hb7,ZV,A3,hb9,ZI,ZJ,ZL,A4⟩:=T1
 refine Z4 (QV q v1 v2 v3 v4) _ hS V V V (fun p1 w1 G1 L1 M1 C1 S1=>?_)
 refine WL.alloc S1 Zt V V (fun b1 w2 N1 S2=>?_)
 refine Z S2 (Xh.drop 15 C1) Yu V V V ?_
 have V1:=A4.bound
 refine Zm (A4.mono L1) Y1 V V ?_
 have S4:=S2.pad
 refine LP.go ft [] (fun m ρ1 w1=>∃ (k1 : Nat),∃ (v5 : Value) (o1 : OB),∃ (G2 : GH),m = q.l.length - k1 ∧ G1.le G2 ∧ St w [] G G2 [o1,some (b1,39,[U 0,Za [],Zf,Zf,U 0,Za [],Za [],U 0,U 0,Za [],Zf,U 0,U 0,U 0,U 0,Zf])] w1 ∧ YX QryE 224 39 G2 v5 ((q.l.take k1).map (Yg l)) o1 ∧ FR ρ1 [(1,vl),(2,ZP p1),(4, .pointer (some ⟨b1,0,none⟩)),(5,v5),(9,v4),(10,U (q.l.length : Int)),(11,U (k1 : Int))] ∧ k1 ≤ q.l.length) _ ⟨0,(Zf),none,G1,V,(G1.le_refl),S4,(YX.cast (YX.nil QryE 224 39 G1) (by simp)),(ZS V),(by omega)⟩ ?_
 rintro m ρ1 w3 ⟨k1,v5,o1,G2,rfl,L2,S3,R1,F9,f1⟩
 refine F9.set ?_
 clear F9
 have hlt9:=List.length_take_le' k1 q.l
 refine Zp (k1 : Int) (q.l.length : Int) V V V (fun h1=>?_) (fun h1=>?_)
 ·refine WL.indexAddr (A4.mono (L1.trans L2)) k1 (by omega) Y1 Zt V V V V (fun p2 x1 U1 E1=>?_)
  obtain ⟨D1,C2,R2⟩:=E1
  have T2:=Zs R2
  obtain ⟨v6,v7,v9,v10,rfl,Y0,Y6,A5,A6,YA,Y9,Yr,YH,YJ,YO,A7,Xf,Xg,YK,Xc,A8⟩:=T2
  refine Zc S3 C2 (QV x1 v6 v7 v9 v10) Zt V V V V V ?_
  refine WL.alloc S3 Zt V V (fun b2 w4 N2 S5=>?_)
  refine WL.store S5 0 _ _ _ 0 _ (QV x1 v6 v7 v9 v10) (QV x1 v6 v7 v9 v10) _ V V Zt V (ZZ V) (by simp only [YE,A5.oneC,A6.oneC,A7.oneC,A8.oneC] <;> rfl) V V V V V (fun w5 S6=>?_)
  have T3:=S6.shutB N2
  obtain ⟨G3,L3,C3,S7⟩:=T3
  refine Zc S7 C3 (QV x1 v6 v7 v9 v10) Zt V V V V V ?_
  refine Yq S7 ZcR V V V (ih S7.imm x1 l _ (Zr x1 Y0 Y6 (A5.mono L3) (A6.mono L3) YA Y9 Yr YH YJ YO (A7.mono L3) Xf Xg YK Xc (A8.mono L3)) _ (hvl.mono ((L1.trans L2).trans L3)) (XN hn (List.mem_of_getElem? ‹_›)) (hs.kid (List.mem_of_getElem? ‹_›))) (fun w6 G4 r1 P1 S8 L4=>?_)
  obtain ⟨D2,rfl,R3⟩:=P1
  have T4:=Zs R3
  obtain ⟨v11,v12,v13,v14,rfl,XR,Qa,A9,A10,Qh,Q0,Qs,Q1,Qb,Xw,A11,Qt,XS,Qc,Qu,A12⟩:=T4
  refine WL.buildSlice _ [(0,(QV (Yg l x1) v11 v12 v13 v14))] (QV (Yg l x1) v11 v12 v13 v14) S8 Zbb V V V V (fun z hz=>by match z,hz with | [z0,z1,z2,z3,z4,z5,z6,z7,z8,z9,z10,z11,z12,z13,z14,z15],_=>rfl) (fun b3 w7 N3 S9=>?_)
  refine WL.push (m:=([(Yg l x1)] : List Query)) Zbb V V V (R1.mono (L3.trans L4)) S9 1 V 0 _ _ _ _ _ V ⟨(QV (Yg l x1) v11 v12 v13 v14),_,V,(Zr (Yg l x1) XR Qa A9 A10 Qh Q0 Qs Q1 Qb Xw A11 Qt XS Qc Qu A12),V⟩ V (by have:=Zb; have hby9:=(by assumption : Sl QryE 224 G _ q.l).bytes; simp only [List.length_append,List.length_map,List.length_take,List.length_cons,List.length_nil]; omega) (by have:=Zb; have hby9:=(by assumption : Sl QryE 224 G _ q.l).bytes; simp only [List.length_append,List.length_map,List.length_take,List.length_cons,List.length_nil]; omega) V V V (fun v15 o2 w9 R4 S10=>?_)
  have S11:=S10.tail
  refine Zq k1 (by have:=Zb; omega) V V V ?_
  exact BK.mk' _ ⟨k1 + 1,v15,o2,G4,V,(L2.trans (L3.trans L4)),S11,(YX.cast R4 (by (exact (Zuv ‹_›).symm))),(ZS V),(by omega)⟩ (show q.l.length - (k1 + 1) < q.l.length - k1 by omega)
 have T5:=YX.freeze R1 S3 0 V
 obtain ⟨G5,L5,A13,S12⟩:=T5
 have hpm:=Sl.cast (l':=q.l.map (Yg l)) A13 (by rw [List.take_of_length_le (by omega)])
 have j1:=(L2.trans L5)
 refine Z S12 (Xh.drop 0 (C1.mono j1)) Zk V V V ?_
 refine Ze q.kind 8 V V V (fun h2=>?_) (fun h2=>?_)
 ·have T6:=Sl.at hpm 0 (by (rw [List.length_map]; have:=har.1 (by omega); omega))
  obtain ⟨p3,x2,U2,E2,W1⟩:=T6
  obtain ⟨D3,C4,R5⟩:=E2
  have T7:=Zs R5
  obtain ⟨v16,v17,v18,v19,rfl,Zbc,Zbd,A14,A15,Zck,Zb0,Zb1,Zb2,Zb3,Zbe,A16,Zcl,Zcm,Zc2,Zc3,A17⟩:=T7
  refine dr [(1,true),(5,false),(6,false)] [(26, .agg (QV q v1 v2 v3 v4).toArray),(29,ZP p3),(30, .agg (QV x2 v16 v17 v18 v19).toArray)] S12 ⟨fun _ hSw=>Zc hSw (C1.mono j1) (QV q v1 v2 v3 v4) Zt V V V V V <| nu V V,fun _=>Zy 0 W1 Y1 Zt V V V V <| nu V V,fun _ hSw=>Zc hSw C4 (QV x2 v16 v17 v18 v19) Zt V V V V V <| nu V V,trivial⟩ (fun w10 S13=>?_)
  have j2:=((L1.trans L2).trans L5)
  refine Yq S13 Zho V V V (ZiT S13.imm q _ (Zr q B1 B2 (A1.mono j2) (A2.mono j2) Z7 Z5 ZD hb6 hb7 ZV (A3.mono j2) hb9 ZI ZJ ZL (A4.mono j2))) (fun w11 G6 r2 P2 S14 L6=>?_)
  obtain ⟨D4,rfl,R6⟩:=P2
  have T8:=Zs R6
  obtain ⟨v20,v21,v22,v23,rfl,Zd0,Zd1,A18,A19,Zd2,Zgc,Zfc,Zei,Zfd,Zej,A20,Zek,Zel,Zfe,Zff,A21⟩:=T8
  refine ⟨S14.down S13.le L6,?_⟩
  refine Yq S14 ZiN V V V (Zqm (Y7 x2) S14.imm (ZU q) x2 _ (Zr (ZU q) Zd0 Zd1 A18 A19 Zd2 Zgc Zfc Zei Zfd Zej A20 Zek Zel Zfe Zff A21) _ (Zr x2 Zbc Zbd (A14.mono L6) (A15.mono L6) Zck Zb0 Zb1 Zb2 Zb3 Zbe (A16.mono L6) Zcl Zcm Zc2 Zc3 (A17.mono L6)) (QI _) (Zqk hs (by assumption : (List.map (Yg l) q.l)[0]? = some _))) (fun w12 G7 r3 P3 S15 L7=>?_)
  obtain ⟨D5,rfl,R7⟩:=P3
  have T9:=Zs R7
  obtain ⟨v24,v25,v26,v27,rfl,Zcn,Zfg,A22,A23,hb64,Zfh,Zbf,Zd3,ZcS,Zd4,A24,Zem,ZiL,Zgd,ZiM,A25⟩:=T9
  refine WL.store S15 1 _ _ _ 0 _ (QV (XY (ZU q) x2) v24 v25 v26 v27) (QV (XY (ZU q) x2) v24 v25 v26 v27) _ V V Zt V (ZZ V) (by simp only [YE,A22.oneC,A23.oneC,A24.oneC,A25.oneC] <;> rfl) V V V V V (fun w13 S16=>?_)
  exact Qk [.agg (QV (XY (ZU q) x2) v24 v25 v26 v27).toArray] S16 ⟨_,_,_,V,V,S16.loadA 1 _ _ _ 0 (QV (XY (ZU q) x2) v24 v25 v26 v27) V V V Zt V,V⟩ (Is.cast ⟨_,V,(Zr (XY (ZU q) x2) Zcn Zfg A22 A23 hb64 Zfh Zbf Zd3 ZcS Zd4 A24 Zem ZiL Zgd ZiM A25)⟩ (by with_reducible exact Zrm ‹_› (by assumption : (List.map (Yg l) q.l)[0]? = some _)))
 refine Ze q.kind 2 V V V (fun h3=>?_) (fun h3=>?_)
 ·have T10:=Sl.at hpm 0 (by (rw [List.length_map]; have:=har.1 (by omega); omega))
  obtain ⟨p4,x3,U3,E3,W2⟩:=T10
  obtain ⟨D6,C5,R8⟩:=E3
  have T11:=Zs R8
  obtain ⟨v28,v29,v30,v31,rfl,Zfi,Zeo,A26,A27,Zep,Zeq,Zfj,Zfk,Zhq,B85,A28,ZiO,Zer,Zhr,ZiP,A29⟩:=T11
  refine dr [(1,true),(6,false),(7,false)] [(34, .agg (QV q v1 v2 v3 v4).toArray),(37,ZP p4),(38, .agg (QV x3 v28 v29 v30 v31).toArray)] S12 ⟨fun _ hSw=>Zc hSw (C1.mono j1) (QV q v1 v2 v3 v4) Zt V V V V V <| nu V V,fun _=>Zy 0 W2 Y1 Zt V V V V <| nu V V,fun _ hSw=>Zc hSw C5 (QV x3 v28 v29 v30 v31) Zt V V V V V <| nu V V,trivial⟩ (fun w14 S17=>?_)
  have j3:=((L1.trans L2).trans L5)
  refine Yq S17 Zho V V V (ZiT S17.imm q _ (Zr q B1 B2 (A1.mono j3) (A2.mono j3) Z7 Z5 ZD hb6 hb7 ZV (A3.mono j3) hb9 ZI ZJ ZL (A4.mono j3))) (fun w15 G9 r4 P4 S18 L9=>?_)
  obtain ⟨D7,rfl,R9⟩:=P4
  have T12:=Zs R9
  obtain ⟨v32,v33,v34,v35,rfl,Zhs,ZiQ,A30,A31,ZiR,Zht,Zfl,Zd5,Zhu,ZbM,A32,Zb4,Zhv,Zdf,ZdR,A33⟩:=T12
  refine ⟨S18.down S17.le L9,?_⟩
  refine Yq S18 Zhp V V V (Zmd S18.imm (ZU q) x3 l _ (Zr (ZU q) Zhs ZiQ A30 A31 ZiR Zht Zfl Zd5 Zhu ZbM A32 Zb4 Zhv Zdf ZdR A33) _ (Zr x3 Zfi Zeo (A26.mono L9) (A27.mono L9) Zep Zeq Zfj Zfk Zhq B85 (A28.mono L9) ZiO Zer Zhr ZiP (A29.mono L9)) _ (hvl.mono (((L1.trans L2).trans L5).trans L9)) (Zqk hs (by assumption : (List.map (Yg l) q.l)[0]? = some _))) (fun w16 G10 r5 P5 S19 L10=>?_)
  obtain ⟨D8,rfl,R10⟩:=P5
  have T13:=Zs R10
  obtain ⟨v36,v37,v38,v39,rfl,ZdS,ZdT,A34,A35,Zg7,Zin,Zfm,Zfn,Zfo,ZdU,A36,Zfp,Zfq,Zfr,ZdV,A37⟩:=T13
  refine WL.store S19 1 _ _ _ 0 _ (QV (QL l (ZU q) x3) v36 v37 v38 v39) (QV (QL l (ZU q) x3) v36 v37 v38 v39) _ V V Zt V (ZZ V) (by simp only [YE,A34.oneC,A35.oneC,A36.oneC,A37.oneC] <;> rfl) V V V V V (fun w17 S20=>?_)
  exact Qk [.agg (QV (QL l (ZU q) x3) v36 v37 v38 v39).toArray] S20 ⟨_,_,_,V,V,S20.loadA 1 _ _ _ 0 (QV (QL l (ZU q) x3) v36 v37 v38 v39) V V V Zt V,V⟩ (Is.cast ⟨_,V,(Zr (QL l (ZU q) x3) ZdS ZdT A34 A35 Zg7 Zin Zfm Zfn Zfo ZdU A36 Zfp Zfq Zfr ZdV A37)⟩ (by with_reducible exact Zrn ‹_› (by assumption : (List.map (Yg l) q.l)[0]? = some _)))
 refine Zc S12 (C1.mono j1) (QV q v1 v2 v3 v4) Zt V V V V V ?_
 have j4:=((L1.trans L2).trans L5)
 refine Yq S12 Zen V V V (Zdo S12.imm q (q.l.map (Yg l)) _ (Zr q B1 B2 (A1.mono j4) (A2.mono j4) Z7 Z5 ZD hb6 hb7 ZV (A3.mono j4) hb9 ZI ZJ ZL (A4.mono j4)) _ hpm) (fun w18 G11 r6 P6 S21 L11=>?_)
 obtain ⟨D9,rfl,R11⟩:=P6
 have T14:=Zs R11
 obtain ⟨v40,v41,v42,v43,rfl,ZjZ,Zka,A38,A39,Zkb,Zkc,Zkd,Zke,Zkf,Zkg,A40,Zkh,Ztj,Ztk,Ztl,A41⟩:=T14
 refine WL.store S21 1 _ _ _ 0 _ (QV (Ym q (q.l.map (Yg l))) v40 v41 v42 v43) (QV (Ym q (q.l.map (Yg l))) v40 v41 v42 v43) _ V V Zt V (ZZ V) (by simp only [YE,A38.oneC,A39.oneC,A40.oneC,A41.oneC] <;> rfl) V V V V V (fun w19 S22=>?_)
 exact Qk [.agg (QV (Ym q (q.l.map (Yg l))) v40 v41 v42 v43).toArray] S22 ⟨_,_,_,V,V,S22.loadA 1 _ _ _ 0 (QV (Ym q (q.l.map (Yg l))) v40 v41 v42 v43) V V V Zt V,V⟩ (Is.cast ⟨_,V,(Zr (Ym q (q.l.map (Yg l))) ZjZ Zka A38 A39 Zkb Zkc Zkd Zke Zkf Zkg A40 Zkh Ztj Ztk Ztl A41)⟩ (by with_reducible exact Zro ‹_› ‹_›))
theorem ZuQ {G : GH} {w : World} (hG : G.In w) (q : Query) (l : List Schema) (hg : Glob G) (cq : List Value) (hcq : QryE.rep G q cq) (vl : Value) (hvl : Sl Qv 72 G vl l) (hsm : smQ (Y7 q) q) (hs : Sim q) : CL Tryz.prog (nat_lit 14) #[.agg cq.toArray,vl] [] w G fun G' _ r=>∃ r0 r1,r = .tuple #[r0,r1] ∧ Is QryE G' r0 ((XZ q l).1) ∧ r1 = U ((XZ q l).2):=by
 refine Yw ft [] Tryz.func14 V V ?_
 have hS:=St.start (X:=[]) hG
 have T1:=Zs hcq
 obtain ⟨v1,v2,v3,v4,rfl,B1,B2,A1,A2,Z7,Z5,ZD,hb6,hb7,ZV,A3,hb9,ZI,ZJ,ZL,A4⟩:=T1
 refine Z4 (QV q v1 v2 v3 v4) _ hS V V V (fun p1 w1 G1 L1 M1 C1 S1=>?_)
 refine WL.alloc S1 Zt V V (fun b1 w2 N1 S2=>?_)
 refine Zc S2 C1 (QV q v1 v2 v3 v4) Zt V V V V V <| Yq S2 Qu V V V (Zix S2.imm (Y7 q) q l (hg.mono L1) _ (Zr q B1 B2 (A1.mono L1) (A2.mono L1) Z7 Z5 ZD hb6 hb7 ZV (A3.mono L1) hb9 ZI ZJ ZL (A4.mono L1)) _ (hvl.mono L1) (QI _) hsm hs) ?_
 rintro w3 G2 _ ⟨r2,_,rfl,A5,rfl⟩ S3 L2
 refine Zz ((X9 (Y7 q) q l).2) 0 V V V (fun h1=>?_) (fun h1=>?_)
 ·refine WL.build _ [] [U 0,Za [],Zf,Zf,U 0,Za [],Za [],U 0,U 0,Za [],Zf,U 0,U 0,U 0,U 0,Zf] Zt V ZfZ V V V V ?_
  refine Z9 S3 0 [U 0,Za [],Zf,Zf,U 0,Za [],Za [],U 0,U 0,Za [],Zf,U 0,U 0,U 0,U 0,Zf] V V Zt V V V V V V (fun w4 S4=>?_)
  exact Qk [.agg #[U 0,Za [],Zf,Zf,U 0,Za [],Za [],U 0,U 0,Za [],Zf,U 0,U 0,U 0,U 0,Zf],U ((X9 (Y7 q) q l).2)] S4 ⟨_,_,_,V,V,S4.loadA 0 _ _ _ 0 [U 0,Za [],Zf,Zf,U 0,Za [],Za [],U 0,U 0,Za [],Zf,U 0,U 0,U 0,U 0,Zf] V V V Zt V,⟨_,V,V⟩⟩ ⟨_,_,V,(Is.cast ⟨_,V,(Zr (Query.mk 0 [] [] [] (Cond.mk 0 [] [] (Val.mk 0 0 []) []) 0 0 (Span.mk 0 0) []) Yf (by simp [reach]) (Sl.nil Enc.str 16 G2) (Sl.nil Enc.str 16 G2) Yf (by simp [reach]) (by simp [reach]) Yf Yf (by simp [reach]) (Sl.nil CndE 96 G2) Yf Yf Yf Yf (Sl.nil QryE 224 G2))⟩ (by with_reducible exact (ZsJ ‹_›).1)),(congrArg (Value.int .i64) (by with_reducible exact (ZsJ ‹_›).2))⟩
 refine Zc S3 (C1.mono L2) (QV q v1 v2 v3 v4) Zt V V V V V ?_
 have j1:=(L1.trans L2)
 refine Yq S3 ZcR V V V (Zqn (Y7 q) S3.imm q l _ (Zr q B1 B2 (A1.mono j1) (A2.mono j1) Z7 Z5 ZD hb6 hb7 ZV (A3.mono j1) hb9 ZI ZJ ZL (A4.mono j1)) _ (hvl.mono j1) (QI _) hs) (fun w5 G3 r4 P2 S5 L3=>?_)
 obtain ⟨D1,rfl,R1⟩:=P2
 have T2:=Zs R1
 obtain ⟨v5,v6,v7,v9,rfl,Y0,Y6,A6,A7,YA,Y9,Yr,YH,YJ,YO,A8,Xf,Xg,YK,Xc,A9⟩:=T2
 refine WL.alloc S5 Zt V V (fun b2 w6 N2 S6=>?_)
 refine WL.store S6 0 _ _ _ 0 _ (QV (Yg l q) v5 v6 v7 v9) (QV (Yg l q) v5 v6 v7 v9) _ V V Zt V (ZZ V) (by simp only [YE,A6.oneC,A7.oneC,A8.oneC,A9.oneC] <;> rfl) V V V V V (fun w7 S7=>?_)
 have T3:=S7.shutB N2
 obtain ⟨G4,L4,C2,S8⟩:=T3
 refine Zc S8 C2 (QV (Yg l q) v5 v6 v7 v9) Zt V V V V V ?_
 have j2:=((j1.trans L3).trans L4)
 refine Zl S8 Zbd V V V (Zfu S8.imm (Y7 (Yg l q)) (Yg l q) (hg.mono j2) _ (Zr (Yg l q) Y0 Y6 (A6.mono L4) (A7.mono L4) YA Y9 Yr YH YJ YO (A8.mono L4) Xf Xg YK Xc (A9.mono L4)) (QI _)) (fun w9 G5 S9 L5=>?_)
 refine WL.split (fun (h2 : (X8 (Y7 (Yg l q)) (Yg l q)) = true)=>?_) (fun (h2 : (X8 (Y7 (Yg l q)) (Yg l q)) = false)=>?_)
 ·refine Zc S9 (C2.mono L5) (QV (Yg l q) v5 v6 v7 v9) Zt V V V V V ?_
  have j3:=(L4.trans L5)
  refine Yq S9 Zck V V V (Zev (Y7 (Yg l q)) S9.imm (Yg l q) _ (Zr (Yg l q) Y0 Y6 (A6.mono j3) (A7.mono j3) YA Y9 Yr YH YJ YO (A8.mono j3) Xf Xg YK Xc (A9.mono j3)) (QI _)) (fun w10 G6 r5 P3 S10 L6=>?_)
  obtain ⟨D2,rfl,R2⟩:=P3
  have T4:=Zs R2
  obtain ⟨v10,v11,v12,v13,rfl,XR,Qa,A10,A11,Qh,Q0,Qs,Q1,Qb,Xw,A12,Qt,XS,Qc,Zbc,A13⟩:=T4
  refine WL.store S10 0 _ _ _ 0 _ (QV (Yg l q) v10 v11 v12 v13) (QV (Yg l q) v10 v11 v12 v13) _ V V Zt V (ZZ V) (by simp only [YE,A10.oneC,A11.oneC,A12.oneC,A13.oneC] <;> rfl) V V V V V (fun w11 S11=>?_)
  exact Qk [.agg (QV (Yg l q) v10 v11 v12 v13).toArray,U 0] S11 ⟨_,_,_,V,V,S11.loadA 0 _ _ _ 0 (QV (Yg l q) v10 v11 v12 v13) V V V Zt V,⟨_,V,V⟩⟩ ⟨_,_,V,(Is.cast ⟨_,V,(Zr (Yg l q) XR Qa A10 A11 Qh Q0 Qs Q1 Qb Xw A12 Qt XS Qc Zbc A13)⟩ (by with_reducible exact (ZnB ‹_› ‹_›).1)),(congrArg (Value.int .i64) (by with_reducible exact (ZnB ‹_› ‹_›).2))⟩
 refine Zc S9 (C1.mono (((L2.trans L3).trans L4).trans L5)) (QV q v1 v2 v3 v4) Zt V V V V V ?_
 have j4:=(j2.trans L5)
 refine Yq S9 Zck V V V (Zev (Y7 q) S9.imm q _ (Zr q B1 B2 (A1.mono j4) (A2.mono j4) Z7 Z5 ZD hb6 hb7 ZV (A3.mono j4) hb9 ZI ZJ ZL (A4.mono j4)) (QI _)) (fun w12 G7 r6 P4 S12 L7=>?_)
 obtain ⟨D3,rfl,R3⟩:=P4
 have T5:=Zs R3
 obtain ⟨v14,v15,v16,v17,rfl,Zb0,Zb1,A14,A15,Zb2,Zb3,Zbe,Zcl,Zcm,Zc2,A16,Zc3,Zd0,Zd1,Zd2,A17⟩:=T5
 refine WL.store S12 0 _ _ _ 0 _ (QV q v14 v15 v16 v17) (QV q v14 v15 v16 v17) _ V V Zt V (ZZ V) (by simp only [YE,A14.oneC,A15.oneC,A16.oneC,A17.oneC] <;> rfl) V V V V V (fun w13 S13=>?_)
 exact Qk [.agg (QV q v14 v15 v16 v17).toArray,U 0] S13 ⟨_,_,_,V,V,S13.loadA 0 _ _ _ 0 (QV q v14 v15 v16 v17) V V V Zt V,⟨_,V,V⟩⟩ ⟨_,_,V,(Is.cast ⟨_,V,(Zr q Zb0 Zb1 A14 A15 Zb2 Zb3 Zbe Zcl Zcm Zc2 A16 Zc3 Zd0 Zd1 Zd2 A17)⟩ (by with_reducible exact (ZsK ‹_› ‹_›).1)),(congrArg (Value.int .i64) (by with_reducible exact (ZsK ‹_› ‹_›).2))⟩
end Go.Civ
