/- Lemmas. -/
import Derived.Test.YthgeclodflmiaaaGreatH24
import Derived.Test.YthgeclodflmiaaaGreatH26
import Derived.Test.YthgeclodflmiaaaGreatH27
import Derived.Test.YthgeclodflmiaaaGreatProg
import Derived.KernelRfl
import Derived.WalkKit
set_option linter.unusedVariables false
set_option linter.unusedSimpArgs false
set_option maxRecDepth 100000
set_option maxHeartbeats 4000000
namespace Go.Civ
open Go.Proofs
theorem Zr0 {G : GH} {w : World} (hG : G.In w) (x y : Pt) (cx : List Value) (hcx : PtE.rep G x cx) (cy : List Value) (hcy : PtE.rep G y cy) : CL Tryz.prog (nat_lit 117) #[.agg cx.toArray, .agg cy.toArray] [] w G fun _ _ r=>r = .int .i64 (Zas x y):=by
 refine Zg ft [] Tryz.func117 rfl rfl ?_
 have hS:=St.start (X:=[]) hG
 obtain ⟨v1,rfl,hb1,hb2,hs1⟩:=Zcf hcx
 obtain ⟨v2,rfl,hb3,hb4,hs2⟩:=Zcf hcy
 refine Zv [.int .i64 x.tx, .int .i64 x.vd,v1] _ hS rfl rfl rfl (fun p1 w1 G1 hle1 hsp1 hc1 hS1=>?_)
 refine Zv [.int .i64 y.tx, .int .i64 y.vd,v2] _ hS1 rfl rfl rfl (fun p2 w2 G2 hle2 hsp2 hc2 hS2=>?_)
 refine dr [(15,false),(16,false),(17,false)] [(6, .int .i64 x.tx),(8, .int .i64 y.tx),(9, .int .i64 (Yu x.tx y.tx)),(11, .int .i64 x.vd),(13, .int .i64 y.vd),(14, .int .i64 (Yu x.vd y.vd)),(16,v1),(18,v2),(19, .int .i64 (X4 x.v y.v))] hS2 ⟨fun _ hSw=>Za hSw (Xw.drop 0 (hc1.mono hle2)) Zp rfl rfl rfl <| nu rfl rfl,fun _ hSw=>Za hSw (Xw.drop 0 hc2) Zp rfl rfl rfl <| nu rfl rfl,fun _ hSw=>Z4 hSw ZjC rfl rfl rfl (Zd1 hSw.imm x.tx y.tx) rfl,fun _ hSw=>Za hSw (Xw.drop 1 (hc1.mono hle2)) Zp rfl rfl rfl <| nu rfl rfl,fun _ hSw=>Za hSw (Xw.drop 1 hc2) Zp rfl rfl rfl <| nu rfl rfl,fun _ hSw=>Z4 hSw ZjC rfl rfl rfl (Zd1 hSw.imm x.vd y.vd) rfl,fun _ hSw=>Za hSw (Xw.drop 2 (hc1.mono hle2)) ZH rfl rfl rfl <| nu rfl rfl,fun _ hSw=>Za hSw (Xw.drop 2 hc2) ZH rfl rfl rfl <| nu rfl rfl,fun _ hSw=>Z4 hSw ZjA rfl rfl rfl (ZfY hSw.imm x.v y.v _ (hs1.mono (hle1.trans hle2)) _ (hs2.mono (hle1.trans hle2))) rfl,trivial⟩ (fun w3 hS3=>?_)
 refine WL.buildSlice _ [(0,[.int .i64 (Yu x.tx y.tx)]),(1,[.int .i64 (Yu x.vd y.vd)]),(2,[.int .i64 (X4 x.v y.v)])] [.int .i64 (Yu x.tx y.tx), .int .i64 (Yu x.vd y.vd), .int .i64 (X4 x.v y.v)] hS3 YU rfl rfl rfl rfl (fun z hz=>by match z,hz with | [z0,z1,z2],_=>rfl) (fun b1 w4 hn1 hS4=>?_)
 obtain ⟨G3,hle3,hs3,hS5⟩:=St.sealSl (E:=Enc.int) (by_:=8) (l:=([(Yu x.tx y.tx),(Yu x.vd y.vd),(X4 x.v y.v)] : List Int)) hS4 hn1 ⟨[.int .i64 (Yu x.tx y.tx)],_,rfl,⟨rfl,Zec x.tx y.tx⟩,⟨[.int .i64 (Yu x.vd y.vd)],_,rfl,⟨rfl,Zec x.vd y.vd⟩,⟨[.int .i64 (X4 x.v y.v)],_,rfl,⟨rfl,ZpY x.v y.v⟩,rfl⟩⟩⟩ rfl (by simp [reach]) (by simp [reach])
 refine Zn hS5 Zsj rfl rfl rfl (Zu1 hS5.imm [(Yu x.tx y.tx),(Yu x.vd y.vd),(X4 x.v y.v)] _ hs3) (fun w5 G4 hS6 hle4=>?_)
 exact RI hS6 rfl (by exact Zog _ _ _)
theorem Zaz {G : GH} {w : World} (hG : G.In w) (s : Span) (x : Int) (cs : List Value) (hcs : SpanE.rep G s cs) : CL Tryz.prog (nat_lit 114) #[.agg cs.toArray, .int .i64 x] [] w G fun _ _ r=>r = .bool (QO x s):=by
 refine Zg ft [] Tryz.func114 rfl rfl ?_
 have hS:=St.start (X:=[]) hG
 obtain ⟨rfl,hb1,hb2⟩:=ZE hcs
 refine Zv [.int .i64 s.a, .int .i64 s.b] _ hS rfl rfl rfl (fun p1 w1 G1 hle1 hsp1 hc1 hS1=>?_)
 refine Za hS1 (Xw.drop 0 hc1) Zp rfl rfl rfl ?_
 refine Qu s.a x rfl rfl rfl (fun h1=>?_) (fun h1=>?_)
 ·refine Za hS1 (Xw.drop 1 hc1) Zp rfl rfl rfl <| ZZ .lss rfl .i64 x s.b rfl rfl rfl ?_
  exact RB hS1 rfl (by unfold QO; simp_all [Cmp.b] <;> (first | omega | (intros; omega) | (rw [Bool.eq_iff_iff]; simp <;> omega) | (rw [Bool.eq_iff_iff]; simp_all <;> omega)))
 exact RB hS1 rfl (by unfold QO; simp_all [Cmp.b] <;> (omega))
theorem Zt3 {G : GH} {w : World} (hG : G.In w) (q : Pt) (cq : List Value) (hcq : PtE.rep G q cq) (h1 : Yp q.tx = true) (h2 : Yp q.vd = true) : CL Tryz.prog (nat_lit 61) #[.agg cq.toArray] [] w G fun G' _ r=>Is HRowE G' r (ZN (some q)):=by
 refine YB ft [] Tryz.func61 rfl rfl ?_
 have hS:=St.start (X:=[]) hG
 obtain ⟨v1,rfl,hb1,hb2,hs1⟩:=Zcf hcq
 refine Zv [.int .i64 q.tx, .int .i64 q.vd,v1] _ hS rfl rfl rfl (fun p1 w1 G1 hle1 hsp1 hc1 hS1=>?_)
 refine WL.alloc hS1 Zt rfl rfl (fun b1 w2 hn1 hS2=>?_)
 have hi1 : Zw (q.vd + 1):=by have b1:=Qa h1; have b2:=Qa h2; have:=hb2.1; have:=hb2.2; constructor <;> omega
 have hi2 : Zw (q.tx + 1):=by have b1:=Qa h1; have b2:=Qa h2; have:=hb1.1; have:=hb1.2; constructor <;> omega
 refine dr [(2,true),(16,false),(17,false)] [(4,v1),(7, .int .i64 q.vd),(9, .int .i64 q.vd),(10, .int .i64 (q.vd + 1)),(11, .agg #[.int .i64 q.vd, .int .i64 (q.vd + 1)]),(13, .int .i64 q.tx),(15, .int .i64 q.tx),(16, .int .i64 (q.tx + 1)),(17, .agg #[.int .i64 q.tx, .int .i64 (q.tx + 1)]),(18, .agg #[.int .i64 q.vd, .int .i64 (q.vd + 1), .int .i64 q.tx, .int .i64 (q.tx + 1)])] hS2 ⟨fun _ hSw=>Za hSw (Xw.drop 2 hc1) ZH rfl rfl rfl <| nu rfl rfl,fun _ hSw=>Za hSw (Xw.drop 1 hc1) Zp rfl rfl rfl <| nu rfl rfl,fun _ hSw=>Za hSw (Xw.drop 1 hc1) Zp rfl rfl rfl <| nu rfl rfl,fun _=>ZaL .add rfl q.vd 1 rfl rfl rfl hi1 <| nu rfl rfl,fun _=>WL.build _ [(0,[.int .i64 q.vd]),(1,[.int .i64 (q.vd + 1)])] [.int .i64 q.vd, .int .i64 (q.vd + 1)] Zu rfl X6 rfl rfl rfl rfl <| nu rfl rfl,fun _ hSw=>Za hSw (Xw.drop 0 hc1) Zp rfl rfl rfl <| nu rfl rfl,fun _ hSw=>Za hSw (Xw.drop 0 hc1) Zp rfl rfl rfl <| nu rfl rfl,fun _=>ZaL .add rfl q.tx 1 rfl rfl rfl hi2 <| nu rfl rfl,fun _=>WL.build _ [(0,[.int .i64 q.tx]),(1,[.int .i64 (q.tx + 1)])] [.int .i64 q.tx, .int .i64 (q.tx + 1)] Zu rfl X6 rfl rfl rfl rfl <| nu rfl rfl,fun _=>WL.build _ [(0,[.int .i64 q.vd, .int .i64 (q.vd + 1)]),(1,[.int .i64 q.tx, .int .i64 (q.tx + 1)])] [.int .i64 q.vd, .int .i64 (q.vd + 1), .int .i64 q.tx, .int .i64 (q.tx + 1)] Zb8 rfl Zdc rfl rfl rfl rfl <| nu rfl rfl,trivial⟩ (fun w3 hS3=>?_)
 refine Z6 hS3 Ze5 rfl rfl rfl (Zab hS3.imm q.v _ (hs1.mono hle1)) (fun w4 G2 r1 hpost1 hS4 hle2=>?_)
 refine ⟨hS4.down hS3.le hle2,?_⟩
 refine WL.build _ [(0,[r1]),(1,[.int .i64 q.vd, .int .i64 (q.vd + 1), .int .i64 q.tx, .int .i64 (q.tx + 1)])] [r1, .int .i64 q.vd, .int .i64 (q.vd + 1), .int .i64 q.tx, .int .i64 (q.tx + 1)] Zt rfl Zbr rfl rfl (by show [(0,(r1 : Value).cells.toList),(1,(.agg #[.int .i64 q.vd, .int .i64 (q.vd + 1), .int .i64 q.tx, .int .i64 (q.tx + 1)] : Value).cells.toList)] = _; simp only [hpost1.cells1] <;> rfl) rfl ?_
 refine WL.store hS4 0 _ _ _ 0 _ [r1, .int .i64 q.vd, .int .i64 (q.vd + 1), .int .i64 q.tx, .int .i64 (q.tx + 1)] [r1, .int .i64 q.vd, .int .i64 (q.vd + 1), .int .i64 q.tx, .int .i64 (q.tx + 1)] _ rfl rfl Zt rfl (Nat.le_of_ble_eq_true rfl) (by simp only [List.all_cons,List.all_nil,hpost1.oneC,Bool.true_and] <;> rfl) rfl rfl rfl rfl rfl (fun w5 hS5=>?_)
 obtain ⟨G3,hle3,hc2,hS6⟩:=hS5.shutB hn1
 exact Xe [.agg #[r1, .int .i64 q.vd, .int .i64 (q.vd + 1), .int .i64 q.tx, .int .i64 (q.tx + 1)]] hS6 ⟨_,_,_,rfl,rfl,hS6.loadC hc2 Zt rfl rfl,rfl⟩ (Is.cast ⟨_,rfl,(ZQ (HRow.mk q.v (Rect.mk (Span.mk q.vd (q.vd + 1)) (Span.mk q.tx (q.tx + 1)))) (hpost1.mono hle3) hb2 hi1 hb1 hi2)⟩ (by rfl))
end Go.Civ
set_option linter.unusedVariables false
set_option linter.unusedSimpArgs false
set_option maxRecDepth 100000
set_option maxHeartbeats 4000000
namespace Go.Civ
open Go.Proofs
theorem Zpw (d : Nat) : ∀ {G : GH} {w : World} (hG : G.In w) (c : Cond) (l : List Col) (v : List Val) (cc : List Value) (hcc : (Y1 d).rep G c cc) (vl : Value) (hvl : Sl ColE 24 G vl l) (vv : Value) (hvv : Sl ValE 32 G vv v) (hwf : Ze3 d c) (hty : YP d c l = 0) (hlv : v.length = l.length),CL Tryz.prog (nat_lit 238) #[.agg cc.toArray,vl,vv] [] w G fun _ _ r=>r = .bool (Xf d c l v):=by
 induction d
 ·intro G w hG c l v cc hcc vl hvl vv hvv hwf hty hlv; exact (Zb6 hcc).elim
 rename_i d ih
 intro G w hG c l v cc hcc vl hvl vv hvv hwf hty hlv
 refine Zg ft [] Tryz.func238 rfl rfl ?_
 have hS:=St.start (X:=[]) hG
 obtain ⟨lv1,rfl,hb1,hb2,hb3,hb4,hb5,hb6,ho1⟩:=Zb7 hcc
 refine Zv [.int .i64 c.kind,Zb c.col,Zb c.oth, .int .i64 c.v.k, .int .i64 c.v.n,Zb c.v.s,lv1] _ hS rfl rfl rfl (fun p1 w1 G1 hle1 hsp1 hc1 hS1=>?_)
 refine Za hS1 (Xw.drop 0 hc1) Zp rfl rfl rfl ?_
 refine ZC c.kind 1 rfl rfl rfl (fun h1=>?_) (fun h1=>?_)
 ·refine Zc hS1 (Xw.drop 3 hc1) [.int .i64 c.v.k, .int .i64 c.v.n,Zb c.v.s] Z3 rfl rfl rfl rfl rfl ?_
  refine WL.alloc hS1 Z3 rfl rfl (fun b1 w2 hn1 hS2=>?_)
  refine WL.store hS2 0 _ _ _ 0 _ [.int .i64 c.v.k, .int .i64 c.v.n,Zb c.v.s] [.int .i64 c.v.k, .int .i64 c.v.n,Zb c.v.s] _ rfl rfl Z3 rfl (Nat.le_of_ble_eq_true rfl) rfl rfl rfl rfl rfl rfl (fun w3 hS3=>?_)
  have hf1:=Za6 (l:=l) (nm:=c.col)
  have hf3:=Zkr (Zfm hty) (by exact .inl ‹_›)
  refine Za hS3 (Xw.drop 2 hc1) Yj rfl rfl rfl <| Ya .neq rfl c.oth [] rfl rfl rfl ?_
  refine WL.split (fun h0=>?_) (fun h0=>?_)
  ·have h2 : c.oth ≠ []:=by simpa [SCmp.b] using h0
   clear h0
   have hf2:=Za6 (l:=l) (nm:=c.oth)
   have hf4:=hf3.2 ‹_›
   refine Za hS3 (Xw.drop 2 hc1) Yj rfl rfl rfl ?_
   refine Zn hS3 Zcl rfl rfl rfl (Zbl hS3.imm l c.oth _ (hvl.mono hle1)) (fun w4 G2 hS4 hle2=>?_)
   refine WL.indexAddr (hvv.mono (hle1.trans hle2)) (((Yi l c.oth)).toNat) (by omega) Yd Z3 rfl rfl rfl (congrArg (Value.int .i64) (Int.toNat_of_nonneg (by omega)).symm) (fun p2 x1 hx1 he1=>?_)
   obtain ⟨cs1,hc2,hr1⟩:=he1
   obtain ⟨rfl,hb7,hb8,hb9⟩:=ZV hr1
   refine Zc hS4 hc2 [.int .i64 x1.k, .int .i64 x1.n,Zb x1.s] Z3 rfl rfl rfl rfl rfl ?_
   refine WL.store hS4 0 _ _ _ 0 _ [.int .i64 x1.k, .int .i64 x1.n,Zb x1.s] [.int .i64 x1.k, .int .i64 x1.n,Zb x1.s] _ rfl rfl Z3 rfl (Nat.le_of_ble_eq_true rfl) rfl rfl rfl rfl rfl rfl (fun w5 hS5=>?_)
   obtain ⟨p3,x2,hx2,he2,ep1⟩:=Sl.at (hvv.mono (hle1.trans hle2)) (((Yi l c.col)).toNat) (by omega)
   obtain ⟨cs2,hc3,hr2⟩:=he2
   obtain ⟨rfl,hb10,YD,YW⟩:=ZV hr2
   refine dr [(9,false)] [(29,Zb c.col),(30, .int .i64 (Yi l c.col)),(31, .pointer (some p3)),(32, .agg #[.int .i64 x2.k, .int .i64 x2.n,Zb x2.s]),(33, .agg #[.int .i64 x1.k, .int .i64 x1.n,Zb x1.s]),(34, .int .i64 (cmpV x2 x1))] hS5 ⟨fun _ hSw=>Za hSw (Xw.drop 1 (hc1.mono hle2)) Yj rfl rfl rfl <| nu rfl rfl,fun _ hSw=>Z4 hSw Zcl rfl rfl rfl (Zbl hSw.imm l c.col _ (hvl.mono (hle1.trans hle2))) rfl,fun _=>Zk (((Yi l c.col)).toNat) ep1 Yd Z3 rfl rfl rfl (congrArg (Value.int .i64) (Int.toNat_of_nonneg (by omega)).symm) <| nu rfl rfl,fun _ hSw=>Zc hSw hc3 [.int .i64 x2.k, .int .i64 x2.n,Zb x2.s] Z3 rfl rfl rfl rfl rfl <| nu rfl rfl,fun _ hSw=>ZD hSw 0 _ _ _ 0 [.int .i64 x1.k, .int .i64 x1.n,Zb x1.s] rfl rfl rfl Z3 rfl rfl rfl <| nu rfl rfl,fun _ hSw=>Z4 hSw Zhx rfl rfl rfl (Zef hSw.imm x2 x1 _ (Y3 x2 hb10 YD YW) _ (Y3 x1 hb7 hb8 hb9)) rfl,trivial⟩ (fun w6 hS6=>?_)
   refine ZC (cmpV x2 x1) 0 rfl rfl rfl (fun h3=>?_) (fun h3=>?_)
   ·refine Za hS6 (Xw.drop 0 (hc1.mono hle2)) Zp rfl rfl rfl ?_
    refine ZC c.kind 1 rfl rfl rfl (fun h4=>?_) (fun h4=>?_)
    ·exact RB hS6 rfl (by (rw [Xd (by first | exact .inl ‹_› | exact .inr ‹_›),Zbe ‹_› ‹_› ‹_›]; simp_all [Cmp.b]; done))
    refine Zq (cmpV x2 x1) 0 rfl rfl rfl (fun h5=>?_) (fun h5=>?_)
    ·refine Za hS6 (Xw.drop 0 (hc1.mono hle2)) Zp rfl rfl rfl <| ZZ .eql rfl .i64 c.kind 2 rfl rfl rfl ?_
     exact RB hS6 rfl (by (rw [Xd (by first | exact .inl ‹_› | exact .inr ‹_›),Zbe ‹_› ‹_› ‹_›]; simp_all [Cmp.b]; done))
    exact RB hS6 rfl (by (rw [Xd (by first | exact .inl ‹_› | exact .inr ‹_›),Zbe ‹_› ‹_› ‹_›]; simp_all [Cmp.b]; done))
   refine Zq (cmpV x2 x1) 0 rfl rfl rfl (fun h6=>?_) (fun h6=>?_)
   ·refine Za hS6 (Xw.drop 0 (hc1.mono hle2)) Zp rfl rfl rfl <| ZZ .eql rfl .i64 c.kind 2 rfl rfl rfl ?_
    exact RB hS6 rfl (by (rw [Xd (by first | exact .inl ‹_› | exact .inr ‹_›),Zbe ‹_› ‹_› ‹_›]; simp_all [Cmp.b]; done))
   exact RB hS6 rfl (by (rw [Xd (by first | exact .inl ‹_› | exact .inr ‹_›),Zbe ‹_› ‹_› ‹_›]; simp_all [Cmp.b]; done))
  have h2 : c.oth = []:=by simpa [SCmp.b] using h0
  clear h0
  obtain ⟨p4,x3,hx3,he3,ep2⟩:=Sl.at (hvv.mono hle1) (((Yi l c.col)).toNat) (by omega)
  obtain ⟨cs3,hc4,hr3⟩:=he3
  obtain ⟨rfl,Xj,XD,X7⟩:=ZV hr3
  refine dr [(9,false)] [(29,Zb c.col),(30, .int .i64 (Yi l c.col)),(31, .pointer (some p4)),(32, .agg #[.int .i64 x3.k, .int .i64 x3.n,Zb x3.s]),(33, .agg #[.int .i64 c.v.k, .int .i64 c.v.n,Zb c.v.s]),(34, .int .i64 (cmpV x3 c.v))] hS3 ⟨fun _ hSw=>Za hSw (Xw.drop 1 hc1) Yj rfl rfl rfl <| nu rfl rfl,fun _ hSw=>Z4 hSw Zcl rfl rfl rfl (Zbl hSw.imm l c.col _ (hvl.mono hle1)) rfl,fun _=>Zk (((Yi l c.col)).toNat) ep2 Yd Z3 rfl rfl rfl (congrArg (Value.int .i64) (Int.toNat_of_nonneg (by omega)).symm) <| nu rfl rfl,fun _ hSw=>Zc hSw hc4 [.int .i64 x3.k, .int .i64 x3.n,Zb x3.s] Z3 rfl rfl rfl rfl rfl <| nu rfl rfl,fun _ hSw=>ZD hSw 0 _ _ _ 0 [.int .i64 c.v.k, .int .i64 c.v.n,Zb c.v.s] rfl rfl rfl Z3 rfl rfl rfl <| nu rfl rfl,fun _ hSw=>Z4 hSw Zhx rfl rfl rfl (Zef hSw.imm x3 c.v _ (Y3 x3 Xj XD X7) _ (Y3 c.v hb4 hb5 hb6)) rfl,trivial⟩ (fun w7 hS7=>?_)
  refine ZC (cmpV x3 c.v) 0 rfl rfl rfl (fun h7=>?_) (fun h7=>?_)
  ·refine Za hS7 (Xw.drop 0 hc1) Zp rfl rfl rfl ?_
   refine ZC c.kind 1 rfl rfl rfl (fun h8=>?_) (fun h8=>?_)
   ·exact RB hS7 rfl (by (rw [Xd (by first | exact .inl ‹_› | exact .inr ‹_›),Zbd ‹_› ‹_›]; simp_all [Cmp.b]; done))
   refine Zq (cmpV x3 c.v) 0 rfl rfl rfl (fun h9=>?_) (fun h9=>?_)
   ·refine Za hS7 (Xw.drop 0 hc1) Zp rfl rfl rfl <| ZZ .eql rfl .i64 c.kind 2 rfl rfl rfl ?_
    exact RB hS7 rfl (by (rw [Xd (by first | exact .inl ‹_› | exact .inr ‹_›),Zbd ‹_› ‹_›]; simp_all [Cmp.b]; done))
   exact RB hS7 rfl (by (rw [Xd (by first | exact .inl ‹_› | exact .inr ‹_›),Zbd ‹_› ‹_›]; simp_all [Cmp.b]; done))
  refine Zq (cmpV x3 c.v) 0 rfl rfl rfl (fun h10=>?_) (fun h10=>?_)
  ·refine Za hS7 (Xw.drop 0 hc1) Zp rfl rfl rfl <| ZZ .eql rfl .i64 c.kind 2 rfl rfl rfl ?_
   exact RB hS7 rfl (by (rw [Xd (by first | exact .inl ‹_› | exact .inr ‹_›),Zbd ‹_› ‹_›]; simp_all [Cmp.b]; done))
  exact RB hS7 rfl (by (rw [Xd (by first | exact .inl ‹_› | exact .inr ‹_›),Zbd ‹_› ‹_›]; simp_all [Cmp.b]; done))
 refine ZC c.kind 2 rfl rfl rfl (fun h11=>?_) (fun h11=>?_)
 ·refine Zc hS1 (Xw.drop 3 hc1) [.int .i64 c.v.k, .int .i64 c.v.n,Zb c.v.s] Z3 rfl rfl rfl rfl rfl ?_
  refine WL.alloc hS1 Z3 rfl rfl (fun b2 w9 hn2 hS8=>?_)
  refine WL.store hS8 0 _ _ _ 0 _ [.int .i64 c.v.k, .int .i64 c.v.n,Zb c.v.s] [.int .i64 c.v.k, .int .i64 c.v.n,Zb c.v.s] _ rfl rfl Z3 rfl (Nat.le_of_ble_eq_true rfl) rfl rfl rfl rfl rfl rfl (fun w10 hS9=>?_)
  have hf1:=Za6 (l:=l) (nm:=c.col)
  have hf3:=Zkr (Zfm hty) (by exact .inr ‹_›)
  refine Za hS9 (Xw.drop 2 hc1) Yj rfl rfl rfl <| Ya .neq rfl c.oth [] rfl rfl rfl ?_
  refine WL.split (fun h0=>?_) (fun h0=>?_)
  ·have h12 : c.oth ≠ []:=by simpa [SCmp.b] using h0
   clear h0
   have hf2:=Za6 (l:=l) (nm:=c.oth)
   have hf4:=hf3.2 ‹_›
   refine Za hS9 (Xw.drop 2 hc1) Yj rfl rfl rfl ?_
   refine Zn hS9 Zcl rfl rfl rfl (Zbl hS9.imm l c.oth _ (hvl.mono hle1)) (fun w11 G3 hS10 hle3=>?_)
   refine WL.indexAddr (hvv.mono (hle1.trans hle3)) (((Yi l c.oth)).toNat) (by omega) Yd Z3 rfl rfl rfl (congrArg (Value.int .i64) (Int.toNat_of_nonneg (by omega)).symm) (fun p5 x4 hx4 he4=>?_)
   obtain ⟨cs4,hc5,hr4⟩:=he4
   obtain ⟨rfl,Qi,Qd,Qn⟩:=ZV hr4
   refine Zc hS10 hc5 [.int .i64 x4.k, .int .i64 x4.n,Zb x4.s] Z3 rfl rfl rfl rfl rfl ?_
   refine WL.store hS10 0 _ _ _ 0 _ [.int .i64 x4.k, .int .i64 x4.n,Zb x4.s] [.int .i64 x4.k, .int .i64 x4.n,Zb x4.s] _ rfl rfl Z3 rfl (Nat.le_of_ble_eq_true rfl) rfl rfl rfl rfl rfl rfl (fun w12 hS11=>?_)
   obtain ⟨p6,x5,hx5,he5,ep3⟩:=Sl.at (hvv.mono (hle1.trans hle3)) (((Yi l c.col)).toNat) (by omega)
   obtain ⟨cs5,hc6,hr5⟩:=he5
   obtain ⟨rfl,Q6,Zag,Zah⟩:=ZV hr5
   refine dr [(9,false)] [(29,Zb c.col),(30, .int .i64 (Yi l c.col)),(31, .pointer (some p6)),(32, .agg #[.int .i64 x5.k, .int .i64 x5.n,Zb x5.s]),(33, .agg #[.int .i64 x4.k, .int .i64 x4.n,Zb x4.s]),(34, .int .i64 (cmpV x5 x4))] hS11 ⟨fun _ hSw=>Za hSw (Xw.drop 1 (hc1.mono hle3)) Yj rfl rfl rfl <| nu rfl rfl,fun _ hSw=>Z4 hSw Zcl rfl rfl rfl (Zbl hSw.imm l c.col _ (hvl.mono (hle1.trans hle3))) rfl,fun _=>Zk (((Yi l c.col)).toNat) ep3 Yd Z3 rfl rfl rfl (congrArg (Value.int .i64) (Int.toNat_of_nonneg (by omega)).symm) <| nu rfl rfl,fun _ hSw=>Zc hSw hc6 [.int .i64 x5.k, .int .i64 x5.n,Zb x5.s] Z3 rfl rfl rfl rfl rfl <| nu rfl rfl,fun _ hSw=>ZD hSw 0 _ _ _ 0 [.int .i64 x4.k, .int .i64 x4.n,Zb x4.s] rfl rfl rfl Z3 rfl rfl rfl <| nu rfl rfl,fun _ hSw=>Z4 hSw Zhx rfl rfl rfl (Zef hSw.imm x5 x4 _ (Y3 x5 Q6 Zag Zah) _ (Y3 x4 Qi Qd Qn)) rfl,trivial⟩ (fun w13 hS12=>?_)
   refine ZC (cmpV x5 x4) 0 rfl rfl rfl (fun h13=>?_) (fun h13=>?_)
   ·refine Za hS12 (Xw.drop 0 (hc1.mono hle3)) Zp rfl rfl rfl ?_
    refine ZC c.kind 1 rfl rfl rfl (fun h14=>?_) (fun h14=>?_)
    ·exact RB hS12 rfl (by (rw [Xd (by first | exact .inl ‹_› | exact .inr ‹_›),Zbe ‹_› ‹_› ‹_›]; simp_all [Cmp.b]; done))
    refine Zq (cmpV x5 x4) 0 rfl rfl rfl (fun h15=>?_) (fun h15=>?_)
    ·refine Za hS12 (Xw.drop 0 (hc1.mono hle3)) Zp rfl rfl rfl <| ZZ .eql rfl .i64 c.kind 2 rfl rfl rfl ?_
     exact RB hS12 rfl (by (rw [Xd (by first | exact .inl ‹_› | exact .inr ‹_›),Zbe ‹_› ‹_› ‹_›]; simp_all [Cmp.b]; done))
    exact RB hS12 rfl (by (rw [Xd (by first | exact .inl ‹_› | exact .inr ‹_›),Zbe ‹_› ‹_› ‹_›]; simp_all [Cmp.b]; done))
   refine Zq (cmpV x5 x4) 0 rfl rfl rfl (fun h16=>?_) (fun h16=>?_)
   ·refine Za hS12 (Xw.drop 0 (hc1.mono hle3)) Zp rfl rfl rfl <| ZZ .eql rfl .i64 c.kind 2 rfl rfl rfl ?_
    exact RB hS12 rfl (by (rw [Xd (by first | exact .inl ‹_› | exact .inr ‹_›),Zbe ‹_› ‹_› ‹_›]; simp_all [Cmp.b]; done))
   exact RB hS12 rfl (by (rw [Xd (by first | exact .inl ‹_› | exact .inr ‹_›),Zbe ‹_› ‹_› ‹_›]; simp_all [Cmp.b]; done))
  have h12 : c.oth = []:=by simpa [SCmp.b] using h0
  clear h0
  obtain ⟨p7,x6,hx6,he6,ep4⟩:=Sl.at (hvv.mono hle1) (((Yi l c.col)).toNat) (by omega)
  obtain ⟨cs6,hc7,hr6⟩:=he6
  obtain ⟨rfl,ZdM,Zdd,Zbs⟩:=ZV hr6
  refine dr [(9,false)] [(29,Zb c.col),(30, .int .i64 (Yi l c.col)),(31, .pointer (some p7)),(32, .agg #[.int .i64 x6.k, .int .i64 x6.n,Zb x6.s]),(33, .agg #[.int .i64 c.v.k, .int .i64 c.v.n,Zb c.v.s]),(34, .int .i64 (cmpV x6 c.v))] hS9 ⟨fun _ hSw=>Za hSw (Xw.drop 1 hc1) Yj rfl rfl rfl <| nu rfl rfl,fun _ hSw=>Z4 hSw Zcl rfl rfl rfl (Zbl hSw.imm l c.col _ (hvl.mono hle1)) rfl,fun _=>Zk (((Yi l c.col)).toNat) ep4 Yd Z3 rfl rfl rfl (congrArg (Value.int .i64) (Int.toNat_of_nonneg (by omega)).symm) <| nu rfl rfl,fun _ hSw=>Zc hSw hc7 [.int .i64 x6.k, .int .i64 x6.n,Zb x6.s] Z3 rfl rfl rfl rfl rfl <| nu rfl rfl,fun _ hSw=>ZD hSw 0 _ _ _ 0 [.int .i64 c.v.k, .int .i64 c.v.n,Zb c.v.s] rfl rfl rfl Z3 rfl rfl rfl <| nu rfl rfl,fun _ hSw=>Z4 hSw Zhx rfl rfl rfl (Zef hSw.imm x6 c.v _ (Y3 x6 ZdM Zdd Zbs) _ (Y3 c.v hb4 hb5 hb6)) rfl,trivial⟩ (fun w14 hS13=>?_)
  refine ZC (cmpV x6 c.v) 0 rfl rfl rfl (fun h17=>?_) (fun h17=>?_)
  ·refine Za hS13 (Xw.drop 0 hc1) Zp rfl rfl rfl ?_
   refine ZC c.kind 1 rfl rfl rfl (fun h18=>?_) (fun h18=>?_)
   ·exact RB hS13 rfl (by (rw [Xd (by first | exact .inl ‹_› | exact .inr ‹_›),Zbd ‹_› ‹_›]; simp_all [Cmp.b]; done))
   refine Zq (cmpV x6 c.v) 0 rfl rfl rfl (fun h19=>?_) (fun h19=>?_)
   ·refine Za hS13 (Xw.drop 0 hc1) Zp rfl rfl rfl <| ZZ .eql rfl .i64 c.kind 2 rfl rfl rfl ?_
    exact RB hS13 rfl (by (rw [Xd (by first | exact .inl ‹_› | exact .inr ‹_›),Zbd ‹_› ‹_›]; simp_all [Cmp.b]; done))
   exact RB hS13 rfl (by (rw [Xd (by first | exact .inl ‹_› | exact .inr ‹_›),Zbd ‹_› ‹_›]; simp_all [Cmp.b]; done))
  refine Zq (cmpV x6 c.v) 0 rfl rfl rfl (fun h20=>?_) (fun h20=>?_)
  ·refine Za hS13 (Xw.drop 0 hc1) Zp rfl rfl rfl <| ZZ .eql rfl .i64 c.kind 2 rfl rfl rfl ?_
   exact RB hS13 rfl (by (rw [Xd (by first | exact .inl ‹_› | exact .inr ‹_›),Zbd ‹_› ‹_›]; simp_all [Cmp.b]; done))
  exact RB hS13 rfl (by (rw [Xd (by first | exact .inl ‹_› | exact .inr ‹_›),Zbd ‹_› ‹_›]; simp_all [Cmp.b]; done))
 refine ZC c.kind 4 rfl rfl rfl (fun h21=>?_) (fun h21=>?_)
 ·have hal:=ZtV hwf ‹_›
  refine Za hS1 (Xw.drop 6 hc1) Ze4 rfl rfl rfl ?_
  refine WL.indexAddr (ho1.mono hle1) 0 (by omega) Zc3 Xp rfl rfl rfl rfl (fun p8 x7 hx7 he7=>?_)
  obtain ⟨cs7,hc8,hr7⟩:=he7
  obtain ⟨lv2,rfl,Zfq,Zde,Zg8,Zqn,Zqo,Zqp,ho2⟩:=YS hr7
  refine Zc hS1 hc8 [.int .i64 x7.kind,Zb x7.col,Zb x7.oth, .int .i64 x7.v.k, .int .i64 x7.v.n,Zb x7.v.s,lv2] Xp rfl rfl rfl rfl rfl ?_
  refine Zn hS1 ZfX rfl rfl rfl (ih hS1.imm x7 l v _ hr7 _ (hvl.mono hle1) _ (hvv.mono hle1) (hwf.2 _ (List.mem_of_getElem? ‹_›)) (Zbc hty (List.mem_of_getElem? ‹_›)) ‹_›) (fun w15 G4 hS14 hle4=>?_)
  exact RB hS14 rfl (by (rw [ZtY ‹_› ‹_›]; done))
 refine ZC c.kind 5 rfl rfl rfl (fun h22=>?_) (fun h22=>?_)
 ·have hal:=ZtW hwf ‹_›
  refine Za hS1 (Xw.drop 6 hc1) Ze4 rfl rfl rfl ?_
  refine WL.indexAddr (ho1.mono hle1) 0 (by omega) Zc3 Xp rfl rfl rfl rfl (fun p9 x9 hx8 he8=>?_)
  obtain ⟨cs8,hc9,hr8⟩:=he8
  obtain ⟨lv3,rfl,Zqq,Zqr,Zqs,Zqt,Zui,Zfr,ho3⟩:=YS hr8
  refine Zc hS1 hc9 [.int .i64 x9.kind,Zb x9.col,Zb x9.oth, .int .i64 x9.v.k, .int .i64 x9.v.n,Zb x9.v.s,lv3] Xp rfl rfl rfl rfl rfl ?_
  refine Zn hS1 ZfX rfl rfl rfl (ih hS1.imm x9 l v _ hr8 _ (hvl.mono hle1) _ (hvv.mono hle1) (hwf.2 _ (List.mem_of_getElem? ‹_›)) (Zbc hty (List.mem_of_getElem? ‹_›)) ‹_›) (fun w16 G5 hS15 hle5=>?_)
  refine WL.split (fun (h23 : (Xf d x9 l v) = true)=>?_) (fun (h23 : (Xf d x9 l v) = false)=>?_)
  ·refine Za hS15 (Xw.drop 6 (hc1.mono hle5)) Ze4 rfl rfl rfl ?_
   refine WL.indexAddr (ho1.mono (hle1.trans hle5)) 1 (by omega) Zc3 Xp rfl rfl rfl rfl (fun p10 x10 hx9 he9=>?_)
   obtain ⟨cs9,hc10,hr9⟩:=he9
   obtain ⟨lv4,rfl,Zfs,Zft,Zk5,Zqu,Zuj,Zuk,ho4⟩:=YS hr9
   refine Zc hS15 hc10 [.int .i64 x10.kind,Zb x10.col,Zb x10.oth, .int .i64 x10.v.k, .int .i64 x10.v.n,Zb x10.v.s,lv4] Xp rfl rfl rfl rfl rfl ?_
   refine Zn hS15 ZfX rfl rfl rfl (ih hS15.imm x10 l v _ hr9 _ (hvl.mono (hle1.trans hle5)) _ (hvv.mono (hle1.trans hle5)) (hwf.2 _ (List.mem_of_getElem? ‹_›)) (Zbc hty (List.mem_of_getElem? ‹_›)) ‹_›) (fun w17 G6 hS16 hle6=>?_)
   exact RB hS16 rfl (by (rw [Zoj ‹_› ‹_› ‹_›]; simp_all; done))
  exact RB hS15 rfl (by exact (ZsF ‹_› ‹_› hal ‹_›).symm)
 refine ZC c.kind 6 rfl rfl rfl (fun h24=>?_) (fun h24=>?_)
 ·have hal:=ZtX hwf ‹_›
  refine Za hS1 (Xw.drop 6 hc1) Ze4 rfl rfl rfl ?_
  refine WL.indexAddr (ho1.mono hle1) 0 (by omega) Zc3 Xp rfl rfl rfl rfl (fun p11 x11 hx10 he10=>?_)
  obtain ⟨cs10,hc11,hr10⟩:=he10
  obtain ⟨lv5,rfl,ZmY,ZmZ,Zna,Zul,Zqv,Zum,ho5⟩:=YS hr10
  refine Zc hS1 hc11 [.int .i64 x11.kind,Zb x11.col,Zb x11.oth, .int .i64 x11.v.k, .int .i64 x11.v.n,Zb x11.v.s,lv5] Xp rfl rfl rfl rfl rfl ?_
  refine Zn hS1 ZfX rfl rfl rfl (ih hS1.imm x11 l v _ hr10 _ (hvl.mono hle1) _ (hvv.mono hle1) (hwf.2 _ (List.mem_of_getElem? ‹_›)) (Zbc hty (List.mem_of_getElem? ‹_›)) ‹_›) (fun w18 G7 hS17 hle7=>?_)
  refine WL.split (fun (h25 : (Xf d x11 l v) = true)=>?_) (fun (h25 : (Xf d x11 l v) = false)=>?_)
  ·exact RB hS17 rfl (by exact (ZsG ‹_› ‹_› hal ‹_›).symm)
  refine Za hS17 (Xw.drop 6 (hc1.mono hle7)) Ze4 rfl rfl rfl ?_
  refine WL.indexAddr (ho1.mono (hle1.trans hle7)) 1 (by omega) Zc3 Xp rfl rfl rfl rfl (fun p12 x12 hx11 he11=>?_)
  obtain ⟨cs11,hc12,hr11⟩:=he11
  obtain ⟨lv6,rfl,Zid,Zqw,Zqx,Zun,Zuo,Zup,ho6⟩:=YS hr11
  refine Zc hS17 hc12 [.int .i64 x12.kind,Zb x12.col,Zb x12.oth, .int .i64 x12.v.k, .int .i64 x12.v.n,Zb x12.v.s,lv6] Xp rfl rfl rfl rfl rfl ?_
  refine Zn hS17 ZfX rfl rfl rfl (ih hS17.imm x12 l v _ hr11 _ (hvl.mono (hle1.trans hle7)) _ (hvv.mono (hle1.trans hle7)) (hwf.2 _ (List.mem_of_getElem? ‹_›)) (Zbc hty (List.mem_of_getElem? ‹_›)) ‹_›) (fun w19 G9 hS18 hle9=>?_)
  exact RB hS18 rfl (by (rw [Zok ‹_› ‹_› ‹_›]; simp_all; done))
 exact RB hS1 rfl (by exact (ZtZ ‹_› ‹_› ‹_› ‹_› ‹_›).symm)
end Go.Civ
namespace Go.Civ
open Go.RowKit
set_option linter.unusedVariables false
theorem Zp4 {s : Schema} (h : YM s = true) : 1 ≤ s.key ∧ s.key ≤ s.cols.length ∧ s.cols.length ≤ 8 ∧ Zay (s.cols.map Col.name) = true:=by
 unfold YM Qj at h
 simp only [Bool.and_eq_true,decide_eq_true_eq] at h
 obtain ⟨⟨⟨⟨⟨⟨_,h2⟩,h3⟩,h4⟩,h5⟩,h6⟩,h7⟩:=h.1
 exact ⟨h4,h5,h3,h7⟩
section
variable {cols : List Col} {v u : List Val}
end
section
variable {s : Schema} {v u : List Val} {k : Nat}
end
theorem Zp5 {hl : List Val → Bool} {nx : List Val → Option (List Val)} {tx : Int} {d : Span} {t : Table} (hc : ChgOk t tx d nx) (hn : ∀ r ∈ t.rows,∀ v,nx r.v = some v → YQ t.s v = 0) : ∀ q ∈ Z9 hl nx tx d t.rows,YN t.s tx q = true:=fun q hq=>by
 have hp:=Qe hc.valid
 have hg:=(ZaF (hl:=hl) hc).1 q hq
 obtain ⟨r,hr,h⟩:=List.mem_flatMap.1 hq
 have hro:=hp.2.2.2.2.1 r hr
 obtain ⟨p1,p2,p3,p4⟩:=XL hro
 have hla:=hc.late
 rcases Zjf h with h | ⟨h1,h2⟩ | ⟨h1,h2⟩
 ·rw [h]; exact ZgK hro hla
 ·exact ZaG (by rw [h1]; exact p1) hg (by rw [h2]; simp only; omega) (by rw [h2]; simp only; omega)
 ·refine ZaG ?_ hg (by rw [h2]; exact Int.le_refl _) (by rw [h2]; exact .inr rfl)
  rcases h1 with h1 | h1
  ·rw [h1]; exact p1
  ·exact hn r hr _ h1
section
variable {k : Nat} {l : List HRow} {tx : Int} {v u : List Val} {d : Span} {r q : HRow} {a y : Int} {t : Table}
theorem Zp6 (hr : Y0 r = true) (hd : ZI d = true) (h : q ∈ ZbL k v tx d r) : q ∈ Zak (Ziv k v) (fun _=>none) tx d r:=by
 have hp:=Xb (Yx hr).2.1
 have hq:=Xb hd
 have ds:=Zjr hp hq
 by_cases hc : (ZbD d r && Ziv k v r.v) = true
 ·have hc' : ZbD d r = true ∧ Ziv k v r.v = true:=by simpa using hc
  obtain ⟨t1,t2,t3⟩:=Zje.1 hc'.1
  unfold ZbL at h
  unfold Zak
  rw [if_pos ⟨t1,hc'.2,fun e=>ds.1 e ⟨t2,t3⟩⟩] at h
  rw [if_pos hc]
  rcases List.mem_append.1 h with h | h
  ·simp [h]
  ·simp only [List.mem_append]; exact .inl (.inl h)
 ·unfold ZbL at h
  unfold Zak
  rw [if_neg hc]
  rw [if_neg] at h
  ·exact h
  ·rintro ⟨z1,z2,z3⟩
   refine z3 (ds.2 fun z=>hc ?_)
   rw [z2,Zje.2 ⟨z1,z.1,z.2⟩]; rfl
theorem ZtD {rows : List HRow} : Zvb (fun _=>none) rows:=fun r hr v hv=>by cases hv
theorem ZtE (H : InsOk t tx v d) : ChgOk t tx d (fun _=>none):=⟨H.valid,H.span,H.inst,H.late,ZtD⟩
theorem ZtF (H : InsOk t tx v d) : YN t.s tx ⟨v,⟨d,⟨tx,253402300800⟩⟩⟩ = true:=by
 have hb:=Qa H.inst
 refine ZaG H.row ?_ (Int.le_refl _) (.inr rfl)
 have:=H.span
 unfold Y0
 simp only [(Zbt H.row).2.1,H.span,Bool.true_and]
 unfold ZI
 simp; omega
theorem ZfP (H : InsOk t tx v d) : ∀ q ∈ ZcS k t.rows tx v d,YN t.s tx q = true:=fun q hq=>by
 rcases List.mem_cons.1 hq with rfl | hq
 ·exact ZtF H
 ·obtain ⟨r,hr,h⟩:=List.mem_flatMap.1 hq
  exact Zp5 (hl:=Ziv k v) (ZtE H) (fun _ _ _ h=>by cases h) q (List.mem_flatMap.2 ⟨r,hr,Zp6 ((Y5 H.valid).1 r hr) H.span h⟩)
theorem ZrD (H : InsOk t tx v d) : ZK (ZcS k t.rows tx v d):=fun q hq=>(XL (ZfP H q hq)).2.1
theorem Zp7 (hr : Y0 r = true) (hd : ZI d = true) : (ZbL k v tx d r).length ≤ 3:=by
 have hp:=Xb (Yx hr).2.1
 have hq:=Xb hd
 unfold ZbL
 split
 ·rename_i h
  have hov : r.r.d.a < d.b ∧ d.a < r.r.d.b:=by
   refine Classical.byContradiction fun z=>h.2.2 ((Zjr hp hq).2 z)
  have htc:=ZcJ (Yx hr).2.1 hd hov.1 hov.2
  have hpl:=ZeO r.r.d d
  have h2 : (ZX 3 [r.r.d] [d]).length ≤ 2:=by rw [htc]; exact hpl
  have hol : (Xl r.v (ZX 3 [r.r.d] [d]) tx 253402300800).length = (ZX 3 [r.r.d] [d]).length:=by unfold Xl; rw [List.length_map]
  rw [List.length_append,hol,List.length_singleton]; omega
 ·simp
theorem Zmr (hg : ZK l) (hd : ZI d = true) : ∀ n,((l.take n).flatMap (ZbL k v tx d)).length ≤ 3 * n
 | 0=>by simp
 | n + 1=>by
  have ih:=Zmr hg hd n
  rw [List.take_add_one,List.flatMap_append,List.length_append]
  cases e : l[n]? with
  | none=>simp only [Option.toList,List.flatMap_nil,List.length_nil]; omega
  | some r=>
   have:=Zp7 (k:=k) (v:=v) (tx:=tx) (hg r (List.mem_of_getElem? e)) hd
   simp only [Option.toList,List.flatMap_cons,List.flatMap_nil,List.append_nil]; omega
end
def XP (t : Table) (tx : Int) (v : List Val) (d : Span) : List HRow:=ZcS t.s.key.toNat t.rows tx v d
def YI (t : Table) (tx : Int) (v : List Val) (d : Span) : Table:=if Y6 t then (if Y2 t tx v d = 0 then (if QH (XP t tx v d) = 0 then ⟨(ZF t tx v d).s,Qg (XP t tx v d),(ZF t tx v d).last⟩ else Qs) else Qs) else Qs
def Zc6 (t : Table) (tx : Int) (v : List Val) (d : Span) : Int:=if Y6 t then (if Y2 t tx v d = 0 then QH (XP t tx v d) else Y2 t tx v d) else 1
section
variable {t : Table} {tx : Int} {v : List Val} {d : Span}
theorem Zs0 (h : Y6 t = false) : Qs = YI t tx v d ∧ 1 = Zc6 t tx v d:=by unfold YI Zc6; rw [h]; exact ⟨rfl,rfl⟩
theorem Zs1 (h : Y6 t = true) (h1 : Y2 t tx v d ≠ 0) : Qs = YI t tx v d ∧ Y2 t tx v d = Zc6 t tx v d:=by unfold YI Zc6; rw [h,if_pos rfl,if_pos rfl,if_neg h1,if_neg h1]; exact ⟨rfl,rfl⟩
theorem Zs2 (h : Y6 t = true) (h1 : Y2 t tx v d = 0) (h2 : QH (XP t tx v d) ≠ 0) : Qs = YI t tx v d ∧ QH (XP t tx v d) = Zc6 t tx v d:=by unfold YI Zc6; rw [h,if_pos rfl,if_pos rfl,if_pos h1,if_pos h1,if_neg h2]; exact ⟨rfl,rfl⟩
theorem ZnR (h : Y6 t = true) (h1 : Y2 t tx v d = 0) (h2 : QH (XP t tx v d) = 0) : (⟨(ZF t tx v d).s,Qg (XP t tx v d),(ZF t tx v d).last⟩ : Table) = YI t tx v d ∧ 0 = Zc6 t tx v d:=by
 unfold YI Zc6; rw [h,if_pos rfl,if_pos rfl,if_pos h1,if_pos h1,if_pos h2,h2]; exact ⟨rfl,rfl⟩
end
section
variable {t : Table} {tx : Int} {v u : List Val} {d : Span} {a y : Int}
structure MrgP (t : Table) (tx : Int) (v : List Val) (d : Span) : Prop where
 ins : InsOk t tx v d
 e : Zc6 t tx v d = 0
 is : YI t tx v d = ⟨t.s,ZS (XP t tx v d),tx⟩
 valid : Z2 (YI t tx v d) = true
theorem Zp8 (hu : Y6 t = true) (h : Y2 t tx v d = 0) (hl : (ZS (XP t tx v d)).length ≤ 500) (hm : (XP t tx v d).length ≤ 1000) : MrgP t tx v d:=by
 have H:=ZfD h
 have hg:=ZrD (k:=t.s.key.toNat) H
 have hE : QH (XP t tx v d) = 0 ∧ Qg (XP t tx v d) = ZS (XP t tx v d):=by
  have:=ZgH (l:=XP t tx v d) (by omega) (Zru hg) (by omega)
  exact ⟨this.2,this.1⟩
 have h4:=ZnR hu h hE.1
 have hs : (ZF t tx v d).s = t.s:=by rw [H.new.is]
 have hlast : (ZF t tx v d).last = tx:=by rw [H.new.is]
 have his : YI t tx v d = ⟨t.s,ZS (XP t tx v d),tx⟩:=by rw [← h4.1,hs,hlast,hE.2]
 refine ⟨H,h4.2.symm,his,?_⟩
 rw [his]
 exact (Zln (Qe H.valid).1 H.inst (ZfP H) hl).valid
end
end Go.Civ
