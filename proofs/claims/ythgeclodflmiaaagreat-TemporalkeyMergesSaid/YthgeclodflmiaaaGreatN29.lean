/- Lemmas. -/
import Derived.Test.YthgeclodflmiaaaGreatN21
import Derived.Test.YthgeclodflmiaaaGreatN25
import Derived.Test.YthgeclodflmiaaaGreatN28
import Derived.Test.YthgeclodflmiaaaGreatProg
import Derived.KernelRfl
import Derived.WalkKit
set_option linter.unusedVariables false
set_option linter.unusedSimpArgs false
set_option maxRecDepth 100000
set_option maxHeartbeats 4000000
namespace Go.Civ
open Go.Proofs
theorem Zrq {G : GH} {w : World} (hG : G.In w) (x y : Pt) (cx : List Value) (hcx : PtE.rep G x cx) (cy : List Value) (hcy : PtE.rep G y cy) : CL Tryz.prog (nat_lit 117) #[.agg cx.toArray, .agg cy.toArray] [] w G fun _ _ r=>r = .int .i64 (Zam x y):=by
 refine Zf ft [] Tryz.func117 rfl rfl ?_
 have hS:=St.start (X:=[]) hG
 obtain ⟨v1,rfl,hb1,hb2,hs1⟩:=ZbZ hcx
 obtain ⟨v2,rfl,hb3,hb4,hs2⟩:=ZbZ hcy
 refine Z1 [.int .i64 x.tx, .int .i64 x.vd,v1] _ hS rfl rfl rfl (fun p1 w1 G1 hle1 hsp1 hc1 hS1=>?_)
 refine Z1 [.int .i64 y.tx, .int .i64 y.vd,v2] _ hS1 rfl rfl rfl (fun p2 w2 G2 hle2 hsp2 hc2 hS2=>?_)
 refine dr [(15,false),(16,false),(17,false)] [(6, .int .i64 x.tx),(8, .int .i64 y.tx),(9, .int .i64 (Y1 x.tx y.tx)),(11, .int .i64 x.vd),(13, .int .i64 y.vd),(14, .int .i64 (Y1 x.vd y.vd)),(16,v1),(18,v2),(19, .int .i64 (Xr x.v y.v))] hS2 ⟨fun _ hSw=>Za hSw (XZ.drop 0 (hc1.mono hle2)) Zl rfl rfl rfl <| nu rfl rfl,fun _ hSw=>Za hSw (XZ.drop 0 hc2) Zl rfl rfl rfl <| nu rfl rfl,fun _ hSw=>ZH hSw Zjy rfl rfl rfl (Zdg hSw.imm x.tx y.tx) rfl,fun _ hSw=>Za hSw (XZ.drop 1 (hc1.mono hle2)) Zl rfl rfl rfl <| nu rfl rfl,fun _ hSw=>Za hSw (XZ.drop 1 hc2) Zl rfl rfl rfl <| nu rfl rfl,fun _ hSw=>ZH hSw Zjy rfl rfl rfl (Zdg hSw.imm x.vd y.vd) rfl,fun _ hSw=>Za hSw (XZ.drop 2 (hc1.mono hle2)) ZK rfl rfl rfl <| nu rfl rfl,fun _ hSw=>Za hSw (XZ.drop 2 hc2) ZK rfl rfl rfl <| nu rfl rfl,fun _ hSw=>ZH hSw Zju rfl rfl rfl (ZfH hSw.imm x.v y.v _ (hs1.mono (hle1.trans hle2)) _ (hs2.mono (hle1.trans hle2))) rfl,trivial⟩ (fun w3 hS3=>?_)
 refine WL.buildSlice _ [(0,[.int .i64 (Y1 x.tx y.tx)]),(1,[.int .i64 (Y1 x.vd y.vd)]),(2,[.int .i64 (Xr x.v y.v)])] [.int .i64 (Y1 x.tx y.tx), .int .i64 (Y1 x.vd y.vd), .int .i64 (Xr x.v y.v)] hS3 Yg rfl rfl rfl rfl (fun z hz=>by match z,hz with | [z0,z1,z2],_=>rfl) (fun b1 w4 hn1 hS4=>?_)
 obtain ⟨G3,hle3,hs3,hS5⟩:=St.sealSl (E:=Enc.int) (by_:=8) (l:=([(Y1 x.tx y.tx),(Y1 x.vd y.vd),(Xr x.v y.v)] : List Int)) hS4 hn1 ⟨[.int .i64 (Y1 x.tx y.tx)],_,rfl,⟨rfl,ZdQ x.tx y.tx⟩,⟨[.int .i64 (Y1 x.vd y.vd)],_,rfl,⟨rfl,ZdQ x.vd y.vd⟩,⟨[.int .i64 (Xr x.v y.v)],_,rfl,⟨rfl,ZpX x.v y.v⟩,rfl⟩⟩⟩ rfl (by simp [reach]) (by simp [reach])
 refine Zn hS5 ZrZ rfl rfl rfl (Zuf hS5.imm [(Y1 x.tx y.tx),(Y1 x.vd y.vd),(Xr x.v y.v)] _ hs3) (fun w5 G4 hS6 hle4=>?_)
 exact RI hS6 rfl (by exact ZnZ _ _ _)
theorem Zau {G : GH} {w : World} (hG : G.In w) (s : Span) (x : Int) (cs : List Value) (hcs : SpanE.rep G s cs) : CL Tryz.prog (nat_lit 114) #[.agg cs.toArray, .int .i64 x] [] w G fun _ _ r=>r = .bool (QN x s):=by
 refine Zf ft [] Tryz.func114 rfl rfl ?_
 have hS:=St.start (X:=[]) hG
 obtain ⟨rfl,hb1,hb2⟩:=Z2 hcs
 refine Z1 [.int .i64 s.a, .int .i64 s.b] _ hS rfl rfl rfl (fun p1 w1 G1 hle1 hsp1 hc1 hS1=>?_)
 refine Za hS1 (XZ.drop 0 hc1) Zl rfl rfl rfl ?_
 refine Qa s.a x rfl rfl rfl (fun h1=>?_) (fun h1=>?_)
 ·refine Za hS1 (XZ.drop 1 hc1) Zl rfl rfl rfl <| ZO .lss rfl .i64 x s.b rfl rfl rfl ?_
  exact RB hS1 rfl (by unfold QN; simp_all [Cmp.b] <;> (first | omega | (intros; omega) | (rw [Bool.eq_iff_iff]; simp <;> omega) | (rw [Bool.eq_iff_iff]; simp_all <;> omega)))
 exact RB hS1 rfl (by unfold QN; simp_all [Cmp.b] <;> (omega))
theorem Ztt {G : GH} {w : World} (hG : G.In w) (q : Pt) (cq : List Value) (hcq : PtE.rep G q cq) (h1 : Yu q.tx = true) (h2 : Yu q.vd = true) : CL Tryz.prog (nat_lit 61) #[.agg cq.toArray] [] w G fun G' _ r=>Is HRowE G' r (Yv (some q)):=by
 refine YY ft [] Tryz.func61 rfl rfl ?_
 have hS:=St.start (X:=[]) hG
 obtain ⟨v1,rfl,hb1,hb2,hs1⟩:=ZbZ hcq
 refine Z1 [.int .i64 q.tx, .int .i64 q.vd,v1] _ hS rfl rfl rfl (fun p1 w1 G1 hle1 hsp1 hc1 hS1=>?_)
 refine WL.alloc hS1 Zs rfl rfl (fun b1 w2 hn1 hS2=>?_)
 have hi1 : Zv (q.vd + 1):=by have b1:=Xp h1; have b2:=Xp h2; have:=hb2.1; have:=hb2.2; constructor <;> omega
 have hi2 : Zv (q.tx + 1):=by have b1:=Xp h1; have b2:=Xp h2; have:=hb1.1; have:=hb1.2; constructor <;> omega
 refine dr [(2,true),(16,false),(17,false)] [(4,v1),(7, .int .i64 q.vd),(9, .int .i64 q.vd),(10, .int .i64 (q.vd + 1)),(11, .agg #[.int .i64 q.vd, .int .i64 (q.vd + 1)]),(13, .int .i64 q.tx),(15, .int .i64 q.tx),(16, .int .i64 (q.tx + 1)),(17, .agg #[.int .i64 q.tx, .int .i64 (q.tx + 1)]),(18, .agg #[.int .i64 q.vd, .int .i64 (q.vd + 1), .int .i64 q.tx, .int .i64 (q.tx + 1)])] hS2 ⟨fun _ hSw=>Za hSw (XZ.drop 2 hc1) ZK rfl rfl rfl <| nu rfl rfl,fun _ hSw=>Za hSw (XZ.drop 1 hc1) Zl rfl rfl rfl <| nu rfl rfl,fun _ hSw=>Za hSw (XZ.drop 1 hc1) Zl rfl rfl rfl <| nu rfl rfl,fun _=>Zbe .add rfl q.vd 1 rfl rfl rfl hi1 <| nu rfl rfl,fun _=>WL.build _ [(0,[.int .i64 q.vd]),(1,[.int .i64 (q.vd + 1)])] [.int .i64 q.vd, .int .i64 (q.vd + 1)] Zm rfl Xg rfl rfl rfl rfl <| nu rfl rfl,fun _ hSw=>Za hSw (XZ.drop 0 hc1) Zl rfl rfl rfl <| nu rfl rfl,fun _ hSw=>Za hSw (XZ.drop 0 hc1) Zl rfl rfl rfl <| nu rfl rfl,fun _=>Zbe .add rfl q.tx 1 rfl rfl rfl hi2 <| nu rfl rfl,fun _=>WL.build _ [(0,[.int .i64 q.tx]),(1,[.int .i64 (q.tx + 1)])] [.int .i64 q.tx, .int .i64 (q.tx + 1)] Zm rfl Xg rfl rfl rfl rfl <| nu rfl rfl,fun _=>WL.build _ [(0,[.int .i64 q.vd, .int .i64 (q.vd + 1)]),(1,[.int .i64 q.tx, .int .i64 (q.tx + 1)])] [.int .i64 q.vd, .int .i64 (q.vd + 1), .int .i64 q.tx, .int .i64 (q.tx + 1)] Qz rfl QY rfl rfl rfl rfl <| nu rfl rfl,trivial⟩ (fun w3 hS3=>?_)
 refine Z6 hS3 Zfi rfl rfl rfl (QS hS3.imm q.v _ (hs1.mono hle1)) (fun w4 G2 r1 hpost1 hS4 hle2=>?_)
 refine ⟨hS4.down hS3.le hle2,?_⟩
 refine WL.build _ [(0,[r1]),(1,[.int .i64 q.vd, .int .i64 (q.vd + 1), .int .i64 q.tx, .int .i64 (q.tx + 1)])] [r1, .int .i64 q.vd, .int .i64 (q.vd + 1), .int .i64 q.tx, .int .i64 (q.tx + 1)] Zs rfl Qq rfl rfl (by show [(0,(r1 : Value).cells.toList),(1,(.agg #[.int .i64 q.vd, .int .i64 (q.vd + 1), .int .i64 q.tx, .int .i64 (q.tx + 1)] : Value).cells.toList)] = _; simp only [hpost1.cells1] <;> rfl) rfl ?_
 refine WL.store hS4 0 _ _ _ 0 _ [r1, .int .i64 q.vd, .int .i64 (q.vd + 1), .int .i64 q.tx, .int .i64 (q.tx + 1)] [r1, .int .i64 q.vd, .int .i64 (q.vd + 1), .int .i64 q.tx, .int .i64 (q.tx + 1)] _ rfl rfl Zs rfl (Nat.le_of_ble_eq_true rfl) (by simp only [List.all_cons,List.all_nil,hpost1.oneC,Bool.true_and] <;> rfl) rfl rfl rfl rfl rfl (fun w5 hS5=>?_)
 obtain ⟨G3,hle3,hc2,hS6⟩:=hS5.shutB hn1
 exact XH [.agg #[r1, .int .i64 q.vd, .int .i64 (q.vd + 1), .int .i64 q.tx, .int .i64 (q.tx + 1)]] hS6 ⟨_,_,_,rfl,rfl,hS6.loadC hc2 Zs rfl rfl,rfl⟩ (Is.cast ⟨_,rfl,(ZJ (HRow.mk q.v (Rect.mk (Span.mk q.vd (q.vd + 1)) (Span.mk q.tx (q.tx + 1)))) (hpost1.mono hle3) hb2 hi1 hb1 hi2)⟩ (by rfl))
end Go.Civ
set_option linter.unusedVariables false
set_option linter.unusedSimpArgs false
set_option maxRecDepth 100000
set_option maxHeartbeats 4000000
namespace Go.Civ
open Go.Proofs
theorem Zn9 (d : Nat) : ∀ {G : GH} {w : World} (hG : G.In w) (c : Cond) (l : List Col) (v : List Val) (cc : List Value) (hcc : (YT d).rep G c cc) (vl : Value) (hvl : Sl ColE 24 G vl l) (vv : Value) (hvv : Sl ValE 32 G vv v) (hwf : Zeo d c) (hty : YI d c l = 0) (hlv : v.length = l.length),CL Tryz.prog (nat_lit 217) #[.agg cc.toArray,vl,vv] [] w G fun _ _ r=>r = .bool (YP d c l v):=by
 induction d
 ·intro G w hG c l v cc hcc vl hvl vv hvv hwf hty hlv; exact (ZaF hcc).elim
 rename_i d ih
 intro G w hG c l v cc hcc vl hvl vv hvv hwf hty hlv
 refine Zf ft [] Tryz.func217 rfl rfl ?_
 have hS:=St.start (X:=[]) hG
 obtain ⟨lv1,rfl,hb1,hb2,hb3,hb4,hb5,hb6,ho1⟩:=ZaG hcc
 refine Z1 [.int .i64 c.kind,Zb c.col,Zb c.oth, .int .i64 c.v.k, .int .i64 c.v.n,Zb c.v.s,lv1] _ hS rfl rfl rfl (fun p1 w1 G1 hle1 hsp1 hc1 hS1=>?_)
 refine Za hS1 (XZ.drop 0 hc1) Zl rfl rfl rfl ?_
 refine Zx c.kind 1 rfl rfl rfl (fun h1=>?_) (fun h1=>?_)
 ·refine Zd hS1 (XZ.drop 3 hc1) [.int .i64 c.v.k, .int .i64 c.v.n,Zb c.v.s] ZG rfl rfl rfl rfl rfl ?_
  refine WL.alloc hS1 ZG rfl rfl (fun b1 w2 hn1 hS2=>?_)
  refine WL.store hS2 0 _ _ _ 0 _ [.int .i64 c.v.k, .int .i64 c.v.n,Zb c.v.s] [.int .i64 c.v.k, .int .i64 c.v.n,Zb c.v.s] _ rfl rfl ZG rfl (Nat.le_of_ble_eq_true rfl) rfl rfl rfl rfl rfl rfl (fun w3 hS3=>?_)
  have hf1:=Zaz (l:=l) (nm:=c.col)
  have hf3:=ZjX (Zfd hty) (by exact .inl ‹_›)
  refine Za hS3 (XZ.drop 2 hc1) Yk rfl rfl rfl <| Z7 .neq rfl c.oth [] rfl rfl rfl ?_
  refine WL.split (fun h0=>?_) (fun h0=>?_)
  ·have h2 : c.oth ≠ []:=by simpa [SCmp.b] using h0
   clear h0
   have hf2:=Zaz (l:=l) (nm:=c.oth)
   have hf4:=hf3.2 ‹_›
   refine Za hS3 (XZ.drop 2 hc1) Yk rfl rfl rfl ?_
   refine Zn hS3 Zcd rfl rfl rfl (Zaj hS3.imm l c.oth _ (hvl.mono hle1)) (fun w4 G2 hS4 hle2=>?_)
   refine WL.indexAddr (hvv.mono (hle1.trans hle2)) (((Yb l c.oth)).toNat) (by omega) Yj ZG rfl rfl rfl (congrArg (Value.int .i64) (Int.toNat_of_nonneg (by omega)).symm) (fun p2 x1 hx1 he1=>?_)
   obtain ⟨cs1,hc2,hr1⟩:=he1
   obtain ⟨rfl,hb7,hb8,hb9⟩:=Ya hr1
   refine Zd hS4 hc2 [.int .i64 x1.k, .int .i64 x1.n,Zb x1.s] ZG rfl rfl rfl rfl rfl ?_
   refine WL.store hS4 0 _ _ _ 0 _ [.int .i64 x1.k, .int .i64 x1.n,Zb x1.s] [.int .i64 x1.k, .int .i64 x1.n,Zb x1.s] _ rfl rfl ZG rfl (Nat.le_of_ble_eq_true rfl) rfl rfl rfl rfl rfl rfl (fun w5 hS5=>?_)
   obtain ⟨p3,x2,hx2,he2,ep1⟩:=Sl.at (hvv.mono (hle1.trans hle2)) (((Yb l c.col)).toNat) (by omega)
   obtain ⟨cs2,hc3,hr2⟩:=he2
   obtain ⟨rfl,hb10,YV,Xu⟩:=Ya hr2
   refine dr [(9,false)] [(29,Zb c.col),(30, .int .i64 (Yb l c.col)),(31, .pointer (some p3)),(32, .agg #[.int .i64 x2.k, .int .i64 x2.n,Zb x2.s]),(33, .agg #[.int .i64 x1.k, .int .i64 x1.n,Zb x1.s]),(34, .int .i64 (cmpV x2 x1))] hS5 ⟨fun _ hSw=>Za hSw (XZ.drop 1 (hc1.mono hle2)) Yk rfl rfl rfl <| nu rfl rfl,fun _ hSw=>ZH hSw Zcd rfl rfl rfl (Zaj hSw.imm l c.col _ (hvl.mono (hle1.trans hle2))) rfl,fun _=>Zh (((Yb l c.col)).toNat) ep1 Yj ZG rfl rfl rfl (congrArg (Value.int .i64) (Int.toNat_of_nonneg (by omega)).symm) <| nu rfl rfl,fun _ hSw=>Zd hSw hc3 [.int .i64 x2.k, .int .i64 x2.n,Zb x2.s] ZG rfl rfl rfl rfl rfl <| nu rfl rfl,fun _ hSw=>ZZ hSw 0 _ _ _ 0 [.int .i64 x1.k, .int .i64 x1.n,Zb x1.s] rfl rfl rfl ZG rfl rfl rfl <| nu rfl rfl,fun _ hSw=>ZH hSw Zhi rfl rfl rfl (ZbH hSw.imm x2 x1 _ (YK x2 hb10 YV Xu) _ (YK x1 hb7 hb8 hb9)) rfl,trivial⟩ (fun w6 hS6=>?_)
   refine Za hS6 (XZ.drop 0 (hc1.mono hle2)) Zl rfl rfl rfl ?_
   refine Zx c.kind 1 rfl rfl rfl (fun h3=>?_) (fun h3=>?_)
   ·refine Zx (cmpV x2 x1) 0 rfl rfl rfl (fun h4=>?_) (fun h4=>?_)
    ·exact RB hS6 rfl (by (rw [YR (by first | exact .inl ‹_› | exact .inr ‹_›),ZaW ‹_› ‹_› ‹_›]; simp_all [Cmp.b]; done))
    refine Za hS6 (XZ.drop 0 (hc1.mono hle2)) Zl rfl rfl rfl ?_
    refine Zx c.kind 2 rfl rfl rfl (fun h5=>?_) (fun h5=>?_)
    ·refine ZO .lss rfl .i64 (cmpV x2 x1) 0 rfl rfl rfl ?_
     exact RB hS6 rfl (by (rw [YR (by first | exact .inl ‹_› | exact .inr ‹_›),ZaW ‹_› ‹_› ‹_›]; simp_all [Cmp.b]; done))
    exact RB hS6 rfl (by (rw [YR (by first | exact .inl ‹_› | exact .inr ‹_›),ZaW ‹_› ‹_› ‹_›]; simp_all [Cmp.b]; done))
   refine Za hS6 (XZ.drop 0 (hc1.mono hle2)) Zl rfl rfl rfl ?_
   refine Zx c.kind 2 rfl rfl rfl (fun h6=>?_) (fun h6=>?_)
   ·refine ZO .lss rfl .i64 (cmpV x2 x1) 0 rfl rfl rfl ?_
    exact RB hS6 rfl (by (rw [YR (by first | exact .inl ‹_› | exact .inr ‹_›),ZaW ‹_› ‹_› ‹_›]; simp_all [Cmp.b]; done))
   exact RB hS6 rfl (by (rw [YR (by first | exact .inl ‹_› | exact .inr ‹_›),ZaW ‹_› ‹_› ‹_›]; simp_all [Cmp.b]; done))
  have h2 : c.oth = []:=by simpa [SCmp.b] using h0
  clear h0
  obtain ⟨p4,x3,hx3,he3,ep2⟩:=Sl.at (hvv.mono hle1) (((Yb l c.col)).toNat) (by omega)
  obtain ⟨cs3,hc4,hr3⟩:=he3
  obtain ⟨rfl,XQ,Qm,QH⟩:=Ya hr3
  refine dr [(9,false)] [(29,Zb c.col),(30, .int .i64 (Yb l c.col)),(31, .pointer (some p4)),(32, .agg #[.int .i64 x3.k, .int .i64 x3.n,Zb x3.s]),(33, .agg #[.int .i64 c.v.k, .int .i64 c.v.n,Zb c.v.s]),(34, .int .i64 (cmpV x3 c.v))] hS3 ⟨fun _ hSw=>Za hSw (XZ.drop 1 hc1) Yk rfl rfl rfl <| nu rfl rfl,fun _ hSw=>ZH hSw Zcd rfl rfl rfl (Zaj hSw.imm l c.col _ (hvl.mono hle1)) rfl,fun _=>Zh (((Yb l c.col)).toNat) ep2 Yj ZG rfl rfl rfl (congrArg (Value.int .i64) (Int.toNat_of_nonneg (by omega)).symm) <| nu rfl rfl,fun _ hSw=>Zd hSw hc4 [.int .i64 x3.k, .int .i64 x3.n,Zb x3.s] ZG rfl rfl rfl rfl rfl <| nu rfl rfl,fun _ hSw=>ZZ hSw 0 _ _ _ 0 [.int .i64 c.v.k, .int .i64 c.v.n,Zb c.v.s] rfl rfl rfl ZG rfl rfl rfl <| nu rfl rfl,fun _ hSw=>ZH hSw Zhi rfl rfl rfl (ZbH hSw.imm x3 c.v _ (YK x3 XQ Qm QH) _ (YK c.v hb4 hb5 hb6)) rfl,trivial⟩ (fun w7 hS7=>?_)
  refine Za hS7 (XZ.drop 0 hc1) Zl rfl rfl rfl ?_
  refine Zx c.kind 1 rfl rfl rfl (fun h7=>?_) (fun h7=>?_)
  ·refine Zx (cmpV x3 c.v) 0 rfl rfl rfl (fun h8=>?_) (fun h8=>?_)
   ·exact RB hS7 rfl (by (rw [YR (by first | exact .inl ‹_› | exact .inr ‹_›),Za1 ‹_› ‹_›]; simp_all [Cmp.b]; done))
   refine Za hS7 (XZ.drop 0 hc1) Zl rfl rfl rfl ?_
   refine Zx c.kind 2 rfl rfl rfl (fun h9=>?_) (fun h9=>?_)
   ·refine ZO .lss rfl .i64 (cmpV x3 c.v) 0 rfl rfl rfl ?_
    exact RB hS7 rfl (by (rw [YR (by first | exact .inl ‹_› | exact .inr ‹_›),Za1 ‹_› ‹_›]; simp_all [Cmp.b]; done))
   exact RB hS7 rfl (by (rw [YR (by first | exact .inl ‹_› | exact .inr ‹_›),Za1 ‹_› ‹_›]; simp_all [Cmp.b]; done))
  refine Za hS7 (XZ.drop 0 hc1) Zl rfl rfl rfl ?_
  refine Zx c.kind 2 rfl rfl rfl (fun h10=>?_) (fun h10=>?_)
  ·refine ZO .lss rfl .i64 (cmpV x3 c.v) 0 rfl rfl rfl ?_
   exact RB hS7 rfl (by (rw [YR (by first | exact .inl ‹_› | exact .inr ‹_›),Za1 ‹_› ‹_›]; simp_all [Cmp.b]; done))
  exact RB hS7 rfl (by (rw [YR (by first | exact .inl ‹_› | exact .inr ‹_›),Za1 ‹_› ‹_›]; simp_all [Cmp.b]; done))
 refine Zx c.kind 2 rfl rfl rfl (fun h11=>?_) (fun h11=>?_)
 ·refine Zd hS1 (XZ.drop 3 hc1) [.int .i64 c.v.k, .int .i64 c.v.n,Zb c.v.s] ZG rfl rfl rfl rfl rfl ?_
  refine WL.alloc hS1 ZG rfl rfl (fun b2 w9 hn2 hS8=>?_)
  refine WL.store hS8 0 _ _ _ 0 _ [.int .i64 c.v.k, .int .i64 c.v.n,Zb c.v.s] [.int .i64 c.v.k, .int .i64 c.v.n,Zb c.v.s] _ rfl rfl ZG rfl (Nat.le_of_ble_eq_true rfl) rfl rfl rfl rfl rfl rfl (fun w10 hS9=>?_)
  have hf1:=Zaz (l:=l) (nm:=c.col)
  have hf3:=ZjX (Zfd hty) (by exact .inr ‹_›)
  refine Za hS9 (XZ.drop 2 hc1) Yk rfl rfl rfl <| Z7 .neq rfl c.oth [] rfl rfl rfl ?_
  refine WL.split (fun h0=>?_) (fun h0=>?_)
  ·have h12 : c.oth ≠ []:=by simpa [SCmp.b] using h0
   clear h0
   have hf2:=Zaz (l:=l) (nm:=c.oth)
   have hf4:=hf3.2 ‹_›
   refine Za hS9 (XZ.drop 2 hc1) Yk rfl rfl rfl ?_
   refine Zn hS9 Zcd rfl rfl rfl (Zaj hS9.imm l c.oth _ (hvl.mono hle1)) (fun w11 G3 hS10 hle3=>?_)
   refine WL.indexAddr (hvv.mono (hle1.trans hle3)) (((Yb l c.oth)).toNat) (by omega) Yj ZG rfl rfl rfl (congrArg (Value.int .i64) (Int.toNat_of_nonneg (by omega)).symm) (fun p5 x4 hx4 he4=>?_)
   obtain ⟨cs4,hc5,hr4⟩:=he4
   obtain ⟨rfl,Qr,ZbO,Zb3⟩:=Ya hr4
   refine Zd hS10 hc5 [.int .i64 x4.k, .int .i64 x4.n,Zb x4.s] ZG rfl rfl rfl rfl rfl ?_
   refine WL.store hS10 0 _ _ _ 0 _ [.int .i64 x4.k, .int .i64 x4.n,Zb x4.s] [.int .i64 x4.k, .int .i64 x4.n,Zb x4.s] _ rfl rfl ZG rfl (Nat.le_of_ble_eq_true rfl) rfl rfl rfl rfl rfl rfl (fun w12 hS11=>?_)
   obtain ⟨p6,x5,hx5,he5,ep3⟩:=Sl.at (hvv.mono (hle1.trans hle3)) (((Yb l c.col)).toNat) (by omega)
   obtain ⟨cs5,hc6,hr5⟩:=he5
   obtain ⟨rfl,Zcu,Zes,ZbP⟩:=Ya hr5
   refine dr [(9,false)] [(29,Zb c.col),(30, .int .i64 (Yb l c.col)),(31, .pointer (some p6)),(32, .agg #[.int .i64 x5.k, .int .i64 x5.n,Zb x5.s]),(33, .agg #[.int .i64 x4.k, .int .i64 x4.n,Zb x4.s]),(34, .int .i64 (cmpV x5 x4))] hS11 ⟨fun _ hSw=>Za hSw (XZ.drop 1 (hc1.mono hle3)) Yk rfl rfl rfl <| nu rfl rfl,fun _ hSw=>ZH hSw Zcd rfl rfl rfl (Zaj hSw.imm l c.col _ (hvl.mono (hle1.trans hle3))) rfl,fun _=>Zh (((Yb l c.col)).toNat) ep3 Yj ZG rfl rfl rfl (congrArg (Value.int .i64) (Int.toNat_of_nonneg (by omega)).symm) <| nu rfl rfl,fun _ hSw=>Zd hSw hc6 [.int .i64 x5.k, .int .i64 x5.n,Zb x5.s] ZG rfl rfl rfl rfl rfl <| nu rfl rfl,fun _ hSw=>ZZ hSw 0 _ _ _ 0 [.int .i64 x4.k, .int .i64 x4.n,Zb x4.s] rfl rfl rfl ZG rfl rfl rfl <| nu rfl rfl,fun _ hSw=>ZH hSw Zhi rfl rfl rfl (ZbH hSw.imm x5 x4 _ (YK x5 Zcu Zes ZbP) _ (YK x4 Qr ZbO Zb3)) rfl,trivial⟩ (fun w13 hS12=>?_)
   refine Za hS12 (XZ.drop 0 (hc1.mono hle3)) Zl rfl rfl rfl ?_
   refine Zx c.kind 1 rfl rfl rfl (fun h13=>?_) (fun h13=>?_)
   ·refine Zx (cmpV x5 x4) 0 rfl rfl rfl (fun h14=>?_) (fun h14=>?_)
    ·exact RB hS12 rfl (by (rw [YR (by first | exact .inl ‹_› | exact .inr ‹_›),ZaW ‹_› ‹_› ‹_›]; simp_all [Cmp.b]; done))
    refine Za hS12 (XZ.drop 0 (hc1.mono hle3)) Zl rfl rfl rfl ?_
    refine Zx c.kind 2 rfl rfl rfl (fun h15=>?_) (fun h15=>?_)
    ·refine ZO .lss rfl .i64 (cmpV x5 x4) 0 rfl rfl rfl ?_
     exact RB hS12 rfl (by (rw [YR (by first | exact .inl ‹_› | exact .inr ‹_›),ZaW ‹_› ‹_› ‹_›]; simp_all [Cmp.b]; done))
    exact RB hS12 rfl (by (rw [YR (by first | exact .inl ‹_› | exact .inr ‹_›),ZaW ‹_› ‹_› ‹_›]; simp_all [Cmp.b]; done))
   refine Za hS12 (XZ.drop 0 (hc1.mono hle3)) Zl rfl rfl rfl ?_
   refine Zx c.kind 2 rfl rfl rfl (fun h16=>?_) (fun h16=>?_)
   ·refine ZO .lss rfl .i64 (cmpV x5 x4) 0 rfl rfl rfl ?_
    exact RB hS12 rfl (by (rw [YR (by first | exact .inl ‹_› | exact .inr ‹_›),ZaW ‹_› ‹_› ‹_›]; simp_all [Cmp.b]; done))
   exact RB hS12 rfl (by (rw [YR (by first | exact .inl ‹_› | exact .inr ‹_›),ZaW ‹_› ‹_› ‹_›]; simp_all [Cmp.b]; done))
  have h12 : c.oth = []:=by simpa [SCmp.b] using h0
  clear h0
  obtain ⟨p7,x6,hx6,he6,ep4⟩:=Sl.at (hvv.mono hle1) (((Yb l c.col)).toNat) (by omega)
  obtain ⟨cs6,hc7,hr6⟩:=he6
  obtain ⟨rfl,Zfg,Zet,ZbQ⟩:=Ya hr6
  refine dr [(9,false)] [(29,Zb c.col),(30, .int .i64 (Yb l c.col)),(31, .pointer (some p7)),(32, .agg #[.int .i64 x6.k, .int .i64 x6.n,Zb x6.s]),(33, .agg #[.int .i64 c.v.k, .int .i64 c.v.n,Zb c.v.s]),(34, .int .i64 (cmpV x6 c.v))] hS9 ⟨fun _ hSw=>Za hSw (XZ.drop 1 hc1) Yk rfl rfl rfl <| nu rfl rfl,fun _ hSw=>ZH hSw Zcd rfl rfl rfl (Zaj hSw.imm l c.col _ (hvl.mono hle1)) rfl,fun _=>Zh (((Yb l c.col)).toNat) ep4 Yj ZG rfl rfl rfl (congrArg (Value.int .i64) (Int.toNat_of_nonneg (by omega)).symm) <| nu rfl rfl,fun _ hSw=>Zd hSw hc7 [.int .i64 x6.k, .int .i64 x6.n,Zb x6.s] ZG rfl rfl rfl rfl rfl <| nu rfl rfl,fun _ hSw=>ZZ hSw 0 _ _ _ 0 [.int .i64 c.v.k, .int .i64 c.v.n,Zb c.v.s] rfl rfl rfl ZG rfl rfl rfl <| nu rfl rfl,fun _ hSw=>ZH hSw Zhi rfl rfl rfl (ZbH hSw.imm x6 c.v _ (YK x6 Zfg Zet ZbQ) _ (YK c.v hb4 hb5 hb6)) rfl,trivial⟩ (fun w14 hS13=>?_)
  refine Za hS13 (XZ.drop 0 hc1) Zl rfl rfl rfl ?_
  refine Zx c.kind 1 rfl rfl rfl (fun h17=>?_) (fun h17=>?_)
  ·refine Zx (cmpV x6 c.v) 0 rfl rfl rfl (fun h18=>?_) (fun h18=>?_)
   ·exact RB hS13 rfl (by (rw [YR (by first | exact .inl ‹_› | exact .inr ‹_›),Za1 ‹_› ‹_›]; simp_all [Cmp.b]; done))
   refine Za hS13 (XZ.drop 0 hc1) Zl rfl rfl rfl ?_
   refine Zx c.kind 2 rfl rfl rfl (fun h19=>?_) (fun h19=>?_)
   ·refine ZO .lss rfl .i64 (cmpV x6 c.v) 0 rfl rfl rfl ?_
    exact RB hS13 rfl (by (rw [YR (by first | exact .inl ‹_› | exact .inr ‹_›),Za1 ‹_› ‹_›]; simp_all [Cmp.b]; done))
   exact RB hS13 rfl (by (rw [YR (by first | exact .inl ‹_› | exact .inr ‹_›),Za1 ‹_› ‹_›]; simp_all [Cmp.b]; done))
  refine Za hS13 (XZ.drop 0 hc1) Zl rfl rfl rfl ?_
  refine Zx c.kind 2 rfl rfl rfl (fun h20=>?_) (fun h20=>?_)
  ·refine ZO .lss rfl .i64 (cmpV x6 c.v) 0 rfl rfl rfl ?_
   exact RB hS13 rfl (by (rw [YR (by first | exact .inl ‹_› | exact .inr ‹_›),Za1 ‹_› ‹_›]; simp_all [Cmp.b]; done))
  exact RB hS13 rfl (by (rw [YR (by first | exact .inl ‹_› | exact .inr ‹_›),Za1 ‹_› ‹_›]; simp_all [Cmp.b]; done))
 refine Zx c.kind 4 rfl rfl rfl (fun h21=>?_) (fun h21=>?_)
 ·have hal:=ZtK hwf ‹_›
  refine Za hS1 (XZ.drop 6 hc1) Za3 rfl rfl rfl ?_
  refine WL.indexAddr (ho1.mono hle1) 0 (by omega) Zal X6 rfl rfl rfl rfl (fun p8 x7 hx7 he7=>?_)
  obtain ⟨cs7,hc8,hr7⟩:=he7
  obtain ⟨lv2,rfl,ZhP,Zeu,Zkj,Zqo,Zqp,Zfh,ho2⟩:=Xs hr7
  refine Zd hS1 hc8 [.int .i64 x7.kind,Zb x7.col,Zb x7.oth, .int .i64 x7.v.k, .int .i64 x7.v.n,Zb x7.v.s,lv2] X6 rfl rfl rfl rfl rfl ?_
  refine Zn hS1 ZfG rfl rfl rfl (ih hS1.imm x7 l v _ hr7 _ (hvl.mono hle1) _ (hvv.mono hle1) (hwf.2 _ (List.mem_of_getElem? ‹_›)) (ZaV hty (List.mem_of_getElem? ‹_›)) ‹_›) (fun w15 G4 hS14 hle4=>?_)
  exact RB hS14 rfl (by (rw [ZtN ‹_› ‹_›]; done))
 refine Zx c.kind 5 rfl rfl rfl (fun h22=>?_) (fun h22=>?_)
 ·have hal:=ZtL hwf ‹_›
  refine Za hS1 (XZ.drop 6 hc1) Za3 rfl rfl rfl ?_
  refine WL.indexAddr (ho1.mono hle1) 0 (by omega) Zal X6 rfl rfl rfl rfl (fun p9 x9 hx8 he8=>?_)
  obtain ⟨cs8,hc9,hr8⟩:=he8
  obtain ⟨lv3,rfl,ZhQ,Zqq,Zqr,Zqs,Zwn,Zwo,ho3⟩:=Xs hr8
  refine Zd hS1 hc9 [.int .i64 x9.kind,Zb x9.col,Zb x9.oth, .int .i64 x9.v.k, .int .i64 x9.v.n,Zb x9.v.s,lv3] X6 rfl rfl rfl rfl rfl ?_
  refine Zn hS1 ZfG rfl rfl rfl (ih hS1.imm x9 l v _ hr8 _ (hvl.mono hle1) _ (hvv.mono hle1) (hwf.2 _ (List.mem_of_getElem? ‹_›)) (ZaV hty (List.mem_of_getElem? ‹_›)) ‹_›) (fun w16 G5 hS15 hle5=>?_)
  refine WL.split (fun (h23 : (YP d x9 l v) = true)=>?_) (fun (h23 : (YP d x9 l v) = false)=>?_)
  ·refine Za hS15 (XZ.drop 6 (hc1.mono hle5)) Za3 rfl rfl rfl ?_
   refine WL.indexAddr (ho1.mono (hle1.trans hle5)) 1 (by omega) Zal X6 rfl rfl rfl rfl (fun p10 x10 hx9 he9=>?_)
   obtain ⟨cs9,hc10,hr9⟩:=he9
   obtain ⟨lv4,rfl,Zwp,hb38,ZmN,ZtV,hb41,hb42,ho4⟩:=Xs hr9
   refine Zd hS15 hc10 [.int .i64 x10.kind,Zb x10.col,Zb x10.oth, .int .i64 x10.v.k, .int .i64 x10.v.n,Zb x10.v.s,lv4] X6 rfl rfl rfl rfl rfl ?_
   refine Zn hS15 ZfG rfl rfl rfl (ih hS15.imm x10 l v _ hr9 _ (hvl.mono (hle1.trans hle5)) _ (hvv.mono (hle1.trans hle5)) (hwf.2 _ (List.mem_of_getElem? ‹_›)) (ZaV hty (List.mem_of_getElem? ‹_›)) ‹_›) (fun w17 G6 hS16 hle6=>?_)
   exact RB hS16 rfl (by (rw [ZjY ‹_› ‹_› ‹_›]; simp_all; done))
  exact RB hS15 rfl (by exact (Zs4 ‹_› ‹_› hal ‹_›).symm)
 refine Zx c.kind 6 rfl rfl rfl (fun h24=>?_) (fun h24=>?_)
 ·have hal:=ZtM hwf ‹_›
  refine Za hS1 (XZ.drop 6 hc1) Za3 rfl rfl rfl ?_
  refine WL.indexAddr (ho1.mono hle1) 0 (by omega) Zal X6 rfl rfl rfl rfl (fun p11 x11 hx10 he10=>?_)
  obtain ⟨cs10,hc11,hr10⟩:=he10
  obtain ⟨lv5,rfl,hb43,hb44,hb45,hb46,hb47,hb48,ho5⟩:=Xs hr10
  refine Zd hS1 hc11 [.int .i64 x11.kind,Zb x11.col,Zb x11.oth, .int .i64 x11.v.k, .int .i64 x11.v.n,Zb x11.v.s,lv5] X6 rfl rfl rfl rfl rfl ?_
  refine Zn hS1 ZfG rfl rfl rfl (ih hS1.imm x11 l v _ hr10 _ (hvl.mono hle1) _ (hvv.mono hle1) (hwf.2 _ (List.mem_of_getElem? ‹_›)) (ZaV hty (List.mem_of_getElem? ‹_›)) ‹_›) (fun w18 G7 hS17 hle7=>?_)
  refine WL.split (fun (h25 : (YP d x11 l v) = true)=>?_) (fun (h25 : (YP d x11 l v) = false)=>?_)
  ·exact RB hS17 rfl (by exact (Zs5 ‹_› ‹_› hal ‹_›).symm)
  refine Za hS17 (XZ.drop 6 (hc1.mono hle7)) Za3 rfl rfl rfl ?_
  refine WL.indexAddr (ho1.mono (hle1.trans hle7)) 1 (by omega) Zal X6 rfl rfl rfl rfl (fun p12 x12 hx11 he11=>?_)
  obtain ⟨cs11,hc12,hr11⟩:=he11
  obtain ⟨lv6,rfl,Zkk,hb50,hb51,hb52,hb53,hb54,ho6⟩:=Xs hr11
  refine Zd hS17 hc12 [.int .i64 x12.kind,Zb x12.col,Zb x12.oth, .int .i64 x12.v.k, .int .i64 x12.v.n,Zb x12.v.s,lv6] X6 rfl rfl rfl rfl rfl ?_
  refine Zn hS17 ZfG rfl rfl rfl (ih hS17.imm x12 l v _ hr11 _ (hvl.mono (hle1.trans hle7)) _ (hvv.mono (hle1.trans hle7)) (hwf.2 _ (List.mem_of_getElem? ‹_›)) (ZaV hty (List.mem_of_getElem? ‹_›)) ‹_›) (fun w19 G9 hS18 hle9=>?_)
  exact RB hS18 rfl (by (rw [Zob ‹_› ‹_› ‹_›]; simp_all; done))
 exact RB hS1 rfl (by exact (Zoc ‹_› ‹_› ‹_› ‹_› ‹_›).symm)
end Go.Civ
namespace Go.Civ
open Go.RowKit
set_option linter.unusedVariables false
def Chg (f : Int → List Span) (r : HRow) : Prop:=f r.r.x.a ≠ f (r.r.x.a - 1) ∧ ∀ y,r.r.x.a ≤ y → y < r.r.x.b → f y = f r.r.x.a
theorem Zim {v : List Val} {f : Int → List Span} : ∀ (cs : List Int) (s : NS) (g : Int),cs.Pairwise (· < ·) → (∀ c ∈ cs,g < c) → (s.now ≠ [] → s.fr = g ∧ f g ≠ f (g - 1)) →
  (∀ x,g ≤ x → (∀ c ∈ cs,x < c) → f x = s.now) → (∀ c ∈ cs,∀ x,c ≤ x → (∀ c' ∈ cs,c < c' → x < c') → f x = f c) → (∀ r ∈ s.out,Chg f r) → ∀ r ∈ (cs.foldl (Zas v f) s).out,Chg f r
 | [],s,g,_,_,_,_,_,h=>h
 | c :: cs,s,g,hp,hg,hf,h3,h4,ho=>by
  obtain ⟨hp1,hp2⟩:=List.pairwise_cons.1 hp
  have hgc:=hg c (by simp)
  have nx : ∀ c' ∈ cs,∀ y,c' ≤ y → (∀ c'' ∈ cs,c' < c'' → y < c'') → f y = f c':=fun c' hc' y hy hh=>h4 c' (by simp [hc']) y hy fun c'' hc'' hlt=>by
   rcases List.mem_cons.1 hc'' with h | h
   ·have:=hp1 c' hc'; omega
   ·exact hh c'' h hlt
  have at_c : ∀ y,c ≤ y → (∀ c' ∈ cs,y < c') → f y = f c:=fun y hy hc=>h4 c (by simp) y hy fun c' hc' hlt=>by
   rcases List.mem_cons.1 hc' with h | h
   ·omega
   ·exact hc c' h
  have below : ∀ y,g ≤ y → y < c → f y = s.now:=fun y hy hc=>h3 y hy fun c' hc'=>by
   rcases List.mem_cons.1 hc' with h | h
   ·omega
   ·have:=hp1 c' h; omega
  rw [List.foldl_cons]
  by_cases hn : s.now = f c
  ·rw [Zb6 hn]
   refine Zim cs s g hp2 (fun c' h=>hg c' (by simp [h])) hf (fun y hy hc=>?_) nx ho
   rcases Int.lt_or_le y c with h | h
   ·exact below y hy h
   ·rw [hn]; exact at_c y h hc
  ·rw [Zdn hn]
   refine Zim cs _ c hp2 hp1 (fun _=>⟨rfl,?_⟩) at_c nx fun r hr=>?_
   ·rw [below (c - 1) (by omega) (by omega)]; exact Ne.symm hn
   ·rcases List.mem_append.1 hr with hr | hr
    ·exact ho r hr
    ·unfold YD at hr
     obtain ⟨s1,hs,rfl⟩:=List.mem_map.1 hr
     obtain ⟨e1,e2⟩:=hf (fun k=>by rw [k] at hs; cases hs)
     refine ⟨by simp only; rw [e1]; exact e2,fun y h1 h2=>?_⟩
     simp only at h1 h2 ⊢
     rw [e1] at h1 ⊢
     rw [below y h1 h2,below g (Int.le_refl _) hgc]
theorem Zpy {l : List HRow} (hg : ZA l) (v : List Val) : ∀ r ∈ nvH l v,Chg (Z4 (YG l v)) r:=by
 have hgv:=hg.of v
 unfold nvH Y9
 rcases hc : ZL (YG l v) with _ | ⟨c,cs⟩
 ·intro r hr; cases hr
 ·rw [← hc]
  have hinc:=Q6 (YG l v)
  have hmin : ∀ c' ∈ ZL (YG l v),c ≤ c':=by
   rw [hc] at hinc ⊢
   intro c' h'
   rcases List.mem_cons.1 h' with h' | h'
   ·omega
   ·have:=(List.pairwise_cons.1 hinc).1 c' h'; omega
  refine Zim (ZL (YG l v)) ⟨[],[],0⟩ (c - 1) hinc (fun c' h=>by have:=hmin c' h; omega) (fun h=>absurd rfl h) (fun y hy h=>?_) (fun c' hc' y hle h=>?_) fun r hr=>by cases hr
  ·unfold Z4; rw [Zbu hgv h,Zaa]
  ·unfold Z4; rw [Zdp hle h]
theorem ZnA {l m : List HRow} (hl : ZA l) (hm : ZA m) (tx : Int) (h : ∀ v x,x < tx → Z4 (YG l v) x = Z4 (YG m v) x) : ((Z5 l).filter fun r=>decide (r.r.x.a < tx)).length ≤ (Z5 m).length:=by
 have key : ∀ r ∈ Z5 l,r.r.x.a < tx → ∃ q ∈ Z5 m,q.v = r.v ∧ q.r.d = r.r.d ∧ q.r.x.a ≤ r.r.x.a ∧ r.r.x.a < q.r.x.b:=fun r hr ht=>by
  obtain ⟨⟨h1,h2,h3,h4,h5⟩,_⟩:=Zg4 hr
  rw [h r.v _ ht,← ZeG (hm.of r.v) r.v] at h2
  unfold Yw at h2
  obtain ⟨q,hq,e⟩:=List.mem_map.1 h2
  rw [List.mem_filter] at hq
  have hqm : q ∈ nvH m r.v:=hq.1
  have hv:=(Zh8 hqm).1
  have hq2:=hq.2
  unfold YU at hq2
  simp at hq2
  refine ⟨q,?_,hv,e,hq2.1,hq2.2⟩
  rw [← ZeH] at hqm
  exact (List.mem_filter.1 hqm).1
 have nd : ((Z5 l).filter fun r=>decide (r.r.x.a < tx)).Pairwise fun x y=>¬ (x.v = y.v ∧ x.r.d = y.r.d ∧ x.r.x.a = y.r.x.a):=by
  refine List.Pairwise.filter _ ?_
  have big : (Z5 l).Pairwise fun x y=>x.v = y.v → ¬ (x.r.d = y.r.d ∧ x.r.x.a = y.r.x.a):=by
   have P : ∀ a x,(Z5 l).Pairwise fun p q=>XL a x p = true → XL a x q = true → p.v ≠ q.v:=fun a x=>by
    have h:=ZiP hl a x
    have nd : (rrL (Z5 l) a x).Nodup:=by rw [h]; exact (Zbo hl a x).nodup
    unfold rrL QP at nd
    unfold List.Nodup at nd
    rw [List.pairwise_map,List.pairwise_filter] at nd
    exact nd.imp fun {x y} q=>fun h1 h2=>q h1 h2
   rw [List.pairwise_iff_getElem]
   intro i j hi hj hij e1 e2
   have ri:=List.getElem_mem hi
   have rj:=List.getElem_mem hj
   have gi:=ZY (ZaA hl _ ri)
   have gj:=ZY (ZaA hl _ rj)
   have di:=Yx gi.2.1
   have xi:=Yx gi.2.2
   have xj:=Yx gj.2.2
   have:=List.pairwise_iff_getElem.1 (P (Z5 l)[i].r.d.a (Z5 l)[i].r.x.a) i j hi hj hij (Xa.2 ⟨Int.le_refl _,di,Int.le_refl _,xi⟩) (Xa.2 ⟨by rw [e2.1]; exact Int.le_refl _,by rw [← e2.1]; exact di,by rw [e2.2]; exact Int.le_refl _,by rw [e2.2]; exact xj⟩)
   exact this e1
  exact big.imp fun {x y} q=>fun ⟨a,b,c⟩=>q a ⟨b,c⟩
 have go : ∀ (A B : List HRow),(∀ r ∈ A,r ∈ Z5 l ∧ r.r.x.a < tx) → A.Pairwise (fun x y=>¬ (x.v = y.v ∧ x.r.d = y.r.d ∧ x.r.x.a = y.r.x.a)) → (∀ r ∈ A,∃ q ∈ B,q ∈ Z5 m ∧ q.v = r.v ∧ q.r.d = r.r.d ∧ q.r.x.a ≤ r.r.x.a ∧ r.r.x.a < q.r.x.b) → A.length ≤ B.length:=by
  intro A
  induction A with
  | nil=>intro B _ _ _; exact Nat.zero_le _
  | cons r A ih=>
   intro B hA hP hB
   obtain ⟨p1,p2⟩:=List.pairwise_cons.1 hP
   obtain ⟨q,hq,hqm,e1,e2,e3,e4⟩:=hB r (by simp)
   have lenB : (B.erase q).length + 1 = B.length:=by
    rw [List.length_erase_of_mem hq]
    have : 0 < B.length:=List.length_pos_of_mem hq
    omega
   have:=ih (B.erase q) (fun z hz=>hA z (by simp [hz])) p2 fun z hz=>?_
   ·simp only [List.length_cons]; omega
   ·obtain ⟨w,hw,hwm,f1,f2,f3,f4⟩:=hB z (by simp [hz])
    refine ⟨w,(List.mem_erase_of_ne fun e=>?_).2 hw,hwm,f1,f2,f3,f4⟩
    subst e
    have hz1:=hA z (by simp [hz])
    have hr1:=hA r (by simp)
    have ev : z.v = r.v:=f1.symm.trans e1
    have ed : z.r.d = r.r.d:=f2.symm.trans e2
    have hwn : w ∈ nvH m w.v:=by rw [← ZeH]; exact List.mem_filter.2 ⟨hwm,by simp⟩
    have cw:=(Zpy hm w.v w hwn).2
    have one : ∀ (a b : HRow),a ∈ Z5 l → b ∈ Z5 l → a.r.x.a < tx → b.r.x.a < tx → w.v = a.v → w.v = b.v → w.r.x.a ≤ a.r.x.a → b.r.x.a < w.r.x.b → a.r.x.a < b.r.x.a → False:=by
     intro a b ha hb ta tb va vb la lb hab
     have hbn : b ∈ nvH l b.v:=by rw [← ZeH]; exact List.mem_filter.2 ⟨hb,by simp⟩
     have cb:=(Zpy hl b.v b hbn).1
     rw [h b.v _ tb,h b.v _ (by omega),← vb] at cb
     exact cb ((cw _ (by omega) lb).trans (cw _ (by omega) (by omega)).symm)
    rcases Int.lt_trichotomy z.r.x.a r.r.x.a with k | k | k
    ·exact one z r hz1.1 hr1.1 hz1.2 hr1.2 f1 e1 f3 e4 k
    ·exact p1 z hz ⟨ev.symm,ed.symm,k.symm⟩
    ·exact one r z hr1.1 hz1.1 hr1.2 hz1.2 e1 f1 e3 f4 k
 refine go _ (Z5 m) (fun r hr=>?_) nd fun r hr=>?_
 ·rw [List.mem_filter] at hr; exact ⟨hr.1,by simpa using hr.2⟩
 ·rw [List.mem_filter] at hr
  obtain ⟨q,hq,k⟩:=key r hr.1 (by simpa using hr.2)
  exact ⟨q,hq,hq,k⟩
end Go.Civ
