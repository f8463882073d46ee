/- Lemmas. -/
import Derived.Test.YthgeclodflmiaaaGreatP23
import Derived.Test.YthgeclodflmiaaaGreatP26
import Derived.Test.YthgeclodflmiaaaGreatP29
import Derived.Test.YthgeclodflmiaaaGreatP30
import Derived.Test.YthgeclodflmiaaaGreatP32
import Derived.Test.YthgeclodflmiaaaGreatProg
import Derived.KernelRfl
import Derived.WalkKit
set_option linter.unusedVariables false
set_option linter.unusedSimpArgs false
set_option maxRecDepth 100000
set_option maxHeartbeats 4000000
namespace Go.Civ
open Go.Proofs
theorem ZfE {G : GH} {w : World} (hG : G.In w) (x y : Pt) (cx : List Value) (hcx : PtE.rep G x cx) (cy : List Value) (hcy : PtE.rep G y cy) : CL Tryz.prog (nat_lit 117) #[.agg cx.toArray, .agg cy.toArray] [] w G fun _ _ r=>r = .int .i64 (XR x y):=by
 refine Zg ft [] Tryz.func117 rfl rfl ?_
 have hS:=St.start (X:=[]) hG
 obtain ⟨v1,rfl,hb1,hb2,hs1⟩:=XQ hcx
 obtain ⟨v2,rfl,hb3,hb4,hs2⟩:=XQ hcy
 refine Zu [.int .i64 x.tx, .int .i64 x.vd,v1] _ hS rfl rfl rfl (fun p1 w1 G1 hle1 hsp1 hc1 hS1=>?_)
 refine Zu [.int .i64 y.tx, .int .i64 y.vd,v2] _ hS1 rfl rfl rfl (fun p2 w2 G2 hle2 hsp2 hc2 hS2=>?_)
 refine dr [(15,false),(16,false),(17,false)] [(6, .int .i64 x.tx),(8, .int .i64 y.tx),(9, .int .i64 (Y2 x.tx y.tx)),(11, .int .i64 x.vd),(13, .int .i64 y.vd),(14, .int .i64 (Y2 x.vd y.vd)),(16,v1),(18,v2),(19, .int .i64 (YU x.v y.v))] hS2 ⟨fun _ hSw=>Zb hSw (Xl.drop 0 (hc1.mono hle2)) Z7 rfl rfl rfl <| nu rfl rfl,fun _ hSw=>Zb hSw (Xl.drop 0 hc2) Z7 rfl rfl rfl <| nu rfl rfl,fun _ hSw=>ZH hSw Zio rfl rfl rfl (Zc6 hSw.imm x.tx y.tx) rfl,fun _ hSw=>Zb hSw (Xl.drop 1 (hc1.mono hle2)) Z7 rfl rfl rfl <| nu rfl rfl,fun _ hSw=>Zb hSw (Xl.drop 1 hc2) Z7 rfl rfl rfl <| nu rfl rfl,fun _ hSw=>ZH hSw Zio rfl rfl rfl (Zc6 hSw.imm x.vd y.vd) rfl,fun _ hSw=>Zb hSw (Xl.drop 2 (hc1.mono hle2)) ZG rfl rfl rfl <| nu rfl rfl,fun _ hSw=>Zb hSw (Xl.drop 2 hc2) ZG rfl rfl rfl <| nu rfl rfl,fun _ hSw=>ZH hSw Zin rfl rfl rfl (ZeT hSw.imm x.v y.v _ (hs1.mono (hle1.trans hle2)) _ (hs2.mono (hle1.trans hle2))) rfl,trivial⟩ (fun w3 hS3=>?_)
 refine WL.buildSlice _ [(0,[.int .i64 (Y2 x.tx y.tx)]),(1,[.int .i64 (Y2 x.vd y.vd)]),(2,[.int .i64 (YU x.v y.v)])] [.int .i64 (Y2 x.tx y.tx), .int .i64 (Y2 x.vd y.vd), .int .i64 (YU x.v y.v)] hS3 Zdu rfl rfl rfl rfl (fun z hz=>by match z,hz with | [z0,z1,z2],_=>rfl) (fun b1 w4 hn1 hS4=>?_)
 obtain ⟨G3,hle3,hs3,hS5⟩:=St.sealSl (E:=Enc.int) (by_:=8) (l:=([(Y2 x.tx y.tx),(Y2 x.vd y.vd),(YU x.v y.v)] : List Int)) hS4 hn1 ⟨[.int .i64 (Y2 x.tx y.tx)],_,rfl,⟨rfl,ZcX x.tx y.tx⟩,⟨[.int .i64 (Y2 x.vd y.vd)],_,rfl,⟨rfl,ZcX x.vd y.vd⟩,⟨[.int .i64 (YU x.v y.v)],_,rfl,⟨rfl,ZnV x.v y.v⟩,rfl⟩⟩⟩ rfl (by simp [reach]) (by simp [reach])
 refine Zj hS5 ZpJ rfl rfl rfl (ZrF hS5.imm [(Y2 x.tx y.tx),(Y2 x.vd y.vd),(YU x.v y.v)] _ hs3) (fun w5 G4 hS6 hle4=>?_)
 exact RI hS6 rfl (by exact Zmh _ _ _)
theorem Qz {G : GH} {w : World} (hG : G.In w) (s : Span) (x : Int) (cs : List Value) (hcs : SpanE.rep G s cs) : CL Tryz.prog (nat_lit 114) #[.agg cs.toArray, .int .i64 x] [] w G fun _ _ r=>r = .bool (Xf x s):=by
 refine Zg ft [] Tryz.func114 rfl rfl ?_
 have hS:=St.start (X:=[]) hG
 obtain ⟨rfl,hb1,hb2⟩:=ZF hcs
 refine Zu [.int .i64 s.a, .int .i64 s.b] _ hS rfl rfl rfl (fun p1 w1 G1 hle1 hsp1 hc1 hS1=>?_)
 refine Zb hS1 (Xl.drop 0 hc1) Z7 rfl rfl rfl ?_
 refine Zad s.a x rfl rfl rfl (fun h1=>?_) (fun h1=>?_)
 ·refine Zb hS1 (Xl.drop 1 hc1) Z7 rfl rfl rfl <| ZY .lss rfl .i64 x s.b rfl rfl rfl ?_
  exact RB hS1 rfl (by unfold Xf; simp_all [Cmp.b] <;> (first | omega | (intros; omega) | (rw [Bool.eq_iff_iff]; simp <;> omega) | (rw [Bool.eq_iff_iff]; simp_all <;> omega)))
 exact RB hS1 rfl (by unfold Xf; simp_all [Cmp.b] <;> (omega))
theorem Zk7 {G : GH} {w : World} (hG : G.In w) (q : Pt) (cq : List Value) (hcq : PtE.rep G q cq) (h1 : ZB q.tx = true) (h2 : ZB q.vd = true) : CL Tryz.prog (nat_lit 61) #[.agg cq.toArray] [] w G fun G' _ r=>Is HRowE G' r (Yt (some q)):=by
 refine Y9 ft [] Tryz.func61 rfl rfl ?_
 have hS:=St.start (X:=[]) hG
 obtain ⟨v1,rfl,hb1,hb2,hs1⟩:=XQ hcq
 refine Zu [.int .i64 q.tx, .int .i64 q.vd,v1] _ hS rfl rfl rfl (fun p1 w1 G1 hle1 hsp1 hc1 hS1=>?_)
 refine WL.alloc hS1 Zx rfl rfl (fun b1 w2 hn1 hS2=>?_)
 have hi1 : Zy (q.vd + 1):=by have b1:=X3 h1; have b2:=X3 h2; have:=hb2.1; have:=hb2.2; constructor <;> omega
 have hi2 : Zy (q.tx + 1):=by have b1:=X3 h1; have b2:=X3 h2; have:=hb1.1; have:=hb1.2; constructor <;> omega
 refine dr [(2,true),(16,false),(17,false)] [(4,v1),(7, .int .i64 q.vd),(9, .int .i64 q.vd),(10, .int .i64 (q.vd + 1)),(11, .agg #[.int .i64 q.vd, .int .i64 (q.vd + 1)]),(13, .int .i64 q.tx),(15, .int .i64 q.tx),(16, .int .i64 (q.tx + 1)),(17, .agg #[.int .i64 q.tx, .int .i64 (q.tx + 1)]),(18, .agg #[.int .i64 q.vd, .int .i64 (q.vd + 1), .int .i64 q.tx, .int .i64 (q.tx + 1)])] hS2 ⟨fun _ hSw=>Zb hSw (Xl.drop 2 hc1) ZG rfl rfl rfl <| nu rfl rfl,fun _ hSw=>Zb hSw (Xl.drop 1 hc1) Z7 rfl rfl rfl <| nu rfl rfl,fun _ hSw=>Zb hSw (Xl.drop 1 hc1) Z7 rfl rfl rfl <| nu rfl rfl,fun _=>Zdi .add rfl q.vd 1 rfl rfl rfl hi1 <| nu rfl rfl,fun _=>WL.build _ [(0,[.int .i64 q.vd]),(1,[.int .i64 (q.vd + 1)])] [.int .i64 q.vd, .int .i64 (q.vd + 1)] Zt rfl X6 rfl rfl rfl rfl <| nu rfl rfl,fun _ hSw=>Zb hSw (Xl.drop 0 hc1) Z7 rfl rfl rfl <| nu rfl rfl,fun _ hSw=>Zb hSw (Xl.drop 0 hc1) Z7 rfl rfl rfl <| nu rfl rfl,fun _=>Zdi .add rfl q.tx 1 rfl rfl rfl hi2 <| nu rfl rfl,fun _=>WL.build _ [(0,[.int .i64 q.tx]),(1,[.int .i64 (q.tx + 1)])] [.int .i64 q.tx, .int .i64 (q.tx + 1)] Zt rfl X6 rfl rfl rfl rfl <| nu rfl rfl,fun _=>WL.build _ [(0,[.int .i64 q.vd, .int .i64 (q.vd + 1)]),(1,[.int .i64 q.tx, .int .i64 (q.tx + 1)])] [.int .i64 q.vd, .int .i64 (q.vd + 1), .int .i64 q.tx, .int .i64 (q.tx + 1)] ZcO rfl Zfy rfl rfl rfl rfl <| nu rfl rfl,trivial⟩ (fun w3 hS3=>?_)
 refine Z3 hS3 ZcP rfl rfl rfl (XI hS3.imm q.v _ (hs1.mono hle1)) (fun w4 G2 r1 hpost1 hS4 hle2=>?_)
 refine ⟨hS4.down hS3.le hle2,?_⟩
 refine WL.build _ [(0,[r1]),(1,[.int .i64 q.vd, .int .i64 (q.vd + 1), .int .i64 q.tx, .int .i64 (q.tx + 1)])] [r1, .int .i64 q.vd, .int .i64 (q.vd + 1), .int .i64 q.tx, .int .i64 (q.tx + 1)] Zx rfl Zbj rfl rfl (by show [(0,(r1 : Value).cells.toList),(1,(.agg #[.int .i64 q.vd, .int .i64 (q.vd + 1), .int .i64 q.tx, .int .i64 (q.tx + 1)] : Value).cells.toList)] = _; simp only [hpost1.cells1] <;> rfl) rfl ?_
 refine WL.store hS4 0 _ _ _ 0 _ [r1, .int .i64 q.vd, .int .i64 (q.vd + 1), .int .i64 q.tx, .int .i64 (q.tx + 1)] [r1, .int .i64 q.vd, .int .i64 (q.vd + 1), .int .i64 q.tx, .int .i64 (q.tx + 1)] _ rfl rfl Zx rfl (Nat.le_of_ble_eq_true rfl) (by simp only [List.all_cons,List.all_nil,hpost1.oneC,Bool.true_and] <;> rfl) rfl rfl rfl rfl rfl (fun w5 hS5=>?_)
 obtain ⟨G3,hle3,hc2,hS6⟩:=hS5.shutB hn1
 exact Xj [.agg #[r1, .int .i64 q.vd, .int .i64 (q.vd + 1), .int .i64 q.tx, .int .i64 (q.tx + 1)]] hS6 ⟨_,_,_,rfl,rfl,hS6.loadC hc2 Zx rfl rfl,rfl⟩ (Is.cast ⟨_,rfl,(ZM (HRow.mk q.v (Rect.mk (Span.mk q.vd (q.vd + 1)) (Span.mk q.tx (q.tx + 1)))) (hpost1.mono hle3) hb2 hi1 hb1 hi2)⟩ (by rfl))
end Go.Civ
set_option linter.unusedVariables false
set_option linter.unusedSimpArgs false
set_option maxRecDepth 100000
set_option maxHeartbeats 4000000
namespace Go.Civ
open Go.Proofs
theorem XG {G : GH} {w : World} (hG : G.In w) (t : Table) (at_ tx : Int) (ct : List Value) (hct : TableE.rep G t ct) : CL Tryz.prog (nat_lit 23) #[.agg ct.toArray, .int .i64 at_, .int .i64 tx] [] w G fun G' _ r=>Sl (ValE.slice 32) 24 G' r (Zz t at_ tx):=by
 refine Zg ft [] Tryz.func23 rfl rfl ?_
 have hS:=St.start (X:=[]) hG
 obtain ⟨v1,v2,v3,rfl,hb1,hs1,hb2,hs2,hs3,hb3⟩:=Z0 hct
 refine Zu [Zd t.s.name,v1, .int .i64 t.s.key,v2,v3, .int .i64 t.last] _ hS rfl rfl rfl (fun p1 w1 G1 hle1 hsp1 hc1 hS1=>?_)
 refine Zc hS1 hc1 [Zd t.s.name,v1, .int .i64 t.s.key,v2,v3, .int .i64 t.last] Zp rfl rfl rfl rfl rfl ?_
 refine Zj hS1 QN rfl rfl rfl (XS hS1.imm t _ (Zl t hb1 (hs1.mono hle1) hb2 (hs2.mono hle1) (hs3.mono hle1) hb3)) (fun w2 G2 hS2 hle2=>?_)
 refine WL.split (fun (h1 : (Zm t) = true)=>?_) (fun (h1 : (Zm t) = false)=>?_)
 ·refine Zj hS2 Zlm rfl rfl rfl (ZcI hS2.imm at_) (fun w3 G3 hS3 hle3=>?_)
  refine WL.split (fun (h2 : (ZB at_) = true)=>?_) (fun (h2 : (ZB at_) = false)=>?_)
  ·refine Zj hS3 Zlm rfl rfl rfl (ZcI hS3.imm tx) (fun w4 G4 hS4 hle4=>?_)
   refine WL.split (fun (h3 : (ZB tx) = true)=>?_) (fun (h3 : (ZB tx) = false)=>?_)
   ·obtain ⟨hg9,hn9,h89,_⟩:=ZE (by assumption : Zm t = true)
    have hgl:=@Zbp t.rows
    refine Zb hS4 (Xl.drop 4 (hc1.mono ((hle2.trans hle3).trans hle4))) YW rfl rfl rfl ?_
    refine Z3 hS4 Zln rfl rfl rfl (ZdF hS4.imm t.rows _ (hs3.mono (((hle1.trans hle2).trans hle3).trans hle4)) hg9 (Zjv h89) (Nat.le_trans hn9 (by decide))) (fun w5 G5 r1 hpost1 hS5 hle5=>?_)
    have bd1:=hpost1.bound
    refine Zi hpost1 QP rfl rfl ?_
    have hS7:=hS5.pad
    refine LP.go ft [] (fun m ρ1 w1=>∃ (k1 : Nat),∃ (v4 : Value) (o1 : OB),∃ (G6 : GH),m = (ZT t.rows).length - k1 ∧ G5.le G6 ∧ St w [] G G6 [o1] w1 ∧ ZS (ValE.slice 32) 24 31 G6 v4 (Zb4 ((ZT t.rows).take k1) at_ tx) o1 ∧ FR ρ1 [(1, .int .i64 at_),(2, .int .i64 tx),(7,v4),(25,r1),(26, .int .i64 (((ZT t.rows).length : Nat) : Int)),(27, .int .i64 (k1 : Int))] ∧ k1 ≤ (ZT t.rows).length) _ ⟨0,(.slice none 0 0),none,G5,rfl,(G5.le_refl),hS7,(ZS.cast (ZS.nil (ValE.slice 32) 24 31 G5) (by rfl)),⟨rfl,rfl,rfl,rfl,rfl,rfl,trivial⟩,(by omega)⟩ ?_
    rintro m ρ1 w6 ⟨k1,v4,o1,G6,rfl,hle6,hS6,hr1,hF9,f1⟩
    refine hF9.set ?_
    clear hF9
    have hsl:=ZmR (ZT t.rows) k1 at_ tx
    refine Zq (k1 : Int) (((ZT t.rows).length : Nat) : Int) rfl rfl rfl (fun h4=>?_) (fun h4=>?_)
    ·refine WL.indexAddr (hpost1.mono hle6) k1 (by omega) QP Xm rfl rfl rfl rfl (fun p2 x1 hx1 he1=>?_)
     obtain ⟨cs1,hc2,hr2⟩:=he1
     obtain ⟨v5,v6,rfl,hs4,hs5⟩:=Q9 hr2
     refine Zc hS6 hc2 [v5,v6] Xm rfl rfl rfl rfl rfl ?_
     refine WL.alloc hS6 Xm rfl rfl (fun b1 w7 hn1 hS8=>?_)
     refine WL.store hS8 0 _ _ _ 0 _ [v5,v6] [v5,v6] _ rfl rfl Xm rfl (Nat.le_of_ble_eq_true rfl) (by simp only [List.all_cons,List.all_nil,hs4.oneC,hs5.oneC,Bool.true_and] <;> rfl) rfl rfl rfl rfl rfl (fun w9 hS9=>?_)
     obtain ⟨G7,hle7,hc3,hS10⟩:=hS9.shutB hn1
     have hok9:=ZeX hg9 (Nat.le_trans hn9 (by decide)) (by assumption : (ZT t.rows)[k1]? = some _)
     refine Zb hS10 (Xl.drop 1 hc3) YW rfl rfl rfl ?_
     refine Z3 hS10 Zol rfl rfl rfl (ZfA hS10.imm x1.t tx _ (hs5.mono hle7) hok9.1 hok9.2) (fun w10 G9 r2 hpost2 hS11 hle9=>?_)
     refine Zj hS11 ZiS rfl rfl rfl (Zex hS11.imm (Z1 x1.t tx) at_ _ hpost2 (QC hok9.1 _) (ZoC hok9.1 _) (Nat.le_trans (ZaM _ _) hok9.2)) (fun w11 G10 hS12 hle10=>?_)
     refine WL.split (fun (h5 : (Y0 (Z1 x1.t tx) at_) = true)=>?_) (fun (h5 : (Y0 (Z1 x1.t tx) at_) = false)=>?_)
     ·refine Zb hS12 (Xl.drop 0 (hc3.mono (hle9.trans hle10))) ZG rfl rfl rfl ?_
      refine Z3 hS12 ZcP rfl rfl rfl (XI hS12.imm x1.v _ (hs4.mono ((hle7.trans hle9).trans hle10))) (fun w12 G11 r3 hpost3 hS13 hle11=>?_)
      refine WL.buildSlice _ [(0,[r3])] [r3] hS13 Zrz rfl rfl rfl (by show [(0,(r3 : Value).cells.toList)] = _; simp only [hpost3.cells1] <;> rfl) (fun z hz=>by match z,hz with | [z0],_=>rfl) (fun b2 w13 hn2 hS14=>?_)
      refine WL.push (m:=([x1.v] : List (List Val))) Zrz rfl rfl rfl (hr1.mono (((hle7.trans hle9).trans hle10).trans hle11)) hS14 1 rfl 0 _ _ _ _ _ rfl ⟨[r3],_,rfl,⟨_,rfl,hpost3⟩,rfl⟩ rfl (by have hreach : reach = 140737488355328:=rfl; simp only [List.length_append,List.length_cons,List.length_nil]; omega) (by have hreach : reach = 140737488355328:=rfl; simp only [List.length_append,List.length_cons,List.length_nil]; omega) rfl rfl rfl (fun v7 o2 w14 hr3 hS15=>?_)
      have hS16:=hS15.tail
      refine Zk k1 (by have hreach : reach = 140737488355328:=rfl; omega) rfl rfl rfl ?_
      exact BK.mk' _ ⟨k1 + 1,v7,o2,G11,rfl,(hle6.trans (((hle7.trans hle9).trans hle10).trans hle11)),hS16,(ZS.cast hr3 (by (exact (ZmQ ‹_› ‹_›).symm))),⟨rfl,rfl,rfl,rfl,rfl,rfl,trivial⟩,(by omega)⟩ (show (ZT t.rows).length - (k1 + 1) < (ZT t.rows).length - k1 by omega)
     refine Zk k1 (by have hreach : reach = 140737488355328:=rfl; omega) rfl rfl rfl ?_
     exact BK.mk' _ ⟨k1 + 1,v4,o1,G10,rfl,(hle6.trans ((hle7.trans hle9).trans hle10)),hS12,(ZS.cast (hr1.mono ((hle7.trans hle9).trans hle10)) (by (exact (ZoL ‹_› ‹_›).symm))),⟨rfl,rfl,rfl,rfl,rfl,rfl,trivial⟩,(by omega)⟩ (show (ZT t.rows).length - (k1 + 1) < (ZT t.rows).length - k1 by omega)
    obtain ⟨G12,hle12,hs6,hS17⟩:=ZS.freeze hr1 hS6 0 rfl
    exact RT hS17 rfl (Sl.cast hs6 (by exact Zsh ‹_› ‹_› ‹_› (by omega)))
   exact RT hS4 rfl (Sl.cast (Sl.nil (ValE.slice 32) 24 G4) (by exact Zsg ‹_›))
  exact RT hS3 rfl (Sl.cast (Sl.nil (ValE.slice 32) 24 G3) (by exact Zsf ‹_›))
 exact RT hS2 rfl (Sl.cast (Sl.nil (ValE.slice 32) 24 G2) (by exact Zse ‹_›))
theorem ZpW {G : GH} {w : World} (hG : G.In w) (t : Table) (tx : Int) (ct : List Value) (hct : TableE.rep G t ct) : CL Tryz.prog (nat_lit 57) #[.agg ct.toArray, .int .i64 tx] [] w G fun G' _ r=>Sl Qf 40 G' r (X1 t tx):=by
 refine Zg ft [] Tryz.func57 rfl rfl ?_
 have hS:=St.start (X:=[]) hG
 obtain ⟨v1,v2,v3,rfl,hb1,hs1,hb2,hs2,hs3,hb3⟩:=Z0 hct
 refine Zu [Zd t.s.name,v1, .int .i64 t.s.key,v2,v3, .int .i64 t.last] _ hS rfl rfl rfl (fun p1 w1 G1 hle1 hsp1 hc1 hS1=>?_)
 refine Zc hS1 hc1 [Zd t.s.name,v1, .int .i64 t.s.key,v2,v3, .int .i64 t.last] Zp rfl rfl rfl rfl rfl ?_
 refine Zj hS1 QN rfl rfl rfl (XS hS1.imm t _ (Zl t hb1 (hs1.mono hle1) hb2 (hs2.mono hle1) (hs3.mono hle1) hb3)) (fun w2 G2 hS2 hle2=>?_)
 refine WL.split (fun (h1 : (Zm t) = true)=>?_) (fun (h1 : (Zm t) = false)=>?_)
 ·refine Zj hS2 Zlm rfl rfl rfl (ZcI hS2.imm tx) (fun w3 G3 hS3 hle3=>?_)
  refine WL.split (fun (h2 : (ZB tx) = true)=>?_) (fun (h2 : (ZB tx) = false)=>?_)
  ·obtain ⟨hg9,hn9,h89,_⟩:=ZE (by assumption : Zm t = true)
   have hgl:=@Zbp t.rows
   refine Zb hS3 (Xl.drop 4 (hc1.mono (hle2.trans hle3))) YW rfl rfl rfl ?_
   refine Z3 hS3 Zln rfl rfl rfl (ZdF hS3.imm t.rows _ (hs3.mono ((hle1.trans hle2).trans hle3)) hg9 (Zjv h89) (Nat.le_trans hn9 (by decide))) (fun w4 G4 r1 hpost1 hS4 hle4=>?_)
   have bd1:=hpost1.bound
   refine Zi hpost1 QP rfl rfl ?_
   have hS6:=hS4.pad
   refine LP.go ft [] (fun m ρ1 w1=>∃ (k1 : Nat),∃ (v4 : Value) (o1 : OB),∃ (G5 : GH),m = (ZT t.rows).length - k1 ∧ G4.le G5 ∧ St w [] G G5 [o1] w1 ∧ ZS Qf 40 73 G5 v4 (Zax ((ZT t.rows).take k1) tx) o1 ∧ FR ρ1 [(1, .int .i64 tx),(5,v4),(20,r1),(21, .int .i64 (((ZT t.rows).length : Nat) : Int)),(22, .int .i64 (k1 : Int))] ∧ k1 ≤ (ZT t.rows).length) _ ⟨0,(.slice none 0 0),none,G4,rfl,(G4.le_refl),hS6,(ZS.cast (ZS.nil Qf 40 73 G4) (by rfl)),⟨rfl,rfl,rfl,rfl,rfl,trivial⟩,(by omega)⟩ ?_
   rintro m ρ1 w5 ⟨k1,v4,o1,G5,rfl,hle5,hS5,hr1,hF9,f1⟩
   refine hF9.set ?_
   clear hF9
   have hfl:=Zde (k:=k1) (tx:=tx) hn9
   refine Zq (k1 : Int) (((ZT t.rows).length : Nat) : Int) rfl rfl rfl (fun h3=>?_) (fun h3=>?_)
   ·refine WL.indexAddr (hpost1.mono hle5) k1 (by omega) QP Xm rfl rfl rfl rfl (fun p2 x1 hx1 he1=>?_)
    obtain ⟨cs1,hc2,hr2⟩:=he1
    obtain ⟨v5,v6,rfl,hs4,hs5⟩:=Q9 hr2
    refine Zc hS5 hc2 [v5,v6] Xm rfl rfl rfl rfl rfl ?_
    refine WL.alloc hS5 Xm rfl rfl (fun b1 w6 hn1 hS7=>?_)
    refine WL.store hS7 0 _ _ _ 0 _ [v5,v6] [v5,v6] _ rfl rfl Xm rfl (Nat.le_of_ble_eq_true rfl) (by simp only [List.all_cons,List.all_nil,hs4.oneC,hs5.oneC,Bool.true_and] <;> rfl) rfl rfl rfl rfl rfl (fun w7 hS8=>?_)
    obtain ⟨G6,hle6,hc3,hS9⟩:=hS8.shutB hn1
    have hok9:=ZeX hg9 (Nat.le_trans hn9 (by decide)) (by assumption : (ZT t.rows)[k1]? = some _)
    refine Zb hS9 (Xl.drop 1 hc3) YW rfl rfl rfl ?_
    refine Z3 hS9 Zol rfl rfl rfl (ZfA hS9.imm x1.t tx _ (hs5.mono hle6) hok9.1 hok9.2) (fun w9 G7 r2 hpost2 hS10 hle7=>?_)
    have bd2:=hpost2.bound
    refine Zi hpost2 Yx rfl rfl ?_
    refine LP.go ft [] (fun m ρ1 w1=>∃ (k2 : Nat),∃ (v7 : Value) (o2 : OB),∃ (G9 : GH),m = (Z1 x1.t tx).length - k2 ∧ G7.le G9 ∧ St w [] G G9 [o2] w1 ∧ ZS Qf 40 73 G9 v7 (Zax ((ZT t.rows).take k1) tx ++ ((Z1 x1.t tx).take k2).map (Fact.mk x1.v)) o2 ∧ FR ρ1 [(1, .int .i64 tx),(5,v7),(7, .pointer (some (⟨b1,0,none⟩ : Addr))),(20,r1),(21, .int .i64 (((ZT t.rows).length : Nat) : Int)),(22, .int .i64 (k1 : Int)),(29,r2),(30, .int .i64 (((Z1 x1.t tx).length : Nat) : Int)),(31, .int .i64 (k2 : Int))] ∧ k2 ≤ (Z1 x1.t tx).length) _ ⟨0,v4,o1,G7,rfl,(G7.le_refl),hS10,(ZS.cast (hr1.mono (hle6.trans hle7)) (by simp)),⟨rfl,rfl,rfl,rfl,rfl,rfl,rfl,rfl,rfl,trivial⟩,(by omega)⟩ ?_
    rintro m ρ1 w10 ⟨k2,v7,o2,G9,rfl,hle9,hS11,hr3,hF9,f2⟩
    refine hF9.set ?_
    clear hF9
    have htl:=Nat.le_trans (ZaM x1.t tx) hok9.2
    refine Zq (k2 : Int) (((Z1 x1.t tx).length : Nat) : Int) rfl rfl rfl (fun h4=>?_) (fun h4=>?_)
    ·refine WL.indexAddr (hpost2.mono hle9) k2 (by omega) Yx Zt rfl rfl rfl rfl (fun p3 x2 hx2 he2=>?_)
     obtain ⟨cs2,hc4,hr4⟩:=he2
     obtain ⟨rfl,hb4,hb5⟩:=ZF hr4
     refine Zc hS11 hc4 [.int .i64 x2.a, .int .i64 x2.b] Zt rfl rfl rfl rfl rfl ?_
     refine WL.alloc hS11 Zt rfl rfl (fun b2 w11 hn2 hS12=>?_)
     refine WL.store hS12 0 _ _ _ 0 _ [.int .i64 x2.a, .int .i64 x2.b] [.int .i64 x2.a, .int .i64 x2.b] _ rfl rfl Zt rfl (Nat.le_of_ble_eq_true rfl) rfl rfl rfl rfl rfl rfl (fun w12 hS13=>?_)
     obtain ⟨G10,hle10,hc5,hS14⟩:=hS13.shutB hn2
     refine dr [(3,true),(5,false),(6,false),(7,false),(8,false)] [(37,v5),(39, .agg #[.int .i64 x2.a, .int .i64 x2.b])] hS14 ⟨fun _ hSw=>Zb hSw (Xl.drop 0 (hc3.mono ((hle7.trans hle9).trans hle10))) ZG rfl rfl rfl <| nu rfl rfl,fun _ hSw=>Zc hSw hc5 [.int .i64 x2.a, .int .i64 x2.b] Zt rfl rfl rfl rfl rfl <| nu rfl rfl,trivial⟩ (fun w13 hS15=>?_)
     refine Z3 hS15 ZcP rfl rfl rfl (XI hS15.imm x1.v _ (hs4.mono (((hle6.trans hle7).trans hle9).trans hle10))) (fun w14 G11 r3 hpost3 hS16 hle11=>?_)
     refine ⟨hS16.down hS15.le hle11,?_⟩
     refine WL.build _ [(0,[r3]),(1,[.int .i64 x2.a, .int .i64 x2.b])] [r3, .int .i64 x2.a, .int .i64 x2.b] QY rfl Zrx rfl rfl (by show [(0,(r3 : Value).cells.toList),(1,(.agg #[.int .i64 x2.a, .int .i64 x2.b] : Value).cells.toList)] = _; simp only [hpost3.cells1] <;> rfl) rfl ?_
     refine WL.buildSlice _ [(0,[r3, .int .i64 x2.a, .int .i64 x2.b])] [r3, .int .i64 x2.a, .int .i64 x2.b] hS16 Zle rfl rfl rfl rfl (fun z hz=>by match z,hz with | [z0,z1,z2],_=>rfl) (fun b3 w15 hn3 hS17=>?_)
     refine WL.push (m:=([(Fact.mk x1.v x2)] : List Fact)) Zle rfl rfl rfl (hr3.mono (hle10.trans hle11)) hS17 1 rfl 0 _ _ _ _ _ rfl ⟨[r3, .int .i64 x2.a, .int .i64 x2.b],_,rfl,(ZiB (Fact.mk x1.v x2) hpost3 hb4 hb5),rfl⟩ rfl (by have hreach : reach = 140737488355328:=rfl; simp only [List.length_append,List.length_map,List.length_take,List.length_cons,List.length_nil]; omega) (by have hreach : reach = 140737488355328:=rfl; simp only [List.length_append,List.length_map,List.length_take,List.length_cons,List.length_nil]; omega) rfl rfl rfl (fun v9 o3 w16 hr5 hS18=>?_)
     have hS19:=hS18.tail
     refine Zk k2 (by have hreach : reach = 140737488355328:=rfl; omega) rfl rfl rfl ?_
     exact BK.mk' _ ⟨k2 + 1,v9,o3,G11,rfl,(hle9.trans (hle10.trans hle11)),hS19,(ZS.cast hr5 (by (rw [ZhD ‹_›,List.append_assoc]))),⟨rfl,rfl,rfl,rfl,rfl,rfl,rfl,rfl,rfl,trivial⟩,(by omega)⟩ (show (Z1 x1.t tx).length - (k2 + 1) < (Z1 x1.t tx).length - k2 by omega)
    refine Zk k1 (by have hreach : reach = 140737488355328:=rfl; omega) rfl rfl rfl ?_
    exact BK.mk' _ ⟨k1 + 1,v7,o2,G9,rfl,(hle5.trans ((hle6.trans hle7).trans hle9)),hS11,(ZS.cast hr3 (by (rw [Zkc ‹_›,Zjw (by omega)]))),⟨rfl,rfl,rfl,rfl,rfl,trivial⟩,(by omega)⟩ (show (ZT t.rows).length - (k1 + 1) < (ZT t.rows).length - k1 by omega)
   obtain ⟨G12,hle12,hs6,hS20⟩:=ZS.freeze hr1 hS5 0 rfl
   exact RT hS20 rfl (Sl.cast hs6 (by exact ZtV ‹_› ‹_› (by omega)))
  exact RT hS3 rfl (Sl.cast (Sl.nil Qf 40 G3) (by exact ZtU ‹_›))
 exact RT hS2 rfl (Sl.cast (Sl.nil Qf 40 G2) (by exact ZtT ‹_›))
theorem ZqY {G : GH} {w : World} (hG : G.In w) (v l : List Val) (vl : Value) (hvl : Sl ValE 32 G vl l) (vv : Value) (hvv : Sl ValE 32 G vv v) (pv : Addr) (hpv : Xl G pv [vv]) : CL Tryz.prog (nat_lit 89) #[vl, .pointer (some pv)] [] w G fun _ _ r=>r = .bool (decide (l = v)):=by
 refine Zg ft [] Tryz.func89 rfl rfl ?_
 have hS:=St.start (X:=[]) hG
 refine Zb hS hpv ZG rfl rfl rfl ?_
 refine Zj hS ZaK rfl rfl rfl (XK hS.imm l v _ hvl _ hvv) (fun w1 G1 hS1 hle1=>?_)
 exact RB hS1 rfl (by rfl)
theorem ZjG {G : GH} {w : World} (hG : G.In w) (t : Table) (v : List Val) (at_ tx : Int) (ct : List Value) (hct : TableE.rep G t ct) (vv : Value) (hvv : Sl ValE 32 G vv v) : CL Tryz.prog (nat_lit 26) #[.agg ct.toArray,vv, .int .i64 at_, .int .i64 tx] [] w G fun _ _ r=>r = .bool (Zct t v at_ tx):=by
 refine Zg ft [] Tryz.func26 rfl rfl ?_
 have hS:=St.start (X:=[]) hG
 obtain ⟨v1,v2,v3,rfl,hb1,hs1,hb2,hs2,hs3,hb3⟩:=Z0 hct
 refine Zu [Zd t.s.name,v1, .int .i64 t.s.key,v2,v3, .int .i64 t.last] _ hS rfl rfl rfl (fun p1 w1 G1 hle1 hsp1 hc1 hS1=>?_)
 refine Zu [vv] _ hS1 rfl rfl (hvv.mono hle1).cells1 (fun p2 w2 G2 hle2 hsp2 hc2 hS2=>?_)
 refine Zc hS2 (hc1.mono hle2) [Zd t.s.name,v1, .int .i64 t.s.key,v2,v3, .int .i64 t.last] Zp rfl rfl rfl rfl rfl ?_
 refine Z3 hS2 ZbK rfl rfl rfl (XG hS2.imm t at_ tx _ (Zl t hb1 (hs1.mono (hle1.trans hle2)) hb2 (hs2.mono (hle1.trans hle2)) (hs3.mono (hle1.trans hle2)) hb3)) (fun w3 G3 r1 hpost1 hS3 hle3=>?_)
 refine Zj hS3 ZiR rfl rfl rfl (Zaa hS3.imm (Zz t at_ tx) (fun x8=>decide (x8 = v)) _ hpost1 89 #[.pointer (some p2)] ⟨ZtN,fun G8 w8 v8 x8 hle8 hG8 hon8 hA8=>by exact ZqY hG8 v x8 v8 hA8 vv ((hvv.mono ((hle1.trans hle2).trans hle3)).mono hle8) p2 ((hc2.mono hle3).mono hle8)⟩) (fun w4 G4 hS4 hle4=>?_)
 exact RB hS4 rfl (by rfl)
end Go.Civ
namespace Go.Civ
open Go.RowKit
set_option linter.unusedVariables false
def Qq (t o : Table) (f : Foreign) : Bool:=Zm t && (Zm o && YP t.s o.s f)
abbrev ZbQ (t o : Table) (f : Foreign) : Option Pt:=YK ⟨t,o,f⟩ (-62135596800)
def Z5 (t o : Table) (f : Foreign) : HRow:=if Qq t o f then Yt (ZbQ t o f) else Yt none
def Q2 (t o : Table) (f : Foreign) : Bool:=Qq t o f && (ZbQ t o f).isNone
def ZW (t o : Table) (f : Foreign) (tx : Int) : List Fact:=if Qq t o f && ZB tx then Qp (XY t.s f.cols) o.rows tx (X1 t tx) else []
section
variable {t o : Table} {f : Foreign} {tx fr : Int}
theorem ZaY (h : Zm t = false ∨ Zm o = false ∨ YP t.s o.s f = false) : Qq t o f = false:=by
 unfold Qq; rcases h with h | h | h <;> rw [h] <;> simp
theorem Zbw (h1 : Zm t = true) (h2 : Zm o = true) (h3 : YP t.s o.s f = true) : Qq t o f = true:=by unfold Qq; rw [h1,h2,h3]; rfl
theorem ZdO (h : Qq t o f = false) : HRow.mk [] (Rect.mk (Span.mk 0 0) (Span.mk 0 0)) = Z5 t o f ∧ false = Q2 t o f:=by unfold Z5 Q2; rw [h]; exact ⟨rfl,rfl⟩
theorem ZlT (h : Qq t o f = true) (h2 : (ZbQ t o f).isSome = true) : Yt (some (ZD (ZbQ t o f))) = Z5 t o f ∧ false = Q2 t o f:=by
 unfold Z5 Q2; rw [h]
 cases e : ZbQ t o f with
 | none=>rw [e] at h2; cases h2
 | some p=>exact ⟨rfl,rfl⟩
theorem Zqh (h : Qq t o f = true) (h2 : (ZbQ t o f).isSome = false) : HRow.mk [] (Rect.mk (Span.mk 0 0) (Span.mk 0 0)) = Z5 t o f ∧ true = Q2 t o f:=by
 unfold Z5 Q2; rw [h]
 cases e : ZbQ t o f with
 | none=>exact ⟨rfl,rfl⟩
 | some p=>rw [e] at h2; cases h2
theorem ZnH {x : Link} (hk : LinkOk x) (h : (YK x fr).isSome = true) : ZD (YK x fr) ∈ Yg (lM x) x.o.rows x.t.rows fr ∧ YK x fr = some (ZD (YK x fr)):=by
 unfold YK at h ⊢
 by_cases e : Yg (lM x) x.o.rows x.t.rows fr = []
 ·rw [ZhU e] at h; cases h
 ·rw [ZeG e]
  exact ⟨(Zcb (Zpn (ZE hk.t).1) e).1,rfl⟩
theorem ZfJ {x : Link} (hk : LinkOk x) (hf : -62135596800 ≤ fr) (h : (YK x fr).isSome = true) : ZB (ZD (YK x fr)).tx = true ∧ ZB (ZD (YK x fr)).vd = true:=by
 have hgt:=(ZE hk.t).1
 have hgo:=(ZE hk.o).1
 obtain ⟨⟨⟨r,hr,_,hh⟩,_⟩,h2,_⟩:=ZeF hgo hgt (ZnH hk h).1
 obtain ⟨a1,a2,a3,a4⟩:=QD.1 hh
 have h3:=(ZU (hgt r hr)).2
 unfold ZC at h3
 simp at h3
 unfold ZB
 simp only [Bool.and_eq_true,decide_eq_true_eq]
 omega
theorem ZeI (h : Qq t o f = false ∨ ZB tx = false) : [] = ZW t o f tx:=by
 unfold ZW; rcases h with h | h <;> rw [h] <;> simp
theorem Zsz {k : Nat} (h : Qq t o f = true) (h2 : ZB tx = true) (hk : (X1 t tx).length ≤ k) : Qp (XY t.s f.cols) o.rows tx ((X1 t tx).take k) = ZW t o f tx:=by
 unfold ZW; rw [h,h2,List.take_of_length_le hk]; rfl
theorem ZkG (h : tx < -62135596800 ∨ 253402300800 ≤ tx) : ZB tx = false:=by
 unfold ZB
 rcases h with h | h
 ·rw [decide_eq_false (by omega)]; rfl
 ·rw [decide_eq_false (show ¬ tx < 253402300800 by omega)]; simp
theorem Zpu (h1 : -62135596800 ≤ tx) (h2 : tx < 253402300800) : ZB tx = true:=by unfold ZB; rw [decide_eq_true h1,decide_eq_true h2]; rfl
section
variable {M : List Val → List Val → Bool} {l : List HRow} {fs : List Fact} {k : Nat} {x : Fact}
theorem ZlU (h : fs[k]? = some x) : Qp M l tx (fs.take (k + 1)) = Qp M l tx (fs.take k) ++ (Yk M l x.v x.t tx).map (Fact.mk x.v):=by
 rw [List.take_add_one,h]; simp [Qp]
theorem ZhW {v : List Val} {d : Span} (hl : l.length ≤ 500) : (Yk M l v d tx).length ≤ 5000:=by
 have h1:=Zez (kind:=3) (a:=[d]) (b:=XD (Qw M l v tx))
 have h2:=Zb9 (l:=Qw M l v tx)
 have h3:=ZfI (M:=M) l v tx
 unfold Yk
 simp only [List.length_cons,List.length_nil] at h1
 omega
theorem ZhX (hl : l.length ≤ 500) : ∀ fs : List Fact,(Qp M l tx fs).length ≤ fs.length * 5000
 | []=>by simp [Qp]
 | f :: fs=>by
  have h1:=ZhW (M:=M) (tx:=tx) (v:=f.v) (d:=f.t) hl
  have h2:=ZhX hl fs
  simp only [Qp,List.flatMap_cons,List.length_append,List.length_cons,List.length_map] at *
  rw [Nat.add_mul]; omega
theorem ZdX (hl : l.length ≤ 500) (hf : fs.length ≤ 250000) (k : Nat) : (Qp M l tx (fs.take k)).length ≤ 1250000000:=by
 have h1:=ZhX (M:=M) (tx:=tx) hl (fs.take k)
 have h2:=List.length_take_le' k fs
 exact Nat.le_trans h1 (Nat.le_trans (Nat.mul_le_mul_right 5000 (show (fs.take k).length ≤ 250000 by omega)) (by decide))
end
theorem Zs0 {x : Fact} (hv : Zm t = true) (h : x ∈ X1 t tx) : (∃ r ∈ t.rows,r.v = x.v) ∧ ZC x.t = true:=by
 unfold X1 at h
 split at h
 ·obtain ⟨g,hg,h⟩:=List.mem_flatMap.1 h
  obtain ⟨s,hs,rfl⟩:=List.mem_map.1 h
  have hgood:=Zew (ZE hv).1 g hg
  unfold ZT at hg
  obtain ⟨v,hvm,rfl⟩:=List.mem_map.1 hg
  exact ⟨Qk.1 hvm,Zb3 hgood tx s hs⟩
 ·cases h
end
section
variable {t o : Table} {f : Foreign} {tx fr : Int}
theorem Zkh (h : Qq t o f = true) : Zm t = true ∧ Zm o = true ∧ YP t.s o.s f = true:=by
 unfold Qq at h
 simp only [Bool.and_eq_true] at h
 exact h
end
end Go.Civ
