/- Lemmas. -/
import Derived.Test.YthgeclodflmiaaaGreatN34
import Derived.Test.YthgeclodflmiaaaGreatProg
import Derived.KernelRfl
import Derived.WalkKit
set_option linter.unusedVariables false
set_option linter.unusedSimpArgs false
set_option maxRecDepth 100000
set_option maxHeartbeats 4000000
namespace Go.Civ
open Go.Proofs
theorem ZlB {G : GH} {w : World} (hG : G.In w) (l : List HRow) (at_ tx : Int) (vl : Value) (hvl : Sl HRowE 56 G vl l) (hl : l.length ≤ 2000) : CL Tryz.prog (nat_lit 70) #[vl, .int .i64 at_, .int .i64 tx] [] w G fun G' _ r=>Sl (ValE.slice 32) 24 G' r (Y3 l at_ tx):=by
 refine Zf ft [] Tryz.func70 rfl rfl ?_
 have hS:=St.start (X:=[]) hG
 have hS2:=hS.pad
 refine LP.go ft [] (fun m ρ1 w1=>∃ (k1 : Nat),∃ (v1 : Value) (o1 : OB),∃ (G1 : GH),m = l.length - k1 ∧ G.le G1 ∧ St w [] G G1 [o1] w1 ∧ Yf HRowE 56 37 G1 v1 (QP (l.take k1) at_ tx) o1 ∧ FR ρ1 [(0,vl),(1, .int .i64 at_),(2, .int .i64 tx),(7,v1),(8, .int .i64 (k1 : Int))] ∧ k1 ≤ l.length) _ ⟨0,(.slice none 0 0),none,G,rfl,(G.le_refl),hS2,(Yf.cast (Yf.nil HRowE 56 37 G) (by rfl)),⟨rfl,rfl,rfl,rfl,rfl,trivial⟩,(by omega)⟩ ?_
 rintro m ρ1 w1 ⟨k1,v1,o1,G1,rfl,hle1,hS1,hr1,hF9,f1⟩
 refine hF9.set ?_
 clear hF9
 have hhl:=Zpg l at_ tx k1
 have bd1:=hvl.bound
 refine Zj (hvl.mono hle1) Yl rfl rfl ?_
 refine Zo (k1 : Int) (l.length : Int) rfl rfl rfl (fun h1=>?_) (fun h1=>?_)
 ·refine WL.indexAddr (hvl.mono hle1) k1 (by omega) Yl Zs rfl rfl rfl rfl (fun p1 x1 hx1 he1=>?_)
  obtain ⟨cs1,hc1,hr2⟩:=he1
  obtain ⟨v2,rfl,hs1,hb1,hb2,hb3,hb4⟩:=Z8 hr2
  refine Zd hS1 (XZ.drop 1 hc1) [.int .i64 x1.r.d.a, .int .i64 x1.r.d.b, .int .i64 x1.r.x.a, .int .i64 x1.r.x.b] Qz rfl rfl rfl rfl rfl ?_
  refine WL.alloc hS1 Qz rfl rfl (fun b1 w2 hn1 hS3=>?_)
  refine WL.store hS3 0 _ _ _ 0 _ [.int .i64 x1.r.d.a, .int .i64 x1.r.d.b, .int .i64 x1.r.x.a, .int .i64 x1.r.x.b] [.int .i64 x1.r.d.a, .int .i64 x1.r.d.b, .int .i64 x1.r.x.a, .int .i64 x1.r.x.b] _ rfl rfl Qz rfl (Nat.le_of_ble_eq_true rfl) rfl rfl rfl rfl rfl rfl (fun w3 hS4=>?_)
  obtain ⟨G2,hle2,hc2,hS5⟩:=hS4.shutB hn1
  refine Za hS5 (XZ.drop 0 (XZ.drop 0 hc2)) Zl rfl rfl rfl ?_
  refine Qa x1.r.d.a at_ rfl rfl rfl (fun h2=>?_) (fun h2=>?_)
  ·refine Za hS5 (XZ.drop 1 (XZ.drop 0 hc2)) Zl rfl rfl rfl ?_
   refine Zo at_ x1.r.d.b rfl rfl rfl (fun h3=>?_) (fun h3=>?_)
   ·refine Za hS5 (XZ.drop 0 (XZ.drop 2 hc2)) Zl rfl rfl rfl ?_
    refine Qa x1.r.x.a tx rfl rfl rfl (fun h4=>?_) (fun h4=>?_)
    ·refine Za hS5 (XZ.drop 1 (XZ.drop 2 hc2)) Zl rfl rfl rfl ?_
     refine Zo tx x1.r.x.b rfl rfl rfl (fun h5=>?_) (fun h5=>?_)
     ·refine WL.indexAddr (hvl.mono (hle1.trans hle2)) k1 (by omega) Yl Zs rfl rfl rfl rfl (fun p2 x2 hx2 he2=>?_)
      obtain rfl : x1 = x2:=Option.some.inj (hx1.symm.trans hx2)
      obtain ⟨cs2,hc3,hr3⟩:=he2
      obtain ⟨v3,rfl,hs2,hb5,hb6,hb7,hb8⟩:=Z8 hr3
      refine Zd hS5 hc3 [v3, .int .i64 x1.r.d.a, .int .i64 x1.r.d.b, .int .i64 x1.r.x.a, .int .i64 x1.r.x.b] Zs rfl rfl rfl rfl rfl ?_
      refine WL.buildSlice _ [(0,[v3, .int .i64 x1.r.d.a, .int .i64 x1.r.d.b, .int .i64 x1.r.x.a, .int .i64 x1.r.x.b])] [v3, .int .i64 x1.r.d.a, .int .i64 x1.r.d.b, .int .i64 x1.r.x.a, .int .i64 x1.r.x.b] hS5 ZX rfl rfl rfl rfl (fun z hz=>by match z,hz with | [z0,z1,z2,z3,z4],_=>rfl) (fun b2 w4 hn2 hS6=>?_)
      refine WL.push (m:=([x1] : List HRow)) ZX rfl rfl rfl (hr1.mono hle2) hS6 1 rfl 0 _ _ _ _ _ rfl ⟨[v3, .int .i64 x1.r.d.a, .int .i64 x1.r.d.b, .int .i64 x1.r.x.a, .int .i64 x1.r.x.b],_,rfl,(ZJ x1 hs2 hb5 hb6 hb7 hb8),rfl⟩ rfl (by have hreach : reach = 140737488355328:=rfl; simp only [List.length_append,List.length_map,List.length_cons,List.length_nil]; omega) (by have hreach : reach = 140737488355328:=rfl; simp only [List.length_append,List.length_map,List.length_cons,List.length_nil]; omega) rfl rfl rfl (fun v4 o2 w5 hr4 hS7=>?_)
      have hS8:=hS7.tail
      refine Zk k1 (by have hreach : reach = 140737488355328:=rfl; omega) rfl rfl rfl ?_
      exact BK.mk' _ ⟨k1 + 1,v4,o2,G2,rfl,(hle1.trans hle2),hS8,(Yf.cast hr4 (by (exact (Zpf ‹_› ‹_› ‹_› ‹_› ‹_›).symm))),⟨rfl,rfl,rfl,rfl,rfl,trivial⟩,(by omega)⟩ (show l.length - (k1 + 1) < l.length - k1 by omega)
     refine Zk k1 (by have hreach : reach = 140737488355328:=rfl; omega) rfl rfl rfl ?_
     exact BK.mk' _ ⟨k1 + 1,v1,o1,G2,rfl,(hle1.trans hle2),hS5,(Yf.cast (hr1.mono hle2) (by (exact (ZeE ‹_› (by omega)).symm))),⟨rfl,rfl,rfl,rfl,rfl,trivial⟩,(by omega)⟩ (show l.length - (k1 + 1) < l.length - k1 by omega)
    refine Zk k1 (by have hreach : reach = 140737488355328:=rfl; omega) rfl rfl rfl ?_
    exact BK.mk' _ ⟨k1 + 1,v1,o1,G2,rfl,(hle1.trans hle2),hS5,(Yf.cast (hr1.mono hle2) (by (exact (ZeE ‹_› (by omega)).symm))),⟨rfl,rfl,rfl,rfl,rfl,trivial⟩,(by omega)⟩ (show l.length - (k1 + 1) < l.length - k1 by omega)
   refine Zk k1 (by have hreach : reach = 140737488355328:=rfl; omega) rfl rfl rfl ?_
   exact BK.mk' _ ⟨k1 + 1,v1,o1,G2,rfl,(hle1.trans hle2),hS5,(Yf.cast (hr1.mono hle2) (by (exact (ZeE ‹_› (by omega)).symm))),⟨rfl,rfl,rfl,rfl,rfl,trivial⟩,(by omega)⟩ (show l.length - (k1 + 1) < l.length - k1 by omega)
  refine Zk k1 (by have hreach : reach = 140737488355328:=rfl; omega) rfl rfl rfl ?_
  exact BK.mk' _ ⟨k1 + 1,v1,o1,G2,rfl,(hle1.trans hle2),hS5,(Yf.cast (hr1.mono hle2) (by (exact (ZeE ‹_› (by omega)).symm))),⟨rfl,rfl,rfl,rfl,rfl,trivial⟩,(by omega)⟩ (show l.length - (k1 + 1) < l.length - k1 by omega)
 obtain ⟨G3,hle3,hs3,hS9⟩:=Yf.freeze hr1 hS1 0 rfl
 refine Z6 hS9 ZrU rfl rfl rfl (Zlm hS9.imm (QP (l.take k1) at_ tx) _ hs3 (by omega)) (fun w6 G4 r1 hpost1 hS10 hle4=>?_)
 exact RT hS10 rfl (Sl.cast hpost1 (by rw [List.take_of_length_le (by omega)]; rfl))
theorem ZpI {G : GH} {w : World} (hG : G.In w) (l : List HRow) (tx : Int) (v : List Val) (d : Span) (vl : Value) (hvl : Sl HRowE 56 G vl l) (vv : Value) (hvv : Sl ValE 32 G vv v) (cd : List Value) (hcd : SpanE.rep G d cd) (hl : l.length ≤ 1000) (htx64 : Zv tx) : CL Tryz.prog (nat_lit 84) #[vl, .int .i64 tx,vv, .agg cd.toArray] [] w G fun G' _ r=>Sl HRowE 56 G' r (Zj4 l tx v d):=by
 refine Zf ft [] Tryz.func84 rfl rfl ?_
 have hS:=St.start (X:=[]) hG
 obtain ⟨rfl,hb1,hb2⟩:=Z2 hcd
 refine Z1 [.int .i64 d.a, .int .i64 d.b] _ hS rfl rfl rfl (fun p1 w1 G1 hle1 hsp1 hc1 hS1=>?_)
 refine Zd hS1 hc1 [.int .i64 d.a, .int .i64 d.b] Zm rfl rfl rfl rfl rfl <| WL.build _ [(0,[.int .i64 tx]),(1,[.int .i64 253402300800])] [.int .i64 tx, .int .i64 253402300800] Zm rfl Xg rfl rfl rfl rfl <| WL.build _ [(0,[.int .i64 d.a, .int .i64 d.b]),(1,[.int .i64 tx, .int .i64 253402300800])] [.int .i64 d.a, .int .i64 d.b, .int .i64 tx, .int .i64 253402300800] Qz rfl QY rfl rfl rfl rfl ?_
 refine WL.build _ [(0,[vv]),(1,[.int .i64 d.a, .int .i64 d.b, .int .i64 tx, .int .i64 253402300800])] [vv, .int .i64 d.a, .int .i64 d.b, .int .i64 tx, .int .i64 253402300800] Zs rfl Qq rfl rfl (by show [(0,(vv : Value).cells.toList),(1,(.agg #[.int .i64 d.a, .int .i64 d.b, .int .i64 tx, .int .i64 253402300800] : Value).cells.toList)] = _; simp only [(hvv.mono hle1).cells1] <;> rfl) rfl ?_
 refine WL.alloc hS1 Zs rfl rfl (fun b1 w2 hn1 hS2=>?_)
 refine WL.store hS2 0 _ _ _ 0 _ [vv, .int .i64 d.a, .int .i64 d.b, .int .i64 tx, .int .i64 253402300800] [vv, .int .i64 d.a, .int .i64 d.b, .int .i64 tx, .int .i64 253402300800] _ rfl rfl Zs rfl (Nat.le_of_ble_eq_true rfl) (by simp only [List.all_cons,List.all_nil,(hvv.mono hle1).oneC,Bool.true_and] <;> rfl) rfl rfl rfl rfl rfl (fun w3 hS3=>?_)
 obtain ⟨G2,hle2,hc2,hS4⟩:=hS3.shutB hn1
 refine drT [0,2,4,5,6,7] [(19, .agg #[vv, .int .i64 d.a, .int .i64 d.b, .int .i64 tx, .int .i64 253402300800])] hS4 ⟨fun _ hSw=>Zd hSw hc2 [vv, .int .i64 d.a, .int .i64 d.b, .int .i64 tx, .int .i64 253402300800] Zs rfl rfl rfl rfl rfl <| nu rfl rfl,trivial⟩ (fun w4 hS5=>?_)
 refine TG.fork 5 [0,2,4,5,6,7] [0,4] rfl rfl (by decide) (by decide) (TA.cons rfl ?_ (TA.cons rfl ?_ TA.nil))
 ·refine WL.buildSlice _ [] [] hS5 ZX rfl rfl rfl rfl (fun z hz=>by match z,hz with | [],_=>rfl) (fun b2 w5 hn2 hS6=>?_)
  refine ⟨fun _=>hS6.tail.down hS5.le (G2.le_refl),?_⟩
  refine TG.fork 4 [2,4,5,6,7] [2,4] rfl rfl (by decide) (by decide) (TA.cons rfl ?_ (TA.cons rfl ?_ TA.nil))
  ·have hr1:=Yf.empty HRowE 56 37 G2 b2
   refine ZU ZX rfl rfl rfl hr1 hS6 0 rfl (hvl.mono (hle1.trans hle2)) (by have hreach : reach = 140737488355328:=rfl; simp only [List.length_append,List.length_map,List.length_cons,List.length_nil]; omega) (by have hreach : reach = 140737488355328:=rfl; simp only [List.length_append,List.length_map,List.length_cons,List.length_nil]; omega) rfl rfl rfl (fun v1 o1 w6 hr2 hS7=>?_)
   refine ⟨fun _=>hS7.tail.down hS5.le (G2.le_refl),?_⟩
   refine TG.fork 3 [4,5,6,7] [4] rfl rfl (by decide) (by decide) (TA.cons rfl ?_ TA.nil)
   refine WL.buildSlice _ [(0,[vv, .int .i64 d.a, .int .i64 d.b, .int .i64 tx, .int .i64 253402300800])] [vv, .int .i64 d.a, .int .i64 d.b, .int .i64 tx, .int .i64 253402300800] hS7 ZX rfl rfl rfl rfl (fun z hz=>by match z,hz with | [z0,z1,z2,z3,z4],_=>rfl) (fun b3 w7 hn3 hS8=>?_)
   refine ⟨fun h=>absurd h (by decide),?_⟩
   refine TG.fork 2 [5,6,7] [5] rfl rfl (by decide) (by decide) (TA.cons rfl ?_ TA.nil)
   refine WL.push (m:=([(HRow.mk v (Rect.mk d (Span.mk tx 253402300800)))] : List HRow)) ZX rfl rfl rfl hr2 hS8 1 rfl 0 _ _ _ _ _ rfl ⟨[vv, .int .i64 d.a, .int .i64 d.b, .int .i64 tx, .int .i64 253402300800],_,rfl,(ZJ (HRow.mk v (Rect.mk d (Span.mk tx 253402300800))) (hvv.mono (hle1.trans hle2)) hb1 hb2 htx64 (show Zv 253402300800 from by constructor <;> decide)),rfl⟩ rfl (by have hreach : reach = 140737488355328:=rfl; simp only [List.length_append,List.length_map,List.length_cons,List.length_nil]; omega) (by have hreach : reach = 140737488355328:=rfl; simp only [List.length_append,List.length_map,List.length_cons,List.length_nil]; omega) rfl rfl rfl (fun v2 o2 w9 hr3 hS9=>?_)
   have hS10:=hS9.tail
   refine ⟨fun h=>absurd h (by decide),?_⟩
   refine TG.fork 1 [6,7] [6] rfl rfl (by decide) (by decide) (TA.cons rfl ?_ TA.nil)
   obtain ⟨G3,hle3,hs1,hS11⟩:=Yf.freeze hr3 hS10 0 rfl
   refine Z6 hS11 Zjw rfl rfl rfl (ZdC hS11.imm (([] ++ l) ++ [(HRow.mk v (Rect.mk d (Span.mk tx 253402300800)))]) _ hs1 (by simp only [List.length_append,List.length_cons,List.length_nil]; omega)) (fun w10 G4 r1 hpost1 hS12 hle4=>?_)
   refine ⟨fun h=>absurd h (by decide),?_⟩
   refine TG.quiet 0 [7] 7 rfl rfl rfl rfl rfl (by decide) (fun w9 K9 k9=>WL.assign rfl k9) ?_
   refine TG.fin rfl ?_
   exact RT hS12 rfl (Sl.cast hpost1 (by rfl))
  refine WL.buildSlice _ [(0,[vv, .int .i64 d.a, .int .i64 d.b, .int .i64 tx, .int .i64 253402300800])] [vv, .int .i64 d.a, .int .i64 d.b, .int .i64 tx, .int .i64 253402300800] hS6 ZX rfl rfl rfl rfl (fun z hz=>by match z,hz with | [z0,z1,z2,z3,z4],_=>rfl) (fun b4 w11 hn4 hS13=>?_)
  refine ⟨fun h=>absurd h (by decide),?_⟩
  refine TG.fork 3 [2,5,6,7] [2] rfl rfl (by decide) (by decide) (TA.cons rfl ?_ TA.nil)
  have hr4:=Yf.empty HRowE 56 37 G2 b2
  refine ZU ZX rfl rfl rfl hr4 hS13 1 rfl (hvl.mono (hle1.trans hle2)) (by have hreach : reach = 140737488355328:=rfl; simp only [List.length_append,List.length_map,List.length_cons,List.length_nil]; omega) (by have hreach : reach = 140737488355328:=rfl; simp only [List.length_append,List.length_map,List.length_cons,List.length_nil]; omega) rfl rfl rfl (fun v3 o3 w12 hr5 hS14=>?_)
  refine ⟨fun _=>hS14.tail.tail.down hS5.le (G2.le_refl),?_⟩
  refine TG.fork 2 [5,6,7] [5] rfl rfl (by decide) (by decide) (TA.cons rfl ?_ TA.nil)
  refine WL.push (m:=([(HRow.mk v (Rect.mk d (Span.mk tx 253402300800)))] : List HRow)) ZX rfl rfl rfl hr5 hS14 1 rfl 0 _ _ _ _ _ rfl ⟨[vv, .int .i64 d.a, .int .i64 d.b, .int .i64 tx, .int .i64 253402300800],_,rfl,(ZJ (HRow.mk v (Rect.mk d (Span.mk tx 253402300800))) (hvv.mono (hle1.trans hle2)) hb1 hb2 htx64 (show Zv 253402300800 from by constructor <;> decide)),rfl⟩ rfl (by have hreach : reach = 140737488355328:=rfl; simp only [List.length_append,List.length_map,List.length_cons,List.length_nil]; omega) (by have hreach : reach = 140737488355328:=rfl; simp only [List.length_append,List.length_map,List.length_cons,List.length_nil]; omega) rfl rfl rfl (fun v4 o4 w13 hr6 hS15=>?_)
  have hS16:=hS15.tail
  refine ⟨fun h=>absurd h (by decide),?_⟩
  refine TG.fork 1 [6,7] [6] rfl rfl (by decide) (by decide) (TA.cons rfl ?_ TA.nil)
  obtain ⟨G5,hle5,hs2,hS17⟩:=Yf.freeze hr6 hS16 0 rfl
  refine Z6 hS17 Zjw rfl rfl rfl (ZdC hS17.imm (([] ++ l) ++ [(HRow.mk v (Rect.mk d (Span.mk tx 253402300800)))]) _ hs2 (by simp only [List.length_append,List.length_cons,List.length_nil]; omega)) (fun w14 G6 r2 hpost2 hS18 hle6=>?_)
  refine ⟨fun h=>absurd h (by decide),?_⟩
  refine TG.quiet 0 [7] 7 rfl rfl rfl rfl rfl (by decide) (fun w9 K9 k9=>WL.assign rfl k9) ?_
  refine TG.fin rfl ?_
  exact RT hS18 rfl (Sl.cast hpost2 (by rfl))
 refine WL.buildSlice _ [(0,[vv, .int .i64 d.a, .int .i64 d.b, .int .i64 tx, .int .i64 253402300800])] [vv, .int .i64 d.a, .int .i64 d.b, .int .i64 tx, .int .i64 253402300800] hS5 ZX rfl rfl rfl rfl (fun z hz=>by match z,hz with | [z0,z1,z2,z3,z4],_=>rfl) (fun b5 w15 hn5 hS19=>?_)
 refine ⟨fun h=>absurd h (by decide),?_⟩
 refine TG.fork 4 [0,2,5,6,7] [0] rfl rfl (by decide) (by decide) (TA.cons rfl ?_ TA.nil)
 refine WL.buildSlice _ [] [] hS19 ZX rfl rfl rfl rfl (fun z hz=>by match z,hz with | [],_=>rfl) (fun b6 w16 hn6 hS20=>?_)
 refine ⟨fun _=>hS20.tail.tail.down hS5.le (G2.le_refl),?_⟩
 refine TG.fork 3 [2,5,6,7] [2] rfl rfl (by decide) (by decide) (TA.cons rfl ?_ TA.nil)
 have hr7:=Yf.empty HRowE 56 37 G2 b6
 refine ZU ZX rfl rfl rfl hr7 hS20 0 rfl (hvl.mono (hle1.trans hle2)) (by have hreach : reach = 140737488355328:=rfl; simp only [List.length_append,List.length_map,List.length_cons,List.length_nil]; omega) (by have hreach : reach = 140737488355328:=rfl; simp only [List.length_append,List.length_map,List.length_cons,List.length_nil]; omega) rfl rfl rfl (fun v5 o5 w17 hr8 hS21=>?_)
 refine ⟨fun _=>hS21.tail.tail.down hS5.le (G2.le_refl),?_⟩
 refine TG.fork 2 [5,6,7] [5] rfl rfl (by decide) (by decide) (TA.cons rfl ?_ TA.nil)
 refine WL.push (m:=([(HRow.mk v (Rect.mk d (Span.mk tx 253402300800)))] : List HRow)) ZX rfl rfl rfl hr8 hS21 0 rfl 1 _ _ _ _ _ rfl ⟨[vv, .int .i64 d.a, .int .i64 d.b, .int .i64 tx, .int .i64 253402300800],_,rfl,(ZJ (HRow.mk v (Rect.mk d (Span.mk tx 253402300800))) (hvv.mono (hle1.trans hle2)) hb1 hb2 htx64 (show Zv 253402300800 from by constructor <;> decide)),rfl⟩ rfl (by have hreach : reach = 140737488355328:=rfl; simp only [List.length_append,List.length_map,List.length_cons,List.length_nil]; omega) (by have hreach : reach = 140737488355328:=rfl; simp only [List.length_append,List.length_map,List.length_cons,List.length_nil]; omega) rfl rfl rfl (fun v6 o6 w18 hr9 hS22=>?_)
 refine ⟨fun h=>absurd h (by decide),?_⟩
 refine TG.fork 1 [6,7] [6] rfl rfl (by decide) (by decide) (TA.cons rfl ?_ TA.nil)
 obtain ⟨G7,hle7,hs3,hS23⟩:=Yf.freeze hr9 hS22 0 rfl
 refine Z6 hS23 Zjw rfl rfl rfl (ZdC hS23.imm (([] ++ l) ++ [(HRow.mk v (Rect.mk d (Span.mk tx 253402300800)))]) _ hs3 (by simp only [List.length_append,List.length_cons,List.length_nil]; omega)) (fun w19 G9 r3 hpost3 hS24 hle9=>?_)
 refine ⟨fun h=>absurd h (by decide),?_⟩
 refine TG.quiet 0 [7] 7 rfl rfl rfl rfl rfl (by decide) (fun w9 K9 k9=>WL.assign rfl k9) ?_
 refine TG.fin rfl ?_
 exact RT hS24 rfl (Sl.cast hpost3 (by rfl))
theorem ZrC {G : GH} {w : World} (hG : G.In w) (d : Nat) (c : Cond) (s : Schema) (v : List Val) (cc : List Value) (hcc : (YT d).rep G c cc) (cs : List Value) (hcs : SchemaE.rep G s cs) (vv : Value) (hvv : Sl ValE 32 G vv v) : CL Tryz.prog (nat_lit 134) #[.agg cc.toArray, .agg cs.toArray,vv] [] w G fun _ _ r=>r = .bool (X7 d c (s.cols.map Col.name) v):=by
 refine Zf ft [] Tryz.func134 rfl rfl ?_
 have hS:=St.start (X:=[]) hG
 obtain ⟨lv1,rfl,hb1,hb2,hb3,hb4,hb5,hb6,ho1⟩:=Xs hcc
 obtain ⟨v1,v2,rfl,hb7,hs1,hb8,hs2⟩:=XJ hcs
 refine Z1 [.int .i64 c.kind,Zb c.col,Zb c.oth, .int .i64 c.v.k, .int .i64 c.v.n,Zb c.v.s,lv1] _ hS rfl rfl rfl (fun p1 w1 G1 hle1 hsp1 hc1 hS1=>?_)
 refine Z1 [Zb s.name,v1, .int .i64 s.key,v2] _ hS1 rfl rfl rfl (fun p2 w2 G2 hle2 hsp2 hc2 hS2=>?_)
 have hS4:=hS2.pad
 refine LP.go ft [] (fun m ρ1 w1=>∃ (k1 : Nat),∃ (v3 : Value) (o1 : OB),∃ (G3 : GH),m = s.cols.length - k1 ∧ G2.le G3 ∧ St w [] G G3 [o1] w1 ∧ Yf Enc.str 16 9 G3 v3 ((s.cols.take k1).map Col.name) o1 ∧ FR ρ1 [(2,vv),(3, .pointer (some p1)),(4, .pointer (some p2)),(7,v3),(8, .int .i64 (k1 : Int))] ∧ k1 ≤ s.cols.length) _ ⟨0,(.slice none 0 0),none,G2,rfl,(G2.le_refl),hS4,(Yf.cast (Yf.nil Enc.str 16 9 G2) (by simp)),⟨rfl,rfl,rfl,rfl,rfl,trivial⟩,(by omega)⟩ ?_
 rintro m ρ1 w3 ⟨k1,v3,o1,G3,rfl,hle3,hS3,hr1,hF9,f1⟩
 refine hF9.set ?_
 clear hF9
 have htk:=List.length_take_le k1 s.cols
 refine Za hS3 (XZ.drop 1 (hc2.mono hle3)) Zer rfl rfl rfl ?_
 have bd1:=hs1.bound
 refine Zj (hs1.mono ((hle1.trans hle2).trans hle3)) QG rfl rfl ?_
 refine Zo (k1 : Int) (s.cols.length : Int) rfl rfl rfl (fun h1=>?_) (fun h1=>?_)
 ·refine Za hS3 (XZ.drop 1 (hc2.mono hle3)) Zer rfl rfl rfl ?_
  refine WL.indexAddr (hs1.mono ((hle1.trans hle2).trans hle3)) k1 (by omega) QG X0 rfl rfl rfl rfl (fun p3 x1 hx1 he1=>?_)
  obtain ⟨cs1,hc3,hr2⟩:=he1
  obtain ⟨rfl,hb9,hb10⟩:=XA hr2
  refine Za hS3 (XZ.drop 0 hc3) Yk rfl rfl rfl ?_
  refine WL.buildSlice _ [(0,[Zb x1.name])] [Zb x1.name] hS3 ZmM rfl rfl rfl rfl (fun z hz=>by match z,hz with | [z0],_=>rfl) (fun b1 w4 hn1 hS5=>?_)
  refine WL.push (m:=([x1.name] : List (List UInt8))) ZmM rfl rfl rfl hr1 hS5 1 rfl 0 _ _ _ _ _ rfl ⟨[Zb x1.name],_,rfl,⟨rfl,hb9⟩,rfl⟩ rfl (by have hreach : reach = 140737488355328:=rfl; have hby:=(by assumption : Sl ColE 24 G _ s.cols).bytes; simp only [List.length_append,List.length_cons,List.length_nil,List.length_map]; omega) (by have hreach : reach = 140737488355328:=rfl; have hby:=(by assumption : Sl ColE 24 G _ s.cols).bytes; simp only [List.length_append,List.length_cons,List.length_nil,List.length_map]; omega) rfl rfl rfl (fun v4 o2 w5 hr3 hS6=>?_)
  have hS7:=hS6.tail
  refine Zk k1 (by have hreach : reach = 140737488355328:=rfl; omega) rfl rfl rfl ?_
  exact BK.mk' _ ⟨k1 + 1,v4,o2,G3,rfl,hle3,hS7,(Yf.cast hr3 (by (rw [Q9 ‹_›]))),⟨rfl,rfl,rfl,rfl,rfl,trivial⟩,(by omega)⟩ (show s.cols.length - (k1 + 1) < s.cols.length - k1 by omega)
 refine Zd hS3 (hc1.mono (hle2.trans hle3)) [.int .i64 c.kind,Zb c.col,Zb c.oth, .int .i64 c.v.k, .int .i64 c.v.n,Zb c.v.s,lv1] X6 rfl rfl rfl rfl rfl ?_
 obtain ⟨G4,hle4,hs3,hS8⟩:=Yf.freeze hr1 hS3 0 rfl
 refine Z6 hS8 Zv6 rfl rfl rfl (Zrz hS8.imm _ c ((s.cols.take k1).map Col.name) v _ ((YT _).mono (((hle1.trans hle2).trans hle3).trans hle4) hcc) _ hs3 _ (hvv.mono (((hle1.trans hle2).trans hle3).trans hle4))) ?_
 rintro w6 G5 _ ⟨_,_,rfl,rfl,rfl⟩ hS9 hle5
 exact RB hS9 rfl (by rw [List.take_of_length_le (by omega)])
theorem ZdD {G : GH} {w : World} (hG : G.In w) (v set : List Val) (mask : List Bool) (vv : Value) (hvv : Sl ValE 32 G vv v) (vs : Value) (hvs : Sl ValE 32 G vs set) (vm : Value) (hvm : Sl Enc.bool 1 G vm mask) (hm : mask.length = v.length) (hs : set.length = v.length) : CL Tryz.prog (nat_lit 135) #[vv,vs,vm] [] w G fun G' _ r=>Sl ValE 32 G' r (Xi v set mask):=by
 refine Zf ft [] Tryz.func135 rfl rfl ?_
 have hS:=St.start (X:=[]) hG
 have hS2:=hS.pad
 refine LP.go ft [] (fun m ρ1 w1=>∃ (k1 : Nat),∃ (v1 : Value) (o1 : OB),∃ (G1 : GH),m = v.length - k1 ∧ G.le G1 ∧ St w [] G G1 [o1] w1 ∧ Yf ValE 32 58 G1 v1 (Xi (v.take k1) set mask) o1 ∧ FR ρ1 [(0,vv),(1,vs),(2,vm),(7,v1),(8, .int .i64 (k1 : Int))] ∧ k1 ≤ v.length) _ ⟨0,(.slice none 0 0),none,G,rfl,(G.le_refl),hS2,(Yf.cast (Yf.nil ValE 32 58 G) (by exact (Znx _ _).symm)),⟨rfl,rfl,rfl,rfl,rfl,trivial⟩,(by omega)⟩ ?_
 rintro m ρ1 w1 ⟨k1,v1,o1,G1,rfl,hle1,hS1,hr1,hF9,f1⟩
 refine hF9.set ?_
 clear hF9
 have hml:=Zjq v set mask k1
 have hmk : (Xi (v.take k1) set mask).length ≤ k1:=by rw [Zfu]; exact List.length_take_le _ _
 have bd1:=hvv.bound
 refine Zj (hvv.mono hle1) Yj rfl rfl ?_
 refine Zo (k1 : Int) (v.length : Int) rfl rfl rfl (fun h1=>?_) (fun h1=>?_)
 ·refine WL.indexAddr (hvm.mono hle1) k1 (by omega) Zwl ti4 rfl rfl rfl rfl (fun p1 x1 hx1 he1=>?_)
  obtain ⟨cs1,hc1,hr2⟩:=he1
  obtain rfl:=hr2
  refine Za hS1 hc1 ti4 rfl rfl rfl ?_
  refine XG (d:=18) rfl (fun (h2 : x1 = true)=>?_) (fun (h2 : x1 = false)=>?_)
  ·refine WL.indexAddr (hvs.mono hle1) k1 (by omega) Yj ZG rfl rfl rfl rfl (fun p2 x2 hx2 he2=>?_)
   obtain ⟨cs2,hc2,hr3⟩:=he2
   obtain ⟨rfl,hb1,hb2,hb3⟩:=Ya hr3
   refine Zd hS1 hc2 [.int .i64 x2.k, .int .i64 x2.n,Zb x2.s] ZG rfl rfl rfl rfl rfl ?_
   refine WL.buildSlice _ [(0,[.int .i64 x2.k, .int .i64 x2.n,Zb x2.s])] [.int .i64 x2.k, .int .i64 x2.n,Zb x2.s] hS1 Zgt rfl rfl rfl rfl (fun z hz=>by match z,hz with | [z0,z1,z2],_=>rfl) (fun b1 w2 hn1 hS3=>?_)
   refine WL.push (m:=([x2] : List Val)) Zgt rfl rfl rfl hr1 hS3 1 rfl 0 _ _ _ _ _ rfl ⟨[.int .i64 x2.k, .int .i64 x2.n,Zb x2.s],_,rfl,(YK x2 hb1 hb2 hb3),rfl⟩ rfl (by have hreach : reach = 140737488355328:=rfl; have hby:=(by assumption : Sl ValE 32 G _ v).bytes; simp only [List.length_append,List.length_cons,List.length_nil,List.length_map]; omega) (by have hreach : reach = 140737488355328:=rfl; have hby:=(by assumption : Sl ValE 32 G _ v).bytes; simp only [List.length_append,List.length_cons,List.length_nil,List.length_map]; omega) rfl rfl rfl (fun v2 o2 w3 hr4 hS4=>?_)
   have hS5:=hS4.tail
   refine Zk k1 (by have hreach : reach = 140737488355328:=rfl; omega) rfl rfl rfl ?_
   exact BK.mk' _ ⟨k1 + 1,v2,o2,G1,rfl,hle1,hS5,(Yf.cast hr4 (by (exact (Ztm (by omega) ‹_› ‹_› ‹_›).symm))),⟨rfl,rfl,rfl,rfl,rfl,trivial⟩,(by omega)⟩ (show v.length - (k1 + 1) < v.length - k1 by omega)
  refine WL.indexAddr (hvv.mono hle1) k1 (by omega) Yj ZG rfl rfl rfl rfl (fun p3 x3 hx3 he3=>?_)
  obtain ⟨cs3,hc3,hr5⟩:=he3
  obtain ⟨rfl,hb4,hb5,hb6⟩:=Ya hr5
  refine Zd hS1 hc3 [.int .i64 x3.k, .int .i64 x3.n,Zb x3.s] ZG rfl rfl rfl rfl rfl ?_
  refine WL.buildSlice _ [(0,[.int .i64 x3.k, .int .i64 x3.n,Zb x3.s])] [.int .i64 x3.k, .int .i64 x3.n,Zb x3.s] hS1 Zgt rfl rfl rfl rfl (fun z hz=>by match z,hz with | [z0,z1,z2],_=>rfl) (fun b2 w4 hn2 hS6=>?_)
  refine WL.push (m:=([x3] : List Val)) Zgt rfl rfl rfl hr1 hS6 1 rfl 0 _ _ _ _ _ rfl ⟨[.int .i64 x3.k, .int .i64 x3.n,Zb x3.s],_,rfl,(YK x3 hb4 hb5 hb6),rfl⟩ rfl (by have hreach : reach = 140737488355328:=rfl; have hby:=(by assumption : Sl ValE 32 G _ v).bytes; simp only [List.length_append,List.length_cons,List.length_nil,List.length_map]; omega) (by have hreach : reach = 140737488355328:=rfl; have hby:=(by assumption : Sl ValE 32 G _ v).bytes; simp only [List.length_append,List.length_cons,List.length_nil,List.length_map]; omega) rfl rfl rfl (fun v3 o3 w5 hr6 hS7=>?_)
  have hS8:=hS7.tail
  refine Zk k1 (by have hreach : reach = 140737488355328:=rfl; omega) rfl rfl rfl ?_
  exact BK.mk' _ ⟨k1 + 1,v3,o3,G1,rfl,hle1,hS8,(Yf.cast hr6 (by (exact (Ztn (by omega) ‹_› ‹_› ‹_›).symm))),⟨rfl,rfl,rfl,rfl,rfl,trivial⟩,(by omega)⟩ (show v.length - (k1 + 1) < v.length - k1 by omega)
 obtain ⟨G2,hle2,hs1,hS9⟩:=Yf.freeze hr1 hS1 0 rfl
 exact RT hS9 rfl (Sl.cast hs1 (by rw [List.take_of_length_le (by omega)]))
theorem drC {N id : Nat} {Q : Exit → Env → World → Prop} {ρ : Env} {w : World} {ops : List Oper} {C : World → Prop} (hD : ∀ w,C w → C { w with drawn:=w.drawn + 1 }) (T : List (Nat × Bool)) (hv : List (Nat × Value)) (hS : C w) (ho : Zcr Tryz.prog ops C (T.map (·.1)) hv (Xd ft ops (T.map (·.1)) hv 0 ops ρ) 0 ops)
  (hT : ∀ w,C w → goT ft ops C Q T (Xd ft ops (T.map (·.1)) hv 0 ops ρ) w) (hN : ops.all (Zbl N) = true:=by kernel_rfl) (hp : ZgL ops (Qg ops (T.map (·.1))) = true:=by kernel_rfl)
  (hn : T.map (fun x=>Qj (Qg ops (T.map (·.1))) x.1) = T.map (·.2):=by kernel_rfl) (ha : Zbf ft ops (T.map (·.1)) hv (Xd ft ops (T.map (·.1)) hv 0 ops ρ) 0 ops = Zbg (T.map (·.1)) hv (Xd ft ops (T.map (·.1)) hv 0 ops ρ) 0 ops:=by exact rfl) : DR Tryz.prog N id ops.toArray Q ρ w:=
 DR.go _ T hv mixed hN hp hn ha (hD _ hS) ho hT
theorem ZtA {G : GH} {w : World} (hG : G.In w) (a b : Span) (ca : List Value) (hca : SpanE.rep G a ca) (cb : List Value) (hcb : SpanE.rep G b cb) : CL Tryz.prog (nat_lit 133) #[.agg ca.toArray, .agg cb.toArray] [] w G fun G' _ r=>∃ r0 r1,r = .tuple #[r0,r1] ∧ Is SpanE G' r0 (Span.mk (max a.a b.a) (min a.b b.b)) ∧ r1 = .bool (decide (max a.a b.a < min a.b b.b)):=by
 refine YY ft [] Tryz.func133 rfl rfl ?_
 have hS:=St.start (X:=[]) hG
 obtain ⟨rfl,hb1,hb2⟩:=Z2 hca
 obtain ⟨rfl,hb3,hb4⟩:=Z2 hcb
 refine Z1 [.int .i64 a.a, .int .i64 a.b] _ hS rfl rfl rfl (fun p1 w1 G1 hle1 hsp1 hc1 hS1=>?_)
 refine Z1 [.int .i64 b.a, .int .i64 b.b] _ hS1 rfl rfl rfl (fun p2 w2 G2 hle2 hsp2 hc2 hS2=>?_)
 refine WL.alloc hS2 Zm rfl rfl (fun b1 w3 hn1 hS3=>?_)
 refine Zd hS3 (hc1.mono hle2) [.int .i64 a.a, .int .i64 a.b] Zm rfl rfl rfl rfl rfl ?_
 refine WL.alloc hS3 Zm rfl rfl (fun b2 w4 hn2 hS4=>?_)
 refine WL.store hS4 0 _ _ _ 0 _ [.int .i64 a.a, .int .i64 a.b] [.int .i64 a.a, .int .i64 a.b] _ rfl rfl Zm rfl (Nat.le_of_ble_eq_true rfl) rfl rfl rfl rfl rfl rfl (fun w5 hS5=>?_)
 refine Za hS5 (XZ.drop 0 hc2) Zl rfl rfl rfl <| ZM hS5 0 _ _ _ 0 _ rfl rfl Zl rfl rfl rfl ?_
 refine YL b.a a.a rfl rfl rfl (fun h1=>?_) (fun h1=>?_)
 ·refine Za hS5 (XZ.drop 0 hc2) Zl rfl rfl rfl ?_
  refine WL.store hS5 0 _ _ _ 0 _ [.int .i64 b.a] [.int .i64 b.a, .int .i64 a.b] _ rfl rfl Zl rfl (Nat.le_of_ble_eq_true rfl) rfl rfl rfl rfl rfl rfl (fun w6 hS6=>?_)
  refine Za hS6 (XZ.drop 1 hc2) Zl rfl rfl rfl <| ZM hS6 0 _ _ _ 1 _ rfl rfl Zl rfl rfl rfl ?_
  refine Zo b.b a.b rfl rfl rfl (fun h2=>?_) (fun h2=>?_)
  ·refine Za hS6 (XZ.drop 1 hc2) Zl rfl rfl rfl ?_
   refine WL.store hS6 0 _ _ _ 1 _ [.int .i64 b.b] [.int .i64 b.a, .int .i64 b.b] _ rfl rfl Zl rfl (Nat.le_of_ble_eq_true rfl) rfl rfl rfl rfl rfl rfl (fun w7 hS7=>?_)
   refine drC (C:=fun w9=>∃ c1 c2,St w [] G G2 [some (b2,(nat_lit 33),[.int .i64 b.a, .int .i64 b.b]),some (b1,(nat_lit 33),[c1,c2])] w9) (fun _ h9=>by obtain ⟨c1,c2,h9⟩:=h9; exact ⟨c1,c2,h9.draw⟩) [(6,true),(7,false)] [(24, .agg #[.int .i64 b.a, .int .i64 b.b]),(26, .int .i64 b.a),(28, .int .i64 b.b),(29, .bool (Cmp.b .lss b.a b.b))] ⟨_,_,hS7⟩ ⟨fun _ h9=>by obtain ⟨_,_,hSw⟩:=h9; exact ZZ hSw 0 _ _ _ 0 [.int .i64 b.a, .int .i64 b.b] rfl rfl rfl Zm rfl rfl rfl <| nu rfl rfl,fun _ h9=>by obtain ⟨_,_,hSw⟩:=h9; exact ZM hSw 0 _ _ _ 0 _ rfl rfl Zl rfl rfl rfl <| nu rfl rfl,fun _ h9=>by obtain ⟨_,_,hSw⟩:=h9; exact ZM hSw 0 _ _ _ 1 _ rfl rfl Zl rfl rfl rfl <| nu rfl rfl,fun _=>ZO .lss rfl .i64 b.a b.b rfl rfl rfl <| nu rfl rfl,trivial⟩ ?_
   rintro w9 ⟨c1,c2,hS8⟩
   refine WL.store hS8 1 _ _ _ 0 _ [.int .i64 b.a, .int .i64 b.b] [.int .i64 b.a, .int .i64 b.b] _ rfl rfl Zm rfl (Nat.le_of_ble_eq_true rfl) rfl rfl rfl rfl rfl rfl (fun w10 hS9=>?_)
   refine ⟨⟨_,_,hS9⟩,?_⟩
   exact XH [.agg #[.int .i64 b.a, .int .i64 b.b], .bool (Cmp.b .lss b.a b.b)] hS9 ⟨_,_,_,rfl,rfl,hS9.loadA 1 _ _ _ 0 [.int .i64 b.a, .int .i64 b.b] rfl rfl rfl Zm rfl,⟨_,rfl,rfl⟩⟩ ⟨_,_,rfl,(Is.cast ⟨_,rfl,(Zq b hb3 hb4)⟩ (by exact ZcU (by first | omega | (simp only; omega)) (by first | omega | (simp only; omega)))),(congrArg Value.bool (by (rw [Bool.eq_iff_iff]; simp [Cmp.b] <;> omega)))⟩
  refine drC (C:=fun w9=>∃ c1 c2,St w [] G G2 [some (b2,(nat_lit 33),[.int .i64 b.a, .int .i64 a.b]),some (b1,(nat_lit 33),[c1,c2])] w9) (fun _ h9=>by obtain ⟨c1,c2,h9⟩:=h9; exact ⟨c1,c2,h9.draw⟩) [(6,true),(7,false)] [(24, .agg #[.int .i64 b.a, .int .i64 a.b]),(26, .int .i64 b.a),(28, .int .i64 a.b),(29, .bool (Cmp.b .lss b.a a.b))] ⟨_,_,hS6⟩ ⟨fun _ h9=>by obtain ⟨_,_,hSw⟩:=h9; exact ZZ hSw 0 _ _ _ 0 [.int .i64 b.a, .int .i64 a.b] rfl rfl rfl Zm rfl rfl rfl <| nu rfl rfl,fun _ h9=>by obtain ⟨_,_,hSw⟩:=h9; exact ZM hSw 0 _ _ _ 0 _ rfl rfl Zl rfl rfl rfl <| nu rfl rfl,fun _ h9=>by obtain ⟨_,_,hSw⟩:=h9; exact ZM hSw 0 _ _ _ 1 _ rfl rfl Zl rfl rfl rfl <| nu rfl rfl,fun _=>ZO .lss rfl .i64 b.a a.b rfl rfl rfl <| nu rfl rfl,trivial⟩ ?_
  rintro w11 ⟨c1,c2,hS10⟩
  refine WL.store hS10 1 _ _ _ 0 _ [.int .i64 b.a, .int .i64 a.b] [.int .i64 b.a, .int .i64 a.b] _ rfl rfl Zm rfl (Nat.le_of_ble_eq_true rfl) rfl rfl rfl rfl rfl rfl (fun w12 hS11=>?_)
  refine ⟨⟨_,_,hS11⟩,?_⟩
  exact XH [.agg #[.int .i64 b.a, .int .i64 a.b], .bool (Cmp.b .lss b.a a.b)] hS11 ⟨_,_,_,rfl,rfl,hS11.loadA 1 _ _ _ 0 [.int .i64 b.a, .int .i64 a.b] rfl rfl rfl Zm rfl,⟨_,rfl,rfl⟩⟩ ⟨_,_,rfl,(Is.cast ⟨_,rfl,(Zq (Span.mk b.a a.b) hb3 hb2)⟩ (by exact ZcU (by first | omega | (simp only; omega)) (by first | omega | (simp only; omega)))),(congrArg Value.bool (by (rw [Bool.eq_iff_iff]; simp [Cmp.b] <;> omega)))⟩
 refine Za hS5 (XZ.drop 1 hc2) Zl rfl rfl rfl <| ZM hS5 0 _ _ _ 1 _ rfl rfl Zl rfl rfl rfl ?_
 refine Zo b.b a.b rfl rfl rfl (fun h3=>?_) (fun h3=>?_)
 ·refine Za hS5 (XZ.drop 1 hc2) Zl rfl rfl rfl ?_
  refine WL.store hS5 0 _ _ _ 1 _ [.int .i64 b.b] [.int .i64 a.a, .int .i64 b.b] _ rfl rfl Zl rfl (Nat.le_of_ble_eq_true rfl) rfl rfl rfl rfl rfl rfl (fun w13 hS12=>?_)
  refine drC (C:=fun w9=>∃ c1 c2,St w [] G G2 [some (b2,(nat_lit 33),[.int .i64 a.a, .int .i64 b.b]),some (b1,(nat_lit 33),[c1,c2])] w9) (fun _ h9=>by obtain ⟨c1,c2,h9⟩:=h9; exact ⟨c1,c2,h9.draw⟩) [(6,true),(7,false)] [(24, .agg #[.int .i64 a.a, .int .i64 b.b]),(26, .int .i64 a.a),(28, .int .i64 b.b),(29, .bool (Cmp.b .lss a.a b.b))] ⟨_,_,hS12⟩ ⟨fun _ h9=>by obtain ⟨_,_,hSw⟩:=h9; exact ZZ hSw 0 _ _ _ 0 [.int .i64 a.a, .int .i64 b.b] rfl rfl rfl Zm rfl rfl rfl <| nu rfl rfl,fun _ h9=>by obtain ⟨_,_,hSw⟩:=h9; exact ZM hSw 0 _ _ _ 0 _ rfl rfl Zl rfl rfl rfl <| nu rfl rfl,fun _ h9=>by obtain ⟨_,_,hSw⟩:=h9; exact ZM hSw 0 _ _ _ 1 _ rfl rfl Zl rfl rfl rfl <| nu rfl rfl,fun _=>ZO .lss rfl .i64 a.a b.b rfl rfl rfl <| nu rfl rfl,trivial⟩ ?_
  rintro w14 ⟨c1,c2,hS13⟩
  refine WL.store hS13 1 _ _ _ 0 _ [.int .i64 a.a, .int .i64 b.b] [.int .i64 a.a, .int .i64 b.b] _ rfl rfl Zm rfl (Nat.le_of_ble_eq_true rfl) rfl rfl rfl rfl rfl rfl (fun w15 hS14=>?_)
  refine ⟨⟨_,_,hS14⟩,?_⟩
  exact XH [.agg #[.int .i64 a.a, .int .i64 b.b], .bool (Cmp.b .lss a.a b.b)] hS14 ⟨_,_,_,rfl,rfl,hS14.loadA 1 _ _ _ 0 [.int .i64 a.a, .int .i64 b.b] rfl rfl rfl Zm rfl,⟨_,rfl,rfl⟩⟩ ⟨_,_,rfl,(Is.cast ⟨_,rfl,(Zq (Span.mk a.a b.b) hb1 hb4)⟩ (by exact ZcU (by first | omega | (simp only; omega)) (by first | omega | (simp only; omega)))),(congrArg Value.bool (by (rw [Bool.eq_iff_iff]; simp [Cmp.b] <;> omega)))⟩
 refine drC (C:=fun w9=>∃ c1 c2,St w [] G G2 [some (b2,(nat_lit 33),[.int .i64 a.a, .int .i64 a.b]),some (b1,(nat_lit 33),[c1,c2])] w9) (fun _ h9=>by obtain ⟨c1,c2,h9⟩:=h9; exact ⟨c1,c2,h9.draw⟩) [(6,true),(7,false)] [(24, .agg #[.int .i64 a.a, .int .i64 a.b]),(26, .int .i64 a.a),(28, .int .i64 a.b),(29, .bool (Cmp.b .lss a.a a.b))] ⟨_,_,hS5⟩ ⟨fun _ h9=>by obtain ⟨_,_,hSw⟩:=h9; exact ZZ hSw 0 _ _ _ 0 [.int .i64 a.a, .int .i64 a.b] rfl rfl rfl Zm rfl rfl rfl <| nu rfl rfl,fun _ h9=>by obtain ⟨_,_,hSw⟩:=h9; exact ZM hSw 0 _ _ _ 0 _ rfl rfl Zl rfl rfl rfl <| nu rfl rfl,fun _ h9=>by obtain ⟨_,_,hSw⟩:=h9; exact ZM hSw 0 _ _ _ 1 _ rfl rfl Zl rfl rfl rfl <| nu rfl rfl,fun _=>ZO .lss rfl .i64 a.a a.b rfl rfl rfl <| nu rfl rfl,trivial⟩ ?_
 rintro w16 ⟨c1,c2,hS15⟩
 refine WL.store hS15 1 _ _ _ 0 _ [.int .i64 a.a, .int .i64 a.b] [.int .i64 a.a, .int .i64 a.b] _ rfl rfl Zm rfl (Nat.le_of_ble_eq_true rfl) rfl rfl rfl rfl rfl rfl (fun w17 hS16=>?_)
 refine ⟨⟨_,_,hS16⟩,?_⟩
 exact XH [.agg #[.int .i64 a.a, .int .i64 a.b], .bool (Cmp.b .lss a.a a.b)] hS16 ⟨_,_,_,rfl,rfl,hS16.loadA 1 _ _ _ 0 [.int .i64 a.a, .int .i64 a.b] rfl rfl rfl Zm rfl,⟨_,rfl,rfl⟩⟩ ⟨_,_,rfl,(Is.cast ⟨_,rfl,(Zq a hb1 hb2)⟩ (by exact ZcU (by first | omega | (simp only; omega)) (by first | omega | (simp only; omega)))),(congrArg Value.bool (by (rw [Bool.eq_iff_iff]; simp [Cmp.b] <;> omega)))⟩
end Go.Civ
