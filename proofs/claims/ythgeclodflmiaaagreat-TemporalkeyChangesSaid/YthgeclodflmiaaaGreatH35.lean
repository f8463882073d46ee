/- Lemmas. -/
import Derived.Test.YthgeclodflmiaaaGreatH30
import Derived.Test.YthgeclodflmiaaaGreatProg
import Derived.KernelRfl
import Derived.WalkKit
set_option linter.unusedVariables false
set_option linter.unusedSimpArgs false
set_option maxRecDepth 100000
set_option maxHeartbeats 4000000
namespace Go.Civ
open Go.Proofs
theorem ZfO {G : GH} {w : World} (hG : G.In w) (t : Table) (tx : Int) (v : List Val) (d : Span) (ct : List Value) (hct : TableE.rep G t ct) (vv : Value) (hvv : Sl ValE 32 G vv v) (cd : List Value) (hcd : SpanE.rep G d cd) (htx64 : Zw tx) : CL Tryz.prog (nat_lit 20) #[.agg ct.toArray, .int .i64 tx,vv, .agg cd.toArray] [] w G fun G' _ r=>∃ r0 r1,r = .tuple #[r0,r1] ∧ Is TableE G' r0 (ZF t tx v d) ∧ r1 = .int .i64 (Y2 t tx v d):=by
 refine YB ft [] Tryz.func20 rfl rfl ?_
 have hS:=St.start (X:=[]) hG
 obtain ⟨v1,v2,v3,rfl,hb1,hs1,hb2,hs2,hs3,hb3⟩:=Zy hct
 obtain ⟨rfl,hb4,hb5⟩:=ZE hcd
 refine Zv [Zb t.s.name,v1, .int .i64 t.s.key,v2,v3, .int .i64 t.last] _ hS rfl rfl rfl (fun p1 w1 G1 hle1 hsp1 hc1 hS1=>?_)
 refine Zv [.int .i64 d.a, .int .i64 d.b] _ hS1 rfl rfl rfl (fun p2 w2 G2 hle2 hsp2 hc2 hS2=>?_)
 refine WL.alloc hS2 Zm rfl rfl (fun b1 w3 hn1 hS3=>?_)
 refine Zc hS3 (hc1.mono hle2) [Zb t.s.name,v1, .int .i64 t.s.key,v2,v3, .int .i64 t.last] Zm rfl rfl rfl rfl rfl ?_
 refine Zn hS3 XD rfl rfl rfl (ZaH hS3.imm t _ (Zi t hb1 (hs1.mono (hle1.trans hle2)) hb2 (hs2.mono (hle1.trans hle2)) (hs3.mono (hle1.trans hle2)) hb3)) (fun w4 G3 hS4 hle3=>?_)
 refine WL.split (fun (h1 : (Z2 t) = true)=>?_) (fun (h1 : (Z2 t) = false)=>?_)
 ·refine Zc hS4 (hc2.mono hle3) [.int .i64 d.a, .int .i64 d.b] Zu rfl rfl rfl rfl rfl ?_
  refine Zn hS4 Zk6 rfl rfl rfl (Zeg hS4.imm d _ (Zs d hb4 hb5)) (fun w5 G4 hS5 hle4=>?_)
  refine WL.split (fun (h2 : (ZI d) = true)=>?_) (fun (h2 : (ZI d) = false)=>?_)
  ·have hok : YZ t d = true:=Zep ‹_› ‹_›
   refine dr [(7,false),(8,false),(9,false)] [(22, .agg #[Zb t.s.name,v1, .int .i64 t.s.key,v2]),(24, .int .i64 (YQ t.s v)),(25, .agg #[Zb t.s.name,v1, .int .i64 t.s.key,v2,v3, .int .i64 t.last]),(27, .int .i64 (YG t tx))] hS5 ⟨fun _ hSw=>Zc hSw (Xw.drop 0 (hc1.mono ((hle2.trans hle3).trans hle4))) [Zb t.s.name,v1, .int .i64 t.s.key,v2] ZbX rfl rfl rfl rfl rfl <| nu rfl rfl,fun _ hSw=>Z4 hSw Zut rfl rfl rfl (Zpu hSw.imm t.s v _ (XB t.s hb1 (hs1.mono (((hle1.trans hle2).trans hle3).trans hle4)) hb2 (hs2.mono (((hle1.trans hle2).trans hle3).trans hle4))) _ (hvv.mono (((hle1.trans hle2).trans hle3).trans hle4))) rfl,fun _ hSw=>Zc hSw (hc1.mono ((hle2.trans hle3).trans hle4)) [Zb t.s.name,v1, .int .i64 t.s.key,v2,v3, .int .i64 t.last] Zm rfl rfl rfl rfl rfl <| nu rfl rfl,fun _ hSw=>Z4 hSw Zq2 rfl rfl rfl (ZgM hSw.imm t tx _ (Zi t hb1 (hs1.mono (((hle1.trans hle2).trans hle3).trans hle4)) hb2 (hs2.mono (((hle1.trans hle2).trans hle3).trans hle4)) (hs3.mono (((hle1.trans hle2).trans hle3).trans hle4)) hb3)) rfl,trivial⟩ (fun w6 hS6=>?_)
   refine WL.buildSlice _ [(0,[.int .i64 (YQ t.s v)]),(1,[.int .i64 (YG t tx)])] [.int .i64 (YQ t.s v), .int .i64 (YG t tx)] hS6 Zsa rfl rfl rfl rfl (fun z hz=>by match z,hz with | [z0,z1],_=>rfl) (fun b2 w7 hn2 hS7=>?_)
   obtain ⟨G5,hle5,hs4,hS8⟩:=St.sealSl (E:=Enc.int) (by_:=8) (l:=([(YQ t.s v),(YG t tx)] : List Int)) hS7 hn2 ⟨[.int .i64 (YQ t.s v)],_,rfl,⟨rfl,ZqH t.s v⟩,⟨[.int .i64 (YG t tx)],_,rfl,⟨rfl,(ZkZ t tx)⟩,rfl⟩⟩ rfl (by simp [reach]) (by simp [reach])
   refine Zn hS8 Zux rfl rfl rfl (Zsy hS8.imm [(YQ t.s v),(YG t tx)] _ hs4) (fun w9 G6 hS9 hle6=>?_)
   refine Yf (XM [(YQ t.s v),(YG t tx)]) 0 rfl rfl rfl (fun h3=>?_) (fun h3=>?_)
   ·refine WL.build _ [] [Zb [], .slice none 0 0, .int .i64 0, .slice none 0 0, .slice none 0 0, .int .i64 0] Zm rfl XU rfl rfl rfl rfl ?_
    refine WL.store hS9 0 _ _ _ 0 _ [Zb [], .slice none 0 0, .int .i64 0, .slice none 0 0, .slice none 0 0, .int .i64 0] [Zb [], .slice none 0 0, .int .i64 0, .slice none 0 0, .slice none 0 0, .int .i64 0] _ rfl rfl Zm rfl (Nat.le_of_ble_eq_true rfl) rfl rfl rfl rfl rfl rfl (fun w10 hS10=>?_)
    exact Xe [.agg #[Zb [], .slice none 0 0, .int .i64 0, .slice none 0 0, .slice none 0 0, .int .i64 0], .int .i64 (XM [(YQ t.s v),(YG t tx)])] hS10 ⟨_,_,_,rfl,rfl,hS10.loadA 0 _ _ _ 0 [Zb [], .slice none 0 0, .int .i64 0, .slice none 0 0, .slice none 0 0, .int .i64 0] rfl rfl rfl Zm rfl,⟨_,rfl,rfl⟩⟩ ⟨_,_,rfl,(Is.cast ⟨_,rfl,(Zi (Table.mk (Schema.mk [] [] 0 []) [] 0) (by simp [reach]) (Sl.nil ColE 24 G6) ZM (Sl.nil ForeignE 40 G6) (Sl.nil HRowE 56 G6) ZM)⟩ (by with_reducible exact (Zn5 hok ‹_›).1)),(congrArg (Value.int .i64) (by with_reducible exact (Zn5 hok ‹_›).2))⟩
   obtain ⟨hg9,hl9,hn9⟩:=Zf7 (by assumption : Z2 t = true) (by assumption : ZI d = true) ‹_›
   have hv9:=(Y5 (by assumption : Z2 t = true)).2.1
   refine drT [1,6,7,8] [(36, .agg #[.int .i64 d.a, .int .i64 d.b]),(38, .agg #[.int .i64 tx, .int .i64 253402300800]),(39, .agg #[.int .i64 d.a, .int .i64 d.b, .int .i64 tx, .int .i64 253402300800])] hS9 ⟨fun _ hSw=>Zc hSw (hc2.mono (((hle3.trans hle4).trans hle5).trans hle6)) [.int .i64 d.a, .int .i64 d.b] Zu rfl rfl rfl rfl rfl <| nu rfl rfl,fun _=>WL.build _ [(0,[.int .i64 tx]),(1,[.int .i64 253402300800])] [.int .i64 tx, .int .i64 253402300800] Zu rfl X6 rfl rfl rfl rfl <| nu rfl rfl,fun _=>WL.build _ [(0,[.int .i64 d.a, .int .i64 d.b]),(1,[.int .i64 tx, .int .i64 253402300800])] [.int .i64 d.a, .int .i64 d.b, .int .i64 tx, .int .i64 253402300800] Zb8 rfl Zdc rfl rfl rfl rfl <| nu rfl rfl,trivial⟩ (fun w11 hS11=>?_)
   refine TG.fork 3 [1,6,7,8] [1,7] rfl rfl (by decide) (by decide) (TA.cons rfl ?_ (TA.cons rfl ?_ TA.nil))
   ·refine Z6 hS11 Ze5 rfl rfl rfl (Zab hS11.imm v _ (hvv.mono (((((hle1.trans hle2).trans hle3).trans hle4).trans hle5).trans hle6))) (fun w12 G7 r1 hpost1 hS12 hle7=>?_)
    refine ⟨fun _=>hS12.down hS11.le hle7,?_⟩
    refine TG.quiet 2 [6,7,8] 6 rfl rfl rfl rfl rfl (by decide) (fun w9 K9 k9=>WL.build _ [(0,[r1]),(1,[.int .i64 d.a, .int .i64 d.b, .int .i64 tx, .int .i64 253402300800])] [r1, .int .i64 d.a, .int .i64 d.b, .int .i64 tx, .int .i64 253402300800] Zt rfl Zbr rfl rfl (by show [(0,(r1 : Value).cells.toList),(1,(.agg #[.int .i64 d.a, .int .i64 d.b, .int .i64 tx, .int .i64 253402300800] : Value).cells.toList)] = _; simp only [hpost1.cells1] <;> rfl) rfl k9) ?_
    refine TG.fork 1 [7,8] [7] rfl rfl (by decide) (by decide) (TA.cons rfl ?_ TA.nil)
    refine WL.alloc hS12 Zt rfl rfl (fun b3 w13 hn3 hS13=>?_)
    refine ⟨fun _=>hS13.tail.down hS11.le hle7,?_⟩
    refine TG.fork 0 [8] [8] rfl rfl (by decide) (by decide) (TA.cons rfl ?_ TA.nil)
    refine WL.store hS13 0 _ _ _ 0 _ [r1, .int .i64 d.a, .int .i64 d.b, .int .i64 tx, .int .i64 253402300800] [r1, .int .i64 d.a, .int .i64 d.b, .int .i64 tx, .int .i64 253402300800] _ rfl rfl Zt rfl (Nat.le_of_ble_eq_true rfl) (by simp only [List.all_cons,List.all_nil,hpost1.oneC,Bool.true_and] <;> rfl) rfl rfl rfl rfl rfl (fun w14 hS14=>?_)
    obtain ⟨G9,hle9,hc3,hS15⟩:=hS14.shutB hn3
    refine ⟨fun h=>absurd h (by decide),?_⟩
    refine TG.fin rfl ?_
    refine drT [4,6,7,8,9,10,11,12] [(41, .agg #[Zb t.s.name,v1, .int .i64 t.s.key,v2,v3, .int .i64 t.last]),(44,v3),(46, .agg #[r1, .int .i64 d.a, .int .i64 d.b, .int .i64 tx, .int .i64 253402300800])] hS15 ⟨fun _ hSw=>Zc hSw (hc1.mono ((((((hle2.trans hle3).trans hle4).trans hle5).trans hle6).trans hle7).trans hle9)) [Zb t.s.name,v1, .int .i64 t.s.key,v2,v3, .int .i64 t.last] Zm rfl rfl rfl rfl rfl <| nu rfl rfl,fun _ hSw=>Za hSw (Xw.drop 4 (hc1.mono ((((((hle2.trans hle3).trans hle4).trans hle5).trans hle6).trans hle7).trans hle9))) Xg rfl rfl rfl <| nu rfl rfl,fun _ hSw=>Zc hSw hc3 [r1, .int .i64 d.a, .int .i64 d.b, .int .i64 tx, .int .i64 253402300800] Zt rfl rfl rfl rfl rfl <| nu rfl rfl,trivial⟩ (fun w15 hS16=>?_)
    refine TG.fork 7 [4,6,7,8,9,10,11,12] [4,6] rfl rfl (by decide) (by decide) (TA.cons rfl ?_ (TA.cons rfl ?_ TA.nil))
    ·refine Qf Znc rfl rfl rfl (ZeW hS16.imm t.rows _ (hs3.mono (((((((hle1.trans hle2).trans hle3).trans hle4).trans hle5).trans hle6).trans hle7).trans hle9))) (fun w16 G10 r2 hres1 hpost2=>?_)
     have hS17:=hS16.call hres1
     have hle10:=hres1.le
     obtain ⟨o1,hr1,hf1⟩:=hpost2
     have hS18:=hS16.adoptO hres1 hf1
     refine ⟨fun _=>hS18.tail.down hS16.le hle10,?_⟩
     refine TG.fork 6 [6,7,8,9,10,11,12] [6] rfl rfl (by decide) (by decide) (TA.cons rfl ?_ TA.nil)
     refine WL.buildSlice _ [(0,[r1, .int .i64 d.a, .int .i64 d.b, .int .i64 tx, .int .i64 253402300800])] [r1, .int .i64 d.a, .int .i64 d.b, .int .i64 tx, .int .i64 253402300800] hS18 Y4 rfl rfl rfl rfl (fun z hz=>by match z,hz with | [z0,z1,z2,z3,z4],_=>rfl) (fun b4 w17 hn4 hS19=>?_)
     refine ⟨fun _=>hS19.tail.tail.down hS16.le hle10,?_⟩
     refine TG.fork 5 [7,8,9,10,11,12] [7] rfl rfl (by decide) (by decide) (TA.cons rfl ?_ TA.nil)
     refine WL.push (m:=([(HRow.mk v (Rect.mk d (Span.mk tx 253402300800)))] : List HRow)) Y4 rfl rfl rfl hr1 hS19 1 rfl 0 _ _ _ _ _ rfl ⟨[r1, .int .i64 d.a, .int .i64 d.b, .int .i64 tx, .int .i64 253402300800],_,rfl,(ZQ (HRow.mk v (Rect.mk d (Span.mk tx 253402300800))) (hpost1.mono (hle9.trans hle10)) hb4 hb5 htx64 (show Zw 253402300800 from by constructor <;> decide)),rfl⟩ rfl (by have hreach : reach = 140737488355328:=rfl; simp only [List.length_append,List.length_cons,List.length_nil]; omega) (by have hreach : reach = 140737488355328:=rfl; simp only [List.length_append,List.length_cons,List.length_nil]; omega) rfl rfl rfl (fun v4 o2 w18 hr2 hS20=>?_)
     have hS21:=hS20.tail
     refine ⟨fun _=>hS21.tail.down hS16.le hle10,?_⟩
     refine TG.fork 4 [8,9,10,11,12] [8] rfl rfl (by decide) (by decide) (TA.cons rfl ?_ TA.nil)
     obtain ⟨G11,hle11,hs5,hS22⟩:=Ye.freeze hr2 hS21 0 rfl
     refine Z6 hS22 Zk7 rfl rfl rfl (ZfM hS22.imm t tx (t.rows ++ [(HRow.mk v (Rect.mk d (Span.mk tx 253402300800)))]) _ (Zi t hb1 (hs1.mono (((((((((hle1.trans hle2).trans hle3).trans hle4).trans hle5).trans hle6).trans hle7).trans hle9).trans hle10).trans hle11)) hb2 (hs2.mono (((((((((hle1.trans hle2).trans hle3).trans hle4).trans hle5).trans hle6).trans hle7).trans hle9).trans hle10).trans hle11)) (hs3.mono (((((((((hle1.trans hle2).trans hle3).trans hle4).trans hle5).trans hle6).trans hle7).trans hle9).trans hle10).trans hle11)) hb3) _ hs5 htx64 hg9 hl9 (Nat.le_trans hn9 (by decide))) ?_
     rintro w19 G12 _ ⟨r4,_,rfl,hs6,rfl⟩ hS23 hle12
     obtain ⟨cs1,rfl,hr3⟩:=hs6
     obtain ⟨v5,v6,v7,rfl,hb6,hs7,hb7,hs8,hs9,hb8⟩:=Zy hr3
     refine ⟨fun h=>absurd h (by decide),?_⟩
     refine TG.quiet 3 [9,10,11,12] 9 rfl rfl rfl rfl rfl (by decide) (fun w9 K9 k9=>WL.extract _ _ rfl rfl rfl k9) ?_
     refine TG.quiet 2 [10,11,12] 10 rfl rfl rfl rfl rfl (by decide) (fun w9 K9 k9=>WL.extract _ _ rfl rfl rfl k9) ?_
     refine TG.fork 1 [11,12] [11] rfl rfl (by decide) (by decide) (TA.cons rfl ?_ TA.nil)
     refine WL.store hS23 1 _ _ _ 0 _ [Zb ((Z1 t tx (t.rows ++ [(HRow.mk v (Rect.mk d (Span.mk tx 253402300800)))])).s.name),v5, .int .i64 ((Z1 t tx (t.rows ++ [(HRow.mk v (Rect.mk d (Span.mk tx 253402300800)))])).s.key),v6,v7, .int .i64 ((Z1 t tx (t.rows ++ [(HRow.mk v (Rect.mk d (Span.mk tx 253402300800)))])).last)] [Zb ((Z1 t tx (t.rows ++ [(HRow.mk v (Rect.mk d (Span.mk tx 253402300800)))])).s.name),v5, .int .i64 ((Z1 t tx (t.rows ++ [(HRow.mk v (Rect.mk d (Span.mk tx 253402300800)))])).s.key),v6,v7, .int .i64 ((Z1 t tx (t.rows ++ [(HRow.mk v (Rect.mk d (Span.mk tx 253402300800)))])).last)] _ rfl rfl Zm rfl (Nat.le_of_ble_eq_true rfl) (by simp only [List.all_cons,List.all_nil,hs7.oneC,hs8.oneC,hs9.oneC,Bool.true_and] <;> rfl) rfl rfl rfl rfl rfl (fun w20 hS24=>?_)
     refine ⟨fun h=>absurd h (by decide),?_⟩
     refine TG.quiet 0 [12] 12 rfl rfl rfl rfl rfl (by decide) (fun w9 K9 k9=>WL.assign rfl k9) ?_
     refine TG.fin rfl ?_
     exact Xe [.agg #[Zb ((Z1 t tx (t.rows ++ [(HRow.mk v (Rect.mk d (Span.mk tx 253402300800)))])).s.name),v5, .int .i64 ((Z1 t tx (t.rows ++ [(HRow.mk v (Rect.mk d (Span.mk tx 253402300800)))])).s.key),v6,v7, .int .i64 ((Z1 t tx (t.rows ++ [(HRow.mk v (Rect.mk d (Span.mk tx 253402300800)))])).last)], .int .i64 (X0 (t.rows ++ [(HRow.mk v (Rect.mk d (Span.mk tx 253402300800)))]))] hS24 ⟨_,_,_,rfl,rfl,hS24.loadA 1 _ _ _ 0 [Zb ((Z1 t tx (t.rows ++ [(HRow.mk v (Rect.mk d (Span.mk tx 253402300800)))])).s.name),v5, .int .i64 ((Z1 t tx (t.rows ++ [(HRow.mk v (Rect.mk d (Span.mk tx 253402300800)))])).s.key),v6,v7, .int .i64 ((Z1 t tx (t.rows ++ [(HRow.mk v (Rect.mk d (Span.mk tx 253402300800)))])).last)] rfl rfl rfl Zm rfl,⟨_,rfl,rfl⟩⟩ ⟨_,_,rfl,(Is.cast ⟨_,rfl,(Zi (Z1 t tx (t.rows ++ [(HRow.mk v (Rect.mk d (Span.mk tx 253402300800)))])) hb6 hs7 hb7 hs8 hs9 hb8)⟩ (by with_reducible exact (ZbK hok ‹_›).1)),(congrArg (Value.int .i64) (by with_reducible exact (ZbK hok ‹_›).2))⟩
    refine WL.buildSlice _ [(0,[r1, .int .i64 d.a, .int .i64 d.b, .int .i64 tx, .int .i64 253402300800])] [r1, .int .i64 d.a, .int .i64 d.b, .int .i64 tx, .int .i64 253402300800] hS16 Y4 rfl rfl rfl rfl (fun z hz=>by match z,hz with | [z0,z1,z2,z3,z4],_=>rfl) (fun b5 w21 hn5 hS25=>?_)
    refine ⟨fun _=>hS25.tail.down hS16.le (G9.le_refl),?_⟩
    refine TG.fork 6 [4,7,8,9,10,11,12] [4] rfl rfl (by decide) (by decide) (TA.cons rfl ?_ TA.nil)
    refine Qf Znc rfl rfl rfl (ZeW hS25.imm t.rows _ (hs3.mono (((((((hle1.trans hle2).trans hle3).trans hle4).trans hle5).trans hle6).trans hle7).trans hle9))) (fun w22 G13 r6 hres2 hpost4=>?_)
    have hS26:=hS25.call hres2
    have hle13:=hres2.le
    obtain ⟨o3,hr4,hf2⟩:=hpost4
    have hS27:=hS25.adoptO hres2 hf2
    refine ⟨fun _=>hS27.tail.tail.down hS16.le hle13,?_⟩
    refine TG.fork 5 [7,8,9,10,11,12] [7] rfl rfl (by decide) (by decide) (TA.cons rfl ?_ TA.nil)
    refine WL.push (m:=([(HRow.mk v (Rect.mk d (Span.mk tx 253402300800)))] : List HRow)) Y4 rfl rfl rfl hr4 hS27 0 rfl 1 _ _ _ _ _ rfl ⟨[r1, .int .i64 d.a, .int .i64 d.b, .int .i64 tx, .int .i64 253402300800],_,rfl,(ZQ (HRow.mk v (Rect.mk d (Span.mk tx 253402300800))) (hpost1.mono (hle9.trans hle13)) hb4 hb5 htx64 (show Zw 253402300800 from by constructor <;> decide)),rfl⟩ rfl (by have hreach : reach = 140737488355328:=rfl; simp only [List.length_append,List.length_cons,List.length_nil]; omega) (by have hreach : reach = 140737488355328:=rfl; simp only [List.length_append,List.length_cons,List.length_nil]; omega) rfl rfl rfl (fun v9 o4 w23 hr5 hS28=>?_)
    refine ⟨fun _=>hS28.tail.tail.down hS16.le hle13,?_⟩
    refine TG.fork 4 [8,9,10,11,12] [8] rfl rfl (by decide) (by decide) (TA.cons rfl ?_ TA.nil)
    obtain ⟨G14,hle14,hs10,hS29⟩:=Ye.freeze hr5 hS28 0 rfl
    refine Z6 hS29 Zk7 rfl rfl rfl (ZfM hS29.imm t tx (t.rows ++ [(HRow.mk v (Rect.mk d (Span.mk tx 253402300800)))]) _ (Zi t hb1 (hs1.mono (((((((((hle1.trans hle2).trans hle3).trans hle4).trans hle5).trans hle6).trans hle7).trans hle9).trans hle13).trans hle14)) hb2 (hs2.mono (((((((((hle1.trans hle2).trans hle3).trans hle4).trans hle5).trans hle6).trans hle7).trans hle9).trans hle13).trans hle14)) (hs3.mono (((((((((hle1.trans hle2).trans hle3).trans hle4).trans hle5).trans hle6).trans hle7).trans hle9).trans hle13).trans hle14)) hb3) _ hs10 htx64 hg9 hl9 (Nat.le_trans hn9 (by decide))) ?_
    rintro w24 G15 _ ⟨r8,_,rfl,hs11,rfl⟩ hS30 hle15
    obtain ⟨cs2,rfl,hr6⟩:=hs11
    obtain ⟨v10,v11,v12,rfl,hb9,hs12,hb10,hs13,hs14,YD⟩:=Zy hr6
    refine ⟨fun h=>absurd h (by decide),?_⟩
    refine TG.quiet 3 [9,10,11,12] 9 rfl rfl rfl rfl rfl (by decide) (fun w9 K9 k9=>WL.extract _ _ rfl rfl rfl k9) ?_
    refine TG.quiet 2 [10,11,12] 10 rfl rfl rfl rfl rfl (by decide) (fun w9 K9 k9=>WL.extract _ _ rfl rfl rfl k9) ?_
    refine TG.fork 1 [11,12] [11] rfl rfl (by decide) (by decide) (TA.cons rfl ?_ TA.nil)
    refine WL.store hS30 2 _ _ _ 0 _ [Zb ((Z1 t tx (t.rows ++ [(HRow.mk v (Rect.mk d (Span.mk tx 253402300800)))])).s.name),v10, .int .i64 ((Z1 t tx (t.rows ++ [(HRow.mk v (Rect.mk d (Span.mk tx 253402300800)))])).s.key),v11,v12, .int .i64 ((Z1 t tx (t.rows ++ [(HRow.mk v (Rect.mk d (Span.mk tx 253402300800)))])).last)] [Zb ((Z1 t tx (t.rows ++ [(HRow.mk v (Rect.mk d (Span.mk tx 253402300800)))])).s.name),v10, .int .i64 ((Z1 t tx (t.rows ++ [(HRow.mk v (Rect.mk d (Span.mk tx 253402300800)))])).s.key),v11,v12, .int .i64 ((Z1 t tx (t.rows ++ [(HRow.mk v (Rect.mk d (Span.mk tx 253402300800)))])).last)] _ rfl rfl Zm rfl (Nat.le_of_ble_eq_true rfl) (by simp only [List.all_cons,List.all_nil,hs12.oneC,hs13.oneC,hs14.oneC,Bool.true_and] <;> rfl) rfl rfl rfl rfl rfl (fun w25 hS31=>?_)
    refine ⟨fun h=>absurd h (by decide),?_⟩
    refine TG.quiet 0 [12] 12 rfl rfl rfl rfl rfl (by decide) (fun w9 K9 k9=>WL.assign rfl k9) ?_
    refine TG.fin rfl ?_
    exact Xe [.agg #[Zb ((Z1 t tx (t.rows ++ [(HRow.mk v (Rect.mk d (Span.mk tx 253402300800)))])).s.name),v10, .int .i64 ((Z1 t tx (t.rows ++ [(HRow.mk v (Rect.mk d (Span.mk tx 253402300800)))])).s.key),v11,v12, .int .i64 ((Z1 t tx (t.rows ++ [(HRow.mk v (Rect.mk d (Span.mk tx 253402300800)))])).last)], .int .i64 (X0 (t.rows ++ [(HRow.mk v (Rect.mk d (Span.mk tx 253402300800)))]))] hS31 ⟨_,_,_,rfl,rfl,hS31.loadA 2 _ _ _ 0 [Zb ((Z1 t tx (t.rows ++ [(HRow.mk v (Rect.mk d (Span.mk tx 253402300800)))])).s.name),v10, .int .i64 ((Z1 t tx (t.rows ++ [(HRow.mk v (Rect.mk d (Span.mk tx 253402300800)))])).s.key),v11,v12, .int .i64 ((Z1 t tx (t.rows ++ [(HRow.mk v (Rect.mk d (Span.mk tx 253402300800)))])).last)] rfl rfl rfl Zm rfl,⟨_,rfl,rfl⟩⟩ ⟨_,_,rfl,(Is.cast ⟨_,rfl,(Zi (Z1 t tx (t.rows ++ [(HRow.mk v (Rect.mk d (Span.mk tx 253402300800)))])) hb9 hs12 hb10 hs13 hs14 YD)⟩ (by with_reducible exact (ZbK hok ‹_›).1)),(congrArg (Value.int .i64) (by with_reducible exact (ZbK hok ‹_›).2))⟩
   refine WL.alloc hS11 Zt rfl rfl (fun b6 w26 hn6 hS32=>?_)
   refine ⟨fun _=>hS32.tail.down hS11.le (G6.le_refl),?_⟩
   refine TG.fork 2 [1,6,8] [1] rfl rfl (by decide) (by decide) (TA.cons rfl ?_ TA.nil)
   refine Z6 hS32 Ze5 rfl rfl rfl (Zab hS32.imm v _ (hvv.mono (((((hle1.trans hle2).trans hle3).trans hle4).trans hle5).trans hle6))) (fun w27 G16 r10 hpost6 hS33 hle16=>?_)
   refine ⟨fun _=>hS33.tail.down hS11.le hle16,?_⟩
   refine TG.quiet 1 [6,8] 6 rfl rfl rfl rfl rfl (by decide) (fun w9 K9 k9=>WL.build _ [(0,[r10]),(1,[.int .i64 d.a, .int .i64 d.b, .int .i64 tx, .int .i64 253402300800])] [r10, .int .i64 d.a, .int .i64 d.b, .int .i64 tx, .int .i64 253402300800] Zt rfl Zbr rfl rfl (by show [(0,(r10 : Value).cells.toList),(1,(.agg #[.int .i64 d.a, .int .i64 d.b, .int .i64 tx, .int .i64 253402300800] : Value).cells.toList)] = _; simp only [hpost6.cells1] <;> rfl) rfl k9) ?_
   refine TG.fork 0 [8] [8] rfl rfl (by decide) (by decide) (TA.cons rfl ?_ TA.nil)
   refine WL.store hS33 0 _ _ _ 0 _ [r10, .int .i64 d.a, .int .i64 d.b, .int .i64 tx, .int .i64 253402300800] [r10, .int .i64 d.a, .int .i64 d.b, .int .i64 tx, .int .i64 253402300800] _ rfl rfl Zt rfl (Nat.le_of_ble_eq_true rfl) (by simp only [List.all_cons,List.all_nil,hpost6.oneC,Bool.true_and] <;> rfl) rfl rfl rfl rfl rfl (fun w28 hS34=>?_)
   obtain ⟨G17,hle17,hc4,hS35⟩:=hS34.shutB hn6
   refine ⟨fun h=>absurd h (by decide),?_⟩
   refine TG.fin rfl ?_
   refine drT [4,6,7,8,9,10,11,12] [(41, .agg #[Zb t.s.name,v1, .int .i64 t.s.key,v2,v3, .int .i64 t.last]),(44,v3),(46, .agg #[r10, .int .i64 d.a, .int .i64 d.b, .int .i64 tx, .int .i64 253402300800])] hS35 ⟨fun _ hSw=>Zc hSw (hc1.mono ((((((hle2.trans hle3).trans hle4).trans hle5).trans hle6).trans hle16).trans hle17)) [Zb t.s.name,v1, .int .i64 t.s.key,v2,v3, .int .i64 t.last] Zm rfl rfl rfl rfl rfl <| nu rfl rfl,fun _ hSw=>Za hSw (Xw.drop 4 (hc1.mono ((((((hle2.trans hle3).trans hle4).trans hle5).trans hle6).trans hle16).trans hle17))) Xg rfl rfl rfl <| nu rfl rfl,fun _ hSw=>Zc hSw hc4 [r10, .int .i64 d.a, .int .i64 d.b, .int .i64 tx, .int .i64 253402300800] Zt rfl rfl rfl rfl rfl <| nu rfl rfl,trivial⟩ (fun w29 hS36=>?_)
   refine TG.fork 7 [4,6,7,8,9,10,11,12] [4,6] rfl rfl (by decide) (by decide) (TA.cons rfl ?_ (TA.cons rfl ?_ TA.nil))
   ·refine Qf Znc rfl rfl rfl (ZeW hS36.imm t.rows _ (hs3.mono (((((((hle1.trans hle2).trans hle3).trans hle4).trans hle5).trans hle6).trans hle16).trans hle17))) (fun w30 G18 r11 hres3 hpost7=>?_)
    have hS37:=hS36.call hres3
    have hle18:=hres3.le
    obtain ⟨o5,hr7,hf3⟩:=hpost7
    have hS38:=hS36.adoptO hres3 hf3
    refine ⟨fun _=>hS38.tail.down hS36.le hle18,?_⟩
    refine TG.fork 6 [6,7,8,9,10,11,12] [6] rfl rfl (by decide) (by decide) (TA.cons rfl ?_ TA.nil)
    refine WL.buildSlice _ [(0,[r10, .int .i64 d.a, .int .i64 d.b, .int .i64 tx, .int .i64 253402300800])] [r10, .int .i64 d.a, .int .i64 d.b, .int .i64 tx, .int .i64 253402300800] hS38 Y4 rfl rfl rfl rfl (fun z hz=>by match z,hz with | [z0,z1,z2,z3,z4],_=>rfl) (fun b7 w31 hn7 hS39=>?_)
    refine ⟨fun _=>hS39.tail.tail.down hS36.le hle18,?_⟩
    refine TG.fork 5 [7,8,9,10,11,12] [7] rfl rfl (by decide) (by decide) (TA.cons rfl ?_ TA.nil)
    refine WL.push (m:=([(HRow.mk v (Rect.mk d (Span.mk tx 253402300800)))] : List HRow)) Y4 rfl rfl rfl hr7 hS39 1 rfl 0 _ _ _ _ _ rfl ⟨[r10, .int .i64 d.a, .int .i64 d.b, .int .i64 tx, .int .i64 253402300800],_,rfl,(ZQ (HRow.mk v (Rect.mk d (Span.mk tx 253402300800))) (hpost6.mono (hle17.trans hle18)) hb4 hb5 htx64 (show Zw 253402300800 from by constructor <;> decide)),rfl⟩ rfl (by have hreach : reach = 140737488355328:=rfl; simp only [List.length_append,List.length_cons,List.length_nil]; omega) (by have hreach : reach = 140737488355328:=rfl; simp only [List.length_append,List.length_cons,List.length_nil]; omega) rfl rfl rfl (fun v13 o6 w32 hr8 hS40=>?_)
    have hS41:=hS40.tail
    refine ⟨fun _=>hS41.tail.down hS36.le hle18,?_⟩
    refine TG.fork 4 [8,9,10,11,12] [8] rfl rfl (by decide) (by decide) (TA.cons rfl ?_ TA.nil)
    obtain ⟨G19,hle19,hs15,hS42⟩:=Ye.freeze hr8 hS41 0 rfl
    refine Z6 hS42 Zk7 rfl rfl rfl (ZfM hS42.imm t tx (t.rows ++ [(HRow.mk v (Rect.mk d (Span.mk tx 253402300800)))]) _ (Zi t hb1 (hs1.mono (((((((((hle1.trans hle2).trans hle3).trans hle4).trans hle5).trans hle6).trans hle16).trans hle17).trans hle18).trans hle19)) hb2 (hs2.mono (((((((((hle1.trans hle2).trans hle3).trans hle4).trans hle5).trans hle6).trans hle16).trans hle17).trans hle18).trans hle19)) (hs3.mono (((((((((hle1.trans hle2).trans hle3).trans hle4).trans hle5).trans hle6).trans hle16).trans hle17).trans hle18).trans hle19)) hb3) _ hs15 htx64 hg9 hl9 (Nat.le_trans hn9 (by decide))) ?_
    rintro w33 G20 _ ⟨r13,_,rfl,hs16,rfl⟩ hS43 hle20
    obtain ⟨cs3,rfl,hr9⟩:=hs16
    obtain ⟨v14,v15,v16,rfl,YW,hs17,Xj,hs18,hs19,X7⟩:=Zy hr9
    refine ⟨fun h=>absurd h (by decide),?_⟩
    refine TG.quiet 3 [9,10,11,12] 9 rfl rfl rfl rfl rfl (by decide) (fun w9 K9 k9=>WL.extract _ _ rfl rfl rfl k9) ?_
    refine TG.quiet 2 [10,11,12] 10 rfl rfl rfl rfl rfl (by decide) (fun w9 K9 k9=>WL.extract _ _ rfl rfl rfl k9) ?_
    refine TG.fork 1 [11,12] [11] rfl rfl (by decide) (by decide) (TA.cons rfl ?_ TA.nil)
    refine WL.store hS43 1 _ _ _ 0 _ [Zb ((Z1 t tx (t.rows ++ [(HRow.mk v (Rect.mk d (Span.mk tx 253402300800)))])).s.name),v14, .int .i64 ((Z1 t tx (t.rows ++ [(HRow.mk v (Rect.mk d (Span.mk tx 253402300800)))])).s.key),v15,v16, .int .i64 ((Z1 t tx (t.rows ++ [(HRow.mk v (Rect.mk d (Span.mk tx 253402300800)))])).last)] [Zb ((Z1 t tx (t.rows ++ [(HRow.mk v (Rect.mk d (Span.mk tx 253402300800)))])).s.name),v14, .int .i64 ((Z1 t tx (t.rows ++ [(HRow.mk v (Rect.mk d (Span.mk tx 253402300800)))])).s.key),v15,v16, .int .i64 ((Z1 t tx (t.rows ++ [(HRow.mk v (Rect.mk d (Span.mk tx 253402300800)))])).last)] _ rfl rfl Zm rfl (Nat.le_of_ble_eq_true rfl) (by simp only [List.all_cons,List.all_nil,hs17.oneC,hs18.oneC,hs19.oneC,Bool.true_and] <;> rfl) rfl rfl rfl rfl rfl (fun w34 hS44=>?_)
    refine ⟨fun h=>absurd h (by decide),?_⟩
    refine TG.quiet 0 [12] 12 rfl rfl rfl rfl rfl (by decide) (fun w9 K9 k9=>WL.assign rfl k9) ?_
    refine TG.fin rfl ?_
    exact Xe [.agg #[Zb ((Z1 t tx (t.rows ++ [(HRow.mk v (Rect.mk d (Span.mk tx 253402300800)))])).s.name),v14, .int .i64 ((Z1 t tx (t.rows ++ [(HRow.mk v (Rect.mk d (Span.mk tx 253402300800)))])).s.key),v15,v16, .int .i64 ((Z1 t tx (t.rows ++ [(HRow.mk v (Rect.mk d (Span.mk tx 253402300800)))])).last)], .int .i64 (X0 (t.rows ++ [(HRow.mk v (Rect.mk d (Span.mk tx 253402300800)))]))] hS44 ⟨_,_,_,rfl,rfl,hS44.loadA 1 _ _ _ 0 [Zb ((Z1 t tx (t.rows ++ [(HRow.mk v (Rect.mk d (Span.mk tx 253402300800)))])).s.name),v14, .int .i64 ((Z1 t tx (t.rows ++ [(HRow.mk v (Rect.mk d (Span.mk tx 253402300800)))])).s.key),v15,v16, .int .i64 ((Z1 t tx (t.rows ++ [(HRow.mk v (Rect.mk d (Span.mk tx 253402300800)))])).last)] rfl rfl rfl Zm rfl,⟨_,rfl,rfl⟩⟩ ⟨_,_,rfl,(Is.cast ⟨_,rfl,(Zi (Z1 t tx (t.rows ++ [(HRow.mk v (Rect.mk d (Span.mk tx 253402300800)))])) YW hs17 Xj hs18 hs19 X7)⟩ (by with_reducible exact (ZbK hok ‹_›).1)),(congrArg (Value.int .i64) (by with_reducible exact (ZbK hok ‹_›).2))⟩
   refine WL.buildSlice _ [(0,[r10, .int .i64 d.a, .int .i64 d.b, .int .i64 tx, .int .i64 253402300800])] [r10, .int .i64 d.a, .int .i64 d.b, .int .i64 tx, .int .i64 253402300800] hS36 Y4 rfl rfl rfl rfl (fun z hz=>by match z,hz with | [z0,z1,z2,z3,z4],_=>rfl) (fun b8 w35 hn8 hS45=>?_)
   refine ⟨fun _=>hS45.tail.down hS36.le (G17.le_refl),?_⟩
   refine TG.fork 6 [4,7,8,9,10,11,12] [4] rfl rfl (by decide) (by decide) (TA.cons rfl ?_ TA.nil)
   refine Qf Znc rfl rfl rfl (ZeW hS45.imm t.rows _ (hs3.mono (((((((hle1.trans hle2).trans hle3).trans hle4).trans hle5).trans hle6).trans hle16).trans hle17))) (fun w36 G21 r15 hres4 hpost9=>?_)
   have hS46:=hS45.call hres4
   have hle21:=hres4.le
   obtain ⟨o7,hr10,hf4⟩:=hpost9
   have hS47:=hS45.adoptO hres4 hf4
   refine ⟨fun _=>hS47.tail.tail.down hS36.le hle21,?_⟩
   refine TG.fork 5 [7,8,9,10,11,12] [7] rfl rfl (by decide) (by decide) (TA.cons rfl ?_ TA.nil)
   refine WL.push (m:=([(HRow.mk v (Rect.mk d (Span.mk tx 253402300800)))] : List HRow)) Y4 rfl rfl rfl hr10 hS47 0 rfl 1 _ _ _ _ _ rfl ⟨[r10, .int .i64 d.a, .int .i64 d.b, .int .i64 tx, .int .i64 253402300800],_,rfl,(ZQ (HRow.mk v (Rect.mk d (Span.mk tx 253402300800))) (hpost6.mono (hle17.trans hle21)) hb4 hb5 htx64 (show Zw 253402300800 from by constructor <;> decide)),rfl⟩ rfl (by have hreach : reach = 140737488355328:=rfl; simp only [List.length_append,List.length_cons,List.length_nil]; omega) (by have hreach : reach = 140737488355328:=rfl; simp only [List.length_append,List.length_cons,List.length_nil]; omega) rfl rfl rfl (fun v17 o8 w37 hr11 hS48=>?_)
   refine ⟨fun _=>hS48.tail.tail.down hS36.le hle21,?_⟩
   refine TG.fork 4 [8,9,10,11,12] [8] rfl rfl (by decide) (by decide) (TA.cons rfl ?_ TA.nil)
   obtain ⟨G22,hle22,hs20,hS49⟩:=Ye.freeze hr11 hS48 0 rfl
   refine Z6 hS49 Zk7 rfl rfl rfl (ZfM hS49.imm t tx (t.rows ++ [(HRow.mk v (Rect.mk d (Span.mk tx 253402300800)))]) _ (Zi t hb1 (hs1.mono (((((((((hle1.trans hle2).trans hle3).trans hle4).trans hle5).trans hle6).trans hle16).trans hle17).trans hle21).trans hle22)) hb2 (hs2.mono (((((((((hle1.trans hle2).trans hle3).trans hle4).trans hle5).trans hle6).trans hle16).trans hle17).trans hle21).trans hle22)) (hs3.mono (((((((((hle1.trans hle2).trans hle3).trans hle4).trans hle5).trans hle6).trans hle16).trans hle17).trans hle21).trans hle22)) hb3) _ hs20 htx64 hg9 hl9 (Nat.le_trans hn9 (by decide))) ?_
   rintro w38 G23 _ ⟨r17,_,rfl,hs21,rfl⟩ hS50 hle23
   obtain ⟨cs4,rfl,hr12⟩:=hs21
   obtain ⟨v18,v19,v20,rfl,Qi,hs22,Qd,hs23,hs24,Qn⟩:=Zy hr12
   refine ⟨fun h=>absurd h (by decide),?_⟩
   refine TG.quiet 3 [9,10,11,12] 9 rfl rfl rfl rfl rfl (by decide) (fun w9 K9 k9=>WL.extract _ _ rfl rfl rfl k9) ?_
   refine TG.quiet 2 [10,11,12] 10 rfl rfl rfl rfl rfl (by decide) (fun w9 K9 k9=>WL.extract _ _ rfl rfl rfl k9) ?_
   refine TG.fork 1 [11,12] [11] rfl rfl (by decide) (by decide) (TA.cons rfl ?_ TA.nil)
   refine WL.store hS50 2 _ _ _ 0 _ [Zb ((Z1 t tx (t.rows ++ [(HRow.mk v (Rect.mk d (Span.mk tx 253402300800)))])).s.name),v18, .int .i64 ((Z1 t tx (t.rows ++ [(HRow.mk v (Rect.mk d (Span.mk tx 253402300800)))])).s.key),v19,v20, .int .i64 ((Z1 t tx (t.rows ++ [(HRow.mk v (Rect.mk d (Span.mk tx 253402300800)))])).last)] [Zb ((Z1 t tx (t.rows ++ [(HRow.mk v (Rect.mk d (Span.mk tx 253402300800)))])).s.name),v18, .int .i64 ((Z1 t tx (t.rows ++ [(HRow.mk v (Rect.mk d (Span.mk tx 253402300800)))])).s.key),v19,v20, .int .i64 ((Z1 t tx (t.rows ++ [(HRow.mk v (Rect.mk d (Span.mk tx 253402300800)))])).last)] _ rfl rfl Zm rfl (Nat.le_of_ble_eq_true rfl) (by simp only [List.all_cons,List.all_nil,hs22.oneC,hs23.oneC,hs24.oneC,Bool.true_and] <;> rfl) rfl rfl rfl rfl rfl (fun w39 hS51=>?_)
   refine ⟨fun h=>absurd h (by decide),?_⟩
   refine TG.quiet 0 [12] 12 rfl rfl rfl rfl rfl (by decide) (fun w9 K9 k9=>WL.assign rfl k9) ?_
   refine TG.fin rfl ?_
   exact Xe [.agg #[Zb ((Z1 t tx (t.rows ++ [(HRow.mk v (Rect.mk d (Span.mk tx 253402300800)))])).s.name),v18, .int .i64 ((Z1 t tx (t.rows ++ [(HRow.mk v (Rect.mk d (Span.mk tx 253402300800)))])).s.key),v19,v20, .int .i64 ((Z1 t tx (t.rows ++ [(HRow.mk v (Rect.mk d (Span.mk tx 253402300800)))])).last)], .int .i64 (X0 (t.rows ++ [(HRow.mk v (Rect.mk d (Span.mk tx 253402300800)))]))] hS51 ⟨_,_,_,rfl,rfl,hS51.loadA 2 _ _ _ 0 [Zb ((Z1 t tx (t.rows ++ [(HRow.mk v (Rect.mk d (Span.mk tx 253402300800)))])).s.name),v18, .int .i64 ((Z1 t tx (t.rows ++ [(HRow.mk v (Rect.mk d (Span.mk tx 253402300800)))])).s.key),v19,v20, .int .i64 ((Z1 t tx (t.rows ++ [(HRow.mk v (Rect.mk d (Span.mk tx 253402300800)))])).last)] rfl rfl rfl Zm rfl,⟨_,rfl,rfl⟩⟩ ⟨_,_,rfl,(Is.cast ⟨_,rfl,(Zi (Z1 t tx (t.rows ++ [(HRow.mk v (Rect.mk d (Span.mk tx 253402300800)))])) Qi hs22 Qd hs23 hs24 Qn)⟩ (by with_reducible exact (ZbK hok ‹_›).1)),(congrArg (Value.int .i64) (by with_reducible exact (ZbK hok ‹_›).2))⟩
  refine WL.build _ [] [Zb [], .slice none 0 0, .int .i64 0, .slice none 0 0, .slice none 0 0, .int .i64 0] Zm rfl XU rfl rfl rfl rfl ?_
  refine WL.store hS5 0 _ _ _ 0 _ [Zb [], .slice none 0 0, .int .i64 0, .slice none 0 0, .slice none 0 0, .int .i64 0] [Zb [], .slice none 0 0, .int .i64 0, .slice none 0 0, .slice none 0 0, .int .i64 0] _ rfl rfl Zm rfl (Nat.le_of_ble_eq_true rfl) rfl rfl rfl rfl rfl rfl (fun w40 hS52=>?_)
  exact Xe [.agg #[Zb [], .slice none 0 0, .int .i64 0, .slice none 0 0, .slice none 0 0, .int .i64 0], .int .i64 1] hS52 ⟨_,_,_,rfl,rfl,hS52.loadA 0 _ _ _ 0 [Zb [], .slice none 0 0, .int .i64 0, .slice none 0 0, .slice none 0 0, .int .i64 0] rfl rfl rfl Zm rfl,⟨_,rfl,rfl⟩⟩ ⟨_,_,rfl,(Is.cast ⟨_,rfl,(Zi (Table.mk (Schema.mk [] [] 0 []) [] 0) (by simp [reach]) (Sl.nil ColE 24 G4) ZM (Sl.nil ForeignE 40 G4) (Sl.nil HRowE 56 G4) ZM)⟩ (by with_reducible exact (ZhE (ZcQ ‹_›)).1)),(congrArg (Value.int .i64) (by with_reducible exact (ZhE (ZcQ ‹_›)).2))⟩
 refine WL.build _ [] [Zb [], .slice none 0 0, .int .i64 0, .slice none 0 0, .slice none 0 0, .int .i64 0] Zm rfl XU rfl rfl rfl rfl ?_
 refine WL.store hS4 0 _ _ _ 0 _ [Zb [], .slice none 0 0, .int .i64 0, .slice none 0 0, .slice none 0 0, .int .i64 0] [Zb [], .slice none 0 0, .int .i64 0, .slice none 0 0, .slice none 0 0, .int .i64 0] _ rfl rfl Zm rfl (Nat.le_of_ble_eq_true rfl) rfl rfl rfl rfl rfl rfl (fun w41 hS53=>?_)
 exact Xe [.agg #[Zb [], .slice none 0 0, .int .i64 0, .slice none 0 0, .slice none 0 0, .int .i64 0], .int .i64 1] hS53 ⟨_,_,_,rfl,rfl,hS53.loadA 0 _ _ _ 0 [Zb [], .slice none 0 0, .int .i64 0, .slice none 0 0, .slice none 0 0, .int .i64 0] rfl rfl rfl Zm rfl,⟨_,rfl,rfl⟩⟩ ⟨_,_,rfl,(Is.cast ⟨_,rfl,(Zi (Table.mk (Schema.mk [] [] 0 []) [] 0) (by simp [reach]) (Sl.nil ColE 24 G3) ZM (Sl.nil ForeignE 40 G3) (Sl.nil HRowE 56 G3) ZM)⟩ (by with_reducible exact (ZhE (ZcP ‹_›)).1)),(congrArg (Value.int .i64) (by with_reducible exact (ZhE (ZcP ‹_›)).2))⟩
end Go.Civ
