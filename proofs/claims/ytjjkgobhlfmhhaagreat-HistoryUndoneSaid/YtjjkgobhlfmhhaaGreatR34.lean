/- Lemmas: Wf, Wg3. -/
import Derived.Test.YtjjkgobhlfmhhaaGreatR32
import Derived.Test.YtjjkgobhlfmhhaaGreatProg
import Derived.KernelRfl
import Derived.WalkKit
set_option linter.unusedVariables false
set_option linter.unusedSimpArgs false
set_option maxRecDepth 100000
set_option maxHeartbeats 4000000
namespace Go.Civ
open Go.Proofs
theorem c_groups {G : GH} {w : World} (hG : G.In w) (l : List HRow) (vl : Value) (hvl : Sl HRowE 56 G vl l) (hgood : GoodH l) (hlen : ∀ r ∈ l,r.v.length ≤ 1000) (hl2 : l.length ≤ 2000) : CL Tryz.prog (nat_lit 92) #[vl] [] w G fun G' _ r=>Sl HGrpE 48 G' r (grpH l):=by
 refine calls_of_go ft [] Tryz.func92 rfl rfl ?_
 have hkey:=keyOk_rows hvl hgood hlen
 have hS:=St.start (X:=[]) hG
 refine WL.makeMapS (P:=Tryz.prog) (nat_lit 9) (nat_lit 3) hS rfl (fun bM1 w1 hM1 hA1 hS1=>?_)
 have bd1:=hvl.bound
 refine WL.lenSl hvl ul26 rfl rfl ?_
 have hS3:=hS1.pad
 refine LP.go ft [] (fun m ρ1 w1=>∃ (k1 : Nat),∃ (L : List (List Val × Value)),∃ (O : Own),∃ (v1 : Value) (o1 : OB),∃ (G1 : GH),m = l.length - k1 ∧ G.le G1 ∧ St w [] G G1 (o1 :: O) w1 ∧ Row GroupW 48 128 G1 v1 L o1 ∧ FR ρ1 [(3, .map (some bM1)),(4,v1),(11,vl),(12, .int .i64 (l.length : Int)),(13, .int .i64 (k1 : Int))] ∧ k1 ≤ l.length ∧ HRel (nat_lit 64) G1 (hgroups (l.take k1)) L O ∧ SMap Tryz.prog (nat_lit 9) (nat_lit 3) w1 bM1 k1 (mapOf (hgroups (l.take k1))) ∧ Apart w G1 (o1 :: O) bM1) _ ⟨0,[],[],(.slice none 0 0),none,G,rfl,(G.le_refl),hS3,(Row.nil GroupW 48 128 G),⟨rfl,rfl,rfl,rfl,rfl,trivial⟩,(by omega),(by exact HRel.nil),(by exact hM1),(by exact ⟨hA1.new,hA1.gh,fun i p hp=>by cases i <;> simp at hp⟩)⟩ ?_
 rintro m ρ1 w2 ⟨k1,L,O,v1,o1,G1,rfl,hle1,hS2,hr1,hF9,f1,f2,f3,f4⟩
 refine hF9.set ?_
 clear hF9
 have hL9:=HRel.len (by assumption : HRel _ _ (hgroups (l.take k1)) L O)
 have hL8:=hgrp_len l k1
 have hR1:=hS2.rebase
 refine WL.lssS (k1 : Int) (l.length : Int) rfl rfl rfl (fun h1=>?_) (fun h1=>?_)
 ·refine WL.indexAddr (hvl.mono hle1) k1 (by omega) ul26 ti64 rfl rfl rfl rfl (fun p1 x1 hx1 he1=>?_)
  obtain ⟨cs1,hc1,hr2⟩:=he1
  obtain ⟨v2,rfl,hs1,hb1,hb2,hb3,hb4⟩:=HRowE_open hr2
  refine WL.loadGAt hR1 hc1 [v2, .int .i64 x1.r.d.a, .int .i64 x1.r.d.b, .int .i64 x1.r.x.a, .int .i64 x1.r.x.b] ti64 rfl rfl rfl rfl rfl ?_
  refine WL.alloc hR1 ti64 rfl rfl (fun b1 w3 hn1 hS4=>?_)
  refine WL.store hS4 0 _ _ _ 0 _ [v2, .int .i64 x1.r.d.a, .int .i64 x1.r.d.b, .int .i64 x1.r.x.a, .int .i64 x1.r.x.b] [v2, .int .i64 x1.r.d.a, .int .i64 x1.r.d.b, .int .i64 x1.r.x.a, .int .i64 x1.r.x.b] _ rfl rfl ti64 rfl (Nat.le_of_ble_eq_true rfl) (by simp only [List.all_cons,List.all_nil,hs1.oneC,Bool.true_and] <;> rfl) rfl rfl rfl rfl rfl (fun w4 hS5=>?_)
  obtain ⟨G2,hle2,hc2,hS6⟩:=hS5.shutB hn1
  refine WL.loadG1 hS6 (Cells.drop 0 hc2) ti36 rfl rfl rfl ?_
  refine WL.cV hS6 hb130 rfl rfl rfl (c_key hS6.imm x1.v _ (hs1.mono hle2)) (fun w5 G3 hS7 hle3=>?_)
  have hMA1:=f3.keep f4 hS7 hS2.kept.size
  refine WL.lookupS (keyE x1.v) hMA1.1 ul165 ul9 ul3 keyE_len (by rfl) rfl rfl rfl (fun hN1=>?_) (fun c1 hc3=>?_)
  ·have bd2:=hr1.bound
   refine WL.lenRow (hr1.mono (hle2.trans hle3)) ul125 rfl rfl ?_
   have hMA2:=f3.keep f4 hS7 hS2.kept.size
   have hSc1:=hS2.comp hS7
   refine WL.mapUpdateS (keyE x1.v) (L.length : Int) hSc1 hMA2.1 hMA2.2 ul165 ul9 ul3 keyE_len ⟨by omega,by omega⟩ (by unfold reach; omega) rfl rfl rfl rfl (fun w6 hM2 hS8=>?_)
   have hR2:=hS8.rebase
   refine WL.loadG1 hR2 (Cells.drop 0 (hc2.mono hle3)) ti36 rfl rfl rfl ?_
   refine WL.build _ [(0,[v2])] [v2, .slice none 0 0] ti128 rfl fl128 rfl rfl (by show [(0,(v2 : Value).cells.toList)] = _; simp only [(hs1.mono (hle2.trans hle3)).cells1] <;> rfl) rfl ?_
   refine WL.buildSlice _ [(0,[v2, .slice none 0 0])] [v2, .slice none 0 0] hR2 sl125 rfl rfl rfl rfl (fun z hz=>by match z,hz with | [z0,z1],_=>rfl) (fun b2 w7 hn2 hS9=>?_)
   refine WL.push (m:=([(x1.v,(Value.slice none 0 0))] : List (List Val × Value))) sl125 rfl rfl rfl (hr1.mono (hle2.trans hle3)) hS9 1 rfl 0 _ _ _ _ _ rfl ⟨[v2, .slice none 0 0],_,rfl,(GroupW_mk (x1.v,(Value.slice none 0 0)) (hs1.mono (hle2.trans hle3)) rfl),rfl⟩ rfl (by have hreach : reach = 140737488355328:=rfl; simp only [List.length_append,List.length_cons,List.length_nil]; omega) (by have hreach : reach = 140737488355328:=rfl; simp only [List.length_append,List.length_cons,List.length_nil]; omega) rfl rfl rfl (fun v3 o2 w9 hr3 hS10=>?_)
   have hS11:=hS10.tail
   have hR3:=hS11.padEnd
   have hgr1:=(HRel.mono f2 (hle2.trans hle3)).push x1.v
   have hl1:=hgr1.len; simp only [List.length_append,List.length_cons,List.length_nil] at hl1
   have hnew:=hg_new hkey hx1 hN1
   obtain ⟨p2,x2,ec1,hx2,hr4,ra1,ep1⟩:=Row.atP hr3 L.length (by (simp only [List.length_append,List.length_cons,List.length_nil]; omega))
   obtain ⟨v4,rfl,hs2,ho1⟩:=GroupW_open hr4
   obtain ⟨p3,x3,ec2,hx3,hr5,ra2,ep2⟩:=Row.atP hr3 L.length (by (simp only [List.length_append,List.length_cons,List.length_nil]; omega))
   obtain rfl : x2 = x3:=Option.some.inj (hx2.symm.trans hx3)
   obtain ⟨v5,rfl,hs3,ho2⟩:=GroupW_open hr5
   refine dr [(8,true),(9,false),(12,false)] [(43, .pointer (some p2)),(45,x2.2),(46, .agg #[v2, .int .i64 x1.r.d.a, .int .i64 x1.r.d.b, .int .i64 x1.r.x.a, .int .i64 x1.r.x.b]),(49, .pointer (some p3))] hR3 ⟨fun _=>WL.indexAddrP L.length ep1 ul125 ti128 rfl rfl rfl rfl <| nu rfl rfl,fun _ hSw=>WL.loadR1 ra1 hSw 0 rfl 1 _ rfl ti26 rfl rfl rfl <| nu rfl rfl,fun _ hSw=>WL.loadGAt hSw (hc2.mono hle3) [v2, .int .i64 x1.r.d.a, .int .i64 x1.r.d.b, .int .i64 x1.r.x.a, .int .i64 x1.r.x.b] ti64 rfl rfl rfl rfl rfl <| nu rfl rfl,fun _=>WL.indexAddrP L.length ep2 ul125 ti128 rfl rfl rfl rfl <| nu rfl rfl,trivial⟩ (fun w10 hS12=>?_)
   refine WL.buildSlice _ [(0,[v2, .int .i64 x1.r.d.a, .int .i64 x1.r.d.b, .int .i64 x1.r.x.a, .int .i64 x1.r.x.b])] [v2, .int .i64 x1.r.d.a, .int .i64 x1.r.d.b, .int .i64 x1.r.x.a, .int .i64 x1.r.x.b] hS12 sl26 rfl rfl rfl rfl (fun z hz=>by match z,hz with | [z0,z1,z2,z3,z4],_=>rfl) (fun b3 w11 hn3 hS13=>?_)
   refine ⟨hS13.tail.down hS12.le (G3.le_refl),?_⟩
   obtain ⟨g9,o9,hg9,ho9,hv9,hu9⟩:=HRel.atL hgr1 hx2
   have hgt9 : g9.t.length ≤ 2000:=by exact Nat.le_trans (hg_tlen' hg9) hl2
   refine WL.push (m:=([x1] : List HRow)) sl26 rfl rfl rfl hu9 hS13 (L.length + 2) ho9 0 _ _ _ _ _ rfl ⟨[v2, .int .i64 x1.r.d.a, .int .i64 x1.r.d.b, .int .i64 x1.r.x.a, .int .i64 x1.r.x.b],_,rfl,(HRowE_mk x1 (hs1.mono (hle2.trans hle3)) hb1 hb2 hb3 hb4),rfl⟩ rfl (by have hreach : reach = 140737488355328:=rfl; simp only [List.length_append,List.length_cons,List.length_nil]; omega) (by have hreach : reach = 140737488355328:=rfl; simp only [List.length_append,List.length_cons,List.length_nil]; omega) rfl rfl rfl (fun v6 o3 w12 hr6 hS14=>?_)
   have hS15:=hS14.tail
   refine WL.storeR hr3 ra2 hS15 0 rfl (by (simp only [List.length_append,List.length_cons,List.length_nil]; omega)) rfl 1 _ [v6] (x2.1,v6) [v5,v6] hr6.cells1 ti26 rfl (Nat.le_of_ble_eq_true rfl) (by simp only [List.all_cons,List.all_nil,hr6.oneC,Bool.true_and] <;> rfl) rfl (GroupW_mk (x2.1,v6) hs3 hr6.oneC) rfl rfl rfl (fun o4 w13 hr7 hS16=>?_)
   refine WL.incr k1 (by have hreach : reach = 140737488355328:=rfl; omega) rfl rfl rfl ?_
   have hMA3:=hM2.keep hMA2.2 hS16 hS8.kept.size
   have hSc2 : St w [] G G3 (o4 :: (List.set ((O ++ [none] : Own) : Own) L.length o3)) w13:=hS8.comp hS16
   exact BK.mk' _ ⟨k1 + 1,((L ++ [(x1.v,(Value.slice none 0 0))]).set L.length (x2.1,v6)),(List.set ((O ++ [none] : Own) : Own) L.length o3),v3,o4,G3,rfl,(hle1.trans (hle2.trans hle3)),hSc2,hr7,⟨rfl,rfl,rfl,rfl,rfl,trivial⟩,(by omega),(by rw [hnew]; (rw [← HRel.len (by assumption : HRel _ _ (hgroups (l.take k1)) L O)]; exact HRel.set hgr1 hg9 hv9 hr6)),(by rw [map_new hnew hN1,← HRel.len (by assumption : HRel _ _ (hgroups (l.take k1)) L O)]; exact hMA3.1),(hMA3.2)⟩ (show l.length - (k1 + 1) < l.length - k1 by omega)
  obtain ⟨i1,rfl,hi1,hg1⟩:=hg_found hkey hx1 hc3
  have hgr2:=HRel.mono f2 (hle2.trans hle3)
  have hl9:=hgr2.len
  obtain ⟨p4,x4,ec3,hx4,hr8,ra3,ep3⟩:=Row.atP (hr1.mono (hle2.trans hle3)) i1 (by omega)
  obtain ⟨v7,rfl,hs4,ho3⟩:=GroupW_open hr8
  obtain ⟨p5,x5,ec4,hx5,hr9,ra4,ep4⟩:=Row.atP (hr1.mono (hle2.trans hle3)) i1 (by omega)
  obtain rfl : x4 = x5:=Option.some.inj (hx4.symm.trans hx5)
  obtain ⟨v9,rfl,hs5,ho4⟩:=GroupW_open hr9
  refine dr [(8,true),(9,false),(12,false)] [(43, .pointer (some p4)),(45,x4.2),(46, .agg #[v2, .int .i64 x1.r.d.a, .int .i64 x1.r.d.b, .int .i64 x1.r.x.a, .int .i64 x1.r.x.b]),(49, .pointer (some p5))] hS7 ⟨fun _=>WL.indexAddrP i1 ep3 ul125 ti128 rfl rfl rfl rfl <| nu rfl rfl,fun _ hSw=>WL.loadR1 ra3 hSw 0 rfl 1 _ rfl ti26 rfl rfl rfl <| nu rfl rfl,fun _ hSw=>WL.loadGAt hSw (hc2.mono hle3) [v2, .int .i64 x1.r.d.a, .int .i64 x1.r.d.b, .int .i64 x1.r.x.a, .int .i64 x1.r.x.b] ti64 rfl rfl rfl rfl rfl <| nu rfl rfl,fun _=>WL.indexAddrP i1 ep4 ul125 ti128 rfl rfl rfl rfl <| nu rfl rfl,trivial⟩ (fun w14 hS17=>?_)
  refine WL.buildSlice _ [(0,[v2, .int .i64 x1.r.d.a, .int .i64 x1.r.d.b, .int .i64 x1.r.x.a, .int .i64 x1.r.x.b])] [v2, .int .i64 x1.r.d.a, .int .i64 x1.r.d.b, .int .i64 x1.r.x.a, .int .i64 x1.r.x.b] hS17 sl26 rfl rfl rfl rfl (fun z hz=>by match z,hz with | [z0,z1,z2,z3,z4],_=>rfl) (fun b4 w15 hn4 hS18=>?_)
  refine ⟨hS18.tail.down hS17.le (G3.le_refl),?_⟩
  obtain ⟨g9,o9,hg9,ho9,hv9,hu9⟩:=HRel.atL hgr2 hx4
  have hgt9 : g9.t.length ≤ 2000:=by exact Nat.le_trans (hg_tlen hg9) hl2
  refine WL.push (m:=([x1] : List HRow)) sl26 rfl rfl rfl hu9 hS18 (i1 + 2) ho9 0 _ _ _ _ _ rfl ⟨[v2, .int .i64 x1.r.d.a, .int .i64 x1.r.d.b, .int .i64 x1.r.x.a, .int .i64 x1.r.x.b],_,rfl,(HRowE_mk x1 (hs1.mono (hle2.trans hle3)) hb1 hb2 hb3 hb4),rfl⟩ rfl (by have hreach : reach = 140737488355328:=rfl; simp only [List.length_append,List.length_cons,List.length_nil]; omega) (by have hreach : reach = 140737488355328:=rfl; simp only [List.length_append,List.length_cons,List.length_nil]; omega) rfl rfl rfl (fun v10 o5 w16 hr10 hS19=>?_)
  have hS20:=hS19.tail
  refine WL.storeR (hr1.mono (hle2.trans hle3)) ra4 hS20 0 rfl (by omega) rfl 1 _ [v10] (x4.1,v10) [v9,v10] hr10.cells1 ti26 rfl (Nat.le_of_ble_eq_true rfl) (by simp only [List.all_cons,List.all_nil,hr10.oneC,Bool.true_and] <;> rfl) rfl (GroupW_mk (x4.1,v10) hs5 hr10.oneC) rfl rfl rfl (fun o6 w17 hr11 hS21=>?_)
  refine WL.incr k1 (by have hreach : reach = 140737488355328:=rfl; omega) rfl rfl rfl ?_
  have hMA4:=f3.keep f4 hS21 hS2.kept.size
  have hSc3 : St w [] G G3 (o6 :: (List.set (O : Own) i1 o5)) w17:=hS2.comp hS21
  exact BK.mk' _ ⟨k1 + 1,(L.set i1 (x4.1,v10)),(List.set (O : Own) i1 o5),v1,o6,G3,rfl,(hle1.trans (hle2.trans hle3)),hSc3,hr11,⟨rfl,rfl,rfl,rfl,rfl,trivial⟩,(by omega),(by rw [hg1]; exact HRel.set hgr2 hg9 hv9 hr10),(by rw [map_found hg1]; exact SMap.mono hMA4.1 (by omega)),(hMA4.2)⟩ (show l.length - (k1 + 1) < l.length - k1 by omega)
 obtain ⟨G4,hle4,hS22,hFz⟩:=freezeAll hS2 f2
 have hgs : hgroups (l.take k1) = hgroups l:=by rw [List.take_of_length_le (by omega)]
 rw [hgs] at hFz
 have hrow:=Row.hgroups (hr1.mono hle4) hFz
 refine WL.cR hb131 rfl rfl rfl (c_SortG hS22.imm (hgroups l) _ _ hrow (hS22.lentAt 0 rfl) (hgrp_valid hgood)) (fun w18 G5 r1 hres1 hpost1=>?_)
 have hle5:=hres1.le
 obtain ⟨rfl,l1,o7,hr12,hf1,hq1⟩:=hpost1
 have hS24:=hS22.callRow 0 rfl hres1 hrow hr12 hf1
 obtain ⟨G6,hle6,hs6,hS25⟩:=Row.freeze hr12 hS24 0 rfl
 exact RT hS25 rfl (Sl.cast hs6 (by exact grpH_of (fun r hr=>(goodB_parts (hgood r hr)).1) hq1.1 hq1.2))
end Go.Civ
set_option linter.unusedVariables false
set_option linter.unusedSimpArgs false
set_option maxRecDepth 100000
set_option maxHeartbeats 4000000
namespace Go.Civ
open Go.Proofs
theorem c_gnormal {G : GH} {w : World} (hG : G.In w) (x : HGrp) (cx : List Value) (hcx : HGrpE.rep G x cx) (hgood : GoodH x.t) (hl : x.t.length ≤ 2000) : CL Tryz.prog (nat_lit 120) #[.agg cx.toArray] [] w G fun G' _ r=>Sl HRowE 56 G' r (normG x):=by
 refine calls_of_go ft [] Tryz.func120 rfl rfl ?_
 have hS:=St.start (X:=[]) hG
 obtain ⟨v1,v2,rfl,hs1,hs2⟩:=HGrpE_open hcx
 refine WL.boxG [v1,v2] _ hS rfl rfl rfl (fun p1 w1 G1 hle1 hsp1 hc1 hS1=>?_)
 refine WL.loadG1 hS1 (Cells.drop 1 hc1) ti26 rfl rfl rfl ?_
 have bd1:=hs2.bound
 refine WL.lenSl (hs2.mono hle1) ul26 rfl rfl ?_
 have hS3:=hS1.pad
 refine LP.go ft [] (fun m ρ1 w1=>∃ (k1 : Nat),∃ (v3 : Value) (o1 : OB),∃ (G2 : GH),m = x.t.length - k1 ∧ G1.le G2 ∧ St w [] G G2 [o1] w1 ∧ Row Enc.int 8 3 G2 v3 (flatX (x.t.take k1)) o1 ∧ FR ρ1 [(1, .pointer (some p1)),(3,v3),(14,v2),(15, .int .i64 (x.t.length : Int)),(16, .int .i64 (k1 : Int))] ∧ k1 ≤ x.t.length) _ ⟨0,(.slice none 0 0),none,G1,rfl,(G1.le_refl),hS3,(Row.nil Enc.int 8 3 G1),⟨rfl,rfl,rfl,rfl,rfl,trivial⟩,(by omega)⟩ ?_
 rintro m ρ1 w2 ⟨k1,v3,o1,G2,rfl,hle2,hS2,hr1,hF9,f1⟩
 refine hF9.set ?_
 clear hF9
 have hfl:=flatX_takeLen x.t k1
 refine WL.lssS (k1 : Int) (x.t.length : Int) rfl rfl rfl (fun h1=>?_) (fun h1=>?_)
 ·refine WL.indexAddr (hs2.mono (hle1.trans hle2)) k1 (by omega) ul26 ti64 rfl rfl rfl rfl (fun p2 x1 hx1 he1=>?_)
  obtain ⟨cs1,hc2,hr2⟩:=he1
  obtain ⟨v4,rfl,hs3,hb1,hb2,hb3,hb4⟩:=HRowE_open hr2
  refine WL.loadGAt hS2 hc2 [v4, .int .i64 x1.r.d.a, .int .i64 x1.r.d.b, .int .i64 x1.r.x.a, .int .i64 x1.r.x.b] ti64 rfl rfl rfl rfl rfl ?_
  refine WL.alloc hS2 ti64 rfl rfl (fun b1 w3 hn1 hS4=>?_)
  refine WL.store hS4 0 _ _ _ 0 _ [v4, .int .i64 x1.r.d.a, .int .i64 x1.r.d.b, .int .i64 x1.r.x.a, .int .i64 x1.r.x.b] [v4, .int .i64 x1.r.d.a, .int .i64 x1.r.d.b, .int .i64 x1.r.x.a, .int .i64 x1.r.x.b] _ rfl rfl ti64 rfl (Nat.le_of_ble_eq_true rfl) (by simp only [List.all_cons,List.all_nil,hs3.oneC,Bool.true_and] <;> rfl) rfl rfl rfl rfl rfl (fun w4 hS5=>?_)
  obtain ⟨G3,hle3,hc3,hS6⟩:=hS5.shutB hn1
  refine WL.loadG1 hS6 (Cells.drop 0 (Cells.drop 2 (Cells.drop 1 hc3))) ti3 rfl rfl rfl <| WL.loadG1 hS6 (Cells.drop 1 (Cells.drop 2 (Cells.drop 1 hc3))) ti3 rfl rfl rfl ?_
  refine WL.buildSlice _ [(0,[.int .i64 x1.r.x.a]),(1,[.int .i64 x1.r.x.b])] [.int .i64 x1.r.x.a, .int .i64 x1.r.x.b] hS6 sl135 rfl rfl rfl rfl (fun z hz=>by match z,hz with | [z0,z1],_=>rfl) (fun b2 w5 hn2 hS7=>?_)
  refine WL.push (m:=([x1.r.x.a,x1.r.x.b] : List Int)) sl135 rfl rfl rfl (hr1.mono hle3) hS7 1 rfl 0 _ _ _ _ _ rfl ⟨[.int .i64 x1.r.x.a],_,rfl,⟨rfl,hb3⟩,⟨[.int .i64 x1.r.x.b],_,rfl,⟨rfl,hb4⟩,rfl⟩⟩ rfl (by have hreach : reach = 140737488355328:=rfl; simp only [List.length_cons,List.length_nil]; omega) (by have hreach : reach = 140737488355328:=rfl; simp only [List.length_cons,List.length_nil]; omega) rfl rfl rfl (fun v5 o2 w6 hr3 hS8=>?_)
  have hS9:=hS8.tail
  refine WL.incr k1 (by have hreach : reach = 140737488355328:=rfl; omega) rfl rfl rfl ?_
  exact BK.mk' _ ⟨k1 + 1,v5,o2,G3,rfl,(hle2.trans hle3),hS9,(Row.cast hr3 (by (rw [flatX_take (by assumption)]))),⟨rfl,rfl,rfl,rfl,rfl,trivial⟩,(by omega)⟩ (show x.t.length - (k1 + 1) < x.t.length - k1 by omega)
 refine WL.cR hb159 rfl rfl rfl (c_SortI hS2.imm (flatX (x.t.take k1)) _ _ hr1 (hS2.lentAt 0 rfl)) (fun w7 G4 r1 hres1 hpost1=>?_)
 have hle4:=hres1.le
 obtain ⟨rfl,l1,o3,hr4,hf1,hq1⟩:=hpost1
 have hS11:=hS2.callRow 0 rfl hres1 hr1 hr4 hf1
 refine WL.cR hb160 rfl rfl rfl (c_Compact hS11.imm l1 _ _ hr4 (hS11.lentAt 0 rfl)) (fun w9 G5 r2 hres2 hpost2=>?_)
 have hle5:=hres2.le
 obtain ⟨o4,hr5,hf2,hq2⟩:=hpost2
 have hS13:=hS11.callRowR 0 rfl hres2 hr4 hr5 hf2 hq2
 refine WL.alloc hS13 ti26 rfl rfl (fun b3 w10 hn3 hS14=>?_)
 refine WL.alloc hS14 ti129 rfl rfl (fun b4 w11 hn4 hS15=>?_)
 refine WL.alloc hS15 ti3 rfl rfl (fun b5 w12 hn5 hS16=>?_)
 refine WL.store hS16 0 _ _ _ 0 _ [.int .i64 0] [.int .i64 0] _ rfl rfl ti3 rfl (Nat.le_of_ble_eq_true rfl) rfl rfl rfl rfl rfl rfl (fun w13 hS17=>?_)
 have hS18:=hS17.pad
 have hcut:=Row.cast (l':=cutsL x.t) hr5 (by rw [hq1,sortI_eq]; exact cuts_eq (by omega))
 have hcl:=cutsL_len x.t
 have hci:=cutsL_i64 hgood
 have bd2:=hcut.bound
 refine WL.lenRow hcut ul135 rfl rfl ?_
 refine LP.go ft [] (fun m ρ1 w1=>∃ (k2 : Nat),∃ (nv : Value),∃ (nw : List Span),∃ (fr : Int),∃ (v6 : Value) (o5 : OB),∃ (G6 : GH),m = (cutsL x.t).length - k2 ∧ G5.le G6 ∧ St w [] G G6 [o5,some (b5,3,[.int .i64 fr]),some (b4,129,[nv]),some (b3,26,[v6]),o4] w1 ∧ Row HRowE 56 64 G6 v6 ((runN x.v (timesH x.t) ((cutsL x.t).take k2)).out) o5 ∧ FR ρ1 [(1, .pointer (some p1)),(6, .pointer (some ⟨b3,0,none⟩)),(7, .pointer (some ⟨b4,0,none⟩)),(8, .pointer (some ⟨b5,0,none⟩)),(9, .func (.func 161) #[] #[.pointer (some ⟨b4,0,none⟩), .pointer (some ⟨b3,0,none⟩), .pointer (some p1), .pointer (some ⟨b5,0,none⟩)]),(37,r2),(38, .int .i64 (((cutsL x.t).length : Nat) : Int)),(39, .int .i64 (k2 : Int))] ∧ k2 ≤ (cutsL x.t).length ∧ Sl SpanE 16 G6 nv nw ∧ nw = (runN x.v (timesH x.t) ((cutsL x.t).take k2)).now ∧ fr = (runN x.v (timesH x.t) ((cutsL x.t).take k2)).fr ∧ I64 fr) _ ⟨0, .slice none 0 0,[],0,(.slice none 0 0),none,G5,rfl,(G5.le_refl),hS18,(Row.cast (Row.nil HRowE 56 64 G5) (by simp [runN])),⟨rfl,rfl,rfl,rfl,rfl,rfl,rfl,rfl,trivial⟩,(by omega),(Sl.nil SpanE 16 G5),(by simp [runN]),(by simp [runN]),(I64_0)⟩ ?_
 rintro m ρ1 w14 ⟨k2,nv,nw,fr,v6,o5,G6,rfl,hle6,hS19,hr6,hF9,f2,f3,f4,f5,f6⟩
 refine hF9.set ?_
 clear hF9
 have hnw:=(by assumption : nw = (runN x.v (timesH x.t) ((cutsL x.t).take k2)).now)
 have hfr:=(by assumption : fr = (runN x.v (timesH x.t) ((cutsL x.t).take k2)).fr)
 have hnb:=norm_bound (g:=x) hl k2
 have hnl : nw.length ≤ 2000:=by rw [hnw]; exact hnb.2
 refine WL.lssS (k2 : Int) (((cutsL x.t).length : Nat) : Int) rfl rfl rfl (fun h2=>?_) (fun h2=>?_)
 ·refine WL.indexAddrRow (hcut.mono hle6) k2 (by omega) ul135 ti3 rfl rfl rfl rfl (fun p3 x2 ec1 hx2 hr7 ra1=>?_)
  obtain ⟨rfl,hb5⟩:=hr7
  refine WL.loadR1' ra1 hS19 4 rfl _ rfl ti3 rfl rfl rfl ?_
  have hc64:=hci _ (List.mem_of_getElem? (by assumption : (cutsL x.t)[k2]? = some _))
  refine WL.loadG1 hS19 (Cells.drop 1 (hc1.mono (((hle2.trans hle4).trans hle5).trans hle6))) ti26 rfl rfl rfl ?_
  refine WL.cA hS19 hb93 rfl rfl rfl (c_htimes hS19.imm x.t x2 _ (hs2.mono ((((hle1.trans hle2).trans hle4).trans hle5).trans hle6)) hgood hl) (fun w15 G7 r3 hpost3 hS20 hle7=>?_)
  refine WL.loadO1 hS20 2 _ _ _ 0 _ rfl rfl ti129 rfl rfl rfl ?_
  refine WL.cV hS20 hb162 rfl rfl rfl (c_SlEqualS hS20.imm nw (timesH x.t x2) _ (f3.mono hle7) _ hpost3) (fun w16 G9 hS21 hle9=>?_)
  refine WL.split (fun (h3 : (decide (nw = (timesH x.t x2))) = true)=>?_) (fun (h3 : (decide (nw = (timesH x.t x2))) = false)=>?_)
  ·refine WL.incr k2 (by have hreach : reach = 140737488355328:=rfl; omega) rfl rfl rfl ?_
   exact BK.mk' _ ⟨k2 + 1,nv,nw,fr,v6,o5,G9,rfl,(hle6.trans (hle7.trans hle9)),hS21,(Row.cast (hr6.mono (hle7.trans hle9)) (by (exact (congrArg NS.out (run_same (by assumption) (by rw [← hnw]; exact of_decide_eq_true (by assumption)))).symm))),⟨rfl,rfl,rfl,rfl,rfl,rfl,rfl,rfl,trivial⟩,(by omega),((f3.mono (hle7.trans hle9))),(by (rw [run_same (by assumption) (by rw [← hnw]; exact of_decide_eq_true (by assumption))]; exact hnw)),(by (rw [run_same (by assumption) (by rw [← hnw]; exact of_decide_eq_true (by assumption))]; exact hfr)),(by assumption)⟩ (show (cutsL x.t).length - (k2 + 1) < (cutsL x.t).length - k2 by omega)
  have hP1 : St w [] G G9 [some (b4,129,[nv]),some (b3,26,[v6]),some (b5,3,[.int .i64 fr]),o5,o4] w16:=hS21.pick [2,3,1,0,4]
  refine WL.callF [.int .i64 x2, .pointer (some ⟨b4,0,none⟩), .pointer (some ⟨b3,0,none⟩), .pointer (some p1), .pointer (some ⟨b5,0,none⟩)] #[.pointer (some ⟨b4,0,none⟩), .pointer (some ⟨b3,0,none⟩), .pointer (some p1), .pointer (some ⟨b5,0,none⟩)] hb161 rfl rfl rfl ((c_flush x.v fr x2 ((runN x.v (timesH x.t) ((cutsL x.t).take k2)).out) nw _ _ _ _ _ _ (f3.mono (hle7.trans hle9)) (hr6.mono (hle7.trans hle9)) hP1 _ (hs1.mono ((((((hle1.trans hle2).trans hle4).trans hle5).trans hle6).trans hle7).trans hle9)) _ _ (hc1.mono (((((hle2.trans hle4).trans hle5).trans hle6).trans hle7).trans hle9)) hc64 f6 (by omega)).mono ?_)
  rintro e14 w17 ⟨G10,v7,o6,rfl,hle10,hS22,hr8⟩
  refine ⟨_,rfl,?_⟩
  refine WL.store hS22 0 _ _ _ 0 _ [r3] [r3] _ rfl (hpost3.mono (hle9.trans hle10)).cells1 ti129 rfl (Nat.le_of_ble_eq_true rfl) (by simp only [List.all_cons,List.all_nil,(hpost3.mono (hle9.trans hle10)).oneC,Bool.true_and] <;> rfl) rfl rfl rfl rfl rfl (fun w18 hS23=>?_)
  refine WL.store hS23 2 _ _ _ 0 _ [.int .i64 x2] [.int .i64 x2] _ rfl rfl ti3 rfl (Nat.le_of_ble_eq_true rfl) rfl rfl rfl rfl rfl rfl (fun w19 hS24=>?_)
  refine WL.incr k2 (by have hreach : reach = 140737488355328:=rfl; omega) rfl rfl rfl ?_
  have hP2 : St w [] G G10 [o6,some (b5,3,[.int .i64 x2]),some (b4,129,[r3]),some (b3,26,[v7]),o4] w19:=hS24.pick [3,2,0,1,4]
  exact BK.mk' _ ⟨k2 + 1,r3,timesH x.t x2,x2,v7,o6,G10,rfl,(hle6.trans ((hle7.trans hle9).trans hle10)),hP2,(Row.cast hr8 (by ((rw [run_new (by assumption) (by rw [← hnw]; exact of_decide_eq_false (by assumption))]; simp only [hnw,hfr])))),⟨rfl,rfl,rfl,rfl,rfl,rfl,rfl,rfl,trivial⟩,(by omega),((hpost3.mono (hle9.trans hle10))),(by (rw [run_new (by assumption) (by rw [← hnw]; exact of_decide_eq_false (by assumption))])),(by (rw [run_new (by assumption) (by rw [← hnw]; exact of_decide_eq_false (by assumption))])),(by assumption)⟩ (show (cutsL x.t).length - (k2 + 1) < (cutsL x.t).length - k2 by omega)
 refine WL.loadO1 hS19 3 _ _ _ 0 _ rfl rfl ti26 rfl rfl rfl ?_
 obtain ⟨G11,hle11,hs4,hS25⟩:=Row.freeze hr6 hS19 0 rfl
 exact RT hS25 rfl (Sl.cast hs4 (by exact normG_all (by omega)))
end Go.Civ
