/- Lemmas: Wf, Wh0. -/
import Derived.Test.YtjjkgobhlfmhhaaGreatU20
import Derived.Test.YtjjkgobhlfmhhaaGreatU25
import Derived.Test.YtjjkgobhlfmhhaaGreatU27
import Derived.Test.YtjjkgobhlfmhhaaGreatProg
import Derived.KernelRfl
import Derived.WalkKit
set_option linter.unusedVariables false
set_option linter.unusedSimpArgs false
set_option maxRecDepth 100000
set_option maxHeartbeats 4000000
namespace Go.Civ
open Go.Proofs
theorem c_groups {G : GH} {w : World} (hG : G.In w) (l : List HRow) (vl : Value) (hvl : Sl HRowE 56 G vl l) (hgood : GoodH l) (hlen : ∀ r ∈ l,r.v.length ≤ 1000) (hl2 : l.length ≤ 2000) : CL Tryz.prog (nat_lit 92) #[vl] [] w G fun G' _ r=>Sl HGrpE 48 G' r (grpH l):=by
 refine calls_of_go ft [] Tryz.func92 rfl rfl ?_
 have hkey:=keyOk_rows hvl hgood hlen
 have hS:=St.start (X:=[]) hG
 refine WL.makeMapS (P:=Tryz.prog) (nat_lit 9) (nat_lit 3) hS rfl (fun bM1 w1 hM1 hA1 hS1=>?_)
 have bd1:=hvl.bound
 refine WL.lenSl hvl ul26 rfl rfl ?_
 have hS3:=hS1.pad
 refine LP.go ft [] (fun m ρ1 w1=>∃ (k1 : Nat),∃ (L : List (List Val × Value)),∃ (O : Own),∃ (v1 : Value) (o1 : OB),∃ (G1 : GH),m = l.length - k1 ∧ G.le G1 ∧ St w [] G G1 (o1 :: O) w1 ∧ Row GroupW 48 128 G1 v1 L o1 ∧ FR ρ1 [(3, .map (some bM1)),(4,v1),(11,vl),(12, .int .i64 (l.length : Int)),(13, .int .i64 (k1 : Int))] ∧ k1 ≤ l.length ∧ HRel (nat_lit 64) G1 (hgroups (l.take k1)) L O ∧ SMap Tryz.prog (nat_lit 9) (nat_lit 3) w1 bM1 k1 (mapOf (hgroups (l.take k1))) ∧ Apart w G1 (o1 :: O) bM1) _ ⟨0,[],[],(.slice none 0 0),none,G,rfl,(G.le_refl),hS3,(Row.nil GroupW 48 128 G),⟨rfl,rfl,rfl,rfl,rfl,trivial⟩,(by omega),(by exact HRel.nil),(by exact hM1),(by exact ⟨hA1.new,hA1.gh,fun i p hp=>by cases i <;> simp at hp⟩)⟩ ?_
 rintro m ρ1 w2 ⟨k1,L,O,v1,o1,G1,rfl,hle1,hS2,hr1,hF9,f1,f2,f3,f4⟩
 refine hF9.set ?_
 clear hF9
 have hL9:=HRel.len (by assumption : HRel _ _ (hgroups (l.take k1)) L O)
 have hL8:=hgrp_len l k1
 have hR1:=hS2.rebase
 refine WL.lssS (k1 : Int) (l.length : Int) rfl rfl rfl (fun h1=>?_) (fun h1=>?_)
 ·refine WL.indexAddr (hvl.mono hle1) k1 (by omega) ul26 ti64 rfl rfl rfl rfl (fun p1 x1 hx1 he1=>?_)
  obtain ⟨cs1,hc1,hr2⟩:=he1
  obtain ⟨v2,rfl,hs1,hb1,hb2,hb3,hb4⟩:=HRowE_open hr2
  refine WL.loadGAt hR1 hc1 [v2, .int .i64 x1.r.d.a, .int .i64 x1.r.d.b, .int .i64 x1.r.x.a, .int .i64 x1.r.x.b] ti64 rfl rfl rfl rfl rfl ?_
  refine WL.alloc hR1 ti64 rfl rfl (fun b1 w3 hn1 hS4=>?_)
  refine WL.store hS4 0 _ _ _ 0 _ [v2, .int .i64 x1.r.d.a, .int .i64 x1.r.d.b, .int .i64 x1.r.x.a, .int .i64 x1.r.x.b] [v2, .int .i64 x1.r.d.a, .int .i64 x1.r.d.b, .int .i64 x1.r.x.a, .int .i64 x1.r.x.b] _ rfl rfl ti64 rfl (Nat.le_of_ble_eq_true rfl) (by simp only [List.all_cons,List.all_nil,hs1.oneC,Bool.true_and] <;> rfl) rfl rfl rfl rfl rfl (fun w4 hS5=>?_)
  obtain ⟨G2,hle2,hc2,hS6⟩:=hS5.shutB hn1
  refine WL.loadG1 hS6 (Cells.drop 0 hc2) ti36 rfl rfl rfl ?_
  refine WL.cV hS6 hb130 rfl rfl rfl (c_key hS6.imm x1.v _ (hs1.mono hle2)) (fun w5 G3 hS7 hle3=>?_)
  have hMA1:=f3.keep f4 hS7 hS2.kept.size
  refine WL.lookupS (keyE x1.v) hMA1.1 ul165 ul9 ul3 keyE_len (by rfl) rfl rfl rfl (fun hN1=>?_) (fun c1 hc3=>?_)
  ·have bd2:=hr1.bound
   refine WL.lenRow (hr1.mono (hle2.trans hle3)) ul125 rfl rfl ?_
   have hMA2:=f3.keep f4 hS7 hS2.kept.size
   have hSc1:=hS2.comp hS7
   refine WL.mapUpdateS (keyE x1.v) (L.length : Int) hSc1 hMA2.1 hMA2.2 ul165 ul9 ul3 keyE_len ⟨by omega,by omega⟩ (by unfold reach; omega) rfl rfl rfl rfl (fun w6 hM2 hS8=>?_)
   have hR2:=hS8.rebase
   refine WL.loadG1 hR2 (Cells.drop 0 (hc2.mono hle3)) ti36 rfl rfl rfl ?_
   refine WL.build _ [(0,[v2])] [v2, .slice none 0 0] ti128 rfl fl128 rfl rfl (by show [(0,(v2 : Value).cells.toList)] = _; simp only [(hs1.mono (hle2.trans hle3)).cells1] <;> rfl) rfl ?_
   refine WL.buildSlice _ [(0,[v2, .slice none 0 0])] [v2, .slice none 0 0] hR2 sl125 rfl rfl rfl rfl (fun z hz=>by match z,hz with | [z0,z1],_=>rfl) (fun b2 w7 hn2 hS9=>?_)
   refine WL.push (m:=([(x1.v,(Value.slice none 0 0))] : List (List Val × Value))) sl125 rfl rfl rfl (hr1.mono (hle2.trans hle3)) hS9 1 rfl 0 _ _ _ _ _ rfl ⟨[v2, .slice none 0 0],_,rfl,(GroupW_mk (x1.v,(Value.slice none 0 0)) (hs1.mono (hle2.trans hle3)) rfl),rfl⟩ rfl (by have hreach : reach = 140737488355328:=rfl; simp only [List.length_append,List.length_cons,List.length_nil]; omega) (by have hreach : reach = 140737488355328:=rfl; simp only [List.length_append,List.length_cons,List.length_nil]; omega) rfl rfl rfl (fun v3 o2 w9 hr3 hS10=>?_)
   have hS11:=hS10.tail
   have hR3:=hS11.padEnd
   have hgr1:=(HRel.mono f2 (hle2.trans hle3)).push x1.v
   have hl1:=hgr1.len; simp only [List.length_append,List.length_cons,List.length_nil] at hl1
   have hnew:=hg_new hkey hx1 hN1
   obtain ⟨p2,x2,ec1,hx2,hr4,ra1,ep1⟩:=Row.atP hr3 L.length (by (simp only [List.length_append,List.length_cons,List.length_nil]; omega))
   obtain ⟨v4,rfl,hs2,ho1⟩:=GroupW_open hr4
   obtain ⟨p3,x3,ec2,hx3,hr5,ra2,ep2⟩:=Row.atP hr3 L.length (by (simp only [List.length_append,List.length_cons,List.length_nil]; omega))
   obtain rfl : x2 = x3:=Option.some.inj (hx2.symm.trans hx3)
   obtain ⟨v5,rfl,hs3,ho2⟩:=GroupW_open hr5
   refine dr [(8,true),(9,false),(12,false)] [(43, .pointer (some p2)),(45,x2.2),(46, .agg #[v2, .int .i64 x1.r.d.a, .int .i64 x1.r.d.b, .int .i64 x1.r.x.a, .int .i64 x1.r.x.b]),(49, .pointer (some p3))] hR3 ⟨fun _=>WL.indexAddrP L.length ep1 ul125 ti128 rfl rfl rfl rfl <| nu rfl rfl,fun _ hSw=>WL.loadR1 ra1 hSw 0 rfl 1 _ rfl ti26 rfl rfl rfl <| nu rfl rfl,fun _ hSw=>WL.loadGAt hSw (hc2.mono hle3) [v2, .int .i64 x1.r.d.a, .int .i64 x1.r.d.b, .int .i64 x1.r.x.a, .int .i64 x1.r.x.b] ti64 rfl rfl rfl rfl rfl <| nu rfl rfl,fun _=>WL.indexAddrP L.length ep2 ul125 ti128 rfl rfl rfl rfl <| nu rfl rfl,trivial⟩ (fun w10 hS12=>?_)
   refine WL.buildSlice _ [(0,[v2, .int .i64 x1.r.d.a, .int .i64 x1.r.d.b, .int .i64 x1.r.x.a, .int .i64 x1.r.x.b])] [v2, .int .i64 x1.r.d.a, .int .i64 x1.r.d.b, .int .i64 x1.r.x.a, .int .i64 x1.r.x.b] hS12 sl26 rfl rfl rfl rfl (fun z hz=>by match z,hz with | [z0,z1,z2,z3,z4],_=>rfl) (fun b3 w11 hn3 hS13=>?_)
   refine ⟨hS13.tail.down hS12.le (G3.le_refl),?_⟩
   obtain ⟨g9,o9,hg9,ho9,hv9,hu9⟩:=HRel.atL hgr1 hx2
   have hgt9 : g9.t.length ≤ 2000:=by exact Nat.le_trans (hg_tlen' hg9) hl2
   refine WL.push (m:=([x1] : List HRow)) sl26 rfl rfl rfl hu9 hS13 (L.length + 2) ho9 0 _ _ _ _ _ rfl ⟨[v2, .int .i64 x1.r.d.a, .int .i64 x1.r.d.b, .int .i64 x1.r.x.a, .int .i64 x1.r.x.b],_,rfl,(HRowE_mk x1 (hs1.mono (hle2.trans hle3)) hb1 hb2 hb3 hb4),rfl⟩ rfl (by have hreach : reach = 140737488355328:=rfl; simp only [List.length_append,List.length_cons,List.length_nil]; omega) (by have hreach : reach = 140737488355328:=rfl; simp only [List.length_append,List.length_cons,List.length_nil]; omega) rfl rfl rfl (fun v6 o3 w12 hr6 hS14=>?_)
   have hS15:=hS14.tail
   refine WL.storeR hr3 ra2 hS15 0 rfl (by (simp only [List.length_append,List.length_cons,List.length_nil]; omega)) rfl 1 _ [v6] (x2.1,v6) [v5,v6] hr6.cells1 ti26 rfl (Nat.le_of_ble_eq_true rfl) (by simp only [List.all_cons,List.all_nil,hr6.oneC,Bool.true_and] <;> rfl) rfl (GroupW_mk (x2.1,v6) hs3 hr6.oneC) rfl rfl rfl (fun o4 w13 hr7 hS16=>?_)
   refine WL.incr k1 (by have hreach : reach = 140737488355328:=rfl; omega) rfl rfl rfl ?_
   have hMA3:=hM2.keep hMA2.2 hS16 hS8.kept.size
   have hSc2 : St w [] G G3 (o4 :: (List.set ((O ++ [none] : Own) : Own) L.length o3)) w13:=hS8.comp hS16
   exact BK.mk' _ ⟨k1 + 1,((L ++ [(x1.v,(Value.slice none 0 0))]).set L.length (x2.1,v6)),(List.set ((O ++ [none] : Own) : Own) L.length o3),v3,o4,G3,rfl,(hle1.trans (hle2.trans hle3)),hSc2,hr7,⟨rfl,rfl,rfl,rfl,rfl,trivial⟩,(by omega),(by rw [hnew]; (rw [← HRel.len (by assumption : HRel _ _ (hgroups (l.take k1)) L O)]; exact HRel.set hgr1 hg9 hv9 hr6)),(by rw [map_new hnew hN1,← HRel.len (by assumption : HRel _ _ (hgroups (l.take k1)) L O)]; exact hMA3.1),(hMA3.2)⟩ (show l.length - (k1 + 1) < l.length - k1 by omega)
  obtain ⟨i1,rfl,hi1,hg1⟩:=hg_found hkey hx1 hc3
  have hgr2:=HRel.mono f2 (hle2.trans hle3)
  have hl9:=hgr2.len
  obtain ⟨p4,x4,ec3,hx4,hr8,ra3,ep3⟩:=Row.atP (hr1.mono (hle2.trans hle3)) i1 (by omega)
  obtain ⟨v7,rfl,hs4,ho3⟩:=GroupW_open hr8
  obtain ⟨p5,x5,ec4,hx5,hr9,ra4,ep4⟩:=Row.atP (hr1.mono (hle2.trans hle3)) i1 (by omega)
  obtain rfl : x4 = x5:=Option.some.inj (hx4.symm.trans hx5)
  obtain ⟨v9,rfl,hs5,ho4⟩:=GroupW_open hr9
  refine dr [(8,true),(9,false),(12,false)] [(43, .pointer (some p4)),(45,x4.2),(46, .agg #[v2, .int .i64 x1.r.d.a, .int .i64 x1.r.d.b, .int .i64 x1.r.x.a, .int .i64 x1.r.x.b]),(49, .pointer (some p5))] hS7 ⟨fun _=>WL.indexAddrP i1 ep3 ul125 ti128 rfl rfl rfl rfl <| nu rfl rfl,fun _ hSw=>WL.loadR1 ra3 hSw 0 rfl 1 _ rfl ti26 rfl rfl rfl <| nu rfl rfl,fun _ hSw=>WL.loadGAt hSw (hc2.mono hle3) [v2, .int .i64 x1.r.d.a, .int .i64 x1.r.d.b, .int .i64 x1.r.x.a, .int .i64 x1.r.x.b] ti64 rfl rfl rfl rfl rfl <| nu rfl rfl,fun _=>WL.indexAddrP i1 ep4 ul125 ti128 rfl rfl rfl rfl <| nu rfl rfl,trivial⟩ (fun w14 hS17=>?_)
  refine WL.buildSlice _ [(0,[v2, .int .i64 x1.r.d.a, .int .i64 x1.r.d.b, .int .i64 x1.r.x.a, .int .i64 x1.r.x.b])] [v2, .int .i64 x1.r.d.a, .int .i64 x1.r.d.b, .int .i64 x1.r.x.a, .int .i64 x1.r.x.b] hS17 sl26 rfl rfl rfl rfl (fun z hz=>by match z,hz with | [z0,z1,z2,z3,z4],_=>rfl) (fun b4 w15 hn4 hS18=>?_)
  refine ⟨hS18.tail.down hS17.le (G3.le_refl),?_⟩
  obtain ⟨g9,o9,hg9,ho9,hv9,hu9⟩:=HRel.atL hgr2 hx4
  have hgt9 : g9.t.length ≤ 2000:=by exact Nat.le_trans (hg_tlen hg9) hl2
  refine WL.push (m:=([x1] : List HRow)) sl26 rfl rfl rfl hu9 hS18 (i1 + 2) ho9 0 _ _ _ _ _ rfl ⟨[v2, .int .i64 x1.r.d.a, .int .i64 x1.r.d.b, .int .i64 x1.r.x.a, .int .i64 x1.r.x.b],_,rfl,(HRowE_mk x1 (hs1.mono (hle2.trans hle3)) hb1 hb2 hb3 hb4),rfl⟩ rfl (by have hreach : reach = 140737488355328:=rfl; simp only [List.length_append,List.length_cons,List.length_nil]; omega) (by have hreach : reach = 140737488355328:=rfl; simp only [List.length_append,List.length_cons,List.length_nil]; omega) rfl rfl rfl (fun v10 o5 w16 hr10 hS19=>?_)
  have hS20:=hS19.tail
  refine WL.storeR (hr1.mono (hle2.trans hle3)) ra4 hS20 0 rfl (by omega) rfl 1 _ [v10] (x4.1,v10) [v9,v10] hr10.cells1 ti26 rfl (Nat.le_of_ble_eq_true rfl) (by simp only [List.all_cons,List.all_nil,hr10.oneC,Bool.true_and] <;> rfl) rfl (GroupW_mk (x4.1,v10) hs5 hr10.oneC) rfl rfl rfl (fun o6 w17 hr11 hS21=>?_)
  refine WL.incr k1 (by have hreach : reach = 140737488355328:=rfl; omega) rfl rfl rfl ?_
  have hMA4:=f3.keep f4 hS21 hS2.kept.size
  have hSc3 : St w [] G G3 (o6 :: (List.set (O : Own) i1 o5)) w17:=hS2.comp hS21
  exact BK.mk' _ ⟨k1 + 1,(L.set i1 (x4.1,v10)),(List.set (O : Own) i1 o5),v1,o6,G3,rfl,(hle1.trans (hle2.trans hle3)),hSc3,hr11,⟨rfl,rfl,rfl,rfl,rfl,trivial⟩,(by omega),(by rw [hg1]; exact HRel.set hgr2 hg9 hv9 hr10),(by rw [map_found hg1]; exact SMap.mono hMA4.1 (by omega)),(hMA4.2)⟩ (show l.length - (k1 + 1) < l.length - k1 by omega)
 obtain ⟨G4,hle4,hS22,hFz⟩:=freezeAll hS2 f2
 have hgs : hgroups (l.take k1) = hgroups l:=by rw [List.take_of_length_le (by omega)]
 rw [hgs] at hFz
 have hrow:=Row.hgroups (hr1.mono hle4) hFz
 refine WL.cR hb131 rfl rfl rfl (c_SortG hS22.imm (hgroups l) _ _ hrow (hS22.lentAt 0 rfl) (hgrp_valid hgood)) (fun w18 G5 r1 hres1 hpost1=>?_)
 have hle5:=hres1.le
 obtain ⟨rfl,l1,o7,hr12,hf1,hq1⟩:=hpost1
 have hS24:=hS22.callRow 0 rfl hres1 hrow hr12 hf1
 obtain ⟨G6,hle6,hs6,hS25⟩:=Row.freeze hr12 hS24 0 rfl
 exact RT hS25 rfl (Sl.cast hs6 (by exact grpH_of (fun r hr=>(goodB_parts (hgood r hr)).1) hq1.1 hq1.2))
end Go.Civ
set_option linter.unusedVariables false
set_option linter.unusedSimpArgs false
set_option maxRecDepth 100000
set_option maxHeartbeats 4000000
namespace Go.Civ
open Go.Proofs
theorem c_hnormal {G : GH} {w : World} (hG : G.In w) (l : List HRow) (vl : Value) (hvl : Sl HRowE 56 G vl l) (hgood : GoodH l) (hlen : ∀ r ∈ l,r.v.length ≤ 1000) (hl : l.length ≤ 2000) : CL Tryz.prog (nat_lit 66) #[vl] [] w G fun G' _ r=>Sl HRowE 56 G' r (normH l):=by
 refine calls_of_go ft [] Tryz.func66 rfl rfl ?_
 have hS:=St.start (X:=[]) hG
 refine WL.cA hS hb92 rfl rfl rfl (c_groups hS.imm l _ hvl hgood hlen hl) (fun w1 G1 r1 hpost1 hS1 hle1=>?_)
 have bd1:=hpost1.bound
 refine WL.lenSl hpost1 ul125 rfl rfl ?_
 have hS3:=hS1.pad
 refine LP.go ft [] (fun m ρ1 w1=>∃ (k1 : Nat),∃ (v1 : Value) (o1 : OB),∃ (G2 : GH),m = (grpH l).length - k1 ∧ G1.le G2 ∧ St w [] G G2 [o1] w1 ∧ Row HRowE 56 64 G2 v1 (normP ((grpH l).take k1)) o1 ∧ FR ρ1 [(3,v1),(7,r1),(8, .int .i64 (((grpH l).length : Nat) : Int)),(9, .int .i64 (k1 : Int))] ∧ k1 ≤ (grpH l).length) _ ⟨0,(.slice none 0 0),none,G1,rfl,(G1.le_refl),hS3,(Row.nil HRowE 56 64 G1),⟨rfl,rfl,rfl,rfl,trivial⟩,(by omega)⟩ ?_
 rintro m ρ1 w2 ⟨k1,v1,o1,G2,rfl,hle2,hS2,hr1,hF9,f1⟩
 refine hF9.set ?_
 clear hF9
 have hgl:=@grpH_len l
 have hpl:=normP_takeLen (k:=k1) (fun g hg=>Nat.le_trans (grpH_t g hg) hl) (Nat.le_trans hgl hl)
 refine WL.lssS (k1 : Int) (((grpH l).length : Nat) : Int) rfl rfl rfl (fun h1=>?_) (fun h1=>?_)
 ·refine WL.indexAddr (hpost1.mono hle2) k1 (by omega) ul125 ti128 rfl rfl rfl rfl (fun p1 x1 hx1 he1=>?_)
  obtain ⟨cs1,hc1,hr2⟩:=he1
  obtain ⟨v2,v3,rfl,hs1,hs2⟩:=HGrpE_open hr2
  refine WL.loadGAt hS2 hc1 [v2,v3] ti128 rfl rfl rfl rfl rfl ?_
  refine WL.alloc hS2 ti128 rfl rfl (fun b1 w3 hn1 hS4=>?_)
  refine WL.store hS4 0 _ _ _ 0 _ [v2,v3] [v2,v3] _ rfl rfl ti128 rfl (Nat.le_of_ble_eq_true rfl) (by simp only [List.all_cons,List.all_nil,hs1.oneC,hs2.oneC,Bool.true_and] <;> rfl) rfl rfl rfl rfl rfl (fun w4 hS5=>?_)
  obtain ⟨G3,hle3,hc2,hS6⟩:=hS5.shutB hn1
  have hok:=grpH_ok hgood hl (by assumption : (grpH l)[k1]? = some _); have hgn:=normG_len hok.2
  refine WL.loadGAt hS6 hc2 [v2,v3] ti128 rfl rfl rfl rfl rfl ?_
  refine WL.cA hS6 hb120 rfl rfl rfl (c_gnormal hS6.imm x1 _ (HGrpE_mk x1 (hs1.mono hle3) (hs2.mono hle3)) hok.1 hok.2) (fun w5 G4 r2 hpost2 hS7 hle4=>?_)
  refine WL.pushSl sl26 rfl rfl rfl (hr1.mono (hle3.trans hle4)) hS7 0 rfl hpost2 (by have hreach : reach = 140737488355328:=rfl; (show _ * 56 ≤ _; omega)) (by have hreach : reach = 140737488355328:=rfl; omega) rfl rfl rfl (fun v4 o2 w6 hr3 hS8=>?_)
  refine WL.incr k1 (by have hreach : reach = 140737488355328:=rfl; omega) rfl rfl rfl ?_
  exact BK.mk' _ ⟨k1 + 1,v4,o2,G4,rfl,(hle2.trans (hle3.trans hle4)),hS8,(Row.cast hr3 (by (rw [normP_take (by assumption)]))),⟨rfl,rfl,rfl,rfl,trivial⟩,(by omega)⟩ (show (grpH l).length - (k1 + 1) < (grpH l).length - k1 by omega)
 obtain ⟨G5,hle5,hs3,hS9⟩:=Row.freeze hr1 hS2 0 rfl
 exact RT hS9 rfl (Sl.cast hs3 (by rw [List.take_of_length_le (by omega)]; rfl))
theorem c_IndexR {G : GH} {w : World} (hG : G.In w) (l : List HRow) (pf : HRow → Bool) (vl : Value) (hvl : Sl HRowE 56 G vl l) (fid : Nat) (fcap : Array Value) (hf : FnB Tryz.prog (Is HRowE) fid fcap G (fun x=>x ∈ l) pf) : CL Tryz.prog (nat_lit 97) #[vl, .func (.func fid) #[] fcap] [] w G fun _ _ r=>r = .int .i64 (idxF pf l):=by
 refine calls_of_go ft [] Tryz.func97 rfl rfl ?_
 have hS:=St.start (X:=[]) hG
 have bd1:=hvl.bound
 refine WL.lenSl hvl ul26 rfl rfl ?_
 refine LP.go ft [] (fun m ρ1 w1=>∃ (k1 : Nat),∃ (G1 : GH),m = l.length - k1 ∧ G.le G1 ∧ St w [] G G1 [] w1 ∧ FR ρ1 [(0,vl),(1, .func (.func fid) #[] fcap),(7, .int .i64 (l.length : Int)),(8, .int .i64 (k1 : Int))] ∧ k1 ≤ l.length ∧ ∀ j,j < k1 → ∀ x,l[j]? = some x → pf x = false) _ ⟨0,G,rfl,(G.le_refl),hS,⟨rfl,rfl,rfl,rfl,trivial⟩,(by omega),(by intro j hj; omega)⟩ ?_
 rintro m ρ1 w1 ⟨k1,G1,rfl,hle1,hS1,hF9,f1,f2⟩
 refine hF9.set ?_
 clear hF9
 refine WL.lssS (k1 : Int) (l.length : Int) rfl rfl rfl (fun h1=>?_) (fun h1=>?_)
 ·refine WL.indexAddr (hvl.mono hle1) k1 (by omega) ul26 ti64 rfl rfl rfl rfl (fun p1 x1 hx1 he1=>?_)
  obtain ⟨cs1,hc1,hr1⟩:=he1
  obtain ⟨v1,rfl,hs1,hb1,hb2,hb3,hb4⟩:=HRowE_open hr1
  refine WL.loadGAt hS1 hc1 [v1, .int .i64 x1.r.d.a, .int .i64 x1.r.d.b, .int .i64 x1.r.x.a, .int .i64 x1.r.x.b] ti64 rfl rfl rfl rfl rfl ?_
  refine WL.cV hS1 hf.body rfl rfl rfl (hf.call _ _ (.agg #[v1, .int .i64 x1.r.d.a, .int .i64 x1.r.d.b, .int .i64 x1.r.x.a, .int .i64 x1.r.x.b]) x1 hle1 hS1.imm (List.mem_of_getElem? hx1) ⟨_,rfl,(HRowE_mk x1 hs1 hb1 hb2 hb3 hb4)⟩) (fun w2 G2 hS2 hle2=>?_)
  refine WL.split (fun (h2 : (pf x1) = true)=>?_) (fun (h2 : (pf x1) = false)=>?_)
  ·exact RI hS2 rfl (by exact (idxF_some _ (by assumption) (by assumption) (by assumption)).symm)
  refine WL.incr k1 (by have hreach : reach = 140737488355328:=rfl; omega) rfl rfl rfl ?_
  exact BK.mk' _ ⟨k1 + 1,G2,rfl,(hle1.trans hle2),hS2,⟨rfl,rfl,rfl,rfl,trivial⟩,(by omega),(by exact lt_step (by assumption) (by assumption) (by assumption))⟩ (show l.length - (k1 + 1) < l.length - k1 by omega)
 exact RI hS1 rfl (by exact (idxF_none' (by assumption) (by omega)).symm)
theorem c_ContainsR {G : GH} {w : World} (hG : G.In w) (l : List HRow) (pf : HRow → Bool) (vl : Value) (hvl : Sl HRowE 56 G vl l) (fid : Nat) (fcap : Array Value) (hf : FnB Tryz.prog (Is HRowE) fid fcap G (fun x=>x ∈ l) pf) : CL Tryz.prog (nat_lit 34) #[vl, .func (.func fid) #[] fcap] [] w G fun _ _ r=>r = .bool (l.any pf):=by
 refine calls_of_go ft [] Tryz.func34 rfl rfl ?_
 have hS:=St.start (X:=[]) hG
 refine WL.cV hS hb97 rfl rfl rfl (c_IndexR hS.imm l pf _ hvl fid fcap (hf.up (G.le_refl))) (fun w1 G1 hS1 hle1=>?_)
 refine WL.cmp .geq rfl .i64 (idxF pf l) 0 rfl rfl rfl ?_
 exact RB hS1 rfl (by exact idxF_any _ _)
theorem c_hgood1 {G : GH} {w : World} (hG : G.In w) (x : Val) (cx : List Value) (hcx : ValE.rep G x cx) : CL Tryz.prog (nat_lit 119) #[.agg cx.toArray] [] w G fun _ _ r=>r = .bool (!valB x):=by
 refine calls_of_go ft [] Tryz.func119 rfl rfl ?_
 have hS:=St.start (X:=[]) hG
 obtain ⟨rfl,hb1,hb2,hb3⟩:=ValE_open hcx
 refine WL.boxG [.int .i64 x.k, .int .i64 x.n,strV x.s] _ hS rfl rfl rfl (fun p1 w1 G1 hle1 hsp1 hc1 hS1=>?_)
 refine WL.loadGAt hS1 hc1 [.int .i64 x.k, .int .i64 x.n,strV x.s] ti48 rfl rfl rfl rfl rfl ?_
 refine WL.cV hS1 hb50 rfl rfl rfl (c_vValid hS1.imm x _ (ValE_mk x hb1 hb2 hb3)) (fun w2 G2 hS2 hle2=>?_)
 exact RB hS2 rfl (by rfl)
theorem c_hgood {G : GH} {w : World} (hG : G.In w) (x : HRow) (cx : List Value) (hcx : HRowE.rep G x cx) : CL Tryz.prog (nat_lit 64) #[.agg cx.toArray] [] w G fun _ _ r=>r = .bool (goodB x):=by
 refine calls_of_go ft [] Tryz.func64 rfl rfl ?_
 have hS:=St.start (X:=[]) hG
 obtain ⟨v1,rfl,hs1,hb1,hb2,hb3,hb4⟩:=HRowE_open hcx
 refine WL.boxG [v1, .int .i64 x.r.d.a, .int .i64 x.r.d.b, .int .i64 x.r.x.a, .int .i64 x.r.x.b] _ hS rfl rfl rfl (fun p1 w1 G1 hle1 hsp1 hc1 hS1=>?_)
 refine WL.loadG1 hS1 (Cells.drop 0 hc1) ti36 rfl rfl rfl ?_
 refine WL.cV hS1 hb79 rfl rfl rfl (c_ContainsV hS1.imm x.v (fun x8=>!valB x8) _ (hs1.mono hle1) 119 #[] ⟨hb119,fun G8 w8 v8 x8 hle8 hG8 hon8 hA8=>by obtain ⟨cs_x8,rfl,hr_x8⟩:=hA8; exact c_hgood1 hG8 x8 cs_x8 hr_x8⟩) (fun w2 G2 hS2 hle2=>?_)
 refine WL.split (fun (h1 : (x.v.any (fun x8=>!valB x8)) = true)=>?_) (fun (h1 : (x.v.any (fun x8=>!valB x8)) = false)=>?_)
 ·exact RB hS2 rfl (by exact goodB_1 (by assumption))
 refine WL.loadGAt hS2 (Cells.drop 0 (Cells.drop 1 (hc1.mono hle2))) [.int .i64 x.r.d.a, .int .i64 x.r.d.b] ti38 rfl rfl rfl rfl rfl ?_
 refine WL.cV hS2 hb74 rfl rfl rfl (c_hspan hS2.imm x.r.d _ (SpanE_mk x.r.d hb1 hb2)) (fun w3 G3 hS3 hle3=>?_)
 refine WL.split (fun (h2 : (spanB x.r.d) = true)=>?_) (fun (h2 : (spanB x.r.d) = false)=>?_)
 ·refine WL.loadGAt hS3 (Cells.drop 2 (Cells.drop 1 (hc1.mono (hle2.trans hle3)))) [.int .i64 x.r.x.a, .int .i64 x.r.x.b] ti38 rfl rfl rfl rfl rfl ?_
  refine WL.cV hS3 hb74 rfl rfl rfl (c_hspan hS3.imm x.r.x _ (SpanE_mk x.r.x hb3 hb4)) (fun w4 G4 hS4 hle4=>?_)
  exact RB hS4 rfl (by exact goodB_3 (by assumption) (by assumption))
 exact RB hS3 rfl (by exact goodB_2 (by assumption) (by assumption))
theorem c_hequal {G : GH} {w : World} (hG : G.In w) (x y : HRow) (cx : List Value) (hcx : HRowE.rep G x cx) (cy : List Value) (hcy : HRowE.rep G y cy) : CL Tryz.prog (nat_lit 67) #[.agg cx.toArray, .agg cy.toArray] [] w G fun _ _ r=>r = .bool (decide (x = y)):=by
 refine calls_of_go ft [] Tryz.func67 rfl rfl ?_
 have hS:=St.start (X:=[]) hG
 obtain ⟨v1,rfl,hs1,hb1,hb2,hb3,hb4⟩:=HRowE_open hcx
 obtain ⟨v2,rfl,hs2,hb5,hb6,hb7,hb8⟩:=HRowE_open hcy
 refine WL.boxG [v1, .int .i64 x.r.d.a, .int .i64 x.r.d.b, .int .i64 x.r.x.a, .int .i64 x.r.x.b] _ hS rfl rfl rfl (fun p1 w1 G1 hle1 hsp1 hc1 hS1=>?_)
 refine WL.boxG [v2, .int .i64 y.r.d.a, .int .i64 y.r.d.b, .int .i64 y.r.x.a, .int .i64 y.r.x.b] _ hS1 rfl rfl rfl (fun p2 w2 G2 hle2 hsp2 hc2 hS2=>?_)
 refine WL.loadG1 hS2 (Cells.drop 0 (hc1.mono hle2)) ti36 rfl rfl rfl <| WL.loadG1 hS2 (Cells.drop 0 hc2) ti36 rfl rfl rfl ?_
 refine WL.cV hS2 hb46 rfl rfl rfl (c_vSame hS2.imm x.v y.v _ (hs1.mono (hle1.trans hle2)) _ (hs2.mono (hle1.trans hle2))) (fun w3 G3 hS3 hle3=>?_)
 refine WL.split (fun (h1 : (decide (x.v = y.v)) = true)=>?_) (fun (h1 : (decide (x.v = y.v)) = false)=>?_)
 ·refine WL.loadGAt hS3 (Cells.drop 1 (hc1.mono (hle2.trans hle3))) [.int .i64 x.r.d.a, .int .i64 x.r.d.b, .int .i64 x.r.x.a, .int .i64 x.r.x.b] ti62 rfl rfl rfl rfl rfl <| WL.loadGAt hS3 (Cells.drop 1 (hc2.mono hle3)) [.int .i64 y.r.d.a, .int .i64 y.r.d.b, .int .i64 y.r.x.a, .int .i64 y.r.x.b] ti62 rfl rfl rfl rfl rfl <| WL.aggEq (RectEq62 x.r y.r) eqg62 rfl rfl rfl ?_
  exact RB hS3 rfl (by exact hrow_eq_r (by assumption))
 exact RB hS3 rfl (by exact hrow_eq_v (by assumption))
theorem c_EqualR {G : GH} {w : World} (hG : G.In w) (a b : List HRow) (pf : HRow → HRow → Bool) (va : Value) (hva : Sl HRowE 56 G va a) (vb : Value) (hvb : Sl HRowE 56 G vb b) (fid : Nat) (fcap : Array Value) (hf : FnB2 Tryz.prog (Is HRowE) (Is HRowE) fid fcap G (fun x y=>x ∈ a ∧ y ∈ b) pf) : CL Tryz.prog (nat_lit 65) #[va,vb, .func (.func fid) #[] fcap] [] w G fun _ _ r=>r = .bool (eqF pf a b):=by
 refine calls_of_go ft [] Tryz.func65 rfl rfl ?_
 have hS:=St.start (X:=[]) hG
 have bd1:=hva.bound
 refine WL.lenSl hva ul26 rfl rfl ?_
 have bd2:=hvb.bound
 refine WL.lenSl hvb ul26 rfl rfl ?_
 refine WL.neqS (a.length : Int) (b.length : Int) rfl rfl rfl (fun h1=>?_) (fun h1=>?_)
 ·exact RB hS rfl (by exact (eqF_len (by omega)).symm)
 have bd3:=hva.bound
 refine WL.lenSl hva ul26 rfl rfl ?_
 refine LP.go ft [] (fun m ρ1 w1=>∃ (k1 : Nat),∃ (G1 : GH),m = a.length - k1 ∧ G.le G1 ∧ St w [] G G1 [] w1 ∧ FR ρ1 [(1,vb),(2, .func (.func fid) #[] fcap),(15,va),(16, .int .i64 (a.length : Int)),(17, .int .i64 (k1 : Int))] ∧ k1 ≤ a.length ∧ ∀ j,j < k1 → ∀ x y,a[j]? = some x → b[j]? = some y → pf x y = true) _ ⟨0,G,rfl,(G.le_refl),hS,⟨rfl,rfl,rfl,rfl,rfl,trivial⟩,(by omega),(by intro j hj; omega)⟩ ?_
 rintro m ρ1 w1 ⟨k1,G1,rfl,hle1,hS1,hF9,f1,f2⟩
 refine hF9.set ?_
 clear hF9
 refine WL.lssS (k1 : Int) (a.length : Int) rfl rfl rfl (fun h2=>?_) (fun h2=>?_)
 ·refine WL.indexAddr (hva.mono hle1) k1 (by omega) ul26 ti64 rfl rfl rfl rfl (fun p1 x1 hx1 he1=>?_)
  obtain ⟨cs1,hc1,hr1⟩:=he1
  obtain ⟨v1,rfl,hs1,hb1,hb2,hb3,hb4⟩:=HRowE_open hr1
  refine WL.loadGAt hS1 hc1 [v1, .int .i64 x1.r.d.a, .int .i64 x1.r.d.b, .int .i64 x1.r.x.a, .int .i64 x1.r.x.b] ti64 rfl rfl rfl rfl rfl ?_
  refine WL.alloc hS1 ti64 rfl rfl (fun b1 w2 hn1 hS2=>?_)
  refine WL.store hS2 0 _ _ _ 0 _ [v1, .int .i64 x1.r.d.a, .int .i64 x1.r.d.b, .int .i64 x1.r.x.a, .int .i64 x1.r.x.b] [v1, .int .i64 x1.r.d.a, .int .i64 x1.r.d.b, .int .i64 x1.r.x.a, .int .i64 x1.r.x.b] _ rfl rfl ti64 rfl (Nat.le_of_ble_eq_true rfl) (by simp only [List.all_cons,List.all_nil,hs1.oneC,Bool.true_and] <;> rfl) rfl rfl rfl rfl rfl (fun w3 hS3=>?_)
  obtain ⟨G2,hle2,hc2,hS4⟩:=hS3.shutB hn1
  refine WL.indexAddr (hvb.mono (hle1.trans hle2)) k1 (by omega) ul26 ti64 rfl rfl rfl rfl (fun p2 x2 hx2 he2=>?_)
  obtain ⟨cs2,hc3,hr2⟩:=he2
  obtain ⟨v2,rfl,hs2,hb5,hb6,hb7,hb8⟩:=HRowE_open hr2
  refine WL.loadGAt hS4 hc3 [v2, .int .i64 x2.r.d.a, .int .i64 x2.r.d.b, .int .i64 x2.r.x.a, .int .i64 x2.r.x.b] ti64 rfl rfl rfl rfl rfl ?_
  refine WL.alloc hS4 ti64 rfl rfl (fun b2 w4 hn2 hS5=>?_)
  refine WL.store hS5 0 _ _ _ 0 _ [v2, .int .i64 x2.r.d.a, .int .i64 x2.r.d.b, .int .i64 x2.r.x.a, .int .i64 x2.r.x.b] [v2, .int .i64 x2.r.d.a, .int .i64 x2.r.d.b, .int .i64 x2.r.x.a, .int .i64 x2.r.x.b] _ rfl rfl ti64 rfl (Nat.le_of_ble_eq_true rfl) (by simp only [List.all_cons,List.all_nil,hs2.oneC,Bool.true_and] <;> rfl) rfl rfl rfl rfl rfl (fun w5 hS6=>?_)
  obtain ⟨G3,hle3,hc4,hS7⟩:=hS6.shutB hn2
  refine WL.loadGAt hS7 (hc2.mono hle3) [v1, .int .i64 x1.r.d.a, .int .i64 x1.r.d.b, .int .i64 x1.r.x.a, .int .i64 x1.r.x.b] ti64 rfl rfl rfl rfl rfl <| WL.loadGAt hS7 hc4 [v2, .int .i64 x2.r.d.a, .int .i64 x2.r.d.b, .int .i64 x2.r.x.a, .int .i64 x2.r.x.b] ti64 rfl rfl rfl rfl rfl ?_
  refine WL.cV hS7 hf.body rfl rfl rfl (hf.call _ _ (.agg #[v1, .int .i64 x1.r.d.a, .int .i64 x1.r.d.b, .int .i64 x1.r.x.a, .int .i64 x1.r.x.b]) (.agg #[v2, .int .i64 x2.r.d.a, .int .i64 x2.r.d.b, .int .i64 x2.r.x.a, .int .i64 x2.r.x.b]) x1 x2 ((hle1.trans hle2).trans hle3) hS7.imm ⟨(List.mem_of_getElem? hx1),(List.mem_of_getElem? hx2)⟩ ⟨_,rfl,(HRowE_mk x1 (hs1.mono (hle2.trans hle3)) hb1 hb2 hb3 hb4)⟩ ⟨_,rfl,(HRowE_mk x2 (hs2.mono hle3) hb5 hb6 hb7 hb8)⟩) (fun w6 G4 hS8 hle4=>?_)
  refine WL.split (fun (h3 : (pf x1 x2) = true)=>?_) (fun (h3 : (pf x1 x2) = false)=>?_)
  ·refine WL.incr k1 (by have hreach : reach = 140737488355328:=rfl; omega) rfl rfl rfl ?_
   exact BK.mk' _ ⟨k1 + 1,G4,rfl,(hle1.trans ((hle2.trans hle3).trans hle4)),hS8,⟨rfl,rfl,rfl,rfl,rfl,trivial⟩,(by omega),(by exact lt_step2 (by assumption) (by assumption) (by assumption) (by simp_all))⟩ (show a.length - (k1 + 1) < a.length - k1 by omega)
  exact RB hS8 rfl (by exact (eqF_no (by assumption) (by assumption) (by simp_all)).symm)
 exact RB hS1 rfl (by exact (eqF_yes (by omega) (by assumption) (by omega)).symm)
theorem c_instant {G : GH} {w : World} (hG : G.In w) (x : Int) : CL Tryz.prog (nat_lit 91) #[.int .i64 x] [] w G fun _ _ r=>r = .bool (instB x):=by
 refine calls_of_go ft [] Tryz.func91 rfl rfl ?_
 have hS:=St.start (X:=[]) hG
 refine WL.geqS x (-62135596800) rfl rfl rfl (fun h1=>?_) (fun h1=>?_)
 ·refine WL.cmp .lss rfl .i64 x 253402300800 rfl rfl rfl ?_
  exact RB hS rfl (by unfold instB; simp_all [Cmp.b] <;> (first | omega | (intros; omega) | (rw [Bool.eq_iff_iff]; simp <;> omega) | (rw [Bool.eq_iff_iff]; simp_all <;> omega)))
 exact RB hS rfl (by unfold instB; simp_all [Cmp.b] <;> (omega))
end Go.Civ
