/- Lemmas. -/
import Derived.Test.YthgeclodflmiaaaGreatK10
import Derived.Test.YthgeclodflmiaaaGreatK12
import Derived.Test.YthgeclodflmiaaaGreatK25
import Derived.Test.YthgeclodflmiaaaGreatProg
import Derived.KernelRfl
import Derived.WalkKit
set_option linter.unusedVariables false
set_option linter.unusedSimpArgs false
set_option maxRecDepth 100000
set_option maxHeartbeats 4000000
namespace Go.Civ
open Go.Proofs
theorem c_CloneS {G : GH} {w : World} (hG : G.In w) (l : List Span) (vl : Value) (hvl : Sl SpanE 16 G vl l) : CL Tryz.prog (nat_lit 188) #[vl] [] w G fun G' w' r=>∃ o,Row SpanE 16 (nat_lit 33) G' r l o ∧ Fresh w w' G' o:=by
 refine calls_of_go ft [] Tryz.func188 rfl rfl ?_
 have hS:=St.start (X:=[]) hG
 refine WL.nilEq hvl ul71 rfl rfl rfl (fun h1=>?_) ?_
 ·exact RT hS rfl ⟨none,Row.cast (Row.nil _ _ _ _) (by exact Eq.symm (by assumption)),fun _ h=>by cases h⟩
 refine WL.buildSlice _ [] [] hS sl71 rfl rfl rfl rfl (fun z hz=>by match z,hz with | [],_=>rfl) (fun b1 w1 hn1 hS1=>?_)
 have hr1:=Row.empty SpanE 16 33 G b1
 refine WL.pushSl sl71 rfl rfl rfl hr1 hS1 0 rfl hvl (by have hreach : reach = 140737488355328:=rfl; have:=hvl.bytes; have:=hvl.bound; simp only [List.length_nil,Nat.zero_add]; omega) (by have hreach : reach = 140737488355328:=rfl; have:=hvl.bytes; have:=hvl.bound; simp only [List.length_nil,Nat.zero_add]; omega) rfl rfl rfl (fun v1 o1 w2 hr2 hS2=>?_)
 exact RT hS2 rfl ⟨_,Row.cast hr2 (by rfl),hS2.freshAt 0 rfl⟩
theorem c_runsOf {G : GH} {w : World} (hG : G.In w) (l : List Span) (vl : Value) (hvl : Sl SpanE 16 G vl l) (hB : ∀ s ∈ l,spanB s = true) (hl : l.length ≤ 2000) : CL Tryz.prog (nat_lit 140) #[vl] [] w G fun G' _ r=>∃ r0 r1,r = .tuple #[r0,r1] ∧ Sl SpanE 16 G' r0 (canon l) ∧ r1 = .int .i64 0:=by
 refine calls_of_go ft [] Tryz.func140 rfl rfl ?_
 have hS:=St.start (X:=[]) hG
 refine WL.cV hS hb186 rfl rfl rfl (c_ContainsSp hS.imm l (fun x8=>!spanV x8) _ hvl 187 #[] ⟨hb187,fun G8 w8 v8 x8 hle8 hG8 hon8 hA8=>by obtain ⟨cs_x8,rfl,hr_x8⟩:=hA8; exact c_runsOf1 hG8 x8 cs_x8 hr_x8⟩) (fun w1 G1 hS1 hle1=>?_)
 refine WL.split (fun (h1 : (l.any (fun x8=>!spanV x8)) = true)=>?_) (fun (h1 : (l.any (fun x8=>!spanV x8)) = false)=>?_)
 ·exact RT hS1 rfl ⟨_,_,rfl,(Sl.cast (Sl.nil SpanE 16 G1) (by exact absurd (by assumption) (by rw [any_not_V hB]; simp))),(congrArg (Value.int .i64) (by exact absurd (by assumption) (by rw [any_not_V hB]; simp)))⟩
 refine WL.cR hb188 rfl rfl rfl (c_CloneS hS1.imm l _ (hvl.mono hle1)) (fun w2 G2 r1 hres1 hpost1=>?_)
 have hS2:=hS1.call hres1
 have hle2:=hres1.le
 obtain ⟨o1,hr1,hf1⟩:=hpost1
 have hS3:=hS1.adoptO hres1 hf1
 refine WL.cR hb189 rfl rfl rfl (c_SortS hS3.imm l _ _ hr1 (hS3.lentAt 0 rfl) (fun s hs=>spanB_from (hB s hs))) (fun w3 G3 r2 hres2 hpost2=>?_)
 have hle3:=hres2.le
 obtain ⟨rfl,l1,o2,hr2,hf2,hq1⟩:=hpost2
 have hS5:=hS3.callRow 0 rfl hres2 hr1 hr2 hf2
 have bd1:=hr2.bound
 refine WL.lenRow hr2 ul71 rfl rfl ?_
 have hS7:=hS5.pad
 refine LP.go ft [] (fun m ρ1 w1=>∃ (k1 : Nat),∃ (v1 : Value) (o3 : OB),∃ (G4 : GH),m = l1.length - k1 ∧ G3.le G4 ∧ St w [] G G4 [o3,o2] w1 ∧ Row SpanE 16 33 G4 v1 (mergeS (l1.take k1)) o3 ∧ FR ρ1 [(5,v1),(15,r1),(16, .int .i64 (l1.length : Int)),(17, .int .i64 (k1 : Int))] ∧ k1 ≤ l1.length) _ ⟨0,(.slice none 0 0),none,G3,rfl,(G3.le_refl),hS7,(Row.nil SpanE 16 33 G3),⟨rfl,rfl,rfl,rfl,trivial⟩,(by omega)⟩ ?_
 rintro m ρ1 w4 ⟨k1,v1,o3,G4,rfl,hle4,hS6,hr3,hF9,f1⟩
 refine hF9.set ?_
 clear hF9
 have len1:=mergeS_len (l1.take k1)
 have lent:=List.length_take_le k1 l1
 have lenp:=hq1.1.length_eq
 refine WL.lssS (k1 : Int) (l1.length : Int) rfl rfl rfl (fun h2=>?_) (fun h2=>?_)
 ·refine WL.indexAddrRow (hr2.mono hle4) k1 (by omega) ul71 ti33 rfl rfl rfl rfl (fun p1 x1 ec1 hx1 hr4 ra1=>?_)
  obtain ⟨rfl,hb1,hb2⟩:=SpanE_open hr4
  refine WL.loadRA ra1 hS6 1 rfl ti33 rfl rfl rfl rfl ?_
  refine WL.alloc hS6 ti33 rfl rfl (fun b1 w5 hn1 hS8=>?_)
  refine WL.store hS8 0 _ _ _ 0 _ [.int .i64 x1.a, .int .i64 x1.b] [.int .i64 x1.a, .int .i64 x1.b] _ rfl rfl ti33 rfl (Nat.le_of_ble_eq_true rfl) rfl rfl rfl rfl rfl rfl (fun w6 hS9=>?_)
  obtain ⟨G5,hle5,hc1,hS10⟩:=hS9.shutB hn1
  have bd2:=hr3.bound
  refine WL.lenRow (hr3.mono hle5) ul71 rfl rfl ?_
  rcases Cmp.dec .gtr (((mergeS (l1.take k1)).length : Nat) : Int) 0 with ⟨hb3,q1⟩ | ⟨hb3,q1⟩
  ·have h3 : 0 < (((mergeS (l1.take k1)).length : Nat) : Int):=q1
   clear q1
   obtain ⟨p2,x2,ec2,hx2,hr5,ra2,ep1⟩:=Row.atP (hr3.mono hle5) ((mergeS (l1.take k1)).length - 1) (by omega)
   obtain ⟨rfl,hb4,hb5⟩:=SpanE_open hr5
   rcases Cmp.dec .leq x1.a x2.b with ⟨hb6,q2⟩ | ⟨hb6,q2⟩
   ·have h4 : x1.a ≤ x2.b:=q2
    clear q2
    refine dr [] [(24, .bool true),(27, .int .i64 x1.a),(30, .int .i64 (((mergeS (l1.take k1)).length - 1 : Nat) : Int)),(31, .pointer (some p2)),(33, .int .i64 x2.b),(34, .bool true)] hS10 ⟨fun _=>WL.cmpV .gtr rfl .i64 (((mergeS (l1.take k1)).length : Nat) : Int) 0 _ hb3 rfl rfl rfl <| nu rfl rfl,fun _ hSw=>WL.loadG1 hSw (Cells.drop 0 hc1) ti3 rfl rfl rfl <| nu rfl rfl,fun _=>WL.decr ((mergeS (l1.take k1)).length) (by omega) (by have hreach : reach = 140737488355328:=rfl; omega) rfl rfl rfl <| nu rfl rfl,fun _=>WL.indexAddrP ((mergeS (l1.take k1)).length - 1) ep1 ul71 ti33 rfl rfl rfl rfl <| nu rfl rfl,fun _ hSw=>WL.loadR1 ra2 hSw 0 rfl 1 _ rfl ti3 rfl rfl rfl <| nu rfl rfl,fun _=>WL.cmpV .leq rfl .i64 x1.a x2.b _ hb6 rfl rfl rfl <| nu rfl rfl,trivial⟩ (fun w7 hS11=>?_)
    obtain ⟨p3,x3,ec3,hx3,hr6,ra3,ep2⟩:=Row.atP (hr3.mono hle5) ((mergeS (l1.take k1)).length - 1) (by omega)
    obtain rfl : x2 = x3:=Option.some.inj (hx2.symm.trans hx3)
    obtain ⟨rfl,hb7,hb8⟩:=SpanE_open hr6
    obtain ⟨p4,x4,ec4,hx4,hr7,ra4,ep3⟩:=Row.atP (hr3.mono hle5) ((mergeS (l1.take k1)).length - 1) (by omega)
    obtain rfl : x2 = x4:=Option.some.inj (hx2.symm.trans hx4)
    obtain ⟨rfl,hb9,hb10⟩:=SpanE_open hr7
    refine dr [(14,false)] [(38, .int .i64 (((mergeS (l1.take k1)).length - 1 : Nat) : Int)),(41, .int .i64 (((mergeS (l1.take k1)).length - 1 : Nat) : Int)),(42, .pointer (some p3)),(44, .int .i64 x2.b),(46, .int .i64 x1.b),(47, .int .i64 (max x2.b x1.b)),(48, .pointer (some p4))] hS11 ⟨fun _=>WL.decr ((mergeS (l1.take k1)).length) (by omega) (by have hreach : reach = 140737488355328:=rfl; omega) rfl rfl rfl <| nu rfl rfl,fun _=>WL.decr ((mergeS (l1.take k1)).length) (by omega) (by have hreach : reach = 140737488355328:=rfl; omega) rfl rfl rfl <| nu rfl rfl,fun _=>WL.indexAddrP ((mergeS (l1.take k1)).length - 1) ep2 ul71 ti33 rfl rfl rfl rfl <| nu rfl rfl,fun _ hSw=>WL.loadR1 ra3 hSw 0 rfl 1 _ rfl ti3 rfl rfl rfl <| nu rfl rfl,fun _ hSw=>WL.loadG1 hSw (Cells.drop 1 hc1) ti3 rfl rfl rfl <| nu rfl rfl,fun _=>WL.maxI x2.b x1.b rfl rfl rfl <| nu rfl rfl,fun _=>WL.indexAddrP ((mergeS (l1.take k1)).length - 1) ep3 ul71 ti33 rfl rfl rfl rfl <| nu rfl rfl,trivial⟩ (fun w9 hS12=>?_)
    refine WL.storeR (hr3.mono hle5) ra4 hS12 0 rfl (by omega) rfl 1 _ [.int .i64 (max x2.b x1.b)] (Span.mk x2.a (max x2.b x1.b)) [.int .i64 x2.a, .int .i64 (max x2.b x1.b)] rfl ti3 rfl (Nat.le_of_ble_eq_true rfl) rfl rfl (SpanE_mk (Span.mk x2.a (max x2.b x1.b)) hb9 (I64_max hb8 hb2)) rfl rfl rfl (fun o4 w10 hr8 hS13=>?_)
    refine WL.incr k1 (by have hreach : reach = 140737488355328:=rfl; omega) rfl rfl rfl ?_
    exact BK.mk' _ ⟨k1 + 1,v1,o4,G5,rfl,(hle4.trans hle5),hS13,(Row.cast hr8 (by (rw [mergeS_take (by assumption)]; exact (mstep_join (by assumption) (by omega)).symm))),⟨rfl,rfl,rfl,rfl,trivial⟩,(by omega)⟩ (show l1.length - (k1 + 1) < l1.length - k1 by omega)
   have h4 : x2.b < x1.a:=q2
   clear q2
   refine dr [] [(24, .bool true),(27, .int .i64 x1.a),(30, .int .i64 (((mergeS (l1.take k1)).length - 1 : Nat) : Int)),(31, .pointer (some p2)),(33, .int .i64 x2.b),(34, .bool false)] hS10 ⟨fun _=>WL.cmpV .gtr rfl .i64 (((mergeS (l1.take k1)).length : Nat) : Int) 0 _ hb3 rfl rfl rfl <| nu rfl rfl,fun _ hSw=>WL.loadG1 hSw (Cells.drop 0 hc1) ti3 rfl rfl rfl <| nu rfl rfl,fun _=>WL.decr ((mergeS (l1.take k1)).length) (by omega) (by have hreach : reach = 140737488355328:=rfl; omega) rfl rfl rfl <| nu rfl rfl,fun _=>WL.indexAddrP ((mergeS (l1.take k1)).length - 1) ep1 ul71 ti33 rfl rfl rfl rfl <| nu rfl rfl,fun _ hSw=>WL.loadR1 ra2 hSw 0 rfl 1 _ rfl ti3 rfl rfl rfl <| nu rfl rfl,fun _=>WL.cmpV .leq rfl .i64 x1.a x2.b _ hb6 rfl rfl rfl <| nu rfl rfl,trivial⟩ (fun w11 hS14=>?_)
   refine WL.loadGAt hS14 hc1 [.int .i64 x1.a, .int .i64 x1.b] ti33 rfl rfl rfl rfl rfl ?_
   refine WL.buildSlice _ [(0,[.int .i64 x1.a, .int .i64 x1.b])] [.int .i64 x1.a, .int .i64 x1.b] hS14 sl71 rfl rfl rfl rfl (fun z hz=>by match z,hz with | [z0,z1],_=>rfl) (fun b2 w12 hn2 hS15=>?_)
   refine WL.push (m:=([x1] : List Span)) sl71 rfl rfl rfl (hr3.mono hle5) hS15 1 rfl 0 _ _ _ _ _ rfl ⟨[.int .i64 x1.a, .int .i64 x1.b],_,rfl,(SpanE_mk x1 hb1 hb2),rfl⟩ rfl (by have hreach : reach = 140737488355328:=rfl; simp only [List.length_cons,List.length_nil]; omega) (by have hreach : reach = 140737488355328:=rfl; simp only [List.length_cons,List.length_nil]; omega) rfl rfl rfl (fun v2 o5 w13 hr9 hS16=>?_)
   have hS17:=hS16.tail
   refine WL.incr k1 (by have hreach : reach = 140737488355328:=rfl; omega) rfl rfl rfl ?_
   exact BK.mk' _ ⟨k1 + 1,v2,o5,G5,rfl,(hle4.trans hle5),hS17,(Row.cast hr9 (by (rw [mergeS_take (by assumption)]; exact (mstep_push' (by assumption) (by omega)).symm))),⟨rfl,rfl,rfl,rfl,trivial⟩,(by omega)⟩ (show l1.length - (k1 + 1) < l1.length - k1 by omega)
  have h3 : (((mergeS (l1.take k1)).length : Nat) : Int) ≤ 0:=q1
  clear q1
  refine dr [] [(24, .bool false)] hS10 ⟨fun _=>WL.cmpV .gtr rfl .i64 (((mergeS (l1.take k1)).length : Nat) : Int) 0 _ hb3 rfl rfl rfl <| nu rfl rfl,trivial⟩ (fun w14 hS18=>?_)
  refine WL.loadGAt hS18 hc1 [.int .i64 x1.a, .int .i64 x1.b] ti33 rfl rfl rfl rfl rfl ?_
  refine WL.buildSlice _ [(0,[.int .i64 x1.a, .int .i64 x1.b])] [.int .i64 x1.a, .int .i64 x1.b] hS18 sl71 rfl rfl rfl rfl (fun z hz=>by match z,hz with | [z0,z1],_=>rfl) (fun b3 w15 hn3 hS19=>?_)
  refine WL.push (m:=([x1] : List Span)) sl71 rfl rfl rfl (hr3.mono hle5) hS19 1 rfl 0 _ _ _ _ _ rfl ⟨[.int .i64 x1.a, .int .i64 x1.b],_,rfl,(SpanE_mk x1 hb1 hb2),rfl⟩ rfl (by have hreach : reach = 140737488355328:=rfl; simp only [List.length_cons,List.length_nil]; omega) (by have hreach : reach = 140737488355328:=rfl; simp only [List.length_cons,List.length_nil]; omega) rfl rfl rfl (fun v3 o6 w16 hr10 hS20=>?_)
  have hS21:=hS20.tail
  refine WL.incr k1 (by have hreach : reach = 140737488355328:=rfl; omega) rfl rfl rfl ?_
  exact BK.mk' _ ⟨k1 + 1,v3,o6,G5,rfl,(hle4.trans hle5),hS21,(Row.cast hr10 (by (rw [mergeS_take (by assumption)]; exact (mstep_push (by omega)).symm))),⟨rfl,rfl,rfl,rfl,trivial⟩,(by omega)⟩ (show l1.length - (k1 + 1) < l1.length - k1 by omega)
 obtain ⟨G6,hle6,hs1,hS22⟩:=Row.freeze hr3 hS6 0 rfl
 refine WL.cA hS22 hb181 rfl rfl rfl (c_runsDone hS22.imm (mergeS (l1.take k1)) _ hs1 (by rw [merged_ret (by assumption) hB (by omega)]; exact Nat.le_trans canon_len hl)) ?_
 rintro w17 G7 _ ⟨r4,_,rfl,hs2,rfl⟩ hS23 hle7
 exact RT hS23 rfl ⟨_,_,rfl,(Sl.cast hs2 (by exact merged_ret (by assumption) hB (by omega))),(congrArg (Value.int .i64) (by rfl))⟩
theorem c_SlEqualS {G : GH} {w : World} (hG : G.In w) (a b : List Span) (va : Value) (hva : Sl SpanE 16 G va a) (vb : Value) (hvb : Sl SpanE 16 G vb b) : CL Tryz.prog (nat_lit 75) #[va,vb] [] w G fun _ _ r=>r = .bool (decide (a = b)):=by
 refine calls_of_go ft [] Tryz.func75 rfl rfl ?_
 have hS:=St.start (X:=[]) hG
 have bd1:=hva.bound
 refine WL.lenSl hva ul71 rfl rfl ?_
 have bd2:=hvb.bound
 refine WL.lenSl hvb ul71 rfl rfl ?_
 refine WL.neqS (a.length : Int) (b.length : Int) rfl rfl rfl (fun h1=>?_) (fun h1=>?_)
 ·exact RB hS rfl (by rw [← eqF_eq]; exact (eqF_len (by omega)).symm)
 have bd3:=hva.bound
 refine WL.lenSl hva ul71 rfl rfl ?_
 refine LP.go ft [] (fun m ρ1 w1=>∃ (k1 : Nat),∃ (G1 : GH),m = a.length - k1 ∧ G.le G1 ∧ St w [] G G1 [] w1 ∧ FR ρ1 [(0,va),(1,vb),(12, .int .i64 (a.length : Int)),(13, .int .i64 (k1 : Int))] ∧ k1 ≤ a.length ∧ ∀ j,j < k1 → ∀ x y,a[j]? = some x → b[j]? = some y → decide (x = y) = true) _ ⟨0,G,rfl,(G.le_refl),hS,⟨rfl,rfl,rfl,rfl,trivial⟩,(by omega),(by intro j hj; omega)⟩ ?_
 rintro m ρ1 w1 ⟨k1,G1,rfl,hle1,hS1,hF9,f1,f2⟩
 refine hF9.set ?_
 clear hF9
 refine WL.lssS (k1 : Int) (a.length : Int) rfl rfl rfl (fun h2=>?_) (fun h2=>?_)
 ·obtain ⟨p1,x1,hx1,he1,ep1⟩:=Sl.at (hva.mono hle1) k1 (by omega)
  obtain ⟨cs1,hc1,hr1⟩:=he1
  obtain ⟨rfl,hb1,hb2⟩:=SpanE_open hr1
  obtain ⟨p2,x2,hx2,he2,ep2⟩:=Sl.at (hvb.mono hle1) k1 (by omega)
  obtain ⟨cs2,hc2,hr2⟩:=he2
  obtain ⟨rfl,hb3,hb4⟩:=SpanE_open hr2
  rcases Classical.em (x1 = x2) with h3 | h3
  ·refine dr [] [(18, .pointer (some p1)),(19, .agg #[.int .i64 x1.a, .int .i64 x1.b]),(22, .pointer (some p2)),(23, .agg #[.int .i64 x2.a, .int .i64 x2.b]),(24, .bool false)] hS1 ⟨fun _=>WL.indexAddrP k1 ep1 ul71 ti33 rfl rfl rfl rfl <| nu rfl rfl,fun _ hSw=>WL.loadGAt hSw hc1 [.int .i64 x1.a, .int .i64 x1.b] ti33 rfl rfl rfl rfl rfl <| nu rfl rfl,fun _=>WL.indexAddrP k1 ep2 ul71 ti33 rfl rfl rfl rfl <| nu rfl rfl,fun _ hSw=>WL.loadGAt hSw hc2 [.int .i64 x2.a, .int .i64 x2.b] ti33 rfl rfl rfl rfl rfl <| nu rfl rfl,fun _=>WL.aggEqNV false (SpanEq33 x1 x2) eqg33 (by simp [h3]) rfl rfl rfl <| nu rfl rfl,trivial⟩ (fun w2 hS2=>?_)
   refine WL.incr k1 (by have hreach : reach = 140737488355328:=rfl; omega) rfl rfl rfl ?_
   exact BK.mk' _ ⟨k1 + 1,G1,rfl,hle1,hS2,⟨rfl,rfl,rfl,rfl,trivial⟩,(by omega),(by exact lt_step2 (by assumption) (by assumption) (by assumption) (decide_eq_true (by simp_all)))⟩ (show a.length - (k1 + 1) < a.length - k1 by omega)
  refine dr [] [(18, .pointer (some p1)),(19, .agg #[.int .i64 x1.a, .int .i64 x1.b]),(22, .pointer (some p2)),(23, .agg #[.int .i64 x2.a, .int .i64 x2.b]),(24, .bool true)] hS1 ⟨fun _=>WL.indexAddrP k1 ep1 ul71 ti33 rfl rfl rfl rfl <| nu rfl rfl,fun _ hSw=>WL.loadGAt hSw hc1 [.int .i64 x1.a, .int .i64 x1.b] ti33 rfl rfl rfl rfl rfl <| nu rfl rfl,fun _=>WL.indexAddrP k1 ep2 ul71 ti33 rfl rfl rfl rfl <| nu rfl rfl,fun _ hSw=>WL.loadGAt hSw hc2 [.int .i64 x2.a, .int .i64 x2.b] ti33 rfl rfl rfl rfl rfl <| nu rfl rfl,fun _=>WL.aggEqNV true (SpanEq33 x1 x2) eqg33 (by simp [h3]) rfl rfl rfl <| nu rfl rfl,trivial⟩ (fun w3 hS3=>?_)
  exact RB hS3 rfl (by rw [← eqF_eq]; exact (eqF_no (f:=fun (x y : Span)=>decide (x = y)) (by assumption) (by assumption) (decide_eq_false (by simp_all))).symm)
 exact RB hS1 rfl (by rw [← eqF_eq]; exact (eqF_yes (by omega) (by assumption) (by omega)).symm)
theorem c_htimes {G : GH} {w : World} (hG : G.In w) (l : List HRow) (tx : Int) (vl : Value) (hvl : Sl HRowE 56 G vl l) (hgood : GoodH l) (hl : l.length ≤ 2000) : CL Tryz.prog (nat_lit 87) #[vl, .int .i64 tx] [] w G fun G' _ r=>Sl SpanE 16 G' r (timesH l tx):=by
 refine calls_of_go ft [] Tryz.func87 rfl rfl ?_
 have hS:=St.start (X:=[]) hG
 have bd1:=hvl.bound
 refine WL.lenSl hvl ul26 rfl rfl ?_
 have hS2:=hS.pad
 refine LP.go ft [] (fun m ρ1 w1=>∃ (k1 : Nat),∃ (v1 : Value) (o1 : OB),∃ (G1 : GH),m = l.length - k1 ∧ G.le G1 ∧ St w [] G G1 [o1] w1 ∧ Row SpanE 16 33 G1 v1 (spansH (l.take k1) tx) o1 ∧ FR ρ1 [(1, .int .i64 tx),(5,v1),(10,vl),(11, .int .i64 (l.length : Int)),(12, .int .i64 (k1 : Int))] ∧ k1 ≤ l.length) _ ⟨0,(.slice none 0 0),none,G,rfl,(G.le_refl),hS2,(Row.nil SpanE 16 33 G),⟨rfl,rfl,rfl,rfl,rfl,trivial⟩,(by omega)⟩ ?_
 rintro m ρ1 w1 ⟨k1,v1,o1,G1,rfl,hle1,hS1,hr1,hF9,f1⟩
 refine hF9.set ?_
 clear hF9
 have hsl:=spansH_takeLen l tx k1
 refine WL.lssS (k1 : Int) (l.length : Int) rfl rfl rfl (fun h1=>?_) (fun h1=>?_)
 ·refine WL.indexAddr (hvl.mono hle1) k1 (by omega) ul26 ti37 rfl rfl rfl rfl (fun p1 x1 hx1 he1=>?_)
  obtain ⟨cs1,hc1,hr2⟩:=he1
  obtain ⟨v2,rfl,hs1,hb1,hb2,hb3,hb4⟩:=HRowE_open hr2
  refine WL.loadGAt hS1 hc1 [v2, .int .i64 x1.r.d.a, .int .i64 x1.r.d.b, .int .i64 x1.r.x.a, .int .i64 x1.r.x.b] ti37 rfl rfl rfl rfl rfl ?_
  refine WL.alloc hS1 ti37 rfl rfl (fun b1 w2 hn1 hS3=>?_)
  refine WL.store hS3 0 _ _ _ 0 _ [v2, .int .i64 x1.r.d.a, .int .i64 x1.r.d.b, .int .i64 x1.r.x.a, .int .i64 x1.r.x.b] [v2, .int .i64 x1.r.d.a, .int .i64 x1.r.d.b, .int .i64 x1.r.x.a, .int .i64 x1.r.x.b] _ rfl rfl ti37 rfl (Nat.le_of_ble_eq_true rfl) (by simp only [List.all_cons,List.all_nil,hs1.oneC,Bool.true_and] <;> rfl) rfl rfl rfl rfl rfl (fun w3 hS4=>?_)
  obtain ⟨G2,hle2,hc2,hS5⟩:=hS4.shutB hn1
  refine WL.loadG1 hS5 (Cells.drop 0 (Cells.drop 2 (Cells.drop 1 hc2))) ti3 rfl rfl rfl ?_
  refine WL.leqS x1.r.x.a tx rfl rfl rfl (fun h2=>?_) (fun h2=>?_)
  ·refine WL.loadG1 hS5 (Cells.drop 1 (Cells.drop 2 (Cells.drop 1 hc2))) ti3 rfl rfl rfl ?_
   refine WL.lssS tx x1.r.x.b rfl rfl rfl (fun h3=>?_) (fun h3=>?_)
   ·refine WL.loadGAt hS5 (Cells.drop 0 (Cells.drop 1 hc2)) [.int .i64 x1.r.d.a, .int .i64 x1.r.d.b] ti33 rfl rfl rfl rfl rfl ?_
    refine WL.buildSlice _ [(0,[.int .i64 x1.r.d.a, .int .i64 x1.r.d.b])] [.int .i64 x1.r.d.a, .int .i64 x1.r.d.b] hS5 sl71 rfl rfl rfl rfl (fun z hz=>by match z,hz with | [z0,z1],_=>rfl) (fun b2 w4 hn2 hS6=>?_)
    refine WL.push (m:=([x1.r.d] : List Span)) sl71 rfl rfl rfl (hr1.mono hle2) hS6 1 rfl 0 _ _ _ _ _ rfl ⟨[.int .i64 x1.r.d.a, .int .i64 x1.r.d.b],_,rfl,(SpanE_mk x1.r.d hb1 hb2),rfl⟩ rfl (by have hreach : reach = 140737488355328:=rfl; simp only [List.length_cons,List.length_nil]; omega) (by have hreach : reach = 140737488355328:=rfl; simp only [List.length_cons,List.length_nil]; omega) rfl rfl rfl (fun v3 o2 w5 hr3 hS7=>?_)
    have hS8:=hS7.tail
    refine WL.incr k1 (by have hreach : reach = 140737488355328:=rfl; omega) rfl rfl rfl ?_
    exact BK.mk' _ ⟨k1 + 1,v3,o2,G2,rfl,(hle1.trans hle2),hS8,(Row.cast hr3 (by (rw [spansH_take (by assumption)]; unfold liveB; simp_all <;> omega))),⟨rfl,rfl,rfl,rfl,rfl,trivial⟩,(by omega)⟩ (show l.length - (k1 + 1) < l.length - k1 by omega)
   refine WL.incr k1 (by have hreach : reach = 140737488355328:=rfl; omega) rfl rfl rfl ?_
   exact BK.mk' _ ⟨k1 + 1,v1,o1,G2,rfl,(hle1.trans hle2),hS5,(Row.cast (hr1.mono hle2) (by (rw [spansH_take (by assumption)]; unfold liveB; simp_all <;> omega))),⟨rfl,rfl,rfl,rfl,rfl,trivial⟩,(by omega)⟩ (show l.length - (k1 + 1) < l.length - k1 by omega)
  refine WL.incr k1 (by have hreach : reach = 140737488355328:=rfl; omega) rfl rfl rfl ?_
  exact BK.mk' _ ⟨k1 + 1,v1,o1,G2,rfl,(hle1.trans hle2),hS5,(Row.cast (hr1.mono hle2) (by (rw [spansH_take (by assumption)]; unfold liveB; simp_all <;> omega))),⟨rfl,rfl,rfl,rfl,rfl,trivial⟩,(by omega)⟩ (show l.length - (k1 + 1) < l.length - k1 by omega)
 obtain ⟨G3,hle3,hs2,hS9⟩:=Row.freeze hr1 hS1 0 rfl
 refine WL.cA hS9 hb140 rfl rfl rfl (c_runsOf hS9.imm (spansH (l.take k1) tx) _ hs2 (by rw [List.take_of_length_le (by omega)]; exact spansH_good hgood.d tx) (by rw [List.take_of_length_le (by omega)]; exact Nat.le_trans (spansH_len l tx) hl)) ?_
 rintro w6 G4 _ ⟨r2,_,rfl,hs3,rfl⟩ hS10 hle4
 exact RT hS10 rfl (Sl.cast hs3 (by rw [List.take_of_length_le (by omega)]; rfl))
end Go.Civ
