/- Lemmas. -/
import Derived.Test.YthgeclodflmiaaaGreatH10
import Derived.Test.YthgeclodflmiaaaGreatH18
import Derived.Test.YthgeclodflmiaaaGreatH22
import Derived.Test.YthgeclodflmiaaaGreatH23
import Derived.Test.YthgeclodflmiaaaGreatProg
import Derived.KernelRfl
import Derived.WalkKit
set_option linter.unusedVariables false
set_option linter.unusedSimpArgs false
set_option maxRecDepth 100000
set_option maxHeartbeats 4000000
namespace Go.Civ
open Go.Proofs
theorem Zra {G : GH} {w : World} (hG : G.In w) (l : List Span) (vl : Value) (hvl : Sl SpanE 16 G vl l) : CL Tryz.prog (nat_lit 188) #[vl] [] w G fun G' w' r=>∃ o,Ye SpanE 16 (nat_lit 33) G' r l o ∧ Ze1 w w' G' o:=by
 refine Zg ft [] Tryz.func188 rfl rfl ?_
 have hS:=St.start (X:=[]) hG
 refine Ze2 hvl YT rfl rfl rfl (fun h1=>?_) ?_
 ·exact RT hS rfl ⟨none,Ye.cast (Ye.nil _ _ _ _) (by exact Eq.symm ‹_›),fun _ h=>by cases h⟩
 refine WL.buildSlice _ [] [] hS YO rfl rfl rfl rfl (fun z hz=>by match z,hz with | [],_=>rfl) (fun b1 w1 hn1 hS1=>?_)
 have hr1:=Ye.empty SpanE 16 33 G b1
 refine YE YO rfl rfl rfl hr1 hS1 0 rfl hvl (by have hreach : reach = 140737488355328:=rfl; have:=hvl.bytes; have:=hvl.bound; simp only [List.length_nil,Nat.zero_add]; omega) (by have hreach : reach = 140737488355328:=rfl; have:=hvl.bytes; have:=hvl.bound; simp only [List.length_nil,Nat.zero_add]; omega) rfl rfl rfl (fun v1 o1 w2 hr2 hS2=>?_)
 exact RT hS2 rfl ⟨_,Ye.cast hr2 (by rfl),hS2.freshAt 0 rfl⟩
theorem Zrb {G : GH} {w : World} (hG : G.In w) (l : List Span) (vl : Value) (hvl : Sl SpanE 16 G vl l) (hB : ∀ s ∈ l,ZI s = true) (hl : l.length ≤ 2000) : CL Tryz.prog (nat_lit 140) #[vl] [] w G fun G' _ r=>∃ r0 r1,r = .tuple #[r0,r1] ∧ Sl SpanE 16 G' r0 (ZaM l) ∧ r1 = .int .i64 0:=by
 refine Zg ft [] Tryz.func140 rfl rfl ?_
 have hS:=St.start (X:=[]) hG
 refine Zn hS ZvY rfl rfl rfl (ZkU hS.imm l (fun x8=>!Xx x8) _ hvl 187 #[] ⟨ZvZ,fun G8 w8 v8 x8 hle8 hG8 hon8 hA8=>by obtain ⟨cs_x8,rfl,hr_x8⟩:=hA8; exact ZoO hG8 x8 cs_x8 hr_x8⟩) (fun w1 G1 hS1 hle1=>?_)
 refine WL.split (fun (h1 : (l.any (fun x8=>!Xx x8)) = true)=>?_) (fun (h1 : (l.any (fun x8=>!Xx x8)) = false)=>?_)
 ·exact RT hS1 rfl ⟨_,_,rfl,(Sl.cast (Sl.nil SpanE 16 G1) (by exact absurd ‹_› (by rw [ZiX hB]; simp))),(congrArg (Value.int .i64) (by exact absurd ‹_› (by rw [ZiX hB]; simp)))⟩
 refine Qf Zwa rfl rfl rfl (Zra hS1.imm l _ (hvl.mono hle1)) (fun w2 G2 r1 hres1 hpost1=>?_)
 have hS2:=hS1.call hres1
 have hle2:=hres1.le
 obtain ⟨o1,hr1,hf1⟩:=hpost1
 have hS3:=hS1.adoptO hres1 hf1
 refine Qf Zwb rfl rfl rfl (Ztl hS3.imm l _ _ hr1 (hS3.lentAt 0 rfl) (fun s hs=>ZmI (hB s hs))) (fun w3 G3 r2 hres2 hpost2=>?_)
 have hle3:=hres2.le
 obtain ⟨rfl,l1,o2,hr2,hf2,hq1⟩:=hpost2
 have hS5:=hS3.callRow 0 rfl hres2 hr1 hr2 hf2
 have bd1:=hr2.bound
 refine Za3 hr2 YT rfl rfl ?_
 have hS7:=hS5.pad
 refine LP.go ft [] (fun m ρ1 w1=>∃ (k1 : Nat),∃ (v1 : Value) (o3 : OB),∃ (G4 : GH),m = l1.length - k1 ∧ G3.le G4 ∧ St w [] G G4 [o3,o2] w1 ∧ Ye SpanE 16 33 G4 v1 (Ym (l1.take k1)) o3 ∧ FR ρ1 [(5,v1),(15,r1),(16, .int .i64 (l1.length : Int)),(17, .int .i64 (k1 : Int))] ∧ k1 ≤ l1.length) _ ⟨0,(.slice none 0 0),none,G3,rfl,(G3.le_refl),hS7,(Ye.nil SpanE 16 33 G3),⟨rfl,rfl,rfl,rfl,trivial⟩,(by omega)⟩ ?_
 rintro m ρ1 w4 ⟨k1,v1,o3,G4,rfl,hle4,hS6,hr3,hF9,f1⟩
 refine hF9.set ?_
 clear hF9
 have len1:=Zhu (l1.take k1)
 have lent:=List.length_take_le k1 l1
 have lenp:=hq1.1.length_eq
 refine Zq (k1 : Int) (l1.length : Int) rfl rfl rfl (fun h2=>?_) (fun h2=>?_)
 ·refine QB (hr2.mono hle4) k1 (by omega) YT Zu rfl rfl rfl rfl (fun p1 x1 ec1 hx1 hr4 ra1=>?_)
  obtain ⟨rfl,hb1,hb2⟩:=ZE hr4
  refine Zfi ra1 hS6 1 rfl Zu rfl rfl rfl rfl ?_
  refine WL.alloc hS6 Zu rfl rfl (fun b1 w5 hn1 hS8=>?_)
  refine WL.store hS8 0 _ _ _ 0 _ [.int .i64 x1.a, .int .i64 x1.b] [.int .i64 x1.a, .int .i64 x1.b] _ rfl rfl Zu rfl (Nat.le_of_ble_eq_true rfl) rfl rfl rfl rfl rfl rfl (fun w6 hS9=>?_)
  obtain ⟨G5,hle5,hc1,hS10⟩:=hS9.shutB hn1
  have bd2:=hr3.bound
  refine Za3 (hr3.mono hle5) YT rfl rfl ?_
  rcases Cmp.dec .gtr (((Ym (l1.take k1)).length : Nat) : Int) 0 with ⟨hb3,q1⟩ | ⟨hb3,q1⟩
  ·have h3 : 0 < (((Ym (l1.take k1)).length : Nat) : Int):=q1
   clear q1
   obtain ⟨p2,x2,ec2,hx2,hr5,ra2,ep1⟩:=Ye.atP (hr3.mono hle5) ((Ym (l1.take k1)).length - 1) (by omega)
   obtain ⟨rfl,hb4,hb5⟩:=ZE hr5
   rcases Cmp.dec .leq x1.a x2.b with ⟨hb6,q2⟩ | ⟨hb6,q2⟩
   ·have h4 : x1.a ≤ x2.b:=q2
    clear q2
    refine dr [] [(24, .bool true),(27, .int .i64 x1.a),(30, .int .i64 (((Ym (l1.take k1)).length - 1 : Nat) : Int)),(31, .pointer (some p2)),(33, .int .i64 x2.b),(34, .bool true)] hS10 ⟨fun _=>WL.cmpV .gtr rfl .i64 (((Ym (l1.take k1)).length : Nat) : Int) 0 _ hb3 rfl rfl rfl <| nu rfl rfl,fun _ hSw=>Za hSw (Xw.drop 0 hc1) Zp rfl rfl rfl <| nu rfl rfl,fun _=>Qt ((Ym (l1.take k1)).length) (by omega) (by have hreach : reach = 140737488355328:=rfl; omega) rfl rfl rfl <| nu rfl rfl,fun _=>Zk ((Ym (l1.take k1)).length - 1) ep1 YT Zu rfl rfl rfl rfl <| nu rfl rfl,fun _ hSw=>Zcq ra2 hSw 0 rfl 1 _ rfl Zp rfl rfl rfl <| nu rfl rfl,fun _=>WL.cmpV .leq rfl .i64 x1.a x2.b _ hb6 rfl rfl rfl <| nu rfl rfl,trivial⟩ (fun w7 hS11=>?_)
    obtain ⟨p3,x3,ec3,hx3,hr6,ra3,ep2⟩:=Ye.atP (hr3.mono hle5) ((Ym (l1.take k1)).length - 1) (by omega)
    obtain rfl : x2 = x3:=Option.some.inj (hx2.symm.trans hx3)
    obtain ⟨rfl,hb7,hb8⟩:=ZE hr6
    obtain ⟨p4,x4,ec4,hx4,hr7,ra4,ep3⟩:=Ye.atP (hr3.mono hle5) ((Ym (l1.take k1)).length - 1) (by omega)
    obtain rfl : x2 = x4:=Option.some.inj (hx2.symm.trans hx4)
    obtain ⟨rfl,hb9,hb10⟩:=ZE hr7
    refine dr [(14,false)] [(38, .int .i64 (((Ym (l1.take k1)).length - 1 : Nat) : Int)),(41, .int .i64 (((Ym (l1.take k1)).length - 1 : Nat) : Int)),(42, .pointer (some p3)),(44, .int .i64 x2.b),(46, .int .i64 x1.b),(47, .int .i64 (max x2.b x1.b)),(48, .pointer (some p4))] hS11 ⟨fun _=>Qt ((Ym (l1.take k1)).length) (by omega) (by have hreach : reach = 140737488355328:=rfl; omega) rfl rfl rfl <| nu rfl rfl,fun _=>Qt ((Ym (l1.take k1)).length) (by omega) (by have hreach : reach = 140737488355328:=rfl; omega) rfl rfl rfl <| nu rfl rfl,fun _=>Zk ((Ym (l1.take k1)).length - 1) ep2 YT Zu rfl rfl rfl rfl <| nu rfl rfl,fun _ hSw=>Zcq ra3 hSw 0 rfl 1 _ rfl Zp rfl rfl rfl <| nu rfl rfl,fun _ hSw=>Za hSw (Xw.drop 1 hc1) Zp rfl rfl rfl <| nu rfl rfl,fun _=>ZfT x2.b x1.b rfl rfl rfl <| nu rfl rfl,fun _=>Zk ((Ym (l1.take k1)).length - 1) ep3 YT Zu rfl rfl rfl rfl <| nu rfl rfl,trivial⟩ (fun w9 hS12=>?_)
    refine Zcr (hr3.mono hle5) ra4 hS12 0 rfl (by omega) rfl 1 _ [.int .i64 (max x2.b x1.b)] (Span.mk x2.a (max x2.b x1.b)) [.int .i64 x2.a, .int .i64 (max x2.b x1.b)] rfl Zp rfl (Nat.le_of_ble_eq_true rfl) rfl rfl (Zs (Span.mk x2.a (max x2.b x1.b)) hb9 (Zam hb8 hb2)) rfl rfl rfl (fun o4 w10 hr8 hS13=>?_)
    refine Zl k1 (by have hreach : reach = 140737488355328:=rfl; omega) rfl rfl rfl ?_
    exact BK.mk' _ ⟨k1 + 1,v1,o4,G5,rfl,(hle4.trans hle5),hS13,(Ye.cast hr8 (by (rw [ZdK ‹_›]; exact (ZmG ‹_› (by omega)).symm))),⟨rfl,rfl,rfl,rfl,trivial⟩,(by omega)⟩ (show l1.length - (k1 + 1) < l1.length - k1 by omega)
   have h4 : x2.b < x1.a:=q2
   clear q2
   refine dr [] [(24, .bool true),(27, .int .i64 x1.a),(30, .int .i64 (((Ym (l1.take k1)).length - 1 : Nat) : Int)),(31, .pointer (some p2)),(33, .int .i64 x2.b),(34, .bool false)] hS10 ⟨fun _=>WL.cmpV .gtr rfl .i64 (((Ym (l1.take k1)).length : Nat) : Int) 0 _ hb3 rfl rfl rfl <| nu rfl rfl,fun _ hSw=>Za hSw (Xw.drop 0 hc1) Zp rfl rfl rfl <| nu rfl rfl,fun _=>Qt ((Ym (l1.take k1)).length) (by omega) (by have hreach : reach = 140737488355328:=rfl; omega) rfl rfl rfl <| nu rfl rfl,fun _=>Zk ((Ym (l1.take k1)).length - 1) ep1 YT Zu rfl rfl rfl rfl <| nu rfl rfl,fun _ hSw=>Zcq ra2 hSw 0 rfl 1 _ rfl Zp rfl rfl rfl <| nu rfl rfl,fun _=>WL.cmpV .leq rfl .i64 x1.a x2.b _ hb6 rfl rfl rfl <| nu rfl rfl,trivial⟩ (fun w11 hS14=>?_)
   refine Zc hS14 hc1 [.int .i64 x1.a, .int .i64 x1.b] Zu rfl rfl rfl rfl rfl ?_
   refine WL.buildSlice _ [(0,[.int .i64 x1.a, .int .i64 x1.b])] [.int .i64 x1.a, .int .i64 x1.b] hS14 YO rfl rfl rfl rfl (fun z hz=>by match z,hz with | [z0,z1],_=>rfl) (fun b2 w12 hn2 hS15=>?_)
   refine WL.push (m:=([x1] : List Span)) YO rfl rfl rfl (hr3.mono hle5) hS15 1 rfl 0 _ _ _ _ _ rfl ⟨[.int .i64 x1.a, .int .i64 x1.b],_,rfl,(Zs x1 hb1 hb2),rfl⟩ rfl (by have hreach : reach = 140737488355328:=rfl; simp only [List.length_cons,List.length_nil]; omega) (by have hreach : reach = 140737488355328:=rfl; simp only [List.length_cons,List.length_nil]; omega) rfl rfl rfl (fun v2 o5 w13 hr9 hS16=>?_)
   have hS17:=hS16.tail
   refine Zl k1 (by have hreach : reach = 140737488355328:=rfl; omega) rfl rfl rfl ?_
   exact BK.mk' _ ⟨k1 + 1,v2,o5,G5,rfl,(hle4.trans hle5),hS17,(Ye.cast hr9 (by (rw [ZdK ‹_›]; exact (ZlB ‹_› (by omega)).symm))),⟨rfl,rfl,rfl,rfl,trivial⟩,(by omega)⟩ (show l1.length - (k1 + 1) < l1.length - k1 by omega)
  have h3 : (((Ym (l1.take k1)).length : Nat) : Int) ≤ 0:=q1
  clear q1
  refine dr [] [(24, .bool false)] hS10 ⟨fun _=>WL.cmpV .gtr rfl .i64 (((Ym (l1.take k1)).length : Nat) : Int) 0 _ hb3 rfl rfl rfl <| nu rfl rfl,trivial⟩ (fun w14 hS18=>?_)
  refine Zc hS18 hc1 [.int .i64 x1.a, .int .i64 x1.b] Zu rfl rfl rfl rfl rfl ?_
  refine WL.buildSlice _ [(0,[.int .i64 x1.a, .int .i64 x1.b])] [.int .i64 x1.a, .int .i64 x1.b] hS18 YO rfl rfl rfl rfl (fun z hz=>by match z,hz with | [z0,z1],_=>rfl) (fun b3 w15 hn3 hS19=>?_)
  refine WL.push (m:=([x1] : List Span)) YO rfl rfl rfl (hr3.mono hle5) hS19 1 rfl 0 _ _ _ _ _ rfl ⟨[.int .i64 x1.a, .int .i64 x1.b],_,rfl,(Zs x1 hb1 hb2),rfl⟩ rfl (by have hreach : reach = 140737488355328:=rfl; simp only [List.length_cons,List.length_nil]; omega) (by have hreach : reach = 140737488355328:=rfl; simp only [List.length_cons,List.length_nil]; omega) rfl rfl rfl (fun v3 o6 w16 hr10 hS20=>?_)
  have hS21:=hS20.tail
  refine Zl k1 (by have hreach : reach = 140737488355328:=rfl; omega) rfl rfl rfl ?_
  exact BK.mk' _ ⟨k1 + 1,v3,o6,G5,rfl,(hle4.trans hle5),hS21,(Ye.cast hr10 (by (rw [ZdK ‹_›]; exact (ZmF (by omega)).symm))),⟨rfl,rfl,rfl,rfl,trivial⟩,(by omega)⟩ (show l1.length - (k1 + 1) < l1.length - k1 by omega)
 obtain ⟨G6,hle6,hs1,hS22⟩:=Ye.freeze hr3 hS6 0 rfl
 refine Z6 hS22 Zsm rfl rfl rfl (Zh9 hS22.imm (Ym (l1.take k1)) _ hs1 (by rw [Zhv ‹_› hB (by omega)]; exact Nat.le_trans ZiC hl)) ?_
 rintro w17 G7 _ ⟨r4,_,rfl,hs2,rfl⟩ hS23 hle7
 exact RT hS23 rfl ⟨_,_,rfl,(Sl.cast hs2 (by exact Zhv ‹_› hB (by omega))),(congrArg (Value.int .i64) (by rfl))⟩
theorem ZeL {G : GH} {w : World} (hG : G.In w) (a b : List Span) (va : Value) (hva : Sl SpanE 16 G va a) (vb : Value) (hvb : Sl SpanE 16 G vb b) : CL Tryz.prog (nat_lit 75) #[va,vb] [] w G fun _ _ r=>r = .bool (decide (a = b)):=by
 refine Zg ft [] Tryz.func75 rfl rfl ?_
 have hS:=St.start (X:=[]) hG
 have bd1:=hva.bound
 refine Zj hva YT rfl rfl ?_
 have bd2:=hvb.bound
 refine Zj hvb YT rfl rfl ?_
 refine Yf (a.length : Int) (b.length : Int) rfl rfl rfl (fun h1=>?_) (fun h1=>?_)
 ·exact RB hS rfl (by rw [← XS]; exact (Qw (by omega)).symm)
 have bd3:=hva.bound
 refine Zj hva YT rfl rfl ?_
 refine LP.go ft [] (fun m ρ1 w1=>∃ (k1 : Nat),∃ (G1 : GH),m = a.length - k1 ∧ G.le G1 ∧ St w [] G G1 [] w1 ∧ FR ρ1 [(0,va),(1,vb),(12, .int .i64 (a.length : Int)),(13, .int .i64 (k1 : Int))] ∧ k1 ≤ a.length ∧ ∀ j,j < k1 → ∀ x y,a[j]? = some x → b[j]? = some y → decide (x = y) = true) _ ⟨0,G,rfl,(G.le_refl),hS,⟨rfl,rfl,rfl,rfl,trivial⟩,(by omega),(by intro j hj; omega)⟩ ?_
 rintro m ρ1 w1 ⟨k1,G1,rfl,hle1,hS1,hF9,f1,f2⟩
 refine hF9.set ?_
 clear hF9
 refine Zq (k1 : Int) (a.length : Int) rfl rfl rfl (fun h2=>?_) (fun h2=>?_)
 ·obtain ⟨p1,x1,hx1,he1,ep1⟩:=Sl.at (hva.mono hle1) k1 (by omega)
  obtain ⟨cs1,hc1,hr1⟩:=he1
  obtain ⟨rfl,hb1,hb2⟩:=ZE hr1
  obtain ⟨p2,x2,hx2,he2,ep2⟩:=Sl.at (hvb.mono hle1) k1 (by omega)
  obtain ⟨cs2,hc2,hr2⟩:=he2
  obtain ⟨rfl,hb3,hb4⟩:=ZE hr2
  rcases Classical.em (x1 = x2) with h3 | h3
  ·refine dr [] [(18, .pointer (some p1)),(19, .agg #[.int .i64 x1.a, .int .i64 x1.b]),(22, .pointer (some p2)),(23, .agg #[.int .i64 x2.a, .int .i64 x2.b]),(24, .bool false)] hS1 ⟨fun _=>Zk k1 ep1 YT Zu rfl rfl rfl rfl <| nu rfl rfl,fun _ hSw=>Zc hSw hc1 [.int .i64 x1.a, .int .i64 x1.b] Zu rfl rfl rfl rfl rfl <| nu rfl rfl,fun _=>Zk k1 ep2 YT Zu rfl rfl rfl rfl <| nu rfl rfl,fun _ hSw=>Zc hSw hc2 [.int .i64 x2.a, .int .i64 x2.b] Zu rfl rfl rfl rfl rfl <| nu rfl rfl,fun _=>XZ false (Ze7 x1 x2) ZjD (by simp [h3]) rfl rfl rfl <| nu rfl rfl,trivial⟩ (fun w2 hS2=>?_)
   refine Zl k1 (by have hreach : reach = 140737488355328:=rfl; omega) rfl rfl rfl ?_
   exact BK.mk' _ ⟨k1 + 1,G1,rfl,hle1,hS2,⟨rfl,rfl,rfl,rfl,trivial⟩,(by omega),(by exact Zae ‹_› ‹_› ‹_› (decide_eq_true (by simp_all)))⟩ (show a.length - (k1 + 1) < a.length - k1 by omega)
  refine dr [] [(18, .pointer (some p1)),(19, .agg #[.int .i64 x1.a, .int .i64 x1.b]),(22, .pointer (some p2)),(23, .agg #[.int .i64 x2.a, .int .i64 x2.b]),(24, .bool true)] hS1 ⟨fun _=>Zk k1 ep1 YT Zu rfl rfl rfl rfl <| nu rfl rfl,fun _ hSw=>Zc hSw hc1 [.int .i64 x1.a, .int .i64 x1.b] Zu rfl rfl rfl rfl rfl <| nu rfl rfl,fun _=>Zk k1 ep2 YT Zu rfl rfl rfl rfl <| nu rfl rfl,fun _ hSw=>Zc hSw hc2 [.int .i64 x2.a, .int .i64 x2.b] Zu rfl rfl rfl rfl rfl <| nu rfl rfl,fun _=>XZ true (Ze7 x1 x2) ZjD (by simp [h3]) rfl rfl rfl <| nu rfl rfl,trivial⟩ (fun w3 hS3=>?_)
  exact RB hS3 rfl (by rw [← XS]; exact (QS (f:=fun (x y : Span)=>decide (x = y)) ‹_› ‹_› (decide_eq_false (by simp_all))).symm)
 exact RB hS1 rfl (by rw [← XS]; exact (Q8 (by omega) ‹_› (by omega)).symm)
theorem ZgG {G : GH} {w : World} (hG : G.In w) (l : List HRow) (tx : Int) (vl : Value) (hvl : Sl HRowE 56 G vl l) (hgood : ZK l) (hl : l.length ≤ 2000) : CL Tryz.prog (nat_lit 87) #[vl, .int .i64 tx] [] w G fun G' _ r=>Sl SpanE 16 G' r (ZB l tx):=by
 refine Zg ft [] Tryz.func87 rfl rfl ?_
 have hS:=St.start (X:=[]) hG
 have bd1:=hvl.bound
 refine Zj hvl Yq rfl rfl ?_
 have hS2:=hS.pad
 refine LP.go ft [] (fun m ρ1 w1=>∃ (k1 : Nat),∃ (v1 : Value) (o1 : OB),∃ (G1 : GH),m = l.length - k1 ∧ G.le G1 ∧ St w [] G G1 [o1] w1 ∧ Ye SpanE 16 33 G1 v1 (Yv (l.take k1) tx) o1 ∧ FR ρ1 [(1, .int .i64 tx),(5,v1),(10,vl),(11, .int .i64 (l.length : Int)),(12, .int .i64 (k1 : Int))] ∧ k1 ≤ l.length) _ ⟨0,(.slice none 0 0),none,G,rfl,(G.le_refl),hS2,(Ye.nil SpanE 16 33 G),⟨rfl,rfl,rfl,rfl,rfl,trivial⟩,(by omega)⟩ ?_
 rintro m ρ1 w1 ⟨k1,v1,o1,G1,rfl,hle1,hS1,hr1,hF9,f1⟩
 refine hF9.set ?_
 clear hF9
 have hsl:=Zii l tx k1
 refine Zq (k1 : Int) (l.length : Int) rfl rfl rfl (fun h1=>?_) (fun h1=>?_)
 ·refine WL.indexAddr (hvl.mono hle1) k1 (by omega) Yq Zt rfl rfl rfl rfl (fun p1 x1 hx1 he1=>?_)
  obtain ⟨cs1,hc1,hr2⟩:=he1
  obtain ⟨v2,rfl,hs1,hb1,hb2,hb3,hb4⟩:=ZA hr2
  refine Zc hS1 hc1 [v2, .int .i64 x1.r.d.a, .int .i64 x1.r.d.b, .int .i64 x1.r.x.a, .int .i64 x1.r.x.b] Zt rfl rfl rfl rfl rfl ?_
  refine WL.alloc hS1 Zt rfl rfl (fun b1 w2 hn1 hS3=>?_)
  refine WL.store hS3 0 _ _ _ 0 _ [v2, .int .i64 x1.r.d.a, .int .i64 x1.r.d.b, .int .i64 x1.r.x.a, .int .i64 x1.r.x.b] [v2, .int .i64 x1.r.d.a, .int .i64 x1.r.d.b, .int .i64 x1.r.x.a, .int .i64 x1.r.x.b] _ rfl rfl Zt rfl (Nat.le_of_ble_eq_true rfl) (by simp only [List.all_cons,List.all_nil,hs1.oneC,Bool.true_and] <;> rfl) rfl rfl rfl rfl rfl (fun w3 hS4=>?_)
  obtain ⟨G2,hle2,hc2,hS5⟩:=hS4.shutB hn1
  refine Za hS5 (Xw.drop 0 (Xw.drop 2 (Xw.drop 1 hc2))) Zp rfl rfl rfl ?_
  refine Qu x1.r.x.a tx rfl rfl rfl (fun h2=>?_) (fun h2=>?_)
  ·refine Za hS5 (Xw.drop 1 (Xw.drop 2 (Xw.drop 1 hc2))) Zp rfl rfl rfl ?_
   refine Zq tx x1.r.x.b rfl rfl rfl (fun h3=>?_) (fun h3=>?_)
   ·refine Zc hS5 (Xw.drop 0 (Xw.drop 1 hc2)) [.int .i64 x1.r.d.a, .int .i64 x1.r.d.b] Zu rfl rfl rfl rfl rfl ?_
    refine WL.buildSlice _ [(0,[.int .i64 x1.r.d.a, .int .i64 x1.r.d.b])] [.int .i64 x1.r.d.a, .int .i64 x1.r.d.b] hS5 YO rfl rfl rfl rfl (fun z hz=>by match z,hz with | [z0,z1],_=>rfl) (fun b2 w4 hn2 hS6=>?_)
    refine WL.push (m:=([x1.r.d] : List Span)) YO rfl rfl rfl (hr1.mono hle2) hS6 1 rfl 0 _ _ _ _ _ rfl ⟨[.int .i64 x1.r.d.a, .int .i64 x1.r.d.b],_,rfl,(Zs x1.r.d hb1 hb2),rfl⟩ rfl (by have hreach : reach = 140737488355328:=rfl; simp only [List.length_cons,List.length_nil]; omega) (by have hreach : reach = 140737488355328:=rfl; simp only [List.length_cons,List.length_nil]; omega) rfl rfl rfl (fun v3 o2 w5 hr3 hS7=>?_)
    have hS8:=hS7.tail
    refine Zl k1 (by have hreach : reach = 140737488355328:=rfl; omega) rfl rfl rfl ?_
    exact BK.mk' _ ⟨k1 + 1,v3,o2,G2,rfl,(hle1.trans hle2),hS8,(Ye.cast hr3 (by (rw [ZdO ‹_›]; unfold XO; simp_all <;> omega))),⟨rfl,rfl,rfl,rfl,rfl,trivial⟩,(by omega)⟩ (show l.length - (k1 + 1) < l.length - k1 by omega)
   refine Zl k1 (by have hreach : reach = 140737488355328:=rfl; omega) rfl rfl rfl ?_
   exact BK.mk' _ ⟨k1 + 1,v1,o1,G2,rfl,(hle1.trans hle2),hS5,(Ye.cast (hr1.mono hle2) (by (rw [ZdO ‹_›]; unfold XO; simp_all <;> omega))),⟨rfl,rfl,rfl,rfl,rfl,trivial⟩,(by omega)⟩ (show l.length - (k1 + 1) < l.length - k1 by omega)
  refine Zl k1 (by have hreach : reach = 140737488355328:=rfl; omega) rfl rfl rfl ?_
  exact BK.mk' _ ⟨k1 + 1,v1,o1,G2,rfl,(hle1.trans hle2),hS5,(Ye.cast (hr1.mono hle2) (by (rw [ZdO ‹_›]; unfold XO; simp_all <;> omega))),⟨rfl,rfl,rfl,rfl,rfl,trivial⟩,(by omega)⟩ (show l.length - (k1 + 1) < l.length - k1 by omega)
 obtain ⟨G3,hle3,hs2,hS9⟩:=Ye.freeze hr1 hS1 0 rfl
 refine Z6 hS9 ZvJ rfl rfl rfl (Zrb hS9.imm (Yv (l.take k1) tx) _ hs2 (by rw [List.take_of_length_le (by omega)]; exact Zbg hgood.d tx) (by rw [List.take_of_length_le (by omega)]; exact Nat.le_trans (ZeB l tx) hl)) ?_
 rintro w6 G4 _ ⟨r2,_,rfl,hs3,rfl⟩ hS10 hle4
 exact RT hS10 rfl (Sl.cast hs3 (by rw [List.take_of_length_le (by omega)]; rfl))
end Go.Civ
set_option linter.unusedVariables false
set_option linter.unusedSimpArgs false
set_option maxRecDepth 100000
set_option maxHeartbeats 4000000
namespace Go.Civ
open Go.Proofs
theorem Zab {G : GH} {w : World} (hG : G.In w) (l : List Val) (vl : Value) (hvl : Sl ValE 32 G vl l) : CL Tryz.prog (nat_lit 73) #[vl] [] w G fun G' _ r=>Sl ValE 32 G' r l:=by
 refine Zg ft [] Tryz.func73 rfl rfl ?_
 have hS:=St.start (X:=[]) hG
 refine Ze2 hvl Yd rfl rfl rfl (fun h1=>?_) ?_
 ·exact RT hS rfl (Sl.cast (Sl.nil ValE 32 G) (by exact Eq.symm ‹_›))
 refine WL.buildSlice _ [] [] hS Zk4 rfl rfl rfl rfl (fun z hz=>by match z,hz with | [],_=>rfl) (fun b1 w1 hn1 hS1=>?_)
 have hr1:=Ye.empty ValE 32 58 G b1
 refine YE Zk4 rfl rfl rfl hr1 hS1 0 rfl hvl (by have hreach : reach = 140737488355328:=rfl; have:=hvl.bytes; have:=hvl.bound; simp only [List.length_nil,Nat.zero_add]; omega) (by have hreach : reach = 140737488355328:=rfl; have:=hvl.bytes; have:=hvl.bound; simp only [List.length_nil,Nat.zero_add]; omega) rfl rfl rfl (fun v1 o1 w2 hr2 hS2=>?_)
 obtain ⟨G1,hle1,hs1,hS3⟩:=Ye.freeze hr2 hS2 0 rfl
 exact RT hS3 rfl (Sl.cast hs1 (by rfl))
theorem Ztn {w0 : World} {G0 G : GH} {w : World} {R : Own} (v : List Val) (fr c : Int) (l : List HRow) (nw : List Span) (bn bo bf : Nat) (nv vo : Value) (ro : OB) (hnv : Sl SpanE 16 G nv nw) (hvo : Ye HRowE 56 (nat_lit 37) G vo l ro) (hS : St w0 [] G0 G (some (bn,(nat_lit 71),[nv]) :: some (bo,(nat_lit 26),[vo]) :: some (bf,(nat_lit 3),[.int .i64 fr]) :: ro :: R) w) (gv : Value) (hgv : Sl ValE 32 G gv v) (gt : Value) (pg : Addr) (hpg : Xw G pg [gv,gt]) (hc64 : Zw c) (hf64 : Zw fr) (hb : l.length + nw.length ≤ 1000000000) : Calls Tryz.prog (nat_lit 178) #[.int .i64 c, .pointer (some ⟨bn,0,none⟩), .pointer (some ⟨bo,0,none⟩), .pointer (some pg), .pointer (some ⟨bf,0,none⟩)] w fun e9 w9=>∃ (G9 : GH) (v9 : Value) (o9 : OB),e9 = .returned (.tuple #[]) ∧ G.le G9 ∧ St w0 [] G0 G9 (some (bn,(nat_lit 71),[nv]) :: some (bo,(nat_lit 26),[v9]) :: some (bf,(nat_lit 3),[.int .i64 fr]) :: o9 :: R) w9 ∧ Ye HRowE 56 (nat_lit 37) G9 v9 (l ++ Xl v nw fr c) o9:=by
 refine Zg ft [] Tryz.func178 rfl rfl ?_
 refine ZU hS 0 _ _ _ 0 _ rfl rfl ZmP rfl rfl rfl ?_
 have bd1:=hnv.bound
 refine Zj hnv YT rfl rfl ?_
 refine LP.go ft [] (fun m ρ1 w1=>∃ (k1 : Nat),∃ (v1 : Value) (o1 : OB),∃ (G1 : GH),m = nw.length - k1 ∧ G.le G1 ∧ St w0 [] G0 G1 (some (bn,(nat_lit 71),[nv]) :: some (bo,(nat_lit 26),[v1]) :: some (bf,(nat_lit 3),[.int .i64 fr]) :: o1 :: R) w1 ∧ Ye HRowE 56 37 G1 v1 (l ++ Xl v (nw.take k1) fr c) o1 ∧ FR ρ1 [(0, .int .i64 c),(2, .pointer (some ⟨bo,0,none⟩)),(3, .pointer (some pg)),(4, .pointer (some ⟨bf,0,none⟩)),(8,nv),(9, .int .i64 (nw.length : Int)),(10, .int .i64 (k1 : Int))] ∧ k1 ≤ nw.length) _ ⟨0,vo,ro,G,rfl,(G.le_refl),hS,(Ye.cast hvo (by simp [Xl])),⟨rfl,rfl,rfl,rfl,rfl,rfl,rfl,trivial⟩,(by omega)⟩ ?_
 rintro m ρ1 w1 ⟨k1,v1,o1,G1,rfl,hle1,hS1,hr1,hF9,f1⟩
 refine hF9.set ?_
 clear hF9
 have hol:=Zcc v (nw.take k1) fr c
 have hot:=List.length_take_le' k1 nw
 refine Zq (k1 : Int) (nw.length : Int) rfl rfl rfl (fun h1=>?_) (fun h1=>?_)
 ·refine WL.indexAddr (hnv.mono hle1) k1 (by omega) YT Zu rfl rfl rfl rfl (fun p1 x1 hx1 he1=>?_)
  obtain ⟨cs1,hc1,hr2⟩:=he1
  obtain ⟨rfl,hb1,hb2⟩:=ZE hr2
  refine Zc hS1 hc1 [.int .i64 x1.a, .int .i64 x1.b] Zu rfl rfl rfl rfl rfl ?_
  refine WL.alloc hS1 Zu rfl rfl (fun b1 w2 hn1 hS2=>?_)
  refine WL.store hS2 0 _ _ _ 0 _ [.int .i64 x1.a, .int .i64 x1.b] [.int .i64 x1.a, .int .i64 x1.b] _ rfl rfl Zu rfl (Nat.le_of_ble_eq_true rfl) rfl rfl rfl rfl rfl rfl (fun w3 hS3=>?_)
  obtain ⟨G2,hle2,hc2,hS4⟩:=hS3.shutB hn1
  refine dr [(3,true),(9,true),(10,true),(11,false),(12,false)] [(14,v1),(16,gv),(18, .agg #[.int .i64 x1.a, .int .i64 x1.b]),(19, .int .i64 fr),(21, .agg #[.int .i64 fr, .int .i64 c]),(22, .agg #[.int .i64 x1.a, .int .i64 x1.b, .int .i64 fr, .int .i64 c])] hS4 ⟨fun _ hSw=>ZU hSw 1 _ _ _ 0 _ rfl rfl Xg rfl rfl rfl <| nu rfl rfl,fun _ hSw=>Za hSw (Xw.drop 0 (hpg.mono (hle1.trans hle2))) ZH rfl rfl rfl <| nu rfl rfl,fun _ hSw=>Zc hSw hc2 [.int .i64 x1.a, .int .i64 x1.b] Zu rfl rfl rfl rfl rfl <| nu rfl rfl,fun _ hSw=>ZU hSw 2 _ _ _ 0 _ rfl rfl Zp rfl rfl rfl <| nu rfl rfl,fun _=>WL.build _ [(0,[.int .i64 fr]),(1,[.int .i64 c])] [.int .i64 fr, .int .i64 c] Zu rfl X6 rfl rfl rfl rfl <| nu rfl rfl,fun _=>WL.build _ [(0,[.int .i64 x1.a, .int .i64 x1.b]),(1,[.int .i64 fr, .int .i64 c])] [.int .i64 x1.a, .int .i64 x1.b, .int .i64 fr, .int .i64 c] Zb8 rfl Zdc rfl rfl rfl rfl <| nu rfl rfl,trivial⟩ (fun w4 hS5=>?_)
  refine Z6 hS5 Ze5 rfl rfl rfl (Zab hS5.imm v _ (hgv.mono (hle1.trans hle2))) (fun w5 G3 r1 hpost1 hS6 hle3=>?_)
  refine ⟨hS6.down hS5.le hle3,?_⟩
  refine WL.build _ [(0,[r1]),(1,[.int .i64 x1.a, .int .i64 x1.b, .int .i64 fr, .int .i64 c])] [r1, .int .i64 x1.a, .int .i64 x1.b, .int .i64 fr, .int .i64 c] Zt rfl Zbr rfl rfl (by show [(0,(r1 : Value).cells.toList),(1,(.agg #[.int .i64 x1.a, .int .i64 x1.b, .int .i64 fr, .int .i64 c] : Value).cells.toList)] = _; simp only [hpost1.cells1] <;> rfl) rfl ?_
  refine ⟨hS6.down hS5.le hle3,?_⟩
  refine WL.buildSlice _ [(0,[r1, .int .i64 x1.a, .int .i64 x1.b, .int .i64 fr, .int .i64 c])] [r1, .int .i64 x1.a, .int .i64 x1.b, .int .i64 fr, .int .i64 c] hS6 Y4 rfl rfl rfl rfl (fun z hz=>by match z,hz with | [z0,z1,z2,z3,z4],_=>rfl) (fun b2 w6 hn2 hS7=>?_)
  refine ⟨hS7.tail.down hS5.le hle3,?_⟩
  refine WL.push (m:=([(HRow.mk v (Rect.mk x1 (Span.mk fr c)))] : List HRow)) Y4 rfl rfl rfl (hr1.mono (hle2.trans hle3)) hS7 4 rfl 0 _ _ _ _ _ rfl ⟨[r1, .int .i64 x1.a, .int .i64 x1.b, .int .i64 fr, .int .i64 c],_,rfl,(ZQ (HRow.mk v (Rect.mk x1 (Span.mk fr c))) hpost1 hb1 hb2 hf64 hc64),rfl⟩ rfl (by have hreach : reach = 140737488355328:=rfl; simp only [List.length_append,List.length_cons,List.length_nil]; omega) (by have hreach : reach = 140737488355328:=rfl; simp only [List.length_append,List.length_cons,List.length_nil]; omega) rfl rfl rfl (fun v2 o2 w7 hr3 hS8=>?_)
  have hS9:=hS8.tail
  refine WL.store hS9 1 _ _ _ 0 _ [v2] [v2] _ rfl hr3.cells1 Xg rfl (Nat.le_of_ble_eq_true rfl) (by simp only [List.all_cons,List.all_nil,hr3.oneC,Bool.true_and] <;> rfl) rfl rfl rfl rfl rfl (fun w9 hS10=>?_)
  refine Zl k1 (by have hreach : reach = 140737488355328:=rfl; omega) rfl rfl rfl ?_
  exact BK.mk' _ ⟨k1 + 1,v2,o2,G3,rfl,(hle1.trans (hle2.trans hle3)),hS10,(Ye.cast hr3 (by (rw [ZdB ‹_›,List.append_assoc]))),⟨rfl,rfl,rfl,rfl,rfl,rfl,rfl,trivial⟩,(by omega)⟩ (show nw.length - (k1 + 1) < nw.length - k1 by omega)
 exact ⟨_,rfl,G1,v1,o1,rfl,hle1,hS1,(Ye.cast hr1 (by rw [ZgD (by omega)]))⟩
end Go.Civ
namespace Go.Civ
open Go.RowKit
set_option linter.unusedVariables false
def QO (a : Int) (s : Span) : Bool:=decide (s.a ≤ a) && decide (a < s.b)
def rrL (l : List HRow) (a x : Int) : VV:=(Zal l a x).map HRow.v
theorem ZhM {α : Type} {v : α} {a : Int} : ∀ {l : List Span},Can l → (l.filter (QO a)).map (fun _=>v) = if Xq l a then [v] else []
 | [],_=>rfl
 | s :: l,h=>by
  have ih:=ZhM (v:=v) (a:=a) h.tail
  rw [List.filter_cons]
  have ec : Xq (s :: l) a = (QO a s || Xq l a):=rfl
  cases hs : QO a s with
  | true=>
   have h2 : Xq l a = false:=by
    rw [Bool.eq_false_iff]; intro e
    have:=h.above (Zao.1 e)
    unfold QO at hs; simp at hs; omega
   rw [h2] at ih
   rw [ec,hs,h2,if_pos rfl,List.map_cons,ih]; rfl
  | false=>
   rw [ec,hs,Bool.false_or]
   exact ih
theorem Zjg {α β : Type} {f g : α → List β} : ∀ {l : List α},(∀ x ∈ l,f x = g x) → l.flatMap f = l.flatMap g
 | [],_=>rfl
 | x :: l,h=>by rw [List.flatMap_cons,List.flatMap_cons,h x (by simp),Zjg fun y hy=>h y (by simp [hy])]
theorem Zml {α β : Type} {p : α → Bool} {f : α → β} : ∀ (l : List α),(l.flatMap fun g=>if p g then [f g] else []) = (l.filter p).map f
 | []=>rfl
 | x :: l=>by
  rw [List.flatMap_cons,Zml l,List.filter_cons]
  cases p x <;> rfl
theorem Zpm {v : List Val} {a x : Int} : ∀ {m : List HRow},(∀ r ∈ m,r.v = v) → (m.filter (Q3 a x)).map HRow.v = ((Yv m x).filter (QO a)).map fun _=>v
 | [],_=>rfl
 | r :: m,h=>by
  have ih:=Zpm (a:=a) (x:=x) (m:=m) fun q hq=>h q (by simp [hq])
  have hv:=h r (by simp)
  have e : Q3 a x r = (QO a r.r.d && XO x r):=rfl
  unfold Yv at ih ⊢
  rw [List.filter_cons,List.filter_cons,e]
  cases h1 : XO x r with
  | true=>
   rw [if_pos rfl,List.map_cons,List.filter_cons,Bool.and_true]
   cases h2 : QO a r.r.d with
   | true=>rw [if_pos rfl,if_pos rfl,List.map_cons,List.map_cons,ih,hv]
   | false=>exact ih
  | false=>rw [Bool.and_false]; exact ih
theorem Zpn {l : List HRow} (hg : ZK l) (a x : Int) : rrL (ZS l) a x = ZaC l a x:=by
 unfold rrL Zal ZaC Yl
 rw [Zdq,List.filter_flatMap,List.map_flatMap,List.filter_map,List.map_map]
 have e : (HGrp.v ∘ fun v=>(⟨v,XA l v⟩ : HGrp)) = id:=rfl
 rw [e,← Zml]
 refine Zjg fun v hv=>?_
 rw [Zpm fun r hr=>(Zlh hr).1]
 have e2 : Yv (nvH l v) x = ZB (XA l v) x:=Zlg (hg.of v) v x
 rw [e2,ZhM (ZbG (hg.of v) x)]
 rfl
end Go.Civ
namespace Go.Civ
open Go.RowKit
set_option linter.unusedVariables false
def ZaZ (k : Nat) : VV → Option (List Val)
 | []=>none
 | x :: r=>if r.any (fun y=>decide (y.take k = x.take k)) then some x else ZaZ k r
def ZR (k : Nat) : VV → Option (List Val)
 | x :: y :: r=>if x.take k = y.take k then some x else ZR k (y :: r)
 | _=>none
theorem Zjh {x y : List Val} : ∀ {k : Nat},ZG cmpV x y ≤ 0 → ZG cmpV (x.take k) (y.take k) ≤ 0:=by
 induction x generalizing y with
 | nil=>
  intro k h
  cases y with
  | nil=>simpa using h
  | cons b y=>cases k <;> simp [ZG]
 | cons a x ih=>
  intro k h
  cases k with
  | zero=>simp [ZG]
  | succ k=>
   cases y with
   | nil=>simp [ZG] at h
   | cons b y=>
    simp only [List.take_succ_cons]
    unfold ZG at h ⊢
    split
    ·rename_i q; rw [if_pos q] at h; exact h
    ·rename_i q; rw [if_neg q] at h; exact ih h
theorem ZlM {k : Nat} {x y z : List Val} (h1 : ZG cmpV x y < 0) (h2 : ZG cmpV y z < 0) (h : x.take k = z.take k) : x.take k = y.take k:=by
 have a:=Zjh (k:=k) (Int.le_of_lt h1)
 have b:=Zjh (k:=k) (Int.le_of_lt h2)
 rw [← h] at b
 rcases Int.lt_or_le (ZG cmpV (x.take k) (y.take k)) 0 with q | q
 ·have:=(ord.swap _ _).1 q; omega
 ·exact (ord.eq _ _).1 (by omega)
theorem ZfE {k : Nat} : ∀ {l : VV},Za9 l → ZaZ k l = ZR k l
 | [],_=>rfl
 | [x],_=>rfl
 | x :: y :: r,h=>by
  obtain ⟨h1,h2⟩:=List.pairwise_cons.1 h
  have ih:=ZfE (k:=k) h2
  unfold ZaZ ZR
  by_cases e : x.take k = y.take k
  ·rw [if_pos e,if_pos]
   rw [List.any_cons,decide_eq_true e.symm]; rfl
  ·rw [if_neg e,if_neg,ih]
   rw [Bool.not_eq_true,List.any_eq_false]
   intro z hz hq
   have hq:=of_decide_eq_true hq
   rcases List.mem_cons.1 hz with rfl | hz
   ·exact e hq.symm
   ·have h3:=(List.pairwise_cons.1 h2).1 z hz
    exact e (ZlM (h1 y (by simp)) h3 hq.symm)
theorem ZhN {k : Nat} {v : List Val} : ∀ {l : VV},Za9 l → ZR k l = some v → v ∈ l ∧ ∃ w ∈ l,w ≠ v ∧ w.take k = v.take k
 | [],_,h=>by cases h
 | [x],_,h=>by cases h
 | x :: y :: r,hi,h=>by
  obtain ⟨h1,h2⟩:=List.pairwise_cons.1 hi
  unfold ZR at h
  split at h
  ·rename_i e
   obtain rfl:=Option.some.inj h
   refine ⟨by simp,y,by simp,fun q=>?_,e.symm⟩
   have:=h1 y (by simp)
   rw [q,ord.refl] at this; omega
  ·obtain ⟨a,w,b,c,d⟩:=ZhN h2 h
   exact ⟨List.mem_cons_of_mem _ a,w,List.mem_cons_of_mem _ b,c,d⟩
theorem ZnF {k : Nat} : ∀ {l : VV},Za9 l → ZR k l = none → ∀ v ∈ l,∀ w ∈ l,w ≠ v → w.take k ≠ v.take k
 | l,hi,h=>by
  rw [← ZfE hi] at h
  intro v hv w hw hne e
  have key : ∀ {l : VV},ZaZ k l = none → l.Pairwise fun x y=>y.take k ≠ x.take k:=by
   intro l
   induction l with
   | nil=>intro _; exact List.Pairwise.nil
   | cons x r ih=>
    intro h
    unfold ZaZ at h
    split at h
    ·cases h
    ·rename_i q
     rw [Bool.not_eq_true,List.any_eq_false] at q
     exact List.pairwise_cons.2 ⟨fun y hy e=>q y hy (decide_eq_true e),ih h⟩
  obtain ⟨i,hi1⟩:=List.getElem?_of_mem hv
  obtain ⟨j,hj1⟩:=List.getElem?_of_mem hw
  obtain ⟨i1,rfl⟩:=List.getElem?_eq_some_iff.1 hi1
  obtain ⟨j1,rfl⟩:=List.getElem?_eq_some_iff.1 hj1
  have hp:=List.pairwise_iff_getElem.1 (key h)
  rcases Nat.lt_trichotomy i j with q | q | q
  ·exact hp i j i1 j1 q e
  ·subst q; exact hne rfl
  ·exact hp j i j1 i1 q e.symm
end Go.Civ
