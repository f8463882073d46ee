/- Lemmas. -/
import Derived.Test.YthgeclodflmiaaaGreatC08
import Derived.Test.YthgeclodflmiaaaGreatC11
import Derived.Test.YthgeclodflmiaaaGreatC19
import Derived.Test.YthgeclodflmiaaaGreatProg
import Derived.KernelRfl
import Derived.WalkKit
set_option linter.unusedVariables false
set_option linter.unusedSimpArgs false
set_option maxRecDepth 100000
set_option maxHeartbeats 4000000
namespace Go.Civ
open Go.Proofs
theorem ZpH {G : GH} {w : World} (hG : G.In w) (l : List Span) (vl : Value) (hvl : Sl SpanE 16 G vl l) : CL Tryz.prog (nat_lit 188) #[vl] [] w G fun G' w' r=>∃ o,Yb SpanE 16 (nat_lit 33) G' r l o ∧ Zfk w w' G' o:=by
 refine Zh ft [] Tryz.func188 rfl rfl ?_
 have hS:=St.start (X:=[]) hG
 refine ZfM hvl YN rfl rfl rfl (fun h1=>?_) ?_
 ·exact RT hS rfl ⟨none,Yb.cast (Yb.nil _ _ _ _) (by exact Eq.symm ‹_›),fun _ h=>by cases h⟩
 refine WL.buildSlice _ [] [] hS YH rfl rfl rfl rfl (fun z hz=>by match z,hz with | [],_=>rfl) (fun b1 w1 hn1 hS1=>?_)
 have hr1:=Yb.empty SpanE 16 33 G b1
 refine YA YH rfl rfl rfl hr1 hS1 0 rfl hvl (by have hreach : reach = 140737488355328:=rfl; have:=hvl.bytes; have:=hvl.bound; simp only [List.length_nil,Nat.zero_add]; omega) (by have hreach : reach = 140737488355328:=rfl; have:=hvl.bytes; have:=hvl.bound; simp only [List.length_nil,Nat.zero_add]; omega) rfl rfl rfl (fun v1 o1 w2 hr2 hS2=>?_)
 exact RT hS2 rfl ⟨_,Yb.cast hr2 (by rfl),hS2.freshAt 0 rfl⟩
theorem ZjQ {G : GH} {w : World} (hG : G.In w) (l : List Span) (vl : Value) (hvl : Sl SpanE 16 G vl l) (hB : ∀ s ∈ l,ZM s = true) (hl : l.length ≤ 2000) : CL Tryz.prog (nat_lit 140) #[vl] [] w G fun G' _ r=>∃ r0 r1,r = .tuple #[r0,r1] ∧ Sl SpanE 16 G' r0 (Q1 l) ∧ r1 = .int .i64 0:=by
 refine Zh ft [] Tryz.func140 rfl rfl ?_
 have hS:=St.start (X:=[]) hG
 refine Zn hS Zu7 rfl rfl rfl (ZjL hS.imm l (fun x8=>!Xk x8) _ hvl 187 #[] ⟨Zu8,fun G8 w8 v8 x8 hle8 hG8 hon8 hA8=>by obtain ⟨cs_x8,rfl,hr_x8⟩:=hA8; exact Zn9 hG8 x8 cs_x8 hr_x8⟩) (fun w1 G1 hS1 hle1=>?_)
 refine WL.split (fun (h1 : (l.any (fun x8=>!Xk x8)) = true)=>?_) (fun (h1 : (l.any (fun x8=>!Xk x8)) = false)=>?_)
 ·exact RT hS1 rfl ⟨_,_,rfl,(Sl.cast (Sl.nil SpanE 16 G1) (by exact absurd ‹_› (by rw [Zic hB]; simp))),(congrArg (Value.int .i64) (by exact absurd ‹_› (by rw [Zic hB]; simp)))⟩
 refine Zah Zu9 rfl rfl rfl (ZpH hS1.imm l _ (hvl.mono hle1)) (fun w2 G2 r1 hres1 hpost1=>?_)
 have hS2:=hS1.call hres1
 have hle2:=hres1.le
 obtain ⟨o1,hr1,hf1⟩:=hpost1
 have hS3:=hS1.adoptO hres1 hf1
 refine Zah ZuA rfl rfl rfl (ZrM hS3.imm l _ _ hr1 (hS3.lentAt 0 rfl) (fun s hs=>ZlH (hB s hs))) (fun w3 G3 r2 hres2 hpost2=>?_)
 have hle3:=hres2.le
 obtain ⟨rfl,l1,o2,hr2,hf2,hq1⟩:=hpost2
 have hS5:=hS3.callRow 0 rfl hres2 hr1 hr2 hf2
 have bd1:=hr2.bound
 refine Qv hr2 YN rfl rfl ?_
 have hS7:=hS5.pad
 refine LP.go ft [] (fun m ρ1 w1=>∃ (k1 : Nat),∃ (v1 : Value) (o3 : OB),∃ (G4 : GH),m = l1.length - k1 ∧ G3.le G4 ∧ St w [] G G4 [o3,o2] w1 ∧ Yb SpanE 16 33 G4 v1 (Yq (l1.take k1)) o3 ∧ FR ρ1 [(5,v1),(15,r1),(16, .int .i64 (l1.length : Int)),(17, .int .i64 (k1 : Int))] ∧ k1 ≤ l1.length) _ ⟨0,(.slice none 0 0),none,G3,rfl,(G3.le_refl),hS7,(Yb.nil SpanE 16 33 G3),⟨rfl,rfl,rfl,rfl,trivial⟩,(by omega)⟩ ?_
 rintro m ρ1 w4 ⟨k1,v1,o3,G4,rfl,hle4,hS6,hr3,hF9,f1⟩
 refine hF9.set ?_
 clear hF9
 have len1:=Zg0 (l1.take k1)
 have lent:=List.length_take_le k1 l1
 have lenp:=hq1.1.length_eq
 refine Zm (k1 : Int) (l1.length : Int) rfl rfl rfl (fun h2=>?_) (fun h2=>?_)
 ·refine Qx (hr2.mono hle4) k1 (by omega) YN Zz rfl rfl rfl rfl (fun p1 x1 ec1 hx1 hr4 ra1=>?_)
  obtain ⟨rfl,hb1,hb2⟩:=ZP hr4
  refine Ze7 ra1 hS6 1 rfl Zz rfl rfl rfl rfl ?_
  refine WL.alloc hS6 Zz rfl rfl (fun b1 w5 hn1 hS8=>?_)
  refine WL.store hS8 0 _ _ _ 0 _ [.int .i64 x1.a, .int .i64 x1.b] [.int .i64 x1.a, .int .i64 x1.b] _ rfl rfl Zz rfl (Nat.le_of_ble_eq_true rfl) rfl rfl rfl rfl rfl rfl (fun w6 hS9=>?_)
  obtain ⟨G5,hle5,hc1,hS10⟩:=hS9.shutB hn1
  have bd2:=hr3.bound
  refine Qv (hr3.mono hle5) YN rfl rfl ?_
  rcases Cmp.dec .gtr (((Yq (l1.take k1)).length : Nat) : Int) 0 with ⟨hb3,q1⟩ | ⟨hb3,q1⟩
  ·have h3 : 0 < (((Yq (l1.take k1)).length : Nat) : Int):=q1
   clear q1
   obtain ⟨p2,x2,ec2,hx2,hr5,ra2,ep1⟩:=Yb.atP (hr3.mono hle5) ((Yq (l1.take k1)).length - 1) (by omega)
   obtain ⟨rfl,hb4,hb5⟩:=ZP hr5
   rcases Cmp.dec .leq x1.a x2.b with ⟨hb6,q2⟩ | ⟨hb6,q2⟩
   ·have h4 : x1.a ≤ x2.b:=q2
    clear q2
    refine dr [] [(24, .bool true),(27, .int .i64 x1.a),(30, .int .i64 (((Yq (l1.take k1)).length - 1 : Nat) : Int)),(31, .pointer (some p2)),(33, .int .i64 x2.b),(34, .bool true)] hS10 ⟨fun _=>WL.cmpV .gtr rfl .i64 (((Yq (l1.take k1)).length : Nat) : Int) 0 _ hb3 rfl rfl rfl <| nu rfl rfl,fun _ hSw=>Za hSw (XL.drop 0 hc1) Zr rfl rfl rfl <| nu rfl rfl,fun _=>Qf ((Yq (l1.take k1)).length) (by omega) (by have hreach : reach = 140737488355328:=rfl; omega) rfl rfl rfl <| nu rfl rfl,fun _=>Zi ((Yq (l1.take k1)).length - 1) ep1 YN Zz rfl rfl rfl rfl <| nu rfl rfl,fun _ hSw=>ZbU ra2 hSw 0 rfl 1 _ rfl Zr rfl rfl rfl <| nu rfl rfl,fun _=>WL.cmpV .leq rfl .i64 x1.a x2.b _ hb6 rfl rfl rfl <| nu rfl rfl,trivial⟩ (fun w7 hS11=>?_)
    obtain ⟨p3,x3,ec3,hx3,hr6,ra3,ep2⟩:=Yb.atP (hr3.mono hle5) ((Yq (l1.take k1)).length - 1) (by omega)
    obtain rfl : x2 = x3:=Option.some.inj (hx2.symm.trans hx3)
    obtain ⟨rfl,hb7,hb8⟩:=ZP hr6
    obtain ⟨p4,x4,ec4,hx4,hr7,ra4,ep3⟩:=Yb.atP (hr3.mono hle5) ((Yq (l1.take k1)).length - 1) (by omega)
    obtain rfl : x2 = x4:=Option.some.inj (hx2.symm.trans hx4)
    obtain ⟨rfl,hb9,hb10⟩:=ZP hr7
    refine dr [(14,false)] [(38, .int .i64 (((Yq (l1.take k1)).length - 1 : Nat) : Int)),(41, .int .i64 (((Yq (l1.take k1)).length - 1 : Nat) : Int)),(42, .pointer (some p3)),(44, .int .i64 x2.b),(46, .int .i64 x1.b),(47, .int .i64 (max x2.b x1.b)),(48, .pointer (some p4))] hS11 ⟨fun _=>Qf ((Yq (l1.take k1)).length) (by omega) (by have hreach : reach = 140737488355328:=rfl; omega) rfl rfl rfl <| nu rfl rfl,fun _=>Qf ((Yq (l1.take k1)).length) (by omega) (by have hreach : reach = 140737488355328:=rfl; omega) rfl rfl rfl <| nu rfl rfl,fun _=>Zi ((Yq (l1.take k1)).length - 1) ep2 YN Zz rfl rfl rfl rfl <| nu rfl rfl,fun _ hSw=>ZbU ra3 hSw 0 rfl 1 _ rfl Zr rfl rfl rfl <| nu rfl rfl,fun _ hSw=>Za hSw (XL.drop 1 hc1) Zr rfl rfl rfl <| nu rfl rfl,fun _=>Zfi x2.b x1.b rfl rfl rfl <| nu rfl rfl,fun _=>Zi ((Yq (l1.take k1)).length - 1) ep3 YN Zz rfl rfl rfl rfl <| nu rfl rfl,trivial⟩ (fun w9 hS12=>?_)
    refine ZcV (hr3.mono hle5) ra4 hS12 0 rfl (by omega) rfl 1 _ [.int .i64 (max x2.b x1.b)] (Span.mk x2.a (max x2.b x1.b)) [.int .i64 x2.a, .int .i64 (max x2.b x1.b)] rfl Zr rfl (Nat.le_of_ble_eq_true rfl) rfl rfl (Zw (Span.mk x2.a (max x2.b x1.b)) hb9 (Zab hb8 hb2)) rfl rfl rfl (fun o4 w10 hr8 hS13=>?_)
    refine Zj k1 (by have hreach : reach = 140737488355328:=rfl; omega) rfl rfl rfl ?_
    exact BK.mk' _ ⟨k1 + 1,v1,o4,G5,rfl,(hle4.trans hle5),hS13,(Yb.cast hr8 (by (rw [Zdp ‹_›]; exact (ZlF ‹_› (by omega)).symm))),⟨rfl,rfl,rfl,rfl,trivial⟩,(by omega)⟩ (show l1.length - (k1 + 1) < l1.length - k1 by omega)
   have h4 : x2.b < x1.a:=q2
   clear q2
   refine dr [] [(24, .bool true),(27, .int .i64 x1.a),(30, .int .i64 (((Yq (l1.take k1)).length - 1 : Nat) : Int)),(31, .pointer (some p2)),(33, .int .i64 x2.b),(34, .bool false)] hS10 ⟨fun _=>WL.cmpV .gtr rfl .i64 (((Yq (l1.take k1)).length : Nat) : Int) 0 _ hb3 rfl rfl rfl <| nu rfl rfl,fun _ hSw=>Za hSw (XL.drop 0 hc1) Zr rfl rfl rfl <| nu rfl rfl,fun _=>Qf ((Yq (l1.take k1)).length) (by omega) (by have hreach : reach = 140737488355328:=rfl; omega) rfl rfl rfl <| nu rfl rfl,fun _=>Zi ((Yq (l1.take k1)).length - 1) ep1 YN Zz rfl rfl rfl rfl <| nu rfl rfl,fun _ hSw=>ZbU ra2 hSw 0 rfl 1 _ rfl Zr rfl rfl rfl <| nu rfl rfl,fun _=>WL.cmpV .leq rfl .i64 x1.a x2.b _ hb6 rfl rfl rfl <| nu rfl rfl,trivial⟩ (fun w11 hS14=>?_)
   refine Zd hS14 hc1 [.int .i64 x1.a, .int .i64 x1.b] Zz rfl rfl rfl rfl rfl ?_
   refine WL.buildSlice _ [(0,[.int .i64 x1.a, .int .i64 x1.b])] [.int .i64 x1.a, .int .i64 x1.b] hS14 YH rfl rfl rfl rfl (fun z hz=>by match z,hz with | [z0,z1],_=>rfl) (fun b2 w12 hn2 hS15=>?_)
   refine WL.push (m:=([x1] : List Span)) YH rfl rfl rfl (hr3.mono hle5) hS15 1 rfl 0 _ _ _ _ _ rfl ⟨[.int .i64 x1.a, .int .i64 x1.b],_,rfl,(Zw x1 hb1 hb2),rfl⟩ rfl (by have hreach : reach = 140737488355328:=rfl; simp only [List.length_cons,List.length_nil]; omega) (by have hreach : reach = 140737488355328:=rfl; simp only [List.length_cons,List.length_nil]; omega) rfl rfl rfl (fun v2 o5 w13 hr9 hS16=>?_)
   have hS17:=hS16.tail
   refine Zj k1 (by have hreach : reach = 140737488355328:=rfl; omega) rfl rfl rfl ?_
   exact BK.mk' _ ⟨k1 + 1,v2,o5,G5,rfl,(hle4.trans hle5),hS17,(Yb.cast hr9 (by (rw [Zdp ‹_›]; exact (ZkB ‹_› (by omega)).symm))),⟨rfl,rfl,rfl,rfl,trivial⟩,(by omega)⟩ (show l1.length - (k1 + 1) < l1.length - k1 by omega)
  have h3 : (((Yq (l1.take k1)).length : Nat) : Int) ≤ 0:=q1
  clear q1
  refine dr [] [(24, .bool false)] hS10 ⟨fun _=>WL.cmpV .gtr rfl .i64 (((Yq (l1.take k1)).length : Nat) : Int) 0 _ hb3 rfl rfl rfl <| nu rfl rfl,trivial⟩ (fun w14 hS18=>?_)
  refine Zd hS18 hc1 [.int .i64 x1.a, .int .i64 x1.b] Zz rfl rfl rfl rfl rfl ?_
  refine WL.buildSlice _ [(0,[.int .i64 x1.a, .int .i64 x1.b])] [.int .i64 x1.a, .int .i64 x1.b] hS18 YH rfl rfl rfl rfl (fun z hz=>by match z,hz with | [z0,z1],_=>rfl) (fun b3 w15 hn3 hS19=>?_)
  refine WL.push (m:=([x1] : List Span)) YH rfl rfl rfl (hr3.mono hle5) hS19 1 rfl 0 _ _ _ _ _ rfl ⟨[.int .i64 x1.a, .int .i64 x1.b],_,rfl,(Zw x1 hb1 hb2),rfl⟩ rfl (by have hreach : reach = 140737488355328:=rfl; simp only [List.length_cons,List.length_nil]; omega) (by have hreach : reach = 140737488355328:=rfl; simp only [List.length_cons,List.length_nil]; omega) rfl rfl rfl (fun v3 o6 w16 hr10 hS20=>?_)
  have hS21:=hS20.tail
  refine Zj k1 (by have hreach : reach = 140737488355328:=rfl; omega) rfl rfl rfl ?_
  exact BK.mk' _ ⟨k1 + 1,v3,o6,G5,rfl,(hle4.trans hle5),hS21,(Yb.cast hr10 (by (rw [Zdp ‹_›]; exact (ZlE (by omega)).symm))),⟨rfl,rfl,rfl,rfl,trivial⟩,(by omega)⟩ (show l1.length - (k1 + 1) < l1.length - k1 by omega)
 obtain ⟨G6,hle6,hs1,hS22⟩:=Yb.freeze hr3 hS6 0 rfl
 refine Z8 hS22 ZqV rfl rfl rfl (ZgJ hS22.imm (Yq (l1.take k1)) _ hs1 (by rw [Zg1 ‹_› hB (by omega)]; exact Nat.le_trans ZeA hl)) ?_
 rintro w17 G7 _ ⟨r4,_,rfl,hs2,rfl⟩ hS23 hle7
 exact RT hS23 rfl ⟨_,_,rfl,(Sl.cast hs2 (by exact Zg1 ‹_› hB (by omega))),(congrArg (Value.int .i64) (by rfl))⟩
theorem Zee {G : GH} {w : World} (hG : G.In w) (a b : List Span) (va : Value) (hva : Sl SpanE 16 G va a) (vb : Value) (hvb : Sl SpanE 16 G vb b) : CL Tryz.prog (nat_lit 75) #[va,vb] [] w G fun _ _ r=>r = .bool (decide (a = b)):=by
 refine Zh ft [] Tryz.func75 rfl rfl ?_
 have hS:=St.start (X:=[]) hG
 have bd1:=hva.bound
 refine Zl hva YN rfl rfl ?_
 have bd2:=hvb.bound
 refine Zl hvb YN rfl rfl ?_
 refine Xn (a.length : Int) (b.length : Int) rfl rfl rfl (fun h1=>?_) (fun h1=>?_)
 ·exact RB hS rfl (by rw [← Zas]; exact (Zcy (by omega)).symm)
 have bd3:=hva.bound
 refine Zl hva YN rfl rfl ?_
 refine LP.go ft [] (fun m ρ1 w1=>∃ (k1 : Nat),∃ (G1 : GH),m = a.length - k1 ∧ G.le G1 ∧ St w [] G G1 [] w1 ∧ FR ρ1 [(0,va),(1,vb),(12, .int .i64 (a.length : Int)),(13, .int .i64 (k1 : Int))] ∧ k1 ≤ a.length ∧ ∀ j,j < k1 → ∀ x y,a[j]? = some x → b[j]? = some y → decide (x = y) = true) _ ⟨0,G,rfl,(G.le_refl),hS,⟨rfl,rfl,rfl,rfl,trivial⟩,(by omega),(by intro j hj; omega)⟩ ?_
 rintro m ρ1 w1 ⟨k1,G1,rfl,hle1,hS1,hF9,f1,f2⟩
 refine hF9.set ?_
 clear hF9
 refine Zm (k1 : Int) (a.length : Int) rfl rfl rfl (fun h2=>?_) (fun h2=>?_)
 ·obtain ⟨p1,x1,hx1,he1,ep1⟩:=Sl.at (hva.mono hle1) k1 (by omega)
  obtain ⟨cs1,hc1,hr1⟩:=he1
  obtain ⟨rfl,hb1,hb2⟩:=ZP hr1
  obtain ⟨p2,x2,hx2,he2,ep2⟩:=Sl.at (hvb.mono hle1) k1 (by omega)
  obtain ⟨cs2,hc2,hr2⟩:=he2
  obtain ⟨rfl,hb3,hb4⟩:=ZP hr2
  rcases Classical.em (x1 = x2) with h3 | h3
  ·refine dr [] [(18, .pointer (some p1)),(19, .agg #[.int .i64 x1.a, .int .i64 x1.b]),(22, .pointer (some p2)),(23, .agg #[.int .i64 x2.a, .int .i64 x2.b]),(24, .bool false)] hS1 ⟨fun _=>Zi k1 ep1 YN Zz rfl rfl rfl rfl <| nu rfl rfl,fun _ hSw=>Zd hSw hc1 [.int .i64 x1.a, .int .i64 x1.b] Zz rfl rfl rfl rfl rfl <| nu rfl rfl,fun _=>Zi k1 ep2 YN Zz rfl rfl rfl rfl <| nu rfl rfl,fun _ hSw=>Zd hSw hc2 [.int .i64 x2.a, .int .i64 x2.b] Zz rfl rfl rfl rfl rfl <| nu rfl rfl,fun _=>Q0 false (ZdS x1 x2) ZiL (by simp [h3]) rfl rfl rfl <| nu rfl rfl,trivial⟩ (fun w2 hS2=>?_)
   refine Zj k1 (by have hreach : reach = 140737488355328:=rfl; omega) rfl rfl rfl ?_
   exact BK.mk' _ ⟨k1 + 1,G1,rfl,hle1,hS2,⟨rfl,rfl,rfl,rfl,trivial⟩,(by omega),(by exact Zar ‹_› ‹_› ‹_› (decide_eq_true (by simp_all)))⟩ (show a.length - (k1 + 1) < a.length - k1 by omega)
  refine dr [] [(18, .pointer (some p1)),(19, .agg #[.int .i64 x1.a, .int .i64 x1.b]),(22, .pointer (some p2)),(23, .agg #[.int .i64 x2.a, .int .i64 x2.b]),(24, .bool true)] hS1 ⟨fun _=>Zi k1 ep1 YN Zz rfl rfl rfl rfl <| nu rfl rfl,fun _ hSw=>Zd hSw hc1 [.int .i64 x1.a, .int .i64 x1.b] Zz rfl rfl rfl rfl rfl <| nu rfl rfl,fun _=>Zi k1 ep2 YN Zz rfl rfl rfl rfl <| nu rfl rfl,fun _ hSw=>Zd hSw hc2 [.int .i64 x2.a, .int .i64 x2.b] Zz rfl rfl rfl rfl rfl <| nu rfl rfl,fun _=>Q0 true (ZdS x1 x2) ZiL (by simp [h3]) rfl rfl rfl <| nu rfl rfl,trivial⟩ (fun w3 hS3=>?_)
  exact RB hS3 rfl (by rw [← Zas]; exact (Zd7 (f:=fun (x y : Span)=>decide (x = y)) ‹_› ‹_› (decide_eq_false (by simp_all))).symm)
 exact RB hS1 rfl (by rw [← Zas]; exact (Zd8 (by omega) ‹_› (by omega)).symm)
theorem ZfW {G : GH} {w : World} (hG : G.In w) (l : List HRow) (tx : Int) (vl : Value) (hvl : Sl HRowE 56 G vl l) (hgood : Z5 l) (hl : l.length ≤ 2000) : CL Tryz.prog (nat_lit 87) #[vl, .int .i64 tx] [] w G fun G' _ r=>Sl SpanE 16 G' r (ZI l tx):=by
 refine Zh ft [] Tryz.func87 rfl rfl ?_
 have hS:=St.start (X:=[]) hG
 have bd1:=hvl.bound
 refine Zl hvl Yn rfl rfl ?_
 have hS2:=hS.pad
 refine LP.go ft [] (fun m ρ1 w1=>∃ (k1 : Nat),∃ (v1 : Value) (o1 : OB),∃ (G1 : GH),m = l.length - k1 ∧ G.le G1 ∧ St w [] G G1 [o1] w1 ∧ Yb SpanE 16 33 G1 v1 (Yy (l.take k1) tx) o1 ∧ FR ρ1 [(1, .int .i64 tx),(5,v1),(10,vl),(11, .int .i64 (l.length : Int)),(12, .int .i64 (k1 : Int))] ∧ k1 ≤ l.length) _ ⟨0,(.slice none 0 0),none,G,rfl,(G.le_refl),hS2,(Yb.nil SpanE 16 33 G),⟨rfl,rfl,rfl,rfl,rfl,trivial⟩,(by omega)⟩ ?_
 rintro m ρ1 w1 ⟨k1,v1,o1,G1,rfl,hle1,hS1,hr1,hF9,f1⟩
 refine hF9.set ?_
 clear hF9
 have hsl:=Zhs l tx k1
 refine Zm (k1 : Int) (l.length : Int) rfl rfl rfl (fun h1=>?_) (fun h1=>?_)
 ·refine WL.indexAddr (hvl.mono hle1) k1 (by omega) Yn Zt rfl rfl rfl rfl (fun p1 x1 hx1 he1=>?_)
  obtain ⟨cs1,hc1,hr2⟩:=he1
  obtain ⟨v2,rfl,hs1,hb1,hb2,hb3,hb4⟩:=Z7 hr2
  refine Zd hS1 hc1 [v2, .int .i64 x1.r.d.a, .int .i64 x1.r.d.b, .int .i64 x1.r.x.a, .int .i64 x1.r.x.b] Zt rfl rfl rfl rfl rfl ?_
  refine WL.alloc hS1 Zt rfl rfl (fun b1 w2 hn1 hS3=>?_)
  refine WL.store hS3 0 _ _ _ 0 _ [v2, .int .i64 x1.r.d.a, .int .i64 x1.r.d.b, .int .i64 x1.r.x.a, .int .i64 x1.r.x.b] [v2, .int .i64 x1.r.d.a, .int .i64 x1.r.d.b, .int .i64 x1.r.x.a, .int .i64 x1.r.x.b] _ rfl rfl Zt rfl (Nat.le_of_ble_eq_true rfl) (by simp only [List.all_cons,List.all_nil,hs1.oneC,Bool.true_and] <;> rfl) rfl rfl rfl rfl rfl (fun w3 hS4=>?_)
  obtain ⟨G2,hle2,hc2,hS5⟩:=hS4.shutB hn1
  refine Za hS5 (XL.drop 0 (XL.drop 2 (XL.drop 1 hc2))) Zr rfl rfl rfl ?_
  refine QH x1.r.x.a tx rfl rfl rfl (fun h2=>?_) (fun h2=>?_)
  ·refine Za hS5 (XL.drop 1 (XL.drop 2 (XL.drop 1 hc2))) Zr rfl rfl rfl ?_
   refine Zm tx x1.r.x.b rfl rfl rfl (fun h3=>?_) (fun h3=>?_)
   ·refine Zd hS5 (XL.drop 0 (XL.drop 1 hc2)) [.int .i64 x1.r.d.a, .int .i64 x1.r.d.b] Zz rfl rfl rfl rfl rfl ?_
    refine WL.buildSlice _ [(0,[.int .i64 x1.r.d.a, .int .i64 x1.r.d.b])] [.int .i64 x1.r.d.a, .int .i64 x1.r.d.b] hS5 YH rfl rfl rfl rfl (fun z hz=>by match z,hz with | [z0,z1],_=>rfl) (fun b2 w4 hn2 hS6=>?_)
    refine WL.push (m:=([x1.r.d] : List Span)) YH rfl rfl rfl (hr1.mono hle2) hS6 1 rfl 0 _ _ _ _ _ rfl ⟨[.int .i64 x1.r.d.a, .int .i64 x1.r.d.b],_,rfl,(Zw x1.r.d hb1 hb2),rfl⟩ rfl (by have hreach : reach = 140737488355328:=rfl; simp only [List.length_cons,List.length_nil]; omega) (by have hreach : reach = 140737488355328:=rfl; simp only [List.length_cons,List.length_nil]; omega) rfl rfl rfl (fun v3 o2 w5 hr3 hS7=>?_)
    have hS8:=hS7.tail
    refine Zj k1 (by have hreach : reach = 140737488355328:=rfl; omega) rfl rfl rfl ?_
    exact BK.mk' _ ⟨k1 + 1,v3,o2,G2,rfl,(hle1.trans hle2),hS8,(Yb.cast hr3 (by (rw [Zdw ‹_›]; unfold YR; simp_all <;> omega))),⟨rfl,rfl,rfl,rfl,rfl,trivial⟩,(by omega)⟩ (show l.length - (k1 + 1) < l.length - k1 by omega)
   refine Zj k1 (by have hreach : reach = 140737488355328:=rfl; omega) rfl rfl rfl ?_
   exact BK.mk' _ ⟨k1 + 1,v1,o1,G2,rfl,(hle1.trans hle2),hS5,(Yb.cast (hr1.mono hle2) (by (rw [Zdw ‹_›]; unfold YR; simp_all <;> omega))),⟨rfl,rfl,rfl,rfl,rfl,trivial⟩,(by omega)⟩ (show l.length - (k1 + 1) < l.length - k1 by omega)
  refine Zj k1 (by have hreach : reach = 140737488355328:=rfl; omega) rfl rfl rfl ?_
  exact BK.mk' _ ⟨k1 + 1,v1,o1,G2,rfl,(hle1.trans hle2),hS5,(Yb.cast (hr1.mono hle2) (by (rw [Zdw ‹_›]; unfold YR; simp_all <;> omega))),⟨rfl,rfl,rfl,rfl,rfl,trivial⟩,(by omega)⟩ (show l.length - (k1 + 1) < l.length - k1 by omega)
 obtain ⟨G3,hle3,hs2,hS9⟩:=Yb.freeze hr1 hS1 0 rfl
 refine Z8 hS9 ZqM rfl rfl rfl (ZjQ hS9.imm (Yy (l.take k1) tx) _ hs2 (by rw [List.take_of_length_le (by omega)]; exact ZaV hgood.d tx) (by rw [List.take_of_length_le (by omega)]; exact Nat.le_trans (ZdX l tx) hl)) ?_
 rintro w6 G4 _ ⟨r2,_,rfl,hs3,rfl⟩ hS10 hle4
 exact RT hS10 rfl (Sl.cast hs3 (by rw [List.take_of_length_le (by omega)]; rfl))
end Go.Civ
