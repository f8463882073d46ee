/- Lemmas. -/
import Derived.Test.YthgeclodflmiaaaGreatN09
import Derived.Test.YthgeclodflmiaaaGreatN16
import Derived.Test.YthgeclodflmiaaaGreatN19
import Derived.Test.YthgeclodflmiaaaGreatN20
import Derived.Test.YthgeclodflmiaaaGreatProg
import Derived.KernelRfl
import Derived.WalkKit
set_option linter.unusedVariables false
set_option linter.unusedSimpArgs false
set_option maxRecDepth 100000
set_option maxHeartbeats 4000000
namespace Go.Civ
open Go.Proofs
theorem ZqU {G : GH} {w : World} (hG : G.In w) (l : List Span) (vl : Value) (hvl : Sl SpanE 16 G vl l) : CL Tryz.prog (nat_lit 188) #[vl] [] w G fun G' w' r=>∃ o,Yf SpanE 16 (nat_lit 33) G' r l o ∧ ZfD w w' G' o:=by
 refine Zf ft [] Tryz.func188 rfl rfl ?_
 have hS:=St.start (X:=[]) hG
 refine Zgq hvl Yd rfl rfl rfl (fun h1=>?_) ?_
 ·exact RT hS rfl ⟨none,Yf.cast (Yf.nil _ _ _ _) (by exact Eq.symm ‹_›),fun _ h=>by cases h⟩
 refine WL.buildSlice _ [] [] hS Y8 rfl rfl rfl rfl (fun z hz=>by match z,hz with | [],_=>rfl) (fun b1 w1 hn1 hS1=>?_)
 have hr1:=Yf.empty SpanE 16 33 G b1
 refine ZU Y8 rfl rfl rfl hr1 hS1 0 rfl hvl (by have hreach : reach = 140737488355328:=rfl; have:=hvl.bytes; have:=hvl.bound; simp only [List.length_nil,Nat.zero_add]; omega) (by have hreach : reach = 140737488355328:=rfl; have:=hvl.bytes; have:=hvl.bound; simp only [List.length_nil,Nat.zero_add]; omega) rfl rfl rfl (fun v1 o1 w2 hr2 hS2=>?_)
 exact RT hS2 rfl ⟨_,Yf.cast hr2 (by rfl),hS2.freshAt 0 rfl⟩
theorem ZqV {G : GH} {w : World} (hG : G.In w) (l : List Span) (vl : Value) (hvl : Sl SpanE 16 G vl l) (hB : ∀ s ∈ l,ZC s = true) (hl : l.length ≤ 2000) : CL Tryz.prog (nat_lit 140) #[vl] [] w G fun G' _ r=>∃ r0 r1,r = .tuple #[r0,r1] ∧ Sl SpanE 16 G' r0 (Zao l) ∧ r1 = .int .i64 0:=by
 refine Zf ft [] Tryz.func140 rfl rfl ?_
 have hS:=St.start (X:=[]) hG
 refine Zn hS Zv9 rfl rfl rfl (ZkA hS.imm l (fun x8=>!Xk x8) _ hvl 187 #[] ⟨ZvA,fun G8 w8 v8 x8 hle8 hG8 hon8 hA8=>by obtain ⟨cs_x8,rfl,hr_x8⟩:=hA8; exact ZoM hG8 x8 cs_x8 hr_x8⟩) (fun w1 G1 hS1 hle1=>?_)
 refine WL.split (fun (h1 : (l.any (fun x8=>!Xk x8)) = true)=>?_) (fun (h1 : (l.any (fun x8=>!Xk x8)) = false)=>?_)
 ·exact RT hS1 rfl ⟨_,_,rfl,(Sl.cast (Sl.nil SpanE 16 G1) (by exact absurd ‹_› (by rw [ZiI hB]; simp))),(congrArg (Value.int .i64) (by exact absurd ‹_› (by rw [ZiI hB]; simp)))⟩
 refine ZaC ZvB rfl rfl rfl (ZqU hS1.imm l _ (hvl.mono hle1)) (fun w2 G2 r1 hres1 hpost1=>?_)
 have hS2:=hS1.call hres1
 have hle2:=hres1.le
 obtain ⟨o1,hr1,hf1⟩:=hpost1
 have hS3:=hS1.adoptO hres1 hf1
 refine ZaC ZvC rfl rfl rfl (Ztc hS3.imm l _ _ hr1 (hS3.lentAt 0 rfl) (fun s hs=>Zm9 (hB s hs))) (fun w3 G3 r2 hres2 hpost2=>?_)
 have hle3:=hres2.le
 obtain ⟨rfl,l1,o2,hr2,hf2,hq1⟩:=hpost2
 have hS5:=hS3.callRow 0 rfl hres2 hr1 hr2 hf2
 have bd1:=hr2.bound
 refine X9 hr2 Yd rfl rfl ?_
 have hS7:=hS5.pad
 refine LP.go ft [] (fun m ρ1 w1=>∃ (k1 : Nat),∃ (v1 : Value) (o3 : OB),∃ (G4 : GH),m = l1.length - k1 ∧ G3.le G4 ∧ St w [] G G4 [o3,o2] w1 ∧ Yf SpanE 16 33 G4 v1 (Yt (l1.take k1)) o3 ∧ FR ρ1 [(5,v1),(15,r1),(16, .int .i64 (l1.length : Int)),(17, .int .i64 (k1 : Int))] ∧ k1 ≤ l1.length) _ ⟨0,(.slice none 0 0),none,G3,rfl,(G3.le_refl),hS7,(Yf.nil SpanE 16 33 G3),⟨rfl,rfl,rfl,rfl,trivial⟩,(by omega)⟩ ?_
 rintro m ρ1 w4 ⟨k1,v1,o3,G4,rfl,hle4,hS6,hr3,hF9,f1⟩
 refine hF9.set ?_
 clear hF9
 have len1:=Zhe (l1.take k1)
 have lent:=List.length_take_le k1 l1
 have lenp:=hq1.1.length_eq
 refine Zo (k1 : Int) (l1.length : Int) rfl rfl rfl (fun h2=>?_) (fun h2=>?_)
 ·refine Q2 (hr2.mono hle4) k1 (by omega) Yd Zm rfl rfl rfl rfl (fun p1 x1 ec1 hx1 hr4 ra1=>?_)
  obtain ⟨rfl,hb1,hb2⟩:=Z2 hr4
  refine Zfc ra1 hS6 1 rfl Zm rfl rfl rfl rfl ?_
  refine WL.alloc hS6 Zm rfl rfl (fun b1 w5 hn1 hS8=>?_)
  refine WL.store hS8 0 _ _ _ 0 _ [.int .i64 x1.a, .int .i64 x1.b] [.int .i64 x1.a, .int .i64 x1.b] _ rfl rfl Zm rfl (Nat.le_of_ble_eq_true rfl) rfl rfl rfl rfl rfl rfl (fun w6 hS9=>?_)
  obtain ⟨G5,hle5,hc1,hS10⟩:=hS9.shutB hn1
  have bd2:=hr3.bound
  refine X9 (hr3.mono hle5) Yd rfl rfl ?_
  rcases Cmp.dec .gtr (((Yt (l1.take k1)).length : Nat) : Int) 0 with ⟨hb3,q1⟩ | ⟨hb3,q1⟩
  ·have h3 : 0 < (((Yt (l1.take k1)).length : Nat) : Int):=q1
   clear q1
   obtain ⟨p2,x2,ec2,hx2,hr5,ra2,ep1⟩:=Yf.atP (hr3.mono hle5) ((Yt (l1.take k1)).length - 1) (by omega)
   obtain ⟨rfl,hb4,hb5⟩:=Z2 hr5
   rcases Cmp.dec .leq x1.a x2.b with ⟨hb6,q2⟩ | ⟨hb6,q2⟩
   ·have h4 : x1.a ≤ x2.b:=q2
    clear q2
    refine dr [] [(24, .bool true),(27, .int .i64 x1.a),(30, .int .i64 (((Yt (l1.take k1)).length - 1 : Nat) : Int)),(31, .pointer (some p2)),(33, .int .i64 x2.b),(34, .bool true)] hS10 ⟨fun _=>WL.cmpV .gtr rfl .i64 (((Yt (l1.take k1)).length : Nat) : Int) 0 _ hb3 rfl rfl rfl <| nu rfl rfl,fun _ hSw=>Za hSw (XZ.drop 0 hc1) Zl rfl rfl rfl <| nu rfl rfl,fun _=>X2 ((Yt (l1.take k1)).length) (by omega) (by have hreach : reach = 140737488355328:=rfl; omega) rfl rfl rfl <| nu rfl rfl,fun _=>Zh ((Yt (l1.take k1)).length - 1) ep1 Yd Zm rfl rfl rfl rfl <| nu rfl rfl,fun _ hSw=>Zax ra2 hSw 0 rfl 1 _ rfl Zl rfl rfl rfl <| nu rfl rfl,fun _=>WL.cmpV .leq rfl .i64 x1.a x2.b _ hb6 rfl rfl rfl <| nu rfl rfl,trivial⟩ (fun w7 hS11=>?_)
    obtain ⟨p3,x3,ec3,hx3,hr6,ra3,ep2⟩:=Yf.atP (hr3.mono hle5) ((Yt (l1.take k1)).length - 1) (by omega)
    obtain rfl : x2 = x3:=Option.some.inj (hx2.symm.trans hx3)
    obtain ⟨rfl,hb7,hb8⟩:=Z2 hr6
    obtain ⟨p4,x4,ec4,hx4,hr7,ra4,ep3⟩:=Yf.atP (hr3.mono hle5) ((Yt (l1.take k1)).length - 1) (by omega)
    obtain rfl : x2 = x4:=Option.some.inj (hx2.symm.trans hx4)
    obtain ⟨rfl,hb9,hb10⟩:=Z2 hr7
    refine dr [(14,false)] [(38, .int .i64 (((Yt (l1.take k1)).length - 1 : Nat) : Int)),(41, .int .i64 (((Yt (l1.take k1)).length - 1 : Nat) : Int)),(42, .pointer (some p3)),(44, .int .i64 x2.b),(46, .int .i64 x1.b),(47, .int .i64 (max x2.b x1.b)),(48, .pointer (some p4))] hS11 ⟨fun _=>X2 ((Yt (l1.take k1)).length) (by omega) (by have hreach : reach = 140737488355328:=rfl; omega) rfl rfl rfl <| nu rfl rfl,fun _=>X2 ((Yt (l1.take k1)).length) (by omega) (by have hreach : reach = 140737488355328:=rfl; omega) rfl rfl rfl <| nu rfl rfl,fun _=>Zh ((Yt (l1.take k1)).length - 1) ep2 Yd Zm rfl rfl rfl rfl <| nu rfl rfl,fun _ hSw=>Zax ra3 hSw 0 rfl 1 _ rfl Zl rfl rfl rfl <| nu rfl rfl,fun _ hSw=>Za hSw (XZ.drop 1 hc1) Zl rfl rfl rfl <| nu rfl rfl,fun _=>ZhN x2.b x1.b rfl rfl rfl <| nu rfl rfl,fun _=>Zh ((Yt (l1.take k1)).length - 1) ep3 Yd Zm rfl rfl rfl rfl <| nu rfl rfl,trivial⟩ (fun w9 hS12=>?_)
    refine Zch (hr3.mono hle5) ra4 hS12 0 rfl (by omega) rfl 1 _ [.int .i64 (max x2.b x1.b)] (Span.mk x2.a (max x2.b x1.b)) [.int .i64 x2.a, .int .i64 (max x2.b x1.b)] rfl Zl rfl (Nat.le_of_ble_eq_true rfl) rfl rfl (Zq (Span.mk x2.a (max x2.b x1.b)) hb9 (ZaD hb8 hb2)) rfl rfl rfl (fun o4 w10 hr8 hS13=>?_)
    refine Zk k1 (by have hreach : reach = 140737488355328:=rfl; omega) rfl rfl rfl ?_
    exact BK.mk' _ ⟨k1 + 1,v1,o4,G5,rfl,(hle4.trans hle5),hS13,(Yf.cast hr8 (by (rw [ZdE ‹_›]; exact (Zm7 ‹_› (by omega)).symm))),⟨rfl,rfl,rfl,rfl,trivial⟩,(by omega)⟩ (show l1.length - (k1 + 1) < l1.length - k1 by omega)
   have h4 : x2.b < x1.a:=q2
   clear q2
   refine dr [] [(24, .bool true),(27, .int .i64 x1.a),(30, .int .i64 (((Yt (l1.take k1)).length - 1 : Nat) : Int)),(31, .pointer (some p2)),(33, .int .i64 x2.b),(34, .bool false)] hS10 ⟨fun _=>WL.cmpV .gtr rfl .i64 (((Yt (l1.take k1)).length : Nat) : Int) 0 _ hb3 rfl rfl rfl <| nu rfl rfl,fun _ hSw=>Za hSw (XZ.drop 0 hc1) Zl rfl rfl rfl <| nu rfl rfl,fun _=>X2 ((Yt (l1.take k1)).length) (by omega) (by have hreach : reach = 140737488355328:=rfl; omega) rfl rfl rfl <| nu rfl rfl,fun _=>Zh ((Yt (l1.take k1)).length - 1) ep1 Yd Zm rfl rfl rfl rfl <| nu rfl rfl,fun _ hSw=>Zax ra2 hSw 0 rfl 1 _ rfl Zl rfl rfl rfl <| nu rfl rfl,fun _=>WL.cmpV .leq rfl .i64 x1.a x2.b _ hb6 rfl rfl rfl <| nu rfl rfl,trivial⟩ (fun w11 hS14=>?_)
   refine Zd hS14 hc1 [.int .i64 x1.a, .int .i64 x1.b] Zm rfl rfl rfl rfl rfl ?_
   refine WL.buildSlice _ [(0,[.int .i64 x1.a, .int .i64 x1.b])] [.int .i64 x1.a, .int .i64 x1.b] hS14 Y8 rfl rfl rfl rfl (fun z hz=>by match z,hz with | [z0,z1],_=>rfl) (fun b2 w12 hn2 hS15=>?_)
   refine WL.push (m:=([x1] : List Span)) Y8 rfl rfl rfl (hr3.mono hle5) hS15 1 rfl 0 _ _ _ _ _ rfl ⟨[.int .i64 x1.a, .int .i64 x1.b],_,rfl,(Zq x1 hb1 hb2),rfl⟩ rfl (by have hreach : reach = 140737488355328:=rfl; simp only [List.length_cons,List.length_nil]; omega) (by have hreach : reach = 140737488355328:=rfl; simp only [List.length_cons,List.length_nil]; omega) rfl rfl rfl (fun v2 o5 w13 hr9 hS16=>?_)
   have hS17:=hS16.tail
   refine Zk k1 (by have hreach : reach = 140737488355328:=rfl; omega) rfl rfl rfl ?_
   exact BK.mk' _ ⟨k1 + 1,v2,o5,G5,rfl,(hle4.trans hle5),hS17,(Yf.cast hr9 (by (rw [ZdE ‹_›]; exact (Zlt ‹_› (by omega)).symm))),⟨rfl,rfl,rfl,rfl,trivial⟩,(by omega)⟩ (show l1.length - (k1 + 1) < l1.length - k1 by omega)
  have h3 : (((Yt (l1.take k1)).length : Nat) : Int) ≤ 0:=q1
  clear q1
  refine dr [] [(24, .bool false)] hS10 ⟨fun _=>WL.cmpV .gtr rfl .i64 (((Yt (l1.take k1)).length : Nat) : Int) 0 _ hb3 rfl rfl rfl <| nu rfl rfl,trivial⟩ (fun w14 hS18=>?_)
  refine Zd hS18 hc1 [.int .i64 x1.a, .int .i64 x1.b] Zm rfl rfl rfl rfl rfl ?_
  refine WL.buildSlice _ [(0,[.int .i64 x1.a, .int .i64 x1.b])] [.int .i64 x1.a, .int .i64 x1.b] hS18 Y8 rfl rfl rfl rfl (fun z hz=>by match z,hz with | [z0,z1],_=>rfl) (fun b3 w15 hn3 hS19=>?_)
  refine WL.push (m:=([x1] : List Span)) Y8 rfl rfl rfl (hr3.mono hle5) hS19 1 rfl 0 _ _ _ _ _ rfl ⟨[.int .i64 x1.a, .int .i64 x1.b],_,rfl,(Zq x1 hb1 hb2),rfl⟩ rfl (by have hreach : reach = 140737488355328:=rfl; simp only [List.length_cons,List.length_nil]; omega) (by have hreach : reach = 140737488355328:=rfl; simp only [List.length_cons,List.length_nil]; omega) rfl rfl rfl (fun v3 o6 w16 hr10 hS20=>?_)
  have hS21:=hS20.tail
  refine Zk k1 (by have hreach : reach = 140737488355328:=rfl; omega) rfl rfl rfl ?_
  exact BK.mk' _ ⟨k1 + 1,v3,o6,G5,rfl,(hle4.trans hle5),hS21,(Yf.cast hr10 (by (rw [ZdE ‹_›]; exact (Zm6 (by omega)).symm))),⟨rfl,rfl,rfl,rfl,trivial⟩,(by omega)⟩ (show l1.length - (k1 + 1) < l1.length - k1 by omega)
 obtain ⟨G6,hle6,hs1,hS22⟩:=Yf.freeze hr3 hS6 0 rfl
 refine Z6 hS22 Zsc rfl rfl rfl (Zh0 hS22.imm (Yt (l1.take k1)) _ hs1 (by rw [Zhf ‹_› hB (by omega)]; exact Nat.le_trans Zi1 hl)) ?_
 rintro w17 G7 _ ⟨r4,_,rfl,hs2,rfl⟩ hS23 hle7
 exact RT hS23 rfl ⟨_,_,rfl,(Sl.cast hs2 (by exact Zhf ‹_› hB (by omega))),(congrArg (Value.int .i64) (by rfl))⟩
theorem ZeA {G : GH} {w : World} (hG : G.In w) (a b : List Span) (va : Value) (hva : Sl SpanE 16 G va a) (vb : Value) (hvb : Sl SpanE 16 G vb b) : CL Tryz.prog (nat_lit 75) #[va,vb] [] w G fun _ _ r=>r = .bool (decide (a = b)):=by
 refine Zf ft [] Tryz.func75 rfl rfl ?_
 have hS:=St.start (X:=[]) hG
 have bd1:=hva.bound
 refine Zj hva Yd rfl rfl ?_
 have bd2:=hvb.bound
 refine Zj hvb Yd rfl rfl ?_
 refine Yy (a.length : Int) (b.length : Int) rfl rfl rfl (fun h1=>?_) (fun h1=>?_)
 ·exact RB hS rfl (by rw [← Xy]; exact (XB (by omega)).symm)
 have bd3:=hva.bound
 refine Zj hva Yd rfl rfl ?_
 refine LP.go ft [] (fun m ρ1 w1=>∃ (k1 : Nat),∃ (G1 : GH),m = a.length - k1 ∧ G.le G1 ∧ St w [] G G1 [] w1 ∧ FR ρ1 [(0,va),(1,vb),(12, .int .i64 (a.length : Int)),(13, .int .i64 (k1 : Int))] ∧ k1 ≤ a.length ∧ ∀ j,j < k1 → ∀ x y,a[j]? = some x → b[j]? = some y → decide (x = y) = true) _ ⟨0,G,rfl,(G.le_refl),hS,⟨rfl,rfl,rfl,rfl,trivial⟩,(by omega),(by intro j hj; omega)⟩ ?_
 rintro m ρ1 w1 ⟨k1,G1,rfl,hle1,hS1,hF9,f1,f2⟩
 refine hF9.set ?_
 clear hF9
 refine Zo (k1 : Int) (a.length : Int) rfl rfl rfl (fun h2=>?_) (fun h2=>?_)
 ·obtain ⟨p1,x1,hx1,he1,ep1⟩:=Sl.at (hva.mono hle1) k1 (by omega)
  obtain ⟨cs1,hc1,hr1⟩:=he1
  obtain ⟨rfl,hb1,hb2⟩:=Z2 hr1
  obtain ⟨p2,x2,hx2,he2,ep2⟩:=Sl.at (hvb.mono hle1) k1 (by omega)
  obtain ⟨cs2,hc2,hr2⟩:=he2
  obtain ⟨rfl,hb3,hb4⟩:=Z2 hr2
  rcases Classical.em (x1 = x2) with h3 | h3
  ·refine dr [] [(18, .pointer (some p1)),(19, .agg #[.int .i64 x1.a, .int .i64 x1.b]),(22, .pointer (some p2)),(23, .agg #[.int .i64 x2.a, .int .i64 x2.b]),(24, .bool false)] hS1 ⟨fun _=>Zh k1 ep1 Yd Zm rfl rfl rfl rfl <| nu rfl rfl,fun _ hSw=>Zd hSw hc1 [.int .i64 x1.a, .int .i64 x1.b] Zm rfl rfl rfl rfl rfl <| nu rfl rfl,fun _=>Zh k1 ep2 Yd Zm rfl rfl rfl rfl <| nu rfl rfl,fun _ hSw=>Zd hSw hc2 [.int .i64 x2.a, .int .i64 x2.b] Zm rfl rfl rfl rfl rfl <| nu rfl rfl,fun _=>ZaE false (Zex x1 x2) Zjz (by simp [h3]) rfl rfl rfl <| nu rfl rfl,trivial⟩ (fun w2 hS2=>?_)
   refine Zk k1 (by have hreach : reach = 140737488355328:=rfl; omega) rfl rfl rfl ?_
   exact BK.mk' _ ⟨k1 + 1,G1,rfl,hle1,hS2,⟨rfl,rfl,rfl,rfl,trivial⟩,(by omega),(by exact QF ‹_› ‹_› ‹_› (decide_eq_true (by simp_all)))⟩ (show a.length - (k1 + 1) < a.length - k1 by omega)
  refine dr [] [(18, .pointer (some p1)),(19, .agg #[.int .i64 x1.a, .int .i64 x1.b]),(22, .pointer (some p2)),(23, .agg #[.int .i64 x2.a, .int .i64 x2.b]),(24, .bool true)] hS1 ⟨fun _=>Zh k1 ep1 Yd Zm rfl rfl rfl rfl <| nu rfl rfl,fun _ hSw=>Zd hSw hc1 [.int .i64 x1.a, .int .i64 x1.b] Zm rfl rfl rfl rfl rfl <| nu rfl rfl,fun _=>Zh k1 ep2 Yd Zm rfl rfl rfl rfl <| nu rfl rfl,fun _ hSw=>Zd hSw hc2 [.int .i64 x2.a, .int .i64 x2.b] Zm rfl rfl rfl rfl rfl <| nu rfl rfl,fun _=>ZaE true (Zex x1 x2) Zjz (by simp [h3]) rfl rfl rfl <| nu rfl rfl,trivial⟩ (fun w3 hS3=>?_)
  exact RB hS3 rfl (by rw [← Xy]; exact (XV (f:=fun (x y : Span)=>decide (x = y)) ‹_› ‹_› (decide_eq_false (by simp_all))).symm)
 exact RB hS1 rfl (by rw [← Xy]; exact (XM (by omega) ‹_› (by omega)).symm)
theorem Zg0 {G : GH} {w : World} (hG : G.In w) (l : List HRow) (tx : Int) (vl : Value) (hvl : Sl HRowE 56 G vl l) (hgood : ZA l) (hl : l.length ≤ 2000) : CL Tryz.prog (nat_lit 87) #[vl, .int .i64 tx] [] w G fun G' _ r=>Sl SpanE 16 G' r (Z4 l tx):=by
 refine Zf ft [] Tryz.func87 rfl rfl ?_
 have hS:=St.start (X:=[]) hG
 have bd1:=hvl.bound
 refine Zj hvl Yl rfl rfl ?_
 have hS2:=hS.pad
 refine LP.go ft [] (fun m ρ1 w1=>∃ (k1 : Nat),∃ (v1 : Value) (o1 : OB),∃ (G1 : GH),m = l.length - k1 ∧ G.le G1 ∧ St w [] G G1 [o1] w1 ∧ Yf SpanE 16 33 G1 v1 (Yw (l.take k1) tx) o1 ∧ FR ρ1 [(1, .int .i64 tx),(5,v1),(10,vl),(11, .int .i64 (l.length : Int)),(12, .int .i64 (k1 : Int))] ∧ k1 ≤ l.length) _ ⟨0,(.slice none 0 0),none,G,rfl,(G.le_refl),hS2,(Yf.nil SpanE 16 33 G),⟨rfl,rfl,rfl,rfl,rfl,trivial⟩,(by omega)⟩ ?_
 rintro m ρ1 w1 ⟨k1,v1,o1,G1,rfl,hle1,hS1,hr1,hF9,f1⟩
 refine hF9.set ?_
 clear hF9
 have hsl:=ZhU l tx k1
 refine Zo (k1 : Int) (l.length : Int) rfl rfl rfl (fun h1=>?_) (fun h1=>?_)
 ·refine WL.indexAddr (hvl.mono hle1) k1 (by omega) Yl Zs rfl rfl rfl rfl (fun p1 x1 hx1 he1=>?_)
  obtain ⟨cs1,hc1,hr2⟩:=he1
  obtain ⟨v2,rfl,hs1,hb1,hb2,hb3,hb4⟩:=Z8 hr2
  refine Zd hS1 hc1 [v2, .int .i64 x1.r.d.a, .int .i64 x1.r.d.b, .int .i64 x1.r.x.a, .int .i64 x1.r.x.b] Zs rfl rfl rfl rfl rfl ?_
  refine WL.alloc hS1 Zs rfl rfl (fun b1 w2 hn1 hS3=>?_)
  refine WL.store hS3 0 _ _ _ 0 _ [v2, .int .i64 x1.r.d.a, .int .i64 x1.r.d.b, .int .i64 x1.r.x.a, .int .i64 x1.r.x.b] [v2, .int .i64 x1.r.d.a, .int .i64 x1.r.d.b, .int .i64 x1.r.x.a, .int .i64 x1.r.x.b] _ rfl rfl Zs rfl (Nat.le_of_ble_eq_true rfl) (by simp only [List.all_cons,List.all_nil,hs1.oneC,Bool.true_and] <;> rfl) rfl rfl rfl rfl rfl (fun w3 hS4=>?_)
  obtain ⟨G2,hle2,hc2,hS5⟩:=hS4.shutB hn1
  refine Za hS5 (XZ.drop 0 (XZ.drop 2 (XZ.drop 1 hc2))) Zl rfl rfl rfl ?_
  refine Qa x1.r.x.a tx rfl rfl rfl (fun h2=>?_) (fun h2=>?_)
  ·refine Za hS5 (XZ.drop 1 (XZ.drop 2 (XZ.drop 1 hc2))) Zl rfl rfl rfl ?_
   refine Zo tx x1.r.x.b rfl rfl rfl (fun h3=>?_) (fun h3=>?_)
   ·refine Zd hS5 (XZ.drop 0 (XZ.drop 1 hc2)) [.int .i64 x1.r.d.a, .int .i64 x1.r.d.b] Zm rfl rfl rfl rfl rfl ?_
    refine WL.buildSlice _ [(0,[.int .i64 x1.r.d.a, .int .i64 x1.r.d.b])] [.int .i64 x1.r.d.a, .int .i64 x1.r.d.b] hS5 Y8 rfl rfl rfl rfl (fun z hz=>by match z,hz with | [z0,z1],_=>rfl) (fun b2 w4 hn2 hS6=>?_)
    refine WL.push (m:=([x1.r.d] : List Span)) Y8 rfl rfl rfl (hr1.mono hle2) hS6 1 rfl 0 _ _ _ _ _ rfl ⟨[.int .i64 x1.r.d.a, .int .i64 x1.r.d.b],_,rfl,(Zq x1.r.d hb1 hb2),rfl⟩ rfl (by have hreach : reach = 140737488355328:=rfl; simp only [List.length_cons,List.length_nil]; omega) (by have hreach : reach = 140737488355328:=rfl; simp only [List.length_cons,List.length_nil]; omega) rfl rfl rfl (fun v3 o2 w5 hr3 hS7=>?_)
    have hS8:=hS7.tail
    refine Zk k1 (by have hreach : reach = 140737488355328:=rfl; omega) rfl rfl rfl ?_
    exact BK.mk' _ ⟨k1 + 1,v3,o2,G2,rfl,(hle1.trans hle2),hS8,(Yf.cast hr3 (by (rw [ZdH ‹_›]; unfold YU; simp_all <;> omega))),⟨rfl,rfl,rfl,rfl,rfl,trivial⟩,(by omega)⟩ (show l.length - (k1 + 1) < l.length - k1 by omega)
   refine Zk k1 (by have hreach : reach = 140737488355328:=rfl; omega) rfl rfl rfl ?_
   exact BK.mk' _ ⟨k1 + 1,v1,o1,G2,rfl,(hle1.trans hle2),hS5,(Yf.cast (hr1.mono hle2) (by (rw [ZdH ‹_›]; unfold YU; simp_all <;> omega))),⟨rfl,rfl,rfl,rfl,rfl,trivial⟩,(by omega)⟩ (show l.length - (k1 + 1) < l.length - k1 by omega)
  refine Zk k1 (by have hreach : reach = 140737488355328:=rfl; omega) rfl rfl rfl ?_
  exact BK.mk' _ ⟨k1 + 1,v1,o1,G2,rfl,(hle1.trans hle2),hS5,(Yf.cast (hr1.mono hle2) (by (rw [ZdH ‹_›]; unfold YU; simp_all <;> omega))),⟨rfl,rfl,rfl,rfl,rfl,trivial⟩,(by omega)⟩ (show l.length - (k1 + 1) < l.length - k1 by omega)
 obtain ⟨G3,hle3,hs2,hS9⟩:=Yf.freeze hr1 hS1 0 rfl
 refine Z6 hS9 Zvs rfl rfl rfl (ZqV hS9.imm (Yw (l.take k1) tx) _ hs2 (by rw [List.take_of_length_le (by omega)]; exact ZaY hgood.d tx) (by rw [List.take_of_length_le (by omega)]; exact Nat.le_trans (Ze1 l tx) hl)) ?_
 rintro w6 G4 _ ⟨r2,_,rfl,hs3,rfl⟩ hS10 hle4
 exact RT hS10 rfl (Sl.cast hs3 (by rw [List.take_of_length_le (by omega)]; rfl))
end Go.Civ
set_option linter.unusedVariables false
set_option linter.unusedSimpArgs false
set_option maxRecDepth 100000
set_option maxHeartbeats 4000000
namespace Go.Civ
open Go.Proofs
theorem QS {G : GH} {w : World} (hG : G.In w) (l : List Val) (vl : Value) (hvl : Sl ValE 32 G vl l) : CL Tryz.prog (nat_lit 73) #[vl] [] w G fun G' _ r=>Sl ValE 32 G' r l:=by
 refine Zf ft [] Tryz.func73 rfl rfl ?_
 have hS:=St.start (X:=[]) hG
 refine Zgq hvl Yj rfl rfl rfl (fun h1=>?_) ?_
 ·exact RT hS rfl (Sl.cast (Sl.nil ValE 32 G) (by exact Eq.symm ‹_›))
 refine WL.buildSlice _ [] [] hS Zgt rfl rfl rfl rfl (fun z hz=>by match z,hz with | [],_=>rfl) (fun b1 w1 hn1 hS1=>?_)
 have hr1:=Yf.empty ValE 32 58 G b1
 refine ZU Zgt rfl rfl rfl hr1 hS1 0 rfl hvl (by have hreach : reach = 140737488355328:=rfl; have:=hvl.bytes; have:=hvl.bound; simp only [List.length_nil,Nat.zero_add]; omega) (by have hreach : reach = 140737488355328:=rfl; have:=hvl.bytes; have:=hvl.bound; simp only [List.length_nil,Nat.zero_add]; omega) rfl rfl rfl (fun v1 o1 w2 hr2 hS2=>?_)
 obtain ⟨G1,hle1,hs1,hS3⟩:=Yf.freeze hr2 hS2 0 rfl
 exact RT hS3 rfl (Sl.cast hs1 (by rfl))
theorem Zte {w0 : World} {G0 G : GH} {w : World} {R : Own} (v : List Val) (fr c : Int) (l : List HRow) (nw : List Span) (bn bo bf : Nat) (nv vo : Value) (ro : OB) (hnv : Sl SpanE 16 G nv nw) (hvo : Yf HRowE 56 (nat_lit 37) G vo l ro) (hS : St w0 [] G0 G (some (bn,(nat_lit 71),[nv]) :: some (bo,(nat_lit 26),[vo]) :: some (bf,(nat_lit 3),[.int .i64 fr]) :: ro :: R) w) (gv : Value) (hgv : Sl ValE 32 G gv v) (gt : Value) (pg : Addr) (hpg : XZ G pg [gv,gt]) (hc64 : Zv c) (hf64 : Zv fr) (hb : l.length + nw.length ≤ 1000000000) : Calls Tryz.prog (nat_lit 178) #[.int .i64 c, .pointer (some ⟨bn,0,none⟩), .pointer (some ⟨bo,0,none⟩), .pointer (some pg), .pointer (some ⟨bf,0,none⟩)] w fun e9 w9=>∃ (G9 : GH) (v9 : Value) (o9 : OB),e9 = .returned (.tuple #[]) ∧ G.le G9 ∧ St w0 [] G0 G9 (some (bn,(nat_lit 71),[nv]) :: some (bo,(nat_lit 26),[v9]) :: some (bf,(nat_lit 3),[.int .i64 fr]) :: o9 :: R) w9 ∧ Yf HRowE 56 (nat_lit 37) G9 v9 (l ++ YD v nw fr c) o9:=by
 refine Zf ft [] Tryz.func178 rfl rfl ?_
 refine ZM hS 0 _ _ _ 0 _ rfl rfl ZmF rfl rfl rfl ?_
 have bd1:=hnv.bound
 refine Zj hnv Yd rfl rfl ?_
 refine LP.go ft [] (fun m ρ1 w1=>∃ (k1 : Nat),∃ (v1 : Value) (o1 : OB),∃ (G1 : GH),m = nw.length - k1 ∧ G.le G1 ∧ St w0 [] G0 G1 (some (bn,(nat_lit 71),[nv]) :: some (bo,(nat_lit 26),[v1]) :: some (bf,(nat_lit 3),[.int .i64 fr]) :: o1 :: R) w1 ∧ Yf HRowE 56 37 G1 v1 (l ++ YD v (nw.take k1) fr c) o1 ∧ FR ρ1 [(0, .int .i64 c),(2, .pointer (some ⟨bo,0,none⟩)),(3, .pointer (some pg)),(4, .pointer (some ⟨bf,0,none⟩)),(8,nv),(9, .int .i64 (nw.length : Int)),(10, .int .i64 (k1 : Int))] ∧ k1 ≤ nw.length) _ ⟨0,vo,ro,G,rfl,(G.le_refl),hS,(Yf.cast hvo (by simp [YD])),⟨rfl,rfl,rfl,rfl,rfl,rfl,rfl,trivial⟩,(by omega)⟩ ?_
 rintro m ρ1 w1 ⟨k1,v1,o1,G1,rfl,hle1,hS1,hr1,hF9,f1⟩
 refine hF9.set ?_
 clear hF9
 have hol:=Zbn v (nw.take k1) fr c
 have hot:=List.length_take_le' k1 nw
 refine Zo (k1 : Int) (nw.length : Int) rfl rfl rfl (fun h1=>?_) (fun h1=>?_)
 ·refine WL.indexAddr (hnv.mono hle1) k1 (by omega) Yd Zm rfl rfl rfl rfl (fun p1 x1 hx1 he1=>?_)
  obtain ⟨cs1,hc1,hr2⟩:=he1
  obtain ⟨rfl,hb1,hb2⟩:=Z2 hr2
  refine Zd hS1 hc1 [.int .i64 x1.a, .int .i64 x1.b] Zm rfl rfl rfl rfl rfl ?_
  refine WL.alloc hS1 Zm rfl rfl (fun b1 w2 hn1 hS2=>?_)
  refine WL.store hS2 0 _ _ _ 0 _ [.int .i64 x1.a, .int .i64 x1.b] [.int .i64 x1.a, .int .i64 x1.b] _ rfl rfl Zm rfl (Nat.le_of_ble_eq_true rfl) rfl rfl rfl rfl rfl rfl (fun w3 hS3=>?_)
  obtain ⟨G2,hle2,hc2,hS4⟩:=hS3.shutB hn1
  refine dr [(3,true),(9,true),(10,true),(11,false),(12,false)] [(14,v1),(16,gv),(18, .agg #[.int .i64 x1.a, .int .i64 x1.b]),(19, .int .i64 fr),(21, .agg #[.int .i64 fr, .int .i64 c]),(22, .agg #[.int .i64 x1.a, .int .i64 x1.b, .int .i64 fr, .int .i64 c])] hS4 ⟨fun _ hSw=>ZM hSw 1 _ _ _ 0 _ rfl rfl YX rfl rfl rfl <| nu rfl rfl,fun _ hSw=>Za hSw (XZ.drop 0 (hpg.mono (hle1.trans hle2))) ZK rfl rfl rfl <| nu rfl rfl,fun _ hSw=>Zd hSw hc2 [.int .i64 x1.a, .int .i64 x1.b] Zm rfl rfl rfl rfl rfl <| nu rfl rfl,fun _ hSw=>ZM hSw 2 _ _ _ 0 _ rfl rfl Zl rfl rfl rfl <| nu rfl rfl,fun _=>WL.build _ [(0,[.int .i64 fr]),(1,[.int .i64 c])] [.int .i64 fr, .int .i64 c] Zm rfl Xg rfl rfl rfl rfl <| nu rfl rfl,fun _=>WL.build _ [(0,[.int .i64 x1.a, .int .i64 x1.b]),(1,[.int .i64 fr, .int .i64 c])] [.int .i64 x1.a, .int .i64 x1.b, .int .i64 fr, .int .i64 c] Qz rfl QY rfl rfl rfl rfl <| nu rfl rfl,trivial⟩ (fun w4 hS5=>?_)
  refine Z6 hS5 Zfi rfl rfl rfl (QS hS5.imm v _ (hgv.mono (hle1.trans hle2))) (fun w5 G3 r1 hpost1 hS6 hle3=>?_)
  refine ⟨hS6.down hS5.le hle3,?_⟩
  refine WL.build _ [(0,[r1]),(1,[.int .i64 x1.a, .int .i64 x1.b, .int .i64 fr, .int .i64 c])] [r1, .int .i64 x1.a, .int .i64 x1.b, .int .i64 fr, .int .i64 c] Zs rfl Qq rfl rfl (by show [(0,(r1 : Value).cells.toList),(1,(.agg #[.int .i64 x1.a, .int .i64 x1.b, .int .i64 fr, .int .i64 c] : Value).cells.toList)] = _; simp only [hpost1.cells1] <;> rfl) rfl ?_
  refine ⟨hS6.down hS5.le hle3,?_⟩
  refine WL.buildSlice _ [(0,[r1, .int .i64 x1.a, .int .i64 x1.b, .int .i64 fr, .int .i64 c])] [r1, .int .i64 x1.a, .int .i64 x1.b, .int .i64 fr, .int .i64 c] hS6 ZX rfl rfl rfl rfl (fun z hz=>by match z,hz with | [z0,z1,z2,z3,z4],_=>rfl) (fun b2 w6 hn2 hS7=>?_)
  refine ⟨hS7.tail.down hS5.le hle3,?_⟩
  refine WL.push (m:=([(HRow.mk v (Rect.mk x1 (Span.mk fr c)))] : List HRow)) ZX rfl rfl rfl (hr1.mono (hle2.trans hle3)) hS7 4 rfl 0 _ _ _ _ _ rfl ⟨[r1, .int .i64 x1.a, .int .i64 x1.b, .int .i64 fr, .int .i64 c],_,rfl,(ZJ (HRow.mk v (Rect.mk x1 (Span.mk fr c))) hpost1 hb1 hb2 hf64 hc64),rfl⟩ rfl (by have hreach : reach = 140737488355328:=rfl; simp only [List.length_append,List.length_cons,List.length_nil]; omega) (by have hreach : reach = 140737488355328:=rfl; simp only [List.length_append,List.length_cons,List.length_nil]; omega) rfl rfl rfl (fun v2 o2 w7 hr3 hS8=>?_)
  have hS9:=hS8.tail
  refine WL.store hS9 1 _ _ _ 0 _ [v2] [v2] _ rfl hr3.cells1 YX rfl (Nat.le_of_ble_eq_true rfl) (by simp only [List.all_cons,List.all_nil,hr3.oneC,Bool.true_and] <;> rfl) rfl rfl rfl rfl rfl (fun w9 hS10=>?_)
  refine Zk k1 (by have hreach : reach = 140737488355328:=rfl; omega) rfl rfl rfl ?_
  exact BK.mk' _ ⟨k1 + 1,v2,o2,G3,rfl,(hle1.trans (hle2.trans hle3)),hS10,(Yf.cast hr3 (by (rw [Zdt ‹_›,List.append_assoc]))),⟨rfl,rfl,rfl,rfl,rfl,rfl,rfl,trivial⟩,(by omega)⟩ (show nw.length - (k1 + 1) < nw.length - k1 by omega)
 exact ⟨_,rfl,G1,v1,o1,rfl,hle1,hS1,(Yf.cast hr1 (by rw [Ze8 (by omega)]))⟩
end Go.Civ
namespace Go.Civ
open Go.RowKit
set_option linter.unusedVariables false
def UpV (out : VV) (v : List Val) (k : Nat) : Prop:=∀ j,k ≤ j → ∀ u,out[j]? = some u → 0 < ZI cmpV u v
theorem UpV.start {out : VV} {v : List Val} : UpV out v out.length:=fun j hj u hu=>by have:=(List.getElem?_eq_some_iff.1 hu).1; omega
theorem UpV.step {out : VV} {v u : List Val} {k : Nat} (h : UpV out v k) (hu : out[k - 1]? = some u) (h1 : 0 < ZI cmpV u v) : UpV out v (k - 1):=fun j hj w hw=>by
 by_cases e : k ≤ j
 ·exact h j e w hw
 ·obtain rfl : j = k - 1:=by omega
  rw [hu] at hw; obtain rfl:=Option.some.inj hw; exact h1
theorem ZlY {out : VV} {v u : List Val} {k : Nat} (hi : Za5 out) (hu : out[k]? = some u) (h : ZI cmpV u v ≤ 0) : ∀ j,j < k → ∀ w,out[j]? = some w → ZI cmpV w v < 0:=fun j hj w hw=>by
 obtain ⟨k1,rfl⟩:=List.getElem?_eq_some_iff.1 hu
 obtain ⟨j1,rfl⟩:=List.getElem?_eq_some_iff.1 hw
 have h1:=List.pairwise_iff_getElem.1 hi j k j1 k1 hj
 by_cases e : ZI cmpV out[k] v = 0
 ·rw [(ord.eq _ _).1 e] at h1; exact h1
 ·exact ord.trans _ _ _ h1 (by omega)
theorem ZlZ {out : VV} {v u : List Val} {k : Nat} (hi : Za5 out) (hk : 0 < k) (hu : out[k - 1]? = some u) (h : ZI cmpV u v = 0) : Za4 out v = out:=
 Zne (Nat.le_of_lt (List.getElem?_eq_some_iff.1 hu).1) (ZlY hi hu (by omega)) hu (by omega) ((ord.eq _ _).1 h)
theorem ZkG {out : VV} {v : List Val} {k : Nat} (hi : Za5 out) (hU : UpV out v k) (hk : k ≤ out.length) (h : k = 0 ∨ ∃ u,out[k - 1]? = some u ∧ ZI cmpV u v < 0) : Za4 out v = out.take k ++ [v] ++ out.drop k:=by
 refine Zq6 hk (fun j hj w hw=>?_) (fun w hw=>?_) (fun e=>?_)
 ·rcases h with h | ⟨u,hu,h⟩
  ·omega
  ·by_cases e : j = k - 1
   ·subst e; rw [hu] at hw; obtain rfl:=Option.some.inj hw; exact h
   ·exact ZlY hi hu (by omega) j (by omega) w hw
 ·have:=hU k (Nat.le_refl _) w hw; omega
 ·have:=hU k (Nat.le_refl _) v e; rw [ord.refl] at this; omega
theorem Zfv {out : VV} {v : List Val} {k : Nat} (hi : Za5 out) (hU : UpV out v k) (hk : k ≤ out.length) (h : k = 0) : (([] ++ out.take k) ++ [v]) ++ out.drop k = Za4 out v:=by rw [ZkG hi hU hk (.inl h)]; simp
theorem Zpd {out : VV} {v u : List Val} {k : Nat} (hi : Za5 out) (hU : UpV out v k) (hk : k ≤ out.length) (hu : out[k - 1]? = some u) (h1 : ZI cmpV u v ≤ 0) (h2 : ZI cmpV u v ≠ 0) : (([] ++ out.take k) ++ [v]) ++ out.drop k = Za4 out v:=by
 rw [ZkG hi hU hk (.inr ⟨u,hu,by omega⟩)]; simp
theorem Znu {l : List HRow} {k : Nat} {x : HRow} {v : List Val} {tx : Int} (h : l[k]? = some x) (h1 : x.r.x.a ≤ tx) (h2 : tx < x.r.x.b) (h3 : ZI cmpV x.v v = 0) : Qs (l.take (k + 1)) v tx = Qs (l.take k) v tx ++ [x.r.d]:=by
 rw [List.take_add_one,h]; unfold Qs YU; simp [h1,h2,(ord.eq _ _).1 h3]
theorem Zfw {l : List HRow} {k : Nat} {x : HRow} {v : List Val} {tx : Int} (h : l[k]? = some x) (h1 : tx < x.r.x.a ∨ x.r.x.b ≤ tx ∨ ZI cmpV x.v v ≠ 0) : Qs (l.take (k + 1)) v tx = Qs (l.take k) v tx:=by
 rw [List.take_add_one,h]; unfold Qs
 have : (YU tx x && decide (x.v = v)) = false:=by
  rw [Bool.eq_false_iff]
  intro e
  unfold YU at e
  simp only [Bool.and_eq_true,decide_eq_true_eq] at e
  rcases h1 with h1 | h1 | h1
  ·omega
  ·omega
  ·exact h1 ((ord.eq _ _).2 e.2)
 simp [this]
theorem Zh6 (l : List HRow) (v : List Val) (tx : Int) : (Qs l v tx).length ≤ l.length:=by unfold Qs; rw [List.length_map]; exact List.length_filter_le _ _
theorem Zie (l : List HRow) (v : List Val) (tx : Int) (k : Nat) : (Qs (l.take k) v tx).length ≤ l.length:=Nat.le_trans (Zh6 _ _ _) (List.length_take_le' _ _)
theorem ZiN {kind : Int} {a b : List Span} : (Yn kind a b).length ≤ 2 * (a.length + b.length):=by
 have h:=Zdj (a ++ b)
 rw [List.length_append] at h
 unfold Yn
 exact Nat.le_trans (Zfk _) (by omega)
theorem Znv (l : List HRow) (v : List Val) (tx : Int) : (YO l v tx).length ≤ 2 * l.length:=by
 have h1:=ZiN (kind:=1) (a:=Qs l v tx) (b:=[])
 have h2:=Zh6 l v tx
 unfold YO
 simp only [List.length_nil] at h1; omega
def Zbb (l : List HRow) (vs : VV) : List HRow:=vs.flatMap fun v=>(Y9 v (YO l v) (ZL l)).out
theorem Zl7 {l : List HRow} {vs : VV} {k : Nat} {v : List Val} (h : vs[k]? = some v) : Zbb l (vs.take (k + 1)) = Zbb l (vs.take k) ++ (Y9 v (YO l v) (ZL l)).out:=by rw [List.take_add_one,h]; simp [Zbb]
theorem Zh7 {l : List HRow} (hl : l.length ≤ 2000) (v : List Val) (k : Nat) : (Y9 v (YO l v) ((ZL l).take k)).out.length ≤ 16000000 ∧ (Y9 v (YO l v) ((ZL l).take k)).now.length ≤ 4000:=by
 have h:=Zhv (v:=v) (f:=YO l v) (m:=4000) (fun c=>Nat.le_trans (Znv _ _ _) (by omega)) (ZL l) k
 have h2:=Zdo l
 exact ⟨Nat.le_trans h.1 (Nat.le_trans (Nat.mul_le_mul_right 4000 (show (ZL l).length ≤ 4000 by omega)) (by decide)),h.2⟩
theorem Znw {l : List HRow} (hl : l.length ≤ 2000) (vs : VV) : (Zbb l vs).length ≤ vs.length * 16000000:=by
 induction vs with
 | nil=>simp [Zbb]
 | cons v vs ih=>
  have h1:=(Zh7 hl v (ZL l).length).1
  rw [List.take_length] at h1
  simp only [Zbb,List.flatMap_cons,List.length_append,List.length_cons] at *
  rw [Nat.add_mul]; omega
theorem Zif {l : List HRow} (hl : l.length ≤ 2000) (k : Nat) : (Zbb l ((Y7 l).take k)).length ≤ 32000000000:=by
 have h1:=Znw hl ((Y7 l).take k)
 have h2:=List.length_take_le' k (Y7 l)
 have h3:=Zdl l
 exact Nat.le_trans h1 (Nat.le_trans (Nat.mul_le_mul_right 16000000 (show ((Y7 l).take k).length ≤ 2000 by omega)) (by decide))
theorem Zpe (l : List HRow) {k : Nat} (h : l.length ≤ k) : Y6 ((l.take k).map (fun r=>r.r.x)) = ZL l:=by rw [List.take_of_length_le h]; rfl
theorem ZbW {α : Type} {l : List α} {k : Nat} (h : k < l.length) : ∃ x,l[k]? = some x:=⟨_,List.getElem?_eq_getElem h⟩
end Go.Civ
namespace Go.Civ
theorem ZcU {x y : Span} (h1 : x.a = y.a) (h2 : x.b = y.b) : x = y:=by cases x; cases y; simp_all
theorem Zre {x y : HRow} (h0 : decide (x.v = y.v) = true) (h1 : x.r.d.a = y.r.d.a) (h2 : x.r.d.b = y.r.d.b) (h3 : x.r.x.a = y.r.x.a) (h4 : x.r.x.b = y.r.x.b) : x = y:=by
 have h0:=of_decide_eq_true h0
 obtain ⟨xv,⟨⟨x1,x2⟩,⟨x3,x4⟩⟩⟩:=x; obtain ⟨yv,⟨⟨y1,y2⟩,⟨y3,y4⟩⟩⟩:=y; simp_all
end Go.Civ
namespace Go.Civ
theorem Sl.tx64 {G : GH} {v : Value} {l : List HRow} (h : Sl HRowE 56 G v l) : ∀ r ∈ l,Zv r.r.x.a ∧ Zv r.r.x.b:=fun r hr=>by
 obtain ⟨i,hi⟩:=List.getElem?_of_mem hr
 obtain ⟨a,cap,_,_,_,_,h4⟩:=h
 obtain ⟨p,_,_,cs,_,hrep⟩:=h4 i r hi
 obtain ⟨v,_,_,_,_,h5,h6⟩:=Z8 hrep
 exact ⟨h5,h6⟩
theorem Zl8 {G : GH} {v : Value} {l : List HRow} (h : Sl HRowE 56 G v l) : ∀ c,c ∈ ZL l → Zv c:=fun c hc=>by
 obtain ⟨r,hr,h1⟩:=X1.1 hc
 have:=h.tx64 r hr
 rcases h1 with rfl | rfl
 ·exact this.1
 ·exact this.2
end Go.Civ
