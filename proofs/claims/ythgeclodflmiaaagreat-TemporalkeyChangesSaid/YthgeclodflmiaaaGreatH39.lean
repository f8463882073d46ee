/- Lemmas. -/
import Derived.Test.YthgeclodflmiaaaGreatH34
import Derived.Test.YthgeclodflmiaaaGreatH38
import Derived.Test.YthgeclodflmiaaaGreatProg
import Derived.KernelRfl
import Derived.WalkKit
set_option linter.unusedVariables false
set_option linter.unusedSimpArgs false
set_option maxRecDepth 100000
set_option maxHeartbeats 4000000
namespace Go.Civ
open Go.Proofs
theorem Zs5 {G : GH} {w : World} (hG : G.In w) (l : List Int) (vl : Value) (hvl : Sl Enc.int 8 G vl l) (hl : l.length ≤ 1000000) : CL Tryz.prog (nat_lit 68) #[vl] [] w G fun G' _ r=>Sl Enc.int 8 G' r (ZY l):=by
 refine Zg ft [] Tryz.func68 rfl rfl ?_
 have hS:=St.start (X:=[]) hG
 refine LP.go ft [] (fun m ρ1 w1=>∃ (k1 : Nat),∃ (vk : Value),∃ (G1 : GH),m = l.length - k1 ∧ G.le G1 ∧ St w [] G G1 [] w1 ∧ FR ρ1 [(0,vl),(3,vk),(4, .int .i64 (k1 : Int))] ∧ k1 ≤ l.length ∧ Sl Enc.int 8 G1 vk (ZY (l.take k1))) _ ⟨0, .slice none 0 0,G,rfl,(G.le_refl),hS,⟨rfl,rfl,rfl,trivial⟩,(by omega),(Sl.cast (Sl.nil Enc.int 8 G) rfl)⟩ ?_
 rintro m ρ1 w1 ⟨k1,vk,G1,rfl,hle1,hS1,hF9,f1,f2⟩
 refine hF9.set ?_
 clear hF9
 have hsl:=Zl1 l k1
 have bd1:=hvl.bound
 refine Zj (hvl.mono hle1) Yz rfl rfl ?_
 refine Zq (k1 : Int) (l.length : Int) rfl rfl rfl (fun h1=>?_) (fun h1=>?_)
 ·obtain ⟨xv,hxv⟩:=ZeP (l:=l) (k:=k1) (by omega)
  refine LP.go ft [] (fun m ρ1 w1=>∃ (j : Nat),∃ (G2 : GH),m = ((ZY (l.take k1)).length - j) ∧ G1.le G2 ∧ St w [] G G2 [] w1 ∧ FR ρ1 [(0,vl),(3,vk),(4, .int .i64 (k1 : Int)),(5, .int .i64 (j : Int))] ∧ j ≤ (ZY (l.take k1)).length ∧ DnI (ZY (l.take k1)) xv j) _ ⟨0,G1,rfl,(G1.le_refl),hS1,⟨rfl,rfl,rfl,rfl,trivial⟩,(by omega),(by intro i hi; omega)⟩ ?_
  rintro m ρ1 w2 ⟨j,G2,rfl,hle2,hS2,hF9,f3,f4⟩
  refine hF9.set ?_
  clear hF9
  have bd2:=f2.bound
  rcases Cmp.dec .lss (j : Int) (((ZY (l.take k1)).length : Nat) : Int) with ⟨hb1,q1⟩ | ⟨hb1,q1⟩
  ·have h2 : (j : Int) < (((ZY (l.take k1)).length : Nat) : Int):=q1
   clear q1
   obtain ⟨p1,x1,hx1,he1,ep1⟩:=Sl.at (f2.mono hle2) j (by omega)
   obtain ⟨cs1,hc1,hr1⟩:=he1
   obtain ⟨rfl,hb2⟩:=hr1
   obtain ⟨p2,x2,hx2,he2,ep2⟩:=Sl.at (hvl.mono (hle1.trans hle2)) k1 (by omega)
   obtain rfl : xv = x2:=Option.some.inj (hxv.symm.trans hx2)
   obtain ⟨cs2,hc2,hr2⟩:=he2
   obtain ⟨rfl,hb3⟩:=hr2
   rcases Cmp.dec .lss x1 xv with ⟨hb4,q2⟩ | ⟨hb4,q2⟩
   ·have h3 : x1 < xv:=q2
    clear q2
    refine dr [] [(15, .int .i64 (((ZY (l.take k1)).length : Nat) : Int)),(16, .bool true),(20, .pointer (some p1)),(21, .int .i64 x1),(24, .pointer (some p2)),(25, .int .i64 xv),(26, .bool true)] hS2 ⟨fun _=>Zj (f2.mono hle2) Yz rfl rfl <| nu rfl rfl,fun _=>WL.cmpV .lss rfl .i64 (j : Int) (((ZY (l.take k1)).length : Nat) : Int) _ hb1 rfl rfl rfl <| nu rfl rfl,fun _=>Zk j ep1 Yz Zp rfl rfl rfl rfl <| nu rfl rfl,fun _ hSw=>Za hSw hc1 Zp rfl rfl rfl <| nu rfl rfl,fun _=>Zk k1 ep2 Yz Zp rfl rfl rfl rfl <| nu rfl rfl,fun _ hSw=>Za hSw hc2 Zp rfl rfl rfl <| nu rfl rfl,fun _=>WL.cmpV .lss rfl .i64 x1 xv _ hb4 rfl rfl rfl <| nu rfl rfl,trivial⟩ (fun w3 hS3=>?_)
    refine Zl j (by have hreach : reach = 140737488355328:=rfl; omega) rfl rfl rfl ?_
    exact BK.mk' _ ⟨j + 1,G2,rfl,hle2,hS3,⟨rfl,rfl,rfl,rfl,trivial⟩,(by omega),(by exact DnI.step ‹_› ‹_› ‹_›)⟩ (show ((ZY (l.take k1)).length - (j + 1)) < ((ZY (l.take k1)).length - j) by omega)
   have h3 : xv ≤ x1:=q2
   clear q2
   refine dr [] [(15, .int .i64 (((ZY (l.take k1)).length : Nat) : Int)),(16, .bool true),(20, .pointer (some p1)),(21, .int .i64 x1),(24, .pointer (some p2)),(25, .int .i64 xv),(26, .bool false)] hS2 ⟨fun _=>Zj (f2.mono hle2) Yz rfl rfl <| nu rfl rfl,fun _=>WL.cmpV .lss rfl .i64 (j : Int) (((ZY (l.take k1)).length : Nat) : Int) _ hb1 rfl rfl rfl <| nu rfl rfl,fun _=>Zk j ep1 Yz Zp rfl rfl rfl rfl <| nu rfl rfl,fun _ hSw=>Za hSw hc1 Zp rfl rfl rfl <| nu rfl rfl,fun _=>Zk k1 ep2 Yz Zp rfl rfl rfl rfl <| nu rfl rfl,fun _ hSw=>Za hSw hc2 Zp rfl rfl rfl <| nu rfl rfl,fun _=>WL.cmpV .lss rfl .i64 x1 xv _ hb4 rfl rfl rfl <| nu rfl rfl,trivial⟩ (fun w4 hS4=>?_)
   have bd3:=f2.bound
   rcases Cmp.dec .lss (j : Int) (((ZY (l.take k1)).length : Nat) : Int) with ⟨hb5,q3⟩ | ⟨hb5,q3⟩
   ·have h4 : (j : Int) < (((ZY (l.take k1)).length : Nat) : Int):=q3
    clear q3
    obtain ⟨p3,x3,hx3,he3,ep3⟩:=Sl.at (f2.mono hle2) j (by omega)
    obtain rfl : x1 = x3:=Option.some.inj (hx1.symm.trans hx3)
    obtain ⟨cs3,hc3,hr3⟩:=he3
    obtain ⟨rfl,hb6⟩:=hr3
    obtain ⟨p4,x4,hx4,he4,ep4⟩:=Sl.at (hvl.mono (hle1.trans hle2)) k1 (by omega)
    obtain rfl : xv = x4:=Option.some.inj (hxv.symm.trans hx4)
    obtain ⟨cs4,hc4,hr4⟩:=he4
    obtain ⟨rfl,hb7⟩:=hr4
    rcases Cmp.dec .eql x1 xv with ⟨hb8,q4⟩ | ⟨hb8,q4⟩
    ·have h5 : x1 = xv:=q4
     clear q4
     refine dr [] [(32, .int .i64 (((ZY (l.take k1)).length : Nat) : Int)),(33, .bool true),(37, .pointer (some p3)),(38, .int .i64 x1),(41, .pointer (some p4)),(42, .int .i64 xv),(43, .bool true)] hS4 ⟨fun _=>Zj (f2.mono hle2) Yz rfl rfl <| nu rfl rfl,fun _=>WL.cmpV .lss rfl .i64 (j : Int) (((ZY (l.take k1)).length : Nat) : Int) _ hb5 rfl rfl rfl <| nu rfl rfl,fun _=>Zk j ep3 Yz Zp rfl rfl rfl rfl <| nu rfl rfl,fun _ hSw=>Za hSw hc3 Zp rfl rfl rfl <| nu rfl rfl,fun _=>Zk k1 ep4 Yz Zp rfl rfl rfl rfl <| nu rfl rfl,fun _ hSw=>Za hSw hc4 Zp rfl rfl rfl <| nu rfl rfl,fun _=>WL.cmpV .eql rfl .i64 x1 xv _ hb8 rfl rfl rfl <| nu rfl rfl,trivial⟩ (fun w5 hS5=>?_)
     refine Zl k1 (by have hreach : reach = 140737488355328:=rfl; omega) rfl rfl rfl ?_
     exact BK.mk' _ ⟨k1 + 1,vk,G2,rfl,(hle1.trans hle2),hS5,⟨rfl,rfl,rfl,trivial⟩,(by omega),(Sl.cast (f2.mono hle2) (by rw [Zby hxv]; exact (Zmp (k:=j) ‹_› ‹_› ‹_›).symm))⟩ (show l.length - (k1 + 1) < l.length - k1 by omega)
    have h5 : x1 ≠ xv:=q4
    clear q4
    refine dr [] [(32, .int .i64 (((ZY (l.take k1)).length : Nat) : Int)),(33, .bool true),(37, .pointer (some p3)),(38, .int .i64 x1),(41, .pointer (some p4)),(42, .int .i64 xv),(43, .bool false)] hS4 ⟨fun _=>Zj (f2.mono hle2) Yz rfl rfl <| nu rfl rfl,fun _=>WL.cmpV .lss rfl .i64 (j : Int) (((ZY (l.take k1)).length : Nat) : Int) _ hb5 rfl rfl rfl <| nu rfl rfl,fun _=>Zk j ep3 Yz Zp rfl rfl rfl rfl <| nu rfl rfl,fun _ hSw=>Za hSw hc3 Zp rfl rfl rfl <| nu rfl rfl,fun _=>Zk k1 ep4 Yz Zp rfl rfl rfl rfl <| nu rfl rfl,fun _ hSw=>Za hSw hc4 Zp rfl rfl rfl <| nu rfl rfl,fun _=>WL.cmpV .eql rfl .i64 x1 xv _ hb8 rfl rfl rfl <| nu rfl rfl,trivial⟩ (fun w6 hS6=>?_)
    refine WL.buildSlice _ [] [] hS6 YU rfl rfl rfl rfl (fun z hz=>by match z,hz with | [],_=>rfl) (fun b1 w7 hn1 hS7=>?_)
    refine Yr (f2.mono hle2) j (by omega) Yz Zp rfl rfl rfl rfl (fun v1 hs1=>?_)
    have hr5:=Ye.empty Enc.int 8 3 G2 b1
    refine YE YU rfl rfl rfl hr5 hS7 0 rfl hs1 (by have hreach : reach = 140737488355328:=rfl; simp only [List.length_append,List.length_cons,List.length_nil,List.length_take,List.length_drop]; omega) (by have hreach : reach = 140737488355328:=rfl; simp only [List.length_append,List.length_cons,List.length_nil,List.length_take,List.length_drop]; omega) rfl rfl rfl (fun v2 o1 w9 hr6 hS8=>?_)
    refine WL.indexAddr (hvl.mono (hle1.trans hle2)) k1 (by omega) Yz Zp rfl rfl rfl rfl (fun p5 x5 hx5 he5=>?_)
    obtain rfl : xv = x5:=Option.some.inj (hxv.symm.trans hx5)
    obtain ⟨cs5,hc5,hr7⟩:=he5
    obtain ⟨rfl,hb9⟩:=hr7
    refine Za hS8 hc5 Zp rfl rfl rfl ?_
    refine WL.buildSlice _ [(0,[.int .i64 xv])] [.int .i64 xv] hS8 YU rfl rfl rfl rfl (fun z hz=>by match z,hz with | [z0],_=>rfl) (fun b2 w10 hn2 hS9=>?_)
    refine WL.push (m:=([xv] : List Int)) YU rfl rfl rfl hr6 hS9 1 rfl 0 _ _ _ _ _ rfl ⟨[.int .i64 xv],_,rfl,⟨rfl,hb9⟩,rfl⟩ rfl (by have hreach : reach = 140737488355328:=rfl; simp only [List.length_append,List.length_cons,List.length_nil,List.length_take,List.length_drop]; omega) (by have hreach : reach = 140737488355328:=rfl; simp only [List.length_append,List.length_cons,List.length_nil,List.length_take,List.length_drop]; omega) rfl rfl rfl (fun v3 o2 w11 hr8 hS10=>?_)
    have hS11:=hS10.tail
    refine Qo (f2.mono hle2) j (by omega) Yz Zp rfl rfl rfl rfl (fun v4 hs2=>?_)
    refine YE YU rfl rfl rfl hr8 hS11 0 rfl hs2 (by have hreach : reach = 140737488355328:=rfl; simp only [List.length_append,List.length_cons,List.length_nil,List.length_take,List.length_drop]; omega) (by have hreach : reach = 140737488355328:=rfl; simp only [List.length_append,List.length_cons,List.length_nil,List.length_take,List.length_drop]; omega) rfl rfl rfl (fun v5 o3 w12 hr9 hS12=>?_)
    refine Zl k1 (by have hreach : reach = 140737488355328:=rfl; omega) rfl rfl rfl ?_
    obtain ⟨G3,hle3,hs3,hS13⟩:=Ye.freeze hr9 hS12 0 rfl
    have hS14:=hS13.tail
    exact BK.mk' _ ⟨k1 + 1,v5,G3,rfl,(hle1.trans (hle2.trans hle3)),hS14,⟨rfl,rfl,rfl,trivial⟩,(by omega),(Sl.cast hs3 (by rw [Zby hxv]; exact ZgQ (k:=j) ‹_› (by omega) (ZtJ ‹_› (by omega))))⟩ (show l.length - (k1 + 1) < l.length - k1 by omega)
   have h4 : (((ZY (l.take k1)).length : Nat) : Int) ≤ (j : Int):=q3
   clear q3
   refine dr [] [(32, .int .i64 (((ZY (l.take k1)).length : Nat) : Int)),(33, .bool false)] hS4 ⟨fun _=>Zj (f2.mono hle2) Yz rfl rfl <| nu rfl rfl,fun _=>WL.cmpV .lss rfl .i64 (j : Int) (((ZY (l.take k1)).length : Nat) : Int) _ hb5 rfl rfl rfl <| nu rfl rfl,trivial⟩ (fun w13 hS15=>?_)
   refine WL.buildSlice _ [] [] hS15 YU rfl rfl rfl rfl (fun z hz=>by match z,hz with | [],_=>rfl) (fun b3 w14 hn3 hS16=>?_)
   refine Yr (f2.mono hle2) j (by omega) Yz Zp rfl rfl rfl rfl (fun v6 hs4=>?_)
   have hr10:=Ye.empty Enc.int 8 3 G2 b3
   refine YE YU rfl rfl rfl hr10 hS16 0 rfl hs4 (by have hreach : reach = 140737488355328:=rfl; simp only [List.length_append,List.length_cons,List.length_nil,List.length_take,List.length_drop]; omega) (by have hreach : reach = 140737488355328:=rfl; simp only [List.length_append,List.length_cons,List.length_nil,List.length_take,List.length_drop]; omega) rfl rfl rfl (fun v7 o4 w15 hr11 hS17=>?_)
   refine WL.indexAddr (hvl.mono (hle1.trans hle2)) k1 (by omega) Yz Zp rfl rfl rfl rfl (fun p6 x6 hx6 he6=>?_)
   obtain rfl : xv = x6:=Option.some.inj (hxv.symm.trans hx6)
   obtain ⟨cs6,hc6,hr12⟩:=he6
   obtain ⟨rfl,hb10⟩:=hr12
   refine Za hS17 hc6 Zp rfl rfl rfl ?_
   refine WL.buildSlice _ [(0,[.int .i64 xv])] [.int .i64 xv] hS17 YU rfl rfl rfl rfl (fun z hz=>by match z,hz with | [z0],_=>rfl) (fun b4 w16 hn4 hS18=>?_)
   refine WL.push (m:=([xv] : List Int)) YU rfl rfl rfl hr11 hS18 1 rfl 0 _ _ _ _ _ rfl ⟨[.int .i64 xv],_,rfl,⟨rfl,hb10⟩,rfl⟩ rfl (by have hreach : reach = 140737488355328:=rfl; simp only [List.length_append,List.length_cons,List.length_nil,List.length_take,List.length_drop]; omega) (by have hreach : reach = 140737488355328:=rfl; simp only [List.length_append,List.length_cons,List.length_nil,List.length_take,List.length_drop]; omega) rfl rfl rfl (fun v9 o5 w17 hr13 hS19=>?_)
   have hS20:=hS19.tail
   refine Qo (f2.mono hle2) j (by omega) Yz Zp rfl rfl rfl rfl (fun v10 hs5=>?_)
   refine YE YU rfl rfl rfl hr13 hS20 0 rfl hs5 (by have hreach : reach = 140737488355328:=rfl; simp only [List.length_append,List.length_cons,List.length_nil,List.length_take,List.length_drop]; omega) (by have hreach : reach = 140737488355328:=rfl; simp only [List.length_append,List.length_cons,List.length_nil,List.length_take,List.length_drop]; omega) rfl rfl rfl (fun v11 o6 w18 hr14 hS21=>?_)
   refine Zl k1 (by have hreach : reach = 140737488355328:=rfl; omega) rfl rfl rfl ?_
   obtain ⟨G4,hle4,hs6,hS22⟩:=Ye.freeze hr14 hS21 0 rfl
   have hS23:=hS22.tail
   exact BK.mk' _ ⟨k1 + 1,v11,G4,rfl,(hle1.trans (hle2.trans hle4)),hS23,⟨rfl,rfl,rfl,trivial⟩,(by omega),(Sl.cast hs6 (by rw [Zby hxv]; (exfalso; omega)))⟩ (show l.length - (k1 + 1) < l.length - k1 by omega)
  have h2 : (((ZY (l.take k1)).length : Nat) : Int) ≤ (j : Int):=q1
  clear q1
  refine dr [] [(15, .int .i64 (((ZY (l.take k1)).length : Nat) : Int)),(16, .bool false)] hS2 ⟨fun _=>Zj (f2.mono hle2) Yz rfl rfl <| nu rfl rfl,fun _=>WL.cmpV .lss rfl .i64 (j : Int) (((ZY (l.take k1)).length : Nat) : Int) _ hb1 rfl rfl rfl <| nu rfl rfl,trivial⟩ (fun w19 hS24=>?_)
  have bd4:=f2.bound
  rcases Cmp.dec .lss (j : Int) (((ZY (l.take k1)).length : Nat) : Int) with ⟨YD,q5⟩ | ⟨YD,q5⟩
  ·have h6 : (j : Int) < (((ZY (l.take k1)).length : Nat) : Int):=q5
   clear q5
   obtain ⟨p7,x7,hx7,he7,ep5⟩:=Sl.at (f2.mono hle2) j (by omega)
   obtain ⟨cs7,hc7,hr15⟩:=he7
   obtain ⟨rfl,YW⟩:=hr15
   obtain ⟨p8,x9,hx8,he8,ep6⟩:=Sl.at (hvl.mono (hle1.trans hle2)) k1 (by omega)
   obtain rfl : xv = x9:=Option.some.inj (hxv.symm.trans hx8)
   obtain ⟨cs8,hc8,hr16⟩:=he8
   obtain ⟨rfl,Xj⟩:=hr16
   rcases Cmp.dec .eql x7 xv with ⟨XD,q6⟩ | ⟨XD,q6⟩
   ·have h7 : x7 = xv:=q6
    clear q6
    refine dr [] [(32, .int .i64 (((ZY (l.take k1)).length : Nat) : Int)),(33, .bool true),(37, .pointer (some p7)),(38, .int .i64 x7),(41, .pointer (some p8)),(42, .int .i64 xv),(43, .bool true)] hS24 ⟨fun _=>Zj (f2.mono hle2) Yz rfl rfl <| nu rfl rfl,fun _=>WL.cmpV .lss rfl .i64 (j : Int) (((ZY (l.take k1)).length : Nat) : Int) _ YD rfl rfl rfl <| nu rfl rfl,fun _=>Zk j ep5 Yz Zp rfl rfl rfl rfl <| nu rfl rfl,fun _ hSw=>Za hSw hc7 Zp rfl rfl rfl <| nu rfl rfl,fun _=>Zk k1 ep6 Yz Zp rfl rfl rfl rfl <| nu rfl rfl,fun _ hSw=>Za hSw hc8 Zp rfl rfl rfl <| nu rfl rfl,fun _=>WL.cmpV .eql rfl .i64 x7 xv _ XD rfl rfl rfl <| nu rfl rfl,trivial⟩ (fun w20 hS25=>?_)
    refine Zl k1 (by have hreach : reach = 140737488355328:=rfl; omega) rfl rfl rfl ?_
    exact BK.mk' _ ⟨k1 + 1,vk,G2,rfl,(hle1.trans hle2),hS25,⟨rfl,rfl,rfl,trivial⟩,(by omega),(Sl.cast (f2.mono hle2) (by rw [Zby hxv]; (exfalso; omega)))⟩ (show l.length - (k1 + 1) < l.length - k1 by omega)
   have h7 : x7 ≠ xv:=q6
   clear q6
   refine dr [] [(32, .int .i64 (((ZY (l.take k1)).length : Nat) : Int)),(33, .bool true),(37, .pointer (some p7)),(38, .int .i64 x7),(41, .pointer (some p8)),(42, .int .i64 xv),(43, .bool false)] hS24 ⟨fun _=>Zj (f2.mono hle2) Yz rfl rfl <| nu rfl rfl,fun _=>WL.cmpV .lss rfl .i64 (j : Int) (((ZY (l.take k1)).length : Nat) : Int) _ YD rfl rfl rfl <| nu rfl rfl,fun _=>Zk j ep5 Yz Zp rfl rfl rfl rfl <| nu rfl rfl,fun _ hSw=>Za hSw hc7 Zp rfl rfl rfl <| nu rfl rfl,fun _=>Zk k1 ep6 Yz Zp rfl rfl rfl rfl <| nu rfl rfl,fun _ hSw=>Za hSw hc8 Zp rfl rfl rfl <| nu rfl rfl,fun _=>WL.cmpV .eql rfl .i64 x7 xv _ XD rfl rfl rfl <| nu rfl rfl,trivial⟩ (fun w21 hS26=>?_)
   refine WL.buildSlice _ [] [] hS26 YU rfl rfl rfl rfl (fun z hz=>by match z,hz with | [],_=>rfl) (fun b5 w22 hn5 hS27=>?_)
   refine Yr (f2.mono hle2) j (by omega) Yz Zp rfl rfl rfl rfl (fun v12 hs7=>?_)
   have hr17:=Ye.empty Enc.int 8 3 G2 b5
   refine YE YU rfl rfl rfl hr17 hS27 0 rfl hs7 (by have hreach : reach = 140737488355328:=rfl; simp only [List.length_append,List.length_cons,List.length_nil,List.length_take,List.length_drop]; omega) (by have hreach : reach = 140737488355328:=rfl; simp only [List.length_append,List.length_cons,List.length_nil,List.length_take,List.length_drop]; omega) rfl rfl rfl (fun v13 o7 w23 hr18 hS28=>?_)
   refine WL.indexAddr (hvl.mono (hle1.trans hle2)) k1 (by omega) Yz Zp rfl rfl rfl rfl (fun p9 x10 hx9 he9=>?_)
   obtain rfl : xv = x10:=Option.some.inj (hxv.symm.trans hx9)
   obtain ⟨cs9,hc9,hr19⟩:=he9
   obtain ⟨rfl,X7⟩:=hr19
   refine Za hS28 hc9 Zp rfl rfl rfl ?_
   refine WL.buildSlice _ [(0,[.int .i64 xv])] [.int .i64 xv] hS28 YU rfl rfl rfl rfl (fun z hz=>by match z,hz with | [z0],_=>rfl) (fun b6 w24 hn6 hS29=>?_)
   refine WL.push (m:=([xv] : List Int)) YU rfl rfl rfl hr18 hS29 1 rfl 0 _ _ _ _ _ rfl ⟨[.int .i64 xv],_,rfl,⟨rfl,X7⟩,rfl⟩ rfl (by have hreach : reach = 140737488355328:=rfl; simp only [List.length_append,List.length_cons,List.length_nil,List.length_take,List.length_drop]; omega) (by have hreach : reach = 140737488355328:=rfl; simp only [List.length_append,List.length_cons,List.length_nil,List.length_take,List.length_drop]; omega) rfl rfl rfl (fun v14 o8 w25 hr20 hS30=>?_)
   have hS31:=hS30.tail
   refine Qo (f2.mono hle2) j (by omega) Yz Zp rfl rfl rfl rfl (fun v15 hs8=>?_)
   refine YE YU rfl rfl rfl hr20 hS31 0 rfl hs8 (by have hreach : reach = 140737488355328:=rfl; simp only [List.length_append,List.length_cons,List.length_nil,List.length_take,List.length_drop]; omega) (by have hreach : reach = 140737488355328:=rfl; simp only [List.length_append,List.length_cons,List.length_nil,List.length_take,List.length_drop]; omega) rfl rfl rfl (fun v16 o9 w26 hr21 hS32=>?_)
   refine Zl k1 (by have hreach : reach = 140737488355328:=rfl; omega) rfl rfl rfl ?_
   obtain ⟨G5,hle5,hs9,hS33⟩:=Ye.freeze hr21 hS32 0 rfl
   have hS34:=hS33.tail
   exact BK.mk' _ ⟨k1 + 1,v16,G5,rfl,(hle1.trans (hle2.trans hle5)),hS34,⟨rfl,rfl,rfl,trivial⟩,(by omega),(Sl.cast hs9 (by rw [Zby hxv]; (exfalso; omega)))⟩ (show l.length - (k1 + 1) < l.length - k1 by omega)
  have h6 : (((ZY (l.take k1)).length : Nat) : Int) ≤ (j : Int):=q5
  clear q5
  refine dr [] [(32, .int .i64 (((ZY (l.take k1)).length : Nat) : Int)),(33, .bool false)] hS24 ⟨fun _=>Zj (f2.mono hle2) Yz rfl rfl <| nu rfl rfl,fun _=>WL.cmpV .lss rfl .i64 (j : Int) (((ZY (l.take k1)).length : Nat) : Int) _ YD rfl rfl rfl <| nu rfl rfl,trivial⟩ (fun w27 hS35=>?_)
  refine WL.buildSlice _ [] [] hS35 YU rfl rfl rfl rfl (fun z hz=>by match z,hz with | [],_=>rfl) (fun b7 w28 hn7 hS36=>?_)
  refine Yr (f2.mono hle2) j (by omega) Yz Zp rfl rfl rfl rfl (fun v17 hs10=>?_)
  have hr22:=Ye.empty Enc.int 8 3 G2 b7
  refine YE YU rfl rfl rfl hr22 hS36 0 rfl hs10 (by have hreach : reach = 140737488355328:=rfl; simp only [List.length_append,List.length_cons,List.length_nil,List.length_take,List.length_drop]; omega) (by have hreach : reach = 140737488355328:=rfl; simp only [List.length_append,List.length_cons,List.length_nil,List.length_take,List.length_drop]; omega) rfl rfl rfl (fun v18 o10 w29 hr23 hS37=>?_)
  refine WL.indexAddr (hvl.mono (hle1.trans hle2)) k1 (by omega) Yz Zp rfl rfl rfl rfl (fun p10 x11 hx10 he10=>?_)
  obtain rfl : xv = x11:=Option.some.inj (hxv.symm.trans hx10)
  obtain ⟨cs10,hc10,hr24⟩:=he10
  obtain ⟨rfl,Qi⟩:=hr24
  refine Za hS37 hc10 Zp rfl rfl rfl ?_
  refine WL.buildSlice _ [(0,[.int .i64 xv])] [.int .i64 xv] hS37 YU rfl rfl rfl rfl (fun z hz=>by match z,hz with | [z0],_=>rfl) (fun b8 w30 hn8 hS38=>?_)
  refine WL.push (m:=([xv] : List Int)) YU rfl rfl rfl hr23 hS38 1 rfl 0 _ _ _ _ _ rfl ⟨[.int .i64 xv],_,rfl,⟨rfl,Qi⟩,rfl⟩ rfl (by have hreach : reach = 140737488355328:=rfl; simp only [List.length_append,List.length_cons,List.length_nil,List.length_take,List.length_drop]; omega) (by have hreach : reach = 140737488355328:=rfl; simp only [List.length_append,List.length_cons,List.length_nil,List.length_take,List.length_drop]; omega) rfl rfl rfl (fun v19 o11 w31 hr25 hS39=>?_)
  have hS40:=hS39.tail
  refine Qo (f2.mono hle2) j (by omega) Yz Zp rfl rfl rfl rfl (fun v20 hs11=>?_)
  refine YE YU rfl rfl rfl hr25 hS40 0 rfl hs11 (by have hreach : reach = 140737488355328:=rfl; simp only [List.length_append,List.length_cons,List.length_nil,List.length_take,List.length_drop]; omega) (by have hreach : reach = 140737488355328:=rfl; simp only [List.length_append,List.length_cons,List.length_nil,List.length_take,List.length_drop]; omega) rfl rfl rfl (fun v21 o12 w32 hr26 hS41=>?_)
  refine Zl k1 (by have hreach : reach = 140737488355328:=rfl; omega) rfl rfl rfl ?_
  obtain ⟨G6,hle6,hs12,hS42⟩:=Ye.freeze hr26 hS41 0 rfl
  have hS43:=hS42.tail
  exact BK.mk' _ ⟨k1 + 1,v21,G6,rfl,(hle1.trans (hle2.trans hle6)),hS43,⟨rfl,rfl,rfl,trivial⟩,(by omega),(Sl.cast hs12 (by rw [Zby hxv]; exact ZgQ (k:=j) ‹_› (by omega) (fun u hu=>by have:=(List.getElem?_eq_some_iff.1 hu).1; omega)))⟩ (show l.length - (k1 + 1) < l.length - k1 by omega)
 exact RT hS1 rfl (Sl.cast f2 (by rw [List.take_of_length_le (by omega)]))
theorem ZpO {G : GH} {w : World} (hG : G.In w) (s : Schema) (v : List Val) (cs : List Value) (hcs : SchemaE.rep G s cs) (vv : Value) (hvv : Sl ValE 32 G vv v) (k0 : 0 ≤ s.key) (hk : s.key ≤ v.length) : CL Tryz.prog (nat_lit 97) #[.agg cs.toArray,vv] [] w G fun G' _ r=>Sl ValE 32 G' r (v.take s.key.toNat):=by
 refine Zg ft [] Tryz.func97 rfl rfl ?_
 have hS:=St.start (X:=[]) hG
 obtain ⟨v1,v2,rfl,hb1,hs1,hb2,hs2⟩:=Qc hcs
 refine Zv [Zb s.name,v1, .int .i64 s.key,v2] _ hS rfl rfl rfl (fun p1 w1 G1 hle1 hsp1 hc1 hS1=>?_)
 refine Za hS1 (Xw.drop 2 hc1) Zp rfl rfl rfl ?_
 refine Yr (hvv.mono hle1) ((s.key).toNat) (by omega) Yd Z3 rfl rfl rfl (congrArg (Value.int .i64) (Int.toNat_of_nonneg (by omega)).symm) (fun v3 hs3=>?_)
 exact RT hS1 rfl (Sl.cast hs3 (by rfl))
theorem ZrN {G : GH} {w : World} (hG : G.In w) (v : List Val) (vd tx : Int) (vv : Value) (hvv : Sl ValE 32 G vv v) (hd64 : Zw vd) (hx64 : Zw tx) (ka : vd ≤ 253402300800) (kb : tx ≤ 253402300800) : CL Tryz.prog (nat_lit 71) #[vv, .int .i64 vd, .int .i64 tx] [] w G fun G' _ r=>Is HRowE G' r (ZN (some (Pt.mk tx vd v))):=by
 refine YB ft [] Tryz.func71 rfl rfl ?_
 have hS:=St.start (X:=[]) hG
 refine WL.alloc hS Zt rfl rfl (fun b1 w1 hn1 hS1=>?_)
 have hi1 : Zw (vd + 1):=by have b1:=hd64.1; have b2:=hx64.1; have:=hd64.1; have:=hd64.2; constructor <;> omega
 refine ZaL .add rfl vd 1 rfl rfl rfl hi1 <| WL.build _ [(0,[.int .i64 vd]),(1,[.int .i64 (vd + 1)])] [.int .i64 vd, .int .i64 (vd + 1)] Zu rfl X6 rfl rfl rfl rfl ?_
 have hi2 : Zw (tx + 1):=by have b1:=hd64.1; have b2:=hx64.1; have:=hx64.1; have:=hx64.2; constructor <;> omega
 refine ZaL .add rfl tx 1 rfl rfl rfl hi2 <| WL.build _ [(0,[.int .i64 tx]),(1,[.int .i64 (tx + 1)])] [.int .i64 tx, .int .i64 (tx + 1)] Zu rfl X6 rfl rfl rfl rfl <| WL.build _ [(0,[.int .i64 vd, .int .i64 (vd + 1)]),(1,[.int .i64 tx, .int .i64 (tx + 1)])] [.int .i64 vd, .int .i64 (vd + 1), .int .i64 tx, .int .i64 (tx + 1)] Zb8 rfl Zdc rfl rfl rfl rfl ?_
 refine WL.build _ [(0,[vv]),(1,[.int .i64 vd, .int .i64 (vd + 1), .int .i64 tx, .int .i64 (tx + 1)])] [vv, .int .i64 vd, .int .i64 (vd + 1), .int .i64 tx, .int .i64 (tx + 1)] Zt rfl Zbr rfl rfl (by show [(0,(vv : Value).cells.toList),(1,(.agg #[.int .i64 vd, .int .i64 (vd + 1), .int .i64 tx, .int .i64 (tx + 1)] : Value).cells.toList)] = _; simp only [hvv.cells1] <;> rfl) rfl ?_
 refine WL.store hS1 0 _ _ _ 0 _ [vv, .int .i64 vd, .int .i64 (vd + 1), .int .i64 tx, .int .i64 (tx + 1)] [vv, .int .i64 vd, .int .i64 (vd + 1), .int .i64 tx, .int .i64 (tx + 1)] _ rfl rfl Zt rfl (Nat.le_of_ble_eq_true rfl) (by simp only [List.all_cons,List.all_nil,hvv.oneC,Bool.true_and] <;> rfl) rfl rfl rfl rfl rfl (fun w2 hS2=>?_)
 obtain ⟨G1,hle1,hc1,hS3⟩:=hS2.shutB hn1
 exact Xe [.agg #[vv, .int .i64 vd, .int .i64 (vd + 1), .int .i64 tx, .int .i64 (tx + 1)]] hS3 ⟨_,_,_,rfl,rfl,hS3.loadC hc1 Zt rfl rfl,rfl⟩ (Is.cast ⟨_,rfl,(ZQ (HRow.mk v (Rect.mk (Span.mk vd (vd + 1)) (Span.mk tx (tx + 1)))) (hvv.mono hle1) hd64 hi1 hx64 hi2)⟩ (by rfl))
theorem ZtK {G : GH} {w : World} (hG : G.In w) (s : Schema) (l : VV) (cs : List Value) (hcs : SchemaE.rep G s cs) (vl : Value) (hvl : Sl (ValE.slice 32) 24 G vl l) (k0 : 0 ≤ s.key) (hk : ∀ v ∈ l,s.key ≤ v.length) : CL Tryz.prog (nat_lit 69) #[.agg cs.toArray,vl] [] w G fun G' _ r=>∃ r0 r1,r = .tuple #[r0,r1] ∧ Sl ValE 32 G' r0 ((ZR s.key.toNat l).getD []) ∧ r1 = .bool ((ZR s.key.toNat l).isSome):=by
 refine Zg ft [] Tryz.func69 rfl rfl ?_
 have hbd9:=hvl.bound
 have hS:=St.start (X:=[]) hG
 obtain ⟨v1,v2,rfl,hb1,hs1,hb2,hs2⟩:=Qc hcs
 refine Zv [Zb s.name,v1, .int .i64 s.key,v2] _ hS rfl rfl rfl (fun p1 w1 G1 hle1 hsp1 hc1 hS1=>?_)
 refine LP.go ft [] (fun m ρ1 w1=>∃ (k1 : Nat),∃ (G2 : GH),m = l.length - k1 ∧ G1.le G2 ∧ St w [] G G2 [] w1 ∧ FR ρ1 [(1,vl),(2, .pointer (some p1)),(6, .int .i64 (k1 : Int))] ∧ k1 ≤ l.length ∧ ∀ i,i < k1 → ∀ x y,l[i]? = some x → l[i + 1]? = some y → decide (x.take s.key.toNat = y.take s.key.toNat) = false) _ ⟨0,G1,rfl,(G1.le_refl),hS1,⟨rfl,rfl,rfl,trivial⟩,(by omega),(by intro i hi; omega)⟩ ?_
 rintro m ρ1 w2 ⟨k1,G2,rfl,hle2,hS2,hF9,f1,f2⟩
 refine hF9.set ?_
 clear hF9
 refine Zl k1 (by have hreach : reach = 140737488355328:=rfl; omega) rfl rfl rfl ?_
 have bd1:=hvl.bound
 refine Zj (hvl.mono (hle1.trans hle2)) Qh rfl rfl ?_
 refine Zq ((k1 + 1 : Nat) : Int) (l.length : Int) rfl rfl rfl (fun h1=>?_) (fun h1=>?_)
 ·obtain ⟨p2,x1,hx1,he1,ep1⟩:=Sl.at (hvl.mono (hle1.trans hle2)) k1 (by omega)
  obtain ⟨cs1,hc2,hr1⟩:=he1
  obtain ⟨v3,rfl,hs3⟩:=hr1
  obtain ⟨p3,x2,hx2,he2,ep2⟩:=Sl.at (hvl.mono (hle1.trans hle2)) (k1 + 1) (by omega)
  obtain ⟨cs2,hc3,hr2⟩:=he2
  obtain ⟨v4,rfl,hs4⟩:=hr2
  refine dr [(5,true),(12,false),(13,false)] [(14, .agg #[Zb s.name,v1, .int .i64 s.key,v2]),(17, .pointer (some p2)),(18,v3),(20, .agg #[Zb s.name,v1, .int .i64 s.key,v2]),(23, .int .i64 ((k1 + 1 : Nat) : Int)),(24, .pointer (some p3)),(25,v4)] hS2 ⟨fun _ hSw=>Zc hSw (hc1.mono hle2) [Zb s.name,v1, .int .i64 s.key,v2] ZbX rfl rfl rfl rfl rfl <| nu rfl rfl,fun _=>Zk k1 ep1 Qh ZH rfl rfl rfl rfl <| nu rfl rfl,fun _ hSw=>Za hSw hc2 ZH rfl rfl rfl <| nu rfl rfl,fun _ hSw=>Zc hSw (hc1.mono hle2) [Zb s.name,v1, .int .i64 s.key,v2] ZbX rfl rfl rfl rfl rfl <| nu rfl rfl,fun _=>Zl k1 (by have hreach : reach = 140737488355328:=rfl; omega) rfl rfl rfl <| nu rfl rfl,fun _=>Zk (k1 + 1) ep2 Qh ZH rfl rfl rfl rfl <| nu rfl rfl,fun _ hSw=>Za hSw hc3 ZH rfl rfl rfl <| nu rfl rfl,trivial⟩ (fun w3 hS3=>?_)
  refine Z6 hS3 Zuz rfl rfl rfl (ZpO hS3.imm s x1 _ (XB s hb1 (hs1.mono (hle1.trans hle2)) hb2 (hs2.mono (hle1.trans hle2))) _ hs3 k0 (hk _ (List.mem_of_getElem? ‹_›))) (fun w4 G3 r1 hpost1 hS4 hle3=>?_)
  refine ⟨hS4.down hS3.le hle3,?_⟩
  refine Z6 hS4 Zuz rfl rfl rfl (ZpO hS4.imm s x2 _ (XB s hb1 (hs1.mono ((hle1.trans hle2).trans hle3)) hb2 (hs2.mono ((hle1.trans hle2).trans hle3))) _ (hs4.mono hle3) k0 (hk _ (List.mem_of_getElem? ‹_›))) (fun w5 G4 r2 hpost2 hS5 hle4=>?_)
  refine Zn hS5 Zuy rfl rfl rfl (Zot hS5.imm (x1.take s.key.toNat) (x2.take s.key.toNat) _ (hpost1.mono hle4) _ hpost2) (fun w6 G5 hS6 hle5=>?_)
  refine WL.split (fun (h2 : (decide ((x1.take s.key.toNat) = (x2.take s.key.toNat))) = true)=>?_) (fun (h2 : (decide ((x1.take s.key.toNat) = (x2.take s.key.toNat))) = false)=>?_)
  ·refine WL.indexAddr (hvl.mono ((((hle1.trans hle2).trans hle3).trans hle4).trans hle5)) k1 (by omega) Qh ZH rfl rfl rfl rfl (fun p4 x3 hx3 he3=>?_)
   obtain rfl : x1 = x3:=Option.some.inj (hx1.symm.trans hx3)
   obtain ⟨cs3,hc4,hr3⟩:=he3
   obtain ⟨v5,rfl,hs5⟩:=hr3
   refine Za hS6 hc4 ZH rfl rfl rfl ?_
   exact RT hS6 rfl ⟨_,_,rfl,(Sl.cast hs5 (by exact (Zmv ‹_› ‹_› ‹_› ‹_›).1)),(congrArg Value.bool (by exact (Zmv ‹_› ‹_› ‹_› ‹_›).2))⟩
  refine Zl k1 (by have hreach : reach = 140737488355328:=rfl; omega) rfl rfl rfl ?_
  exact BK.mk' _ ⟨k1 + 1,G5,rfl,(hle2.trans ((hle3.trans hle4).trans hle5)),hS6,⟨rfl,rfl,rfl,trivial⟩,(by omega),(by exact ZrM ‹_› ‹_› ‹_› ‹_›)⟩ (show l.length - (k1 + 1) < l.length - k1 by omega)
 exact RT hS2 rfl ⟨_,_,rfl,(Sl.cast (Sl.nil ValE 32 G2) (by exact (Zmw ‹_› (by omega)).1)),(congrArg Value.bool (by exact (Zmw ‹_› (by omega)).2))⟩
end Go.Civ
