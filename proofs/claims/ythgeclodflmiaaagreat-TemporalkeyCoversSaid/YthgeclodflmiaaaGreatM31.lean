/- Lemmas. -/
import Derived.Test.YthgeclodflmiaaaGreatM30
import Derived.Test.YthgeclodflmiaaaGreatProg
import Derived.KernelRfl
import Derived.WalkKit
set_option linter.unusedVariables false
set_option linter.unusedSimpArgs false
set_option maxRecDepth 100000
set_option maxHeartbeats 4000000
namespace Go.Civ
open Go.Proofs
theorem Zk4 {G : GH} {w : World} (hG : G.In w) (l : List HRow) (vl : Value) (hvl : Sl HRowE 56 G vl l) (hl : l.length ≤ 1000000) : CL Tryz.prog (nat_lit 129) #[vl] [] w G fun G' _ r=>Sl (ValE.slice 32) 24 G' r (Z8 l):=by
 refine Zg ft [] Tryz.func129 rfl rfl ?_
 have hS:=St.start (X:=[]) hG
 refine LP.go ft [] (fun m ρ1 w1=>∃ (k1 : Nat),∃ (vk : Value),∃ (G1 : GH),m = l.length - k1 ∧ G.le G1 ∧ St w [] G G1 [] w1 ∧ FR ρ1 [(0,vl),(3,vk),(4, .int .i64 (k1 : Int))] ∧ k1 ≤ l.length ∧ Sl (ValE.slice 32) 24 G1 vk (Z8 (l.take k1))) _ ⟨0, .slice none 0 0,G,rfl,(G.le_refl),hS,⟨rfl,rfl,rfl,trivial⟩,(by omega),(Sl.cast (Sl.nil (ValE.slice 32) 24 G) rfl)⟩ ?_
 rintro m ρ1 w1 ⟨k1,vk,G1,rfl,hle1,hS1,hF9,f1,f2⟩
 refine hF9.set ?_
 clear hF9
 have hvl1:=ZiG l k1
 have hiv:=XZ (l.take k1)
 have bd1:=hvl.bound
 refine Zi (hvl.mono hle1) Yc rfl rfl ?_
 refine Zl (k1 : Int) (l.length : Int) rfl rfl rfl (fun h1=>?_) (fun h1=>?_)
 ·obtain ⟨xv,hxv⟩:=QU (l:=l) (k:=k1) (by omega)
  have bd2:=f2.bound
  refine Zi f2 X6 rfl rfl ?_
  refine LP.go ft [] (fun m ρ1 w1=>∃ (j : Nat),∃ (G2 : GH),m = (0 + j) ∧ G1.le G2 ∧ St w [] G G2 [] w1 ∧ FR ρ1 [(0,vl),(3,vk),(4, .int .i64 (k1 : Int)),(5, .int .i64 (j : Int))] ∧ j ≤ (Z8 (l.take k1)).length ∧ UpV (Z8 (l.take k1)) xv.v j) _ ⟨(Z8 (l.take k1)).length,G1,rfl,(G1.le_refl),hS1,⟨rfl,rfl,rfl,rfl,trivial⟩,(by omega),(UpV.start)⟩ ?_
  rintro m ρ1 w2 ⟨j,G2,rfl,hle2,hS2,hF9,f3,f4⟩
  refine hF9.set ?_
  clear hF9
  rcases Cmp.dec .gtr (j : Int) 0 with ⟨hb1,q1⟩ | ⟨hb1,q1⟩
  ·have h2 : 0 < (j : Int):=q1
   clear q1
   obtain ⟨p1,x1,hx1,he1,ep1⟩:=Sl.at (f2.mono hle2) (j - 1) (by omega)
   obtain ⟨cs1,hc1,hr1⟩:=he1
   obtain ⟨v1,rfl,hs1⟩:=hr1
   obtain ⟨p2,x2,hx2,he2,ep2⟩:=Sl.at (hvl.mono (hle1.trans hle2)) k1 (by omega)
   obtain rfl : xv = x2:=Option.some.inj (hxv.symm.trans hx2)
   obtain ⟨cs2,hc2,hr2⟩:=he2
   obtain ⟨v2,rfl,hs2,hb2,hb3,hb4,hb5⟩:=Z0 hr2
   rcases Cmp.dec .gtr (ZC cmpV x1 xv.v) 0 with ⟨hb6,q2⟩ | ⟨hb6,q2⟩
   ·have h3 : 0 < (ZC cmpV x1 xv.v):=q2
    clear q2
    refine dr [] [(16, .bool true),(20, .int .i64 ((j - 1 : Nat) : Int)),(21, .pointer (some p1)),(22,v1),(25, .pointer (some p2)),(27,v2),(28, .int .i64 (ZC cmpV x1 xv.v)),(29, .bool true)] hS2 ⟨fun _=>WL.cmpV .gtr rfl .i64 (j : Int) 0 _ hb1 rfl rfl rfl <| nu rfl rfl,fun _=>Xs j (by omega) (by have hreach : reach = 140737488355328:=rfl; omega) rfl rfl rfl <| nu rfl rfl,fun _=>Ze (j - 1) ep1 X6 Z9 rfl rfl rfl rfl <| nu rfl rfl,fun _ hSw=>Za hSw hc1 Z9 rfl rfl rfl <| nu rfl rfl,fun _=>Ze k1 ep2 Yc Zr rfl rfl rfl rfl <| nu rfl rfl,fun _ hSw=>Za hSw (XV.drop 0 hc2) Z9 rfl rfl rfl <| nu rfl rfl,fun _ hSw=>Z4 hSw ZdM rfl rfl rfl (Zba hSw.imm x1 xv.v _ hs1 _ hs2) rfl,fun _=>WL.cmpV .gtr rfl .i64 (ZC cmpV x1 xv.v) 0 _ hb6 rfl rfl rfl <| nu rfl rfl,trivial⟩ (fun w3 hS3=>?_)
    refine Xs j (by omega) (by have hreach : reach = 140737488355328:=rfl; omega) rfl rfl rfl ?_
    exact BK.mk' _ ⟨j - 1,G2,rfl,hle2,hS3,⟨rfl,rfl,rfl,rfl,trivial⟩,(by omega),(by exact UpV.step ‹_› ‹_› ‹_›)⟩ (show (0 + (j - 1)) < (0 + j) by omega)
   have h3 : (ZC cmpV x1 xv.v) ≤ 0:=q2
   clear q2
   refine dr [] [(16, .bool true),(20, .int .i64 ((j - 1 : Nat) : Int)),(21, .pointer (some p1)),(22,v1),(25, .pointer (some p2)),(27,v2),(28, .int .i64 (ZC cmpV x1 xv.v)),(29, .bool false)] hS2 ⟨fun _=>WL.cmpV .gtr rfl .i64 (j : Int) 0 _ hb1 rfl rfl rfl <| nu rfl rfl,fun _=>Xs j (by omega) (by have hreach : reach = 140737488355328:=rfl; omega) rfl rfl rfl <| nu rfl rfl,fun _=>Ze (j - 1) ep1 X6 Z9 rfl rfl rfl rfl <| nu rfl rfl,fun _ hSw=>Za hSw hc1 Z9 rfl rfl rfl <| nu rfl rfl,fun _=>Ze k1 ep2 Yc Zr rfl rfl rfl rfl <| nu rfl rfl,fun _ hSw=>Za hSw (XV.drop 0 hc2) Z9 rfl rfl rfl <| nu rfl rfl,fun _ hSw=>Z4 hSw ZdM rfl rfl rfl (Zba hSw.imm x1 xv.v _ hs1 _ hs2) rfl,fun _=>WL.cmpV .gtr rfl .i64 (ZC cmpV x1 xv.v) 0 _ hb6 rfl rfl rfl <| nu rfl rfl,trivial⟩ (fun w4 hS4=>?_)
   rcases Cmp.dec .gtr (j : Int) 0 with ⟨hb7,q3⟩ | ⟨hb7,q3⟩
   ·have h4 : 0 < (j : Int):=q3
    clear q3
    obtain ⟨p3,x3,hx3,he3,ep3⟩:=Sl.at (f2.mono hle2) (j - 1) (by omega)
    obtain rfl : x1 = x3:=Option.some.inj (hx1.symm.trans hx3)
    obtain ⟨cs3,hc3,hr3⟩:=he3
    obtain ⟨v3,rfl,hs3⟩:=hr3
    obtain ⟨p4,x4,hx4,he4,ep4⟩:=Sl.at (hvl.mono (hle1.trans hle2)) k1 (by omega)
    obtain rfl : xv = x4:=Option.some.inj (hxv.symm.trans hx4)
    obtain ⟨cs4,hc4,hr4⟩:=he4
    obtain ⟨v4,rfl,hs4,hb8,hb9,hb10,Y4⟩:=Z0 hr4
    rcases Cmp.dec .eql (ZC cmpV x1 xv.v) 0 with ⟨Xf,q4⟩ | ⟨Xf,q4⟩
    ·have h5 : (ZC cmpV x1 xv.v) = 0:=q4
     clear q4
     refine dr [] [(34, .bool true),(38, .int .i64 ((j - 1 : Nat) : Int)),(39, .pointer (some p3)),(40,v3),(43, .pointer (some p4)),(45,v4),(46, .int .i64 (ZC cmpV x1 xv.v)),(47, .bool true)] hS4 ⟨fun _=>WL.cmpV .gtr rfl .i64 (j : Int) 0 _ hb7 rfl rfl rfl <| nu rfl rfl,fun _=>Xs j (by omega) (by have hreach : reach = 140737488355328:=rfl; omega) rfl rfl rfl <| nu rfl rfl,fun _=>Ze (j - 1) ep3 X6 Z9 rfl rfl rfl rfl <| nu rfl rfl,fun _ hSw=>Za hSw hc3 Z9 rfl rfl rfl <| nu rfl rfl,fun _=>Ze k1 ep4 Yc Zr rfl rfl rfl rfl <| nu rfl rfl,fun _ hSw=>Za hSw (XV.drop 0 hc4) Z9 rfl rfl rfl <| nu rfl rfl,fun _ hSw=>Z4 hSw ZdM rfl rfl rfl (Zba hSw.imm x1 xv.v _ hs3 _ hs4) rfl,fun _=>WL.cmpV .eql rfl .i64 (ZC cmpV x1 xv.v) 0 _ Xf rfl rfl rfl <| nu rfl rfl,trivial⟩ (fun w5 hS5=>?_)
     refine Zj k1 (by have hreach : reach = 140737488355328:=rfl; omega) rfl rfl rfl ?_
     exact BK.mk' _ ⟨k1 + 1,vk,G2,rfl,(hle1.trans hle2),hS5,⟨rfl,rfl,rfl,trivial⟩,(by omega),(Sl.cast (f2.mono hle2) (by rw [Za3 hxv]; exact (Zlu (k:=j) hiv (by omega) ‹_› ‹_›).symm))⟩ (show l.length - (k1 + 1) < l.length - k1 by omega)
    have h5 : (ZC cmpV x1 xv.v) ≠ 0:=q4
    clear q4
    refine dr [] [(34, .bool true),(38, .int .i64 ((j - 1 : Nat) : Int)),(39, .pointer (some p3)),(40,v3),(43, .pointer (some p4)),(45,v4),(46, .int .i64 (ZC cmpV x1 xv.v)),(47, .bool false)] hS4 ⟨fun _=>WL.cmpV .gtr rfl .i64 (j : Int) 0 _ hb7 rfl rfl rfl <| nu rfl rfl,fun _=>Xs j (by omega) (by have hreach : reach = 140737488355328:=rfl; omega) rfl rfl rfl <| nu rfl rfl,fun _=>Ze (j - 1) ep3 X6 Z9 rfl rfl rfl rfl <| nu rfl rfl,fun _ hSw=>Za hSw hc3 Z9 rfl rfl rfl <| nu rfl rfl,fun _=>Ze k1 ep4 Yc Zr rfl rfl rfl rfl <| nu rfl rfl,fun _ hSw=>Za hSw (XV.drop 0 hc4) Z9 rfl rfl rfl <| nu rfl rfl,fun _ hSw=>Z4 hSw ZdM rfl rfl rfl (Zba hSw.imm x1 xv.v _ hs3 _ hs4) rfl,fun _=>WL.cmpV .eql rfl .i64 (ZC cmpV x1 xv.v) 0 _ Xf rfl rfl rfl <| nu rfl rfl,trivial⟩ (fun w6 hS6=>?_)
    refine WL.buildSlice _ [] [] hS6 Qs rfl rfl rfl rfl (fun z hz=>by match z,hz with | [],_=>rfl) (fun b1 w7 hn1 hS7=>?_)
    refine ZX (f2.mono hle2) j (by omega) X6 Z9 rfl rfl rfl rfl (fun v5 hs5=>?_)
    have hr5:=ZQ.empty (ValE.slice 32) 24 31 G2 b1
    refine ZV Qs rfl rfl rfl hr5 hS7 0 rfl hs5 (by have hreach : reach = 140737488355328:=rfl; simp only [List.length_append,List.length_cons,List.length_nil,List.length_take,List.length_drop]; omega) (by have hreach : reach = 140737488355328:=rfl; simp only [List.length_append,List.length_cons,List.length_nil,List.length_take,List.length_drop]; omega) rfl rfl rfl (fun v6 o1 w9 hr6 hS8=>?_)
    refine WL.indexAddr (hvl.mono (hle1.trans hle2)) k1 (by omega) Yc Zr rfl rfl rfl rfl (fun p5 x5 hx5 he5=>?_)
    obtain rfl : xv = x5:=Option.some.inj (hxv.symm.trans hx5)
    obtain ⟨cs5,hc5,hr7⟩:=he5
    obtain ⟨v7,rfl,hs6,YT,Xm,QI,Zau⟩:=Z0 hr7
    refine Za hS8 (XV.drop 0 hc5) Z9 rfl rfl rfl ?_
    refine WL.buildSlice _ [(0,[v7])] [v7] hS8 Qs rfl rfl rfl (by show [(0,(v7 : Value).cells.toList)] = _; simp only [hs6.cells1] <;> rfl) (fun z hz=>by match z,hz with | [z0],_=>rfl) (fun b2 w10 hn2 hS9=>?_)
    refine WL.push (m:=([xv.v] : List (List Val))) Qs rfl rfl rfl hr6 hS9 1 rfl 0 _ _ _ _ _ rfl ⟨[v7],_,rfl,⟨_,rfl,hs6⟩,rfl⟩ rfl (by have hreach : reach = 140737488355328:=rfl; simp only [List.length_append,List.length_cons,List.length_nil,List.length_take,List.length_drop]; omega) (by have hreach : reach = 140737488355328:=rfl; simp only [List.length_append,List.length_cons,List.length_nil,List.length_take,List.length_drop]; omega) rfl rfl rfl (fun v9 o2 w11 hr8 hS10=>?_)
    have hS11:=hS10.tail
    refine Xn (f2.mono hle2) j (by omega) X6 Z9 rfl rfl rfl rfl (fun v10 hs7=>?_)
    refine ZV Qs rfl rfl rfl hr8 hS11 0 rfl hs7 (by have hreach : reach = 140737488355328:=rfl; simp only [List.length_append,List.length_cons,List.length_nil,List.length_take,List.length_drop]; omega) (by have hreach : reach = 140737488355328:=rfl; simp only [List.length_append,List.length_cons,List.length_nil,List.length_take,List.length_drop]; omega) rfl rfl rfl (fun v11 o3 w12 hr9 hS12=>?_)
    refine Zj k1 (by have hreach : reach = 140737488355328:=rfl; omega) rfl rfl rfl ?_
    obtain ⟨G3,hle3,hs8,hS13⟩:=ZQ.freeze hr9 hS12 0 rfl
    have hS14:=hS13.tail
    exact BK.mk' _ ⟨k1 + 1,v11,G3,rfl,(hle1.trans (hle2.trans hle3)),hS14,⟨rfl,rfl,rfl,trivial⟩,(by omega),(Sl.cast hs8 (by rw [Za3 hxv]; exact ZnV hiv ‹_› (by omega) ‹_› (by omega) ‹_›))⟩ (show l.length - (k1 + 1) < l.length - k1 by omega)
   have h4 : (j : Int) ≤ 0:=q3
   clear q3
   refine dr [] [(34, .bool false)] hS4 ⟨fun _=>WL.cmpV .gtr rfl .i64 (j : Int) 0 _ hb7 rfl rfl rfl <| nu rfl rfl,trivial⟩ (fun w13 hS15=>?_)
   refine WL.buildSlice _ [] [] hS15 Qs rfl rfl rfl rfl (fun z hz=>by match z,hz with | [],_=>rfl) (fun b3 w14 hn3 hS16=>?_)
   refine ZX (f2.mono hle2) j (by omega) X6 Z9 rfl rfl rfl rfl (fun v12 hs9=>?_)
   have hr10:=ZQ.empty (ValE.slice 32) 24 31 G2 b3
   refine ZV Qs rfl rfl rfl hr10 hS16 0 rfl hs9 (by have hreach : reach = 140737488355328:=rfl; simp only [List.length_append,List.length_cons,List.length_nil,List.length_take,List.length_drop]; omega) (by have hreach : reach = 140737488355328:=rfl; simp only [List.length_append,List.length_cons,List.length_nil,List.length_take,List.length_drop]; omega) rfl rfl rfl (fun v13 o4 w15 hr11 hS17=>?_)
   refine WL.indexAddr (hvl.mono (hle1.trans hle2)) k1 (by omega) Yc Zr rfl rfl rfl rfl (fun p6 x6 hx6 he6=>?_)
   obtain rfl : xv = x6:=Option.some.inj (hxv.symm.trans hx6)
   obtain ⟨cs6,hc6,hr12⟩:=he6
   obtain ⟨v14,rfl,hs10,ZaI,Zbo,Zc5,Zdj⟩:=Z0 hr12
   refine Za hS17 (XV.drop 0 hc6) Z9 rfl rfl rfl ?_
   refine WL.buildSlice _ [(0,[v14])] [v14] hS17 Qs rfl rfl rfl (by show [(0,(v14 : Value).cells.toList)] = _; simp only [hs10.cells1] <;> rfl) (fun z hz=>by match z,hz with | [z0],_=>rfl) (fun b4 w16 hn4 hS18=>?_)
   refine WL.push (m:=([xv.v] : List (List Val))) Qs rfl rfl rfl hr11 hS18 1 rfl 0 _ _ _ _ _ rfl ⟨[v14],_,rfl,⟨_,rfl,hs10⟩,rfl⟩ rfl (by have hreach : reach = 140737488355328:=rfl; simp only [List.length_append,List.length_cons,List.length_nil,List.length_take,List.length_drop]; omega) (by have hreach : reach = 140737488355328:=rfl; simp only [List.length_append,List.length_cons,List.length_nil,List.length_take,List.length_drop]; omega) rfl rfl rfl (fun v15 o5 w17 hr13 hS19=>?_)
   have hS20:=hS19.tail
   refine Xn (f2.mono hle2) j (by omega) X6 Z9 rfl rfl rfl rfl (fun v16 hs11=>?_)
   refine ZV Qs rfl rfl rfl hr13 hS20 0 rfl hs11 (by have hreach : reach = 140737488355328:=rfl; simp only [List.length_append,List.length_cons,List.length_nil,List.length_take,List.length_drop]; omega) (by have hreach : reach = 140737488355328:=rfl; simp only [List.length_append,List.length_cons,List.length_nil,List.length_take,List.length_drop]; omega) rfl rfl rfl (fun v17 o6 w18 hr14 hS21=>?_)
   refine Zj k1 (by have hreach : reach = 140737488355328:=rfl; omega) rfl rfl rfl ?_
   obtain ⟨G4,hle4,hs12,hS22⟩:=ZQ.freeze hr14 hS21 0 rfl
   have hS23:=hS22.tail
   exact BK.mk' _ ⟨k1 + 1,v17,G4,rfl,(hle1.trans (hle2.trans hle4)),hS23,⟨rfl,rfl,rfl,trivial⟩,(by omega),(Sl.cast hs12 (by rw [Za3 hxv]; exact ZeR hiv ‹_› (by omega) (by omega)))⟩ (show l.length - (k1 + 1) < l.length - k1 by omega)
  have h2 : (j : Int) ≤ 0:=q1
  clear q1
  refine dr [] [(16, .bool false)] hS2 ⟨fun _=>WL.cmpV .gtr rfl .i64 (j : Int) 0 _ hb1 rfl rfl rfl <| nu rfl rfl,trivial⟩ (fun w19 hS24=>?_)
  rcases Cmp.dec .gtr (j : Int) 0 with ⟨ZdJ,q5⟩ | ⟨ZdJ,q5⟩
  ·have h6 : 0 < (j : Int):=q5
   clear q5
   obtain ⟨p7,x7,hx7,he7,ep5⟩:=Sl.at (f2.mono hle2) (j - 1) (by omega)
   obtain ⟨cs7,hc7,hr15⟩:=he7
   obtain ⟨v18,rfl,hs13⟩:=hr15
   obtain ⟨p8,x9,hx8,he8,ep6⟩:=Sl.at (hvl.mono (hle1.trans hle2)) k1 (by omega)
   obtain rfl : xv = x9:=Option.some.inj (hxv.symm.trans hx8)
   obtain ⟨cs8,hc8,hr16⟩:=he8
   obtain ⟨v19,rfl,hs14,Zj3,ZdK,Zc6,hb25⟩:=Z0 hr16
   rcases Cmp.dec .eql (ZC cmpV x7 xv.v) 0 with ⟨hb26,q6⟩ | ⟨hb26,q6⟩
   ·have h7 : (ZC cmpV x7 xv.v) = 0:=q6
    clear q6
    refine dr [] [(34, .bool true),(38, .int .i64 ((j - 1 : Nat) : Int)),(39, .pointer (some p7)),(40,v18),(43, .pointer (some p8)),(45,v19),(46, .int .i64 (ZC cmpV x7 xv.v)),(47, .bool true)] hS24 ⟨fun _=>WL.cmpV .gtr rfl .i64 (j : Int) 0 _ ZdJ rfl rfl rfl <| nu rfl rfl,fun _=>Xs j (by omega) (by have hreach : reach = 140737488355328:=rfl; omega) rfl rfl rfl <| nu rfl rfl,fun _=>Ze (j - 1) ep5 X6 Z9 rfl rfl rfl rfl <| nu rfl rfl,fun _ hSw=>Za hSw hc7 Z9 rfl rfl rfl <| nu rfl rfl,fun _=>Ze k1 ep6 Yc Zr rfl rfl rfl rfl <| nu rfl rfl,fun _ hSw=>Za hSw (XV.drop 0 hc8) Z9 rfl rfl rfl <| nu rfl rfl,fun _ hSw=>Z4 hSw ZdM rfl rfl rfl (Zba hSw.imm x7 xv.v _ hs13 _ hs14) rfl,fun _=>WL.cmpV .eql rfl .i64 (ZC cmpV x7 xv.v) 0 _ hb26 rfl rfl rfl <| nu rfl rfl,trivial⟩ (fun w20 hS25=>?_)
    refine Zj k1 (by have hreach : reach = 140737488355328:=rfl; omega) rfl rfl rfl ?_
    exact BK.mk' _ ⟨k1 + 1,vk,G2,rfl,(hle1.trans hle2),hS25,⟨rfl,rfl,rfl,trivial⟩,(by omega),(Sl.cast (f2.mono hle2) (by rw [Za3 hxv]; exact (Zlu (k:=j) hiv (by omega) ‹_› ‹_›).symm))⟩ (show l.length - (k1 + 1) < l.length - k1 by omega)
   have h7 : (ZC cmpV x7 xv.v) ≠ 0:=q6
   clear q6
   refine dr [] [(34, .bool true),(38, .int .i64 ((j - 1 : Nat) : Int)),(39, .pointer (some p7)),(40,v18),(43, .pointer (some p8)),(45,v19),(46, .int .i64 (ZC cmpV x7 xv.v)),(47, .bool false)] hS24 ⟨fun _=>WL.cmpV .gtr rfl .i64 (j : Int) 0 _ ZdJ rfl rfl rfl <| nu rfl rfl,fun _=>Xs j (by omega) (by have hreach : reach = 140737488355328:=rfl; omega) rfl rfl rfl <| nu rfl rfl,fun _=>Ze (j - 1) ep5 X6 Z9 rfl rfl rfl rfl <| nu rfl rfl,fun _ hSw=>Za hSw hc7 Z9 rfl rfl rfl <| nu rfl rfl,fun _=>Ze k1 ep6 Yc Zr rfl rfl rfl rfl <| nu rfl rfl,fun _ hSw=>Za hSw (XV.drop 0 hc8) Z9 rfl rfl rfl <| nu rfl rfl,fun _ hSw=>Z4 hSw ZdM rfl rfl rfl (Zba hSw.imm x7 xv.v _ hs13 _ hs14) rfl,fun _=>WL.cmpV .eql rfl .i64 (ZC cmpV x7 xv.v) 0 _ hb26 rfl rfl rfl <| nu rfl rfl,trivial⟩ (fun w21 hS26=>?_)
   refine WL.buildSlice _ [] [] hS26 Qs rfl rfl rfl rfl (fun z hz=>by match z,hz with | [],_=>rfl) (fun b5 w22 hn5 hS27=>?_)
   refine ZX (f2.mono hle2) j (by omega) X6 Z9 rfl rfl rfl rfl (fun v20 hs15=>?_)
   have hr17:=ZQ.empty (ValE.slice 32) 24 31 G2 b5
   refine ZV Qs rfl rfl rfl hr17 hS27 0 rfl hs15 (by have hreach : reach = 140737488355328:=rfl; simp only [List.length_append,List.length_cons,List.length_nil,List.length_take,List.length_drop]; omega) (by have hreach : reach = 140737488355328:=rfl; simp only [List.length_append,List.length_cons,List.length_nil,List.length_take,List.length_drop]; omega) rfl rfl rfl (fun v21 o7 w23 hr18 hS28=>?_)
   refine WL.indexAddr (hvl.mono (hle1.trans hle2)) k1 (by omega) Yc Zr rfl rfl rfl rfl (fun p9 x10 hx9 he9=>?_)
   obtain rfl : xv = x10:=Option.some.inj (hxv.symm.trans hx9)
   obtain ⟨cs9,hc9,hr19⟩:=he9
   obtain ⟨v22,rfl,hs16,Zj4,Zj5,ZsU,hb30⟩:=Z0 hr19
   refine Za hS28 (XV.drop 0 hc9) Z9 rfl rfl rfl ?_
   refine WL.buildSlice _ [(0,[v22])] [v22] hS28 Qs rfl rfl rfl (by show [(0,(v22 : Value).cells.toList)] = _; simp only [hs16.cells1] <;> rfl) (fun z hz=>by match z,hz with | [z0],_=>rfl) (fun b6 w24 hn6 hS29=>?_)
   refine WL.push (m:=([xv.v] : List (List Val))) Qs rfl rfl rfl hr18 hS29 1 rfl 0 _ _ _ _ _ rfl ⟨[v22],_,rfl,⟨_,rfl,hs16⟩,rfl⟩ rfl (by have hreach : reach = 140737488355328:=rfl; simp only [List.length_append,List.length_cons,List.length_nil,List.length_take,List.length_drop]; omega) (by have hreach : reach = 140737488355328:=rfl; simp only [List.length_append,List.length_cons,List.length_nil,List.length_take,List.length_drop]; omega) rfl rfl rfl (fun v23 o8 w25 hr20 hS30=>?_)
   have hS31:=hS30.tail
   refine Xn (f2.mono hle2) j (by omega) X6 Z9 rfl rfl rfl rfl (fun v24 hs17=>?_)
   refine ZV Qs rfl rfl rfl hr20 hS31 0 rfl hs17 (by have hreach : reach = 140737488355328:=rfl; simp only [List.length_append,List.length_cons,List.length_nil,List.length_take,List.length_drop]; omega) (by have hreach : reach = 140737488355328:=rfl; simp only [List.length_append,List.length_cons,List.length_nil,List.length_take,List.length_drop]; omega) rfl rfl rfl (fun v25 o9 w26 hr21 hS32=>?_)
   refine Zj k1 (by have hreach : reach = 140737488355328:=rfl; omega) rfl rfl rfl ?_
   obtain ⟨G5,hle5,hs18,hS33⟩:=ZQ.freeze hr21 hS32 0 rfl
   have hS34:=hS33.tail
   exact BK.mk' _ ⟨k1 + 1,v25,G5,rfl,(hle1.trans (hle2.trans hle5)),hS34,⟨rfl,rfl,rfl,trivial⟩,(by omega),(Sl.cast hs18 (by rw [Za3 hxv]; exact ZeR hiv ‹_› (by omega) (by omega)))⟩ (show l.length - (k1 + 1) < l.length - k1 by omega)
  have h6 : (j : Int) ≤ 0:=q5
  clear q5
  refine dr [] [(34, .bool false)] hS24 ⟨fun _=>WL.cmpV .gtr rfl .i64 (j : Int) 0 _ ZdJ rfl rfl rfl <| nu rfl rfl,trivial⟩ (fun w27 hS35=>?_)
  refine WL.buildSlice _ [] [] hS35 Qs rfl rfl rfl rfl (fun z hz=>by match z,hz with | [],_=>rfl) (fun b7 w28 hn7 hS36=>?_)
  refine ZX (f2.mono hle2) j (by omega) X6 Z9 rfl rfl rfl rfl (fun v26 hs19=>?_)
  have hr22:=ZQ.empty (ValE.slice 32) 24 31 G2 b7
  refine ZV Qs rfl rfl rfl hr22 hS36 0 rfl hs19 (by have hreach : reach = 140737488355328:=rfl; simp only [List.length_append,List.length_cons,List.length_nil,List.length_take,List.length_drop]; omega) (by have hreach : reach = 140737488355328:=rfl; simp only [List.length_append,List.length_cons,List.length_nil,List.length_take,List.length_drop]; omega) rfl rfl rfl (fun v27 o10 w29 hr23 hS37=>?_)
  refine WL.indexAddr (hvl.mono (hle1.trans hle2)) k1 (by omega) Yc Zr rfl rfl rfl rfl (fun p10 x11 hx10 he10=>?_)
  obtain rfl : xv = x11:=Option.some.inj (hxv.symm.trans hx10)
  obtain ⟨cs10,hc10,hr24⟩:=he10
  obtain ⟨v28,rfl,hs20,Zps,ZlX,ZlY,ZlZ⟩:=Z0 hr24
  refine Za hS37 (XV.drop 0 hc10) Z9 rfl rfl rfl ?_
  refine WL.buildSlice _ [(0,[v28])] [v28] hS37 Qs rfl rfl rfl (by show [(0,(v28 : Value).cells.toList)] = _; simp only [hs20.cells1] <;> rfl) (fun z hz=>by match z,hz with | [z0],_=>rfl) (fun b8 w30 hn8 hS38=>?_)
  refine WL.push (m:=([xv.v] : List (List Val))) Qs rfl rfl rfl hr23 hS38 1 rfl 0 _ _ _ _ _ rfl ⟨[v28],_,rfl,⟨_,rfl,hs20⟩,rfl⟩ rfl (by have hreach : reach = 140737488355328:=rfl; simp only [List.length_append,List.length_cons,List.length_nil,List.length_take,List.length_drop]; omega) (by have hreach : reach = 140737488355328:=rfl; simp only [List.length_append,List.length_cons,List.length_nil,List.length_take,List.length_drop]; omega) rfl rfl rfl (fun v29 o11 w31 hr25 hS39=>?_)
  have hS40:=hS39.tail
  refine Xn (f2.mono hle2) j (by omega) X6 Z9 rfl rfl rfl rfl (fun v30 hs21=>?_)
  refine ZV Qs rfl rfl rfl hr25 hS40 0 rfl hs21 (by have hreach : reach = 140737488355328:=rfl; simp only [List.length_append,List.length_cons,List.length_nil,List.length_take,List.length_drop]; omega) (by have hreach : reach = 140737488355328:=rfl; simp only [List.length_append,List.length_cons,List.length_nil,List.length_take,List.length_drop]; omega) rfl rfl rfl (fun v31 o12 w32 hr26 hS41=>?_)
  refine Zj k1 (by have hreach : reach = 140737488355328:=rfl; omega) rfl rfl rfl ?_
  obtain ⟨G6,hle6,hs22,hS42⟩:=ZQ.freeze hr26 hS41 0 rfl
  have hS43:=hS42.tail
  exact BK.mk' _ ⟨k1 + 1,v31,G6,rfl,(hle1.trans (hle2.trans hle6)),hS43,⟨rfl,rfl,rfl,trivial⟩,(by omega),(Sl.cast hs22 (by rw [Za3 hxv]; exact ZeR hiv ‹_› (by omega) (by omega)))⟩ (show l.length - (k1 + 1) < l.length - k1 by omega)
 exact RT hS1 rfl (Sl.cast f2 (by rw [List.take_of_length_le (by omega)]))
theorem Zq2 {G : GH} {w : World} (hG : G.In w) (l : List HRow) (v : List Val) (tx : Int) (vl : Value) (hvl : Sl HRowE 56 G vl l) (vv : Value) (hvv : Sl ValE 32 G vv v) (hl : l.length ≤ 2000) : CL Tryz.prog (nat_lit 148) #[vl,vv, .int .i64 tx] [] w G fun G' _ r=>Sl SpanE 16 G' r (Xt l v tx):=by
 refine Zg ft [] Tryz.func148 rfl rfl ?_
 have hS:=St.start (X:=[]) hG
 have hS2:=hS.pad
 refine LP.go ft [] (fun m ρ1 w1=>∃ (k1 : Nat),∃ (v1 : Value) (o1 : OB),∃ (G1 : GH),m = l.length - k1 ∧ G.le G1 ∧ St w [] G G1 [o1] w1 ∧ ZQ SpanE 16 33 G1 v1 (Qi (l.take k1) v tx) o1 ∧ FR ρ1 [(0,vl),(1,vv),(2, .int .i64 tx),(7,v1),(8, .int .i64 (k1 : Int))] ∧ k1 ≤ l.length) _ ⟨0,(.slice none 0 0),none,G,rfl,(G.le_refl),hS2,(ZQ.cast (ZQ.nil SpanE 16 33 G) (by rfl)),⟨rfl,rfl,rfl,rfl,rfl,trivial⟩,(by omega)⟩ ?_
 rintro m ρ1 w1 ⟨k1,v1,o1,G1,rfl,hle1,hS1,hr1,hF9,f1⟩
 refine hF9.set ?_
 clear hF9
 have hsv:=ZhD l v tx k1
 have bd1:=hvl.bound
 refine Zi (hvl.mono hle1) Yc rfl rfl ?_
 refine Zl (k1 : Int) (l.length : Int) rfl rfl rfl (fun h1=>?_) (fun h1=>?_)
 ·refine WL.indexAddr (hvl.mono hle1) k1 (by omega) Yc Zr rfl rfl rfl rfl (fun p1 x1 hx1 he1=>?_)
  obtain ⟨cs1,hc1,hr2⟩:=he1
  obtain ⟨v2,rfl,hs1,hb1,hb2,hb3,hb4⟩:=Z0 hr2
  refine Za hS1 (XV.drop 0 (XV.drop 2 (XV.drop 1 hc1))) Zn rfl rfl rfl ?_
  refine Qe x1.r.x.a tx rfl rfl rfl (fun h2=>?_) (fun h2=>?_)
  ·refine WL.indexAddr (hvl.mono hle1) k1 (by omega) Yc Zr rfl rfl rfl rfl (fun p2 x2 hx2 he2=>?_)
   obtain rfl : x1 = x2:=Option.some.inj (hx1.symm.trans hx2)
   obtain ⟨cs2,hc2,hr3⟩:=he2
   obtain ⟨v3,rfl,hs2,hb5,hb6,hb7,hb8⟩:=Z0 hr3
   refine Za hS1 (XV.drop 1 (XV.drop 2 (XV.drop 1 hc2))) Zn rfl rfl rfl ?_
   refine Zl tx x1.r.x.b rfl rfl rfl (fun h3=>?_) (fun h3=>?_)
   ·refine WL.indexAddr (hvl.mono hle1) k1 (by omega) Yc Zr rfl rfl rfl rfl (fun p3 x3 hx3 he3=>?_)
    obtain rfl : x1 = x3:=Option.some.inj (hx1.symm.trans hx3)
    obtain ⟨cs3,hc3,hr4⟩:=he3
    obtain ⟨v4,rfl,hs3,hb9,hb10,Y4,Xf⟩:=Z0 hr4
    refine Za hS1 (XV.drop 0 hc3) Z9 rfl rfl rfl ?_
    refine Zm hS1 ZdM rfl rfl rfl (Zba hS1.imm x1.v v _ hs3 _ (hvv.mono hle1)) (fun w2 G2 hS3 hle2=>?_)
    refine Y2 (ZC cmpV x1.v v) 0 rfl rfl rfl (fun h4=>?_) (fun h4=>?_)
    ·refine WL.indexAddr (hvl.mono (hle1.trans hle2)) k1 (by omega) Yc Zr rfl rfl rfl rfl (fun p4 x4 hx4 he4=>?_)
     obtain rfl : x1 = x4:=Option.some.inj (hx1.symm.trans hx4)
     obtain ⟨cs4,hc4,hr5⟩:=he4
     obtain ⟨v5,rfl,hs4,YT,Xm,QI,Zau⟩:=Z0 hr5
     refine Zc hS3 (XV.drop 0 (XV.drop 1 hc4)) [.int .i64 x1.r.d.a, .int .i64 x1.r.d.b] Zs rfl rfl rfl rfl rfl ?_
     refine WL.buildSlice _ [(0,[.int .i64 x1.r.d.a, .int .i64 x1.r.d.b])] [.int .i64 x1.r.d.a, .int .i64 x1.r.d.b] hS3 Ym rfl rfl rfl rfl (fun z hz=>by match z,hz with | [z0,z1],_=>rfl) (fun b1 w3 hn1 hS4=>?_)
     refine WL.push (m:=([x1.r.d] : List Span)) Ym rfl rfl rfl (hr1.mono hle2) hS4 1 rfl 0 _ _ _ _ _ rfl ⟨[.int .i64 x1.r.d.a, .int .i64 x1.r.d.b],_,rfl,(Zt x1.r.d YT Xm),rfl⟩ rfl (by have hreach : reach = 140737488355328:=rfl; simp only [List.length_append,List.length_cons,List.length_nil]; omega) (by have hreach : reach = 140737488355328:=rfl; simp only [List.length_append,List.length_cons,List.length_nil]; omega) rfl rfl rfl (fun v6 o2 w4 hr6 hS5=>?_)
     have hS6:=hS5.tail
     refine Zj k1 (by have hreach : reach = 140737488355328:=rfl; omega) rfl rfl rfl ?_
     exact BK.mk' _ ⟨k1 + 1,v6,o2,G2,rfl,(hle1.trans hle2),hS6,(ZQ.cast hr6 (by (exact (Zm6 ‹_› ‹_› ‹_› ‹_›).symm))),⟨rfl,rfl,rfl,rfl,rfl,trivial⟩,(by omega)⟩ (show l.length - (k1 + 1) < l.length - k1 by omega)
    refine Zj k1 (by have hreach : reach = 140737488355328:=rfl; omega) rfl rfl rfl ?_
    exact BK.mk' _ ⟨k1 + 1,v1,o1,G2,rfl,(hle1.trans hle2),hS3,(ZQ.cast (hr1.mono hle2) (by (exact (ZeS ‹_› (by first | exact .inl ‹_› | exact .inr (.inl ‹_›) | exact .inr (.inr ‹_›))).symm))),⟨rfl,rfl,rfl,rfl,rfl,trivial⟩,(by omega)⟩ (show l.length - (k1 + 1) < l.length - k1 by omega)
   refine Zj k1 (by have hreach : reach = 140737488355328:=rfl; omega) rfl rfl rfl ?_
   exact BK.mk' _ ⟨k1 + 1,v1,o1,G1,rfl,hle1,hS1,(ZQ.cast hr1 (by (exact (ZeS ‹_› (by first | exact .inl ‹_› | exact .inr (.inl ‹_›) | exact .inr (.inr ‹_›))).symm))),⟨rfl,rfl,rfl,rfl,rfl,trivial⟩,(by omega)⟩ (show l.length - (k1 + 1) < l.length - k1 by omega)
  refine Zj k1 (by have hreach : reach = 140737488355328:=rfl; omega) rfl rfl rfl ?_
  exact BK.mk' _ ⟨k1 + 1,v1,o1,G1,rfl,hle1,hS1,(ZQ.cast hr1 (by (exact (ZeS ‹_› (by first | exact .inl ‹_› | exact .inr (.inl ‹_›) | exact .inr (.inr ‹_›))).symm))),⟨rfl,rfl,rfl,rfl,rfl,trivial⟩,(by omega)⟩ (show l.length - (k1 + 1) < l.length - k1 by omega)
 obtain ⟨G3,hle3,hs5,hS7⟩:=ZQ.freeze hr1 hS1 0 rfl
 refine Z3 hS7 Zpz rfl rfl rfl (Zfi hS7.imm 1 (Qi (l.take k1) v tx) [] _ hs5 _ (Sl.nil SpanE 16 G3) (by omega) (by simp)) (fun w5 G4 r1 hpost1 hS8 hle4=>?_)
 exact RT hS8 rfl (Sl.cast hpost1 (by rw [List.take_of_length_le (by omega)]; rfl))
end Go.Civ
