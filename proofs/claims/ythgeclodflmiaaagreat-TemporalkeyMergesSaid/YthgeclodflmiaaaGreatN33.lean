/- Lemmas. -/
import Derived.Test.YthgeclodflmiaaaGreatN32
import Derived.Test.YthgeclodflmiaaaGreatProg
import Derived.KernelRfl
import Derived.WalkKit
set_option linter.unusedVariables false
set_option linter.unusedSimpArgs false
set_option maxRecDepth 100000
set_option maxHeartbeats 4000000
namespace Go.Civ
open Go.Proofs
theorem Zlm {G : GH} {w : World} (hG : G.In w) (l : List HRow) (vl : Value) (hvl : Sl HRowE 56 G vl l) (hl : l.length ≤ 1000000) : CL Tryz.prog (nat_lit 129) #[vl] [] w G fun G' _ r=>Sl (ValE.slice 32) 24 G' r (Y7 l):=by
 refine Zf ft [] Tryz.func129 rfl rfl ?_
 have hS:=St.start (X:=[]) hG
 refine LP.go ft [] (fun m ρ1 w1=>∃ (k1 : Nat),∃ (vk : Value),∃ (G1 : GH),m = l.length - k1 ∧ G.le G1 ∧ St w [] G G1 [] w1 ∧ FR ρ1 [(0,vl),(3,vk),(4, .int .i64 (k1 : Int))] ∧ k1 ≤ l.length ∧ Sl (ValE.slice 32) 24 G1 vk (Y7 (l.take k1))) _ ⟨0, .slice none 0 0,G,rfl,(G.le_refl),hS,⟨rfl,rfl,rfl,trivial⟩,(by omega),(Sl.cast (Sl.nil (ValE.slice 32) 24 G) rfl)⟩ ?_
 rintro m ρ1 w1 ⟨k1,vk,G1,rfl,hle1,hS1,hF9,f1,f2⟩
 refine hF9.set ?_
 clear hF9
 have hvl1:=Zjn l k1
 have hiv:=Q5 (l.take k1)
 have bd1:=hvl.bound
 refine Zj (hvl.mono hle1) Yl rfl rfl ?_
 refine Zo (k1 : Int) (l.length : Int) rfl rfl rfl (fun h1=>?_) (fun h1=>?_)
 ·obtain ⟨xv,hxv⟩:=ZbW (l:=l) (k:=k1) (by omega)
  have bd2:=f2.bound
  refine Zj f2 XO rfl rfl ?_
  refine LP.go ft [] (fun m ρ1 w1=>∃ (j : Nat),∃ (G2 : GH),m = (0 + j) ∧ G1.le G2 ∧ St w [] G G2 [] w1 ∧ FR ρ1 [(0,vl),(3,vk),(4, .int .i64 (k1 : Int)),(5, .int .i64 (j : Int))] ∧ j ≤ (Y7 (l.take k1)).length ∧ UpV (Y7 (l.take k1)) xv.v j) _ ⟨(Y7 (l.take k1)).length,G1,rfl,(G1.le_refl),hS1,⟨rfl,rfl,rfl,rfl,trivial⟩,(by omega),(UpV.start)⟩ ?_
  rintro m ρ1 w2 ⟨j,G2,rfl,hle2,hS2,hF9,f3,f4⟩
  refine hF9.set ?_
  clear hF9
  rcases Cmp.dec .gtr (j : Int) 0 with ⟨hb1,q1⟩ | ⟨hb1,q1⟩
  ·have h2 : 0 < (j : Int):=q1
   clear q1
   obtain ⟨p1,x1,hx1,he1,ep1⟩:=Sl.at (f2.mono hle2) (j - 1) (by omega)
   obtain ⟨cs1,hc1,hr1⟩:=he1
   obtain ⟨v1,rfl,hs1⟩:=hr1
   obtain ⟨p2,x2,hx2,he2,ep2⟩:=Sl.at (hvl.mono (hle1.trans hle2)) k1 (by omega)
   obtain rfl : xv = x2:=Option.some.inj (hxv.symm.trans hx2)
   obtain ⟨cs2,hc2,hr2⟩:=he2
   obtain ⟨v2,rfl,hs2,hb2,hb3,hb4,hb5⟩:=Z8 hr2
   rcases Cmp.dec .gtr (ZI cmpV x1 xv.v) 0 with ⟨hb6,q2⟩ | ⟨hb6,q2⟩
   ·have h3 : 0 < (ZI cmpV x1 xv.v):=q2
    clear q2
    refine dr [] [(16, .bool true),(20, .int .i64 ((j - 1 : Nat) : Int)),(21, .pointer (some p1)),(22,v1),(25, .pointer (some p2)),(27,v2),(28, .int .i64 (ZI cmpV x1 xv.v)),(29, .bool true)] hS2 ⟨fun _=>WL.cmpV .gtr rfl .i64 (j : Int) 0 _ hb1 rfl rfl rfl <| nu rfl rfl,fun _=>X2 j (by omega) (by have hreach : reach = 140737488355328:=rfl; omega) rfl rfl rfl <| nu rfl rfl,fun _=>Zh (j - 1) ep1 XO ZK rfl rfl rfl rfl <| nu rfl rfl,fun _ hSw=>Za hSw hc1 ZK rfl rfl rfl <| nu rfl rfl,fun _=>Zh k1 ep2 Yl Zs rfl rfl rfl rfl <| nu rfl rfl,fun _ hSw=>Za hSw (XZ.drop 0 hc2) ZK rfl rfl rfl <| nu rfl rfl,fun _ hSw=>ZH hSw Zev rfl rfl rfl (Zbp hSw.imm x1 xv.v _ hs1 _ hs2) rfl,fun _=>WL.cmpV .gtr rfl .i64 (ZI cmpV x1 xv.v) 0 _ hb6 rfl rfl rfl <| nu rfl rfl,trivial⟩ (fun w3 hS3=>?_)
    refine X2 j (by omega) (by have hreach : reach = 140737488355328:=rfl; omega) rfl rfl rfl ?_
    exact BK.mk' _ ⟨j - 1,G2,rfl,hle2,hS3,⟨rfl,rfl,rfl,rfl,trivial⟩,(by omega),(by exact UpV.step ‹_› ‹_› ‹_›)⟩ (show (0 + (j - 1)) < (0 + j) by omega)
   have h3 : (ZI cmpV x1 xv.v) ≤ 0:=q2
   clear q2
   refine dr [] [(16, .bool true),(20, .int .i64 ((j - 1 : Nat) : Int)),(21, .pointer (some p1)),(22,v1),(25, .pointer (some p2)),(27,v2),(28, .int .i64 (ZI cmpV x1 xv.v)),(29, .bool false)] hS2 ⟨fun _=>WL.cmpV .gtr rfl .i64 (j : Int) 0 _ hb1 rfl rfl rfl <| nu rfl rfl,fun _=>X2 j (by omega) (by have hreach : reach = 140737488355328:=rfl; omega) rfl rfl rfl <| nu rfl rfl,fun _=>Zh (j - 1) ep1 XO ZK rfl rfl rfl rfl <| nu rfl rfl,fun _ hSw=>Za hSw hc1 ZK rfl rfl rfl <| nu rfl rfl,fun _=>Zh k1 ep2 Yl Zs rfl rfl rfl rfl <| nu rfl rfl,fun _ hSw=>Za hSw (XZ.drop 0 hc2) ZK rfl rfl rfl <| nu rfl rfl,fun _ hSw=>ZH hSw Zev rfl rfl rfl (Zbp hSw.imm x1 xv.v _ hs1 _ hs2) rfl,fun _=>WL.cmpV .gtr rfl .i64 (ZI cmpV x1 xv.v) 0 _ hb6 rfl rfl rfl <| nu rfl rfl,trivial⟩ (fun w4 hS4=>?_)
   rcases Cmp.dec .gtr (j : Int) 0 with ⟨hb7,q3⟩ | ⟨hb7,q3⟩
   ·have h4 : 0 < (j : Int):=q3
    clear q3
    obtain ⟨p3,x3,hx3,he3,ep3⟩:=Sl.at (f2.mono hle2) (j - 1) (by omega)
    obtain rfl : x1 = x3:=Option.some.inj (hx1.symm.trans hx3)
    obtain ⟨cs3,hc3,hr3⟩:=he3
    obtain ⟨v3,rfl,hs3⟩:=hr3
    obtain ⟨p4,x4,hx4,he4,ep4⟩:=Sl.at (hvl.mono (hle1.trans hle2)) k1 (by omega)
    obtain rfl : xv = x4:=Option.some.inj (hxv.symm.trans hx4)
    obtain ⟨cs4,hc4,hr4⟩:=he4
    obtain ⟨v4,rfl,hs4,hb8,hb9,hb10,YV⟩:=Z8 hr4
    rcases Cmp.dec .eql (ZI cmpV x1 xv.v) 0 with ⟨Xu,q4⟩ | ⟨Xu,q4⟩
    ·have h5 : (ZI cmpV x1 xv.v) = 0:=q4
     clear q4
     refine dr [] [(34, .bool true),(38, .int .i64 ((j - 1 : Nat) : Int)),(39, .pointer (some p3)),(40,v3),(43, .pointer (some p4)),(45,v4),(46, .int .i64 (ZI cmpV x1 xv.v)),(47, .bool true)] hS4 ⟨fun _=>WL.cmpV .gtr rfl .i64 (j : Int) 0 _ hb7 rfl rfl rfl <| nu rfl rfl,fun _=>X2 j (by omega) (by have hreach : reach = 140737488355328:=rfl; omega) rfl rfl rfl <| nu rfl rfl,fun _=>Zh (j - 1) ep3 XO ZK rfl rfl rfl rfl <| nu rfl rfl,fun _ hSw=>Za hSw hc3 ZK rfl rfl rfl <| nu rfl rfl,fun _=>Zh k1 ep4 Yl Zs rfl rfl rfl rfl <| nu rfl rfl,fun _ hSw=>Za hSw (XZ.drop 0 hc4) ZK rfl rfl rfl <| nu rfl rfl,fun _ hSw=>ZH hSw Zev rfl rfl rfl (Zbp hSw.imm x1 xv.v _ hs3 _ hs4) rfl,fun _=>WL.cmpV .eql rfl .i64 (ZI cmpV x1 xv.v) 0 _ Xu rfl rfl rfl <| nu rfl rfl,trivial⟩ (fun w5 hS5=>?_)
     refine Zk k1 (by have hreach : reach = 140737488355328:=rfl; omega) rfl rfl rfl ?_
     exact BK.mk' _ ⟨k1 + 1,vk,G2,rfl,(hle1.trans hle2),hS5,⟨rfl,rfl,rfl,trivial⟩,(by omega),(Sl.cast (f2.mono hle2) (by rw [ZaI hxv]; exact (ZlZ (k:=j) hiv (by omega) ‹_› ‹_›).symm))⟩ (show l.length - (k1 + 1) < l.length - k1 by omega)
    have h5 : (ZI cmpV x1 xv.v) ≠ 0:=q4
    clear q4
    refine dr [] [(34, .bool true),(38, .int .i64 ((j - 1 : Nat) : Int)),(39, .pointer (some p3)),(40,v3),(43, .pointer (some p4)),(45,v4),(46, .int .i64 (ZI cmpV x1 xv.v)),(47, .bool false)] hS4 ⟨fun _=>WL.cmpV .gtr rfl .i64 (j : Int) 0 _ hb7 rfl rfl rfl <| nu rfl rfl,fun _=>X2 j (by omega) (by have hreach : reach = 140737488355328:=rfl; omega) rfl rfl rfl <| nu rfl rfl,fun _=>Zh (j - 1) ep3 XO ZK rfl rfl rfl rfl <| nu rfl rfl,fun _ hSw=>Za hSw hc3 ZK rfl rfl rfl <| nu rfl rfl,fun _=>Zh k1 ep4 Yl Zs rfl rfl rfl rfl <| nu rfl rfl,fun _ hSw=>Za hSw (XZ.drop 0 hc4) ZK rfl rfl rfl <| nu rfl rfl,fun _ hSw=>ZH hSw Zev rfl rfl rfl (Zbp hSw.imm x1 xv.v _ hs3 _ hs4) rfl,fun _=>WL.cmpV .eql rfl .i64 (ZI cmpV x1 xv.v) 0 _ Xu rfl rfl rfl <| nu rfl rfl,trivial⟩ (fun w6 hS6=>?_)
    refine WL.buildSlice _ [] [] hS6 Q0 rfl rfl rfl rfl (fun z hz=>by match z,hz with | [],_=>rfl) (fun b1 w7 hn1 hS7=>?_)
    refine Yh (f2.mono hle2) j (by omega) XO ZK rfl rfl rfl rfl (fun v5 hs5=>?_)
    have hr5:=Yf.empty (ValE.slice 32) 24 31 G2 b1
    refine ZU Q0 rfl rfl rfl hr5 hS7 0 rfl hs5 (by have hreach : reach = 140737488355328:=rfl; simp only [List.length_append,List.length_cons,List.length_nil,List.length_take,List.length_drop]; omega) (by have hreach : reach = 140737488355328:=rfl; simp only [List.length_append,List.length_cons,List.length_nil,List.length_take,List.length_drop]; omega) rfl rfl rfl (fun v6 o1 w9 hr6 hS8=>?_)
    refine WL.indexAddr (hvl.mono (hle1.trans hle2)) k1 (by omega) Yl Zs rfl rfl rfl rfl (fun p5 x5 hx5 he5=>?_)
    obtain rfl : xv = x5:=Option.some.inj (hxv.symm.trans hx5)
    obtain ⟨cs5,hc5,hr7⟩:=he5
    obtain ⟨v7,rfl,hs6,XQ,Qm,QH,Qr⟩:=Z8 hr7
    refine Za hS8 (XZ.drop 0 hc5) ZK rfl rfl rfl ?_
    refine WL.buildSlice _ [(0,[v7])] [v7] hS8 Q0 rfl rfl rfl (by show [(0,(v7 : Value).cells.toList)] = _; simp only [hs6.cells1] <;> rfl) (fun z hz=>by match z,hz with | [z0],_=>rfl) (fun b2 w10 hn2 hS9=>?_)
    refine WL.push (m:=([xv.v] : List (List Val))) Q0 rfl rfl rfl hr6 hS9 1 rfl 0 _ _ _ _ _ rfl ⟨[v7],_,rfl,⟨_,rfl,hs6⟩,rfl⟩ rfl (by have hreach : reach = 140737488355328:=rfl; simp only [List.length_append,List.length_cons,List.length_nil,List.length_take,List.length_drop]; omega) (by have hreach : reach = 140737488355328:=rfl; simp only [List.length_append,List.length_cons,List.length_nil,List.length_take,List.length_drop]; omega) rfl rfl rfl (fun v9 o2 w11 hr8 hS10=>?_)
    have hS11:=hS10.tail
    refine Xw (f2.mono hle2) j (by omega) XO ZK rfl rfl rfl rfl (fun v10 hs7=>?_)
    refine ZU Q0 rfl rfl rfl hr8 hS11 0 rfl hs7 (by have hreach : reach = 140737488355328:=rfl; simp only [List.length_append,List.length_cons,List.length_nil,List.length_take,List.length_drop]; omega) (by have hreach : reach = 140737488355328:=rfl; simp only [List.length_append,List.length_cons,List.length_nil,List.length_take,List.length_drop]; omega) rfl rfl rfl (fun v11 o3 w12 hr9 hS12=>?_)
    refine Zk k1 (by have hreach : reach = 140737488355328:=rfl; omega) rfl rfl rfl ?_
    obtain ⟨G3,hle3,hs8,hS13⟩:=Yf.freeze hr9 hS12 0 rfl
    have hS14:=hS13.tail
    exact BK.mk' _ ⟨k1 + 1,v11,G3,rfl,(hle1.trans (hle2.trans hle3)),hS14,⟨rfl,rfl,rfl,trivial⟩,(by omega),(Sl.cast hs8 (by rw [ZaI hxv]; exact Zpd hiv ‹_› (by omega) ‹_› (by omega) ‹_›))⟩ (show l.length - (k1 + 1) < l.length - k1 by omega)
   have h4 : (j : Int) ≤ 0:=q3
   clear q3
   refine dr [] [(34, .bool false)] hS4 ⟨fun _=>WL.cmpV .gtr rfl .i64 (j : Int) 0 _ hb7 rfl rfl rfl <| nu rfl rfl,trivial⟩ (fun w13 hS15=>?_)
   refine WL.buildSlice _ [] [] hS15 Q0 rfl rfl rfl rfl (fun z hz=>by match z,hz with | [],_=>rfl) (fun b3 w14 hn3 hS16=>?_)
   refine Yh (f2.mono hle2) j (by omega) XO ZK rfl rfl rfl rfl (fun v12 hs9=>?_)
   have hr10:=Yf.empty (ValE.slice 32) 24 31 G2 b3
   refine ZU Q0 rfl rfl rfl hr10 hS16 0 rfl hs9 (by have hreach : reach = 140737488355328:=rfl; simp only [List.length_append,List.length_cons,List.length_nil,List.length_take,List.length_drop]; omega) (by have hreach : reach = 140737488355328:=rfl; simp only [List.length_append,List.length_cons,List.length_nil,List.length_take,List.length_drop]; omega) rfl rfl rfl (fun v13 o4 w15 hr11 hS17=>?_)
   refine WL.indexAddr (hvl.mono (hle1.trans hle2)) k1 (by omega) Yl Zs rfl rfl rfl rfl (fun p6 x6 hx6 he6=>?_)
   obtain rfl : xv = x6:=Option.some.inj (hxv.symm.trans hx6)
   obtain ⟨cs6,hc6,hr12⟩:=he6
   obtain ⟨v14,rfl,hs10,ZbO,Zb3,Zcu,Zes⟩:=Z8 hr12
   refine Za hS17 (XZ.drop 0 hc6) ZK rfl rfl rfl ?_
   refine WL.buildSlice _ [(0,[v14])] [v14] hS17 Q0 rfl rfl rfl (by show [(0,(v14 : Value).cells.toList)] = _; simp only [hs10.cells1] <;> rfl) (fun z hz=>by match z,hz with | [z0],_=>rfl) (fun b4 w16 hn4 hS18=>?_)
   refine WL.push (m:=([xv.v] : List (List Val))) Q0 rfl rfl rfl hr11 hS18 1 rfl 0 _ _ _ _ _ rfl ⟨[v14],_,rfl,⟨_,rfl,hs10⟩,rfl⟩ rfl (by have hreach : reach = 140737488355328:=rfl; simp only [List.length_append,List.length_cons,List.length_nil,List.length_take,List.length_drop]; omega) (by have hreach : reach = 140737488355328:=rfl; simp only [List.length_append,List.length_cons,List.length_nil,List.length_take,List.length_drop]; omega) rfl rfl rfl (fun v15 o5 w17 hr13 hS19=>?_)
   have hS20:=hS19.tail
   refine Xw (f2.mono hle2) j (by omega) XO ZK rfl rfl rfl rfl (fun v16 hs11=>?_)
   refine ZU Q0 rfl rfl rfl hr13 hS20 0 rfl hs11 (by have hreach : reach = 140737488355328:=rfl; simp only [List.length_append,List.length_cons,List.length_nil,List.length_take,List.length_drop]; omega) (by have hreach : reach = 140737488355328:=rfl; simp only [List.length_append,List.length_cons,List.length_nil,List.length_take,List.length_drop]; omega) rfl rfl rfl (fun v17 o6 w18 hr14 hS21=>?_)
   refine Zk k1 (by have hreach : reach = 140737488355328:=rfl; omega) rfl rfl rfl ?_
   obtain ⟨G4,hle4,hs12,hS22⟩:=Yf.freeze hr14 hS21 0 rfl
   have hS23:=hS22.tail
   exact BK.mk' _ ⟨k1 + 1,v17,G4,rfl,(hle1.trans (hle2.trans hle4)),hS23,⟨rfl,rfl,rfl,trivial⟩,(by omega),(Sl.cast hs12 (by rw [ZaI hxv]; exact Zfv hiv ‹_› (by omega) (by omega)))⟩ (show l.length - (k1 + 1) < l.length - k1 by omega)
  have h2 : (j : Int) ≤ 0:=q1
  clear q1
  refine dr [] [(16, .bool false)] hS2 ⟨fun _=>WL.cmpV .gtr rfl .i64 (j : Int) 0 _ hb1 rfl rfl rfl <| nu rfl rfl,trivial⟩ (fun w19 hS24=>?_)
  rcases Cmp.dec .gtr (j : Int) 0 with ⟨ZbP,q5⟩ | ⟨ZbP,q5⟩
  ·have h6 : 0 < (j : Int):=q5
   clear q5
   obtain ⟨p7,x7,hx7,he7,ep5⟩:=Sl.at (f2.mono hle2) (j - 1) (by omega)
   obtain ⟨cs7,hc7,hr15⟩:=he7
   obtain ⟨v18,rfl,hs13⟩:=hr15
   obtain ⟨p8,x9,hx8,he8,ep6⟩:=Sl.at (hvl.mono (hle1.trans hle2)) k1 (by omega)
   obtain rfl : xv = x9:=Option.some.inj (hxv.symm.trans hx8)
   obtain ⟨cs8,hc8,hr16⟩:=he8
   obtain ⟨v19,rfl,hs14,Zfg,Zet,ZbQ,ZhP⟩:=Z8 hr16
   rcases Cmp.dec .eql (ZI cmpV x7 xv.v) 0 with ⟨Zeu,q6⟩ | ⟨Zeu,q6⟩
   ·have h7 : (ZI cmpV x7 xv.v) = 0:=q6
    clear q6
    refine dr [] [(34, .bool true),(38, .int .i64 ((j - 1 : Nat) : Int)),(39, .pointer (some p7)),(40,v18),(43, .pointer (some p8)),(45,v19),(46, .int .i64 (ZI cmpV x7 xv.v)),(47, .bool true)] hS24 ⟨fun _=>WL.cmpV .gtr rfl .i64 (j : Int) 0 _ ZbP rfl rfl rfl <| nu rfl rfl,fun _=>X2 j (by omega) (by have hreach : reach = 140737488355328:=rfl; omega) rfl rfl rfl <| nu rfl rfl,fun _=>Zh (j - 1) ep5 XO ZK rfl rfl rfl rfl <| nu rfl rfl,fun _ hSw=>Za hSw hc7 ZK rfl rfl rfl <| nu rfl rfl,fun _=>Zh k1 ep6 Yl Zs rfl rfl rfl rfl <| nu rfl rfl,fun _ hSw=>Za hSw (XZ.drop 0 hc8) ZK rfl rfl rfl <| nu rfl rfl,fun _ hSw=>ZH hSw Zev rfl rfl rfl (Zbp hSw.imm x7 xv.v _ hs13 _ hs14) rfl,fun _=>WL.cmpV .eql rfl .i64 (ZI cmpV x7 xv.v) 0 _ Zeu rfl rfl rfl <| nu rfl rfl,trivial⟩ (fun w20 hS25=>?_)
    refine Zk k1 (by have hreach : reach = 140737488355328:=rfl; omega) rfl rfl rfl ?_
    exact BK.mk' _ ⟨k1 + 1,vk,G2,rfl,(hle1.trans hle2),hS25,⟨rfl,rfl,rfl,trivial⟩,(by omega),(Sl.cast (f2.mono hle2) (by rw [ZaI hxv]; exact (ZlZ (k:=j) hiv (by omega) ‹_› ‹_›).symm))⟩ (show l.length - (k1 + 1) < l.length - k1 by omega)
   have h7 : (ZI cmpV x7 xv.v) ≠ 0:=q6
   clear q6
   refine dr [] [(34, .bool true),(38, .int .i64 ((j - 1 : Nat) : Int)),(39, .pointer (some p7)),(40,v18),(43, .pointer (some p8)),(45,v19),(46, .int .i64 (ZI cmpV x7 xv.v)),(47, .bool false)] hS24 ⟨fun _=>WL.cmpV .gtr rfl .i64 (j : Int) 0 _ ZbP rfl rfl rfl <| nu rfl rfl,fun _=>X2 j (by omega) (by have hreach : reach = 140737488355328:=rfl; omega) rfl rfl rfl <| nu rfl rfl,fun _=>Zh (j - 1) ep5 XO ZK rfl rfl rfl rfl <| nu rfl rfl,fun _ hSw=>Za hSw hc7 ZK rfl rfl rfl <| nu rfl rfl,fun _=>Zh k1 ep6 Yl Zs rfl rfl rfl rfl <| nu rfl rfl,fun _ hSw=>Za hSw (XZ.drop 0 hc8) ZK rfl rfl rfl <| nu rfl rfl,fun _ hSw=>ZH hSw Zev rfl rfl rfl (Zbp hSw.imm x7 xv.v _ hs13 _ hs14) rfl,fun _=>WL.cmpV .eql rfl .i64 (ZI cmpV x7 xv.v) 0 _ Zeu rfl rfl rfl <| nu rfl rfl,trivial⟩ (fun w21 hS26=>?_)
   refine WL.buildSlice _ [] [] hS26 Q0 rfl rfl rfl rfl (fun z hz=>by match z,hz with | [],_=>rfl) (fun b5 w22 hn5 hS27=>?_)
   refine Yh (f2.mono hle2) j (by omega) XO ZK rfl rfl rfl rfl (fun v20 hs15=>?_)
   have hr17:=Yf.empty (ValE.slice 32) 24 31 G2 b5
   refine ZU Q0 rfl rfl rfl hr17 hS27 0 rfl hs15 (by have hreach : reach = 140737488355328:=rfl; simp only [List.length_append,List.length_cons,List.length_nil,List.length_take,List.length_drop]; omega) (by have hreach : reach = 140737488355328:=rfl; simp only [List.length_append,List.length_cons,List.length_nil,List.length_take,List.length_drop]; omega) rfl rfl rfl (fun v21 o7 w23 hr18 hS28=>?_)
   refine WL.indexAddr (hvl.mono (hle1.trans hle2)) k1 (by omega) Yl Zs rfl rfl rfl rfl (fun p9 x10 hx9 he9=>?_)
   obtain rfl : xv = x10:=Option.some.inj (hxv.symm.trans hx9)
   obtain ⟨cs9,hc9,hr19⟩:=he9
   obtain ⟨v22,rfl,hs16,Zkj,Zqo,Zqp,Zfh⟩:=Z8 hr19
   refine Za hS28 (XZ.drop 0 hc9) ZK rfl rfl rfl ?_
   refine WL.buildSlice _ [(0,[v22])] [v22] hS28 Q0 rfl rfl rfl (by show [(0,(v22 : Value).cells.toList)] = _; simp only [hs16.cells1] <;> rfl) (fun z hz=>by match z,hz with | [z0],_=>rfl) (fun b6 w24 hn6 hS29=>?_)
   refine WL.push (m:=([xv.v] : List (List Val))) Q0 rfl rfl rfl hr18 hS29 1 rfl 0 _ _ _ _ _ rfl ⟨[v22],_,rfl,⟨_,rfl,hs16⟩,rfl⟩ rfl (by have hreach : reach = 140737488355328:=rfl; simp only [List.length_append,List.length_cons,List.length_nil,List.length_take,List.length_drop]; omega) (by have hreach : reach = 140737488355328:=rfl; simp only [List.length_append,List.length_cons,List.length_nil,List.length_take,List.length_drop]; omega) rfl rfl rfl (fun v23 o8 w25 hr20 hS30=>?_)
   have hS31:=hS30.tail
   refine Xw (f2.mono hle2) j (by omega) XO ZK rfl rfl rfl rfl (fun v24 hs17=>?_)
   refine ZU Q0 rfl rfl rfl hr20 hS31 0 rfl hs17 (by have hreach : reach = 140737488355328:=rfl; simp only [List.length_append,List.length_cons,List.length_nil,List.length_take,List.length_drop]; omega) (by have hreach : reach = 140737488355328:=rfl; simp only [List.length_append,List.length_cons,List.length_nil,List.length_take,List.length_drop]; omega) rfl rfl rfl (fun v25 o9 w26 hr21 hS32=>?_)
   refine Zk k1 (by have hreach : reach = 140737488355328:=rfl; omega) rfl rfl rfl ?_
   obtain ⟨G5,hle5,hs18,hS33⟩:=Yf.freeze hr21 hS32 0 rfl
   have hS34:=hS33.tail
   exact BK.mk' _ ⟨k1 + 1,v25,G5,rfl,(hle1.trans (hle2.trans hle5)),hS34,⟨rfl,rfl,rfl,trivial⟩,(by omega),(Sl.cast hs18 (by rw [ZaI hxv]; exact Zfv hiv ‹_› (by omega) (by omega)))⟩ (show l.length - (k1 + 1) < l.length - k1 by omega)
  have h6 : (j : Int) ≤ 0:=q5
  clear q5
  refine dr [] [(34, .bool false)] hS24 ⟨fun _=>WL.cmpV .gtr rfl .i64 (j : Int) 0 _ ZbP rfl rfl rfl <| nu rfl rfl,trivial⟩ (fun w27 hS35=>?_)
  refine WL.buildSlice _ [] [] hS35 Q0 rfl rfl rfl rfl (fun z hz=>by match z,hz with | [],_=>rfl) (fun b7 w28 hn7 hS36=>?_)
  refine Yh (f2.mono hle2) j (by omega) XO ZK rfl rfl rfl rfl (fun v26 hs19=>?_)
  have hr22:=Yf.empty (ValE.slice 32) 24 31 G2 b7
  refine ZU Q0 rfl rfl rfl hr22 hS36 0 rfl hs19 (by have hreach : reach = 140737488355328:=rfl; simp only [List.length_append,List.length_cons,List.length_nil,List.length_take,List.length_drop]; omega) (by have hreach : reach = 140737488355328:=rfl; simp only [List.length_append,List.length_cons,List.length_nil,List.length_take,List.length_drop]; omega) rfl rfl rfl (fun v27 o10 w29 hr23 hS37=>?_)
  refine WL.indexAddr (hvl.mono (hle1.trans hle2)) k1 (by omega) Yl Zs rfl rfl rfl rfl (fun p10 x11 hx10 he10=>?_)
  obtain rfl : xv = x11:=Option.some.inj (hxv.symm.trans hx10)
  obtain ⟨cs10,hc10,hr24⟩:=he10
  obtain ⟨v28,rfl,hs20,ZhQ,Zqq,Zqr,Zqs⟩:=Z8 hr24
  refine Za hS37 (XZ.drop 0 hc10) ZK rfl rfl rfl ?_
  refine WL.buildSlice _ [(0,[v28])] [v28] hS37 Q0 rfl rfl rfl (by show [(0,(v28 : Value).cells.toList)] = _; simp only [hs20.cells1] <;> rfl) (fun z hz=>by match z,hz with | [z0],_=>rfl) (fun b8 w30 hn8 hS38=>?_)
  refine WL.push (m:=([xv.v] : List (List Val))) Q0 rfl rfl rfl hr23 hS38 1 rfl 0 _ _ _ _ _ rfl ⟨[v28],_,rfl,⟨_,rfl,hs20⟩,rfl⟩ rfl (by have hreach : reach = 140737488355328:=rfl; simp only [List.length_append,List.length_cons,List.length_nil,List.length_take,List.length_drop]; omega) (by have hreach : reach = 140737488355328:=rfl; simp only [List.length_append,List.length_cons,List.length_nil,List.length_take,List.length_drop]; omega) rfl rfl rfl (fun v29 o11 w31 hr25 hS39=>?_)
  have hS40:=hS39.tail
  refine Xw (f2.mono hle2) j (by omega) XO ZK rfl rfl rfl rfl (fun v30 hs21=>?_)
  refine ZU Q0 rfl rfl rfl hr25 hS40 0 rfl hs21 (by have hreach : reach = 140737488355328:=rfl; simp only [List.length_append,List.length_cons,List.length_nil,List.length_take,List.length_drop]; omega) (by have hreach : reach = 140737488355328:=rfl; simp only [List.length_append,List.length_cons,List.length_nil,List.length_take,List.length_drop]; omega) rfl rfl rfl (fun v31 o12 w32 hr26 hS41=>?_)
  refine Zk k1 (by have hreach : reach = 140737488355328:=rfl; omega) rfl rfl rfl ?_
  obtain ⟨G6,hle6,hs22,hS42⟩:=Yf.freeze hr26 hS41 0 rfl
  have hS43:=hS42.tail
  exact BK.mk' _ ⟨k1 + 1,v31,G6,rfl,(hle1.trans (hle2.trans hle6)),hS43,⟨rfl,rfl,rfl,trivial⟩,(by omega),(Sl.cast hs22 (by rw [ZaI hxv]; exact Zfv hiv ‹_› (by omega) (by omega)))⟩ (show l.length - (k1 + 1) < l.length - k1 by omega)
 exact RT hS1 rfl (Sl.cast f2 (by rw [List.take_of_length_le (by omega)]))
theorem ZrA {G : GH} {w : World} (hG : G.In w) (l : List HRow) (v : List Val) (tx : Int) (vl : Value) (hvl : Sl HRowE 56 G vl l) (vv : Value) (hvv : Sl ValE 32 G vv v) (hl : l.length ≤ 2000) : CL Tryz.prog (nat_lit 148) #[vl,vv, .int .i64 tx] [] w G fun G' _ r=>Sl SpanE 16 G' r (YO l v tx):=by
 refine Zf ft [] Tryz.func148 rfl rfl ?_
 have hS:=St.start (X:=[]) hG
 have hS2:=hS.pad
 refine LP.go ft [] (fun m ρ1 w1=>∃ (k1 : Nat),∃ (v1 : Value) (o1 : OB),∃ (G1 : GH),m = l.length - k1 ∧ G.le G1 ∧ St w [] G G1 [o1] w1 ∧ Yf SpanE 16 33 G1 v1 (Qs (l.take k1) v tx) o1 ∧ FR ρ1 [(0,vl),(1,vv),(2, .int .i64 tx),(7,v1),(8, .int .i64 (k1 : Int))] ∧ k1 ≤ l.length) _ ⟨0,(.slice none 0 0),none,G,rfl,(G.le_refl),hS2,(Yf.cast (Yf.nil SpanE 16 33 G) (by rfl)),⟨rfl,rfl,rfl,rfl,rfl,trivial⟩,(by omega)⟩ ?_
 rintro m ρ1 w1 ⟨k1,v1,o1,G1,rfl,hle1,hS1,hr1,hF9,f1⟩
 refine hF9.set ?_
 clear hF9
 have hsv:=Zie l v tx k1
 have bd1:=hvl.bound
 refine Zj (hvl.mono hle1) Yl rfl rfl ?_
 refine Zo (k1 : Int) (l.length : Int) rfl rfl rfl (fun h1=>?_) (fun h1=>?_)
 ·refine WL.indexAddr (hvl.mono hle1) k1 (by omega) Yl Zs rfl rfl rfl rfl (fun p1 x1 hx1 he1=>?_)
  obtain ⟨cs1,hc1,hr2⟩:=he1
  obtain ⟨v2,rfl,hs1,hb1,hb2,hb3,hb4⟩:=Z8 hr2
  refine Za hS1 (XZ.drop 0 (XZ.drop 2 (XZ.drop 1 hc1))) Zl rfl rfl rfl ?_
  refine Qa x1.r.x.a tx rfl rfl rfl (fun h2=>?_) (fun h2=>?_)
  ·refine WL.indexAddr (hvl.mono hle1) k1 (by omega) Yl Zs rfl rfl rfl rfl (fun p2 x2 hx2 he2=>?_)
   obtain rfl : x1 = x2:=Option.some.inj (hx1.symm.trans hx2)
   obtain ⟨cs2,hc2,hr3⟩:=he2
   obtain ⟨v3,rfl,hs2,hb5,hb6,hb7,hb8⟩:=Z8 hr3
   refine Za hS1 (XZ.drop 1 (XZ.drop 2 (XZ.drop 1 hc2))) Zl rfl rfl rfl ?_
   refine Zo tx x1.r.x.b rfl rfl rfl (fun h3=>?_) (fun h3=>?_)
   ·refine WL.indexAddr (hvl.mono hle1) k1 (by omega) Yl Zs rfl rfl rfl rfl (fun p3 x3 hx3 he3=>?_)
    obtain rfl : x1 = x3:=Option.some.inj (hx1.symm.trans hx3)
    obtain ⟨cs3,hc3,hr4⟩:=he3
    obtain ⟨v4,rfl,hs3,hb9,hb10,YV,Xu⟩:=Z8 hr4
    refine Za hS1 (XZ.drop 0 hc3) ZK rfl rfl rfl ?_
    refine Zn hS1 Zev rfl rfl rfl (Zbp hS1.imm x1.v v _ hs3 _ (hvv.mono hle1)) (fun w2 G2 hS3 hle2=>?_)
    refine Zx (ZI cmpV x1.v v) 0 rfl rfl rfl (fun h4=>?_) (fun h4=>?_)
    ·refine WL.indexAddr (hvl.mono (hle1.trans hle2)) k1 (by omega) Yl Zs rfl rfl rfl rfl (fun p4 x4 hx4 he4=>?_)
     obtain rfl : x1 = x4:=Option.some.inj (hx1.symm.trans hx4)
     obtain ⟨cs4,hc4,hr5⟩:=he4
     obtain ⟨v5,rfl,hs4,XQ,Qm,QH,Qr⟩:=Z8 hr5
     refine Zd hS3 (XZ.drop 0 (XZ.drop 1 hc4)) [.int .i64 x1.r.d.a, .int .i64 x1.r.d.b] Zm rfl rfl rfl rfl rfl ?_
     refine WL.buildSlice _ [(0,[.int .i64 x1.r.d.a, .int .i64 x1.r.d.b])] [.int .i64 x1.r.d.a, .int .i64 x1.r.d.b] hS3 Y8 rfl rfl rfl rfl (fun z hz=>by match z,hz with | [z0,z1],_=>rfl) (fun b1 w3 hn1 hS4=>?_)
     refine WL.push (m:=([x1.r.d] : List Span)) Y8 rfl rfl rfl (hr1.mono hle2) hS4 1 rfl 0 _ _ _ _ _ rfl ⟨[.int .i64 x1.r.d.a, .int .i64 x1.r.d.b],_,rfl,(Zq x1.r.d XQ Qm),rfl⟩ rfl (by have hreach : reach = 140737488355328:=rfl; simp only [List.length_append,List.length_cons,List.length_nil]; omega) (by have hreach : reach = 140737488355328:=rfl; simp only [List.length_append,List.length_cons,List.length_nil]; omega) rfl rfl rfl (fun v6 o2 w4 hr6 hS5=>?_)
     have hS6:=hS5.tail
     refine Zk k1 (by have hreach : reach = 140737488355328:=rfl; omega) rfl rfl rfl ?_
     exact BK.mk' _ ⟨k1 + 1,v6,o2,G2,rfl,(hle1.trans hle2),hS6,(Yf.cast hr6 (by (exact (Znu ‹_› ‹_› ‹_› ‹_›).symm))),⟨rfl,rfl,rfl,rfl,rfl,trivial⟩,(by omega)⟩ (show l.length - (k1 + 1) < l.length - k1 by omega)
    refine Zk k1 (by have hreach : reach = 140737488355328:=rfl; omega) rfl rfl rfl ?_
    exact BK.mk' _ ⟨k1 + 1,v1,o1,G2,rfl,(hle1.trans hle2),hS3,(Yf.cast (hr1.mono hle2) (by (exact (Zfw ‹_› (by first | exact .inl ‹_› | exact .inr (.inl ‹_›) | exact .inr (.inr ‹_›))).symm))),⟨rfl,rfl,rfl,rfl,rfl,trivial⟩,(by omega)⟩ (show l.length - (k1 + 1) < l.length - k1 by omega)
   refine Zk k1 (by have hreach : reach = 140737488355328:=rfl; omega) rfl rfl rfl ?_
   exact BK.mk' _ ⟨k1 + 1,v1,o1,G1,rfl,hle1,hS1,(Yf.cast hr1 (by (exact (Zfw ‹_› (by first | exact .inl ‹_› | exact .inr (.inl ‹_›) | exact .inr (.inr ‹_›))).symm))),⟨rfl,rfl,rfl,rfl,rfl,trivial⟩,(by omega)⟩ (show l.length - (k1 + 1) < l.length - k1 by omega)
  refine Zk k1 (by have hreach : reach = 140737488355328:=rfl; omega) rfl rfl rfl ?_
  exact BK.mk' _ ⟨k1 + 1,v1,o1,G1,rfl,hle1,hS1,(Yf.cast hr1 (by (exact (Zfw ‹_› (by first | exact .inl ‹_› | exact .inr (.inl ‹_›) | exact .inr (.inr ‹_›))).symm))),⟨rfl,rfl,rfl,rfl,rfl,trivial⟩,(by omega)⟩ (show l.length - (k1 + 1) < l.length - k1 by omega)
 obtain ⟨G3,hle3,hs5,hS7⟩:=Yf.freeze hr1 hS1 0 rfl
 refine Z6 hS7 Zw6 rfl rfl rfl (ZpG hS7.imm 1 (Qs (l.take k1) v tx) [] _ hs5 _ (Sl.nil SpanE 16 G3) (by omega) (by simp)) (fun w5 G4 r1 hpost1 hS8 hle4=>?_)
 exact RT hS8 rfl (Sl.cast hpost1 (by rw [List.take_of_length_le (by omega)]; rfl))
theorem ZdC {G : GH} {w : World} (hG : G.In w) (l : List HRow) (vl : Value) (hvl : Sl HRowE 56 G vl l) (hl : l.length ≤ 2000) : CL Tryz.prog (nat_lit 136) #[vl] [] w G fun G' _ r=>Sl HRowE 56 G' r (Zaf l):=by
 refine Zf ft [] Tryz.func136 rfl rfl ?_
 have hS:=St.start (X:=[]) hG
 refine Z6 hS ZrU rfl rfl rfl (Zlm hS.imm l _ hvl (by omega)) (fun w1 G1 r1 hpost1 hS1 hle1=>?_)
 have hS3:=hS1.pad
 refine LP.go ft [] (fun m ρ1 w1=>∃ (k1 : Nat),∃ (v1 : Value) (o1 : OB),∃ (G2 : GH),m = l.length - k1 ∧ G1.le G2 ∧ St w [] G G2 [o1] w1 ∧ Yf SpanE 16 33 G2 v1 ((l.take k1).map (fun (r : HRow)=>r.r.x)) o1 ∧ FR ρ1 [(0,vl),(3,r1),(4,v1),(5, .int .i64 (k1 : Int))] ∧ k1 ≤ l.length) _ ⟨0,(.slice none 0 0),none,G1,rfl,(G1.le_refl),hS3,(Yf.cast (Yf.nil SpanE 16 33 G1) (by rfl)),⟨rfl,rfl,rfl,rfl,trivial⟩,(by omega)⟩ ?_
 rintro m ρ1 w2 ⟨k1,v1,o1,G2,rfl,hle2,hS2,hr1,hF9,f1⟩
 refine hF9.set ?_
 clear hF9
 have hlt:=List.length_take_le' k1 l
 have bd1:=hvl.bound
 refine Zj (hvl.mono (hle1.trans hle2)) Yl rfl rfl ?_
 refine Zo (k1 : Int) (l.length : Int) rfl rfl rfl (fun h1=>?_) (fun h1=>?_)
 ·refine WL.indexAddr (hvl.mono (hle1.trans hle2)) k1 (by omega) Yl Zs rfl rfl rfl rfl (fun p1 x1 hx1 he1=>?_)
  obtain ⟨cs1,hc1,hr2⟩:=he1
  obtain ⟨v2,rfl,hs1,hb1,hb2,hb3,hb4⟩:=Z8 hr2
  refine Zd hS2 (XZ.drop 2 (XZ.drop 1 hc1)) [.int .i64 x1.r.x.a, .int .i64 x1.r.x.b] Zm rfl rfl rfl rfl rfl ?_
  refine WL.buildSlice _ [(0,[.int .i64 x1.r.x.a, .int .i64 x1.r.x.b])] [.int .i64 x1.r.x.a, .int .i64 x1.r.x.b] hS2 Y8 rfl rfl rfl rfl (fun z hz=>by match z,hz with | [z0,z1],_=>rfl) (fun b1 w3 hn1 hS4=>?_)
  refine WL.push (m:=([x1.r.x] : List Span)) Y8 rfl rfl rfl hr1 hS4 1 rfl 0 _ _ _ _ _ rfl ⟨[.int .i64 x1.r.x.a, .int .i64 x1.r.x.b],_,rfl,(Zq x1.r.x hb3 hb4),rfl⟩ rfl (by have hreach : reach = 140737488355328:=rfl; simp only [List.length_append,List.length_map,List.length_cons,List.length_nil]; omega) (by have hreach : reach = 140737488355328:=rfl; simp only [List.length_append,List.length_map,List.length_cons,List.length_nil]; omega) rfl rfl rfl (fun v3 o2 w4 hr3 hS5=>?_)
  have hS6:=hS5.tail
  refine Zk k1 (by have hreach : reach = 140737488355328:=rfl; omega) rfl rfl rfl ?_
  exact BK.mk' _ ⟨k1 + 1,v3,o2,G2,rfl,hle2,hS6,(Yf.cast hr3 (by (rw [Q9 ‹_›]))),⟨rfl,rfl,rfl,rfl,trivial⟩,(by omega)⟩ (show l.length - (k1 + 1) < l.length - k1 by omega)
 obtain ⟨G3,hle3,hs2,hS7⟩:=Yf.freeze hr1 hS2 0 rfl
 refine Z6 hS7 ZrV rfl rfl rfl (Zjf hS7.imm ((l.take k1).map (fun (r : HRow)=>r.r.x)) _ hs2 (by rw [List.length_map]; omega)) (fun w5 G4 r2 hpost2 hS8 hle4=>?_)
 have hcs:=Sl.cast (l':=ZL l) hpost2 (Zpe l (by omega))
 have hcl:=Zdo l
 have hvl0:=Zdl l
 have hci:=fun c h=>Zl8 hvl c h
 have hS10:=hS8.pad
 refine LP.go ft [] (fun m ρ1 w1=>∃ (k2 : Nat),∃ (v4 : Value) (o3 : OB),∃ (G5 : GH),m = (Y7 l).length - k2 ∧ G4.le G5 ∧ St w [] G G5 [o3,none] w1 ∧ Yf HRowE 56 37 G5 v4 (Zbb l ((Y7 l).take k2)) o3 ∧ FR ρ1 [(0,vl),(3,r1),(6,r2),(7,v4),(8, .int .i64 (k2 : Int))] ∧ k2 ≤ (Y7 l).length) _ ⟨0,(.slice none 0 0),none,G4,rfl,(G4.le_refl),hS10,(Yf.cast (Yf.nil HRowE 56 37 G4) (by rfl)),⟨rfl,rfl,rfl,rfl,rfl,trivial⟩,(by omega)⟩ ?_
 rintro m ρ1 w6 ⟨k2,v4,o3,G5,rfl,hle5,hS9,hr4,hF9,f2⟩
 refine hF9.set ?_
 clear hF9
 have hrp:=Zif hl k2
 have bd2:=hpost1.bound
 refine Zj (hpost1.mono (((hle2.trans hle3).trans hle4).trans hle5)) XO rfl rfl ?_
 refine Zo (k2 : Int) (((Y7 l).length : Nat) : Int) rfl rfl rfl (fun h2=>?_) (fun h2=>?_)
 ·obtain ⟨xv,hxv⟩:=ZbW (l:=Y7 l) (k:=k2) (by omega)
  refine LP.go ft [] (fun m ρ1 w1=>∃ (k3 : Nat),∃ (lv : Value),∃ (nw : List Span),∃ (fr : Int),∃ (v5 : Value) (o4 : OB),∃ (G6 : GH),m = (ZL l).length - k3 ∧ G5.le G6 ∧ St w [] G G6 [o4,none] w1 ∧ Yf HRowE 56 37 G6 v5 (Zbb l ((Y7 l).take k2) ++ (Y9 xv (YO l xv) ((ZL l).take k3)).out) o4 ∧ FR ρ1 [(0,vl),(3,r1),(6,r2),(7,v5),(8, .int .i64 (k2 : Int)),(9,lv),(10, .int .i64 fr),(11, .int .i64 (k3 : Int))] ∧ k3 ≤ (ZL l).length ∧ Sl SpanE 16 G6 lv nw ∧ nw = (Y9 xv (YO l xv) ((ZL l).take k3)).now ∧ fr = (Y9 xv (YO l xv) ((ZL l).take k3)).fr ∧ Zv fr) _ ⟨0, .slice none 0 0,[],0,v4,o3,G5,rfl,(G5.le_refl),hS9,(Yf.cast hr4 (by simp [Y9])),⟨rfl,rfl,rfl,rfl,rfl,rfl,rfl,rfl,trivial⟩,(by omega),(Sl.nil SpanE 16 G5),(by simp [Y9]),(by simp [Y9]),(Y5)⟩ ?_
  rintro m ρ1 w7 ⟨k3,lv,nw,fr,v5,o4,G6,rfl,hle6,hS11,hr5,hF9,f3,f4,f5,f6,f7⟩
  refine hF9.set ?_
  clear hF9
  have hnw:=(by assumption : nw = (Y9 xv (YO l xv) ((ZL l).take k3)).now)
  have hfr:=(by assumption : fr = (Y9 xv (YO l xv) ((ZL l).take k3)).fr)
  have hnb:=Zh7 hl xv k3
  have hnl : nw.length ≤ 4000:=by rw [hnw]; exact hnb.2
  have bd3:=hcs.bound
  refine Zj (hcs.mono (hle5.trans hle6)) ZN rfl rfl ?_
  refine Zo (k3 : Int) (((ZL l).length : Nat) : Int) rfl rfl rfl (fun h3=>?_) (fun h3=>?_)
  ·obtain ⟨cv,hcv⟩:=ZbW (l:=ZL l) (k:=k3) (by omega)
   have hc64:=hci cv (List.mem_of_getElem? hcv)
   obtain ⟨p2,x2,hx2,he2,ep1⟩:=Sl.at (hpost1.mono ((((hle2.trans hle3).trans hle4).trans hle5).trans hle6)) k2 (by omega)
   obtain rfl : xv = x2:=Option.some.inj (hxv.symm.trans hx2)
   obtain ⟨cs2,hc2,hr6⟩:=he2
   obtain ⟨v6,rfl,hs3⟩:=hr6
   obtain ⟨p3,x3,hx3,he3,ep2⟩:=Sl.at (hcs.mono (hle5.trans hle6)) k3 (by omega)
   obtain rfl : cv = x3:=Option.some.inj (hcv.symm.trans hx3)
   obtain ⟨cs3,hc3,hr7⟩:=he3
   obtain ⟨rfl,hb5⟩:=hr7
   refine dr [(9,false),(10,false)] [(48, .pointer (some p2)),(49,v6),(52, .pointer (some p3)),(53, .int .i64 cv)] hS11 ⟨fun _=>Zh k2 ep1 XO ZK rfl rfl rfl rfl <| nu rfl rfl,fun _ hSw=>Za hSw hc2 ZK rfl rfl rfl <| nu rfl rfl,fun _=>Zh k3 ep2 ZN Zl rfl rfl rfl rfl <| nu rfl rfl,fun _ hSw=>Za hSw hc3 Zl rfl rfl rfl <| nu rfl rfl,trivial⟩ (fun w9 hS12=>?_)
   refine Z6 hS12 Zvv rfl rfl rfl (ZrA hS12.imm l xv cv _ (hvl.mono (((((hle1.trans hle2).trans hle3).trans hle4).trans hle5).trans hle6)) _ hs3 hl) (fun w10 G7 r3 hpost3 hS13 hle7=>?_)
   refine Zn hS13 Zv7 rfl rfl rfl (ZpH hS13.imm nw (YO l xv cv) _ (f4.mono hle7) _ hpost3) (fun w11 G9 hS14 hle9=>?_)
   refine WL.split (fun (h4 : (decide (nw = (YO l xv cv))) = true)=>?_) (fun (h4 : (decide (nw = (YO l xv cv))) = false)=>?_)
   ·refine Zk k3 (by have hreach : reach = 140737488355328:=rfl; omega) rfl rfl rfl ?_
    exact BK.mk' _ ⟨k3 + 1,lv,nw,fr,v5,o4,G9,rfl,(hle6.trans (hle7.trans hle9)),hS14,(Yf.cast (hr5.mono (hle7.trans hle9)) (by (exact congrArg _ (congrArg NS.out (ZbU hcv (by rw [← hnw]; exact of_decide_eq_true ‹_›))).symm))),⟨rfl,rfl,rfl,rfl,rfl,rfl,rfl,rfl,trivial⟩,(by omega),((f4.mono (hle7.trans hle9))),(by (rw [ZbU hcv (by rw [← hnw]; exact of_decide_eq_true ‹_›)]; exact hnw)),(by (rw [ZbU hcv (by rw [← hnw]; exact of_decide_eq_true ‹_›)]; exact hfr)),‹_›⟩ (show (ZL l).length - (k3 + 1) < (ZL l).length - k3 by omega)
   refine LP.go ft [] (fun m ρ1 w1=>∃ (k4 : Nat),∃ (v7 : Value) (o5 : OB),∃ (G10 : GH),m = nw.length - k4 ∧ G9.le G10 ∧ St w [] G G10 [o5,none] w1 ∧ Yf HRowE 56 37 G10 v7 ((Zbb l ((Y7 l).take k2) ++ (Y9 xv (YO l xv) ((ZL l).take k3)).out) ++ YD xv (nw.take k4) fr cv) o5 ∧ FR ρ1 [(0,vl),(3,r1),(6,r2),(7,v7),(8, .int .i64 (k2 : Int)),(9,lv),(10, .int .i64 fr),(11, .int .i64 (k3 : Int)),(12,r3),(13, .int .i64 (k4 : Int))] ∧ k4 ≤ nw.length) _ ⟨0,v5,o4,G9,rfl,(G9.le_refl),hS14,(Yf.cast (hr5.mono (hle7.trans hle9)) (by simp [YD])),⟨rfl,rfl,rfl,rfl,rfl,rfl,rfl,rfl,rfl,rfl,trivial⟩,(by omega)⟩ ?_
   rintro m ρ1 w12 ⟨k4,v7,o5,G10,rfl,hle10,hS15,hr8,hF9,f8⟩
   refine hF9.set ?_
   clear hF9
   have hol:=Zbn xv (nw.take k4) fr cv
   have hot:=List.length_take_le' k4 nw
   have bd4:=f4.bound
   refine Zj (f4.mono ((hle7.trans hle9).trans hle10)) Yd rfl rfl ?_
   refine Zo (k4 : Int) (nw.length : Int) rfl rfl rfl (fun h5=>?_) (fun h5=>?_)
   ·obtain ⟨p4,x4,hx4,he4,ep3⟩:=Sl.at (hpost1.mono (((((((hle2.trans hle3).trans hle4).trans hle5).trans hle6).trans hle7).trans hle9).trans hle10)) k2 (by omega)
    obtain rfl : xv = x4:=Option.some.inj (hxv.symm.trans hx4)
    obtain ⟨cs4,hc4,hr9⟩:=he4
    obtain ⟨v9,rfl,hs4⟩:=hr9
    obtain ⟨p5,x5,hx5,he5,ep4⟩:=Sl.at (f4.mono ((hle7.trans hle9).trans hle10)) k4 (by omega)
    obtain ⟨cs5,hc5,hr10⟩:=he5
    obtain ⟨rfl,hb6,hb7⟩:=Z2 hr10
    obtain ⟨p6,x6,hx6,he6,ep5⟩:=Sl.at (hcs.mono ((((hle5.trans hle6).trans hle7).trans hle9).trans hle10)) k3 (by omega)
    obtain rfl : cv = x6:=Option.some.inj (hcv.symm.trans hx6)
    obtain ⟨cs6,hc6,hr11⟩:=he6
    obtain ⟨rfl,hb8⟩:=hr11
    refine dr [(17,false),(18,false),(19,false)] [(67, .pointer (some p4)),(68,v9),(71, .pointer (some p5)),(72, .agg #[.int .i64 x5.a, .int .i64 x5.b]),(76, .pointer (some p6)),(77, .int .i64 cv),(78, .agg #[.int .i64 fr, .int .i64 cv]),(79, .agg #[.int .i64 x5.a, .int .i64 x5.b, .int .i64 fr, .int .i64 cv]),(80, .agg #[v9, .int .i64 x5.a, .int .i64 x5.b, .int .i64 fr, .int .i64 cv])] hS15 ⟨fun _=>Zh k2 ep3 XO ZK rfl rfl rfl rfl <| nu rfl rfl,fun _ hSw=>Za hSw hc4 ZK rfl rfl rfl <| nu rfl rfl,fun _=>Zh k4 ep4 Yd Zm rfl rfl rfl rfl <| nu rfl rfl,fun _ hSw=>Zd hSw hc5 [.int .i64 x5.a, .int .i64 x5.b] Zm rfl rfl rfl rfl rfl <| nu rfl rfl,fun _=>Zh k3 ep5 ZN Zl rfl rfl rfl rfl <| nu rfl rfl,fun _ hSw=>Za hSw hc6 Zl rfl rfl rfl <| nu rfl rfl,fun _=>WL.build _ [(0,[.int .i64 fr]),(1,[.int .i64 cv])] [.int .i64 fr, .int .i64 cv] Zm rfl Xg rfl rfl rfl rfl <| nu rfl rfl,fun _=>WL.build _ [(0,[.int .i64 x5.a, .int .i64 x5.b]),(1,[.int .i64 fr, .int .i64 cv])] [.int .i64 x5.a, .int .i64 x5.b, .int .i64 fr, .int .i64 cv] Qz rfl QY rfl rfl rfl rfl <| nu rfl rfl,fun _=>WL.build _ [(0,[v9]),(1,[.int .i64 x5.a, .int .i64 x5.b, .int .i64 fr, .int .i64 cv])] [v9, .int .i64 x5.a, .int .i64 x5.b, .int .i64 fr, .int .i64 cv] Zs rfl Qq rfl rfl (by show [(0,(v9 : Value).cells.toList),(1,(.agg #[.int .i64 x5.a, .int .i64 x5.b, .int .i64 fr, .int .i64 cv] : Value).cells.toList)] = _; simp only [hs4.cells1] <;> rfl) rfl <| nu rfl rfl,trivial⟩ (fun w13 hS16=>?_)
    refine WL.buildSlice _ [(0,[v9, .int .i64 x5.a, .int .i64 x5.b, .int .i64 fr, .int .i64 cv])] [v9, .int .i64 x5.a, .int .i64 x5.b, .int .i64 fr, .int .i64 cv] hS16 ZX rfl rfl rfl rfl (fun z hz=>by match z,hz with | [z0,z1,z2,z3,z4],_=>rfl) (fun b2 w14 hn2 hS17=>?_)
    refine WL.push (m:=([(HRow.mk xv (Rect.mk x5 (Span.mk fr cv)))] : List HRow)) ZX rfl rfl rfl hr8 hS17 1 rfl 0 _ _ _ _ _ rfl ⟨[v9, .int .i64 x5.a, .int .i64 x5.b, .int .i64 fr, .int .i64 cv],_,rfl,(ZJ (HRow.mk xv (Rect.mk x5 (Span.mk fr cv))) hs4 hb6 hb7 f7 hb8),rfl⟩ rfl (by have hreach : reach = 140737488355328:=rfl; simp only [List.length_append,List.length_map,List.length_cons,List.length_nil]; omega) (by have hreach : reach = 140737488355328:=rfl; simp only [List.length_append,List.length_map,List.length_cons,List.length_nil]; omega) rfl rfl rfl (fun v10 o6 w15 hr12 hS18=>?_)
    have hS19:=hS18.tail
    refine Zk k4 (by have hreach : reach = 140737488355328:=rfl; omega) rfl rfl rfl ?_
    exact BK.mk' _ ⟨k4 + 1,v10,o6,G10,rfl,hle10,hS19,(Yf.cast hr12 (by (rw [Zdt ‹_›,List.append_assoc]))),⟨rfl,rfl,rfl,rfl,rfl,rfl,rfl,rfl,rfl,rfl,trivial⟩,(by omega)⟩ (show nw.length - (k4 + 1) < nw.length - k4 by omega)
   refine WL.indexAddr (hcs.mono ((((hle5.trans hle6).trans hle7).trans hle9).trans hle10)) k3 (by omega) ZN Zl rfl rfl rfl rfl (fun p7 x7 hx7 he7=>?_)
   obtain rfl : cv = x7:=Option.some.inj (hcv.symm.trans hx7)
   obtain ⟨cs7,hc7,hr13⟩:=he7
   obtain ⟨rfl,hb9⟩:=hr13
   refine Za hS15 hc7 Zl rfl rfl rfl ?_
   refine Zk k3 (by have hreach : reach = 140737488355328:=rfl; omega) rfl rfl rfl ?_
   exact BK.mk' _ ⟨k3 + 1,r3,YO l xv cv,cv,v7,o5,G10,rfl,(hle6.trans ((hle7.trans hle9).trans hle10)),hS15,(Yf.cast hr8 (by ((rw [ZcC hcv (by rw [← hnw]; exact of_decide_eq_false ‹_›),Ze8 (by omega)]; simp only [hnw,hfr,List.append_assoc])))),⟨rfl,rfl,rfl,rfl,rfl,rfl,rfl,rfl,trivial⟩,(by omega),((hpost3.mono (hle9.trans hle10))),(by (rw [ZcC hcv (by rw [← hnw]; exact of_decide_eq_false ‹_›)])),(by (rw [ZcC hcv (by rw [← hnw]; exact of_decide_eq_false ‹_›)])),‹_›⟩ (show (ZL l).length - (k3 + 1) < (ZL l).length - k3 by omega)
  refine Zk k2 (by have hreach : reach = 140737488355328:=rfl; omega) rfl rfl rfl ?_
  exact BK.mk' _ ⟨k2 + 1,v5,o4,G6,rfl,(hle5.trans hle6),hS11,(Yf.cast hr5 (by (rw [Zl7 hxv,List.take_of_length_le (i:=k3) (by omega)]))),⟨rfl,rfl,rfl,rfl,rfl,trivial⟩,(by omega)⟩ (show (Y7 l).length - (k2 + 1) < (Y7 l).length - k2 by omega)
 obtain ⟨G11,hle11,hs5,hS20⟩:=Yf.freeze hr4 hS9 0 rfl
 exact RT hS20 rfl (Sl.cast hs5 (by rw [List.take_of_length_le (by omega)]; rfl))
end Go.Civ
