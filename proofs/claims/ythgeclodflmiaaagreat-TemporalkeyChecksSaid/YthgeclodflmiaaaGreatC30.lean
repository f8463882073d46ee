/- Lemmas. -/
import Derived.Test.YthgeclodflmiaaaGreatC29
import Derived.Test.YthgeclodflmiaaaGreatProg
import Derived.KernelRfl
import Derived.WalkKit
set_option linter.unusedVariables false
set_option linter.unusedSimpArgs false
set_option maxRecDepth 100000
set_option maxHeartbeats 4000000
namespace Go.Civ
open Go.Proofs
theorem Zqr {G : GH} {w : World} (hG : G.In w) (l : List HRow) (vl : Value) (hvl : Sl HRowE 56 G vl l) (hl : l.length ≤ 1000000) : CL Tryz.prog (nat_lit 129) #[vl] [] w G fun G' _ r=>Sl (ValE.slice 32) 24 G' r (Xb l):=by
 refine Zh ft [] Tryz.func129 rfl rfl ?_
 have hS:=St.start (X:=[]) hG
 refine LP.go ft [] (fun m ρ1 w1=>∃ (k1 : Nat),∃ (vk : Value),∃ (G1 : GH),m = l.length - k1 ∧ G.le G1 ∧ St w [] G G1 [] w1 ∧ FR ρ1 [(0,vl),(3,vk),(4, .int .i64 (k1 : Int))] ∧ k1 ≤ l.length ∧ Sl (ValE.slice 32) 24 G1 vk (Xb (l.take k1))) _ ⟨0, .slice none 0 0,G,rfl,(G.le_refl),hS,⟨rfl,rfl,rfl,trivial⟩,(by omega),(Sl.cast (Sl.nil (ValE.slice 32) 24 G) rfl)⟩ ?_
 rintro m ρ1 w1 ⟨k1,vk,G1,rfl,hle1,hS1,hF9,f1,f2⟩
 refine hF9.set ?_
 clear hF9
 have hvl1:=ZiB l k1
 have hiv:=Q2 (l.take k1)
 have bd1:=hvl.bound
 refine Zl (hvl.mono hle1) Yn rfl rfl ?_
 refine Zm (k1 : Int) (l.length : Int) rfl rfl rfl (fun h1=>?_) (fun h1=>?_)
 ·obtain ⟨xv,hxv⟩:=Za1 (l:=l) (k:=k1) (by omega)
  have bd2:=f2.bound
  refine Zl f2 X9 rfl rfl ?_
  refine LP.go ft [] (fun m ρ1 w1=>∃ (j : Nat),∃ (G2 : GH),m = (0 + j) ∧ G1.le G2 ∧ St w [] G G2 [] w1 ∧ FR ρ1 [(0,vl),(3,vk),(4, .int .i64 (k1 : Int)),(5, .int .i64 (j : Int))] ∧ j ≤ (Xb (l.take k1)).length ∧ UpV (Xb (l.take k1)) xv.v j) _ ⟨(Xb (l.take k1)).length,G1,rfl,(G1.le_refl),hS1,⟨rfl,rfl,rfl,rfl,trivial⟩,(by omega),(UpV.start)⟩ ?_
  rintro m ρ1 w2 ⟨j,G2,rfl,hle2,hS2,hF9,f3,f4⟩
  refine hF9.set ?_
  clear hF9
  rcases Cmp.dec .gtr (j : Int) 0 with ⟨hb1,q1⟩ | ⟨hb1,q1⟩
  ·have h2 : 0 < (j : Int):=q1
   clear q1
   obtain ⟨p1,x1,hx1,he1,ep1⟩:=Sl.at (f2.mono hle2) (j - 1) (by omega)
   obtain ⟨cs1,hc1,hr1⟩:=he1
   obtain ⟨v1,rfl,hs1⟩:=hr1
   obtain ⟨p2,x2,hx2,he2,ep2⟩:=Sl.at (hvl.mono (hle1.trans hle2)) k1 (by omega)
   obtain rfl : xv = x2:=Option.some.inj (hxv.symm.trans hx2)
   obtain ⟨cs2,hc2,hr2⟩:=he2
   obtain ⟨v2,rfl,hs2,hb2,hb3,hb4,hb5⟩:=Z7 hr2
   rcases Cmp.dec .gtr (ZL cmpV x1 xv.v) 0 with ⟨hb6,q2⟩ | ⟨hb6,q2⟩
   ·have h3 : 0 < (ZL cmpV x1 xv.v):=q2
    clear q2
    refine dr [] [(16, .bool true),(20, .int .i64 ((j - 1 : Nat) : Int)),(21, .pointer (some p1)),(22,v1),(25, .pointer (some p2)),(27,v2),(28, .int .i64 (ZL cmpV x1 xv.v)),(29, .bool true)] hS2 ⟨fun _=>WL.cmpV .gtr rfl .i64 (j : Int) 0 _ hb1 rfl rfl rfl <| nu rfl rfl,fun _=>Qf j (by omega) (by have hreach : reach = 140737488355328:=rfl; omega) rfl rfl rfl <| nu rfl rfl,fun _=>Zi (j - 1) ep1 X9 ZN rfl rfl rfl rfl <| nu rfl rfl,fun _ hSw=>Za hSw hc1 ZN rfl rfl rfl <| nu rfl rfl,fun _=>Zi k1 ep2 Yn Zt rfl rfl rfl rfl <| nu rfl rfl,fun _ hSw=>Za hSw (XL.drop 0 hc2) ZN rfl rfl rfl <| nu rfl rfl,fun _ hSw=>ZO hSw Zfn rfl rfl rfl (ZbL hSw.imm x1 xv.v _ hs1 _ hs2) rfl,fun _=>WL.cmpV .gtr rfl .i64 (ZL cmpV x1 xv.v) 0 _ hb6 rfl rfl rfl <| nu rfl rfl,trivial⟩ (fun w3 hS3=>?_)
    refine Qf j (by omega) (by have hreach : reach = 140737488355328:=rfl; omega) rfl rfl rfl ?_
    exact BK.mk' _ ⟨j - 1,G2,rfl,hle2,hS3,⟨rfl,rfl,rfl,rfl,trivial⟩,(by omega),(by exact UpV.step ‹_› ‹_› ‹_›)⟩ (show (0 + (j - 1)) < (0 + j) by omega)
   have h3 : (ZL cmpV x1 xv.v) ≤ 0:=q2
   clear q2
   refine dr [] [(16, .bool true),(20, .int .i64 ((j - 1 : Nat) : Int)),(21, .pointer (some p1)),(22,v1),(25, .pointer (some p2)),(27,v2),(28, .int .i64 (ZL cmpV x1 xv.v)),(29, .bool false)] hS2 ⟨fun _=>WL.cmpV .gtr rfl .i64 (j : Int) 0 _ hb1 rfl rfl rfl <| nu rfl rfl,fun _=>Qf j (by omega) (by have hreach : reach = 140737488355328:=rfl; omega) rfl rfl rfl <| nu rfl rfl,fun _=>Zi (j - 1) ep1 X9 ZN rfl rfl rfl rfl <| nu rfl rfl,fun _ hSw=>Za hSw hc1 ZN rfl rfl rfl <| nu rfl rfl,fun _=>Zi k1 ep2 Yn Zt rfl rfl rfl rfl <| nu rfl rfl,fun _ hSw=>Za hSw (XL.drop 0 hc2) ZN rfl rfl rfl <| nu rfl rfl,fun _ hSw=>ZO hSw Zfn rfl rfl rfl (ZbL hSw.imm x1 xv.v _ hs1 _ hs2) rfl,fun _=>WL.cmpV .gtr rfl .i64 (ZL cmpV x1 xv.v) 0 _ hb6 rfl rfl rfl <| nu rfl rfl,trivial⟩ (fun w4 hS4=>?_)
   rcases Cmp.dec .gtr (j : Int) 0 with ⟨hb7,q3⟩ | ⟨hb7,q3⟩
   ·have h4 : 0 < (j : Int):=q3
    clear q3
    obtain ⟨p3,x3,hx3,he3,ep3⟩:=Sl.at (f2.mono hle2) (j - 1) (by omega)
    obtain rfl : x1 = x3:=Option.some.inj (hx1.symm.trans hx3)
    obtain ⟨cs3,hc3,hr3⟩:=he3
    obtain ⟨v3,rfl,hs3⟩:=hr3
    obtain ⟨p4,x4,hx4,he4,ep4⟩:=Sl.at (hvl.mono (hle1.trans hle2)) k1 (by omega)
    obtain rfl : xv = x4:=Option.some.inj (hxv.symm.trans hx4)
    obtain ⟨cs4,hc4,hr4⟩:=he4
    obtain ⟨v4,rfl,hs4,hb8,hb9,hb10,YL⟩:=Z7 hr4
    rcases Cmp.dec .eql (ZL cmpV x1 xv.v) 0 with ⟨Xl,q4⟩ | ⟨Xl,q4⟩
    ·have h5 : (ZL cmpV x1 xv.v) = 0:=q4
     clear q4
     refine dr [] [(34, .bool true),(38, .int .i64 ((j - 1 : Nat) : Int)),(39, .pointer (some p3)),(40,v3),(43, .pointer (some p4)),(45,v4),(46, .int .i64 (ZL cmpV x1 xv.v)),(47, .bool true)] hS4 ⟨fun _=>WL.cmpV .gtr rfl .i64 (j : Int) 0 _ hb7 rfl rfl rfl <| nu rfl rfl,fun _=>Qf j (by omega) (by have hreach : reach = 140737488355328:=rfl; omega) rfl rfl rfl <| nu rfl rfl,fun _=>Zi (j - 1) ep3 X9 ZN rfl rfl rfl rfl <| nu rfl rfl,fun _ hSw=>Za hSw hc3 ZN rfl rfl rfl <| nu rfl rfl,fun _=>Zi k1 ep4 Yn Zt rfl rfl rfl rfl <| nu rfl rfl,fun _ hSw=>Za hSw (XL.drop 0 hc4) ZN rfl rfl rfl <| nu rfl rfl,fun _ hSw=>ZO hSw Zfn rfl rfl rfl (ZbL hSw.imm x1 xv.v _ hs3 _ hs4) rfl,fun _=>WL.cmpV .eql rfl .i64 (ZL cmpV x1 xv.v) 0 _ Xl rfl rfl rfl <| nu rfl rfl,trivial⟩ (fun w5 hS5=>?_)
     refine Zj k1 (by have hreach : reach = 140737488355328:=rfl; omega) rfl rfl rfl ?_
     exact BK.mk' _ ⟨k1 + 1,vk,G2,rfl,(hle1.trans hle2),hS5,⟨rfl,rfl,rfl,trivial⟩,(by omega),(Sl.cast (f2.mono hle2) (by rw [ZaB hxv]; exact (Zlm (k:=j) hiv (by omega) ‹_› ‹_›).symm))⟩ (show l.length - (k1 + 1) < l.length - k1 by omega)
    have h5 : (ZL cmpV x1 xv.v) ≠ 0:=q4
    clear q4
    refine dr [] [(34, .bool true),(38, .int .i64 ((j - 1 : Nat) : Int)),(39, .pointer (some p3)),(40,v3),(43, .pointer (some p4)),(45,v4),(46, .int .i64 (ZL cmpV x1 xv.v)),(47, .bool false)] hS4 ⟨fun _=>WL.cmpV .gtr rfl .i64 (j : Int) 0 _ hb7 rfl rfl rfl <| nu rfl rfl,fun _=>Qf j (by omega) (by have hreach : reach = 140737488355328:=rfl; omega) rfl rfl rfl <| nu rfl rfl,fun _=>Zi (j - 1) ep3 X9 ZN rfl rfl rfl rfl <| nu rfl rfl,fun _ hSw=>Za hSw hc3 ZN rfl rfl rfl <| nu rfl rfl,fun _=>Zi k1 ep4 Yn Zt rfl rfl rfl rfl <| nu rfl rfl,fun _ hSw=>Za hSw (XL.drop 0 hc4) ZN rfl rfl rfl <| nu rfl rfl,fun _ hSw=>ZO hSw Zfn rfl rfl rfl (ZbL hSw.imm x1 xv.v _ hs3 _ hs4) rfl,fun _=>WL.cmpV .eql rfl .i64 (ZL cmpV x1 xv.v) 0 _ Xl rfl rfl rfl <| nu rfl rfl,trivial⟩ (fun w6 hS6=>?_)
    refine WL.buildSlice _ [] [] hS6 Qr rfl rfl rfl rfl (fun z hz=>by match z,hz with | [],_=>rfl) (fun b1 w7 hn1 hS7=>?_)
    refine Ym (f2.mono hle2) j (by omega) X9 ZN rfl rfl rfl rfl (fun v5 hs5=>?_)
    have hr5:=Yb.empty (ValE.slice 32) 24 31 G2 b1
    refine YA Qr rfl rfl rfl hr5 hS7 0 rfl hs5 (by have hreach : reach = 140737488355328:=rfl; simp only [List.length_append,List.length_cons,List.length_nil,List.length_take,List.length_drop]; omega) (by have hreach : reach = 140737488355328:=rfl; simp only [List.length_append,List.length_cons,List.length_nil,List.length_take,List.length_drop]; omega) rfl rfl rfl (fun v6 o1 w9 hr6 hS8=>?_)
    refine WL.indexAddr (hvl.mono (hle1.trans hle2)) k1 (by omega) Yn Zt rfl rfl rfl rfl (fun p5 x5 hx5 he5=>?_)
    obtain rfl : xv = x5:=Option.some.inj (hxv.symm.trans hx5)
    obtain ⟨cs5,hc5,hr7⟩:=he5
    obtain ⟨v7,rfl,hs6,X2,Qg,Q8,QS⟩:=Z7 hr7
    refine Za hS8 (XL.drop 0 hc5) ZN rfl rfl rfl ?_
    refine WL.buildSlice _ [(0,[v7])] [v7] hS8 Qr rfl rfl rfl (by show [(0,(v7 : Value).cells.toList)] = _; simp only [hs6.cells1] <;> rfl) (fun z hz=>by match z,hz with | [z0],_=>rfl) (fun b2 w10 hn2 hS9=>?_)
    refine WL.push (m:=([xv.v] : List (List Val))) Qr rfl rfl rfl hr6 hS9 1 rfl 0 _ _ _ _ _ rfl ⟨[v7],_,rfl,⟨_,rfl,hs6⟩,rfl⟩ rfl (by have hreach : reach = 140737488355328:=rfl; simp only [List.length_append,List.length_cons,List.length_nil,List.length_take,List.length_drop]; omega) (by have hreach : reach = 140737488355328:=rfl; simp only [List.length_append,List.length_cons,List.length_nil,List.length_take,List.length_drop]; omega) rfl rfl rfl (fun v9 o2 w11 hr8 hS10=>?_)
    have hS11:=hS10.tail
    refine XZ (f2.mono hle2) j (by omega) X9 ZN rfl rfl rfl rfl (fun v10 hs7=>?_)
    refine YA Qr rfl rfl rfl hr8 hS11 0 rfl hs7 (by have hreach : reach = 140737488355328:=rfl; simp only [List.length_append,List.length_cons,List.length_nil,List.length_take,List.length_drop]; omega) (by have hreach : reach = 140737488355328:=rfl; simp only [List.length_append,List.length_cons,List.length_nil,List.length_take,List.length_drop]; omega) rfl rfl rfl (fun v11 o3 w12 hr9 hS12=>?_)
    refine Zj k1 (by have hreach : reach = 140737488355328:=rfl; omega) rfl rfl rfl ?_
    obtain ⟨G3,hle3,hs8,hS13⟩:=Yb.freeze hr9 hS12 0 rfl
    have hS14:=hS13.tail
    exact BK.mk' _ ⟨k1 + 1,v11,G3,rfl,(hle1.trans (hle2.trans hle3)),hS14,⟨rfl,rfl,rfl,trivial⟩,(by omega),(Sl.cast hs8 (by rw [ZaB hxv]; exact ZnN hiv ‹_› (by omega) ‹_› (by omega) ‹_›))⟩ (show l.length - (k1 + 1) < l.length - k1 by omega)
   have h4 : (j : Int) ≤ 0:=q3
   clear q3
   refine dr [] [(34, .bool false)] hS4 ⟨fun _=>WL.cmpV .gtr rfl .i64 (j : Int) 0 _ hb7 rfl rfl rfl <| nu rfl rfl,trivial⟩ (fun w13 hS15=>?_)
   refine WL.buildSlice _ [] [] hS15 Qr rfl rfl rfl rfl (fun z hz=>by match z,hz with | [],_=>rfl) (fun b3 w14 hn3 hS16=>?_)
   refine Ym (f2.mono hle2) j (by omega) X9 ZN rfl rfl rfl rfl (fun v12 hs9=>?_)
   have hr10:=Yb.empty (ValE.slice 32) 24 31 G2 b3
   refine YA Qr rfl rfl rfl hr10 hS16 0 rfl hs9 (by have hreach : reach = 140737488355328:=rfl; simp only [List.length_append,List.length_cons,List.length_nil,List.length_take,List.length_drop]; omega) (by have hreach : reach = 140737488355328:=rfl; simp only [List.length_append,List.length_cons,List.length_nil,List.length_take,List.length_drop]; omega) rfl rfl rfl (fun v13 o4 w15 hr11 hS17=>?_)
   refine WL.indexAddr (hvl.mono (hle1.trans hle2)) k1 (by omega) Yn Zt rfl rfl rfl rfl (fun p6 x6 hx6 he6=>?_)
   obtain rfl : xv = x6:=Option.some.inj (hxv.symm.trans hx6)
   obtain ⟨cs6,hc6,hr12⟩:=he6
   obtain ⟨v14,rfl,hs10,QK,ZaO,ZbC,Zcg⟩:=Z7 hr12
   refine Za hS17 (XL.drop 0 hc6) ZN rfl rfl rfl ?_
   refine WL.buildSlice _ [(0,[v14])] [v14] hS17 Qr rfl rfl rfl (by show [(0,(v14 : Value).cells.toList)] = _; simp only [hs10.cells1] <;> rfl) (fun z hz=>by match z,hz with | [z0],_=>rfl) (fun b4 w16 hn4 hS18=>?_)
   refine WL.push (m:=([xv.v] : List (List Val))) Qr rfl rfl rfl hr11 hS18 1 rfl 0 _ _ _ _ _ rfl ⟨[v14],_,rfl,⟨_,rfl,hs10⟩,rfl⟩ rfl (by have hreach : reach = 140737488355328:=rfl; simp only [List.length_append,List.length_cons,List.length_nil,List.length_take,List.length_drop]; omega) (by have hreach : reach = 140737488355328:=rfl; simp only [List.length_append,List.length_cons,List.length_nil,List.length_take,List.length_drop]; omega) rfl rfl rfl (fun v15 o5 w17 hr13 hS19=>?_)
   have hS20:=hS19.tail
   refine XZ (f2.mono hle2) j (by omega) X9 ZN rfl rfl rfl rfl (fun v16 hs11=>?_)
   refine YA Qr rfl rfl rfl hr13 hS20 0 rfl hs11 (by have hreach : reach = 140737488355328:=rfl; simp only [List.length_append,List.length_cons,List.length_nil,List.length_take,List.length_drop]; omega) (by have hreach : reach = 140737488355328:=rfl; simp only [List.length_append,List.length_cons,List.length_nil,List.length_take,List.length_drop]; omega) rfl rfl rfl (fun v17 o6 w18 hr14 hS21=>?_)
   refine Zj k1 (by have hreach : reach = 140737488355328:=rfl; omega) rfl rfl rfl ?_
   obtain ⟨G4,hle4,hs12,hS22⟩:=Yb.freeze hr14 hS21 0 rfl
   have hS23:=hS22.tail
   exact BK.mk' _ ⟨k1 + 1,v17,G4,rfl,(hle1.trans (hle2.trans hle4)),hS23,⟨rfl,rfl,rfl,trivial⟩,(by omega),(Sl.cast hs12 (by rw [ZaB hxv]; exact ZeS hiv ‹_› (by omega) (by omega)))⟩ (show l.length - (k1 + 1) < l.length - k1 by omega)
  have h2 : (j : Int) ≤ 0:=q1
  clear q1
  refine dr [] [(16, .bool false)] hS2 ⟨fun _=>WL.cmpV .gtr rfl .i64 (j : Int) 0 _ hb1 rfl rfl rfl <| nu rfl rfl,trivial⟩ (fun w19 hS24=>?_)
  rcases Cmp.dec .gtr (j : Int) 0 with ⟨Zds,q5⟩ | ⟨Zds,q5⟩
  ·have h6 : 0 < (j : Int):=q5
   clear q5
   obtain ⟨p7,x7,hx7,he7,ep5⟩:=Sl.at (f2.mono hle2) (j - 1) (by omega)
   obtain ⟨cs7,hc7,hr15⟩:=he7
   obtain ⟨v18,rfl,hs13⟩:=hr15
   obtain ⟨p8,x9,hx8,he8,ep6⟩:=Sl.at (hvl.mono (hle1.trans hle2)) k1 (by omega)
   obtain rfl : xv = x9:=Option.some.inj (hxv.symm.trans hx8)
   obtain ⟨cs8,hc8,hr16⟩:=he8
   obtain ⟨v19,rfl,hs14,Zhm,Zdt,ZcC,Zhn⟩:=Z7 hr16
   rcases Cmp.dec .eql (ZL cmpV x7 xv.v) 0 with ⟨ZdQ,q6⟩ | ⟨ZdQ,q6⟩
   ·have h7 : (ZL cmpV x7 xv.v) = 0:=q6
    clear q6
    refine dr [] [(34, .bool true),(38, .int .i64 ((j - 1 : Nat) : Int)),(39, .pointer (some p7)),(40,v18),(43, .pointer (some p8)),(45,v19),(46, .int .i64 (ZL cmpV x7 xv.v)),(47, .bool true)] hS24 ⟨fun _=>WL.cmpV .gtr rfl .i64 (j : Int) 0 _ Zds rfl rfl rfl <| nu rfl rfl,fun _=>Qf j (by omega) (by have hreach : reach = 140737488355328:=rfl; omega) rfl rfl rfl <| nu rfl rfl,fun _=>Zi (j - 1) ep5 X9 ZN rfl rfl rfl rfl <| nu rfl rfl,fun _ hSw=>Za hSw hc7 ZN rfl rfl rfl <| nu rfl rfl,fun _=>Zi k1 ep6 Yn Zt rfl rfl rfl rfl <| nu rfl rfl,fun _ hSw=>Za hSw (XL.drop 0 hc8) ZN rfl rfl rfl <| nu rfl rfl,fun _ hSw=>ZO hSw Zfn rfl rfl rfl (ZbL hSw.imm x7 xv.v _ hs13 _ hs14) rfl,fun _=>WL.cmpV .eql rfl .i64 (ZL cmpV x7 xv.v) 0 _ ZdQ rfl rfl rfl <| nu rfl rfl,trivial⟩ (fun w20 hS25=>?_)
    refine Zj k1 (by have hreach : reach = 140737488355328:=rfl; omega) rfl rfl rfl ?_
    exact BK.mk' _ ⟨k1 + 1,vk,G2,rfl,(hle1.trans hle2),hS25,⟨rfl,rfl,rfl,trivial⟩,(by omega),(Sl.cast (f2.mono hle2) (by rw [ZaB hxv]; exact (Zlm (k:=j) hiv (by omega) ‹_› ‹_›).symm))⟩ (show l.length - (k1 + 1) < l.length - k1 by omega)
   have h7 : (ZL cmpV x7 xv.v) ≠ 0:=q6
   clear q6
   refine dr [] [(34, .bool true),(38, .int .i64 ((j - 1 : Nat) : Int)),(39, .pointer (some p7)),(40,v18),(43, .pointer (some p8)),(45,v19),(46, .int .i64 (ZL cmpV x7 xv.v)),(47, .bool false)] hS24 ⟨fun _=>WL.cmpV .gtr rfl .i64 (j : Int) 0 _ Zds rfl rfl rfl <| nu rfl rfl,fun _=>Qf j (by omega) (by have hreach : reach = 140737488355328:=rfl; omega) rfl rfl rfl <| nu rfl rfl,fun _=>Zi (j - 1) ep5 X9 ZN rfl rfl rfl rfl <| nu rfl rfl,fun _ hSw=>Za hSw hc7 ZN rfl rfl rfl <| nu rfl rfl,fun _=>Zi k1 ep6 Yn Zt rfl rfl rfl rfl <| nu rfl rfl,fun _ hSw=>Za hSw (XL.drop 0 hc8) ZN rfl rfl rfl <| nu rfl rfl,fun _ hSw=>ZO hSw Zfn rfl rfl rfl (ZbL hSw.imm x7 xv.v _ hs13 _ hs14) rfl,fun _=>WL.cmpV .eql rfl .i64 (ZL cmpV x7 xv.v) 0 _ ZdQ rfl rfl rfl <| nu rfl rfl,trivial⟩ (fun w21 hS26=>?_)
   refine WL.buildSlice _ [] [] hS26 Qr rfl rfl rfl rfl (fun z hz=>by match z,hz with | [],_=>rfl) (fun b5 w22 hn5 hS27=>?_)
   refine Ym (f2.mono hle2) j (by omega) X9 ZN rfl rfl rfl rfl (fun v20 hs15=>?_)
   have hr17:=Yb.empty (ValE.slice 32) 24 31 G2 b5
   refine YA Qr rfl rfl rfl hr17 hS27 0 rfl hs15 (by have hreach : reach = 140737488355328:=rfl; simp only [List.length_append,List.length_cons,List.length_nil,List.length_take,List.length_drop]; omega) (by have hreach : reach = 140737488355328:=rfl; simp only [List.length_append,List.length_cons,List.length_nil,List.length_take,List.length_drop]; omega) rfl rfl rfl (fun v21 o7 w23 hr18 hS28=>?_)
   refine WL.indexAddr (hvl.mono (hle1.trans hle2)) k1 (by omega) Yn Zt rfl rfl rfl rfl (fun p9 x10 hx9 he9=>?_)
   obtain rfl : xv = x10:=Option.some.inj (hxv.symm.trans hx9)
   obtain ⟨cs9,hc9,hr19⟩:=he9
   obtain ⟨v22,rfl,hs16,Zjx,ZlQ,ZsE,ZsF⟩:=Z7 hr19
   refine Za hS28 (XL.drop 0 hc9) ZN rfl rfl rfl ?_
   refine WL.buildSlice _ [(0,[v22])] [v22] hS28 Qr rfl rfl rfl (by show [(0,(v22 : Value).cells.toList)] = _; simp only [hs16.cells1] <;> rfl) (fun z hz=>by match z,hz with | [z0],_=>rfl) (fun b6 w24 hn6 hS29=>?_)
   refine WL.push (m:=([xv.v] : List (List Val))) Qr rfl rfl rfl hr18 hS29 1 rfl 0 _ _ _ _ _ rfl ⟨[v22],_,rfl,⟨_,rfl,hs16⟩,rfl⟩ rfl (by have hreach : reach = 140737488355328:=rfl; simp only [List.length_append,List.length_cons,List.length_nil,List.length_take,List.length_drop]; omega) (by have hreach : reach = 140737488355328:=rfl; simp only [List.length_append,List.length_cons,List.length_nil,List.length_take,List.length_drop]; omega) rfl rfl rfl (fun v23 o8 w25 hr20 hS30=>?_)
   have hS31:=hS30.tail
   refine XZ (f2.mono hle2) j (by omega) X9 ZN rfl rfl rfl rfl (fun v24 hs17=>?_)
   refine YA Qr rfl rfl rfl hr20 hS31 0 rfl hs17 (by have hreach : reach = 140737488355328:=rfl; simp only [List.length_append,List.length_cons,List.length_nil,List.length_take,List.length_drop]; omega) (by have hreach : reach = 140737488355328:=rfl; simp only [List.length_append,List.length_cons,List.length_nil,List.length_take,List.length_drop]; omega) rfl rfl rfl (fun v25 o9 w26 hr21 hS32=>?_)
   refine Zj k1 (by have hreach : reach = 140737488355328:=rfl; omega) rfl rfl rfl ?_
   obtain ⟨G5,hle5,hs18,hS33⟩:=Yb.freeze hr21 hS32 0 rfl
   have hS34:=hS33.tail
   exact BK.mk' _ ⟨k1 + 1,v25,G5,rfl,(hle1.trans (hle2.trans hle5)),hS34,⟨rfl,rfl,rfl,trivial⟩,(by omega),(Sl.cast hs18 (by rw [ZaB hxv]; exact ZeS hiv ‹_› (by omega) (by omega)))⟩ (show l.length - (k1 + 1) < l.length - k1 by omega)
  have h6 : (j : Int) ≤ 0:=q5
  clear q5
  refine dr [] [(34, .bool false)] hS24 ⟨fun _=>WL.cmpV .gtr rfl .i64 (j : Int) 0 _ Zds rfl rfl rfl <| nu rfl rfl,trivial⟩ (fun w27 hS35=>?_)
  refine WL.buildSlice _ [] [] hS35 Qr rfl rfl rfl rfl (fun z hz=>by match z,hz with | [],_=>rfl) (fun b7 w28 hn7 hS36=>?_)
  refine Ym (f2.mono hle2) j (by omega) X9 ZN rfl rfl rfl rfl (fun v26 hs19=>?_)
  have hr22:=Yb.empty (ValE.slice 32) 24 31 G2 b7
  refine YA Qr rfl rfl rfl hr22 hS36 0 rfl hs19 (by have hreach : reach = 140737488355328:=rfl; simp only [List.length_append,List.length_cons,List.length_nil,List.length_take,List.length_drop]; omega) (by have hreach : reach = 140737488355328:=rfl; simp only [List.length_append,List.length_cons,List.length_nil,List.length_take,List.length_drop]; omega) rfl rfl rfl (fun v27 o10 w29 hr23 hS37=>?_)
  refine WL.indexAddr (hvl.mono (hle1.trans hle2)) k1 (by omega) Yn Zt rfl rfl rfl rfl (fun p10 x11 hx10 he10=>?_)
  obtain rfl : xv = x11:=Option.some.inj (hxv.symm.trans hx10)
  obtain ⟨cs10,hc10,hr24⟩:=he10
  obtain ⟨v28,rfl,hs20,ZsG,Zpc,Zjy,Zpd⟩:=Z7 hr24
  refine Za hS37 (XL.drop 0 hc10) ZN rfl rfl rfl ?_
  refine WL.buildSlice _ [(0,[v28])] [v28] hS37 Qr rfl rfl rfl (by show [(0,(v28 : Value).cells.toList)] = _; simp only [hs20.cells1] <;> rfl) (fun z hz=>by match z,hz with | [z0],_=>rfl) (fun b8 w30 hn8 hS38=>?_)
  refine WL.push (m:=([xv.v] : List (List Val))) Qr rfl rfl rfl hr23 hS38 1 rfl 0 _ _ _ _ _ rfl ⟨[v28],_,rfl,⟨_,rfl,hs20⟩,rfl⟩ rfl (by have hreach : reach = 140737488355328:=rfl; simp only [List.length_append,List.length_cons,List.length_nil,List.length_take,List.length_drop]; omega) (by have hreach : reach = 140737488355328:=rfl; simp only [List.length_append,List.length_cons,List.length_nil,List.length_take,List.length_drop]; omega) rfl rfl rfl (fun v29 o11 w31 hr25 hS39=>?_)
  have hS40:=hS39.tail
  refine XZ (f2.mono hle2) j (by omega) X9 ZN rfl rfl rfl rfl (fun v30 hs21=>?_)
  refine YA Qr rfl rfl rfl hr25 hS40 0 rfl hs21 (by have hreach : reach = 140737488355328:=rfl; simp only [List.length_append,List.length_cons,List.length_nil,List.length_take,List.length_drop]; omega) (by have hreach : reach = 140737488355328:=rfl; simp only [List.length_append,List.length_cons,List.length_nil,List.length_take,List.length_drop]; omega) rfl rfl rfl (fun v31 o12 w32 hr26 hS41=>?_)
  refine Zj k1 (by have hreach : reach = 140737488355328:=rfl; omega) rfl rfl rfl ?_
  obtain ⟨G6,hle6,hs22,hS42⟩:=Yb.freeze hr26 hS41 0 rfl
  have hS43:=hS42.tail
  exact BK.mk' _ ⟨k1 + 1,v31,G6,rfl,(hle1.trans (hle2.trans hle6)),hS43,⟨rfl,rfl,rfl,trivial⟩,(by omega),(Sl.cast hs22 (by rw [ZaB hxv]; exact ZeS hiv ‹_› (by omega) (by omega)))⟩ (show l.length - (k1 + 1) < l.length - k1 by omega)
 exact RT hS1 rfl (Sl.cast f2 (by rw [List.take_of_length_le (by omega)]))
end Go.Civ
