/- Lemmas. -/
import Derived.Test.YthgeclodflmiaaaGreatN19
import Derived.Test.YthgeclodflmiaaaGreatN21
import Derived.Test.YthgeclodflmiaaaGreatProg
import Derived.KernelRfl
import Derived.WalkKit
set_option linter.unusedVariables false
set_option linter.unusedSimpArgs false
set_option maxRecDepth 100000
set_option maxHeartbeats 4000000
namespace Go.Civ
open Go.Proofs
theorem ZnK {G : GH} {w : World} (hG : G.In w) (l : List Span) (x : Int) (vl : Value) (hvl : Sl SpanE 16 G vl l) : CL Tryz.prog (nat_lit 151) #[vl, .int .i64 x] [] w G fun _ _ r=>r = .bool (YC l x):=by
 refine Zf ft [] Tryz.func151 rfl rfl ?_
 have hS:=St.start (X:=[]) hG
 refine LP.go ft [] (fun m ρ1 w1=>∃ (k1 : Nat),∃ (G1 : GH),m = l.length - k1 ∧ G.le G1 ∧ St w [] G G1 [] w1 ∧ FR ρ1 [(0,vl),(1, .int .i64 x),(5, .int .i64 (k1 : Int))] ∧ k1 ≤ l.length ∧ ∀ j,j < k1 → ∀ s,l[j]? = some s → (decide (s.a ≤ x) && decide (x < s.b)) = false) _ ⟨0,G,rfl,(G.le_refl),hS,⟨rfl,rfl,rfl,trivial⟩,(by omega),(by intro j hj; omega)⟩ ?_
 rintro m ρ1 w1 ⟨k1,G1,rfl,hle1,hS1,hF9,f1,f2⟩
 refine hF9.set ?_
 clear hF9
 have bd1:=hvl.bound
 refine Zj (hvl.mono hle1) Yd rfl rfl ?_
 refine Zo (k1 : Int) (l.length : Int) rfl rfl rfl (fun h1=>?_) (fun h1=>?_)
 ·refine WL.indexAddr (hvl.mono hle1) k1 (by omega) Yd Zm rfl rfl rfl rfl (fun p1 x1 hx1 he1=>?_)
  obtain ⟨cs1,hc1,hr1⟩:=he1
  obtain ⟨rfl,hb1,hb2⟩:=Z2 hr1
  refine Za hS1 (XZ.drop 0 hc1) Zl rfl rfl rfl ?_
  refine Qa x1.a x rfl rfl rfl (fun h2=>?_) (fun h2=>?_)
  ·refine WL.indexAddr (hvl.mono hle1) k1 (by omega) Yd Zm rfl rfl rfl rfl (fun p2 x2 hx2 he2=>?_)
   obtain rfl : x1 = x2:=Option.some.inj (hx1.symm.trans hx2)
   obtain ⟨cs2,hc2,hr2⟩:=he2
   obtain ⟨rfl,hb3,hb4⟩:=Z2 hr2
   refine Za hS1 (XZ.drop 1 hc2) Zl rfl rfl rfl ?_
   refine Zo x x1.b rfl rfl rfl (fun h3=>?_) (fun h3=>?_)
   ·exact RB hS1 rfl (by unfold YC; exact (ZsD (p:=fun (s : Span)=>decide (s.a ≤ x) && decide (x < s.b)) ‹_› (by simp; omega)).symm)
   refine Zk k1 (by have hreach : reach = 140737488355328:=rfl; omega) rfl rfl rfl ?_
   exact BK.mk' _ ⟨k1 + 1,G1,rfl,hle1,hS1,⟨rfl,rfl,rfl,trivial⟩,(by omega),(by exact YS ‹_› ‹_› (by simp; omega))⟩ (show l.length - (k1 + 1) < l.length - k1 by omega)
  refine Zk k1 (by have hreach : reach = 140737488355328:=rfl; omega) rfl rfl rfl ?_
  exact BK.mk' _ ⟨k1 + 1,G1,rfl,hle1,hS1,⟨rfl,rfl,rfl,trivial⟩,(by omega),(by exact YS ‹_› ‹_› (by simp; omega))⟩ (show l.length - (k1 + 1) < l.length - k1 by omega)
 exact RB hS1 rfl (by unfold YC; exact (Zuk (p:=fun (s : Span)=>decide (s.a ≤ x) && decide (x < s.b)) ‹_› (by omega)).symm)
theorem Zll {G : GH} {w : World} (hG : G.In w) (l : List Int) (x : Int) (vl : Value) (hvl : Sl Enc.int 8 G vl l) (hx0 : Zv x) (hl : l.length ≤ 1000000) : CL Tryz.prog (nat_lit 193) #[vl, .int .i64 x] [] w G fun G' _ r=>Sl Enc.int 8 G' r (Q1 l x):=by
 refine Zf ft [] Tryz.func193 rfl rfl ?_
 have hS:=St.start (X:=[]) hG
 have bd1:=hvl.bound
 refine Zj hvl ZN rfl rfl ?_
 refine LP.go ft [] (fun m ρ1 w1=>∃ (i : Nat),∃ (G1 : GH),m = (0 + i) ∧ G.le G1 ∧ St w [] G G1 [] w1 ∧ FR ρ1 [(0,vl),(1, .int .i64 x),(5, .int .i64 (i : Int))] ∧ i ≤ l.length ∧ ZdV l x i) _ ⟨l.length,G,rfl,(G.le_refl),hS,⟨rfl,rfl,rfl,trivial⟩,(by omega),(ZdV.start)⟩ ?_
 rintro m ρ1 w1 ⟨i,G1,rfl,hle1,hS1,hF9,f1,f2⟩
 refine hF9.set ?_
 clear hF9
 refine YL (i : Int) 0 rfl rfl rfl (fun h1=>?_) (fun h1=>?_)
 ·refine X2 i (by omega) (by have hreach : reach = 140737488355328:=rfl; omega) rfl rfl rfl ?_
  refine WL.indexAddr (hvl.mono hle1) (i - 1) (by omega) ZN Zl rfl rfl rfl rfl (fun p1 x1 hx1 he1=>?_)
  obtain ⟨cs1,hc1,hr1⟩:=he1
  obtain ⟨rfl,hb1⟩:=hr1
  refine Za hS1 hc1 Zl rfl rfl rfl ?_
  refine Qo x1 x rfl rfl rfl (fun h2=>?_) (fun h2=>?_)
  ·refine X2 i (by omega) (by have hreach : reach = 140737488355328:=rfl; omega) rfl rfl rfl ?_
   exact BK.mk' _ ⟨i - 1,G1,rfl,hle1,hS1,⟨rfl,rfl,rfl,trivial⟩,(by omega),(by exact ZdV.step ‹_› ‹_› (by omega))⟩ (show (0 + (i - 1)) < (0 + i) by omega)
  have bd2:=hvl.bound
  refine Zj (hvl.mono hle1) ZN rfl rfl ?_
  refine Zo (i : Int) (l.length : Int) rfl rfl rfl (fun h3=>?_) (fun h3=>?_)
  ·refine WL.indexAddr (hvl.mono hle1) i (by omega) ZN Zl rfl rfl rfl rfl (fun p2 x2 hx2 he2=>?_)
   obtain ⟨cs2,hc2,hr2⟩:=he2
   obtain ⟨rfl,hb2⟩:=hr2
   refine Za hS1 hc2 Zl rfl rfl rfl ?_
   refine Zx x2 x rfl rfl rfl (fun h4=>?_) (fun h4=>?_)
   ·exact RT hS1 rfl (Sl.cast (hvl.mono hle1) (by (exact (ZlP (by first | exact ZdV.zero ‹_› (by omega) | exact ZdV.pos ‹_› ‹_› ‹_› ‹_›) ‹_› ‹_›).symm)))
   refine WL.buildSlice _ [] [] hS1 Yg rfl rfl rfl rfl (fun z hz=>by match z,hz with | [],_=>rfl) (fun b1 w2 hn1 hS2=>?_)
   refine Yh (hvl.mono hle1) i (by omega) ZN Zl rfl rfl rfl rfl (fun v1 hs1=>?_)
   have hr3:=Yf.empty Enc.int 8 3 G1 b1
   refine ZU Yg rfl rfl rfl hr3 hS2 0 rfl hs1 (by have hreach : reach = 140737488355328:=rfl; simp only [List.length_append,List.length_cons,List.length_nil,List.length_take,List.length_drop]; omega) (by have hreach : reach = 140737488355328:=rfl; simp only [List.length_append,List.length_cons,List.length_nil,List.length_take,List.length_drop]; omega) rfl rfl rfl (fun v2 o1 w3 hr4 hS3=>?_)
   refine WL.buildSlice _ [(0,[.int .i64 x])] [.int .i64 x] hS3 Yg rfl rfl rfl rfl (fun z hz=>by match z,hz with | [z0],_=>rfl) (fun b2 w4 hn2 hS4=>?_)
   refine WL.push (m:=([x] : List Int)) Yg rfl rfl rfl hr4 hS4 1 rfl 0 _ _ _ _ _ rfl ⟨[.int .i64 x],_,rfl,⟨rfl,hx0⟩,rfl⟩ rfl (by have hreach : reach = 140737488355328:=rfl; simp only [List.length_append,List.length_cons,List.length_nil,List.length_take,List.length_drop]; omega) (by have hreach : reach = 140737488355328:=rfl; simp only [List.length_append,List.length_cons,List.length_nil,List.length_take,List.length_drop]; omega) rfl rfl rfl (fun v3 o2 w5 hr5 hS5=>?_)
   have hS6:=hS5.tail
   refine Xw (hvl.mono hle1) i (by omega) ZN Zl rfl rfl rfl rfl (fun v4 hs2=>?_)
   refine ZU Yg rfl rfl rfl hr5 hS6 0 rfl hs2 (by have hreach : reach = 140737488355328:=rfl; simp only [List.length_append,List.length_cons,List.length_nil,List.length_take,List.length_drop]; omega) (by have hreach : reach = 140737488355328:=rfl; simp only [List.length_append,List.length_cons,List.length_nil,List.length_take,List.length_drop]; omega) rfl rfl rfl (fun v5 o3 w6 hr6 hS7=>?_)
   obtain ⟨G2,hle2,hs3,hS8⟩:=Yf.freeze hr6 hS7 0 rfl
   exact RT hS8 rfl (Sl.cast hs3 (by (exact (Zku (by first | exact ZdV.zero ‹_› (by omega) | exact ZdV.pos ‹_› ‹_› ‹_› ‹_›) ‹_› ‹_›).symm)))
  refine WL.buildSlice _ [] [] hS1 Yg rfl rfl rfl rfl (fun z hz=>by match z,hz with | [],_=>rfl) (fun b3 w7 hn3 hS9=>?_)
  refine Yh (hvl.mono hle1) i (by omega) ZN Zl rfl rfl rfl rfl (fun v6 hs4=>?_)
  have hr7:=Yf.empty Enc.int 8 3 G1 b3
  refine ZU Yg rfl rfl rfl hr7 hS9 0 rfl hs4 (by have hreach : reach = 140737488355328:=rfl; simp only [List.length_append,List.length_cons,List.length_nil,List.length_take,List.length_drop]; omega) (by have hreach : reach = 140737488355328:=rfl; simp only [List.length_append,List.length_cons,List.length_nil,List.length_take,List.length_drop]; omega) rfl rfl rfl (fun v7 o4 w9 hr8 hS10=>?_)
  refine WL.buildSlice _ [(0,[.int .i64 x])] [.int .i64 x] hS10 Yg rfl rfl rfl rfl (fun z hz=>by match z,hz with | [z0],_=>rfl) (fun b4 w10 hn4 hS11=>?_)
  refine WL.push (m:=([x] : List Int)) Yg rfl rfl rfl hr8 hS11 1 rfl 0 _ _ _ _ _ rfl ⟨[.int .i64 x],_,rfl,⟨rfl,hx0⟩,rfl⟩ rfl (by have hreach : reach = 140737488355328:=rfl; simp only [List.length_append,List.length_cons,List.length_nil,List.length_take,List.length_drop]; omega) (by have hreach : reach = 140737488355328:=rfl; simp only [List.length_append,List.length_cons,List.length_nil,List.length_take,List.length_drop]; omega) rfl rfl rfl (fun v9 o5 w11 hr9 hS12=>?_)
  have hS13:=hS12.tail
  refine Xw (hvl.mono hle1) i (by omega) ZN Zl rfl rfl rfl rfl (fun v10 hs5=>?_)
  refine ZU Yg rfl rfl rfl hr9 hS13 0 rfl hs5 (by have hreach : reach = 140737488355328:=rfl; simp only [List.length_append,List.length_cons,List.length_nil,List.length_take,List.length_drop]; omega) (by have hreach : reach = 140737488355328:=rfl; simp only [List.length_append,List.length_cons,List.length_nil,List.length_take,List.length_drop]; omega) rfl rfl rfl (fun v11 o6 w12 hr10 hS14=>?_)
  obtain ⟨G3,hle3,hs6,hS15⟩:=Yf.freeze hr10 hS14 0 rfl
  exact RT hS15 rfl (Sl.cast hs6 (by (exact (Zkt (by first | exact ZdV.zero ‹_› (by omega) | exact ZdV.pos ‹_› ‹_› ‹_› ‹_›) (by omega)).symm)))
 have bd3:=hvl.bound
 refine Zj (hvl.mono hle1) ZN rfl rfl ?_
 refine Zo (i : Int) (l.length : Int) rfl rfl rfl (fun h5=>?_) (fun h5=>?_)
 ·refine WL.indexAddr (hvl.mono hle1) i (by omega) ZN Zl rfl rfl rfl rfl (fun p3 x3 hx3 he3=>?_)
  obtain ⟨cs3,hc3,hr11⟩:=he3
  obtain ⟨rfl,hb3⟩:=hr11
  refine Za hS1 hc3 Zl rfl rfl rfl ?_
  refine Zx x3 x rfl rfl rfl (fun h6=>?_) (fun h6=>?_)
  ·exact RT hS1 rfl (Sl.cast (hvl.mono hle1) (by (exact (ZlP (by first | exact ZdV.zero ‹_› (by omega) | exact ZdV.pos ‹_› ‹_› ‹_› ‹_›) ‹_› ‹_›).symm)))
  refine WL.buildSlice _ [] [] hS1 Yg rfl rfl rfl rfl (fun z hz=>by match z,hz with | [],_=>rfl) (fun b5 w13 hn5 hS16=>?_)
  refine Yh (hvl.mono hle1) i (by omega) ZN Zl rfl rfl rfl rfl (fun v12 hs7=>?_)
  have hr12:=Yf.empty Enc.int 8 3 G1 b5
  refine ZU Yg rfl rfl rfl hr12 hS16 0 rfl hs7 (by have hreach : reach = 140737488355328:=rfl; simp only [List.length_append,List.length_cons,List.length_nil,List.length_take,List.length_drop]; omega) (by have hreach : reach = 140737488355328:=rfl; simp only [List.length_append,List.length_cons,List.length_nil,List.length_take,List.length_drop]; omega) rfl rfl rfl (fun v13 o7 w14 hr13 hS17=>?_)
  refine WL.buildSlice _ [(0,[.int .i64 x])] [.int .i64 x] hS17 Yg rfl rfl rfl rfl (fun z hz=>by match z,hz with | [z0],_=>rfl) (fun b6 w15 hn6 hS18=>?_)
  refine WL.push (m:=([x] : List Int)) Yg rfl rfl rfl hr13 hS18 1 rfl 0 _ _ _ _ _ rfl ⟨[.int .i64 x],_,rfl,⟨rfl,hx0⟩,rfl⟩ rfl (by have hreach : reach = 140737488355328:=rfl; simp only [List.length_append,List.length_cons,List.length_nil,List.length_take,List.length_drop]; omega) (by have hreach : reach = 140737488355328:=rfl; simp only [List.length_append,List.length_cons,List.length_nil,List.length_take,List.length_drop]; omega) rfl rfl rfl (fun v14 o8 w16 hr14 hS19=>?_)
  have hS20:=hS19.tail
  refine Xw (hvl.mono hle1) i (by omega) ZN Zl rfl rfl rfl rfl (fun v15 hs8=>?_)
  refine ZU Yg rfl rfl rfl hr14 hS20 0 rfl hs8 (by have hreach : reach = 140737488355328:=rfl; simp only [List.length_append,List.length_cons,List.length_nil,List.length_take,List.length_drop]; omega) (by have hreach : reach = 140737488355328:=rfl; simp only [List.length_append,List.length_cons,List.length_nil,List.length_take,List.length_drop]; omega) rfl rfl rfl (fun v16 o9 w17 hr15 hS21=>?_)
  obtain ⟨G4,hle4,hs9,hS22⟩:=Yf.freeze hr15 hS21 0 rfl
  exact RT hS22 rfl (Sl.cast hs9 (by (exact (Zku (by first | exact ZdV.zero ‹_› (by omega) | exact ZdV.pos ‹_› ‹_› ‹_› ‹_›) ‹_› ‹_›).symm)))
 refine WL.buildSlice _ [] [] hS1 Yg rfl rfl rfl rfl (fun z hz=>by match z,hz with | [],_=>rfl) (fun b7 w18 hn7 hS23=>?_)
 refine Yh (hvl.mono hle1) i (by omega) ZN Zl rfl rfl rfl rfl (fun v17 hs10=>?_)
 have hr16:=Yf.empty Enc.int 8 3 G1 b7
 refine ZU Yg rfl rfl rfl hr16 hS23 0 rfl hs10 (by have hreach : reach = 140737488355328:=rfl; simp only [List.length_append,List.length_cons,List.length_nil,List.length_take,List.length_drop]; omega) (by have hreach : reach = 140737488355328:=rfl; simp only [List.length_append,List.length_cons,List.length_nil,List.length_take,List.length_drop]; omega) rfl rfl rfl (fun v18 o10 w19 hr17 hS24=>?_)
 refine WL.buildSlice _ [(0,[.int .i64 x])] [.int .i64 x] hS24 Yg rfl rfl rfl rfl (fun z hz=>by match z,hz with | [z0],_=>rfl) (fun b8 w20 hn8 hS25=>?_)
 refine WL.push (m:=([x] : List Int)) Yg rfl rfl rfl hr17 hS25 1 rfl 0 _ _ _ _ _ rfl ⟨[.int .i64 x],_,rfl,⟨rfl,hx0⟩,rfl⟩ rfl (by have hreach : reach = 140737488355328:=rfl; simp only [List.length_append,List.length_cons,List.length_nil,List.length_take,List.length_drop]; omega) (by have hreach : reach = 140737488355328:=rfl; simp only [List.length_append,List.length_cons,List.length_nil,List.length_take,List.length_drop]; omega) rfl rfl rfl (fun v19 o11 w21 hr18 hS26=>?_)
 have hS27:=hS26.tail
 refine Xw (hvl.mono hle1) i (by omega) ZN Zl rfl rfl rfl rfl (fun v20 hs11=>?_)
 refine ZU Yg rfl rfl rfl hr18 hS27 0 rfl hs11 (by have hreach : reach = 140737488355328:=rfl; simp only [List.length_append,List.length_cons,List.length_nil,List.length_take,List.length_drop]; omega) (by have hreach : reach = 140737488355328:=rfl; simp only [List.length_append,List.length_cons,List.length_nil,List.length_take,List.length_drop]; omega) rfl rfl rfl (fun v21 o12 w22 hr19 hS28=>?_)
 obtain ⟨G5,hle5,hs12,hS29⟩:=Yf.freeze hr19 hS28 0 rfl
 exact RT hS29 rfl (Sl.cast hs12 (by (exact (Zkt (by first | exact ZdV.zero ‹_› (by omega) | exact ZdV.pos ‹_› ‹_› ‹_› ‹_›) (by omega)).symm)))
theorem Zjf {G : GH} {w : World} (hG : G.In w) (l : List Span) (vl : Value) (hvl : Sl SpanE 16 G vl l) (hl : l.length ≤ 100000) : CL Tryz.prog (nat_lit 149) #[vl] [] w G fun G' _ r=>Sl Enc.int 8 G' r (Y6 l):=by
 refine Zf ft [] Tryz.func149 rfl rfl ?_
 have hS:=St.start (X:=[]) hG
 refine LP.go ft [] (fun m ρ1 w1=>∃ (k1 : Nat),∃ (vk : Value),∃ (G1 : GH),m = l.length - k1 ∧ G.le G1 ∧ St w [] G G1 [] w1 ∧ FR ρ1 [(0,vl),(3,vk),(4, .int .i64 (k1 : Int))] ∧ k1 ≤ l.length ∧ Sl Enc.int 8 G1 vk (Y6 (l.take k1))) _ ⟨0, .slice none 0 0,G,rfl,(G.le_refl),hS,⟨rfl,rfl,rfl,trivial⟩,(by omega),(Sl.cast (Sl.nil Enc.int 8 G) (by simp [Y6]))⟩ ?_
 rintro m ρ1 w1 ⟨k1,vk,G1,rfl,hle1,hS1,hF9,f1,f2⟩
 refine hF9.set ?_
 clear hF9
 have hEl:=Zdj (l.take k1)
 have hEt:=List.length_take_le' k1 l
 have bd1:=hvl.bound
 refine Zj (hvl.mono hle1) Yd rfl rfl ?_
 refine Zo (k1 : Int) (l.length : Int) rfl rfl rfl (fun h1=>?_) (fun h1=>?_)
 ·refine WL.indexAddr (hvl.mono hle1) k1 (by omega) Yd Zm rfl rfl rfl rfl (fun p1 x1 hx1 he1=>?_)
  obtain ⟨cs1,hc1,hr1⟩:=he1
  obtain ⟨rfl,hb1,hb2⟩:=Z2 hr1
  refine Za hS1 (XZ.drop 0 hc1) Zl rfl rfl rfl ?_
  refine Z6 hS1 Zsd rfl rfl rfl (Zll hS1.imm (Y6 (l.take k1)) x1.a _ f2 ‹_› (by omega)) (fun w2 G2 r1 hpost1 hS2 hle2=>?_)
  refine WL.indexAddr (hvl.mono (hle1.trans hle2)) k1 (by omega) Yd Zm rfl rfl rfl rfl (fun p2 x2 hx2 he2=>?_)
  obtain rfl : x1 = x2:=Option.some.inj (hx1.symm.trans hx2)
  obtain ⟨cs2,hc2,hr2⟩:=he2
  obtain ⟨rfl,hb3,hb4⟩:=Z2 hr2
  refine Za hS2 (XZ.drop 1 hc2) Zl rfl rfl rfl ?_
  refine Z6 hS2 Zsd rfl rfl rfl (Zll hS2.imm (Q1 (Y6 (l.take k1)) x1.a) x1.b _ hpost1 ‹_› (by (have hi9:=Zgv (Y6 (l.take k1)) x1.a; omega))) (fun w3 G3 r2 hpost2 hS3 hle3=>?_)
  refine Zk k1 (by have hreach : reach = 140737488355328:=rfl; omega) rfl rfl rfl ?_
  exact BK.mk' _ ⟨k1 + 1,r2,G3,rfl,(hle1.trans (hle2.trans hle3)),hS3,⟨rfl,rfl,rfl,trivial⟩,(by omega),(Sl.cast hpost2 (Znc ‹_›).symm)⟩ (show l.length - (k1 + 1) < l.length - k1 by omega)
 exact RT hS1 rfl (Sl.cast f2 (by exact Zon (by omega)))
theorem ZvV {G : GH} {w : World} (hG : G.In w) (l : List Span) (s : Span) (vd : Value) (od : OB) (hvd : Yf SpanE 16 (nat_lit 33) G vd l od) (hod : QW w G od) (cs : List Value) (hcs : SpanE.rep G s cs) (hl : l.length ≤ 1000000) : CL Tryz.prog (nat_lit 152) #[vd, .agg cs.toArray] (QL od) w G fun G' w' r=>∃ (o' : OB),Yf SpanE 16 (nat_lit 33) G' r (Zcv l s) o' ∧ Zk0 w w' G' od o':=by
 refine Zf ft [] Tryz.func152 rfl rfl ?_
 have hS:=St.lentO hG hod
 obtain ⟨rfl,hb1,hb2⟩:=Z2 hcs
 refine Z1 [.int .i64 s.a, .int .i64 s.b] _ hS rfl rfl rfl (fun p1 w1 G1 hle1 hsp1 hc1 hS1=>?_)
 have bd1:=hvd.bound
 rcases Cmp.dec .gtr (l.length : Int) 0 with ⟨hb3,q1⟩ | ⟨hb3,q1⟩
 ·have h1 : 0 < (l.length : Int):=q1
  clear q1
  have bd2:=hvd.bound
  obtain ⟨p2,x1,ec1,hx1,hr1,ra1,ep1⟩:=Yf.atP (hvd.mono hle1) (l.length - 1) (by omega)
  obtain ⟨rfl,hb4,hb5⟩:=Z2 hr1
  rcases Cmp.dec .eql x1.b s.a with ⟨hb6,q2⟩ | ⟨hb6,q2⟩
  ·have h2 : x1.b = s.a:=q2
   clear q2
   refine dr [] [(6, .int .i64 (l.length : Int)),(7, .bool true),(11, .int .i64 (l.length : Int)),(12, .int .i64 ((l.length - 1 : Nat) : Int)),(13, .pointer (some p2)),(15, .int .i64 x1.b),(17, .int .i64 s.a),(18, .bool true)] hS1 ⟨fun _=>X9 (hvd.mono hle1) Yd rfl rfl <| nu rfl rfl,fun _=>WL.cmpV .gtr rfl .i64 (l.length : Int) 0 _ hb3 rfl rfl rfl <| nu rfl rfl,fun _=>X9 (hvd.mono hle1) Yd rfl rfl <| nu rfl rfl,fun _=>X2 l.length (by omega) (by have hreach : reach = 140737488355328:=rfl; omega) rfl rfl rfl <| nu rfl rfl,fun _=>Zh (l.length - 1) ep1 Yd Zm rfl rfl rfl rfl <| nu rfl rfl,fun _ hSw=>Zax ra1 hSw 0 rfl 1 _ rfl Zl rfl rfl rfl <| nu rfl rfl,fun _ hSw=>Za hSw (XZ.drop 0 hc1) Zl rfl rfl rfl <| nu rfl rfl,fun _=>WL.cmpV .eql rfl .i64 x1.b s.a _ hb6 rfl rfl rfl <| nu rfl rfl,trivial⟩ (fun w2 hS2=>?_)
   have bd3:=hvd.bound
   refine X9 (hvd.mono hle1) Yd rfl rfl ?_
   refine X2 l.length (by omega) (by have hreach : reach = 140737488355328:=rfl; omega) rfl rfl rfl ?_
   refine Za hS2 (XZ.drop 1 hc1) Zl rfl rfl rfl ?_
   refine Q2 (hvd.mono hle1) (l.length - 1) (by omega) Yd Zm rfl rfl rfl rfl (fun p3 x2 ec2 hx2 hr2 ra2=>?_)
   obtain rfl : x1 = x2:=Option.some.inj (hx1.symm.trans hx2)
   obtain ⟨rfl,hb7,hb8⟩:=Z2 hr2
   refine Zch (hvd.mono hle1) ra2 hS2 0 rfl (by omega) rfl 1 _ [.int .i64 s.b] (Span.mk x1.a s.b) [.int .i64 x1.a, .int .i64 s.b] rfl Zl rfl (Nat.le_of_ble_eq_true rfl) rfl rfl (Zq (Span.mk x1.a s.b) hb7 hb2) rfl rfl rfl (fun o1 w3 hr3 hS3=>?_)
   exact RT hS3 rfl ⟨_,Yf.cast hr3 (by exact (Zoo ‹_› ‹_›).symm),hS3.rowOut 0 rfl⟩
  have h2 : x1.b ≠ s.a:=q2
  clear q2
  refine dr [] [(6, .int .i64 (l.length : Int)),(7, .bool true),(11, .int .i64 (l.length : Int)),(12, .int .i64 ((l.length - 1 : Nat) : Int)),(13, .pointer (some p2)),(15, .int .i64 x1.b),(17, .int .i64 s.a),(18, .bool false)] hS1 ⟨fun _=>X9 (hvd.mono hle1) Yd rfl rfl <| nu rfl rfl,fun _=>WL.cmpV .gtr rfl .i64 (l.length : Int) 0 _ hb3 rfl rfl rfl <| nu rfl rfl,fun _=>X9 (hvd.mono hle1) Yd rfl rfl <| nu rfl rfl,fun _=>X2 l.length (by omega) (by have hreach : reach = 140737488355328:=rfl; omega) rfl rfl rfl <| nu rfl rfl,fun _=>Zh (l.length - 1) ep1 Yd Zm rfl rfl rfl rfl <| nu rfl rfl,fun _ hSw=>Zax ra1 hSw 0 rfl 1 _ rfl Zl rfl rfl rfl <| nu rfl rfl,fun _ hSw=>Za hSw (XZ.drop 0 hc1) Zl rfl rfl rfl <| nu rfl rfl,fun _=>WL.cmpV .eql rfl .i64 x1.b s.a _ hb6 rfl rfl rfl <| nu rfl rfl,trivial⟩ (fun w4 hS4=>?_)
  refine Zd hS4 hc1 [.int .i64 s.a, .int .i64 s.b] Zm rfl rfl rfl rfl rfl ?_
  refine WL.buildSlice _ [(0,[.int .i64 s.a, .int .i64 s.b])] [.int .i64 s.a, .int .i64 s.b] hS4 Y8 rfl rfl rfl rfl (fun z hz=>by match z,hz with | [z0,z1],_=>rfl) (fun b1 w5 hn1 hS5=>?_)
  refine WL.push (m:=([s] : List Span)) Y8 rfl rfl rfl (hvd.mono hle1) hS5 1 rfl 0 _ _ _ _ _ rfl ⟨[.int .i64 s.a, .int .i64 s.b],_,rfl,(Zq s hb1 hb2),rfl⟩ rfl (by have hreach : reach = 140737488355328:=rfl; simp only [List.length_cons,List.length_nil]; omega) (by have hreach : reach = 140737488355328:=rfl; simp only [List.length_cons,List.length_nil]; omega) rfl rfl rfl (fun v1 o2 w6 hr4 hS6=>?_)
  have hS7:=hS6.tail
  exact RT hS7 rfl ⟨_,Yf.cast hr4 (by exact (Zqz ‹_› ‹_›).symm),hS7.rowOut 0 rfl⟩
 have h1 : (l.length : Int) ≤ 0:=q1
 clear q1
 refine dr [] [(6, .int .i64 (l.length : Int)),(7, .bool false)] hS1 ⟨fun _=>X9 (hvd.mono hle1) Yd rfl rfl <| nu rfl rfl,fun _=>WL.cmpV .gtr rfl .i64 (l.length : Int) 0 _ hb3 rfl rfl rfl <| nu rfl rfl,trivial⟩ (fun w7 hS8=>?_)
 refine Zd hS8 hc1 [.int .i64 s.a, .int .i64 s.b] Zm rfl rfl rfl rfl rfl ?_
 refine WL.buildSlice _ [(0,[.int .i64 s.a, .int .i64 s.b])] [.int .i64 s.a, .int .i64 s.b] hS8 Y8 rfl rfl rfl rfl (fun z hz=>by match z,hz with | [z0,z1],_=>rfl) (fun b2 w9 hn2 hS9=>?_)
 refine WL.push (m:=([s] : List Span)) Y8 rfl rfl rfl (hvd.mono hle1) hS9 1 rfl 0 _ _ _ _ _ rfl ⟨[.int .i64 s.a, .int .i64 s.b],_,rfl,(Zq s hb1 hb2),rfl⟩ rfl (by have hreach : reach = 140737488355328:=rfl; simp only [List.length_cons,List.length_nil]; omega) (by have hreach : reach = 140737488355328:=rfl; simp only [List.length_cons,List.length_nil]; omega) rfl rfl rfl (fun v2 o3 w10 hr5 hS10=>?_)
 have hS11:=hS10.tail
 exact RT hS11 rfl ⟨_,Yf.cast hr5 (by exact (Zkv (by omega)).symm),hS11.rowOut 0 rfl⟩
theorem ZpF {G : GH} {w : World} (hG : G.In w) (kind : Int) (a b : Bool) : CL Tryz.prog (nat_lit 150) #[.int .i64 kind, .bool a, .bool b] [] w G fun _ _ r=>r = .bool (Xv kind a b):=by
 refine Zf ft [] Tryz.func150 rfl rfl ?_
 have hS:=St.start (X:=[]) hG
 refine Zx kind 1 rfl rfl rfl (fun h1=>?_) (fun h1=>?_)
 ·refine XG (d:=1) rfl (fun (h2 : a = true)=>?_) (fun (h2 : a = false)=>?_)
  ·exact RB hS rfl (by unfold Xv; simp_all)
  exact RB hS rfl (by unfold Xv; simp_all)
 refine Zx kind 2 rfl rfl rfl (fun h3=>?_) (fun h3=>?_)
 ·refine XG (d:=1) rfl (fun (h4 : a = true)=>?_) (fun (h4 : a = false)=>?_)
  ·exact RB hS rfl (by unfold Xv; simp_all)
  exact RB hS rfl (by unfold Xv; simp_all)
 refine Zx kind 3 rfl rfl rfl (fun h5=>?_) (fun h5=>?_)
 ·refine XG (d:=1) rfl (fun (h6 : a = true)=>?_) (fun (h6 : a = false)=>?_)
  ·exact RB hS rfl (by unfold Xv; simp_all)
  exact RB hS rfl (by unfold Xv; simp_all)
 refine Zow a b ul4 rfl rfl rfl ?_
 exact RB hS rfl (by unfold Xv; simp_all)
theorem ZpG {G : GH} {w : World} (hG : G.In w) (kind : Int) (a b : List Span) (va : Value) (hva : Sl SpanE 16 G va a) (vb : Value) (hvb : Sl SpanE 16 G vb b) (hal : a.length ≤ 10000) (hbl : b.length ≤ 10000) : CL Tryz.prog (nat_lit 98) #[.int .i64 kind,va,vb] [] w G fun G' _ r=>Sl SpanE 16 G' r (Yn kind a b):=by
 refine Zf ft [] Tryz.func98 rfl rfl ?_
 have hS:=St.start (X:=[]) hG
 refine WL.buildSlice _ [] [] hS Y8 rfl rfl rfl rfl (fun z hz=>by match z,hz with | [],_=>rfl) (fun b1 w1 hn1 hS1=>?_)
 have hr1:=Yf.empty SpanE 16 33 G b1
 refine ZU Y8 rfl rfl rfl hr1 hS1 0 rfl hva (by have hreach : reach = 140737488355328:=rfl; simp only [List.length_append,List.length_cons,List.length_nil]; omega) (by have hreach : reach = 140737488355328:=rfl; simp only [List.length_append,List.length_cons,List.length_nil]; omega) rfl rfl rfl (fun v1 o1 w2 hr2 hS2=>?_)
 refine ZU Y8 rfl rfl rfl hr2 hS2 0 rfl hvb (by have hreach : reach = 140737488355328:=rfl; simp only [List.length_append,List.length_cons,List.length_nil]; omega) (by have hreach : reach = 140737488355328:=rfl; simp only [List.length_append,List.length_cons,List.length_nil]; omega) rfl rfl rfl (fun v2 o2 w3 hr3 hS3=>?_)
 obtain ⟨G1,hle1,hs1,hS4⟩:=Yf.freeze hr3 hS3 0 rfl
 refine Z6 hS4 ZrV rfl rfl rfl (Zjf hS4.imm (([] ++ a) ++ b) _ hs1 (by simp only [List.length_append,List.length_nil]; omega)) (fun w4 G2 r1 hpost1 hS5 hle2=>?_)
 have hEl9 : (Y6 (([] ++ a) ++ b)).length ≤ 40000:=by have h9:=Zdj (([] ++ a) ++ b); simp only [List.length_append,List.length_nil] at h9; omega
 have hS7:=hS5.pad
 refine LP.go ft [] (fun m ρ1 w1=>∃ (k1 : Nat),∃ (v3 : Value) (o3 : OB),∃ (G3 : GH),m = (Y6 (([] ++ a) ++ b)).length - k1 ∧ G2.le G3 ∧ St w [] G G3 [o3,none] w1 ∧ Yf SpanE 16 33 G3 v3 (Xl kind a b (Y6 (([] ++ a) ++ b)) k1) o3 ∧ FR ρ1 [(0, .int .i64 kind),(1,va),(2,vb),(7,r1),(8,v3),(9, .int .i64 (k1 : Int))] ∧ k1 ≤ (Y6 (([] ++ a) ++ b)).length ∧ (k1 < (Y6 (([] ++ a) ++ b)).length ∨ k1 = 0)) _ ⟨0,(.slice none 0 0),none,G2,rfl,(G2.le_refl),hS7,(Yf.nil SpanE 16 33 G2),⟨rfl,rfl,rfl,rfl,rfl,rfl,trivial⟩,(by omega),(by omega)⟩ ?_
 rintro m ρ1 w5 ⟨k1,v3,o3,G3,rfl,hle3,hS6,hr4,hF9,f1,f2⟩
 refine hF9.set ?_
 clear hF9
 have hCl:=Zfk (kind:=kind) (a:=a) (b:=b) (es:=Y6 (([] ++ a) ++ b)) k1
 refine Zk k1 (by have hreach : reach = 140737488355328:=rfl; omega) rfl rfl rfl ?_
 have bd1:=hpost1.bound
 refine Zj (hpost1.mono hle3) ZN rfl rfl ?_
 refine Zo ((k1 + 1 : Nat) : Int) (((Y6 (([] ++ a) ++ b)).length : Nat) : Int) rfl rfl rfl (fun h1=>?_) (fun h1=>?_)
 ·obtain ⟨p1,x1,hx1,he1,ep1⟩:=Sl.at (hpost1.mono hle3) k1 (by omega)
  obtain ⟨cs1,hc1,hr5⟩:=he1
  obtain ⟨rfl,hb1⟩:=hr5
  obtain ⟨p2,x2,hx2,he2,ep2⟩:=Sl.at (hpost1.mono hle3) k1 (by omega)
  obtain rfl : x1 = x2:=Option.some.inj (hx1.symm.trans hx2)
  obtain ⟨cs2,hc2,hr6⟩:=he2
  obtain ⟨rfl,hb2⟩:=hr6
  rcases Bool.eq_false_or_eq_true (Xv kind (YC a x1) (YC b x1)) with h2 | h2
  ·refine dr [] [(27, .pointer (some p1)),(28, .int .i64 x1),(29, .bool (YC a x1)),(33, .pointer (some p2)),(34, .int .i64 x1),(35, .bool (YC b x1)),(36, .bool true)] hS6 ⟨fun _=>Zh k1 ep1 ZN Zl rfl rfl rfl rfl <| nu rfl rfl,fun _ hSw=>Za hSw hc1 Zl rfl rfl rfl <| nu rfl rfl,fun _ hSw=>ZH hSw Zjx rfl rfl rfl (ZnK hSw.imm a x1 _ (hva.mono ((hle1.trans hle2).trans hle3))) rfl,fun _=>Zh k1 ep2 ZN Zl rfl rfl rfl rfl <| nu rfl rfl,fun _ hSw=>Za hSw hc2 Zl rfl rfl rfl <| nu rfl rfl,fun _ hSw=>ZH hSw Zjx rfl rfl rfl (ZnK hSw.imm b x1 _ (hvb.mono ((hle1.trans hle2).trans hle3))) rfl,fun _ hSw=>ZH hSw ZrW rfl rfl rfl (ZpF hSw.imm kind (YC a x1) (YC b x1)) (congrArg Value.bool h2.symm),trivial⟩ (fun w6 hS8=>?_)
   obtain ⟨p3,x3,hx3,he3,ep3⟩:=Sl.at (hpost1.mono hle3) k1 (by omega)
   obtain rfl : x1 = x3:=Option.some.inj (hx1.symm.trans hx3)
   obtain ⟨cs3,hc3,hr7⟩:=he3
   obtain ⟨rfl,hb3⟩:=hr7
   obtain ⟨p4,x4,hx4,he4,ep4⟩:=Sl.at (hpost1.mono hle3) (k1 + 1) (by omega)
   obtain ⟨cs4,hc4,hr8⟩:=he4
   obtain ⟨rfl,hb4⟩:=hr8
   refine dr [(11,false),(12,false)] [(40, .pointer (some p3)),(41, .int .i64 x1),(44, .int .i64 ((k1 + 1 : Nat) : Int)),(45, .pointer (some p4)),(46, .int .i64 x4),(47, .agg #[.int .i64 x1, .int .i64 x4])] hS8 ⟨fun _=>Zh k1 ep3 ZN Zl rfl rfl rfl rfl <| nu rfl rfl,fun _ hSw=>Za hSw hc3 Zl rfl rfl rfl <| nu rfl rfl,fun _=>Zk k1 (by have hreach : reach = 140737488355328:=rfl; omega) rfl rfl rfl <| nu rfl rfl,fun _=>Zh (k1 + 1) ep4 ZN Zl rfl rfl rfl rfl <| nu rfl rfl,fun _ hSw=>Za hSw hc4 Zl rfl rfl rfl <| nu rfl rfl,fun _=>WL.build _ [(0,[.int .i64 x1]),(1,[.int .i64 x4])] [.int .i64 x1, .int .i64 x4] Zm rfl Xg rfl rfl rfl rfl <| nu rfl rfl,trivial⟩ (fun w7 hS9=>?_)
   refine ZaC Zvw rfl rfl rfl (ZvV hS9.imm (Xl kind a b (Y6 (([] ++ a) ++ b)) k1) (Span.mk x1 x4) _ _ hr4 (hS9.lentAt 0 rfl) _ (Zq (Span.mk x1 x4) hb3 hb4) (by omega)) (fun w9 G4 r2 hres1 hpost2=>?_)
   have hle4:=hres1.le
   obtain ⟨o4,hr9,hf1⟩:=hpost2
   have hS11:=hS9.callRowO 0 rfl hres1 hf1
   refine Zk k1 (by have hreach : reach = 140737488355328:=rfl; omega) rfl rfl rfl ?_
   exact BK.mk' _ ⟨k1 + 1,r2,o4,G4,rfl,(hle3.trans hle4),hS11,(Yf.cast hr9 (by (exact (Zi6 ‹_› ‹_› ‹_›).symm))),⟨rfl,rfl,rfl,rfl,rfl,rfl,trivial⟩,(by omega),(by omega)⟩ (show (Y6 (([] ++ a) ++ b)).length - (k1 + 1) < (Y6 (([] ++ a) ++ b)).length - k1 by omega)
  refine dr [] [(27, .pointer (some p1)),(28, .int .i64 x1),(29, .bool (YC a x1)),(33, .pointer (some p2)),(34, .int .i64 x1),(35, .bool (YC b x1)),(36, .bool false)] hS6 ⟨fun _=>Zh k1 ep1 ZN Zl rfl rfl rfl rfl <| nu rfl rfl,fun _ hSw=>Za hSw hc1 Zl rfl rfl rfl <| nu rfl rfl,fun _ hSw=>ZH hSw Zjx rfl rfl rfl (ZnK hSw.imm a x1 _ (hva.mono ((hle1.trans hle2).trans hle3))) rfl,fun _=>Zh k1 ep2 ZN Zl rfl rfl rfl rfl <| nu rfl rfl,fun _ hSw=>Za hSw hc2 Zl rfl rfl rfl <| nu rfl rfl,fun _ hSw=>ZH hSw Zjx rfl rfl rfl (ZnK hSw.imm b x1 _ (hvb.mono ((hle1.trans hle2).trans hle3))) rfl,fun _ hSw=>ZH hSw ZrW rfl rfl rfl (ZpF hSw.imm kind (YC a x1) (YC b x1)) (congrArg Value.bool h2.symm),trivial⟩ (fun w10 hS12=>?_)
  refine Zk k1 (by have hreach : reach = 140737488355328:=rfl; omega) rfl rfl rfl ?_
  exact BK.mk' _ ⟨k1 + 1,v3,o3,G3,rfl,hle3,hS12,(Yf.cast hr4 (by (exact (Zoq ‹_› ‹_›).symm))),⟨rfl,rfl,rfl,rfl,rfl,rfl,trivial⟩,(by omega),(by omega)⟩ (show (Y6 (([] ++ a) ++ b)).length - (k1 + 1) < (Y6 (([] ++ a) ++ b)).length - k1 by omega)
 obtain ⟨G5,hle5,hs2,hS13⟩:=Yf.freeze hr4 hS6 0 rfl
 exact RT hS13 rfl (Sl.cast hs2 (by exact Zor (a:=[] ++ a) (b:=b) ‹_› (by omega)))
theorem ZpH {G : GH} {w : World} (hG : G.In w) (a b : List Span) (va : Value) (hva : Sl SpanE 16 G va a) (vb : Value) (hvb : Sl SpanE 16 G vb b) : CL Tryz.prog (nat_lit 183) #[va,vb] [] w G fun _ _ r=>r = .bool (decide (a = b)):=by
 refine Zf ft [] Tryz.func183 rfl rfl ?_
 have hS:=St.start (X:=[]) hG
 have bd1:=hva.bound
 refine Zj hva Yd rfl rfl ?_
 have bd2:=hvb.bound
 refine Zj hvb Yd rfl rfl ?_
 refine Yy (a.length : Int) (b.length : Int) rfl rfl rfl (fun h1=>?_) (fun h1=>?_)
 ·exact RB hS rfl (by rw [← Xy]; first | exact (XB (by omega)).symm | exact (XV (f:=fun (x y : Span)=>decide (x = y)) ‹_› ‹_› (decide_eq_false (by rintro rfl; first | exact absurd rfl ‹_› | simp_all))).symm | exact (XM (by omega) ‹_› (by omega)).symm)
 refine LP.go ft [] (fun m ρ1 w1=>∃ (k1 : Nat),∃ (G1 : GH),m = a.length - k1 ∧ G.le G1 ∧ St w [] G G1 [] w1 ∧ FR ρ1 [(0,va),(1,vb),(5, .int .i64 (k1 : Int))] ∧ k1 ≤ a.length ∧ ∀ j,j < k1 → ∀ x y,a[j]? = some x → b[j]? = some y → decide (x = y) = true) _ ⟨0,G,rfl,(G.le_refl),hS,⟨rfl,rfl,rfl,trivial⟩,(by omega),(by intro j hj; omega)⟩ ?_
 rintro m ρ1 w1 ⟨k1,G1,rfl,hle1,hS1,hF9,f1,f2⟩
 refine hF9.set ?_
 clear hF9
 have bd3:=hva.bound
 refine Zj (hva.mono hle1) Yd rfl rfl ?_
 refine Zo (k1 : Int) (a.length : Int) rfl rfl rfl (fun h2=>?_) (fun h2=>?_)
 ·obtain ⟨p1,x1,hx1,he1,ep1⟩:=Sl.at (hva.mono hle1) k1 (by omega)
  obtain ⟨cs1,hc1,hr1⟩:=he1
  obtain ⟨rfl,hb1,hb2⟩:=Z2 hr1
  obtain ⟨p2,x2,hx2,he2,ep2⟩:=Sl.at (hvb.mono hle1) k1 (by omega)
  obtain ⟨cs2,hc2,hr2⟩:=he2
  obtain ⟨rfl,hb3,hb4⟩:=Z2 hr2
  rcases Cmp.dec .neq x1.a x2.a with ⟨hb5,q1⟩ | ⟨hb5,q1⟩
  ·have h3 : x1.a ≠ x2.a:=q1
   clear q1
   refine dr [] [(19, .pointer (some p1)),(21, .int .i64 x1.a),(24, .pointer (some p2)),(26, .int .i64 x2.a),(27, .bool true)] hS1 ⟨fun _=>Zh k1 ep1 Yd Zm rfl rfl rfl rfl <| nu rfl rfl,fun _ hSw=>Za hSw (XZ.drop 0 hc1) Zl rfl rfl rfl <| nu rfl rfl,fun _=>Zh k1 ep2 Yd Zm rfl rfl rfl rfl <| nu rfl rfl,fun _ hSw=>Za hSw (XZ.drop 0 hc2) Zl rfl rfl rfl <| nu rfl rfl,fun _=>WL.cmpV .neq rfl .i64 x1.a x2.a _ hb5 rfl rfl rfl <| nu rfl rfl,trivial⟩ (fun w2 hS2=>?_)
   exact RB hS2 rfl (by rw [← Xy]; first | exact (XB (by omega)).symm | exact (XV (f:=fun (x y : Span)=>decide (x = y)) ‹_› ‹_› (decide_eq_false (by rintro rfl; first | exact absurd rfl ‹_› | simp_all))).symm | exact (XM (by omega) ‹_› (by omega)).symm)
  have h3 : x1.a = x2.a:=q1
  clear q1
  obtain ⟨p3,x3,hx3,he3,ep3⟩:=Sl.at (hva.mono hle1) k1 (by omega)
  obtain rfl : x1 = x3:=Option.some.inj (hx1.symm.trans hx3)
  obtain ⟨cs3,hc3,hr3⟩:=he3
  obtain ⟨rfl,hb6,hb7⟩:=Z2 hr3
  obtain ⟨p4,x4,hx4,he4,ep4⟩:=Sl.at (hvb.mono hle1) k1 (by omega)
  obtain rfl : x2 = x4:=Option.some.inj (hx2.symm.trans hx4)
  obtain ⟨cs4,hc4,hr4⟩:=he4
  obtain ⟨rfl,hb8,hb9⟩:=Z2 hr4
  rcases Cmp.dec .neq x1.b x2.b with ⟨hb10,q2⟩ | ⟨hb10,q2⟩
  ·have h4 : x1.b ≠ x2.b:=q2
   clear q2
   refine dr [] [(19, .pointer (some p1)),(21, .int .i64 x1.a),(24, .pointer (some p2)),(26, .int .i64 x2.a),(27, .bool false),(31, .pointer (some p3)),(33, .int .i64 x1.b),(36, .pointer (some p4)),(38, .int .i64 x2.b),(39, .bool true)] hS1 ⟨fun _=>Zh k1 ep1 Yd Zm rfl rfl rfl rfl <| nu rfl rfl,fun _ hSw=>Za hSw (XZ.drop 0 hc1) Zl rfl rfl rfl <| nu rfl rfl,fun _=>Zh k1 ep2 Yd Zm rfl rfl rfl rfl <| nu rfl rfl,fun _ hSw=>Za hSw (XZ.drop 0 hc2) Zl rfl rfl rfl <| nu rfl rfl,fun _=>WL.cmpV .neq rfl .i64 x1.a x2.a _ hb5 rfl rfl rfl <| nu rfl rfl,fun _=>Zh k1 ep3 Yd Zm rfl rfl rfl rfl <| nu rfl rfl,fun _ hSw=>Za hSw (XZ.drop 1 hc3) Zl rfl rfl rfl <| nu rfl rfl,fun _=>Zh k1 ep4 Yd Zm rfl rfl rfl rfl <| nu rfl rfl,fun _ hSw=>Za hSw (XZ.drop 1 hc4) Zl rfl rfl rfl <| nu rfl rfl,fun _=>WL.cmpV .neq rfl .i64 x1.b x2.b _ hb10 rfl rfl rfl <| nu rfl rfl,trivial⟩ (fun w3 hS3=>?_)
   exact RB hS3 rfl (by rw [← Xy]; first | exact (XB (by omega)).symm | exact (XV (f:=fun (x y : Span)=>decide (x = y)) ‹_› ‹_› (decide_eq_false (by rintro rfl; first | exact absurd rfl ‹_› | simp_all))).symm | exact (XM (by omega) ‹_› (by omega)).symm)
  have h4 : x1.b = x2.b:=q2
  clear q2
  refine dr [] [(19, .pointer (some p1)),(21, .int .i64 x1.a),(24, .pointer (some p2)),(26, .int .i64 x2.a),(27, .bool false),(31, .pointer (some p3)),(33, .int .i64 x1.b),(36, .pointer (some p4)),(38, .int .i64 x2.b),(39, .bool false)] hS1 ⟨fun _=>Zh k1 ep1 Yd Zm rfl rfl rfl rfl <| nu rfl rfl,fun _ hSw=>Za hSw (XZ.drop 0 hc1) Zl rfl rfl rfl <| nu rfl rfl,fun _=>Zh k1 ep2 Yd Zm rfl rfl rfl rfl <| nu rfl rfl,fun _ hSw=>Za hSw (XZ.drop 0 hc2) Zl rfl rfl rfl <| nu rfl rfl,fun _=>WL.cmpV .neq rfl .i64 x1.a x2.a _ hb5 rfl rfl rfl <| nu rfl rfl,fun _=>Zh k1 ep3 Yd Zm rfl rfl rfl rfl <| nu rfl rfl,fun _ hSw=>Za hSw (XZ.drop 1 hc3) Zl rfl rfl rfl <| nu rfl rfl,fun _=>Zh k1 ep4 Yd Zm rfl rfl rfl rfl <| nu rfl rfl,fun _ hSw=>Za hSw (XZ.drop 1 hc4) Zl rfl rfl rfl <| nu rfl rfl,fun _=>WL.cmpV .neq rfl .i64 x1.b x2.b _ hb10 rfl rfl rfl <| nu rfl rfl,trivial⟩ (fun w4 hS4=>?_)
  refine Zk k1 (by have hreach : reach = 140737488355328:=rfl; omega) rfl rfl rfl ?_
  exact BK.mk' _ ⟨k1 + 1,G1,rfl,hle1,hS4,⟨rfl,rfl,rfl,trivial⟩,(by omega),(by exact QF ‹_› ‹_› ‹_› (decide_eq_true (ZcU ‹_› ‹_›)))⟩ (show a.length - (k1 + 1) < a.length - k1 by omega)
 exact RB hS1 rfl (by rw [← Xy]; first | exact (XB (by omega)).symm | exact (XV (f:=fun (x y : Span)=>decide (x = y)) ‹_› ‹_› (decide_eq_false (by rintro rfl; first | exact absurd rfl ‹_› | simp_all))).symm | exact (XM (by omega) ‹_› (by omega)).symm)
end Go.Civ
