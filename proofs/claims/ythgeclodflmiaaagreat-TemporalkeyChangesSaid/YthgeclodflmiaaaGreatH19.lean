/- Lemmas. -/
import Derived.Test.YthgeclodflmiaaaGreatH10
import Derived.Test.YthgeclodflmiaaaGreatH14
import Derived.Test.YthgeclodflmiaaaGreatProg
import Derived.KernelRfl
import Derived.WalkKit
set_option linter.unusedVariables false
set_option linter.unusedSimpArgs false
set_option maxRecDepth 100000
set_option maxHeartbeats 4000000
namespace Go.Civ
open Go.Proofs
theorem Znj {G : GH} {w : World} (hG : G.In w) (a b : List Val) (va : Value) (hva : Sl ValE 32 G va a) (vb : Value) (hvb : Sl ValE 32 G vb b) : CL Tryz.prog (nat_lit 88) #[va,vb] [] w G fun _ _ r=>r = .bool (decide (a = b)):=by
 refine Zg ft [] Tryz.func88 rfl rfl ?_
 have hS:=St.start (X:=[]) hG
 have bd1:=hva.bound
 refine Zj hva Yd rfl rfl ?_
 have bd2:=hvb.bound
 refine Zj hvb Yd rfl rfl ?_
 refine Yf (a.length : Int) (b.length : Int) rfl rfl rfl (fun h1=>?_) (fun h1=>?_)
 ·exact RB hS rfl (by rw [← XS]; exact (Qw (by omega)).symm)
 have bd3:=hva.bound
 refine Zj hva Yd rfl rfl ?_
 refine LP.go ft [] (fun m ρ1 w1=>∃ (k1 : Nat),∃ (G1 : GH),m = a.length - k1 ∧ G.le G1 ∧ St w [] G G1 [] w1 ∧ FR ρ1 [(0,va),(1,vb),(12, .int .i64 (a.length : Int)),(13, .int .i64 (k1 : Int))] ∧ k1 ≤ a.length ∧ ∀ j,j < k1 → ∀ x y,a[j]? = some x → b[j]? = some y → decide (x = y) = true) _ ⟨0,G,rfl,(G.le_refl),hS,⟨rfl,rfl,rfl,rfl,trivial⟩,(by omega),(by intro j hj; omega)⟩ ?_
 rintro m ρ1 w1 ⟨k1,G1,rfl,hle1,hS1,hF9,f1,f2⟩
 refine hF9.set ?_
 clear hF9
 refine Zq (k1 : Int) (a.length : Int) rfl rfl rfl (fun h2=>?_) (fun h2=>?_)
 ·obtain ⟨p1,x1,hx1,he1,ep1⟩:=Sl.at (hva.mono hle1) k1 (by omega)
  obtain ⟨cs1,hc1,hr1⟩:=he1
  obtain ⟨rfl,hb1,hb2,hb3⟩:=ZV hr1
  obtain ⟨p2,x2,hx2,he2,ep2⟩:=Sl.at (hvb.mono hle1) k1 (by omega)
  obtain ⟨cs2,hc2,hr2⟩:=he2
  obtain ⟨rfl,hb4,hb5,hb6⟩:=ZV hr2
  rcases Classical.em (x1 = x2) with h3 | h3
  ·refine dr [] [(18, .pointer (some p1)),(19, .agg #[.int .i64 x1.k, .int .i64 x1.n,Zb x1.s]),(22, .pointer (some p2)),(23, .agg #[.int .i64 x2.k, .int .i64 x2.n,Zb x2.s]),(24, .bool false)] hS1 ⟨fun _=>Zk k1 ep1 Yd Z3 rfl rfl rfl rfl <| nu rfl rfl,fun _ hSw=>Zc hSw hc1 [.int .i64 x1.k, .int .i64 x1.n,Zb x1.s] Z3 rfl rfl rfl rfl rfl <| nu rfl rfl,fun _=>Zk k1 ep2 Yd Z3 rfl rfl rfl rfl <| nu rfl rfl,fun _ hSw=>Zc hSw hc2 [.int .i64 x2.k, .int .i64 x2.n,Zb x2.s] Z3 rfl rfl rfl rfl rfl <| nu rfl rfl,fun _=>XZ false (Q9 x1 x2) Zbp (by simp [h3]) rfl rfl rfl <| nu rfl rfl,trivial⟩ (fun w2 hS2=>?_)
   refine Zl k1 (by have hreach : reach = 140737488355328:=rfl; omega) rfl rfl rfl ?_
   exact BK.mk' _ ⟨k1 + 1,G1,rfl,hle1,hS2,⟨rfl,rfl,rfl,rfl,trivial⟩,(by omega),(by exact Zae ‹_› ‹_› ‹_› (decide_eq_true (by simp_all)))⟩ (show a.length - (k1 + 1) < a.length - k1 by omega)
  refine dr [] [(18, .pointer (some p1)),(19, .agg #[.int .i64 x1.k, .int .i64 x1.n,Zb x1.s]),(22, .pointer (some p2)),(23, .agg #[.int .i64 x2.k, .int .i64 x2.n,Zb x2.s]),(24, .bool true)] hS1 ⟨fun _=>Zk k1 ep1 Yd Z3 rfl rfl rfl rfl <| nu rfl rfl,fun _ hSw=>Zc hSw hc1 [.int .i64 x1.k, .int .i64 x1.n,Zb x1.s] Z3 rfl rfl rfl rfl rfl <| nu rfl rfl,fun _=>Zk k1 ep2 Yd Z3 rfl rfl rfl rfl <| nu rfl rfl,fun _ hSw=>Zc hSw hc2 [.int .i64 x2.k, .int .i64 x2.n,Zb x2.s] Z3 rfl rfl rfl rfl rfl <| nu rfl rfl,fun _=>XZ true (Q9 x1 x2) Zbp (by simp [h3]) rfl rfl rfl <| nu rfl rfl,trivial⟩ (fun w3 hS3=>?_)
  exact RB hS3 rfl (by rw [← XS]; exact (QS (f:=fun (x y : Val)=>decide (x = y)) ‹_› ‹_› (decide_eq_false (by simp_all))).symm)
 exact RB hS1 rfl (by rw [← XS]; exact (Q8 (by omega) ‹_› (by omega)).symm)
theorem Znk {G : GH} {w : World} (hG : G.In w) (a b : List Val) (pf : Val → Val → Int) (va : Value) (hva : Sl ValE 32 G va a) (vb : Value) (hvb : Sl ValE 32 G vb b) (fid : Nat) (fcap : Array Value) (hf : FnI2 Tryz.prog (Is ValE) (Is ValE) fid fcap G (fun x y=>x ∈ a ∧ y ∈ b) pf) : CL Tryz.prog (nat_lit 164) #[va,vb, .func (.func fid) #[] fcap] [] w G fun _ _ r=>r = .int .i64 (ZG pf a b):=by
 refine Zg ft [] Tryz.func164 rfl rfl ?_
 have hS:=St.start (X:=[]) hG
 have bd1:=hva.bound
 refine Zj hva Yd rfl rfl ?_
 refine LP.go ft [] (fun m ρ1 w1=>∃ (k1 : Nat),∃ (G1 : GH),m = a.length - k1 ∧ G.le G1 ∧ St w [] G G1 [] w1 ∧ FR ρ1 [(0,va),(1,vb),(2, .func (.func fid) #[] fcap),(11,va),(12, .int .i64 (a.length : Int)),(13, .int .i64 (k1 : Int))] ∧ k1 ≤ a.length ∧ k1 ≤ b.length ∧ ∀ j,j < k1 → ∀ x y,a[j]? = some x → b[j]? = some y → pf x y = 0) _ ⟨0,G,rfl,(G.le_refl),hS,⟨rfl,rfl,rfl,rfl,rfl,rfl,trivial⟩,(by omega),(by omega),(by intro j hj; omega)⟩ ?_
 rintro m ρ1 w1 ⟨k1,G1,rfl,hle1,hS1,hF9,f1,f2,f3⟩
 refine hF9.set ?_
 clear hF9
 refine Zq (k1 : Int) (a.length : Int) rfl rfl rfl (fun h1=>?_) (fun h1=>?_)
 ·refine WL.indexAddr (hva.mono hle1) k1 (by omega) Yd Z3 rfl rfl rfl rfl (fun p1 x1 hx1 he1=>?_)
  obtain ⟨cs1,hc1,hr1⟩:=he1
  obtain ⟨rfl,hb1,hb2,hb3⟩:=ZV hr1
  refine Zc hS1 hc1 [.int .i64 x1.k, .int .i64 x1.n,Zb x1.s] Z3 rfl rfl rfl rfl rfl ?_
  refine WL.alloc hS1 Z3 rfl rfl (fun b1 w2 hn1 hS2=>?_)
  refine WL.store hS2 0 _ _ _ 0 _ [.int .i64 x1.k, .int .i64 x1.n,Zb x1.s] [.int .i64 x1.k, .int .i64 x1.n,Zb x1.s] _ rfl rfl Z3 rfl (Nat.le_of_ble_eq_true rfl) rfl rfl rfl rfl rfl rfl (fun w3 hS3=>?_)
  obtain ⟨G2,hle2,hc2,hS4⟩:=hS3.shutB hn1
  have bd2:=hvb.bound
  refine Zj (hvb.mono (hle1.trans hle2)) Yd rfl rfl ?_
  refine Qv (k1 : Int) (b.length : Int) rfl rfl rfl (fun h2=>?_) (fun h2=>?_)
  ·exact RI hS4 rfl (by exact (Zoe ‹_› (by omega) (by omega)).symm)
  refine WL.indexAddr (hvb.mono (hle1.trans hle2)) k1 (by omega) Yd Z3 rfl rfl rfl rfl (fun p2 x2 hx2 he2=>?_)
  obtain ⟨cs2,hc3,hr2⟩:=he2
  obtain ⟨rfl,hb4,hb5,hb6⟩:=ZV hr2
  refine Zc hS4 hc3 [.int .i64 x2.k, .int .i64 x2.n,Zb x2.s] Z3 rfl rfl rfl rfl rfl ?_
  refine WL.alloc hS4 Z3 rfl rfl (fun b2 w4 hn2 hS5=>?_)
  refine WL.store hS5 0 _ _ _ 0 _ [.int .i64 x2.k, .int .i64 x2.n,Zb x2.s] [.int .i64 x2.k, .int .i64 x2.n,Zb x2.s] _ rfl rfl Z3 rfl (Nat.le_of_ble_eq_true rfl) rfl rfl rfl rfl rfl rfl (fun w5 hS6=>?_)
  obtain ⟨G3,hle3,hc4,hS7⟩:=hS6.shutB hn2
  refine Zc hS7 (hc2.mono hle3) [.int .i64 x1.k, .int .i64 x1.n,Zb x1.s] Z3 rfl rfl rfl rfl rfl <| Zc hS7 hc4 [.int .i64 x2.k, .int .i64 x2.n,Zb x2.s] Z3 rfl rfl rfl rfl rfl ?_
  refine Zn hS7 hf.body rfl rfl rfl (hf.call _ _ (.agg #[.int .i64 x1.k, .int .i64 x1.n,Zb x1.s]) (.agg #[.int .i64 x2.k, .int .i64 x2.n,Zb x2.s]) x1 x2 ((hle1.trans hle2).trans hle3) hS7.imm ⟨(List.mem_of_getElem? hx1),(List.mem_of_getElem? hx2)⟩ ⟨_,rfl,(Y3 x1 hb1 hb2 hb3)⟩ ⟨_,rfl,(Y3 x2 hb4 hb5 hb6)⟩) (fun w6 G4 hS8 hle4=>?_)
  refine Yf (pf x1 x2) 0 rfl rfl rfl (fun h3=>?_) (fun h3=>?_)
  ·exact RI hS8 rfl (by exact (Zib ‹_› ‹_› ‹_› ‹_›).symm)
  refine Zl k1 (by have hreach : reach = 140737488355328:=rfl; omega) rfl rfl rfl ?_
  exact BK.mk' _ ⟨k1 + 1,G4,rfl,(hle1.trans ((hle2.trans hle3).trans hle4)),hS8,⟨rfl,rfl,rfl,rfl,rfl,rfl,trivial⟩,(by omega),(by omega),(by exact Zae ‹_› ‹_› ‹_› ‹_›)⟩ (show a.length - (k1 + 1) < a.length - k1 by omega)
 have bd3:=hva.bound
 refine Zj (hva.mono hle1) Yd rfl rfl ?_
 have bd4:=hvb.bound
 refine Zj (hvb.mono hle1) Yd rfl rfl ?_
 refine Zq (a.length : Int) (b.length : Int) rfl rfl rfl (fun h4=>?_) (fun h4=>?_)
 ·exact RI hS1 rfl (by exact (ZmB ‹_› (by omega) (by omega)).symm)
 exact RI hS1 rfl (by exact (Zof ‹_› (by omega) (by omega) (by omega)).symm)
theorem Zos {G : GH} {w : World} (hG : G.In w) (x : Int) : CL Tryz.prog (nat_lit 153) #[.int .i64 x] [] w G fun _ _ r=>r = .bool (Zbo x):=by
 refine Zg ft [] Tryz.func153 rfl rfl ?_
 have hS:=St.start (X:=[]) hG
 refine Qv x (-4398046511104) rfl rfl rfl (fun h1=>?_) (fun h1=>?_)
 ·refine ZZ .leq rfl .i64 x 4398046511104 rfl rfl rfl ?_
  exact RB hS rfl (by unfold Zbo; simp [Cmp.b] <;> omega)
 exact RB hS rfl (by unfold Zbo; simp [Cmp.b] <;> omega)
theorem Zdg {G : GH} {w : World} (hG : G.In w) (x : Span) (cx : List Value) (hcx : SpanE.rep G x cx) : CL Tryz.prog (nat_lit 99) #[.agg cx.toArray] [] w G fun _ _ r=>r = .bool (Xx x):=by
 refine Zg ft [] Tryz.func99 rfl rfl ?_
 have hS:=St.start (X:=[]) hG
 obtain ⟨rfl,hb1,hb2⟩:=ZE hcx
 refine Zv [.int .i64 x.a, .int .i64 x.b] _ hS rfl rfl rfl (fun p1 w1 G1 hle1 hsp1 hc1 hS1=>?_)
 refine Za hS1 (Xw.drop 0 hc1) Zp rfl rfl rfl ?_
 refine Zn hS1 Zsg rfl rfl rfl (Zos hS1.imm x.a) (fun w2 G2 hS2 hle2=>?_)
 refine WL.split (fun (h1 : (Zbo x.a) = true)=>?_) (fun (h1 : (Zbo x.a) = false)=>?_)
 ·refine Za hS2 (Xw.drop 1 (hc1.mono hle2)) Zp rfl rfl rfl ?_
  refine Zn hS2 Zsg rfl rfl rfl (Zos hS2.imm x.b) (fun w3 G3 hS3 hle3=>?_)
  refine WL.split (fun (h2 : (Zbo x.b) = true)=>?_) (fun (h2 : (Zbo x.b) = false)=>?_)
  ·refine Za hS3 (Xw.drop 0 (hc1.mono (hle2.trans hle3))) Zp rfl rfl rfl <| Za hS3 (Xw.drop 1 (hc1.mono (hle2.trans hle3))) Zp rfl rfl rfl <| ZZ .lss rfl .i64 x.a x.b rfl rfl rfl ?_
   exact RB hS3 rfl (by unfold Xx; simp_all [Cmp.b] <;> (first | omega | (intros; omega) | (rw [Bool.eq_iff_iff]; simp <;> omega) | (rw [Bool.eq_iff_iff]; simp_all <;> omega)))
  exact RB hS3 rfl (by unfold Xx; simp_all [Cmp.b] <;> (first | omega | (intros; omega) | (rw [Bool.eq_iff_iff]; simp <;> omega) | (rw [Bool.eq_iff_iff]; simp_all <;> omega)))
 exact RB hS2 rfl (by unfold Xx; simp_all [Cmp.b] <;> (first | omega | (intros; omega) | (rw [Bool.eq_iff_iff]; simp <;> omega) | (rw [Bool.eq_iff_iff]; simp_all <;> omega)))
theorem XN {G : GH} {w : World} (hG : G.In w) (x : Val) (cx : List Value) (hcx : ValE.rep G x cx) : CL Tryz.prog (nat_lit 124) #[.agg cx.toArray] [] w G fun _ _ r=>r = .bool (Zz x):=by
 refine Zg ft [] Tryz.func124 rfl rfl ?_
 have hS:=St.start (X:=[]) hG
 obtain ⟨rfl,hb1,hb2,hb3⟩:=ZV hcx
 refine Zv [.int .i64 x.k, .int .i64 x.n,Zb x.s] _ hS rfl rfl rfl (fun p1 w1 G1 hle1 hsp1 hc1 hS1=>?_)
 refine Za hS1 (Xw.drop 0 hc1) Zp rfl rfl rfl ?_
 refine ZC x.k 1 rfl rfl rfl (fun h1=>?_) (fun h1=>?_)
 ·refine Za hS1 (Xw.drop 2 hc1) Yj rfl rfl rfl <| Ya .eql rfl x.s [] rfl rfl rfl ?_
  exact RB hS1 rfl (by unfold Zz; simp_all [Cmp.b,SCmp.b] <;> (first | omega | (intros; omega) | (rw [Bool.eq_iff_iff]; simp <;> omega) | (rw [Bool.eq_iff_iff]; simp_all <;> omega)))
 refine ZC x.k 2 rfl rfl rfl (fun h2=>?_) (fun h2=>?_)
 ·refine Za hS1 (Xw.drop 1 hc1) Zp rfl rfl rfl ?_
  refine ZC x.n 0 rfl rfl rfl (fun h3=>?_) (fun h3=>?_)
  ·refine Za hS1 (Xw.drop 2 hc1) Yj rfl rfl rfl <| Qq x.s ul9 rfl rfl ?_
   refine Qu (x.s.length : Int) 30 rfl rfl rfl (fun h4=>?_) (fun h4=>?_)
   ·refine Za hS1 (Xw.drop 2 hc1) Yj rfl rfl rfl ?_
    refine Zn hS1 ZvV rfl rfl rfl (ZlC hS1.imm x.s) (fun w2 G2 hS2 hle2=>?_)
    exact RB hS2 rfl (by unfold Zz; simp_all [Cmp.b,SCmp.b] <;> (omega))
   exact RB hS1 rfl (by unfold Zz; simp_all [Cmp.b,SCmp.b] <;> (omega))
  exact RB hS1 rfl (by unfold Zz; simp_all [Cmp.b,SCmp.b] <;> (first | omega | (intros; omega) | (rw [Bool.eq_iff_iff]; simp <;> omega) | (rw [Bool.eq_iff_iff]; simp_all <;> omega)))
 refine ZC x.k 3 rfl rfl rfl (fun h5=>?_) (fun h5=>?_)
 ·refine Za hS1 (Xw.drop 2 hc1) Yj rfl rfl rfl <| Ya .eql rfl x.s [] rfl rfl rfl ?_
  refine WL.split (fun h0=>?_) (fun h0=>?_)
  ·have h6 : x.s = []:=by simpa [SCmp.b] using h0
   clear h0
   refine Za hS1 (Xw.drop 1 hc1) Zp rfl rfl rfl ?_
   refine ZC x.n 0 rfl rfl rfl (fun h7=>?_) (fun h7=>?_)
   ·exact RB hS1 rfl (by unfold Zz; simp_all [Cmp.b,SCmp.b] <;> (first | omega | (intros; omega) | (rw [Bool.eq_iff_iff]; simp <;> omega) | (rw [Bool.eq_iff_iff]; simp_all <;> omega)))
   refine Za hS1 (Xw.drop 1 hc1) Zp rfl rfl rfl <| ZZ .eql rfl .i64 x.n 1 rfl rfl rfl ?_
   exact RB hS1 rfl (by unfold Zz; simp_all [Cmp.b,SCmp.b] <;> ((rw [Bool.eq_iff_iff]; simp <;> omega)))
  have h6 : x.s ≠ []:=by simpa [SCmp.b] using h0
  clear h0
  exact RB hS1 rfl (by unfold Zz; simp_all [Cmp.b,SCmp.b] <;> (first | omega | (intros; omega) | (rw [Bool.eq_iff_iff]; simp <;> omega) | (rw [Bool.eq_iff_iff]; simp_all <;> omega)))
 refine ZC x.k 4 rfl rfl rfl (fun h8=>?_) (fun h8=>?_)
 ·refine Za hS1 (Xw.drop 2 hc1) Yj rfl rfl rfl <| Ya .eql rfl x.s [] rfl rfl rfl ?_
  refine WL.split (fun h0=>?_) (fun h0=>?_)
  ·have h9 : x.s = []:=by simpa [SCmp.b] using h0
   clear h0
   refine Za hS1 (Xw.drop 1 hc1) Zp rfl rfl rfl ?_
   refine Qv x.n (-62135596800) rfl rfl rfl (fun h10=>?_) (fun h10=>?_)
   ·refine Za hS1 (Xw.drop 1 hc1) Zp rfl rfl rfl <| ZZ .leq rfl .i64 x.n 253402300800 rfl rfl rfl ?_
    exact RB hS1 rfl (by unfold Zz; simp_all [Cmp.b,SCmp.b] <;> (first | omega | (intros; omega) | (rw [Bool.eq_iff_iff]; simp <;> omega) | (rw [Bool.eq_iff_iff]; simp_all <;> omega)))
   exact RB hS1 rfl (by unfold Zz; simp_all [Cmp.b,SCmp.b] <;> (omega))
  have h9 : x.s ≠ []:=by simpa [SCmp.b] using h0
  clear h0
  exact RB hS1 rfl (by unfold Zz; simp_all [Cmp.b,SCmp.b] <;> (first | omega | (intros; omega) | (rw [Bool.eq_iff_iff]; simp <;> omega) | (rw [Bool.eq_iff_iff]; simp_all <;> omega)))
 exact RB hS1 rfl (by unfold Zz; simp_all [Cmp.b,SCmp.b] <;> (first | omega | (intros; omega) | (rw [Bool.eq_iff_iff]; simp <;> omega) | (rw [Bool.eq_iff_iff]; simp_all <;> omega)))
theorem Zu4 {G : GH} {w : World} (hG : G.In w) (x : Val) (cx : List Value) (hcx : ValE.rep G x cx) : CL Tryz.prog (nat_lit 198) #[.agg cx.toArray] [] w G fun _ _ r=>r = .bool (!Zz x):=by
 refine Zg ft [] Tryz.func198 rfl rfl ?_
 have hS:=St.start (X:=[]) hG
 obtain ⟨rfl,hb1,hb2,hb3⟩:=ZV hcx
 refine Zv [.int .i64 x.k, .int .i64 x.n,Zb x.s] _ hS rfl rfl rfl (fun p1 w1 G1 hle1 hsp1 hc1 hS1=>?_)
 refine Zc hS1 hc1 [.int .i64 x.k, .int .i64 x.n,Zb x.s] Z3 rfl rfl rfl rfl rfl ?_
 refine Zn hS1 Zax rfl rfl rfl (XN hS1.imm x _ (Y3 x hb1 hb2 hb3)) (fun w2 G2 hS2 hle2=>?_)
 exact RB hS2 rfl (by rfl)
theorem ZjE {G : GH} {w : World} (hG : G.In w) (l : List Val) (vl : Value) (hvl : Sl ValE 32 G vl l) : CL Tryz.prog (nat_lit 163) #[vl] [] w G fun _ _ r=>r = .bool (l.all Zz):=by
 refine Zg ft [] Tryz.func163 rfl rfl ?_
 have hS:=St.start (X:=[]) hG
 refine Zn hS Zng rfl rfl rfl (ZdN hS.imm l (fun x8=>!Zz x8) _ hvl 198 #[] ⟨Zwe,fun G8 w8 v8 x8 hle8 hG8 hon8 hA8=>by obtain ⟨cs_x8,rfl,hr_x8⟩:=hA8; exact Zu4 hG8 x8 cs_x8 hr_x8⟩) (fun w1 G1 hS1 hle1=>?_)
 exact RB hS1 rfl (by exact ZlT _ _)
theorem ZfY {G : GH} {w : World} (hG : G.In w) (a b : List Val) (va : Value) (hva : Sl ValE 32 G va a) (vb : Value) (hvb : Sl ValE 32 G vb b) : CL Tryz.prog (nat_lit 115) #[va,vb] [] w G fun _ _ r=>r = .int .i64 (X4 a b):=by
 refine Zg ft [] Tryz.func115 rfl rfl ?_
 have hS:=St.start (X:=[]) hG
 refine Zn hS ZjB rfl rfl rfl (ZjE hS.imm a _ hva) (fun w1 G1 hS1 hle1=>?_)
 refine WL.split (fun (h1 : (a.all Zz) = true)=>?_) (fun (h1 : (a.all Zz) = false)=>?_)
 ·refine Zn hS1 ZjB rfl rfl rfl (ZjE hS1.imm b _ (hvb.mono hle1)) (fun w2 G2 hS2 hle2=>?_)
  refine WL.split (fun (h2 : (b.all Zz) = true)=>?_) (fun (h2 : (b.all Zz) = false)=>?_)
  ·refine Zn hS2 ZvQ rfl rfl rfl (Znk hS2.imm a b (fun x8 y8=>cmpV x8 y8) _ (hva.mono (hle1.trans hle2)) _ (hvb.mono (hle1.trans hle2)) 165 #[] ⟨Zhx,fun G8 w8 v8 u8 x8 y8 hle8 hG8 hon8 hA8 hB8=>by obtain ⟨cs_x8,rfl,hr_x8⟩:=hA8; obtain ⟨cs_y8,rfl,hr_y8⟩:=hB8; exact Zef hG8 x8 y8 cs_x8 hr_x8 cs_y8 hr_y8⟩) (fun w3 G3 hS3 hle3=>?_)
   exact RI hS3 rfl (by unfold X4; generalize a.all Zz = p at *; generalize b.all Zz = q at *; cases p <;> cases q <;> simp_all)
  exact RI hS2 rfl (by unfold X4; generalize a.all Zz = p at *; generalize b.all Zz = q at *; cases p <;> cases q <;> simp_all)
 exact RI hS1 rfl (by unfold X4; generalize a.all Zz = p at *; generalize b.all Zz = q at *; cases p <;> cases q <;> simp_all)
theorem ZbY {G : GH} {w : World} (hG : G.In w) (a b : List Val) (va : Value) (hva : Sl ValE 32 G va a) (vb : Value) (hvb : Sl ValE 32 G vb b) : CL Tryz.prog (nat_lit 24) #[va,vb] [] w G fun _ _ r=>r = .bool (decide (a = b)):=by
 refine Zg ft [] Tryz.func24 rfl rfl ?_
 have hS:=St.start (X:=[]) hG
 refine Zn hS ZwI rfl rfl rfl (Znj hS.imm a b _ hva _ hvb) (fun w1 G1 hS1 hle1=>?_)
 exact RB hS1 rfl (by rfl)
theorem Zeg {G : GH} {w : World} (hG : G.In w) (x : Span) (cx : List Value) (hcx : SpanE.rep G x cx) : CL Tryz.prog (nat_lit 77) #[.agg cx.toArray] [] w G fun _ _ r=>r = .bool (ZI x):=by
 refine Zg ft [] Tryz.func77 rfl rfl ?_
 have hS:=St.start (X:=[]) hG
 obtain ⟨rfl,hb1,hb2⟩:=ZE hcx
 refine Zv [.int .i64 x.a, .int .i64 x.b] _ hS rfl rfl rfl (fun p1 w1 G1 hle1 hsp1 hc1 hS1=>?_)
 refine Za hS1 (Xw.drop 0 hc1) Zp rfl rfl rfl ?_
 refine Qv x.a (-62135596800) rfl rfl rfl (fun h1=>?_) (fun h1=>?_)
 ·refine Za hS1 (Xw.drop 0 hc1) Zp rfl rfl rfl <| Za hS1 (Xw.drop 1 hc1) Zp rfl rfl rfl ?_
  refine Zq x.a x.b rfl rfl rfl (fun h2=>?_) (fun h2=>?_)
  ·refine Za hS1 (Xw.drop 1 hc1) Zp rfl rfl rfl <| ZZ .leq rfl .i64 x.b 253402300800 rfl rfl rfl ?_
   exact RB hS1 rfl (by unfold ZI; simp_all [Cmp.b] <;> (first | omega | (intros; omega) | (rw [Bool.eq_iff_iff]; simp <;> omega) | (rw [Bool.eq_iff_iff]; simp_all <;> omega)))
  exact RB hS1 rfl (by unfold ZI; simp_all [Cmp.b] <;> (omega))
 exact RB hS1 rfl (by unfold ZI; simp_all [Cmp.b] <;> (omega))
theorem Zdh {G : GH} {w : World} (hG : G.In w) (a b : Int) : CL Tryz.prog (nat_lit 214) #[.int .i64 a, .int .i64 b] [] w G fun _ _ r=>r = .int .i64 (Yu a b):=by
 refine Zg ft [] Tryz.func214 rfl rfl ?_
 have hS:=St.start (X:=[]) hG
 refine Zq a b rfl rfl rfl (fun h1=>?_) (fun h1=>?_)
 ·exact RI hS rfl (by unfold Yu; split <;> (try split) <;> rfl)
 refine YX a b rfl rfl rfl (fun h2=>?_) (fun h2=>?_)
 ·exact RI hS rfl (by unfold Yu; split <;> (try split) <;> omega)
 exact RI hS rfl (by unfold Yu; split <;> (try split) <;> omega)
theorem Zot {G : GH} {w : World} (hG : G.In w) (a b : List Val) (va : Value) (hva : Sl ValE 32 G va a) (vb : Value) (hvb : Sl ValE 32 G vb b) : CL Tryz.prog (nat_lit 82) #[va,vb] [] w G fun _ _ r=>r = .bool (decide (a = b)):=by
 refine Zg ft [] Tryz.func82 rfl rfl ?_
 have hS:=St.start (X:=[]) hG
 have bd1:=hva.bound
 refine Zj hva Yd rfl rfl ?_
 have bd2:=hvb.bound
 refine Zj hvb Yd rfl rfl ?_
 refine Yf (a.length : Int) (b.length : Int) rfl rfl rfl (fun h1=>?_) (fun h1=>?_)
 ·exact RB hS rfl (by rw [← XS]; exact (Qw (by omega)).symm)
 refine LP.go ft [] (fun m ρ1 w1=>∃ (k1 : Nat),∃ (G1 : GH),m = a.length - k1 ∧ G.le G1 ∧ St w [] G G1 [] w1 ∧ FR ρ1 [(0,va),(1,vb),(5, .int .i64 (k1 : Int))] ∧ k1 ≤ a.length ∧ ∀ j,j < k1 → ∀ x y,a[j]? = some x → b[j]? = some y → decide (x = y) = true) _ ⟨0,G,rfl,(G.le_refl),hS,⟨rfl,rfl,rfl,trivial⟩,(by omega),(by intro j hj; omega)⟩ ?_
 rintro m ρ1 w1 ⟨k1,G1,rfl,hle1,hS1,hF9,f1,f2⟩
 refine hF9.set ?_
 clear hF9
 have bd3:=hva.bound
 refine Zj (hva.mono hle1) Yd rfl rfl ?_
 refine Zq (k1 : Int) (a.length : Int) rfl rfl rfl (fun h2=>?_) (fun h2=>?_)
 ·obtain ⟨p1,x1,hx1,he1,ep1⟩:=Sl.at (hva.mono hle1) k1 (by omega)
  obtain ⟨cs1,hc1,hr1⟩:=he1
  obtain ⟨rfl,hb1,hb2,hb3⟩:=ZV hr1
  obtain ⟨p2,x2,hx2,he2,ep2⟩:=Sl.at (hvb.mono hle1) k1 (by omega)
  obtain ⟨cs2,hc2,hr2⟩:=he2
  obtain ⟨rfl,hb4,hb5,hb6⟩:=ZV hr2
  rcases Classical.em (x1 = x2) with h3 | h3
  ·refine dr [] [(19, .pointer (some p1)),(20, .agg #[.int .i64 x1.k, .int .i64 x1.n,Zb x1.s]),(23, .pointer (some p2)),(24, .agg #[.int .i64 x2.k, .int .i64 x2.n,Zb x2.s]),(25, .bool false)] hS1 ⟨fun _=>Zk k1 ep1 Yd Z3 rfl rfl rfl rfl <| nu rfl rfl,fun _ hSw=>Zc hSw hc1 [.int .i64 x1.k, .int .i64 x1.n,Zb x1.s] Z3 rfl rfl rfl rfl rfl <| nu rfl rfl,fun _=>Zk k1 ep2 Yd Z3 rfl rfl rfl rfl <| nu rfl rfl,fun _ hSw=>Zc hSw hc2 [.int .i64 x2.k, .int .i64 x2.n,Zb x2.s] Z3 rfl rfl rfl rfl rfl <| nu rfl rfl,fun _=>XZ false (Q9 x1 x2) Zbp (by simp [h3]) rfl rfl rfl <| nu rfl rfl,trivial⟩ (fun w2 hS2=>?_)
   refine Zl k1 (by have hreach : reach = 140737488355328:=rfl; omega) rfl rfl rfl ?_
   exact BK.mk' _ ⟨k1 + 1,G1,rfl,hle1,hS2,⟨rfl,rfl,rfl,trivial⟩,(by omega),(by exact Zae ‹_› ‹_› ‹_› (decide_eq_true (by simp_all)))⟩ (show a.length - (k1 + 1) < a.length - k1 by omega)
  refine dr [] [(19, .pointer (some p1)),(20, .agg #[.int .i64 x1.k, .int .i64 x1.n,Zb x1.s]),(23, .pointer (some p2)),(24, .agg #[.int .i64 x2.k, .int .i64 x2.n,Zb x2.s]),(25, .bool true)] hS1 ⟨fun _=>Zk k1 ep1 Yd Z3 rfl rfl rfl rfl <| nu rfl rfl,fun _ hSw=>Zc hSw hc1 [.int .i64 x1.k, .int .i64 x1.n,Zb x1.s] Z3 rfl rfl rfl rfl rfl <| nu rfl rfl,fun _=>Zk k1 ep2 Yd Z3 rfl rfl rfl rfl <| nu rfl rfl,fun _ hSw=>Zc hSw hc2 [.int .i64 x2.k, .int .i64 x2.n,Zb x2.s] Z3 rfl rfl rfl rfl rfl <| nu rfl rfl,fun _=>XZ true (Q9 x1 x2) Zbp (by simp [h3]) rfl rfl rfl <| nu rfl rfl,trivial⟩ (fun w3 hS3=>?_)
  exact RB hS3 rfl (by rw [← XS]; exact (QS (f:=fun (x y : Val)=>decide (x = y)) ‹_› ‹_› (decide_eq_false (by simp_all))).symm)
 exact RB hS1 rfl (by rw [← XS]; exact (Q8 (by omega) ‹_› (by omega)).symm)
end Go.Civ
