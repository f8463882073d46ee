/- Lemmas. -/
import Derived.Test.YthgeclodflmiaaaGreatN16
import Derived.Test.YthgeclodflmiaaaGreatN17
import Derived.Test.YthgeclodflmiaaaGreatProg
import Derived.KernelRfl
import Derived.WalkKit
set_option linter.unusedVariables false
set_option linter.unusedSimpArgs false
set_option maxRecDepth 100000
set_option maxHeartbeats 4000000
namespace Go.Civ
open Go.Proofs
theorem ZmY {G : GH} {w : World} (hG : G.In w) (a b : List Val) (va : Value) (hva : Sl ValE 32 G va a) (vb : Value) (hvb : Sl ValE 32 G vb b) : CL Tryz.prog (nat_lit 88) #[va,vb] [] w G fun _ _ r=>r = .bool (decide (a = b)):=by
 refine Zf ft [] Tryz.func88 rfl rfl ?_
 have hS:=St.start (X:=[]) hG
 have bd1:=hva.bound
 refine Zj hva Yj rfl rfl ?_
 have bd2:=hvb.bound
 refine Zj hvb Yj rfl rfl ?_
 refine Yy (a.length : Int) (b.length : Int) rfl rfl rfl (fun h1=>?_) (fun h1=>?_)
 ·exact RB hS rfl (by rw [← Xy]; exact (XB (by omega)).symm)
 have bd3:=hva.bound
 refine Zj hva Yj rfl rfl ?_
 refine LP.go ft [] (fun m ρ1 w1=>∃ (k1 : Nat),∃ (G1 : GH),m = a.length - k1 ∧ G.le G1 ∧ St w [] G G1 [] w1 ∧ FR ρ1 [(0,va),(1,vb),(12, .int .i64 (a.length : Int)),(13, .int .i64 (k1 : Int))] ∧ k1 ≤ a.length ∧ ∀ j,j < k1 → ∀ x y,a[j]? = some x → b[j]? = some y → decide (x = y) = true) _ ⟨0,G,rfl,(G.le_refl),hS,⟨rfl,rfl,rfl,rfl,trivial⟩,(by omega),(by intro j hj; omega)⟩ ?_
 rintro m ρ1 w1 ⟨k1,G1,rfl,hle1,hS1,hF9,f1,f2⟩
 refine hF9.set ?_
 clear hF9
 refine Zo (k1 : Int) (a.length : Int) rfl rfl rfl (fun h2=>?_) (fun h2=>?_)
 ·obtain ⟨p1,x1,hx1,he1,ep1⟩:=Sl.at (hva.mono hle1) k1 (by omega)
  obtain ⟨cs1,hc1,hr1⟩:=he1
  obtain ⟨rfl,hb1,hb2,hb3⟩:=Ya hr1
  obtain ⟨p2,x2,hx2,he2,ep2⟩:=Sl.at (hvb.mono hle1) k1 (by omega)
  obtain ⟨cs2,hc2,hr2⟩:=he2
  obtain ⟨rfl,hb4,hb5,hb6⟩:=Ya hr2
  rcases Classical.em (x1 = x2) with h3 | h3
  ·refine dr [] [(18, .pointer (some p1)),(19, .agg #[.int .i64 x1.k, .int .i64 x1.n,Zb x1.s]),(22, .pointer (some p2)),(23, .agg #[.int .i64 x2.k, .int .i64 x2.n,Zb x2.s]),(24, .bool false)] hS1 ⟨fun _=>Zh k1 ep1 Yj ZG rfl rfl rfl rfl <| nu rfl rfl,fun _ hSw=>Zd hSw hc1 [.int .i64 x1.k, .int .i64 x1.n,Zb x1.s] ZG rfl rfl rfl rfl rfl <| nu rfl rfl,fun _=>Zh k1 ep2 Yj ZG rfl rfl rfl rfl <| nu rfl rfl,fun _ hSw=>Zd hSw hc2 [.int .i64 x2.k, .int .i64 x2.n,Zb x2.s] ZG rfl rfl rfl rfl rfl <| nu rfl rfl,fun _=>ZaE false (ZdT x1 x2) Zhk (by simp [h3]) rfl rfl rfl <| nu rfl rfl,trivial⟩ (fun w2 hS2=>?_)
   refine Zk k1 (by have hreach : reach = 140737488355328:=rfl; omega) rfl rfl rfl ?_
   exact BK.mk' _ ⟨k1 + 1,G1,rfl,hle1,hS2,⟨rfl,rfl,rfl,rfl,trivial⟩,(by omega),(by exact QF ‹_› ‹_› ‹_› (decide_eq_true (by simp_all)))⟩ (show a.length - (k1 + 1) < a.length - k1 by omega)
  refine dr [] [(18, .pointer (some p1)),(19, .agg #[.int .i64 x1.k, .int .i64 x1.n,Zb x1.s]),(22, .pointer (some p2)),(23, .agg #[.int .i64 x2.k, .int .i64 x2.n,Zb x2.s]),(24, .bool true)] hS1 ⟨fun _=>Zh k1 ep1 Yj ZG rfl rfl rfl rfl <| nu rfl rfl,fun _ hSw=>Zd hSw hc1 [.int .i64 x1.k, .int .i64 x1.n,Zb x1.s] ZG rfl rfl rfl rfl rfl <| nu rfl rfl,fun _=>Zh k1 ep2 Yj ZG rfl rfl rfl rfl <| nu rfl rfl,fun _ hSw=>Zd hSw hc2 [.int .i64 x2.k, .int .i64 x2.n,Zb x2.s] ZG rfl rfl rfl rfl rfl <| nu rfl rfl,fun _=>ZaE true (ZdT x1 x2) Zhk (by simp [h3]) rfl rfl rfl <| nu rfl rfl,trivial⟩ (fun w3 hS3=>?_)
  exact RB hS3 rfl (by rw [← Xy]; exact (XV (f:=fun (x y : Val)=>decide (x = y)) ‹_› ‹_› (decide_eq_false (by simp_all))).symm)
 exact RB hS1 rfl (by rw [← Xy]; exact (XM (by omega) ‹_› (by omega)).symm)
theorem ZmZ {G : GH} {w : World} (hG : G.In w) (a b : List Val) (pf : Val → Val → Int) (va : Value) (hva : Sl ValE 32 G va a) (vb : Value) (hvb : Sl ValE 32 G vb b) (fid : Nat) (fcap : Array Value) (hf : FnI2 Tryz.prog (Is ValE) (Is ValE) fid fcap G (fun x y=>x ∈ a ∧ y ∈ b) pf) : CL Tryz.prog (nat_lit 164) #[va,vb, .func (.func fid) #[] fcap] [] w G fun _ _ r=>r = .int .i64 (ZI pf a b):=by
 refine Zf ft [] Tryz.func164 rfl rfl ?_
 have hS:=St.start (X:=[]) hG
 have bd1:=hva.bound
 refine Zj hva Yj rfl rfl ?_
 refine LP.go ft [] (fun m ρ1 w1=>∃ (k1 : Nat),∃ (G1 : GH),m = a.length - k1 ∧ G.le G1 ∧ St w [] G G1 [] w1 ∧ FR ρ1 [(0,va),(1,vb),(2, .func (.func fid) #[] fcap),(11,va),(12, .int .i64 (a.length : Int)),(13, .int .i64 (k1 : Int))] ∧ k1 ≤ a.length ∧ k1 ≤ b.length ∧ ∀ j,j < k1 → ∀ x y,a[j]? = some x → b[j]? = some y → pf x y = 0) _ ⟨0,G,rfl,(G.le_refl),hS,⟨rfl,rfl,rfl,rfl,rfl,rfl,trivial⟩,(by omega),(by omega),(by intro j hj; omega)⟩ ?_
 rintro m ρ1 w1 ⟨k1,G1,rfl,hle1,hS1,hF9,f1,f2,f3⟩
 refine hF9.set ?_
 clear hF9
 refine Zo (k1 : Int) (a.length : Int) rfl rfl rfl (fun h1=>?_) (fun h1=>?_)
 ·refine WL.indexAddr (hva.mono hle1) k1 (by omega) Yj ZG rfl rfl rfl rfl (fun p1 x1 hx1 he1=>?_)
  obtain ⟨cs1,hc1,hr1⟩:=he1
  obtain ⟨rfl,hb1,hb2,hb3⟩:=Ya hr1
  refine Zd hS1 hc1 [.int .i64 x1.k, .int .i64 x1.n,Zb x1.s] ZG rfl rfl rfl rfl rfl ?_
  refine WL.alloc hS1 ZG rfl rfl (fun b1 w2 hn1 hS2=>?_)
  refine WL.store hS2 0 _ _ _ 0 _ [.int .i64 x1.k, .int .i64 x1.n,Zb x1.s] [.int .i64 x1.k, .int .i64 x1.n,Zb x1.s] _ rfl rfl ZG rfl (Nat.le_of_ble_eq_true rfl) rfl rfl rfl rfl rfl rfl (fun w3 hS3=>?_)
  obtain ⟨G2,hle2,hc2,hS4⟩:=hS3.shutB hn1
  have bd2:=hvb.bound
  refine Zj (hvb.mono (hle1.trans hle2)) Yj rfl rfl ?_
  refine Qo (k1 : Int) (b.length : Int) rfl rfl rfl (fun h2=>?_) (fun h2=>?_)
  ·exact RI hS4 rfl (by exact (ZnX ‹_› (by omega) (by omega)).symm)
  refine WL.indexAddr (hvb.mono (hle1.trans hle2)) k1 (by omega) Yj ZG rfl rfl rfl rfl (fun p2 x2 hx2 he2=>?_)
  obtain ⟨cs2,hc3,hr2⟩:=he2
  obtain ⟨rfl,hb4,hb5,hb6⟩:=Ya hr2
  refine Zd hS4 hc3 [.int .i64 x2.k, .int .i64 x2.n,Zb x2.s] ZG rfl rfl rfl rfl rfl ?_
  refine WL.alloc hS4 ZG rfl rfl (fun b2 w4 hn2 hS5=>?_)
  refine WL.store hS5 0 _ _ _ 0 _ [.int .i64 x2.k, .int .i64 x2.n,Zb x2.s] [.int .i64 x2.k, .int .i64 x2.n,Zb x2.s] _ rfl rfl ZG rfl (Nat.le_of_ble_eq_true rfl) rfl rfl rfl rfl rfl rfl (fun w5 hS6=>?_)
  obtain ⟨G3,hle3,hc4,hS7⟩:=hS6.shutB hn2
  refine Zd hS7 (hc2.mono hle3) [.int .i64 x1.k, .int .i64 x1.n,Zb x1.s] ZG rfl rfl rfl rfl rfl <| Zd hS7 hc4 [.int .i64 x2.k, .int .i64 x2.n,Zb x2.s] ZG rfl rfl rfl rfl rfl ?_
  refine Zn hS7 hf.body rfl rfl rfl (hf.call _ _ (.agg #[.int .i64 x1.k, .int .i64 x1.n,Zb x1.s]) (.agg #[.int .i64 x2.k, .int .i64 x2.n,Zb x2.s]) x1 x2 ((hle1.trans hle2).trans hle3) hS7.imm ⟨(List.mem_of_getElem? hx1),(List.mem_of_getElem? hx2)⟩ ⟨_,rfl,(YK x1 hb1 hb2 hb3)⟩ ⟨_,rfl,(YK x2 hb4 hb5 hb6)⟩) (fun w6 G4 hS8 hle4=>?_)
  refine Yy (pf x1 x2) 0 rfl rfl rfl (fun h3=>?_) (fun h3=>?_)
  ·exact RI hS8 rfl (by exact (ZhO ‹_› ‹_› ‹_› ‹_›).symm)
  refine Zk k1 (by have hreach : reach = 140737488355328:=rfl; omega) rfl rfl rfl ?_
  exact BK.mk' _ ⟨k1 + 1,G4,rfl,(hle1.trans ((hle2.trans hle3).trans hle4)),hS8,⟨rfl,rfl,rfl,rfl,rfl,rfl,trivial⟩,(by omega),(by omega),(by exact QF ‹_› ‹_› ‹_› ‹_›)⟩ (show a.length - (k1 + 1) < a.length - k1 by omega)
 have bd3:=hva.bound
 refine Zj (hva.mono hle1) Yj rfl rfl ?_
 have bd4:=hvb.bound
 refine Zj (hvb.mono hle1) Yj rfl rfl ?_
 refine Zo (a.length : Int) (b.length : Int) rfl rfl rfl (fun h4=>?_) (fun h4=>?_)
 ·exact RI hS1 rfl (by exact (Zm2 ‹_› (by omega) (by omega)).symm)
 exact RI hS1 rfl (by exact (ZnY ‹_› (by omega) (by omega) (by omega)).symm)
theorem Zok {G : GH} {w : World} (hG : G.In w) (x : Int) : CL Tryz.prog (nat_lit 153) #[.int .i64 x] [] w G fun _ _ r=>r = .bool (Zbh x):=by
 refine Zf ft [] Tryz.func153 rfl rfl ?_
 have hS:=St.start (X:=[]) hG
 refine Qo x (-4398046511104) rfl rfl rfl (fun h1=>?_) (fun h1=>?_)
 ·refine ZO .leq rfl .i64 x 4398046511104 rfl rfl rfl ?_
  exact RB hS rfl (by unfold Zbh; simp [Cmp.b] <;> omega)
 exact RB hS rfl (by unfold Zbh; simp [Cmp.b] <;> omega)
theorem ZcL {G : GH} {w : World} (hG : G.In w) (x : Span) (cx : List Value) (hcx : SpanE.rep G x cx) : CL Tryz.prog (nat_lit 99) #[.agg cx.toArray] [] w G fun _ _ r=>r = .bool (Xk x):=by
 refine Zf ft [] Tryz.func99 rfl rfl ?_
 have hS:=St.start (X:=[]) hG
 obtain ⟨rfl,hb1,hb2⟩:=Z2 hcx
 refine Z1 [.int .i64 x.a, .int .i64 x.b] _ hS rfl rfl rfl (fun p1 w1 G1 hle1 hsp1 hc1 hS1=>?_)
 refine Za hS1 (XZ.drop 0 hc1) Zl rfl rfl rfl ?_
 refine Zn hS1 ZrX rfl rfl rfl (Zok hS1.imm x.a) (fun w2 G2 hS2 hle2=>?_)
 refine WL.split (fun (h1 : (Zbh x.a) = true)=>?_) (fun (h1 : (Zbh x.a) = false)=>?_)
 ·refine Za hS2 (XZ.drop 1 (hc1.mono hle2)) Zl rfl rfl rfl ?_
  refine Zn hS2 ZrX rfl rfl rfl (Zok hS2.imm x.b) (fun w3 G3 hS3 hle3=>?_)
  refine WL.split (fun (h2 : (Zbh x.b) = true)=>?_) (fun (h2 : (Zbh x.b) = false)=>?_)
  ·refine Za hS3 (XZ.drop 0 (hc1.mono (hle2.trans hle3))) Zl rfl rfl rfl <| Za hS3 (XZ.drop 1 (hc1.mono (hle2.trans hle3))) Zl rfl rfl rfl <| ZO .lss rfl .i64 x.a x.b rfl rfl rfl ?_
   exact RB hS3 rfl (by unfold Xk; simp_all [Cmp.b] <;> (first | omega | (intros; omega) | (rw [Bool.eq_iff_iff]; simp <;> omega) | (rw [Bool.eq_iff_iff]; simp_all <;> omega)))
  exact RB hS3 rfl (by unfold Xk; simp_all [Cmp.b] <;> (first | omega | (intros; omega) | (rw [Bool.eq_iff_iff]; simp <;> omega) | (rw [Bool.eq_iff_iff]; simp_all <;> omega)))
 exact RB hS2 rfl (by unfold Xk; simp_all [Cmp.b] <;> (first | omega | (intros; omega) | (rw [Bool.eq_iff_iff]; simp <;> omega) | (rw [Bool.eq_iff_iff]; simp_all <;> omega)))
theorem Zgu {G : GH} {w : World} (hG : G.In w) (x : Val) (cx : List Value) (hcx : ValE.rep G x cx) : CL Tryz.prog (nat_lit 124) #[.agg cx.toArray] [] w G fun _ _ r=>r = .bool (Zy x):=by
 refine Zf ft [] Tryz.func124 rfl rfl ?_
 have hS:=St.start (X:=[]) hG
 obtain ⟨rfl,hb1,hb2,hb3⟩:=Ya hcx
 refine Z1 [.int .i64 x.k, .int .i64 x.n,Zb x.s] _ hS rfl rfl rfl (fun p1 w1 G1 hle1 hsp1 hc1 hS1=>?_)
 refine Za hS1 (XZ.drop 0 hc1) Zl rfl rfl rfl ?_
 refine Zx x.k 1 rfl rfl rfl (fun h1=>?_) (fun h1=>?_)
 ·refine Za hS1 (XZ.drop 2 hc1) Yk rfl rfl rfl <| Z7 .eql rfl x.s [] rfl rfl rfl ?_
  exact RB hS1 rfl (by unfold Zy; simp_all [Cmp.b,SCmp.b] <;> (first | omega | (intros; omega) | (rw [Bool.eq_iff_iff]; simp <;> omega) | (rw [Bool.eq_iff_iff]; simp_all <;> omega)))
 refine Zx x.k 2 rfl rfl rfl (fun h2=>?_) (fun h2=>?_)
 ·refine Za hS1 (XZ.drop 1 hc1) Zl rfl rfl rfl ?_
  refine Zx x.n 0 rfl rfl rfl (fun h3=>?_) (fun h3=>?_)
  ·refine Za hS1 (XZ.drop 2 hc1) Yk rfl rfl rfl <| XN x.s QM rfl rfl ?_
   refine Qa (x.s.length : Int) 30 rfl rfl rfl (fun h4=>?_) (fun h4=>?_)
   ·refine Za hS1 (XZ.drop 2 hc1) Yk rfl rfl rfl ?_
    refine Zn hS1 Zv4 rfl rfl rfl (Zlu hS1.imm x.s) (fun w2 G2 hS2 hle2=>?_)
    exact RB hS2 rfl (by unfold Zy; simp_all [Cmp.b,SCmp.b] <;> (omega))
   exact RB hS1 rfl (by unfold Zy; simp_all [Cmp.b,SCmp.b] <;> (omega))
  exact RB hS1 rfl (by unfold Zy; simp_all [Cmp.b,SCmp.b] <;> (first | omega | (intros; omega) | (rw [Bool.eq_iff_iff]; simp <;> omega) | (rw [Bool.eq_iff_iff]; simp_all <;> omega)))
 refine Zx x.k 3 rfl rfl rfl (fun h5=>?_) (fun h5=>?_)
 ·refine Za hS1 (XZ.drop 2 hc1) Yk rfl rfl rfl <| Z7 .eql rfl x.s [] rfl rfl rfl ?_
  refine WL.split (fun h0=>?_) (fun h0=>?_)
  ·have h6 : x.s = []:=by simpa [SCmp.b] using h0
   clear h0
   refine Za hS1 (XZ.drop 1 hc1) Zl rfl rfl rfl ?_
   refine Zx x.n 0 rfl rfl rfl (fun h7=>?_) (fun h7=>?_)
   ·exact RB hS1 rfl (by unfold Zy; simp_all [Cmp.b,SCmp.b] <;> (first | omega | (intros; omega) | (rw [Bool.eq_iff_iff]; simp <;> omega) | (rw [Bool.eq_iff_iff]; simp_all <;> omega)))
   refine Za hS1 (XZ.drop 1 hc1) Zl rfl rfl rfl <| ZO .eql rfl .i64 x.n 1 rfl rfl rfl ?_
   exact RB hS1 rfl (by unfold Zy; simp_all [Cmp.b,SCmp.b] <;> ((rw [Bool.eq_iff_iff]; simp <;> omega)))
  have h6 : x.s ≠ []:=by simpa [SCmp.b] using h0
  clear h0
  exact RB hS1 rfl (by unfold Zy; simp_all [Cmp.b,SCmp.b] <;> (first | omega | (intros; omega) | (rw [Bool.eq_iff_iff]; simp <;> omega) | (rw [Bool.eq_iff_iff]; simp_all <;> omega)))
 refine Zx x.k 4 rfl rfl rfl (fun h8=>?_) (fun h8=>?_)
 ·refine Za hS1 (XZ.drop 2 hc1) Yk rfl rfl rfl <| Z7 .eql rfl x.s [] rfl rfl rfl ?_
  refine WL.split (fun h0=>?_) (fun h0=>?_)
  ·have h9 : x.s = []:=by simpa [SCmp.b] using h0
   clear h0
   refine Za hS1 (XZ.drop 1 hc1) Zl rfl rfl rfl ?_
   refine Qo x.n (-62135596800) rfl rfl rfl (fun h10=>?_) (fun h10=>?_)
   ·refine Za hS1 (XZ.drop 1 hc1) Zl rfl rfl rfl <| ZO .leq rfl .i64 x.n 253402300800 rfl rfl rfl ?_
    exact RB hS1 rfl (by unfold Zy; simp_all [Cmp.b,SCmp.b] <;> (first | omega | (intros; omega) | (rw [Bool.eq_iff_iff]; simp <;> omega) | (rw [Bool.eq_iff_iff]; simp_all <;> omega)))
   exact RB hS1 rfl (by unfold Zy; simp_all [Cmp.b,SCmp.b] <;> (omega))
  have h9 : x.s ≠ []:=by simpa [SCmp.b] using h0
  clear h0
  exact RB hS1 rfl (by unfold Zy; simp_all [Cmp.b,SCmp.b] <;> (first | omega | (intros; omega) | (rw [Bool.eq_iff_iff]; simp <;> omega) | (rw [Bool.eq_iff_iff]; simp_all <;> omega)))
 exact RB hS1 rfl (by unfold Zy; simp_all [Cmp.b,SCmp.b] <;> (first | omega | (intros; omega) | (rw [Bool.eq_iff_iff]; simp <;> omega) | (rw [Bool.eq_iff_iff]; simp_all <;> omega)))
theorem Zui {G : GH} {w : World} (hG : G.In w) (x : Val) (cx : List Value) (hcx : ValE.rep G x cx) : CL Tryz.prog (nat_lit 198) #[.agg cx.toArray] [] w G fun _ _ r=>r = .bool (!Zy x):=by
 refine Zf ft [] Tryz.func198 rfl rfl ?_
 have hS:=St.start (X:=[]) hG
 obtain ⟨rfl,hb1,hb2,hb3⟩:=Ya hcx
 refine Z1 [.int .i64 x.k, .int .i64 x.n,Zb x.s] _ hS rfl rfl rfl (fun p1 w1 G1 hle1 hsp1 hc1 hS1=>?_)
 refine Zd hS1 hc1 [.int .i64 x.k, .int .i64 x.n,Zb x.s] ZG rfl rfl rfl rfl rfl ?_
 refine Zn hS1 ZmV rfl rfl rfl (Zgu hS1.imm x _ (YK x hb1 hb2 hb3)) (fun w2 G2 hS2 hle2=>?_)
 exact RB hS2 rfl (by rfl)
theorem Zna {G : GH} {w : World} (hG : G.In w) (l : List Val) (vl : Value) (hvl : Sl ValE 32 G vl l) : CL Tryz.prog (nat_lit 163) #[vl] [] w G fun _ _ r=>r = .bool (l.all Zy):=by
 refine Zf ft [] Tryz.func163 rfl rfl ?_
 have hS:=St.start (X:=[]) hG
 refine Zn hS ZmU rfl rfl rfl (ZdG hS.imm l (fun x8=>!Zy x8) _ hvl 198 #[] ⟨ZvD,fun G8 w8 v8 x8 hle8 hG8 hon8 hA8=>by obtain ⟨cs_x8,rfl,hr_x8⟩:=hA8; exact Zui hG8 x8 cs_x8 hr_x8⟩) (fun w1 G1 hS1 hle1=>?_)
 exact RB hS1 rfl (by exact ZlH _ _)
theorem ZfH {G : GH} {w : World} (hG : G.In w) (a b : List Val) (va : Value) (hva : Sl ValE 32 G va a) (vb : Value) (hvb : Sl ValE 32 G vb b) : CL Tryz.prog (nat_lit 115) #[va,vb] [] w G fun _ _ r=>r = .int .i64 (Xr a b):=by
 refine Zf ft [] Tryz.func115 rfl rfl ?_
 have hS:=St.start (X:=[]) hG
 refine Zn hS ZmW rfl rfl rfl (Zna hS.imm a _ hva) (fun w1 G1 hS1 hle1=>?_)
 refine WL.split (fun (h1 : (a.all Zy) = true)=>?_) (fun (h1 : (a.all Zy) = false)=>?_)
 ·refine Zn hS1 ZmW rfl rfl rfl (Zna hS1.imm b _ (hvb.mono hle1)) (fun w2 G2 hS2 hle2=>?_)
  refine WL.split (fun (h2 : (b.all Zy) = true)=>?_) (fun (h2 : (b.all Zy) = false)=>?_)
  ·refine Zn hS2 Zvy rfl rfl rfl (ZmZ hS2.imm a b (fun x8 y8=>cmpV x8 y8) _ (hva.mono (hle1.trans hle2)) _ (hvb.mono (hle1.trans hle2)) 165 #[] ⟨Zvz,fun G8 w8 v8 u8 x8 y8 hle8 hG8 hon8 hA8 hB8=>by obtain ⟨cs_x8,rfl,hr_x8⟩:=hA8; obtain ⟨cs_y8,rfl,hr_y8⟩:=hB8; exact ZsA hG8 x8 y8 cs_x8 hr_x8 cs_y8 hr_y8⟩) (fun w3 G3 hS3 hle3=>?_)
   exact RI hS3 rfl (by unfold Xr; generalize a.all Zy = p at *; generalize b.all Zy = q at *; cases p <;> cases q <;> simp_all)
  exact RI hS2 rfl (by unfold Xr; generalize a.all Zy = p at *; generalize b.all Zy = q at *; cases p <;> cases q <;> simp_all)
 exact RI hS1 rfl (by unfold Xr; generalize a.all Zy = p at *; generalize b.all Zy = q at *; cases p <;> cases q <;> simp_all)
theorem ZbR {G : GH} {w : World} (hG : G.In w) (a b : List Val) (va : Value) (hva : Sl ValE 32 G va a) (vb : Value) (hvb : Sl ValE 32 G vb b) : CL Tryz.prog (nat_lit 24) #[va,vb] [] w G fun _ _ r=>r = .bool (decide (a = b)):=by
 refine Zf ft [] Tryz.func24 rfl rfl ?_
 have hS:=St.start (X:=[]) hG
 refine Zn hS Zw5 rfl rfl rfl (ZmY hS.imm a b _ hva _ hvb) (fun w1 G1 hS1 hle1=>?_)
 exact RB hS1 rfl (by rfl)
theorem ZhR {G : GH} {w : World} (hG : G.In w) (x : Span) (cx : List Value) (hcx : SpanE.rep G x cx) : CL Tryz.prog (nat_lit 77) #[.agg cx.toArray] [] w G fun _ _ r=>r = .bool (ZC x):=by
 refine Zf ft [] Tryz.func77 rfl rfl ?_
 have hS:=St.start (X:=[]) hG
 obtain ⟨rfl,hb1,hb2⟩:=Z2 hcx
 refine Z1 [.int .i64 x.a, .int .i64 x.b] _ hS rfl rfl rfl (fun p1 w1 G1 hle1 hsp1 hc1 hS1=>?_)
 refine Za hS1 (XZ.drop 0 hc1) Zl rfl rfl rfl ?_
 refine Qo x.a (-62135596800) rfl rfl rfl (fun h1=>?_) (fun h1=>?_)
 ·refine Za hS1 (XZ.drop 0 hc1) Zl rfl rfl rfl <| Za hS1 (XZ.drop 1 hc1) Zl rfl rfl rfl ?_
  refine Zo x.a x.b rfl rfl rfl (fun h2=>?_) (fun h2=>?_)
  ·refine Za hS1 (XZ.drop 1 hc1) Zl rfl rfl rfl <| ZO .leq rfl .i64 x.b 253402300800 rfl rfl rfl ?_
   exact RB hS1 rfl (by unfold ZC; simp_all [Cmp.b] <;> (first | omega | (intros; omega) | (rw [Bool.eq_iff_iff]; simp <;> omega) | (rw [Bool.eq_iff_iff]; simp_all <;> omega)))
  exact RB hS1 rfl (by unfold ZC; simp_all [Cmp.b] <;> (omega))
 exact RB hS1 rfl (by unfold ZC; simp_all [Cmp.b] <;> (omega))
theorem ZcM {G : GH} {w : World} (hG : G.In w) (a b : Int) : CL Tryz.prog (nat_lit 214) #[.int .i64 a, .int .i64 b] [] w G fun _ _ r=>r = .int .i64 (Y1 a b):=by
 refine Zf ft [] Tryz.func214 rfl rfl ?_
 have hS:=St.start (X:=[]) hG
 refine Zo a b rfl rfl rfl (fun h1=>?_) (fun h1=>?_)
 ·exact RI hS rfl (by unfold Y1; split <;> (try split) <;> rfl)
 refine YL a b rfl rfl rfl (fun h2=>?_) (fun h2=>?_)
 ·exact RI hS rfl (by unfold Y1; split <;> (try split) <;> omega)
 exact RI hS rfl (by unfold Y1; split <;> (try split) <;> omega)
theorem ZcN {G : GH} {w : World} (hG : G.In w) (x : Val) (cx : List Value) (hcx : ValE.rep G x cx) : CL Tryz.prog (nat_lit 247) #[.agg cx.toArray] [] w G fun _ _ r=>r = .bool (Zy x):=by
 refine Zf ft [] Tryz.func247 rfl rfl ?_
 have hS:=St.start (X:=[]) hG
 obtain ⟨rfl,hb1,hb2,hb3⟩:=Ya hcx
 refine Z1 [.int .i64 x.k, .int .i64 x.n,Zb x.s] _ hS rfl rfl rfl (fun p1 w1 G1 hle1 hsp1 hc1 hS1=>?_)
 refine Za hS1 (XZ.drop 0 hc1) Zl rfl rfl rfl ?_
 refine Zx x.k 1 rfl rfl rfl (fun h1=>?_) (fun h1=>?_)
 ·refine Za hS1 (XZ.drop 2 hc1) Yk rfl rfl rfl <| Z7 .eql rfl x.s [] rfl rfl rfl ?_
  exact RB hS1 rfl (by first | exact (XC ‹_› ‹_› (by omega) (ZQ ‹_› (by omega))).symm | exact (XP ‹_› ‹_› (by simp [okC]; omega)).symm | (unfold Zy; simp_all [Cmp.b,SCmp.b] <;> (first | omega | (intros; omega) | (rw [Bool.eq_iff_iff]; simp <;> omega) | (rw [Bool.eq_iff_iff]; simp_all <;> omega))))
 refine Zx x.k 2 rfl rfl rfl (fun h2=>?_) (fun h2=>?_)
 ·refine Za hS1 (XZ.drop 1 hc1) Zl rfl rfl rfl ?_
  refine Yy x.n 0 rfl rfl rfl (fun h3=>?_) (fun h3=>?_)
  ·exact RB hS1 rfl (by first | exact (XC ‹_› ‹_› (by omega) (ZQ ‹_› (by omega))).symm | exact (XP ‹_› ‹_› (by simp [okC]; omega)).symm | (unfold Zy; simp_all [Cmp.b,SCmp.b] <;> (first | omega | (intros; omega) | (rw [Bool.eq_iff_iff]; simp <;> omega) | (rw [Bool.eq_iff_iff]; simp_all <;> omega))))
  refine Za hS1 (XZ.drop 2 hc1) Yk rfl rfl rfl <| XN x.s QM rfl rfl ?_
  refine YL (x.s.length : Int) 30 rfl rfl rfl (fun h4=>?_) (fun h4=>?_)
  ·exact RB hS1 rfl (by first | exact (XC ‹_› ‹_› (by omega) (ZQ ‹_› (by omega))).symm | exact (XP ‹_› ‹_› (by simp [okC]; omega)).symm | (unfold Zy; simp_all [Cmp.b,SCmp.b] <;> (first | omega | (intros; omega) | (rw [Bool.eq_iff_iff]; simp <;> omega) | (rw [Bool.eq_iff_iff]; simp_all <;> omega))))
  refine LP.go ft [] (fun m ρ1 w1=>∃ (k1 : Nat),∃ (G2 : GH),m = x.s.length - k1 ∧ G1.le G2 ∧ St w [] G G2 [] w1 ∧ FR ρ1 [(1, .pointer (some p1)),(3, .int .i64 (k1 : Int))] ∧ k1 ≤ x.s.length ∧ ∀ j,j < k1 → ∀ c,x.s[j]? = some c → okC c = true) _ ⟨0,G1,rfl,(G1.le_refl),hS1,⟨rfl,rfl,trivial⟩,(by omega),(by intro j hj; omega)⟩ ?_
  rintro m ρ1 w2 ⟨k1,G2,rfl,hle2,hS2,hF9,f1,f2⟩
  refine hF9.set ?_
  clear hF9
  refine Za hS2 (XZ.drop 2 (hc1.mono hle2)) Yk rfl rfl rfl <| XN x.s QM rfl rfl ?_
  refine Zo (k1 : Int) (x.s.length : Int) rfl rfl rfl (fun h5=>?_) (fun h5=>?_)
  ·refine Za hS2 (XZ.drop 2 (hc1.mono hle2)) Yk rfl rfl rfl ?_
   refine QE x.s k1 (by omega) QM rfl rfl rfl (fun c1 hx1=>?_)
   refine Zo (c1.toNat : Int) 32 rfl rfl rfl (fun h6=>?_) (fun h6=>?_)
   ·exact RB hS2 rfl (by first | exact (XC ‹_› ‹_› (by omega) (ZQ ‹_› (by omega))).symm | exact (XP ‹_› ‹_› (by simp [okC]; omega)).symm | (unfold Zy; simp_all [Cmp.b,SCmp.b] <;> (first | omega | (intros; omega) | (rw [Bool.eq_iff_iff]; simp <;> omega) | (rw [Bool.eq_iff_iff]; simp_all <;> omega))))
   refine Za hS2 (XZ.drop 2 (hc1.mono hle2)) Yk rfl rfl rfl ?_
   refine QE x.s k1 (by omega) QM rfl rfl rfl (fun c2 hx2=>?_)
   obtain rfl : c1 = c2:=Option.some.inj (hx1.symm.trans hx2)
   refine YL (c1.toNat : Int) 126 rfl rfl rfl (fun h7=>?_) (fun h7=>?_)
   ·exact RB hS2 rfl (by first | exact (XC ‹_› ‹_› (by omega) (ZQ ‹_› (by omega))).symm | exact (XP ‹_› ‹_› (by simp [okC]; omega)).symm | (unfold Zy; simp_all [Cmp.b,SCmp.b] <;> (first | omega | (intros; omega) | (rw [Bool.eq_iff_iff]; simp <;> omega) | (rw [Bool.eq_iff_iff]; simp_all <;> omega))))
   refine Zk k1 (by have hreach : reach = 140737488355328:=rfl; omega) rfl rfl rfl ?_
   exact BK.mk' _ ⟨k1 + 1,G2,rfl,hle2,hS2,⟨rfl,rfl,trivial⟩,(by omega),(by exact YS ‹_› ‹_› (by simp [okC]; omega))⟩ (show x.s.length - (k1 + 1) < x.s.length - k1 by omega)
  exact RB hS2 rfl (by first | exact (XC ‹_› ‹_› (by omega) (ZQ ‹_› (by omega))).symm | exact (XP ‹_› ‹_› (by simp [okC]; omega)).symm | (unfold Zy; simp_all [Cmp.b,SCmp.b] <;> (first | omega | (intros; omega) | (rw [Bool.eq_iff_iff]; simp <;> omega) | (rw [Bool.eq_iff_iff]; simp_all <;> omega))))
 refine Zx x.k 3 rfl rfl rfl (fun h8=>?_) (fun h8=>?_)
 ·refine Za hS1 (XZ.drop 2 hc1) Yk rfl rfl rfl <| Z7 .eql rfl x.s [] rfl rfl rfl ?_
  refine WL.split (fun h0=>?_) (fun h0=>?_)
  ·have h9 : x.s = []:=by simpa [SCmp.b] using h0
   clear h0
   refine Za hS1 (XZ.drop 1 hc1) Zl rfl rfl rfl ?_
   refine Zx x.n 0 rfl rfl rfl (fun h10=>?_) (fun h10=>?_)
   ·exact RB hS1 rfl (by first | exact (XC ‹_› ‹_› (by omega) (ZQ ‹_› (by omega))).symm | exact (XP ‹_› ‹_› (by simp [okC]; omega)).symm | (unfold Zy; simp_all [Cmp.b,SCmp.b] <;> (first | omega | (intros; omega) | (rw [Bool.eq_iff_iff]; simp <;> omega) | (rw [Bool.eq_iff_iff]; simp_all <;> omega))))
   refine Za hS1 (XZ.drop 1 hc1) Zl rfl rfl rfl <| ZO .eql rfl .i64 x.n 1 rfl rfl rfl ?_
   exact RB hS1 rfl (by first | exact (XC ‹_› ‹_› (by omega) (ZQ ‹_› (by omega))).symm | exact (XP ‹_› ‹_› (by simp [okC]; omega)).symm | (unfold Zy; simp_all [Cmp.b,SCmp.b] <;> (first | omega | (intros; omega) | (rw [Bool.eq_iff_iff]; simp <;> omega) | (rw [Bool.eq_iff_iff]; simp_all <;> omega))))
  have h9 : x.s ≠ []:=by simpa [SCmp.b] using h0
  clear h0
  exact RB hS1 rfl (by first | exact (XC ‹_› ‹_› (by omega) (ZQ ‹_› (by omega))).symm | exact (XP ‹_› ‹_› (by simp [okC]; omega)).symm | (unfold Zy; simp_all [Cmp.b,SCmp.b] <;> (first | omega | (intros; omega) | (rw [Bool.eq_iff_iff]; simp <;> omega) | (rw [Bool.eq_iff_iff]; simp_all <;> omega))))
 refine Zx x.k 4 rfl rfl rfl (fun h11=>?_) (fun h11=>?_)
 ·refine Za hS1 (XZ.drop 2 hc1) Yk rfl rfl rfl <| Z7 .eql rfl x.s [] rfl rfl rfl ?_
  refine WL.split (fun h0=>?_) (fun h0=>?_)
  ·have h12 : x.s = []:=by simpa [SCmp.b] using h0
   clear h0
   refine Za hS1 (XZ.drop 1 hc1) Zl rfl rfl rfl ?_
   refine Qo x.n (-62135596800) rfl rfl rfl (fun h13=>?_) (fun h13=>?_)
   ·refine Za hS1 (XZ.drop 1 hc1) Zl rfl rfl rfl <| ZO .leq rfl .i64 x.n 253402300800 rfl rfl rfl ?_
    exact RB hS1 rfl (by first | exact (XC ‹_› ‹_› (by omega) (ZQ ‹_› (by omega))).symm | exact (XP ‹_› ‹_› (by simp [okC]; omega)).symm | (unfold Zy; simp_all [Cmp.b,SCmp.b] <;> (first | omega | (intros; omega) | (rw [Bool.eq_iff_iff]; simp <;> omega) | (rw [Bool.eq_iff_iff]; simp_all <;> omega))))
   exact RB hS1 rfl (by first | exact (XC ‹_› ‹_› (by omega) (ZQ ‹_› (by omega))).symm | exact (XP ‹_› ‹_› (by simp [okC]; omega)).symm | (unfold Zy; simp_all [Cmp.b,SCmp.b] <;> (first | omega | (intros; omega) | (rw [Bool.eq_iff_iff]; simp <;> omega) | (rw [Bool.eq_iff_iff]; simp_all <;> omega))))
  have h12 : x.s ≠ []:=by simpa [SCmp.b] using h0
  clear h0
  exact RB hS1 rfl (by first | exact (XC ‹_› ‹_› (by omega) (ZQ ‹_› (by omega))).symm | exact (XP ‹_› ‹_› (by simp [okC]; omega)).symm | (unfold Zy; simp_all [Cmp.b,SCmp.b] <;> (first | omega | (intros; omega) | (rw [Bool.eq_iff_iff]; simp <;> omega) | (rw [Bool.eq_iff_iff]; simp_all <;> omega))))
 exact RB hS1 rfl (by first | exact (XC ‹_› ‹_› (by omega) (ZQ ‹_› (by omega))).symm | exact (XP ‹_› ‹_› (by simp [okC]; omega)).symm | (unfold Zy; simp_all [Cmp.b,SCmp.b] <;> (first | omega | (intros; omega) | (rw [Bool.eq_iff_iff]; simp <;> omega) | (rw [Bool.eq_iff_iff]; simp_all <;> omega))))
theorem Zuj {G : GH} {w : World} (hG : G.In w) (l : List Val) (vl : Value) (hvl : Sl ValE 32 G vl l) : CL Tryz.prog (nat_lit 215) #[vl] [] w G fun _ _ r=>r = .bool (l.all Zy):=by
 refine Zf ft [] Tryz.func215 rfl rfl ?_
 have hS:=St.start (X:=[]) hG
 refine LP.go ft [] (fun m ρ1 w1=>∃ (k1 : Nat),∃ (G1 : GH),m = l.length - k1 ∧ G.le G1 ∧ St w [] G G1 [] w1 ∧ FR ρ1 [(0,vl),(3, .int .i64 (k1 : Int))] ∧ k1 ≤ l.length ∧ ∀ j,j < k1 → ∀ x,l[j]? = some x → Zy x = true) _ ⟨0,G,rfl,(G.le_refl),hS,⟨rfl,rfl,trivial⟩,(by omega),(by intro j hj; omega)⟩ ?_
 rintro m ρ1 w1 ⟨k1,G1,rfl,hle1,hS1,hF9,f1,f2⟩
 refine hF9.set ?_
 clear hF9
 have bd1:=hvl.bound
 refine Zj (hvl.mono hle1) Yj rfl rfl ?_
 refine Zo (k1 : Int) (l.length : Int) rfl rfl rfl (fun h1=>?_) (fun h1=>?_)
 ·refine WL.indexAddr (hvl.mono hle1) k1 (by omega) Yj ZG rfl rfl rfl rfl (fun p1 x1 hx1 he1=>?_)
  obtain ⟨cs1,hc1,hr1⟩:=he1
  obtain ⟨rfl,hb1,hb2,hb3⟩:=Ya hr1
  refine Zd hS1 hc1 [.int .i64 x1.k, .int .i64 x1.n,Zb x1.s] ZG rfl rfl rfl rfl rfl ?_
  refine Zn hS1 Zhj rfl rfl rfl (ZcN hS1.imm x1 _ (YK x1 hb1 hb2 hb3)) (fun w2 G2 hS2 hle2=>?_)
  refine WL.split (fun (h2 : (Zy x1) = true)=>?_) (fun (h2 : (Zy x1) = false)=>?_)
  ·refine Zk k1 (by have hreach : reach = 140737488355328:=rfl; omega) rfl rfl rfl ?_
   exact BK.mk' _ ⟨k1 + 1,G2,rfl,(hle1.trans hle2),hS2,⟨rfl,rfl,trivial⟩,(by omega),(by exact YS ‹_› ‹_› (by simpa using ‹_›))⟩ (show l.length - (k1 + 1) < l.length - k1 by omega)
  exact RB hS2 rfl (by exact (ZcH ‹_› (by simpa using ‹_›)).symm)
 exact RB hS1 rfl (by exact (ZQ ‹_› (by omega)).symm)
theorem Zol {G : GH} {w : World} (hG : G.In w) (a b : List Val) (va : Value) (hva : Sl ValE 32 G va a) (vb : Value) (hvb : Sl ValE 32 G vb b) : CL Tryz.prog (nat_lit 82) #[va,vb] [] w G fun _ _ r=>r = .bool (decide (a = b)):=by
 refine Zf ft [] Tryz.func82 rfl rfl ?_
 have hS:=St.start (X:=[]) hG
 have bd1:=hva.bound
 refine Zj hva Yj rfl rfl ?_
 have bd2:=hvb.bound
 refine Zj hvb Yj rfl rfl ?_
 refine Yy (a.length : Int) (b.length : Int) rfl rfl rfl (fun h1=>?_) (fun h1=>?_)
 ·exact RB hS rfl (by rw [← Xy]; exact (XB (by omega)).symm)
 refine LP.go ft [] (fun m ρ1 w1=>∃ (k1 : Nat),∃ (G1 : GH),m = a.length - k1 ∧ G.le G1 ∧ St w [] G G1 [] w1 ∧ FR ρ1 [(0,va),(1,vb),(5, .int .i64 (k1 : Int))] ∧ k1 ≤ a.length ∧ ∀ j,j < k1 → ∀ x y,a[j]? = some x → b[j]? = some y → decide (x = y) = true) _ ⟨0,G,rfl,(G.le_refl),hS,⟨rfl,rfl,rfl,trivial⟩,(by omega),(by intro j hj; omega)⟩ ?_
 rintro m ρ1 w1 ⟨k1,G1,rfl,hle1,hS1,hF9,f1,f2⟩
 refine hF9.set ?_
 clear hF9
 have bd3:=hva.bound
 refine Zj (hva.mono hle1) Yj rfl rfl ?_
 refine Zo (k1 : Int) (a.length : Int) rfl rfl rfl (fun h2=>?_) (fun h2=>?_)
 ·obtain ⟨p1,x1,hx1,he1,ep1⟩:=Sl.at (hva.mono hle1) k1 (by omega)
  obtain ⟨cs1,hc1,hr1⟩:=he1
  obtain ⟨rfl,hb1,hb2,hb3⟩:=Ya hr1
  obtain ⟨p2,x2,hx2,he2,ep2⟩:=Sl.at (hvb.mono hle1) k1 (by omega)
  obtain ⟨cs2,hc2,hr2⟩:=he2
  obtain ⟨rfl,hb4,hb5,hb6⟩:=Ya hr2
  rcases Classical.em (x1 = x2) with h3 | h3
  ·refine dr [] [(19, .pointer (some p1)),(20, .agg #[.int .i64 x1.k, .int .i64 x1.n,Zb x1.s]),(23, .pointer (some p2)),(24, .agg #[.int .i64 x2.k, .int .i64 x2.n,Zb x2.s]),(25, .bool false)] hS1 ⟨fun _=>Zh k1 ep1 Yj ZG rfl rfl rfl rfl <| nu rfl rfl,fun _ hSw=>Zd hSw hc1 [.int .i64 x1.k, .int .i64 x1.n,Zb x1.s] ZG rfl rfl rfl rfl rfl <| nu rfl rfl,fun _=>Zh k1 ep2 Yj ZG rfl rfl rfl rfl <| nu rfl rfl,fun _ hSw=>Zd hSw hc2 [.int .i64 x2.k, .int .i64 x2.n,Zb x2.s] ZG rfl rfl rfl rfl rfl <| nu rfl rfl,fun _=>ZaE false (ZdT x1 x2) Zhk (by simp [h3]) rfl rfl rfl <| nu rfl rfl,trivial⟩ (fun w2 hS2=>?_)
   refine Zk k1 (by have hreach : reach = 140737488355328:=rfl; omega) rfl rfl rfl ?_
   exact BK.mk' _ ⟨k1 + 1,G1,rfl,hle1,hS2,⟨rfl,rfl,rfl,trivial⟩,(by omega),(by exact QF ‹_› ‹_› ‹_› (decide_eq_true (by simp_all)))⟩ (show a.length - (k1 + 1) < a.length - k1 by omega)
  refine dr [] [(19, .pointer (some p1)),(20, .agg #[.int .i64 x1.k, .int .i64 x1.n,Zb x1.s]),(23, .pointer (some p2)),(24, .agg #[.int .i64 x2.k, .int .i64 x2.n,Zb x2.s]),(25, .bool true)] hS1 ⟨fun _=>Zh k1 ep1 Yj ZG rfl rfl rfl rfl <| nu rfl rfl,fun _ hSw=>Zd hSw hc1 [.int .i64 x1.k, .int .i64 x1.n,Zb x1.s] ZG rfl rfl rfl rfl rfl <| nu rfl rfl,fun _=>Zh k1 ep2 Yj ZG rfl rfl rfl rfl <| nu rfl rfl,fun _ hSw=>Zd hSw hc2 [.int .i64 x2.k, .int .i64 x2.n,Zb x2.s] ZG rfl rfl rfl rfl rfl <| nu rfl rfl,fun _=>ZaE true (ZdT x1 x2) Zhk (by simp [h3]) rfl rfl rfl <| nu rfl rfl,trivial⟩ (fun w3 hS3=>?_)
  exact RB hS3 rfl (by rw [← Xy]; exact (XV (f:=fun (x y : Val)=>decide (x = y)) ‹_› ‹_› (decide_eq_false (by simp_all))).symm)
 exact RB hS1 rfl (by rw [← Xy]; exact (XM (by omega) ‹_› (by omega)).symm)
end Go.Civ
