/- Lemmas. -/
import Derived.Test.YthgeclodflmiaaaGreatH17
import Derived.Test.YthgeclodflmiaaaGreatH19
import Derived.Test.YthgeclodflmiaaaGreatProg
import Derived.KernelRfl
import Derived.WalkKit
set_option linter.unusedVariables false
set_option linter.unusedSimpArgs false
set_option maxRecDepth 100000
set_option maxHeartbeats 4000000
namespace Go.Civ
open Go.Proofs
theorem ZoO {G : GH} {w : World} (hG : G.In w) (x : Span) (cx : List Value) (hcx : SpanE.rep G x cx) : CL Tryz.prog (nat_lit 187) #[.agg cx.toArray] [] w G fun _ _ r=>r = .bool (!Xx x):=by
 refine Zg ft [] Tryz.func187 rfl rfl ?_
 have hS:=St.start (X:=[]) hG
 obtain ⟨rfl,hb1,hb2⟩:=ZE hcx
 refine Zv [.int .i64 x.a, .int .i64 x.b] _ hS rfl rfl rfl (fun p1 w1 G1 hle1 hsp1 hc1 hS1=>?_)
 refine Zc hS1 hc1 [.int .i64 x.a, .int .i64 x.b] Zu rfl rfl rfl rfl rfl ?_
 refine Zn hS1 Zk8 rfl rfl rfl (Zdg hS1.imm x _ (Zs x hb1 hb2)) (fun w2 G2 hS2 hle2=>?_)
 exact RB hS2 rfl (by rfl)
theorem ZoP {G : GH} {w : World} (hG : G.In w) (l : List Span) (pf : Span → Bool) (vl : Value) (hvl : Sl SpanE 16 G vl l) (fid : Nat) (fcap : Array Value) (hf : FnB Tryz.prog (Is SpanE) fid fcap G (fun x=>x ∈ l) pf) : CL Tryz.prog (nat_lit 226) #[vl, .func (.func fid) #[] fcap] [] w G fun _ _ r=>r = .int .i64 (Za4 pf l):=by
 refine Zg ft [] Tryz.func226 rfl rfl ?_
 have hS:=St.start (X:=[]) hG
 have bd1:=hvl.bound
 refine Zj hvl YT rfl rfl ?_
 refine LP.go ft [] (fun m ρ1 w1=>∃ (k1 : Nat),∃ (G1 : GH),m = l.length - k1 ∧ G.le G1 ∧ St w [] G G1 [] w1 ∧ FR ρ1 [(0,vl),(1, .func (.func fid) #[] fcap),(7, .int .i64 (l.length : Int)),(8, .int .i64 (k1 : Int))] ∧ k1 ≤ l.length ∧ ∀ j,j < k1 → ∀ x,l[j]? = some x → pf x = false) _ ⟨0,G,rfl,(G.le_refl),hS,⟨rfl,rfl,rfl,rfl,trivial⟩,(by omega),(by intro j hj; omega)⟩ ?_
 rintro m ρ1 w1 ⟨k1,G1,rfl,hle1,hS1,hF9,f1,f2⟩
 refine hF9.set ?_
 clear hF9
 refine Zq (k1 : Int) (l.length : Int) rfl rfl rfl (fun h1=>?_) (fun h1=>?_)
 ·refine WL.indexAddr (hvl.mono hle1) k1 (by omega) YT Zu rfl rfl rfl rfl (fun p1 x1 hx1 he1=>?_)
  obtain ⟨cs1,hc1,hr1⟩:=he1
  obtain ⟨rfl,hb1,hb2⟩:=ZE hr1
  refine Zc hS1 hc1 [.int .i64 x1.a, .int .i64 x1.b] Zu rfl rfl rfl rfl rfl ?_
  refine Zn hS1 hf.body rfl rfl rfl (hf.call _ _ (.agg #[.int .i64 x1.a, .int .i64 x1.b]) x1 hle1 hS1.imm (List.mem_of_getElem? hx1) ⟨_,rfl,(Zs x1 hb1 hb2)⟩) (fun w2 G2 hS2 hle2=>?_)
  refine WL.split (fun (h2 : (pf x1) = true)=>?_) (fun (h2 : (pf x1) = false)=>?_)
  ·exact RI hS2 rfl (by exact (Zcs _ ‹_› ‹_› ‹_›).symm)
  refine Zl k1 (by have hreach : reach = 140737488355328:=rfl; omega) rfl rfl rfl ?_
  exact BK.mk' _ ⟨k1 + 1,G2,rfl,(hle1.trans hle2),hS2,⟨rfl,rfl,rfl,rfl,trivial⟩,(by omega),(by exact Xy ‹_› ‹_› ‹_›)⟩ (show l.length - (k1 + 1) < l.length - k1 by omega)
 exact RI hS1 rfl (by exact (Zb5 ‹_› (by omega)).symm)
theorem ZkU {G : GH} {w : World} (hG : G.In w) (l : List Span) (pf : Span → Bool) (vl : Value) (hvl : Sl SpanE 16 G vl l) (fid : Nat) (fcap : Array Value) (hf : FnB Tryz.prog (Is SpanE) fid fcap G (fun x=>x ∈ l) pf) : CL Tryz.prog (nat_lit 186) #[vl, .func (.func fid) #[] fcap] [] w G fun _ _ r=>r = .bool (l.any pf):=by
 refine Zg ft [] Tryz.func186 rfl rfl ?_
 have hS:=St.start (X:=[]) hG
 refine Zn hS Zwh rfl rfl rfl (ZoP hS.imm l pf _ hvl fid fcap (hf.up (G.le_refl))) (fun w1 G1 hS1 hle1=>?_)
 refine ZZ .geq rfl .i64 (Za4 pf l) 0 rfl rfl rfl ?_
 exact RB hS1 rfl (by exact Ze0 _ _)
theorem ZdT {G : GH} {w : World} (hG : G.In w) (l : List Span) (vl : Value) (hvl : Sl SpanE 16 G vl l) (hC : Can l) (hV : ∀ s ∈ l,Xx s = true) (hl : l.length ≤ 2000) : CL Tryz.prog (nat_lit 39) #[vl] [] w G fun _ _ r=>r = .bool true:=by
 refine Zg ft [] Tryz.func39 rfl rfl ?_
 have hS:=St.start (X:=[]) hG
 have bd1:=hvl.bound
 refine Zj hvl YT rfl rfl ?_
 refine YX (l.length : Int) 2000 rfl rfl rfl (fun h1=>?_) (fun h1=>?_)
 ·exact RB hS rfl (by (exfalso; omega))
 have bd2:=hvl.bound
 refine Zj hvl YT rfl rfl ?_
 refine LP.go ft [] (fun m ρ1 w1=>∃ (k1 : Nat),∃ (G1 : GH),m = l.length - k1 ∧ G.le G1 ∧ St w [] G G1 [] w1 ∧ FR ρ1 [(0,vl),(8,vl),(9, .int .i64 (l.length : Int)),(10, .int .i64 (k1 : Int))] ∧ k1 ≤ l.length) _ ⟨0,G,rfl,(G.le_refl),hS,⟨rfl,rfl,rfl,rfl,trivial⟩,(by omega)⟩ ?_
 rintro m ρ1 w1 ⟨k1,G1,rfl,hle1,hS1,hF9,f1⟩
 refine hF9.set ?_
 clear hF9
 refine Zq (k1 : Int) (l.length : Int) rfl rfl rfl (fun h2=>?_) (fun h2=>?_)
 ·refine WL.indexAddr (hvl.mono hle1) k1 (by omega) YT Zu rfl rfl rfl rfl (fun p1 x1 hx1 he1=>?_)
  obtain ⟨cs1,hc1,hr1⟩:=he1
  obtain ⟨rfl,hb1,hb2⟩:=ZE hr1
  refine Zc hS1 hc1 [.int .i64 x1.a, .int .i64 x1.b] Zu rfl rfl rfl rfl rfl ?_
  refine WL.alloc hS1 Zu rfl rfl (fun b1 w2 hn1 hS2=>?_)
  refine WL.store hS2 0 _ _ _ 0 _ [.int .i64 x1.a, .int .i64 x1.b] [.int .i64 x1.a, .int .i64 x1.b] _ rfl rfl Zu rfl (Nat.le_of_ble_eq_true rfl) rfl rfl rfl rfl rfl rfl (fun w3 hS3=>?_)
  obtain ⟨G2,hle2,hc2,hS4⟩:=hS3.shutB hn1
  rcases Bool.eq_false_or_eq_true (Xx x1) with h3 | h3
  ·rcases Cmp.dec .gtr (k1 : Int) 0 with ⟨hb3,q1⟩ | ⟨hb3,q1⟩
   ·have h4 : 0 < (k1 : Int):=q1
    clear q1
    obtain ⟨p2,x2,hx2,he2,ep1⟩:=Sl.at (hvl.mono (hle1.trans hle2)) (k1 - 1) (by omega)
    obtain ⟨cs2,hc3,hr2⟩:=he2
    obtain ⟨rfl,hb4,hb5⟩:=ZE hr2
    rcases Cmp.dec .geq x2.b x1.a with ⟨hb6,q2⟩ | ⟨hb6,q2⟩
    ·have h5 : x1.a ≤ x2.b:=q2
     clear q2
     refine dr [] [(15, .agg #[.int .i64 x1.a, .int .i64 x1.b]),(16, .bool true),(20, .bool true),(24, .int .i64 ((k1 - 1 : Nat) : Int)),(25, .pointer (some p2)),(27, .int .i64 x2.b),(29, .int .i64 x1.a),(30, .bool true)] hS4 ⟨fun _ hSw=>Zc hSw hc2 [.int .i64 x1.a, .int .i64 x1.b] Zu rfl rfl rfl rfl rfl <| nu rfl rfl,fun _ hSw=>Z4 hSw Zk8 rfl rfl rfl (Zdg hSw.imm x1 _ (Zs x1 hb1 hb2)) (congrArg Value.bool h3.symm),fun _=>WL.cmpV .gtr rfl .i64 (k1 : Int) 0 _ hb3 rfl rfl rfl <| nu rfl rfl,fun _=>Qt k1 (by omega) (by have hreach : reach = 140737488355328:=rfl; omega) rfl rfl rfl <| nu rfl rfl,fun _=>Zk (k1 - 1) ep1 YT Zu rfl rfl rfl rfl <| nu rfl rfl,fun _ hSw=>Za hSw (Xw.drop 1 hc3) Zp rfl rfl rfl <| nu rfl rfl,fun _ hSw=>Za hSw (Xw.drop 0 hc2) Zp rfl rfl rfl <| nu rfl rfl,fun _=>WL.cmpV .geq rfl .i64 x2.b x1.a _ hb6 rfl rfl rfl <| nu rfl rfl,trivial⟩ (fun w4 hS5=>?_)
     exact RB hS5 rfl (by exact (Zte hC ‹_› ‹_› (by omega) ‹_›).elim)
    have h5 : x2.b < x1.a:=q2
    clear q2
    refine dr [] [(15, .agg #[.int .i64 x1.a, .int .i64 x1.b]),(16, .bool true),(20, .bool true),(24, .int .i64 ((k1 - 1 : Nat) : Int)),(25, .pointer (some p2)),(27, .int .i64 x2.b),(29, .int .i64 x1.a),(30, .bool false)] hS4 ⟨fun _ hSw=>Zc hSw hc2 [.int .i64 x1.a, .int .i64 x1.b] Zu rfl rfl rfl rfl rfl <| nu rfl rfl,fun _ hSw=>Z4 hSw Zk8 rfl rfl rfl (Zdg hSw.imm x1 _ (Zs x1 hb1 hb2)) (congrArg Value.bool h3.symm),fun _=>WL.cmpV .gtr rfl .i64 (k1 : Int) 0 _ hb3 rfl rfl rfl <| nu rfl rfl,fun _=>Qt k1 (by omega) (by have hreach : reach = 140737488355328:=rfl; omega) rfl rfl rfl <| nu rfl rfl,fun _=>Zk (k1 - 1) ep1 YT Zu rfl rfl rfl rfl <| nu rfl rfl,fun _ hSw=>Za hSw (Xw.drop 1 hc3) Zp rfl rfl rfl <| nu rfl rfl,fun _ hSw=>Za hSw (Xw.drop 0 hc2) Zp rfl rfl rfl <| nu rfl rfl,fun _=>WL.cmpV .geq rfl .i64 x2.b x1.a _ hb6 rfl rfl rfl <| nu rfl rfl,trivial⟩ (fun w5 hS6=>?_)
    refine Zl k1 (by have hreach : reach = 140737488355328:=rfl; omega) rfl rfl rfl ?_
    exact BK.mk' _ ⟨k1 + 1,G2,rfl,(hle1.trans hle2),hS6,⟨rfl,rfl,rfl,rfl,trivial⟩,(by omega)⟩ (show l.length - (k1 + 1) < l.length - k1 by omega)
   have h4 : (k1 : Int) ≤ 0:=q1
   clear q1
   refine dr [] [(15, .agg #[.int .i64 x1.a, .int .i64 x1.b]),(16, .bool true),(20, .bool false)] hS4 ⟨fun _ hSw=>Zc hSw hc2 [.int .i64 x1.a, .int .i64 x1.b] Zu rfl rfl rfl rfl rfl <| nu rfl rfl,fun _ hSw=>Z4 hSw Zk8 rfl rfl rfl (Zdg hSw.imm x1 _ (Zs x1 hb1 hb2)) (congrArg Value.bool h3.symm),fun _=>WL.cmpV .gtr rfl .i64 (k1 : Int) 0 _ hb3 rfl rfl rfl <| nu rfl rfl,trivial⟩ (fun w6 hS7=>?_)
   refine Zl k1 (by have hreach : reach = 140737488355328:=rfl; omega) rfl rfl rfl ?_
   exact BK.mk' _ ⟨k1 + 1,G2,rfl,(hle1.trans hle2),hS7,⟨rfl,rfl,rfl,rfl,trivial⟩,(by omega)⟩ (show l.length - (k1 + 1) < l.length - k1 by omega)
  refine dr [] [(15, .agg #[.int .i64 x1.a, .int .i64 x1.b]),(16, .bool false)] hS4 ⟨fun _ hSw=>Zc hSw hc2 [.int .i64 x1.a, .int .i64 x1.b] Zu rfl rfl rfl rfl rfl <| nu rfl rfl,fun _ hSw=>Z4 hSw Zk8 rfl rfl rfl (Zdg hSw.imm x1 _ (Zs x1 hb1 hb2)) (congrArg Value.bool h3.symm),trivial⟩ (fun w7 hS8=>?_)
  exact RB hS8 rfl (by exact absurd (hV _ (List.mem_of_getElem? ‹_›)) (Bool.eq_false_iff.1 ‹_›))
 exact RB hS1 rfl (by rfl)
theorem Zh9 {G : GH} {w : World} (hG : G.In w) (l : List Span) (vl : Value) (hvl : Sl SpanE 16 G vl l) (hl : l.length ≤ 2000) : CL Tryz.prog (nat_lit 181) #[vl] [] w G fun G' _ r=>∃ r0 r1,r = .tuple #[r0,r1] ∧ Sl SpanE 16 G' r0 l ∧ r1 = .int .i64 0:=by
 refine Zg ft [] Tryz.func181 rfl rfl ?_
 have hS:=St.start (X:=[]) hG
 have bd1:=hvl.bound
 refine Zj hvl YT rfl rfl ?_
 refine YX (l.length : Int) 2000 rfl rfl rfl (fun h1=>?_) (fun h1=>?_)
 ·exact RT hS rfl ⟨_,_,rfl,(Sl.cast (Sl.nil SpanE 16 G) (by (exfalso; omega))),(congrArg (Value.int .i64) (by (exfalso; omega)))⟩
 exact RT hS rfl ⟨_,_,rfl,(Sl.cast hvl (by rfl)),(congrArg (Value.int .i64) (by rfl))⟩
theorem Zap {G : GH} {w : World} (hG : G.In w) (l : List Span) (n : Nat) (vl : Value) (hvl : Sl SpanE 16 G vl l) (hn : n ≤ 2 * l.length) (hl : l.length ≤ 2000) : CL Tryz.prog (nat_lit 180) #[vl, .int .i64 (n : Int)] [] w G fun _ _ r=>r = .int .i64 (Zd l n):=by
 refine Zg ft [] Tryz.func180 rfl rfl ?_
 have hS:=St.start (X:=[]) hG
 have bd1:=hvl.bound
 refine Zj hvl YT rfl rfl ?_
 refine ZfU 2 l.length (by have hreach : reach = 140737488355328:=rfl; omega) rfl rfl rfl ?_
 refine ZC (n : Int) ((2 * l.length : Nat) : Int) rfl rfl rfl (fun h1=>?_) (fun h1=>?_)
 ·exact RI hS rfl (by exact (ZdA (by omega)).symm)
 refine XH n 2 (by omega) (by have hreach : reach = 140737488355328:=rfl; omega) rfl rfl rfl ?_
 refine ZC ((n % 2 : Nat) : Int) 0 rfl rfl rfl (fun h2=>?_) (fun h2=>?_)
 ·refine Zmg n 2 (by omega) (by have hreach : reach = 140737488355328:=rfl; omega) rfl rfl rfl ?_
  refine WL.indexAddr hvl (n / 2) (by omega) YT Zu rfl rfl rfl rfl (fun p1 x1 hx1 he1=>?_)
  obtain ⟨cs1,hc1,hr1⟩:=he1
  obtain ⟨rfl,hb1,hb2⟩:=ZE hr1
  refine Za hS (Xw.drop 0 hc1) Zp rfl rfl rfl ?_
  exact RI hS rfl (by exact (Ztf (by omega) ‹_› (by omega)).symm)
 refine Zmg n 2 (by omega) (by have hreach : reach = 140737488355328:=rfl; omega) rfl rfl rfl ?_
 refine WL.indexAddr hvl (n / 2) (by omega) YT Zu rfl rfl rfl rfl (fun p2 x2 hx2 he2=>?_)
 obtain ⟨cs2,hc2,hr2⟩:=he2
 obtain ⟨rfl,hb3,hb4⟩:=ZE hr2
 refine Za hS (Xw.drop 1 hc2) Zp rfl rfl rfl ?_
 exact RI hS rfl (by exact (Ztg (by omega) ‹_› (by omega)).symm)
theorem ZaD {G : GH} {w : World} (hG : G.In w) (a b : Bool) : CL Tryz.prog (nat_lit 131) #[.bool a, .bool b] [] w G fun _ _ r=>r = .bool (a && !b):=by
 refine Zg ft [] Tryz.func131 rfl rfl ?_
 have hS:=St.start (X:=[]) hG
 refine XT (d:=0) rfl (fun (h1 : a = true)=>?_) (fun (h1 : a = false)=>?_)
 ·exact RB hS rfl (by simp_all)
 exact RB hS rfl (by simp_all)
theorem ZoQ {G : GH} {w : World} (hG : G.In w) (a b : List Span) (va : Value) (hva : Sl SpanE 16 G va a) (vb : Value) (hvb : Sl SpanE 16 G vb b) (hCa : Can a) (hCb : Can b) (hVa : ∀ s ∈ a,Xx s = true) (hVb : ∀ s ∈ b,Xx s = true) (hla : a.length ≤ 1000) (hlb : b.length ≤ 1000) : CL Tryz.prog (nat_lit 130) #[va,vb, .func (.func 131) #[] #[]] [] w G fun G' _ r=>∃ r0 r1,r = .tuple #[r0,r1] ∧ Sl SpanE 16 G' r0 (ZX 3 a b) ∧ r1 = .int .i64 0:=by
 refine Zg ft [] Tryz.func130 rfl rfl ?_
 have hS:=St.start (X:=[]) hG
 refine Zn hS Zk5 rfl rfl rfl (ZdT hS.imm a _ hva ‹_› ‹_› (by omega)) (fun w1 G1 hS1 hle1=>?_)
 refine Zn hS1 Zk5 rfl rfl rfl (ZdT hS1.imm b _ (hvb.mono hle1) ‹_› ‹_› (by omega)) (fun w2 G2 hS2 hle2=>?_)
 have hS4:=hS2.pad
 refine LP.go ft [] (fun m ρ1 w1=>∃ (i : Nat),∃ (n : Nat),∃ (ins : Bool),∃ (fr : Int),∃ (out9 : List Span),∃ (T : Int),∃ (v1 : Value) (o1 : OB),∃ (G3 : GH),m = (2 * a.length + 2 * b.length - i - n) ∧ G2.le G3 ∧ St w [] G G3 [o1] w1 ∧ Ye SpanE 16 33 G3 v1 out9 o1 ∧ FR ρ1 [(0,va),(1,vb),(2, .func (.func 131) #[] #[]),(8,v1),(9, .int .i64 (i : Int)),(10, .int .i64 (n : Int)),(11, .func (.func 180) #[] #[]),(12, .bool ins),(13, .int .i64 fr)] ∧ Sweep a b i n ins fr out9 T) _ ⟨0,0,false,0,[],(-8796093022208),(.slice none 0 0),none,G2,rfl,(G2.le_refl),hS4,(Ye.nil SpanE 16 33 G2),⟨rfl,rfl,rfl,rfl,rfl,rfl,rfl,rfl,rfl,trivial⟩,(Sweep.start hVa hVb)⟩ ?_
 rintro m ρ1 w3 ⟨i,n,ins,fr,out9,T,v1,o1,G3,rfl,hle3,hS3,hr1,hF9,f1⟩
 refine hF9.set ?_
 clear hF9
 have hba9:=(by assumption : Sweep a b i n ins fr out9 T).ba.le
 have hbb9:=(by assumption : Sweep a b i n ins fr out9 T).bb.le
 have hbd9:=(by assumption : Sweep a b i n ins fr out9 T).bds
 have hfr9 : Zw fr:=⟨by omega,by omega⟩
 have bd1:=hva.bound
 refine Zj (hva.mono ((hle1.trans hle2).trans hle3)) YT rfl rfl ?_
 refine ZfU 2 a.length (by have hreach : reach = 140737488355328:=rfl; omega) rfl rfl rfl ?_
 refine Zq (i : Int) ((2 * a.length : Nat) : Int) rfl rfl rfl (fun h1=>?_) (fun h1=>?_)
 ·refine Zn hS3 Zck rfl rfl rfl (Zap hS3.imm a i _ (hva.mono ((hle1.trans hle2).trans hle3)) (by omega) (by omega)) (fun w4 G4 hS5 hle4=>?_)
  refine Zn hS5 Zck rfl rfl rfl (Zap hS5.imm b n _ (hvb.mono (((hle1.trans hle2).trans hle3).trans hle4)) (by omega) (by omega)) (fun w5 G5 hS6 hle5=>?_)
  refine ZhY (Zd a i) (Zd b n) rfl rfl rfl ?_
  refine Zn hS6 Zck rfl rfl rfl (Zap hS6.imm a i _ (hva.mono ((((hle1.trans hle2).trans hle3).trans hle4).trans hle5)) (by omega) (by omega)) (fun w6 G6 hS7 hle6=>?_)
  refine ZC (Zd a i) (min (Zd a i) (Zd b n)) rfl rfl rfl (fun h2=>?_) (fun h2=>?_)
  ·refine Zl i (by have hreach : reach = 140737488355328:=rfl; omega) rfl rfl rfl ?_
   refine Zn hS7 Zck rfl rfl rfl (Zap hS7.imm b n _ (hvb.mono (((((hle1.trans hle2).trans hle3).trans hle4).trans hle5).trans hle6)) (by omega) (by omega)) (fun w7 G7 hS8 hle7=>?_)
   refine ZC (Zd b n) (min (Zd a i) (Zd b n)) rfl rfl rfl (fun h3=>?_) (fun h3=>?_)
   ·refine Zl n (by have hreach : reach = 140737488355328:=rfl; omega) rfl rfl rfl ?_
    have hnx:=Sweep.next (i':=i + 1) (k':=n + 1) (by assumption : Sweep a b i n ins fr out9 T) hCa hCb hVa hVb rfl (by exact .inl (by omega)) (by exact Adv.yes ‹_›) (by exact Adv.yes ‹_›)
    have hn1:=hnx.lt; have hn2:=hnx.tb; have hn3:=hnx.adv; have hn4:=hnx.ba.le; have hn5:=hnx.bb.le
    have hat9 : Zw (min (Zd a i) (Zd b n)):=⟨by omega,by omega⟩
    refine XH (i + 1) 2 (by omega) (by have hreach : reach = 140737488355328:=rfl; omega) rfl rfl rfl ?_
    refine ZZ .eql rfl .i64 (((i + 1) % 2 : Nat) : Int) 1 rfl rfl rfl ?_
    refine XH (n + 1) 2 (by omega) (by have hreach : reach = 140737488355328:=rfl; omega) rfl rfl rfl ?_
    refine ZZ .eql rfl .i64 (((n + 1) % 2 : Nat) : Int) 1 rfl rfl rfl ?_
    refine Zn hS8 Zd0 rfl rfl rfl (ZaD hS8.imm (Cmp.b .eql (((i + 1) % 2 : Nat) : Int) 1) (Cmp.b .eql (((n + 1) % 2 : Nat) : Int) 1)) (fun w9 G9 hS9 hle9=>?_)
    refine WL.split (fun (h4 : ((Cmp.b .eql (((i + 1) % 2 : Nat) : Int) 1) && !(Cmp.b .eql (((n + 1) % 2 : Nat) : Int) 1)) = true)=>?_) (fun (h4 : ((Cmp.b .eql (((i + 1) % 2 : Nat) : Int) 1) && !(Cmp.b .eql (((n + 1) % 2 : Nat) : Int) 1)) = false)=>?_)
    ·refine Xu true ins ul4 rfl rfl rfl ?_
     refine WL.split (fun (h5 : (true == ins) = true)=>?_) (fun (h5 : (true == ins) = false)=>?_)
     ·exact BK.mk' _ ⟨i + 1,n + 1,ins,fr,out9,(min (Zd a i) (Zd b n)),v1,o1,G9,rfl,(hle3.trans ((((hle4.trans hle5).trans hle6).trans hle7).trans hle9)),hS9,(hr1.mono ((((hle4.trans hle5).trans hle6).trans hle7).trans hle9)),⟨rfl,rfl,rfl,rfl,rfl,rfl,rfl,rfl,rfl,trivial⟩,(by exact Sweep.keep ‹_› hnx ‹_› ‹_›)⟩ (show (2 * a.length + 2 * b.length - (i + 1) - (n + 1)) < (2 * a.length + 2 * b.length - i - n) by omega)
     refine XT (d:=12) rfl (fun (h6 : ins = true)=>?_) (fun (h6 : ins = false)=>?_)
     ·refine WL.build _ [(0,[.int .i64 fr]),(1,[.int .i64 (min (Zd a i) (Zd b n))])] [.int .i64 fr, .int .i64 (min (Zd a i) (Zd b n))] Zu rfl X6 rfl rfl rfl rfl ?_
      refine WL.buildSlice _ [(0,[.int .i64 fr, .int .i64 (min (Zd a i) (Zd b n))])] [.int .i64 fr, .int .i64 (min (Zd a i) (Zd b n))] hS9 YO rfl rfl rfl rfl (fun z hz=>by match z,hz with | [z0,z1],_=>rfl) (fun b1 w10 hn1 hS10=>?_)
      refine WL.push (m:=([(Span.mk fr (min (Zd a i) (Zd b n)))] : List Span)) YO rfl rfl rfl (hr1.mono ((((hle4.trans hle5).trans hle6).trans hle7).trans hle9)) hS10 1 rfl 0 _ _ _ _ _ rfl ⟨[.int .i64 fr, .int .i64 (min (Zd a i) (Zd b n))],_,rfl,(Zs (Span.mk fr (min (Zd a i) (Zd b n))) hfr9 hat9),rfl⟩ rfl (by have hreach : reach = 140737488355328:=rfl; have hlen9:=(by assumption : Sweep a b i n ins fr out9 T).len; simp only [List.length_append,List.length_cons,List.length_nil]; omega) (by have hreach : reach = 140737488355328:=rfl; have hlen9:=(by assumption : Sweep a b i n ins fr out9 T).len; simp only [List.length_append,List.length_cons,List.length_nil]; omega) rfl rfl rfl (fun v2 o2 w11 hr2 hS11=>?_)
      have hS12:=hS11.tail
      exact BK.mk' _ ⟨i + 1,n + 1,true,(min (Zd a i) (Zd b n)),(out9 ++ [(Span.mk fr (min (Zd a i) (Zd b n)))]),(min (Zd a i) (Zd b n)),v2,o2,G9,rfl,(hle3.trans ((((hle4.trans hle5).trans hle6).trans hle7).trans hle9)),hS12,hr2,⟨rfl,rfl,rfl,rfl,rfl,rfl,rfl,rfl,rfl,trivial⟩,(by exact Sweep.flip ‹_› hnx ‹_› ‹_› ‹_›)⟩ (show (2 * a.length + 2 * b.length - (i + 1) - (n + 1)) < (2 * a.length + 2 * b.length - i - n) by omega)
     exact BK.mk' _ ⟨i + 1,n + 1,true,(min (Zd a i) (Zd b n)),out9,(min (Zd a i) (Zd b n)),v1,o1,G9,rfl,(hle3.trans ((((hle4.trans hle5).trans hle6).trans hle7).trans hle9)),hS9,(hr1.mono ((((hle4.trans hle5).trans hle6).trans hle7).trans hle9)),⟨rfl,rfl,rfl,rfl,rfl,rfl,rfl,rfl,rfl,trivial⟩,(by exact Sweep.flop ‹_› hnx ‹_› ‹_› ‹_›)⟩ (show (2 * a.length + 2 * b.length - (i + 1) - (n + 1)) < (2 * a.length + 2 * b.length - i - n) by omega)
    refine Xu false ins ul4 rfl rfl rfl ?_
    refine WL.split (fun (h7 : (false == ins) = true)=>?_) (fun (h7 : (false == ins) = false)=>?_)
    ·exact BK.mk' _ ⟨i + 1,n + 1,ins,fr,out9,(min (Zd a i) (Zd b n)),v1,o1,G9,rfl,(hle3.trans ((((hle4.trans hle5).trans hle6).trans hle7).trans hle9)),hS9,(hr1.mono ((((hle4.trans hle5).trans hle6).trans hle7).trans hle9)),⟨rfl,rfl,rfl,rfl,rfl,rfl,rfl,rfl,rfl,trivial⟩,(by exact Sweep.keep ‹_› hnx ‹_› ‹_›)⟩ (show (2 * a.length + 2 * b.length - (i + 1) - (n + 1)) < (2 * a.length + 2 * b.length - i - n) by omega)
    refine XT (d:=12) rfl (fun (h8 : ins = true)=>?_) (fun (h8 : ins = false)=>?_)
    ·refine WL.build _ [(0,[.int .i64 fr]),(1,[.int .i64 (min (Zd a i) (Zd b n))])] [.int .i64 fr, .int .i64 (min (Zd a i) (Zd b n))] Zu rfl X6 rfl rfl rfl rfl ?_
     refine WL.buildSlice _ [(0,[.int .i64 fr, .int .i64 (min (Zd a i) (Zd b n))])] [.int .i64 fr, .int .i64 (min (Zd a i) (Zd b n))] hS9 YO rfl rfl rfl rfl (fun z hz=>by match z,hz with | [z0,z1],_=>rfl) (fun b2 w12 hn2 hS13=>?_)
     refine WL.push (m:=([(Span.mk fr (min (Zd a i) (Zd b n)))] : List Span)) YO rfl rfl rfl (hr1.mono ((((hle4.trans hle5).trans hle6).trans hle7).trans hle9)) hS13 1 rfl 0 _ _ _ _ _ rfl ⟨[.int .i64 fr, .int .i64 (min (Zd a i) (Zd b n))],_,rfl,(Zs (Span.mk fr (min (Zd a i) (Zd b n))) hfr9 hat9),rfl⟩ rfl (by have hreach : reach = 140737488355328:=rfl; have hlen9:=(by assumption : Sweep a b i n ins fr out9 T).len; simp only [List.length_append,List.length_cons,List.length_nil]; omega) (by have hreach : reach = 140737488355328:=rfl; have hlen9:=(by assumption : Sweep a b i n ins fr out9 T).len; simp only [List.length_append,List.length_cons,List.length_nil]; omega) rfl rfl rfl (fun v3 o3 w13 hr3 hS14=>?_)
     have hS15:=hS14.tail
     exact BK.mk' _ ⟨i + 1,n + 1,false,(min (Zd a i) (Zd b n)),(out9 ++ [(Span.mk fr (min (Zd a i) (Zd b n)))]),(min (Zd a i) (Zd b n)),v3,o3,G9,rfl,(hle3.trans ((((hle4.trans hle5).trans hle6).trans hle7).trans hle9)),hS15,hr3,⟨rfl,rfl,rfl,rfl,rfl,rfl,rfl,rfl,rfl,trivial⟩,(by exact Sweep.flip ‹_› hnx ‹_› ‹_› ‹_›)⟩ (show (2 * a.length + 2 * b.length - (i + 1) - (n + 1)) < (2 * a.length + 2 * b.length - i - n) by omega)
    exact BK.mk' _ ⟨i + 1,n + 1,false,(min (Zd a i) (Zd b n)),out9,(min (Zd a i) (Zd b n)),v1,o1,G9,rfl,(hle3.trans ((((hle4.trans hle5).trans hle6).trans hle7).trans hle9)),hS9,(hr1.mono ((((hle4.trans hle5).trans hle6).trans hle7).trans hle9)),⟨rfl,rfl,rfl,rfl,rfl,rfl,rfl,rfl,rfl,trivial⟩,(by exact Sweep.flop ‹_› hnx ‹_› ‹_› ‹_›)⟩ (show (2 * a.length + 2 * b.length - (i + 1) - (n + 1)) < (2 * a.length + 2 * b.length - i - n) by omega)
   have hnx:=Sweep.next (i':=i + 1) (k':=n) (by assumption : Sweep a b i n ins fr out9 T) hCa hCb hVa hVb rfl (by exact .inl (by omega)) (by exact Adv.yes ‹_›) (by exact Adv.no ‹_›)
   have hn1:=hnx.lt; have hn2:=hnx.tb; have hn3:=hnx.adv; have hn4:=hnx.ba.le; have hn5:=hnx.bb.le
   have hat9 : Zw (min (Zd a i) (Zd b n)):=⟨by omega,by omega⟩
   refine XH (i + 1) 2 (by omega) (by have hreach : reach = 140737488355328:=rfl; omega) rfl rfl rfl ?_
   refine ZZ .eql rfl .i64 (((i + 1) % 2 : Nat) : Int) 1 rfl rfl rfl ?_
   refine XH n 2 (by omega) (by have hreach : reach = 140737488355328:=rfl; omega) rfl rfl rfl ?_
   refine ZZ .eql rfl .i64 ((n % 2 : Nat) : Int) 1 rfl rfl rfl ?_
   refine Zn hS8 Zd0 rfl rfl rfl (ZaD hS8.imm (Cmp.b .eql (((i + 1) % 2 : Nat) : Int) 1) (Cmp.b .eql ((n % 2 : Nat) : Int) 1)) (fun w14 G10 hS16 hle10=>?_)
   refine WL.split (fun (h9 : ((Cmp.b .eql (((i + 1) % 2 : Nat) : Int) 1) && !(Cmp.b .eql ((n % 2 : Nat) : Int) 1)) = true)=>?_) (fun (h9 : ((Cmp.b .eql (((i + 1) % 2 : Nat) : Int) 1) && !(Cmp.b .eql ((n % 2 : Nat) : Int) 1)) = false)=>?_)
   ·refine Xu true ins ul4 rfl rfl rfl ?_
    refine WL.split (fun (h10 : (true == ins) = true)=>?_) (fun (h10 : (true == ins) = false)=>?_)
    ·exact BK.mk' _ ⟨i + 1,n,ins,fr,out9,(min (Zd a i) (Zd b n)),v1,o1,G10,rfl,(hle3.trans ((((hle4.trans hle5).trans hle6).trans hle7).trans hle10)),hS16,(hr1.mono ((((hle4.trans hle5).trans hle6).trans hle7).trans hle10)),⟨rfl,rfl,rfl,rfl,rfl,rfl,rfl,rfl,rfl,trivial⟩,(by exact Sweep.keep ‹_› hnx ‹_› ‹_›)⟩ (show (2 * a.length + 2 * b.length - (i + 1) - n) < (2 * a.length + 2 * b.length - i - n) by omega)
    refine XT (d:=12) rfl (fun (h11 : ins = true)=>?_) (fun (h11 : ins = false)=>?_)
    ·refine WL.build _ [(0,[.int .i64 fr]),(1,[.int .i64 (min (Zd a i) (Zd b n))])] [.int .i64 fr, .int .i64 (min (Zd a i) (Zd b n))] Zu rfl X6 rfl rfl rfl rfl ?_
     refine WL.buildSlice _ [(0,[.int .i64 fr, .int .i64 (min (Zd a i) (Zd b n))])] [.int .i64 fr, .int .i64 (min (Zd a i) (Zd b n))] hS16 YO rfl rfl rfl rfl (fun z hz=>by match z,hz with | [z0,z1],_=>rfl) (fun b3 w15 hn3 hS17=>?_)
     refine WL.push (m:=([(Span.mk fr (min (Zd a i) (Zd b n)))] : List Span)) YO rfl rfl rfl (hr1.mono ((((hle4.trans hle5).trans hle6).trans hle7).trans hle10)) hS17 1 rfl 0 _ _ _ _ _ rfl ⟨[.int .i64 fr, .int .i64 (min (Zd a i) (Zd b n))],_,rfl,(Zs (Span.mk fr (min (Zd a i) (Zd b n))) hfr9 hat9),rfl⟩ rfl (by have hreach : reach = 140737488355328:=rfl; have hlen9:=(by assumption : Sweep a b i n ins fr out9 T).len; simp only [List.length_append,List.length_cons,List.length_nil]; omega) (by have hreach : reach = 140737488355328:=rfl; have hlen9:=(by assumption : Sweep a b i n ins fr out9 T).len; simp only [List.length_append,List.length_cons,List.length_nil]; omega) rfl rfl rfl (fun v4 o4 w16 hr4 hS18=>?_)
     have hS19:=hS18.tail
     exact BK.mk' _ ⟨i + 1,n,true,(min (Zd a i) (Zd b n)),(out9 ++ [(Span.mk fr (min (Zd a i) (Zd b n)))]),(min (Zd a i) (Zd b n)),v4,o4,G10,rfl,(hle3.trans ((((hle4.trans hle5).trans hle6).trans hle7).trans hle10)),hS19,hr4,⟨rfl,rfl,rfl,rfl,rfl,rfl,rfl,rfl,rfl,trivial⟩,(by exact Sweep.flip ‹_› hnx ‹_› ‹_› ‹_›)⟩ (show (2 * a.length + 2 * b.length - (i + 1) - n) < (2 * a.length + 2 * b.length - i - n) by omega)
    exact BK.mk' _ ⟨i + 1,n,true,(min (Zd a i) (Zd b n)),out9,(min (Zd a i) (Zd b n)),v1,o1,G10,rfl,(hle3.trans ((((hle4.trans hle5).trans hle6).trans hle7).trans hle10)),hS16,(hr1.mono ((((hle4.trans hle5).trans hle6).trans hle7).trans hle10)),⟨rfl,rfl,rfl,rfl,rfl,rfl,rfl,rfl,rfl,trivial⟩,(by exact Sweep.flop ‹_› hnx ‹_› ‹_› ‹_›)⟩ (show (2 * a.length + 2 * b.length - (i + 1) - n) < (2 * a.length + 2 * b.length - i - n) by omega)
   refine Xu false ins ul4 rfl rfl rfl ?_
   refine WL.split (fun (h12 : (false == ins) = true)=>?_) (fun (h12 : (false == ins) = false)=>?_)
   ·exact BK.mk' _ ⟨i + 1,n,ins,fr,out9,(min (Zd a i) (Zd b n)),v1,o1,G10,rfl,(hle3.trans ((((hle4.trans hle5).trans hle6).trans hle7).trans hle10)),hS16,(hr1.mono ((((hle4.trans hle5).trans hle6).trans hle7).trans hle10)),⟨rfl,rfl,rfl,rfl,rfl,rfl,rfl,rfl,rfl,trivial⟩,(by exact Sweep.keep ‹_› hnx ‹_› ‹_›)⟩ (show (2 * a.length + 2 * b.length - (i + 1) - n) < (2 * a.length + 2 * b.length - i - n) by omega)
   refine XT (d:=12) rfl (fun (h13 : ins = true)=>?_) (fun (h13 : ins = false)=>?_)
   ·refine WL.build _ [(0,[.int .i64 fr]),(1,[.int .i64 (min (Zd a i) (Zd b n))])] [.int .i64 fr, .int .i64 (min (Zd a i) (Zd b n))] Zu rfl X6 rfl rfl rfl rfl ?_
    refine WL.buildSlice _ [(0,[.int .i64 fr, .int .i64 (min (Zd a i) (Zd b n))])] [.int .i64 fr, .int .i64 (min (Zd a i) (Zd b n))] hS16 YO rfl rfl rfl rfl (fun z hz=>by match z,hz with | [z0,z1],_=>rfl) (fun b4 w17 hn4 hS20=>?_)
    refine WL.push (m:=([(Span.mk fr (min (Zd a i) (Zd b n)))] : List Span)) YO rfl rfl rfl (hr1.mono ((((hle4.trans hle5).trans hle6).trans hle7).trans hle10)) hS20 1 rfl 0 _ _ _ _ _ rfl ⟨[.int .i64 fr, .int .i64 (min (Zd a i) (Zd b n))],_,rfl,(Zs (Span.mk fr (min (Zd a i) (Zd b n))) hfr9 hat9),rfl⟩ rfl (by have hreach : reach = 140737488355328:=rfl; have hlen9:=(by assumption : Sweep a b i n ins fr out9 T).len; simp only [List.length_append,List.length_cons,List.length_nil]; omega) (by have hreach : reach = 140737488355328:=rfl; have hlen9:=(by assumption : Sweep a b i n ins fr out9 T).len; simp only [List.length_append,List.length_cons,List.length_nil]; omega) rfl rfl rfl (fun v5 o5 w18 hr5 hS21=>?_)
    have hS22:=hS21.tail
    exact BK.mk' _ ⟨i + 1,n,false,(min (Zd a i) (Zd b n)),(out9 ++ [(Span.mk fr (min (Zd a i) (Zd b n)))]),(min (Zd a i) (Zd b n)),v5,o5,G10,rfl,(hle3.trans ((((hle4.trans hle5).trans hle6).trans hle7).trans hle10)),hS22,hr5,⟨rfl,rfl,rfl,rfl,rfl,rfl,rfl,rfl,rfl,trivial⟩,(by exact Sweep.flip ‹_› hnx ‹_› ‹_› ‹_›)⟩ (show (2 * a.length + 2 * b.length - (i + 1) - n) < (2 * a.length + 2 * b.length - i - n) by omega)
   exact BK.mk' _ ⟨i + 1,n,false,(min (Zd a i) (Zd b n)),out9,(min (Zd a i) (Zd b n)),v1,o1,G10,rfl,(hle3.trans ((((hle4.trans hle5).trans hle6).trans hle7).trans hle10)),hS16,(hr1.mono ((((hle4.trans hle5).trans hle6).trans hle7).trans hle10)),⟨rfl,rfl,rfl,rfl,rfl,rfl,rfl,rfl,rfl,trivial⟩,(by exact Sweep.flop ‹_› hnx ‹_› ‹_› ‹_›)⟩ (show (2 * a.length + 2 * b.length - (i + 1) - n) < (2 * a.length + 2 * b.length - i - n) by omega)
  refine Zn hS7 Zck rfl rfl rfl (Zap hS7.imm b n _ (hvb.mono (((((hle1.trans hle2).trans hle3).trans hle4).trans hle5).trans hle6)) (by omega) (by omega)) (fun w19 G11 hS23 hle11=>?_)
  refine ZC (Zd b n) (min (Zd a i) (Zd b n)) rfl rfl rfl (fun h14=>?_) (fun h14=>?_)
  ·refine Zl n (by have hreach : reach = 140737488355328:=rfl; omega) rfl rfl rfl ?_
   have hnx:=Sweep.next (i':=i) (k':=n + 1) (by assumption : Sweep a b i n ins fr out9 T) hCa hCb hVa hVb rfl (by exact .inl (by omega)) (by exact Adv.no ‹_›) (by exact Adv.yes ‹_›)
   have hn1:=hnx.lt; have hn2:=hnx.tb; have hn3:=hnx.adv; have hn4:=hnx.ba.le; have hn5:=hnx.bb.le
   have hat9 : Zw (min (Zd a i) (Zd b n)):=⟨by omega,by omega⟩
   refine XH i 2 (by omega) (by have hreach : reach = 140737488355328:=rfl; omega) rfl rfl rfl ?_
   refine ZZ .eql rfl .i64 ((i % 2 : Nat) : Int) 1 rfl rfl rfl ?_
   refine XH (n + 1) 2 (by omega) (by have hreach : reach = 140737488355328:=rfl; omega) rfl rfl rfl ?_
   refine ZZ .eql rfl .i64 (((n + 1) % 2 : Nat) : Int) 1 rfl rfl rfl ?_
   refine Zn hS23 Zd0 rfl rfl rfl (ZaD hS23.imm (Cmp.b .eql ((i % 2 : Nat) : Int) 1) (Cmp.b .eql (((n + 1) % 2 : Nat) : Int) 1)) (fun w20 G12 hS24 hle12=>?_)
   refine WL.split (fun (h15 : ((Cmp.b .eql ((i % 2 : Nat) : Int) 1) && !(Cmp.b .eql (((n + 1) % 2 : Nat) : Int) 1)) = true)=>?_) (fun (h15 : ((Cmp.b .eql ((i % 2 : Nat) : Int) 1) && !(Cmp.b .eql (((n + 1) % 2 : Nat) : Int) 1)) = false)=>?_)
   ·refine Xu true ins ul4 rfl rfl rfl ?_
    refine WL.split (fun (h16 : (true == ins) = true)=>?_) (fun (h16 : (true == ins) = false)=>?_)
    ·exact BK.mk' _ ⟨i,n + 1,ins,fr,out9,(min (Zd a i) (Zd b n)),v1,o1,G12,rfl,(hle3.trans ((((hle4.trans hle5).trans hle6).trans hle11).trans hle12)),hS24,(hr1.mono ((((hle4.trans hle5).trans hle6).trans hle11).trans hle12)),⟨rfl,rfl,rfl,rfl,rfl,rfl,rfl,rfl,rfl,trivial⟩,(by exact Sweep.keep ‹_› hnx ‹_› ‹_›)⟩ (show (2 * a.length + 2 * b.length - i - (n + 1)) < (2 * a.length + 2 * b.length - i - n) by omega)
    refine XT (d:=12) rfl (fun (h17 : ins = true)=>?_) (fun (h17 : ins = false)=>?_)
    ·refine WL.build _ [(0,[.int .i64 fr]),(1,[.int .i64 (min (Zd a i) (Zd b n))])] [.int .i64 fr, .int .i64 (min (Zd a i) (Zd b n))] Zu rfl X6 rfl rfl rfl rfl ?_
     refine WL.buildSlice _ [(0,[.int .i64 fr, .int .i64 (min (Zd a i) (Zd b n))])] [.int .i64 fr, .int .i64 (min (Zd a i) (Zd b n))] hS24 YO rfl rfl rfl rfl (fun z hz=>by match z,hz with | [z0,z1],_=>rfl) (fun b5 w21 hn5 hS25=>?_)
     refine WL.push (m:=([(Span.mk fr (min (Zd a i) (Zd b n)))] : List Span)) YO rfl rfl rfl (hr1.mono ((((hle4.trans hle5).trans hle6).trans hle11).trans hle12)) hS25 1 rfl 0 _ _ _ _ _ rfl ⟨[.int .i64 fr, .int .i64 (min (Zd a i) (Zd b n))],_,rfl,(Zs (Span.mk fr (min (Zd a i) (Zd b n))) hfr9 hat9),rfl⟩ rfl (by have hreach : reach = 140737488355328:=rfl; have hlen9:=(by assumption : Sweep a b i n ins fr out9 T).len; simp only [List.length_append,List.length_cons,List.length_nil]; omega) (by have hreach : reach = 140737488355328:=rfl; have hlen9:=(by assumption : Sweep a b i n ins fr out9 T).len; simp only [List.length_append,List.length_cons,List.length_nil]; omega) rfl rfl rfl (fun v6 o6 w22 hr6 hS26=>?_)
     have hS27:=hS26.tail
     exact BK.mk' _ ⟨i,n + 1,true,(min (Zd a i) (Zd b n)),(out9 ++ [(Span.mk fr (min (Zd a i) (Zd b n)))]),(min (Zd a i) (Zd b n)),v6,o6,G12,rfl,(hle3.trans ((((hle4.trans hle5).trans hle6).trans hle11).trans hle12)),hS27,hr6,⟨rfl,rfl,rfl,rfl,rfl,rfl,rfl,rfl,rfl,trivial⟩,(by exact Sweep.flip ‹_› hnx ‹_› ‹_› ‹_›)⟩ (show (2 * a.length + 2 * b.length - i - (n + 1)) < (2 * a.length + 2 * b.length - i - n) by omega)
    exact BK.mk' _ ⟨i,n + 1,true,(min (Zd a i) (Zd b n)),out9,(min (Zd a i) (Zd b n)),v1,o1,G12,rfl,(hle3.trans ((((hle4.trans hle5).trans hle6).trans hle11).trans hle12)),hS24,(hr1.mono ((((hle4.trans hle5).trans hle6).trans hle11).trans hle12)),⟨rfl,rfl,rfl,rfl,rfl,rfl,rfl,rfl,rfl,trivial⟩,(by exact Sweep.flop ‹_› hnx ‹_› ‹_› ‹_›)⟩ (show (2 * a.length + 2 * b.length - i - (n + 1)) < (2 * a.length + 2 * b.length - i - n) by omega)
   refine Xu false ins ul4 rfl rfl rfl ?_
   refine WL.split (fun (h18 : (false == ins) = true)=>?_) (fun (h18 : (false == ins) = false)=>?_)
   ·exact BK.mk' _ ⟨i,n + 1,ins,fr,out9,(min (Zd a i) (Zd b n)),v1,o1,G12,rfl,(hle3.trans ((((hle4.trans hle5).trans hle6).trans hle11).trans hle12)),hS24,(hr1.mono ((((hle4.trans hle5).trans hle6).trans hle11).trans hle12)),⟨rfl,rfl,rfl,rfl,rfl,rfl,rfl,rfl,rfl,trivial⟩,(by exact Sweep.keep ‹_› hnx ‹_› ‹_›)⟩ (show (2 * a.length + 2 * b.length - i - (n + 1)) < (2 * a.length + 2 * b.length - i - n) by omega)
   refine XT (d:=12) rfl (fun (h19 : ins = true)=>?_) (fun (h19 : ins = false)=>?_)
   ·refine WL.build _ [(0,[.int .i64 fr]),(1,[.int .i64 (min (Zd a i) (Zd b n))])] [.int .i64 fr, .int .i64 (min (Zd a i) (Zd b n))] Zu rfl X6 rfl rfl rfl rfl ?_
    refine WL.buildSlice _ [(0,[.int .i64 fr, .int .i64 (min (Zd a i) (Zd b n))])] [.int .i64 fr, .int .i64 (min (Zd a i) (Zd b n))] hS24 YO rfl rfl rfl rfl (fun z hz=>by match z,hz with | [z0,z1],_=>rfl) (fun b6 w23 hn6 hS28=>?_)
    refine WL.push (m:=([(Span.mk fr (min (Zd a i) (Zd b n)))] : List Span)) YO rfl rfl rfl (hr1.mono ((((hle4.trans hle5).trans hle6).trans hle11).trans hle12)) hS28 1 rfl 0 _ _ _ _ _ rfl ⟨[.int .i64 fr, .int .i64 (min (Zd a i) (Zd b n))],_,rfl,(Zs (Span.mk fr (min (Zd a i) (Zd b n))) hfr9 hat9),rfl⟩ rfl (by have hreach : reach = 140737488355328:=rfl; have hlen9:=(by assumption : Sweep a b i n ins fr out9 T).len; simp only [List.length_append,List.length_cons,List.length_nil]; omega) (by have hreach : reach = 140737488355328:=rfl; have hlen9:=(by assumption : Sweep a b i n ins fr out9 T).len; simp only [List.length_append,List.length_cons,List.length_nil]; omega) rfl rfl rfl (fun v7 o7 w24 hr7 hS29=>?_)
    have hS30:=hS29.tail
    exact BK.mk' _ ⟨i,n + 1,false,(min (Zd a i) (Zd b n)),(out9 ++ [(Span.mk fr (min (Zd a i) (Zd b n)))]),(min (Zd a i) (Zd b n)),v7,o7,G12,rfl,(hle3.trans ((((hle4.trans hle5).trans hle6).trans hle11).trans hle12)),hS30,hr7,⟨rfl,rfl,rfl,rfl,rfl,rfl,rfl,rfl,rfl,trivial⟩,(by exact Sweep.flip ‹_› hnx ‹_› ‹_› ‹_›)⟩ (show (2 * a.length + 2 * b.length - i - (n + 1)) < (2 * a.length + 2 * b.length - i - n) by omega)
   exact BK.mk' _ ⟨i,n + 1,false,(min (Zd a i) (Zd b n)),out9,(min (Zd a i) (Zd b n)),v1,o1,G12,rfl,(hle3.trans ((((hle4.trans hle5).trans hle6).trans hle11).trans hle12)),hS24,(hr1.mono ((((hle4.trans hle5).trans hle6).trans hle11).trans hle12)),⟨rfl,rfl,rfl,rfl,rfl,rfl,rfl,rfl,rfl,trivial⟩,(by exact Sweep.flop ‹_› hnx ‹_› ‹_› ‹_›)⟩ (show (2 * a.length + 2 * b.length - i - (n + 1)) < (2 * a.length + 2 * b.length - i - n) by omega)
  have hnx:=Sweep.next (i':=i) (k':=n) (by assumption : Sweep a b i n ins fr out9 T) hCa hCb hVa hVb rfl (by exact .inl (by omega)) (by exact Adv.no ‹_›) (by exact Adv.no ‹_›)
  have hn1:=hnx.lt; have hn2:=hnx.tb; have hn3:=hnx.adv; have hn4:=hnx.ba.le; have hn5:=hnx.bb.le
  have hat9 : Zw (min (Zd a i) (Zd b n)):=⟨by omega,by omega⟩
  refine XH i 2 (by omega) (by have hreach : reach = 140737488355328:=rfl; omega) rfl rfl rfl ?_
  refine ZZ .eql rfl .i64 ((i % 2 : Nat) : Int) 1 rfl rfl rfl ?_
  refine XH n 2 (by omega) (by have hreach : reach = 140737488355328:=rfl; omega) rfl rfl rfl ?_
  refine ZZ .eql rfl .i64 ((n % 2 : Nat) : Int) 1 rfl rfl rfl ?_
  refine Zn hS23 Zd0 rfl rfl rfl (ZaD hS23.imm (Cmp.b .eql ((i % 2 : Nat) : Int) 1) (Cmp.b .eql ((n % 2 : Nat) : Int) 1)) (fun w25 G13 hS31 hle13=>?_)
  refine WL.split (fun (h20 : ((Cmp.b .eql ((i % 2 : Nat) : Int) 1) && !(Cmp.b .eql ((n % 2 : Nat) : Int) 1)) = true)=>?_) (fun (h20 : ((Cmp.b .eql ((i % 2 : Nat) : Int) 1) && !(Cmp.b .eql ((n % 2 : Nat) : Int) 1)) = false)=>?_)
  ·refine Xu true ins ul4 rfl rfl rfl ?_
   refine WL.split (fun (h21 : (true == ins) = true)=>?_) (fun (h21 : (true == ins) = false)=>?_)
   ·exact BK.mk' _ ⟨i,n,ins,fr,out9,(min (Zd a i) (Zd b n)),v1,o1,G13,rfl,(hle3.trans ((((hle4.trans hle5).trans hle6).trans hle11).trans hle13)),hS31,(hr1.mono ((((hle4.trans hle5).trans hle6).trans hle11).trans hle13)),⟨rfl,rfl,rfl,rfl,rfl,rfl,rfl,rfl,rfl,trivial⟩,(by exact Sweep.keep ‹_› hnx ‹_› ‹_›)⟩ (show (2 * a.length + 2 * b.length - i - n) < (2 * a.length + 2 * b.length - i - n) by omega)
   refine XT (d:=12) rfl (fun (h22 : ins = true)=>?_) (fun (h22 : ins = false)=>?_)
   ·refine WL.build _ [(0,[.int .i64 fr]),(1,[.int .i64 (min (Zd a i) (Zd b n))])] [.int .i64 fr, .int .i64 (min (Zd a i) (Zd b n))] Zu rfl X6 rfl rfl rfl rfl ?_
    refine WL.buildSlice _ [(0,[.int .i64 fr, .int .i64 (min (Zd a i) (Zd b n))])] [.int .i64 fr, .int .i64 (min (Zd a i) (Zd b n))] hS31 YO rfl rfl rfl rfl (fun z hz=>by match z,hz with | [z0,z1],_=>rfl) (fun b7 w26 hn7 hS32=>?_)
    refine WL.push (m:=([(Span.mk fr (min (Zd a i) (Zd b n)))] : List Span)) YO rfl rfl rfl (hr1.mono ((((hle4.trans hle5).trans hle6).trans hle11).trans hle13)) hS32 1 rfl 0 _ _ _ _ _ rfl ⟨[.int .i64 fr, .int .i64 (min (Zd a i) (Zd b n))],_,rfl,(Zs (Span.mk fr (min (Zd a i) (Zd b n))) hfr9 hat9),rfl⟩ rfl (by have hreach : reach = 140737488355328:=rfl; have hlen9:=(by assumption : Sweep a b i n ins fr out9 T).len; simp only [List.length_append,List.length_cons,List.length_nil]; omega) (by have hreach : reach = 140737488355328:=rfl; have hlen9:=(by assumption : Sweep a b i n ins fr out9 T).len; simp only [List.length_append,List.length_cons,List.length_nil]; omega) rfl rfl rfl (fun v9 o8 w27 hr8 hS33=>?_)
    have hS34:=hS33.tail
    exact BK.mk' _ ⟨i,n,true,(min (Zd a i) (Zd b n)),(out9 ++ [(Span.mk fr (min (Zd a i) (Zd b n)))]),(min (Zd a i) (Zd b n)),v9,o8,G13,rfl,(hle3.trans ((((hle4.trans hle5).trans hle6).trans hle11).trans hle13)),hS34,hr8,⟨rfl,rfl,rfl,rfl,rfl,rfl,rfl,rfl,rfl,trivial⟩,(by exact Sweep.flip ‹_› hnx ‹_› ‹_› ‹_›)⟩ (show (2 * a.length + 2 * b.length - i - n) < (2 * a.length + 2 * b.length - i - n) by omega)
   exact BK.mk' _ ⟨i,n,true,(min (Zd a i) (Zd b n)),out9,(min (Zd a i) (Zd b n)),v1,o1,G13,rfl,(hle3.trans ((((hle4.trans hle5).trans hle6).trans hle11).trans hle13)),hS31,(hr1.mono ((((hle4.trans hle5).trans hle6).trans hle11).trans hle13)),⟨rfl,rfl,rfl,rfl,rfl,rfl,rfl,rfl,rfl,trivial⟩,(by exact Sweep.flop ‹_› hnx ‹_› ‹_› ‹_›)⟩ (show (2 * a.length + 2 * b.length - i - n) < (2 * a.length + 2 * b.length - i - n) by omega)
  refine Xu false ins ul4 rfl rfl rfl ?_
  refine WL.split (fun (h23 : (false == ins) = true)=>?_) (fun (h23 : (false == ins) = false)=>?_)
  ·exact BK.mk' _ ⟨i,n,ins,fr,out9,(min (Zd a i) (Zd b n)),v1,o1,G13,rfl,(hle3.trans ((((hle4.trans hle5).trans hle6).trans hle11).trans hle13)),hS31,(hr1.mono ((((hle4.trans hle5).trans hle6).trans hle11).trans hle13)),⟨rfl,rfl,rfl,rfl,rfl,rfl,rfl,rfl,rfl,trivial⟩,(by exact Sweep.keep ‹_› hnx ‹_› ‹_›)⟩ (show (2 * a.length + 2 * b.length - i - n) < (2 * a.length + 2 * b.length - i - n) by omega)
  refine XT (d:=12) rfl (fun (h24 : ins = true)=>?_) (fun (h24 : ins = false)=>?_)
  ·refine WL.build _ [(0,[.int .i64 fr]),(1,[.int .i64 (min (Zd a i) (Zd b n))])] [.int .i64 fr, .int .i64 (min (Zd a i) (Zd b n))] Zu rfl X6 rfl rfl rfl rfl ?_
   refine WL.buildSlice _ [(0,[.int .i64 fr, .int .i64 (min (Zd a i) (Zd b n))])] [.int .i64 fr, .int .i64 (min (Zd a i) (Zd b n))] hS31 YO rfl rfl rfl rfl (fun z hz=>by match z,hz with | [z0,z1],_=>rfl) (fun b8 w28 hn8 hS35=>?_)
   refine WL.push (m:=([(Span.mk fr (min (Zd a i) (Zd b n)))] : List Span)) YO rfl rfl rfl (hr1.mono ((((hle4.trans hle5).trans hle6).trans hle11).trans hle13)) hS35 1 rfl 0 _ _ _ _ _ rfl ⟨[.int .i64 fr, .int .i64 (min (Zd a i) (Zd b n))],_,rfl,(Zs (Span.mk fr (min (Zd a i) (Zd b n))) hfr9 hat9),rfl⟩ rfl (by have hreach : reach = 140737488355328:=rfl; have hlen9:=(by assumption : Sweep a b i n ins fr out9 T).len; simp only [List.length_append,List.length_cons,List.length_nil]; omega) (by have hreach : reach = 140737488355328:=rfl; have hlen9:=(by assumption : Sweep a b i n ins fr out9 T).len; simp only [List.length_append,List.length_cons,List.length_nil]; omega) rfl rfl rfl (fun v10 o9 w29 hr9 hS36=>?_)
   have hS37:=hS36.tail
   exact BK.mk' _ ⟨i,n,false,(min (Zd a i) (Zd b n)),(out9 ++ [(Span.mk fr (min (Zd a i) (Zd b n)))]),(min (Zd a i) (Zd b n)),v10,o9,G13,rfl,(hle3.trans ((((hle4.trans hle5).trans hle6).trans hle11).trans hle13)),hS37,hr9,⟨rfl,rfl,rfl,rfl,rfl,rfl,rfl,rfl,rfl,trivial⟩,(by exact Sweep.flip ‹_› hnx ‹_› ‹_› ‹_›)⟩ (show (2 * a.length + 2 * b.length - i - n) < (2 * a.length + 2 * b.length - i - n) by omega)
  exact BK.mk' _ ⟨i,n,false,(min (Zd a i) (Zd b n)),out9,(min (Zd a i) (Zd b n)),v1,o1,G13,rfl,(hle3.trans ((((hle4.trans hle5).trans hle6).trans hle11).trans hle13)),hS31,(hr1.mono ((((hle4.trans hle5).trans hle6).trans hle11).trans hle13)),⟨rfl,rfl,rfl,rfl,rfl,rfl,rfl,rfl,rfl,trivial⟩,(by exact Sweep.flop ‹_› hnx ‹_› ‹_› ‹_›)⟩ (show (2 * a.length + 2 * b.length - i - n) < (2 * a.length + 2 * b.length - i - n) by omega)
 have bd2:=hvb.bound
 refine Zj (hvb.mono ((hle1.trans hle2).trans hle3)) YT rfl rfl ?_
 refine ZfU 2 b.length (by have hreach : reach = 140737488355328:=rfl; omega) rfl rfl rfl ?_
 refine Zq (n : Int) ((2 * b.length : Nat) : Int) rfl rfl rfl (fun h25=>?_) (fun h25=>?_)
 ·refine Zn hS3 Zck rfl rfl rfl (Zap hS3.imm a i _ (hva.mono ((hle1.trans hle2).trans hle3)) (by omega) (by omega)) (fun w30 G14 hS38 hle14=>?_)
  refine Zn hS38 Zck rfl rfl rfl (Zap hS38.imm b n _ (hvb.mono (((hle1.trans hle2).trans hle3).trans hle14)) (by omega) (by omega)) (fun w31 G15 hS39 hle15=>?_)
  refine ZhY (Zd a i) (Zd b n) rfl rfl rfl ?_
  refine Zn hS39 Zck rfl rfl rfl (Zap hS39.imm a i _ (hva.mono ((((hle1.trans hle2).trans hle3).trans hle14).trans hle15)) (by omega) (by omega)) (fun w32 G16 hS40 hle16=>?_)
  refine ZC (Zd a i) (min (Zd a i) (Zd b n)) rfl rfl rfl (fun h26=>?_) (fun h26=>?_)
  ·refine Zl i (by have hreach : reach = 140737488355328:=rfl; omega) rfl rfl rfl ?_
   refine Zn hS40 Zck rfl rfl rfl (Zap hS40.imm b n _ (hvb.mono (((((hle1.trans hle2).trans hle3).trans hle14).trans hle15).trans hle16)) (by omega) (by omega)) (fun w33 G17 hS41 hle17=>?_)
   refine ZC (Zd b n) (min (Zd a i) (Zd b n)) rfl rfl rfl (fun h27=>?_) (fun h27=>?_)
   ·refine Zl n (by have hreach : reach = 140737488355328:=rfl; omega) rfl rfl rfl ?_
    have hnx:=Sweep.next (i':=i + 1) (k':=n + 1) (by assumption : Sweep a b i n ins fr out9 T) hCa hCb hVa hVb rfl (by exact .inr (by omega)) (by exact Adv.yes ‹_›) (by exact Adv.yes ‹_›)
    have hn1:=hnx.lt; have hn2:=hnx.tb; have hn3:=hnx.adv; have hn4:=hnx.ba.le; have hn5:=hnx.bb.le
    have hat9 : Zw (min (Zd a i) (Zd b n)):=⟨by omega,by omega⟩
    refine XH (i + 1) 2 (by omega) (by have hreach : reach = 140737488355328:=rfl; omega) rfl rfl rfl ?_
    refine ZZ .eql rfl .i64 (((i + 1) % 2 : Nat) : Int) 1 rfl rfl rfl ?_
    refine XH (n + 1) 2 (by omega) (by have hreach : reach = 140737488355328:=rfl; omega) rfl rfl rfl ?_
    refine ZZ .eql rfl .i64 (((n + 1) % 2 : Nat) : Int) 1 rfl rfl rfl ?_
    refine Zn hS41 Zd0 rfl rfl rfl (ZaD hS41.imm (Cmp.b .eql (((i + 1) % 2 : Nat) : Int) 1) (Cmp.b .eql (((n + 1) % 2 : Nat) : Int) 1)) (fun w34 G18 hS42 hle18=>?_)
    refine WL.split (fun (h28 : ((Cmp.b .eql (((i + 1) % 2 : Nat) : Int) 1) && !(Cmp.b .eql (((n + 1) % 2 : Nat) : Int) 1)) = true)=>?_) (fun (h28 : ((Cmp.b .eql (((i + 1) % 2 : Nat) : Int) 1) && !(Cmp.b .eql (((n + 1) % 2 : Nat) : Int) 1)) = false)=>?_)
    ·refine Xu true ins ul4 rfl rfl rfl ?_
     refine WL.split (fun (h29 : (true == ins) = true)=>?_) (fun (h29 : (true == ins) = false)=>?_)
     ·exact BK.mk' _ ⟨i + 1,n + 1,ins,fr,out9,(min (Zd a i) (Zd b n)),v1,o1,G18,rfl,(hle3.trans ((((hle14.trans hle15).trans hle16).trans hle17).trans hle18)),hS42,(hr1.mono ((((hle14.trans hle15).trans hle16).trans hle17).trans hle18)),⟨rfl,rfl,rfl,rfl,rfl,rfl,rfl,rfl,rfl,trivial⟩,(by exact Sweep.keep ‹_› hnx ‹_› ‹_›)⟩ (show (2 * a.length + 2 * b.length - (i + 1) - (n + 1)) < (2 * a.length + 2 * b.length - i - n) by omega)
     refine XT (d:=12) rfl (fun (h30 : ins = true)=>?_) (fun (h30 : ins = false)=>?_)
     ·refine WL.build _ [(0,[.int .i64 fr]),(1,[.int .i64 (min (Zd a i) (Zd b n))])] [.int .i64 fr, .int .i64 (min (Zd a i) (Zd b n))] Zu rfl X6 rfl rfl rfl rfl ?_
      refine WL.buildSlice _ [(0,[.int .i64 fr, .int .i64 (min (Zd a i) (Zd b n))])] [.int .i64 fr, .int .i64 (min (Zd a i) (Zd b n))] hS42 YO rfl rfl rfl rfl (fun z hz=>by match z,hz with | [z0,z1],_=>rfl) (fun b9 w35 hn9 hS43=>?_)
      refine WL.push (m:=([(Span.mk fr (min (Zd a i) (Zd b n)))] : List Span)) YO rfl rfl rfl (hr1.mono ((((hle14.trans hle15).trans hle16).trans hle17).trans hle18)) hS43 1 rfl 0 _ _ _ _ _ rfl ⟨[.int .i64 fr, .int .i64 (min (Zd a i) (Zd b n))],_,rfl,(Zs (Span.mk fr (min (Zd a i) (Zd b n))) hfr9 hat9),rfl⟩ rfl (by have hreach : reach = 140737488355328:=rfl; have hlen9:=(by assumption : Sweep a b i n ins fr out9 T).len; simp only [List.length_append,List.length_cons,List.length_nil]; omega) (by have hreach : reach = 140737488355328:=rfl; have hlen9:=(by assumption : Sweep a b i n ins fr out9 T).len; simp only [List.length_append,List.length_cons,List.length_nil]; omega) rfl rfl rfl (fun v11 o10 w36 hr10 hS44=>?_)
      have hS45:=hS44.tail
      exact BK.mk' _ ⟨i + 1,n + 1,true,(min (Zd a i) (Zd b n)),(out9 ++ [(Span.mk fr (min (Zd a i) (Zd b n)))]),(min (Zd a i) (Zd b n)),v11,o10,G18,rfl,(hle3.trans ((((hle14.trans hle15).trans hle16).trans hle17).trans hle18)),hS45,hr10,⟨rfl,rfl,rfl,rfl,rfl,rfl,rfl,rfl,rfl,trivial⟩,(by exact Sweep.flip ‹_› hnx ‹_› ‹_› ‹_›)⟩ (show (2 * a.length + 2 * b.length - (i + 1) - (n + 1)) < (2 * a.length + 2 * b.length - i - n) by omega)
     exact BK.mk' _ ⟨i + 1,n + 1,true,(min (Zd a i) (Zd b n)),out9,(min (Zd a i) (Zd b n)),v1,o1,G18,rfl,(hle3.trans ((((hle14.trans hle15).trans hle16).trans hle17).trans hle18)),hS42,(hr1.mono ((((hle14.trans hle15).trans hle16).trans hle17).trans hle18)),⟨rfl,rfl,rfl,rfl,rfl,rfl,rfl,rfl,rfl,trivial⟩,(by exact Sweep.flop ‹_› hnx ‹_› ‹_› ‹_›)⟩ (show (2 * a.length + 2 * b.length - (i + 1) - (n + 1)) < (2 * a.length + 2 * b.length - i - n) by omega)
    refine Xu false ins ul4 rfl rfl rfl ?_
    refine WL.split (fun (h31 : (false == ins) = true)=>?_) (fun (h31 : (false == ins) = false)=>?_)
    ·exact BK.mk' _ ⟨i + 1,n + 1,ins,fr,out9,(min (Zd a i) (Zd b n)),v1,o1,G18,rfl,(hle3.trans ((((hle14.trans hle15).trans hle16).trans hle17).trans hle18)),hS42,(hr1.mono ((((hle14.trans hle15).trans hle16).trans hle17).trans hle18)),⟨rfl,rfl,rfl,rfl,rfl,rfl,rfl,rfl,rfl,trivial⟩,(by exact Sweep.keep ‹_› hnx ‹_› ‹_›)⟩ (show (2 * a.length + 2 * b.length - (i + 1) - (n + 1)) < (2 * a.length + 2 * b.length - i - n) by omega)
    refine XT (d:=12) rfl (fun (h32 : ins = true)=>?_) (fun (h32 : ins = false)=>?_)
    ·refine WL.build _ [(0,[.int .i64 fr]),(1,[.int .i64 (min (Zd a i) (Zd b n))])] [.int .i64 fr, .int .i64 (min (Zd a i) (Zd b n))] Zu rfl X6 rfl rfl rfl rfl ?_
     refine WL.buildSlice _ [(0,[.int .i64 fr, .int .i64 (min (Zd a i) (Zd b n))])] [.int .i64 fr, .int .i64 (min (Zd a i) (Zd b n))] hS42 YO rfl rfl rfl rfl (fun z hz=>by match z,hz with | [z0,z1],_=>rfl) (fun b10 w37 hn10 hS46=>?_)
     refine WL.push (m:=([(Span.mk fr (min (Zd a i) (Zd b n)))] : List Span)) YO rfl rfl rfl (hr1.mono ((((hle14.trans hle15).trans hle16).trans hle17).trans hle18)) hS46 1 rfl 0 _ _ _ _ _ rfl ⟨[.int .i64 fr, .int .i64 (min (Zd a i) (Zd b n))],_,rfl,(Zs (Span.mk fr (min (Zd a i) (Zd b n))) hfr9 hat9),rfl⟩ rfl (by have hreach : reach = 140737488355328:=rfl; have hlen9:=(by assumption : Sweep a b i n ins fr out9 T).len; simp only [List.length_append,List.length_cons,List.length_nil]; omega) (by have hreach : reach = 140737488355328:=rfl; have hlen9:=(by assumption : Sweep a b i n ins fr out9 T).len; simp only [List.length_append,List.length_cons,List.length_nil]; omega) rfl rfl rfl (fun v12 o11 w38 hr11 hS47=>?_)
     have hS48:=hS47.tail
     exact BK.mk' _ ⟨i + 1,n + 1,false,(min (Zd a i) (Zd b n)),(out9 ++ [(Span.mk fr (min (Zd a i) (Zd b n)))]),(min (Zd a i) (Zd b n)),v12,o11,G18,rfl,(hle3.trans ((((hle14.trans hle15).trans hle16).trans hle17).trans hle18)),hS48,hr11,⟨rfl,rfl,rfl,rfl,rfl,rfl,rfl,rfl,rfl,trivial⟩,(by exact Sweep.flip ‹_› hnx ‹_› ‹_› ‹_›)⟩ (show (2 * a.length + 2 * b.length - (i + 1) - (n + 1)) < (2 * a.length + 2 * b.length - i - n) by omega)
    exact BK.mk' _ ⟨i + 1,n + 1,false,(min (Zd a i) (Zd b n)),out9,(min (Zd a i) (Zd b n)),v1,o1,G18,rfl,(hle3.trans ((((hle14.trans hle15).trans hle16).trans hle17).trans hle18)),hS42,(hr1.mono ((((hle14.trans hle15).trans hle16).trans hle17).trans hle18)),⟨rfl,rfl,rfl,rfl,rfl,rfl,rfl,rfl,rfl,trivial⟩,(by exact Sweep.flop ‹_› hnx ‹_› ‹_› ‹_›)⟩ (show (2 * a.length + 2 * b.length - (i + 1) - (n + 1)) < (2 * a.length + 2 * b.length - i - n) by omega)
   have hnx:=Sweep.next (i':=i + 1) (k':=n) (by assumption : Sweep a b i n ins fr out9 T) hCa hCb hVa hVb rfl (by exact .inr (by omega)) (by exact Adv.yes ‹_›) (by exact Adv.no ‹_›)
   have hn1:=hnx.lt; have hn2:=hnx.tb; have hn3:=hnx.adv; have hn4:=hnx.ba.le; have hn5:=hnx.bb.le
   have hat9 : Zw (min (Zd a i) (Zd b n)):=⟨by omega,by omega⟩
   refine XH (i + 1) 2 (by omega) (by have hreach : reach = 140737488355328:=rfl; omega) rfl rfl rfl ?_
   refine ZZ .eql rfl .i64 (((i + 1) % 2 : Nat) : Int) 1 rfl rfl rfl ?_
   refine XH n 2 (by omega) (by have hreach : reach = 140737488355328:=rfl; omega) rfl rfl rfl ?_
   refine ZZ .eql rfl .i64 ((n % 2 : Nat) : Int) 1 rfl rfl rfl ?_
   refine Zn hS41 Zd0 rfl rfl rfl (ZaD hS41.imm (Cmp.b .eql (((i + 1) % 2 : Nat) : Int) 1) (Cmp.b .eql ((n % 2 : Nat) : Int) 1)) (fun w39 G19 hS49 hle19=>?_)
   refine WL.split (fun (h33 : ((Cmp.b .eql (((i + 1) % 2 : Nat) : Int) 1) && !(Cmp.b .eql ((n % 2 : Nat) : Int) 1)) = true)=>?_) (fun (h33 : ((Cmp.b .eql (((i + 1) % 2 : Nat) : Int) 1) && !(Cmp.b .eql ((n % 2 : Nat) : Int) 1)) = false)=>?_)
   ·refine Xu true ins ul4 rfl rfl rfl ?_
    refine WL.split (fun (h34 : (true == ins) = true)=>?_) (fun (h34 : (true == ins) = false)=>?_)
    ·exact BK.mk' _ ⟨i + 1,n,ins,fr,out9,(min (Zd a i) (Zd b n)),v1,o1,G19,rfl,(hle3.trans ((((hle14.trans hle15).trans hle16).trans hle17).trans hle19)),hS49,(hr1.mono ((((hle14.trans hle15).trans hle16).trans hle17).trans hle19)),⟨rfl,rfl,rfl,rfl,rfl,rfl,rfl,rfl,rfl,trivial⟩,(by exact Sweep.keep ‹_› hnx ‹_› ‹_›)⟩ (show (2 * a.length + 2 * b.length - (i + 1) - n) < (2 * a.length + 2 * b.length - i - n) by omega)
    refine XT (d:=12) rfl (fun (h35 : ins = true)=>?_) (fun (h35 : ins = false)=>?_)
    ·refine WL.build _ [(0,[.int .i64 fr]),(1,[.int .i64 (min (Zd a i) (Zd b n))])] [.int .i64 fr, .int .i64 (min (Zd a i) (Zd b n))] Zu rfl X6 rfl rfl rfl rfl ?_
     refine WL.buildSlice _ [(0,[.int .i64 fr, .int .i64 (min (Zd a i) (Zd b n))])] [.int .i64 fr, .int .i64 (min (Zd a i) (Zd b n))] hS49 YO rfl rfl rfl rfl (fun z hz=>by match z,hz with | [z0,z1],_=>rfl) (fun b11 w40 hn11 hS50=>?_)
     refine WL.push (m:=([(Span.mk fr (min (Zd a i) (Zd b n)))] : List Span)) YO rfl rfl rfl (hr1.mono ((((hle14.trans hle15).trans hle16).trans hle17).trans hle19)) hS50 1 rfl 0 _ _ _ _ _ rfl ⟨[.int .i64 fr, .int .i64 (min (Zd a i) (Zd b n))],_,rfl,(Zs (Span.mk fr (min (Zd a i) (Zd b n))) hfr9 hat9),rfl⟩ rfl (by have hreach : reach = 140737488355328:=rfl; have hlen9:=(by assumption : Sweep a b i n ins fr out9 T).len; simp only [List.length_append,List.length_cons,List.length_nil]; omega) (by have hreach : reach = 140737488355328:=rfl; have hlen9:=(by assumption : Sweep a b i n ins fr out9 T).len; simp only [List.length_append,List.length_cons,List.length_nil]; omega) rfl rfl rfl (fun v13 o12 w41 hr12 hS51=>?_)
     have hS52:=hS51.tail
     exact BK.mk' _ ⟨i + 1,n,true,(min (Zd a i) (Zd b n)),(out9 ++ [(Span.mk fr (min (Zd a i) (Zd b n)))]),(min (Zd a i) (Zd b n)),v13,o12,G19,rfl,(hle3.trans ((((hle14.trans hle15).trans hle16).trans hle17).trans hle19)),hS52,hr12,⟨rfl,rfl,rfl,rfl,rfl,rfl,rfl,rfl,rfl,trivial⟩,(by exact Sweep.flip ‹_› hnx ‹_› ‹_› ‹_›)⟩ (show (2 * a.length + 2 * b.length - (i + 1) - n) < (2 * a.length + 2 * b.length - i - n) by omega)
    exact BK.mk' _ ⟨i + 1,n,true,(min (Zd a i) (Zd b n)),out9,(min (Zd a i) (Zd b n)),v1,o1,G19,rfl,(hle3.trans ((((hle14.trans hle15).trans hle16).trans hle17).trans hle19)),hS49,(hr1.mono ((((hle14.trans hle15).trans hle16).trans hle17).trans hle19)),⟨rfl,rfl,rfl,rfl,rfl,rfl,rfl,rfl,rfl,trivial⟩,(by exact Sweep.flop ‹_› hnx ‹_› ‹_› ‹_›)⟩ (show (2 * a.length + 2 * b.length - (i + 1) - n) < (2 * a.length + 2 * b.length - i - n) by omega)
   refine Xu false ins ul4 rfl rfl rfl ?_
   refine WL.split (fun (h36 : (false == ins) = true)=>?_) (fun (h36 : (false == ins) = false)=>?_)
   ·exact BK.mk' _ ⟨i + 1,n,ins,fr,out9,(min (Zd a i) (Zd b n)),v1,o1,G19,rfl,(hle3.trans ((((hle14.trans hle15).trans hle16).trans hle17).trans hle19)),hS49,(hr1.mono ((((hle14.trans hle15).trans hle16).trans hle17).trans hle19)),⟨rfl,rfl,rfl,rfl,rfl,rfl,rfl,rfl,rfl,trivial⟩,(by exact Sweep.keep ‹_› hnx ‹_› ‹_›)⟩ (show (2 * a.length + 2 * b.length - (i + 1) - n) < (2 * a.length + 2 * b.length - i - n) by omega)
   refine XT (d:=12) rfl (fun (h37 : ins = true)=>?_) (fun (h37 : ins = false)=>?_)
   ·refine WL.build _ [(0,[.int .i64 fr]),(1,[.int .i64 (min (Zd a i) (Zd b n))])] [.int .i64 fr, .int .i64 (min (Zd a i) (Zd b n))] Zu rfl X6 rfl rfl rfl rfl ?_
    refine WL.buildSlice _ [(0,[.int .i64 fr, .int .i64 (min (Zd a i) (Zd b n))])] [.int .i64 fr, .int .i64 (min (Zd a i) (Zd b n))] hS49 YO rfl rfl rfl rfl (fun z hz=>by match z,hz with | [z0,z1],_=>rfl) (fun b12 w42 hn12 hS53=>?_)
    refine WL.push (m:=([(Span.mk fr (min (Zd a i) (Zd b n)))] : List Span)) YO rfl rfl rfl (hr1.mono ((((hle14.trans hle15).trans hle16).trans hle17).trans hle19)) hS53 1 rfl 0 _ _ _ _ _ rfl ⟨[.int .i64 fr, .int .i64 (min (Zd a i) (Zd b n))],_,rfl,(Zs (Span.mk fr (min (Zd a i) (Zd b n))) hfr9 hat9),rfl⟩ rfl (by have hreach : reach = 140737488355328:=rfl; have hlen9:=(by assumption : Sweep a b i n ins fr out9 T).len; simp only [List.length_append,List.length_cons,List.length_nil]; omega) (by have hreach : reach = 140737488355328:=rfl; have hlen9:=(by assumption : Sweep a b i n ins fr out9 T).len; simp only [List.length_append,List.length_cons,List.length_nil]; omega) rfl rfl rfl (fun v14 o13 w43 hr13 hS54=>?_)
    have hS55:=hS54.tail
    exact BK.mk' _ ⟨i + 1,n,false,(min (Zd a i) (Zd b n)),(out9 ++ [(Span.mk fr (min (Zd a i) (Zd b n)))]),(min (Zd a i) (Zd b n)),v14,o13,G19,rfl,(hle3.trans ((((hle14.trans hle15).trans hle16).trans hle17).trans hle19)),hS55,hr13,⟨rfl,rfl,rfl,rfl,rfl,rfl,rfl,rfl,rfl,trivial⟩,(by exact Sweep.flip ‹_› hnx ‹_› ‹_› ‹_›)⟩ (show (2 * a.length + 2 * b.length - (i + 1) - n) < (2 * a.length + 2 * b.length - i - n) by omega)
   exact BK.mk' _ ⟨i + 1,n,false,(min (Zd a i) (Zd b n)),out9,(min (Zd a i) (Zd b n)),v1,o1,G19,rfl,(hle3.trans ((((hle14.trans hle15).trans hle16).trans hle17).trans hle19)),hS49,(hr1.mono ((((hle14.trans hle15).trans hle16).trans hle17).trans hle19)),⟨rfl,rfl,rfl,rfl,rfl,rfl,rfl,rfl,rfl,trivial⟩,(by exact Sweep.flop ‹_› hnx ‹_› ‹_› ‹_›)⟩ (show (2 * a.length + 2 * b.length - (i + 1) - n) < (2 * a.length + 2 * b.length - i - n) by omega)
  refine Zn hS40 Zck rfl rfl rfl (Zap hS40.imm b n _ (hvb.mono (((((hle1.trans hle2).trans hle3).trans hle14).trans hle15).trans hle16)) (by omega) (by omega)) (fun w44 G20 hS56 hle20=>?_)
  refine ZC (Zd b n) (min (Zd a i) (Zd b n)) rfl rfl rfl (fun h38=>?_) (fun h38=>?_)
  ·refine Zl n (by have hreach : reach = 140737488355328:=rfl; omega) rfl rfl rfl ?_
   have hnx:=Sweep.next (i':=i) (k':=n + 1) (by assumption : Sweep a b i n ins fr out9 T) hCa hCb hVa hVb rfl (by exact .inr (by omega)) (by exact Adv.no ‹_›) (by exact Adv.yes ‹_›)
   have hn1:=hnx.lt; have hn2:=hnx.tb; have hn3:=hnx.adv; have hn4:=hnx.ba.le; have hn5:=hnx.bb.le
   have hat9 : Zw (min (Zd a i) (Zd b n)):=⟨by omega,by omega⟩
   refine XH i 2 (by omega) (by have hreach : reach = 140737488355328:=rfl; omega) rfl rfl rfl ?_
   refine ZZ .eql rfl .i64 ((i % 2 : Nat) : Int) 1 rfl rfl rfl ?_
   refine XH (n + 1) 2 (by omega) (by have hreach : reach = 140737488355328:=rfl; omega) rfl rfl rfl ?_
   refine ZZ .eql rfl .i64 (((n + 1) % 2 : Nat) : Int) 1 rfl rfl rfl ?_
   refine Zn hS56 Zd0 rfl rfl rfl (ZaD hS56.imm (Cmp.b .eql ((i % 2 : Nat) : Int) 1) (Cmp.b .eql (((n + 1) % 2 : Nat) : Int) 1)) (fun w45 G21 hS57 hle21=>?_)
   refine WL.split (fun (h39 : ((Cmp.b .eql ((i % 2 : Nat) : Int) 1) && !(Cmp.b .eql (((n + 1) % 2 : Nat) : Int) 1)) = true)=>?_) (fun (h39 : ((Cmp.b .eql ((i % 2 : Nat) : Int) 1) && !(Cmp.b .eql (((n + 1) % 2 : Nat) : Int) 1)) = false)=>?_)
   ·refine Xu true ins ul4 rfl rfl rfl ?_
    refine WL.split (fun (h40 : (true == ins) = true)=>?_) (fun (h40 : (true == ins) = false)=>?_)
    ·exact BK.mk' _ ⟨i,n + 1,ins,fr,out9,(min (Zd a i) (Zd b n)),v1,o1,G21,rfl,(hle3.trans ((((hle14.trans hle15).trans hle16).trans hle20).trans hle21)),hS57,(hr1.mono ((((hle14.trans hle15).trans hle16).trans hle20).trans hle21)),⟨rfl,rfl,rfl,rfl,rfl,rfl,rfl,rfl,rfl,trivial⟩,(by exact Sweep.keep ‹_› hnx ‹_› ‹_›)⟩ (show (2 * a.length + 2 * b.length - i - (n + 1)) < (2 * a.length + 2 * b.length - i - n) by omega)
    refine XT (d:=12) rfl (fun (h41 : ins = true)=>?_) (fun (h41 : ins = false)=>?_)
    ·refine WL.build _ [(0,[.int .i64 fr]),(1,[.int .i64 (min (Zd a i) (Zd b n))])] [.int .i64 fr, .int .i64 (min (Zd a i) (Zd b n))] Zu rfl X6 rfl rfl rfl rfl ?_
     refine WL.buildSlice _ [(0,[.int .i64 fr, .int .i64 (min (Zd a i) (Zd b n))])] [.int .i64 fr, .int .i64 (min (Zd a i) (Zd b n))] hS57 YO rfl rfl rfl rfl (fun z hz=>by match z,hz with | [z0,z1],_=>rfl) (fun b13 w46 hn13 hS58=>?_)
     refine WL.push (m:=([(Span.mk fr (min (Zd a i) (Zd b n)))] : List Span)) YO rfl rfl rfl (hr1.mono ((((hle14.trans hle15).trans hle16).trans hle20).trans hle21)) hS58 1 rfl 0 _ _ _ _ _ rfl ⟨[.int .i64 fr, .int .i64 (min (Zd a i) (Zd b n))],_,rfl,(Zs (Span.mk fr (min (Zd a i) (Zd b n))) hfr9 hat9),rfl⟩ rfl (by have hreach : reach = 140737488355328:=rfl; have hlen9:=(by assumption : Sweep a b i n ins fr out9 T).len; simp only [List.length_append,List.length_cons,List.length_nil]; omega) (by have hreach : reach = 140737488355328:=rfl; have hlen9:=(by assumption : Sweep a b i n ins fr out9 T).len; simp only [List.length_append,List.length_cons,List.length_nil]; omega) rfl rfl rfl (fun v15 o14 w47 hr14 hS59=>?_)
     have hS60:=hS59.tail
     exact BK.mk' _ ⟨i,n + 1,true,(min (Zd a i) (Zd b n)),(out9 ++ [(Span.mk fr (min (Zd a i) (Zd b n)))]),(min (Zd a i) (Zd b n)),v15,o14,G21,rfl,(hle3.trans ((((hle14.trans hle15).trans hle16).trans hle20).trans hle21)),hS60,hr14,⟨rfl,rfl,rfl,rfl,rfl,rfl,rfl,rfl,rfl,trivial⟩,(by exact Sweep.flip ‹_› hnx ‹_› ‹_› ‹_›)⟩ (show (2 * a.length + 2 * b.length - i - (n + 1)) < (2 * a.length + 2 * b.length - i - n) by omega)
    exact BK.mk' _ ⟨i,n + 1,true,(min (Zd a i) (Zd b n)),out9,(min (Zd a i) (Zd b n)),v1,o1,G21,rfl,(hle3.trans ((((hle14.trans hle15).trans hle16).trans hle20).trans hle21)),hS57,(hr1.mono ((((hle14.trans hle15).trans hle16).trans hle20).trans hle21)),⟨rfl,rfl,rfl,rfl,rfl,rfl,rfl,rfl,rfl,trivial⟩,(by exact Sweep.flop ‹_› hnx ‹_› ‹_› ‹_›)⟩ (show (2 * a.length + 2 * b.length - i - (n + 1)) < (2 * a.length + 2 * b.length - i - n) by omega)
   refine Xu false ins ul4 rfl rfl rfl ?_
   refine WL.split (fun (h42 : (false == ins) = true)=>?_) (fun (h42 : (false == ins) = false)=>?_)
   ·exact BK.mk' _ ⟨i,n + 1,ins,fr,out9,(min (Zd a i) (Zd b n)),v1,o1,G21,rfl,(hle3.trans ((((hle14.trans hle15).trans hle16).trans hle20).trans hle21)),hS57,(hr1.mono ((((hle14.trans hle15).trans hle16).trans hle20).trans hle21)),⟨rfl,rfl,rfl,rfl,rfl,rfl,rfl,rfl,rfl,trivial⟩,(by exact Sweep.keep ‹_› hnx ‹_› ‹_›)⟩ (show (2 * a.length + 2 * b.length - i - (n + 1)) < (2 * a.length + 2 * b.length - i - n) by omega)
   refine XT (d:=12) rfl (fun (h43 : ins = true)=>?_) (fun (h43 : ins = false)=>?_)
   ·refine WL.build _ [(0,[.int .i64 fr]),(1,[.int .i64 (min (Zd a i) (Zd b n))])] [.int .i64 fr, .int .i64 (min (Zd a i) (Zd b n))] Zu rfl X6 rfl rfl rfl rfl ?_
    refine WL.buildSlice _ [(0,[.int .i64 fr, .int .i64 (min (Zd a i) (Zd b n))])] [.int .i64 fr, .int .i64 (min (Zd a i) (Zd b n))] hS57 YO rfl rfl rfl rfl (fun z hz=>by match z,hz with | [z0,z1],_=>rfl) (fun b14 w48 hn14 hS61=>?_)
    refine WL.push (m:=([(Span.mk fr (min (Zd a i) (Zd b n)))] : List Span)) YO rfl rfl rfl (hr1.mono ((((hle14.trans hle15).trans hle16).trans hle20).trans hle21)) hS61 1 rfl 0 _ _ _ _ _ rfl ⟨[.int .i64 fr, .int .i64 (min (Zd a i) (Zd b n))],_,rfl,(Zs (Span.mk fr (min (Zd a i) (Zd b n))) hfr9 hat9),rfl⟩ rfl (by have hreach : reach = 140737488355328:=rfl; have hlen9:=(by assumption : Sweep a b i n ins fr out9 T).len; simp only [List.length_append,List.length_cons,List.length_nil]; omega) (by have hreach : reach = 140737488355328:=rfl; have hlen9:=(by assumption : Sweep a b i n ins fr out9 T).len; simp only [List.length_append,List.length_cons,List.length_nil]; omega) rfl rfl rfl (fun v16 o15 w49 hr15 hS62=>?_)
    have hS63:=hS62.tail
    exact BK.mk' _ ⟨i,n + 1,false,(min (Zd a i) (Zd b n)),(out9 ++ [(Span.mk fr (min (Zd a i) (Zd b n)))]),(min (Zd a i) (Zd b n)),v16,o15,G21,rfl,(hle3.trans ((((hle14.trans hle15).trans hle16).trans hle20).trans hle21)),hS63,hr15,⟨rfl,rfl,rfl,rfl,rfl,rfl,rfl,rfl,rfl,trivial⟩,(by exact Sweep.flip ‹_› hnx ‹_› ‹_› ‹_›)⟩ (show (2 * a.length + 2 * b.length - i - (n + 1)) < (2 * a.length + 2 * b.length - i - n) by omega)
   exact BK.mk' _ ⟨i,n + 1,false,(min (Zd a i) (Zd b n)),out9,(min (Zd a i) (Zd b n)),v1,o1,G21,rfl,(hle3.trans ((((hle14.trans hle15).trans hle16).trans hle20).trans hle21)),hS57,(hr1.mono ((((hle14.trans hle15).trans hle16).trans hle20).trans hle21)),⟨rfl,rfl,rfl,rfl,rfl,rfl,rfl,rfl,rfl,trivial⟩,(by exact Sweep.flop ‹_› hnx ‹_› ‹_› ‹_›)⟩ (show (2 * a.length + 2 * b.length - i - (n + 1)) < (2 * a.length + 2 * b.length - i - n) by omega)
  have hnx:=Sweep.next (i':=i) (k':=n) (by assumption : Sweep a b i n ins fr out9 T) hCa hCb hVa hVb rfl (by exact .inl (by omega)) (by exact Adv.no ‹_›) (by exact Adv.no ‹_›)
  have hn1:=hnx.lt; have hn2:=hnx.tb; have hn3:=hnx.adv; have hn4:=hnx.ba.le; have hn5:=hnx.bb.le
  have hat9 : Zw (min (Zd a i) (Zd b n)):=⟨by omega,by omega⟩
  refine XH i 2 (by omega) (by have hreach : reach = 140737488355328:=rfl; omega) rfl rfl rfl ?_
  refine ZZ .eql rfl .i64 ((i % 2 : Nat) : Int) 1 rfl rfl rfl ?_
  refine XH n 2 (by omega) (by have hreach : reach = 140737488355328:=rfl; omega) rfl rfl rfl ?_
  refine ZZ .eql rfl .i64 ((n % 2 : Nat) : Int) 1 rfl rfl rfl ?_
  refine Zn hS56 Zd0 rfl rfl rfl (ZaD hS56.imm (Cmp.b .eql ((i % 2 : Nat) : Int) 1) (Cmp.b .eql ((n % 2 : Nat) : Int) 1)) (fun w50 G22 hS64 hle22=>?_)
  refine WL.split (fun (h44 : ((Cmp.b .eql ((i % 2 : Nat) : Int) 1) && !(Cmp.b .eql ((n % 2 : Nat) : Int) 1)) = true)=>?_) (fun (h44 : ((Cmp.b .eql ((i % 2 : Nat) : Int) 1) && !(Cmp.b .eql ((n % 2 : Nat) : Int) 1)) = false)=>?_)
  ·refine Xu true ins ul4 rfl rfl rfl ?_
   refine WL.split (fun (h45 : (true == ins) = true)=>?_) (fun (h45 : (true == ins) = false)=>?_)
   ·exact BK.mk' _ ⟨i,n,ins,fr,out9,(min (Zd a i) (Zd b n)),v1,o1,G22,rfl,(hle3.trans ((((hle14.trans hle15).trans hle16).trans hle20).trans hle22)),hS64,(hr1.mono ((((hle14.trans hle15).trans hle16).trans hle20).trans hle22)),⟨rfl,rfl,rfl,rfl,rfl,rfl,rfl,rfl,rfl,trivial⟩,(by exact Sweep.keep ‹_› hnx ‹_› ‹_›)⟩ (show (2 * a.length + 2 * b.length - i - n) < (2 * a.length + 2 * b.length - i - n) by omega)
   refine XT (d:=12) rfl (fun (h46 : ins = true)=>?_) (fun (h46 : ins = false)=>?_)
   ·refine WL.build _ [(0,[.int .i64 fr]),(1,[.int .i64 (min (Zd a i) (Zd b n))])] [.int .i64 fr, .int .i64 (min (Zd a i) (Zd b n))] Zu rfl X6 rfl rfl rfl rfl ?_
    refine WL.buildSlice _ [(0,[.int .i64 fr, .int .i64 (min (Zd a i) (Zd b n))])] [.int .i64 fr, .int .i64 (min (Zd a i) (Zd b n))] hS64 YO rfl rfl rfl rfl (fun z hz=>by match z,hz with | [z0,z1],_=>rfl) (fun b15 w51 hn15 hS65=>?_)
    refine WL.push (m:=([(Span.mk fr (min (Zd a i) (Zd b n)))] : List Span)) YO rfl rfl rfl (hr1.mono ((((hle14.trans hle15).trans hle16).trans hle20).trans hle22)) hS65 1 rfl 0 _ _ _ _ _ rfl ⟨[.int .i64 fr, .int .i64 (min (Zd a i) (Zd b n))],_,rfl,(Zs (Span.mk fr (min (Zd a i) (Zd b n))) hfr9 hat9),rfl⟩ rfl (by have hreach : reach = 140737488355328:=rfl; have hlen9:=(by assumption : Sweep a b i n ins fr out9 T).len; simp only [List.length_append,List.length_cons,List.length_nil]; omega) (by have hreach : reach = 140737488355328:=rfl; have hlen9:=(by assumption : Sweep a b i n ins fr out9 T).len; simp only [List.length_append,List.length_cons,List.length_nil]; omega) rfl rfl rfl (fun v17 o16 w52 hr16 hS66=>?_)
    have hS67:=hS66.tail
    exact BK.mk' _ ⟨i,n,true,(min (Zd a i) (Zd b n)),(out9 ++ [(Span.mk fr (min (Zd a i) (Zd b n)))]),(min (Zd a i) (Zd b n)),v17,o16,G22,rfl,(hle3.trans ((((hle14.trans hle15).trans hle16).trans hle20).trans hle22)),hS67,hr16,⟨rfl,rfl,rfl,rfl,rfl,rfl,rfl,rfl,rfl,trivial⟩,(by exact Sweep.flip ‹_› hnx ‹_› ‹_› ‹_›)⟩ (show (2 * a.length + 2 * b.length - i - n) < (2 * a.length + 2 * b.length - i - n) by omega)
   exact BK.mk' _ ⟨i,n,true,(min (Zd a i) (Zd b n)),out9,(min (Zd a i) (Zd b n)),v1,o1,G22,rfl,(hle3.trans ((((hle14.trans hle15).trans hle16).trans hle20).trans hle22)),hS64,(hr1.mono ((((hle14.trans hle15).trans hle16).trans hle20).trans hle22)),⟨rfl,rfl,rfl,rfl,rfl,rfl,rfl,rfl,rfl,trivial⟩,(by exact Sweep.flop ‹_› hnx ‹_› ‹_› ‹_›)⟩ (show (2 * a.length + 2 * b.length - i - n) < (2 * a.length + 2 * b.length - i - n) by omega)
  refine Xu false ins ul4 rfl rfl rfl ?_
  refine WL.split (fun (h47 : (false == ins) = true)=>?_) (fun (h47 : (false == ins) = false)=>?_)
  ·exact BK.mk' _ ⟨i,n,ins,fr,out9,(min (Zd a i) (Zd b n)),v1,o1,G22,rfl,(hle3.trans ((((hle14.trans hle15).trans hle16).trans hle20).trans hle22)),hS64,(hr1.mono ((((hle14.trans hle15).trans hle16).trans hle20).trans hle22)),⟨rfl,rfl,rfl,rfl,rfl,rfl,rfl,rfl,rfl,trivial⟩,(by exact Sweep.keep ‹_› hnx ‹_› ‹_›)⟩ (show (2 * a.length + 2 * b.length - i - n) < (2 * a.length + 2 * b.length - i - n) by omega)
  refine XT (d:=12) rfl (fun (h48 : ins = true)=>?_) (fun (h48 : ins = false)=>?_)
  ·refine WL.build _ [(0,[.int .i64 fr]),(1,[.int .i64 (min (Zd a i) (Zd b n))])] [.int .i64 fr, .int .i64 (min (Zd a i) (Zd b n))] Zu rfl X6 rfl rfl rfl rfl ?_
   refine WL.buildSlice _ [(0,[.int .i64 fr, .int .i64 (min (Zd a i) (Zd b n))])] [.int .i64 fr, .int .i64 (min (Zd a i) (Zd b n))] hS64 YO rfl rfl rfl rfl (fun z hz=>by match z,hz with | [z0,z1],_=>rfl) (fun b16 w53 hn16 hS68=>?_)
   refine WL.push (m:=([(Span.mk fr (min (Zd a i) (Zd b n)))] : List Span)) YO rfl rfl rfl (hr1.mono ((((hle14.trans hle15).trans hle16).trans hle20).trans hle22)) hS68 1 rfl 0 _ _ _ _ _ rfl ⟨[.int .i64 fr, .int .i64 (min (Zd a i) (Zd b n))],_,rfl,(Zs (Span.mk fr (min (Zd a i) (Zd b n))) hfr9 hat9),rfl⟩ rfl (by have hreach : reach = 140737488355328:=rfl; have hlen9:=(by assumption : Sweep a b i n ins fr out9 T).len; simp only [List.length_append,List.length_cons,List.length_nil]; omega) (by have hreach : reach = 140737488355328:=rfl; have hlen9:=(by assumption : Sweep a b i n ins fr out9 T).len; simp only [List.length_append,List.length_cons,List.length_nil]; omega) rfl rfl rfl (fun v18 o17 w54 hr17 hS69=>?_)
   have hS70:=hS69.tail
   exact BK.mk' _ ⟨i,n,false,(min (Zd a i) (Zd b n)),(out9 ++ [(Span.mk fr (min (Zd a i) (Zd b n)))]),(min (Zd a i) (Zd b n)),v18,o17,G22,rfl,(hle3.trans ((((hle14.trans hle15).trans hle16).trans hle20).trans hle22)),hS70,hr17,⟨rfl,rfl,rfl,rfl,rfl,rfl,rfl,rfl,rfl,trivial⟩,(by exact Sweep.flip ‹_› hnx ‹_› ‹_› ‹_›)⟩ (show (2 * a.length + 2 * b.length - i - n) < (2 * a.length + 2 * b.length - i - n) by omega)
  exact BK.mk' _ ⟨i,n,false,(min (Zd a i) (Zd b n)),out9,(min (Zd a i) (Zd b n)),v1,o1,G22,rfl,(hle3.trans ((((hle14.trans hle15).trans hle16).trans hle20).trans hle22)),hS64,(hr1.mono ((((hle14.trans hle15).trans hle16).trans hle20).trans hle22)),⟨rfl,rfl,rfl,rfl,rfl,rfl,rfl,rfl,rfl,trivial⟩,(by exact Sweep.flop ‹_› hnx ‹_› ‹_› ‹_›)⟩ (show (2 * a.length + 2 * b.length - i - n) < (2 * a.length + 2 * b.length - i - n) by omega)
 obtain ⟨G23,hle23,hs1,hS71⟩:=Ye.freeze hr1 hS3 0 rfl
 refine Z6 hS71 Zsm rfl rfl rfl (Zh9 hS71.imm out9 _ hs1 (by have h9:=(Sweep.done (by assumption : Sweep a b i n ins fr out9 T) hCa hCb (by omega) (by omega)).2; omega)) ?_
 rintro w55 G24 _ ⟨r2,_,rfl,hs2,rfl⟩ hS72 hle24
 exact RT hS72 rfl ⟨_,_,rfl,(Sl.cast hs2 (by exact (Sweep.done (by assumption : Sweep a b i n ins fr out9 T) hCa hCb (by omega) (by omega)).1)),(congrArg (Value.int .i64) (by rfl))⟩
theorem Zmh {G : GH} {w : World} (hG : G.In w) (a b : List Span) (va : Value) (hva : Sl SpanE 16 G va a) (vb : Value) (hvb : Sl SpanE 16 G vb b) (hCa : Can a) (hCb : Can b) (hVa : ∀ s ∈ a,Xx s = true) (hVb : ∀ s ∈ b,Xx s = true) (hla : a.length ≤ 1000) (hlb : b.length ≤ 1000) : CL Tryz.prog (nat_lit 74) #[va,vb] [] w G fun G' _ r=>∃ r0 r1,r = .tuple #[r0,r1] ∧ Sl SpanE 16 G' r0 (ZX 3 a b) ∧ r1 = .int .i64 0:=by
 refine Zg ft [] Tryz.func74 rfl rfl ?_
 have hS:=St.start (X:=[]) hG
 refine Z6 hS ZvF rfl rfl rfl (ZoQ hS.imm a b _ hva _ hvb hCa hCb hVa hVb hla hlb) ?_
 rintro w1 G1 _ ⟨r2,_,rfl,hs1,rfl⟩ hS1 hle1
 exact RT hS1 rfl ⟨_,_,rfl,(Sl.cast hs1 (by rfl)),(congrArg (Value.int .i64) (by rfl))⟩
theorem ZiY {G : GH} {w : World} (hG : G.In w) (s : Span) (x : Int) (cs : List Value) (hcs : SpanE.rep G s cs) : CL Tryz.prog (nat_lit 155) #[.agg cs.toArray, .int .i64 x] [] w G fun _ _ r=>r = .int .i64 (if s.b ≤ x then -1 else 1):=by
 refine Zg ft [] Tryz.func155 rfl rfl ?_
 have hS:=St.start (X:=[]) hG
 obtain ⟨rfl,hb1,hb2⟩:=ZE hcs
 refine Zv [.int .i64 s.a, .int .i64 s.b] _ hS rfl rfl rfl (fun p1 w1 G1 hle1 hsp1 hc1 hS1=>?_)
 refine Za hS1 (Xw.drop 1 hc1) Zp rfl rfl rfl ?_
 refine Qu s.b x rfl rfl rfl (fun h1=>?_) (fun h1=>?_)
 ·exact RI hS1 rfl (by exact (if_pos ‹_›).symm)
 exact RI hS1 rfl (by exact (if_neg (by omega)).symm)
theorem ZuT {G : GH} {w : World} (hG : G.In w) (l : List Span) (x : Int) (vl : Value) (hvl : Sl SpanE 16 G vl l) (hC : Can l) (hl : l.length ≤ 1000000) : CL Tryz.prog (nat_lit 154) #[vl, .int .i64 x, .func (.func 155) #[] #[]] [] w G fun _ _ r=>∃ r0 r1,r = .tuple #[r0,r1] ∧ r0 = .int .i64 ((ZbH l x : Nat) : Int) ∧ r1 = .bool false:=by
 refine Zg ft [] Tryz.func154 rfl rfl ?_
 have hS:=St.start (X:=[]) hG
 have bd1:=hvl.bound
 refine Zj hvl YT rfl rfl ?_
 refine LP.go ft [] (fun m ρ1 w1=>∃ (i : Nat),∃ (j : Nat),∃ (G1 : GH),m = (j - i) ∧ G.le G1 ∧ St w [] G G1 [] w1 ∧ FR ρ1 [(0,vl),(1, .int .i64 x),(2, .func (.func 155) #[] #[]),(8, .int .i64 (l.length : Int)),(9, .int .i64 (i : Int)),(10, .int .i64 (j : Int))] ∧ i ≤ j ∧ j ≤ l.length ∧ ZkS l x i ∧ Zh8 l x j) _ ⟨0,l.length,G,rfl,(G.le_refl),hS,⟨rfl,rfl,rfl,rfl,rfl,rfl,trivial⟩,(by omega),(by omega),(ZkS.zero),(Zh8.all)⟩ ?_
 rintro m ρ1 w1 ⟨i,j,G1,rfl,hle1,hS1,hF9,f1,f2,f3,f4⟩
 refine hF9.set ?_
 clear hF9
 refine Zq (i : Int) (j : Int) rfl rfl rfl (fun h1=>?_) (fun h1=>?_)
 ·refine WL.addN i j (by have hreach : reach = 140737488355328:=rfl; omega) rfl rfl rfl ?_
  refine ZuA (i + j) XF ZrW (by have hreach : reach = 140737488355328:=rfl; omega) rfl rfl ?_
  refine ZsP (i + j) rfl rfl rfl ?_
  refine ZuB ((i + j) / 2) ZrW XF (by have hreach : reach = 140737488355328:=rfl; omega) rfl rfl ?_
  refine WL.indexAddr (hvl.mono hle1) ((i + j) / 2) (by omega) YT Zu rfl rfl rfl rfl (fun p1 x1 hx1 he1=>?_)
  obtain ⟨cs1,hc1,hr1⟩:=he1
  obtain ⟨rfl,hb1,hb2⟩:=ZE hr1
  refine Zc hS1 hc1 [.int .i64 x1.a, .int .i64 x1.b] Zu rfl rfl rfl rfl rfl ?_
  refine Zn hS1 Zsh rfl rfl rfl (ZiY hS1.imm x1 x _ (Zs x1 hb1 hb2)) (fun w2 G2 hS2 hle2=>?_)
  refine Zq (if x1.b ≤ x then -1 else 1) 0 rfl rfl rfl (fun h2=>?_) (fun h2=>?_)
  ·refine Zl ((i + j) / 2) (by have hreach : reach = 140737488355328:=rfl; omega) rfl rfl rfl ?_
   exact BK.mk' _ ⟨(i + j) / 2 + 1,j,G2,rfl,(hle1.trans hle2),hS2,⟨rfl,rfl,rfl,rfl,rfl,rfl,trivial⟩,(by omega),(by omega),(by exact ZkS.step hC ‹_› (Zti ‹_›)),‹_›⟩ (show (j - ((i + j) / 2 + 1)) < (j - i) by omega)
  exact BK.mk' _ ⟨i,(i + j) / 2,G2,rfl,(hle1.trans hle2),hS2,⟨rfl,rfl,rfl,rfl,rfl,rfl,trivial⟩,(by omega),(by omega),‹_›,(by exact Zh8.step hC ‹_› (ZqX ‹_›))⟩ (show (((i + j) / 2) - i) < (j - i) by omega)
 have hp9:=Ztj (by assumption : ZkS l x i) (by assumption : Zh8 l x j) (by omega) (by omega)
 refine Zq (i : Int) (l.length : Int) rfl rfl rfl (fun h3=>?_) (fun h3=>?_)
 ·refine WL.indexAddr (hvl.mono hle1) i (by omega) YT Zu rfl rfl rfl rfl (fun p2 x2 hx2 he2=>?_)
  obtain ⟨cs2,hc2,hr2⟩:=he2
  obtain ⟨rfl,hb3,hb4⟩:=ZE hr2
  refine Zc hS1 hc2 [.int .i64 x2.a, .int .i64 x2.b] Zu rfl rfl rfl rfl rfl ?_
  refine Zn hS1 Zsh rfl rfl rfl (ZiY hS1.imm x2 x _ (Zs x2 hb3 hb4)) (fun w3 G3 hS3 hle3=>?_)
  refine ZZ .eql rfl .i64 (if x2.b ≤ x then -1 else 1) 0 rfl rfl rfl ?_
  exact RT hS3 rfl ⟨_,_,rfl,(congrArg (Value.int .i64) (by (rw [hp9]; done))),(congrArg Value.bool (by exact ZoM))⟩
 exact RT hS1 rfl ⟨_,_,rfl,(congrArg (Value.int .i64) (by (rw [hp9]; done))),(congrArg Value.bool (by rfl))⟩
theorem ZkV {G : GH} {w : World} (hG : G.In w) (l : List Span) (x : Int) (vl : Value) (hvl : Sl SpanE 16 G vl l) (hC : Can l) (hl : l.length ≤ 1000000) : CL Tryz.prog (nat_lit 100) #[vl, .int .i64 x] [] w G fun _ _ r=>r = .int .i64 ((ZbH l x : Nat) : Int):=by
 refine Zg ft [] Tryz.func100 rfl rfl ?_
 have hS:=St.start (X:=[]) hG
 refine Z6 hS ZvM rfl rfl rfl (ZuT hS.imm l x _ hvl ‹_› ‹_›) ?_
 rintro w1 G1 _ ⟨_,_,rfl,rfl,rfl⟩ hS1 hle1
 exact RI hS1 rfl (by rfl)
theorem ZoR {G : GH} {w : World} (hG : G.In w) (l : List Span) (x : Int) (vl : Value) (hvl : Sl SpanE 16 G vl l) (hC : Can l) (hV : ∀ s ∈ l,Xx s = true) (hl : l.length ≤ 2000) : CL Tryz.prog (nat_lit 40) #[vl, .int .i64 x] [] w G fun _ _ r=>r = .bool (Xq l x):=by
 refine Zg ft [] Tryz.func40 rfl rfl ?_
 have hS:=St.start (X:=[]) hG
 refine Zn hS Zk5 rfl rfl rfl (ZdT hS.imm l _ hvl hC hV hl) (fun w1 G1 hS1 hle1=>?_)
 refine Zn hS1 Zv2 rfl rfl rfl (ZkV hS1.imm l x _ (hvl.mono hle1) hC (by omega)) (fun w2 G2 hS2 hle2=>?_)
 have bd1:=hvl.bound
 refine Zj (hvl.mono (hle1.trans hle2)) YT rfl rfl ?_
 refine Zq (((ZbH l x) : Nat) : Int) (l.length : Int) rfl rfl rfl (fun h1=>?_) (fun h1=>?_)
 ·refine WL.indexAddr (hvl.mono (hle1.trans hle2)) (ZbH l x) (by omega) YT Zu rfl rfl rfl rfl (fun p1 x1 hx1 he1=>?_)
  obtain ⟨cs1,hc1,hr1⟩:=he1
  obtain ⟨rfl,hb1,hb2⟩:=ZE hr1
  refine Za hS2 (Xw.drop 0 hc1) Zp rfl rfl rfl <| ZZ .leq rfl .i64 x1.a x rfl rfl rfl ?_
  exact RB hS2 rfl (by exact ZuS hC ‹_›)
 exact RB hS2 rfl (by exact (ZoN hC fun s hs=>by have:=(List.getElem?_eq_some_iff.1 hs).1; omega).symm)
end Go.Civ
