/- Lemmas. -/
import Derived.Test.YtcopkjhdncdnmaaGreatDoorP21
set_option linter.unusedVariables false
set_option linter.unusedSimpArgs false
set_option maxRecDepth 100000
set_option maxHeartbeats 4000000
namespace Go.Civ
open Go.Proofs
theorem Zbj {G : GH} {w : World} (hG : G.In w) (x : Val) (cx : List Value) (hcx : ValE.rep G x cx) : CL Tryz.prog (nat_lit 159) #[.agg cx.toArray] [] w G fun _ _ r=>r = .bool (Y1 x):=by
 refine Zo ft [] Tryz.func159 V V ?_
 have hS:=St.start (X:=[]) hG
 obtain ⟨rfl,B1,B2,B3⟩:=ZdV hcx
 refine ZL [U x.k,U x.n,Zb x.s] _ hS V V V (fun p1 w1 G1 L1 M1 C1 S1=>?_)
 refine Za S1 (YC.drop 0 C1) Z3 V V V ?_
 refine Zj x.k 1 V V V (fun h1=>?_) (fun h1=>?_)
 ·refine Za S1 (YC.drop 2 C1) Zy V V V <| Zn .eql V x.s [] V V V ?_
  exact RB S1 V (by unfold Y1; simp_all [Cmp.b,SCmp.b] <;> (first | omega | (intros; omega) | (rw [Bool.eq_iff_iff]; simp <;> omega) | (rw [Bool.eq_iff_iff]; simp_all <;> omega)))
 refine Zj x.k 2 V V V (fun h2=>?_) (fun h2=>?_)
 ·refine Za S1 (YC.drop 1 C1) Z3 V V V ?_
  refine Zj x.n 0 V V V (fun h3=>?_) (fun h3=>?_)
  ·refine Za S1 (YC.drop 2 C1) Zy V V V <| Xo x.s Q2 V V ?_
   refine Qd (x.s.length : Int) 30 V V V (fun h4=>?_) (fun h4=>?_)
   ·refine Za S1 (YC.drop 2 C1) Zy V V V ?_
    refine Zw S1 Zdq V V V (ZkH S1.imm x.s) (fun w2 G2 S2 L2=>?_)
    exact RB S2 V (by unfold Y1; simp_all [Cmp.b,SCmp.b] <;> (omega))
   exact RB S1 V (by unfold Y1; simp_all [Cmp.b,SCmp.b] <;> (omega))
  exact RB S1 V (by unfold Y1; simp_all [Cmp.b,SCmp.b] <;> (first | omega | (intros; omega) | (rw [Bool.eq_iff_iff]; simp <;> omega) | (rw [Bool.eq_iff_iff]; simp_all <;> omega)))
 refine Zj x.k 3 V V V (fun h5=>?_) (fun h5=>?_)
 ·refine Za S1 (YC.drop 2 C1) Zy V V V <| Zn .eql V x.s [] V V V ?_
  refine WL.split (fun h0=>?_) (fun h0=>?_)
  ·have h6 : x.s = []:=by simpa [SCmp.b] using h0
   clear h0
   refine Za S1 (YC.drop 1 C1) Z3 V V V ?_
   refine Zj x.n 0 V V V (fun h7=>?_) (fun h7=>?_)
   ·exact RB S1 V (by unfold Y1; simp_all [Cmp.b,SCmp.b] <;> (first | omega | (intros; omega) | (rw [Bool.eq_iff_iff]; simp <;> omega) | (rw [Bool.eq_iff_iff]; simp_all <;> omega)))
   refine Za S1 (YC.drop 1 C1) Z3 V V V <| YK .eql V .i64 x.n 1 V V V ?_
   exact RB S1 V (by unfold Y1; simp_all [Cmp.b,SCmp.b] <;> ((rw [Bool.eq_iff_iff]; simp <;> omega)))
  have h6 : x.s ≠ []:=by simpa [SCmp.b] using h0
  clear h0
  exact RB S1 V (by unfold Y1; simp_all [Cmp.b,SCmp.b] <;> (first | omega | (intros; omega) | (rw [Bool.eq_iff_iff]; simp <;> omega) | (rw [Bool.eq_iff_iff]; simp_all <;> omega)))
 refine Zj x.k 4 V V V (fun h8=>?_) (fun h8=>?_)
 ·refine Za S1 (YC.drop 2 C1) Zy V V V <| Zn .eql V x.s [] V V V ?_
  refine WL.split (fun h0=>?_) (fun h0=>?_)
  ·have h9 : x.s = []:=by simpa [SCmp.b] using h0
   clear h0
   refine Za S1 (YC.drop 1 C1) Z3 V V V ?_
   refine Y9 x.n (-62135596800) V V V (fun h10=>?_) (fun h10=>?_)
   ·refine Za S1 (YC.drop 1 C1) Z3 V V V <| YK .leq V .i64 x.n 253402300800 V V V ?_
    exact RB S1 V (by unfold Y1; simp_all [Cmp.b,SCmp.b] <;> (first | omega | (intros; omega) | (rw [Bool.eq_iff_iff]; simp <;> omega) | (rw [Bool.eq_iff_iff]; simp_all <;> omega)))
   exact RB S1 V (by unfold Y1; simp_all [Cmp.b,SCmp.b] <;> (omega))
  have h9 : x.s ≠ []:=by simpa [SCmp.b] using h0
  clear h0
  exact RB S1 V (by unfold Y1; simp_all [Cmp.b,SCmp.b] <;> (first | omega | (intros; omega) | (rw [Bool.eq_iff_iff]; simp <;> omega) | (rw [Bool.eq_iff_iff]; simp_all <;> omega)))
 exact RB S1 V (by unfold Y1; simp_all [Cmp.b,SCmp.b] <;> (first | omega | (intros; omega) | (rw [Bool.eq_iff_iff]; simp <;> omega) | (rw [Bool.eq_iff_iff]; simp_all <;> omega)))
theorem Zfh {G : GH} {w : World} (hG : G.In w) (x : Val) (cx : List Value) (hcx : ValE.rep G x cx) : CL Tryz.prog (nat_lit 433) #[.agg cx.toArray] [] w G fun _ _ r=>r = .bool (Y1 x):=by
 refine Zo ft [] Tryz.func433 V V ?_
 have hS:=St.start (X:=[]) hG
 obtain ⟨rfl,B1,B2,B3⟩:=ZdV hcx
 refine ZL [U x.k,U x.n,Zb x.s] _ hS V V V (fun p1 w1 G1 L1 M1 C1 S1=>?_)
 refine Za S1 (YC.drop 0 C1) Z3 V V V ?_
 refine Zj x.k 1 V V V (fun h1=>?_) (fun h1=>?_)
 ·refine Za S1 (YC.drop 2 C1) Zy V V V <| Zn .eql V x.s [] V V V ?_
  exact RB S1 V (by first | exact (XO ‹_› ‹_› (by omega) (Ys ‹_› (by omega))).symm | exact (Qe ‹_› ‹_› (by simp [okC]; omega)).symm | (unfold Y1; simp_all [Cmp.b,SCmp.b] <;> (first | omega | (intros; omega) | (rw [Bool.eq_iff_iff]; simp <;> omega) | (rw [Bool.eq_iff_iff]; simp_all <;> omega))))
 refine Zj x.k 2 V V V (fun h2=>?_) (fun h2=>?_)
 ·refine Za S1 (YC.drop 1 C1) Z3 V V V ?_
  refine Z8 x.n 0 V V V (fun h3=>?_) (fun h3=>?_)
  ·exact RB S1 V (by first | exact (XO ‹_› ‹_› (by omega) (Ys ‹_› (by omega))).symm | exact (Qe ‹_› ‹_› (by simp [okC]; omega)).symm | (unfold Y1; simp_all [Cmp.b,SCmp.b] <;> (first | omega | (intros; omega) | (rw [Bool.eq_iff_iff]; simp <;> omega) | (rw [Bool.eq_iff_iff]; simp_all <;> omega))))
  refine Za S1 (YC.drop 2 C1) Zy V V V <| Xo x.s Q2 V V ?_
  refine Yk (x.s.length : Int) 30 V V V (fun h4=>?_) (fun h4=>?_)
  ·exact RB S1 V (by first | exact (XO ‹_› ‹_› (by omega) (Ys ‹_› (by omega))).symm | exact (Qe ‹_› ‹_› (by simp [okC]; omega)).symm | (unfold Y1; simp_all [Cmp.b,SCmp.b] <;> (first | omega | (intros; omega) | (rw [Bool.eq_iff_iff]; simp <;> omega) | (rw [Bool.eq_iff_iff]; simp_all <;> omega))))
  refine LP.go ft [] (fun m ρ1 w1=>∃ (k1 : Nat),∃ (G2 : GH),m = x.s.length - k1 ∧ G1.le G2 ∧ St w [] G G2 [] w1 ∧ FR ρ1 [(1,Zu p1),(3,U (k1 : Int))] ∧ k1 ≤ x.s.length ∧ ∀ j,j < k1 → ∀ c,x.s[j]? = some c → okC c = true) _ ⟨0,G1,V,(G1.le_refl),S1,⟨V,V,trivial⟩,(by omega),(by intro j hj; omega)⟩ ?_
  rintro m ρ1 w2 ⟨k1,G2,rfl,L2,S2,F9,f1,f2⟩
  refine F9.set ?_
  clear F9
  refine Za S2 (YC.drop 2 (C1.mono L2)) Zy V V V <| Xo x.s Q2 V V ?_
  refine Z1 (k1 : Int) (x.s.length : Int) V V V (fun h5=>?_) (fun h5=>?_)
  ·refine Za S2 (YC.drop 2 (C1.mono L2)) Zy V V V ?_
   refine Xr x.s k1 (by omega) Q2 V V V (fun c1 U1=>?_)
   refine Z1 (c1.toNat : Int) 32 V V V (fun h6=>?_) (fun h6=>?_)
   ·exact RB S2 V (by first | exact (XO ‹_› ‹_› (by omega) (Ys ‹_› (by omega))).symm | exact (Qe ‹_› ‹_› (by simp [okC]; omega)).symm | (unfold Y1; simp_all [Cmp.b,SCmp.b] <;> (first | omega | (intros; omega) | (rw [Bool.eq_iff_iff]; simp <;> omega) | (rw [Bool.eq_iff_iff]; simp_all <;> omega))))
   refine Za S2 (YC.drop 2 (C1.mono L2)) Zy V V V ?_
   refine Xr x.s k1 (by omega) Q2 V V V (fun c2 U2=>?_)
   obtain rfl : c1 = c2:=Option.some.inj (U1.symm.trans U2)
   refine Yk (c1.toNat : Int) 126 V V V (fun h7=>?_) (fun h7=>?_)
   ·exact RB S2 V (by first | exact (XO ‹_› ‹_› (by omega) (Ys ‹_› (by omega))).symm | exact (Qe ‹_› ‹_› (by simp [okC]; omega)).symm | (unfold Y1; simp_all [Cmp.b,SCmp.b] <;> (first | omega | (intros; omega) | (rw [Bool.eq_iff_iff]; simp <;> omega) | (rw [Bool.eq_iff_iff]; simp_all <;> omega))))
   refine ZC k1 (by have:=Zm; omega) V V V ?_
   exact BK.mk' _ ⟨k1 + 1,G2,V,L2,S2,⟨V,V,trivial⟩,(by omega),(by exact Yz ‹_› ‹_› (by simp [okC]; omega))⟩ (show x.s.length - (k1 + 1) < x.s.length - k1 by omega)
  exact RB S2 V (by first | exact (XO ‹_› ‹_› (by omega) (Ys ‹_› (by omega))).symm | exact (Qe ‹_› ‹_› (by simp [okC]; omega)).symm | (unfold Y1; simp_all [Cmp.b,SCmp.b] <;> (first | omega | (intros; omega) | (rw [Bool.eq_iff_iff]; simp <;> omega) | (rw [Bool.eq_iff_iff]; simp_all <;> omega))))
 refine Zj x.k 3 V V V (fun h8=>?_) (fun h8=>?_)
 ·refine Za S1 (YC.drop 2 C1) Zy V V V <| Zn .eql V x.s [] V V V ?_
  refine WL.split (fun h0=>?_) (fun h0=>?_)
  ·have h9 : x.s = []:=by simpa [SCmp.b] using h0
   clear h0
   refine Za S1 (YC.drop 1 C1) Z3 V V V ?_
   refine Zj x.n 0 V V V (fun h10=>?_) (fun h10=>?_)
   ·exact RB S1 V (by first | exact (XO ‹_› ‹_› (by omega) (Ys ‹_› (by omega))).symm | exact (Qe ‹_› ‹_› (by simp [okC]; omega)).symm | (unfold Y1; simp_all [Cmp.b,SCmp.b] <;> (first | omega | (intros; omega) | (rw [Bool.eq_iff_iff]; simp <;> omega) | (rw [Bool.eq_iff_iff]; simp_all <;> omega))))
   refine Za S1 (YC.drop 1 C1) Z3 V V V <| YK .eql V .i64 x.n 1 V V V ?_
   exact RB S1 V (by first | exact (XO ‹_› ‹_› (by omega) (Ys ‹_› (by omega))).symm | exact (Qe ‹_› ‹_› (by simp [okC]; omega)).symm | (unfold Y1; simp_all [Cmp.b,SCmp.b] <;> (first | omega | (intros; omega) | (rw [Bool.eq_iff_iff]; simp <;> omega) | (rw [Bool.eq_iff_iff]; simp_all <;> omega))))
  have h9 : x.s ≠ []:=by simpa [SCmp.b] using h0
  clear h0
  exact RB S1 V (by first | exact (XO ‹_› ‹_› (by omega) (Ys ‹_› (by omega))).symm | exact (Qe ‹_› ‹_› (by simp [okC]; omega)).symm | (unfold Y1; simp_all [Cmp.b,SCmp.b] <;> (first | omega | (intros; omega) | (rw [Bool.eq_iff_iff]; simp <;> omega) | (rw [Bool.eq_iff_iff]; simp_all <;> omega))))
 refine Zj x.k 4 V V V (fun h11=>?_) (fun h11=>?_)
 ·refine Za S1 (YC.drop 2 C1) Zy V V V <| Zn .eql V x.s [] V V V ?_
  refine WL.split (fun h0=>?_) (fun h0=>?_)
  ·have h12 : x.s = []:=by simpa [SCmp.b] using h0
   clear h0
   refine Za S1 (YC.drop 1 C1) Z3 V V V ?_
   refine Y9 x.n (-62135596800) V V V (fun h13=>?_) (fun h13=>?_)
   ·refine Za S1 (YC.drop 1 C1) Z3 V V V <| YK .leq V .i64 x.n 253402300800 V V V ?_
    exact RB S1 V (by first | exact (XO ‹_› ‹_› (by omega) (Ys ‹_› (by omega))).symm | exact (Qe ‹_› ‹_› (by simp [okC]; omega)).symm | (unfold Y1; simp_all [Cmp.b,SCmp.b] <;> (first | omega | (intros; omega) | (rw [Bool.eq_iff_iff]; simp <;> omega) | (rw [Bool.eq_iff_iff]; simp_all <;> omega))))
   exact RB S1 V (by first | exact (XO ‹_› ‹_› (by omega) (Ys ‹_› (by omega))).symm | exact (Qe ‹_› ‹_› (by simp [okC]; omega)).symm | (unfold Y1; simp_all [Cmp.b,SCmp.b] <;> (first | omega | (intros; omega) | (rw [Bool.eq_iff_iff]; simp <;> omega) | (rw [Bool.eq_iff_iff]; simp_all <;> omega))))
  have h12 : x.s ≠ []:=by simpa [SCmp.b] using h0
  clear h0
  exact RB S1 V (by first | exact (XO ‹_› ‹_› (by omega) (Ys ‹_› (by omega))).symm | exact (Qe ‹_› ‹_› (by simp [okC]; omega)).symm | (unfold Y1; simp_all [Cmp.b,SCmp.b] <;> (first | omega | (intros; omega) | (rw [Bool.eq_iff_iff]; simp <;> omega) | (rw [Bool.eq_iff_iff]; simp_all <;> omega))))
 exact RB S1 V (by first | exact (XO ‹_› ‹_› (by omega) (Ys ‹_› (by omega))).symm | exact (Qe ‹_› ‹_› (by simp [okC]; omega)).symm | (unfold Y1; simp_all [Cmp.b,SCmp.b] <;> (first | omega | (intros; omega) | (rw [Bool.eq_iff_iff]; simp <;> omega) | (rw [Bool.eq_iff_iff]; simp_all <;> omega))))
end Go.Civ
namespace Go.Civ
open Go.RowKit
set_option linter.unusedVariables false
def ZrN {α : Type} (P : Program) (g : Nat) (lb : Array Value) (enc : α → Value) (xs : List α) (w : World) : Prop:=
 ∀ (l : Nat) (J Jx : List α → World → Prop) (W : World),Kept [] w W → (∀ s A A',J s A → Kept [] A A' → J s A') →
  (∀ pre x W1,J pre W1 → pre.length < xs.length → YieldAt Fence.wide 0 P l #[enc x] W1 fun e W'=>(e = .returned (.bool true) ∧ J (pre ++ [x]) W' ∧ KB w.heap.size W1 W') ∨ (e = .returned (.bool false) ∧ Jx (pre ++ [x]) W')) →
  J [] W → CallsIn Fence.wide 1 P g (#[.func (.yield l) #[] #[]] ++ lb) W fun e W'=>(∃ v,e = .returned v) ∧ (J xs W' ∨ ∃ pre,pre <+: xs ∧ Jx pre W')
def Zp9 {α : Type} (B : Nat) (I : List α → World → Prop) : Prop:=∀ s A (l : Nat) (o o' : Obj),I s A → B ≤ l → A.heap[l]? = some o → o.isCells = false → I s (A.putObj l o')
theorem ZhK (w : World) (o : Obj) : Kept [] w (w.alloc o):=by
 have hg:=World.grownBy_alloc w o none
 exact ⟨hg.os,hg.tape,hg.output,Nat.le_refl _,hg.size,fun k hk _=>hg.block k hk (by simp)⟩
variable {P : Program}
theorem ZoX {α : Type} {g : Operand} {p : Tmp} {assign body : Code} {Q : Exit → Act → World → Prop} {a : Act} {w : World}
  {gf : Nat} {lb : Array Value} (hg : a.eval g = .func (.func gf) #[] lb) (eg : Zq P gf)
  {enc : α → Value} {xs : List α} (hseq : ZrN P gf lb enc xs w)
  (I : List α → World → Prop) (Ix : Code → List α → World → Prop) (hI : ∀ s A A',I s A → Kept [] A A' → I s A') (hIp : Zp9 w.heap.size I) (hIx : ∀ c,Zp9 w.heap.size (Ix c)) (h0 : I [] w) (a₁ : α → Act)
  (hassign : ∀ (l : Nat) (x : α) (W : World) (K : Act → World → Prop),K (a₁ x) W →
   assign.wpIn (Fence.wide.inRound l) 0 P (Exit.then K (fun _ _ _=>False)) { tmps:=(#[p].zip #[enc x]).foldl (fun t (p,v)=>t.setIfInBounds p v) a.tmps,defers:=[] } W)
  (hbody : ∀ (l : Nat) (pre : List α) (x : α) (W : World),I pre W → pre.length < xs.length → body.wpIn (Fence.wide.inRound l) 0 P (ownPostK (KB w.heap.size) I Ix (pre ++ [x]) W) (a₁ x) W)
  (hdone : ∀ (D : Nat) (W : World),w.heap.size ≤ D → I xs W → W.heap[D]? = some (.deferred (some [])) → Q .normal { a with defers:={ target:= .collected D,args:=#[] } :: a.defers } W)
  (hstop : ∀ (D : Nat) (c : Code) (pre : List α) (W : World),w.heap.size ≤ D → pre <+: xs → Ix c pre W → W.heap[D]? = some (.deferred (some [])) → c.wpIn Fence.wide 2 P Q { a with defers:={ target:= .collected D,args:=#[] } :: a.defers } W) :
  (Code.rangeFunc g #[p] assign body).wpIn Fence.wide 2 P Q a w:=by
 refine wpIn_rangeFunc ?_
 intro fn hfn
 obtain ⟨rec,hrec⟩ : ∃ rec : LoopState → Option Code → Loop,rec = fun st pe=>{ state:=st,pending:=pe,fn,tmps:=a.tmps,params:=#[p],assign,body,defers:=w.heap.size }:=⟨_,rfl⟩
 obtain ⟨W1,hW1⟩ : ∃ W1,(w.alloc (.deferred (some []))).alloc (.loop (rec .ready none)) = W1:=⟨_,rfl⟩
 have hL1 : W1.heap[w.heap.size + 1]? = some (.loop (rec .ready none)):=by
  rw [← hW1]; have:=World.alloc_heap_new (w.alloc (.deferred (some []))) (.loop (rec .ready none)); rwa [World.size_alloc] at this
 have hK1 : W1.heap[w.heap.size]? = some (.deferred (some [])):=by
  rw [← hW1]; exact (Below.heap_alloc _ _ _ (by simp)).trans (World.alloc_heap_new w _)
 have hk1 : Kept [] w W1:=by rw [← hW1]; exact (ZhK w _).trans (ZhK _ _)
 have hI1 : I [] W1:=hI _ _ _ h0 hk1
 refine ⟨w.heap.size + 1,[{ target:= .collected w.heap.size,args:=#[] }],W1,{ target:= .fn (.func gf) lb,args:=#[.func (.yield (w.heap.size + 1)) #[] #[]] },W1,gf,
  #[.func (.yield (w.heap.size + 1)) #[] #[]] ++ lb,W1,?_,?_,?_,?_,Zmx (r:=none),?_⟩
 ·rw [← hW1,hrec]; exact run_enterLoop_outer _ _ _ _ _
 ·simp only [resolve,hg]
  simp [go_sem]
 ·intro f' hf'; trivial
 ·unfold Zq at eg
  simp [invoke,go_sem,eg]
 ·refine (hseq (w.heap.size + 1)
   (fun pre W=>I pre W ∧ W.heap[w.heap.size + 1]? = some (.loop (rec .ready none)) ∧ W.heap[w.heap.size]? = some (.deferred (some [])))
   (fun pre W=>∃ c,Ix c pre W ∧ W.heap[w.heap.size + 1]? = some (.loop (rec .done (some c))) ∧ W.heap[w.heap.size]? = some (.deferred (some [])))
   W1 hk1 (fun s A A' h k=>⟨hI _ _ _ h.1 k,(k.block _ (Array.getElem?_eq_some_iff.1 h.2.1).1 (by simp)).trans h.2.1,(k.block _ (Array.getElem?_eq_some_iff.1 h.2.2).1 (by simp)).trans h.2.2⟩) ?_ ⟨hI1,hL1,hK1⟩).mono ?_
  ·rintro pre x W ⟨hi,hl,hk⟩ hlen
   have hlt : w.heap.size + 1 < W.heap.size:=(Array.getElem?_eq_some_iff.1 hl).1
   have hy:=run_yield (P:=P) (args:=#[enc x]) hl (by rw [hrec]; rfl)
   rw [hrec] at hy
   refine ⟨fn,_,assign,body,hy,roundIn_of_wpIn hfn (hassign _ x W _ ⟨_,run_beginRound hl (by rw [hrec]),?_⟩)⟩
   have hl2 : (W.putObj (w.heap.size + 1) (.loop { rec .ready none with state:= .busy })).heap[w.heap.size + 1]? = some (.loop { rec .ready none with state:= .busy }):=World.putObj_heap_same hlt
   have hk2 : (W.putObj (w.heap.size + 1) (.loop { rec .ready none with state:= .busy })).heap[w.heap.size]? = some (.deferred (some [])):=(World.putObj_heap_other (by omega)).trans hk
   have hw2 : KB w.heap.size W (W.putObj (w.heap.size + 1) (.loop { rec .ready none with state:= .busy })):=KB.put _ _ _ _ (by omega) hl rfl rfl
   refine wpIn_mono (hbody _ pre x _ (hIp _ _ _ _ _ hi (by omega) hl rfl) hlen) ?_
   have fin : ∀ (jump : Option Code) (W3 : World),KeepsOthers (W.putObj (w.heap.size + 1) (.loop { rec .ready none with state:= .busy })) W3 →
     (Instr.endRound (w.heap.size + 1) jump).run P W3 = .ok (.bool jump.isNone) (W3.putObj (w.heap.size + 1) (.loop (rec (if jump.isNone then .ready else .done) jump))) ∧
     W3.heap[w.heap.size + 1]? = some (.loop { rec .ready none with state:= .busy }) ∧
     (W3.putObj (w.heap.size + 1) (.loop (rec (if jump.isNone then .ready else .done) jump))).heap[w.heap.size + 1]? = some (.loop (rec (if jump.isNone then .ready else .done) jump)) ∧
     (W3.putObj (w.heap.size + 1) (.loop (rec (if jump.isNone then .ready else .done) jump))).heap[w.heap.size]? = some (.deferred (some [])):=fun jump W3 hk3=>by
    have hl3:=hk3.same _ _ hl2 rfl
    have:=run_endRound (P:=P) jump hl3
    rw [hrec] at this ⊢
    exact ⟨this,by rw [hrec] at hl3; exact hl3,World.putObj_heap_same (Array.getElem?_eq_some_iff.1 hl3).1,(World.putObj_heap_other (by omega)).trans (hk3.same _ _ hk2 rfl)⟩
   rintro e a3 W3 hp
   cases e with
   | normal=>
    obtain ⟨hk3,hkp3,hi3⟩:=hp
    obtain ⟨hr,hl3,hl4,hk4⟩:=fin none W3 hk3
    exact ⟨_,_,hr, .inl ⟨rfl,⟨hIp _ _ _ _ _ hi3 (by omega) hl3 rfl,hl4,hk4⟩,(hw2.trans hkp3).trans (KB.put _ _ _ _ (by omega) hl3 rfl rfl)⟩⟩
   | ret=>
    obtain ⟨hk3,hi3⟩:=hp
    obtain ⟨hr,hl3,hl4,hk4⟩:=fin (some .ret) W3 hk3
    exact ⟨_,_,hr, .inr ⟨rfl, .ret,hIx _ _ _ _ _ _ hi3 (by omega) hl3 rfl,hl4,hk4⟩⟩
   | exit id=>
    obtain ⟨hk3,hi3⟩:=hp
    obtain ⟨hr,hl3,hl4,hk4⟩:=fin (some (.exit id)) W3 hk3
    exact ⟨_,_,hr, .inr ⟨rfl, .exit id,hIx _ _ _ _ _ _ hi3 (by omega) hl3 rfl,hl4,hk4⟩⟩
   | goto t=>
    obtain ⟨hk3,hi3⟩:=hp
    obtain ⟨hr,hl3,hl4,hk4⟩:=fin (some (.goto t)) W3 hk3
    exact ⟨_,_,hr, .inr ⟨rfl, .goto t,hIx _ _ _ _ _ _ hi3 (by omega) hl3 rfl,hl4,hk4⟩⟩
   | panic ch=>exact hp.elim
   | outgrown=>exact hp.elim
  ·rintro e W2 ⟨⟨v,rfl⟩,(⟨hi,hl,hk⟩ | ⟨pre,hSp,c,hi,hl,hk⟩)⟩
   ·exact ⟨none,_,by have:=run_endLoop (P:=P) hl (by rw [hrec]; simp); rw [hrec] at this; exact this,hdone _ _ (Nat.le_refl _) (hIp _ _ _ _ _ hi (by omega) hl rfl) ((World.putObj_heap_other (by omega)).trans hk)⟩
   ·exact ⟨some c,_,by have:=run_endLoop (P:=P) hl (by rw [hrec]; simp); rw [hrec] at this; exact this,hstop _ c pre _ (Nat.le_refl _) hSp (hIx _ _ _ _ _ _ hi (by omega) hl rfl) ((World.putObj_heap_other (by omega)).trans hk)⟩
theorem WY.at {N n : Nat} {c : Code} {Q : Exit → Env → World → Prop} {ρ : Env} {w : World} {a : Act} (h : WY P N none c Q ρ w) (ha : Fits N a ρ) : c.wpIn Fence.wide n P (up N Q) a w:=wpIn_wide.2 (wpIn_wide.1 (h a ha))
theorem WY.atR {N l : Nat} {c : Code} {Q : Exit → Env → World → Prop} {ρ : Env} {w : World} {a : Act} (h : WY P N (some l) c Q ρ w) (ha : Fits N a ρ) : c.wpIn (Fence.wide.inRound l) 0 P (up N Q) a w:=h a ha
theorem Zk2 {n : Nat} {ops : Array Oper} {o : Oper} {Q : Exit → Act → World → Prop} {a : Act} {ρ : Env} {w : World} {J : World → Prop} (hev : a.eval = ev ρ) (hd : o.dst = none) (hg : o.guard = none) (hs : ∀ c,o.op ≠ .defer c)
  (h : OW P ops o ρ w (fun _ w'=>J w')) (hQ : ∀ w',J w' → Q .normal a w') : wpListIn Fence.wide n P ops Q [o] a w:=by
 have h:=h.h
 refine wpListIn_plain hg fun K hK=>?_
 refine ⟨fun f _=>trivial,?_⟩
 rw [Oper.semAt_eq _ _ _ hs,hev]
 have hw : Region.wanted o (ZI ops ρ) = true:=by unfold Region.wanted; rw [hg]
 unfold oW at h
 rw [hw] at h
 simp only at h
 have hput : ∀ v,a.put o.dst v = a:=fun v=>by rw [hd]; rfl
 generalize (execOp (ev ρ) o).run P w = res at h
 cases res with
 | halt h' w=>exact h.elim
 | ok nx w'=>
  cases nx <;> simp only [Za6] at h <;> simp only [Oper.uponIn]
  case value v=>rw [hput]; exact hK _ _ (wpListIn_nil (hQ _ h))
  case skip=>rw [hput]; exact hK _ _ (wpListIn_nil (hQ _ h))
  case enter f args=>
   refine ⟨Zmx (r:=none),?_⟩
   refine (callsIn_wide.2 h).mono ?_
   rintro e w'' ⟨v,rfl,h2⟩
   show K (a.put o.dst v) w''
   rw [hput]
   exact hK _ _ (wpListIn_nil (hQ _ h2))
end Go.Civ
namespace Go.Civ
open Go.RowKit
section
variable {P : Program} {w0 w : World} {X : List Nat} {G0 G : GH} {L : Own}
theorem St.putObj (h : St w0 X G0 G L w) {l : Nat} {o : Obj} (o' : Obj) (hl : w.heap[l]? = some o) (hc : o.isCells = false) (h0 : w0.heap.size ≤ l) (hGl : G l = none) : St w0 X G0 G L (w.putObj l o'):=by
 have hg:=grownBy_putObj' w l o'
 have hne : ∀ k,k ≠ l → (w.putObj l o').heap[k]? = w.heap[k]? :=fun k hk=>World.putObj_heap_other hk
 refine ⟨⟨hg.os.trans h.kept.os,hg.tape.trans h.kept.tape,hg.output.trans h.kept.output,h.kept.drawn,Nat.le_trans h.kept.size hg.size,fun k hk hx=>?_⟩,h.le,h.new,fun b o2 hb=>?_,fun i p hp=>?_,h.sep,h.nd⟩
 ·rw [hne k (by omega)]; exact h.kept.block k hk hx
 ·rw [hne b (fun e=>by subst e; rw [hGl] at hb; cases hb)]; exact h.imm b o2 hb
 ·have hown:=h.own i p hp
  rw [hne p.1 (fun e=>by subst e; rw [hl] at hown; obtain rfl:=Option.some.inj hown; cases hc)]; exact hown
theorem St.step (h : St w0 X G0 G L w) {w' : World} (k : Kept [] w w') : St w0 X G0 G L w':=h.call ⟨k,G.le_refl,fun _ _=>rfl,k.imm h.imm⟩
theorem Kept.others1 {b : Nat} {W W' : World} {c : Array Value} {e : TypeId} {fz : Nat × Nat} (h : Kept [b] W W') (hb : W.heap[b]? = some (.cells c e fz)) : KeepsOthers W W':=
 ⟨h.size,fun k o hk ho=>(h.block k (Array.getElem?_eq_some_iff.1 hk).1 (by
  intro hm
  rw [List.mem_singleton.1 hm,hb] at hk
  obtain rfl:=Option.some.inj hk
  cases ho)).trans hk⟩
theorem Zmy {fn : Func} {N : Nat} {args : Array Value} (hN : fn.ntmps = N) (hle : Nat.ble args.size N = true) : Fits N { tmps:=args ++ Array.replicate (fn.ntmps - args.size) undef,defers:=[] } (fun t=>args.getD t undef):=by
 have hle' : args.size ≤ N:=by simpa using hle
 refine ⟨by simp [hN]; omega,fun t=>?_,rfl⟩
 simp only [Array.getD_eq_getD_getElem?,Array.getElem?_append,Array.getElem?_replicate,hN]
 split
 ·rfl
 ·rename_i hlt
  rw [Array.getElem?_eq_none (xs:=args) (by omega)]
  split <;> rfl
theorem Zk3 {N p d : Nat} {a : Act} {ρ : Env} {v : Value} (ha : Fits N a ρ) (hp : Nat.blt p N = true) (hd : Nat.blt d N = true) {id : Nat} {ty : TypeId} {pos : String} {af : Array Edge} {l : Nat} {W : World} {K : Act → World → Prop}
  (h : K ({ tmps:=(a.tmps.setIfInBounds p v).setIfInBounds d v,defers:=[] }) W) :
  (Code.region id [(⟨some d, .assign (.tmp p),ty,pos,af,none⟩ : Oper)].toArray false).wpIn (Fence.wide.inRound l) 0 P (Exit.then K (fun _ _ _=>False)) { tmps:=(#[p].zip #[v]).foldl (fun t (p,v)=>t.setIfInBounds p v) a.tmps,defers:=[] } W:=by
 have e : (#[p].zip #[v]).foldl (fun t (p,v)=>t.setIfInBounds p v) a.tmps = a.tmps.setIfInBounds p v:=by simp
 rw [e]
 refine wpIn_region_lit (wpListIn_plain rfl fun K' hK'=>⟨fun _ _=>trivial,?_⟩)
 rw [Oper.semAt_eq _ _ _ (by intro c h; cases h)]
 have hb:=ha.put hp v
 have hv : (a.tmps.setIfInBounds p v).getD p undef = v:=by
  have:=hb.get p
  simp only [Act.put,Yq] at this
  rw [this]; simp
 have e2 : ({ tmps:=a.tmps.setIfInBounds p v,defers:=[] } : Act).eval (.tmp p) = v:=hv
 simp only [execOp,Sem.run_pure,e2,Oper.uponIn,Act.put]
 exact hK' _ _ (wpListIn_nil h)
theorem Zmz {N p d : Nat} {a : Act} {ρ : Env} {v : Value} (ha : Fits N a ρ) (hp : Nat.blt p N = true) (hd : Nat.blt d N = true) : Fits N { tmps:=(a.tmps.setIfInBounds p v).setIfInBounds d v,defers:=[] } (Yq (Yq ρ p v) d v):=by
 have h1:=(ha.put hp v).put hd v
 exact ⟨h1.size,h1.get,rfl⟩
end
end Go.Civ
