/- Lemmas: Wj2. -/
import Derived.Test.YtjjkgobhlfmhhaaGreatR37
import Derived.Test.YtjjkgobhlfmhhaaGreatProg
import Derived.KernelRfl
import Derived.WalkKit
set_option linter.unusedVariables false
set_option linter.unusedSimpArgs false
set_option maxRecDepth 100000
set_option maxHeartbeats 4000000
namespace Go.Civ
open Go.Proofs
theorem c_meaning (d : Nat) : ∀ {G : GH} {w : World} (hG : G.In w) (c : Cond) (l : List Col) (v : List Val) (cc : List Value) (hcc : (CondE d).rep G c cc) (vl : Value) (hvl : Sl ColE 24 G vl l) (vv : Value) (hvv : Sl ValE 32 G vv v) (hwf : wellF d c) (hty : typedF d c l = 0) (hlv : v.length = l.length),CL Tryz.prog (nat_lit 114) #[.agg cc.toArray,vl,vv] [] w G fun _ _ r=>r = .bool (meanF d c l v):=by
 induction d
 ·intro G w hG c l v cc hcc vl hvl vv hvv hwf hty hlv; exact (CondE_zero hcc).elim
 rename_i d ih
 intro G w hG c l v cc hcc vl hvl vv hvv hwf hty hlv
 refine calls_of_go ft [] Tryz.func114 rfl rfl ?_
 have hS:=St.start (X:=[]) hG
 obtain ⟨lv1,rfl,hb1,hb2,hb3,hb4,hb5,hb6,ho1⟩:=CondE_step hcc
 refine WL.boxG [.int .i64 c.kind,strV c.col,strV c.oth, .int .i64 c.v.k, .int .i64 c.v.n,strV c.v.s,lv1] _ hS rfl rfl rfl (fun p1 w1 G1 hle1 hsp1 hc1 hS1=>?_)
 refine WL.loadG1 hS1 (Cells.drop 0 hc1) ti3 rfl rfl rfl ?_
 refine WL.eqlS c.kind 1 rfl rfl rfl (fun h1=>?_) (fun h1=>?_)
 ·refine WL.loadGAt hS1 (Cells.drop 3 hc1) [.int .i64 c.v.k, .int .i64 c.v.n,strV c.v.s] ti48 rfl rfl rfl rfl rfl ?_
  refine WL.alloc hS1 ti48 rfl rfl (fun b1 w2 hn1 hS2=>?_)
  refine WL.store hS2 0 _ _ _ 0 _ [.int .i64 c.v.k, .int .i64 c.v.n,strV c.v.s] [.int .i64 c.v.k, .int .i64 c.v.n,strV c.v.s] _ rfl rfl ti48 rfl (Nat.le_of_ble_eq_true rfl) rfl rfl rfl rfl rfl rfl (fun w3 hS3=>?_)
  have hf1:=findC_lt (l:=l) (nm:=c.col)
  have hf3:=typ_find (typed_own hty) (by exact .inl (by assumption))
  refine WL.loadG1 hS3 (Cells.drop 2 hc1) ti9 rfl rfl rfl <| WL.strCmp .neq rfl c.oth [] rfl rfl rfl ?_
  refine WL.split (fun h0=>?_) (fun h0=>?_)
  ·have h2 : c.oth ≠ []:=by simpa [SCmp.b] using h0
   clear h0
   have hf2:=findC_lt (l:=l) (nm:=c.oth)
   have hf4:=hf3.2 (by assumption)
   refine WL.loadG1 hS3 (Cells.drop 2 hc1) ti9 rfl rfl rfl ?_
   refine WL.cV hS3 hb128 rfl rfl rfl (c_find hS3.imm l c.oth _ (hvl.mono hle1)) (fun w4 G2 hS4 hle2=>?_)
   refine WL.indexAddr (hvv.mono (hle1.trans hle2)) (((findC l c.oth)).toNat) (by omega) ul36 ti48 rfl rfl rfl (congrArg (Value.int .i64) (Int.toNat_of_nonneg (by omega)).symm) (fun p2 x1 hx1 he1=>?_)
   obtain ⟨cs1,hc2,hr1⟩:=he1
   obtain ⟨rfl,hb7,hb8,hb9⟩:=ValE_open hr1
   refine WL.loadGAt hS4 hc2 [.int .i64 x1.k, .int .i64 x1.n,strV x1.s] ti48 rfl rfl rfl rfl rfl ?_
   refine WL.store hS4 0 _ _ _ 0 _ [.int .i64 x1.k, .int .i64 x1.n,strV x1.s] [.int .i64 x1.k, .int .i64 x1.n,strV x1.s] _ rfl rfl ti48 rfl (Nat.le_of_ble_eq_true rfl) rfl rfl rfl rfl rfl rfl (fun w5 hS5=>?_)
   obtain ⟨p3,x2,hx2,he2,ep1⟩:=Sl.at (hvv.mono (hle1.trans hle2)) (((findC l c.col)).toNat) (by omega)
   obtain ⟨cs2,hc3,hr2⟩:=he2
   obtain ⟨rfl,hb10,hb11,hb12⟩:=ValE_open hr2
   refine dr [(9,false)] [(29,strV c.col),(30, .int .i64 (findC l c.col)),(31, .pointer (some p3)),(32, .agg #[.int .i64 x2.k, .int .i64 x2.n,strV x2.s]),(33, .agg #[.int .i64 x1.k, .int .i64 x1.n,strV x1.s]),(34, .int .i64 (cmpV x2 x1))] hS5 ⟨fun _ hSw=>WL.loadG1 hSw (Cells.drop 1 (hc1.mono hle2)) ti9 rfl rfl rfl <| nu rfl rfl,fun _ hSw=>WL.callD hSw hb128 rfl rfl rfl (c_find hSw.imm l c.col _ (hvl.mono (hle1.trans hle2))) rfl,fun _=>WL.indexAddrP (((findC l c.col)).toNat) ep1 ul36 ti48 rfl rfl rfl (congrArg (Value.int .i64) (Int.toNat_of_nonneg (by omega)).symm) <| nu rfl rfl,fun _ hSw=>WL.loadGAt hSw hc3 [.int .i64 x2.k, .int .i64 x2.n,strV x2.s] ti48 rfl rfl rfl rfl rfl <| nu rfl rfl,fun _ hSw=>WL.loadOA hSw 0 _ _ _ 0 [.int .i64 x1.k, .int .i64 x1.n,strV x1.s] rfl rfl rfl ti48 rfl rfl rfl <| nu rfl rfl,fun _ hSw=>WL.callD hSw hb118 rfl rfl rfl (c_order hSw.imm x2 x1 _ (ValE_mk x2 hb10 hb11 hb12) _ (ValE_mk x1 hb7 hb8 hb9)) rfl,trivial⟩ (fun w6 hS6=>?_)
   refine WL.eqlS (cmpV x2 x1) 0 rfl rfl rfl (fun h3=>?_) (fun h3=>?_)
   ·refine WL.loadG1 hS6 (Cells.drop 0 (hc1.mono hle2)) ti3 rfl rfl rfl ?_
    refine WL.eqlS c.kind 1 rfl rfl rfl (fun h4=>?_) (fun h4=>?_)
    ·exact RB hS6 rfl (by (rw [mean_cmp (by first | exact .inl (by assumption) | exact .inr (by assumption)),cmpM_o (by assumption) (by assumption) (by assumption)]; simp_all [Cmp.b]; done))
    refine WL.lssS (cmpV x2 x1) 0 rfl rfl rfl (fun h5=>?_) (fun h5=>?_)
    ·refine WL.loadG1 hS6 (Cells.drop 0 (hc1.mono hle2)) ti3 rfl rfl rfl <| WL.cmp .eql rfl .i64 c.kind 2 rfl rfl rfl ?_
     exact RB hS6 rfl (by (rw [mean_cmp (by first | exact .inl (by assumption) | exact .inr (by assumption)),cmpM_o (by assumption) (by assumption) (by assumption)]; simp_all [Cmp.b]; done))
    exact RB hS6 rfl (by (rw [mean_cmp (by first | exact .inl (by assumption) | exact .inr (by assumption)),cmpM_o (by assumption) (by assumption) (by assumption)]; simp_all [Cmp.b]; done))
   refine WL.lssS (cmpV x2 x1) 0 rfl rfl rfl (fun h6=>?_) (fun h6=>?_)
   ·refine WL.loadG1 hS6 (Cells.drop 0 (hc1.mono hle2)) ti3 rfl rfl rfl <| WL.cmp .eql rfl .i64 c.kind 2 rfl rfl rfl ?_
    exact RB hS6 rfl (by (rw [mean_cmp (by first | exact .inl (by assumption) | exact .inr (by assumption)),cmpM_o (by assumption) (by assumption) (by assumption)]; simp_all [Cmp.b]; done))
   exact RB hS6 rfl (by (rw [mean_cmp (by first | exact .inl (by assumption) | exact .inr (by assumption)),cmpM_o (by assumption) (by assumption) (by assumption)]; simp_all [Cmp.b]; done))
  have h2 : c.oth = []:=by simpa [SCmp.b] using h0
  clear h0
  obtain ⟨p4,x3,hx3,he3,ep2⟩:=Sl.at (hvv.mono hle1) (((findC l c.col)).toNat) (by omega)
  obtain ⟨cs3,hc4,hr3⟩:=he3
  obtain ⟨rfl,hb13,hb14,hb15⟩:=ValE_open hr3
  refine dr [(9,false)] [(29,strV c.col),(30, .int .i64 (findC l c.col)),(31, .pointer (some p4)),(32, .agg #[.int .i64 x3.k, .int .i64 x3.n,strV x3.s]),(33, .agg #[.int .i64 c.v.k, .int .i64 c.v.n,strV c.v.s]),(34, .int .i64 (cmpV x3 c.v))] hS3 ⟨fun _ hSw=>WL.loadG1 hSw (Cells.drop 1 hc1) ti9 rfl rfl rfl <| nu rfl rfl,fun _ hSw=>WL.callD hSw hb128 rfl rfl rfl (c_find hSw.imm l c.col _ (hvl.mono hle1)) rfl,fun _=>WL.indexAddrP (((findC l c.col)).toNat) ep2 ul36 ti48 rfl rfl rfl (congrArg (Value.int .i64) (Int.toNat_of_nonneg (by omega)).symm) <| nu rfl rfl,fun _ hSw=>WL.loadGAt hSw hc4 [.int .i64 x3.k, .int .i64 x3.n,strV x3.s] ti48 rfl rfl rfl rfl rfl <| nu rfl rfl,fun _ hSw=>WL.loadOA hSw 0 _ _ _ 0 [.int .i64 c.v.k, .int .i64 c.v.n,strV c.v.s] rfl rfl rfl ti48 rfl rfl rfl <| nu rfl rfl,fun _ hSw=>WL.callD hSw hb118 rfl rfl rfl (c_order hSw.imm x3 c.v _ (ValE_mk x3 hb13 hb14 hb15) _ (ValE_mk c.v hb4 hb5 hb6)) rfl,trivial⟩ (fun w7 hS7=>?_)
  refine WL.eqlS (cmpV x3 c.v) 0 rfl rfl rfl (fun h7=>?_) (fun h7=>?_)
  ·refine WL.loadG1 hS7 (Cells.drop 0 hc1) ti3 rfl rfl rfl ?_
   refine WL.eqlS c.kind 1 rfl rfl rfl (fun h8=>?_) (fun h8=>?_)
   ·exact RB hS7 rfl (by (rw [mean_cmp (by first | exact .inl (by assumption) | exact .inr (by assumption)),cmpM_v (by assumption) (by assumption)]; simp_all [Cmp.b]; done))
   refine WL.lssS (cmpV x3 c.v) 0 rfl rfl rfl (fun h9=>?_) (fun h9=>?_)
   ·refine WL.loadG1 hS7 (Cells.drop 0 hc1) ti3 rfl rfl rfl <| WL.cmp .eql rfl .i64 c.kind 2 rfl rfl rfl ?_
    exact RB hS7 rfl (by (rw [mean_cmp (by first | exact .inl (by assumption) | exact .inr (by assumption)),cmpM_v (by assumption) (by assumption)]; simp_all [Cmp.b]; done))
   exact RB hS7 rfl (by (rw [mean_cmp (by first | exact .inl (by assumption) | exact .inr (by assumption)),cmpM_v (by assumption) (by assumption)]; simp_all [Cmp.b]; done))
  refine WL.lssS (cmpV x3 c.v) 0 rfl rfl rfl (fun h10=>?_) (fun h10=>?_)
  ·refine WL.loadG1 hS7 (Cells.drop 0 hc1) ti3 rfl rfl rfl <| WL.cmp .eql rfl .i64 c.kind 2 rfl rfl rfl ?_
   exact RB hS7 rfl (by (rw [mean_cmp (by first | exact .inl (by assumption) | exact .inr (by assumption)),cmpM_v (by assumption) (by assumption)]; simp_all [Cmp.b]; done))
  exact RB hS7 rfl (by (rw [mean_cmp (by first | exact .inl (by assumption) | exact .inr (by assumption)),cmpM_v (by assumption) (by assumption)]; simp_all [Cmp.b]; done))
 refine WL.eqlS c.kind 2 rfl rfl rfl (fun h11=>?_) (fun h11=>?_)
 ·refine WL.loadGAt hS1 (Cells.drop 3 hc1) [.int .i64 c.v.k, .int .i64 c.v.n,strV c.v.s] ti48 rfl rfl rfl rfl rfl ?_
  refine WL.alloc hS1 ti48 rfl rfl (fun b2 w9 hn2 hS8=>?_)
  refine WL.store hS8 0 _ _ _ 0 _ [.int .i64 c.v.k, .int .i64 c.v.n,strV c.v.s] [.int .i64 c.v.k, .int .i64 c.v.n,strV c.v.s] _ rfl rfl ti48 rfl (Nat.le_of_ble_eq_true rfl) rfl rfl rfl rfl rfl rfl (fun w10 hS9=>?_)
  have hf1:=findC_lt (l:=l) (nm:=c.col)
  have hf3:=typ_find (typed_own hty) (by exact .inr (by assumption))
  refine WL.loadG1 hS9 (Cells.drop 2 hc1) ti9 rfl rfl rfl <| WL.strCmp .neq rfl c.oth [] rfl rfl rfl ?_
  refine WL.split (fun h0=>?_) (fun h0=>?_)
  ·have h12 : c.oth ≠ []:=by simpa [SCmp.b] using h0
   clear h0
   have hf2:=findC_lt (l:=l) (nm:=c.oth)
   have hf4:=hf3.2 (by assumption)
   refine WL.loadG1 hS9 (Cells.drop 2 hc1) ti9 rfl rfl rfl ?_
   refine WL.cV hS9 hb128 rfl rfl rfl (c_find hS9.imm l c.oth _ (hvl.mono hle1)) (fun w11 G3 hS10 hle3=>?_)
   refine WL.indexAddr (hvv.mono (hle1.trans hle3)) (((findC l c.oth)).toNat) (by omega) ul36 ti48 rfl rfl rfl (congrArg (Value.int .i64) (Int.toNat_of_nonneg (by omega)).symm) (fun p5 x4 hx4 he4=>?_)
   obtain ⟨cs4,hc5,hr4⟩:=he4
   obtain ⟨rfl,hb16,hb17,hb18⟩:=ValE_open hr4
   refine WL.loadGAt hS10 hc5 [.int .i64 x4.k, .int .i64 x4.n,strV x4.s] ti48 rfl rfl rfl rfl rfl ?_
   refine WL.store hS10 0 _ _ _ 0 _ [.int .i64 x4.k, .int .i64 x4.n,strV x4.s] [.int .i64 x4.k, .int .i64 x4.n,strV x4.s] _ rfl rfl ti48 rfl (Nat.le_of_ble_eq_true rfl) rfl rfl rfl rfl rfl rfl (fun w12 hS11=>?_)
   obtain ⟨p6,x5,hx5,he5,ep3⟩:=Sl.at (hvv.mono (hle1.trans hle3)) (((findC l c.col)).toNat) (by omega)
   obtain ⟨cs5,hc6,hr5⟩:=he5
   obtain ⟨rfl,hb19,hb20,hb21⟩:=ValE_open hr5
   refine dr [(9,false)] [(29,strV c.col),(30, .int .i64 (findC l c.col)),(31, .pointer (some p6)),(32, .agg #[.int .i64 x5.k, .int .i64 x5.n,strV x5.s]),(33, .agg #[.int .i64 x4.k, .int .i64 x4.n,strV x4.s]),(34, .int .i64 (cmpV x5 x4))] hS11 ⟨fun _ hSw=>WL.loadG1 hSw (Cells.drop 1 (hc1.mono hle3)) ti9 rfl rfl rfl <| nu rfl rfl,fun _ hSw=>WL.callD hSw hb128 rfl rfl rfl (c_find hSw.imm l c.col _ (hvl.mono (hle1.trans hle3))) rfl,fun _=>WL.indexAddrP (((findC l c.col)).toNat) ep3 ul36 ti48 rfl rfl rfl (congrArg (Value.int .i64) (Int.toNat_of_nonneg (by omega)).symm) <| nu rfl rfl,fun _ hSw=>WL.loadGAt hSw hc6 [.int .i64 x5.k, .int .i64 x5.n,strV x5.s] ti48 rfl rfl rfl rfl rfl <| nu rfl rfl,fun _ hSw=>WL.loadOA hSw 0 _ _ _ 0 [.int .i64 x4.k, .int .i64 x4.n,strV x4.s] rfl rfl rfl ti48 rfl rfl rfl <| nu rfl rfl,fun _ hSw=>WL.callD hSw hb118 rfl rfl rfl (c_order hSw.imm x5 x4 _ (ValE_mk x5 hb19 hb20 hb21) _ (ValE_mk x4 hb16 hb17 hb18)) rfl,trivial⟩ (fun w13 hS12=>?_)
   refine WL.eqlS (cmpV x5 x4) 0 rfl rfl rfl (fun h13=>?_) (fun h13=>?_)
   ·refine WL.loadG1 hS12 (Cells.drop 0 (hc1.mono hle3)) ti3 rfl rfl rfl ?_
    refine WL.eqlS c.kind 1 rfl rfl rfl (fun h14=>?_) (fun h14=>?_)
    ·exact RB hS12 rfl (by (rw [mean_cmp (by first | exact .inl (by assumption) | exact .inr (by assumption)),cmpM_o (by assumption) (by assumption) (by assumption)]; simp_all [Cmp.b]; done))
    refine WL.lssS (cmpV x5 x4) 0 rfl rfl rfl (fun h15=>?_) (fun h15=>?_)
    ·refine WL.loadG1 hS12 (Cells.drop 0 (hc1.mono hle3)) ti3 rfl rfl rfl <| WL.cmp .eql rfl .i64 c.kind 2 rfl rfl rfl ?_
     exact RB hS12 rfl (by (rw [mean_cmp (by first | exact .inl (by assumption) | exact .inr (by assumption)),cmpM_o (by assumption) (by assumption) (by assumption)]; simp_all [Cmp.b]; done))
    exact RB hS12 rfl (by (rw [mean_cmp (by first | exact .inl (by assumption) | exact .inr (by assumption)),cmpM_o (by assumption) (by assumption) (by assumption)]; simp_all [Cmp.b]; done))
   refine WL.lssS (cmpV x5 x4) 0 rfl rfl rfl (fun h16=>?_) (fun h16=>?_)
   ·refine WL.loadG1 hS12 (Cells.drop 0 (hc1.mono hle3)) ti3 rfl rfl rfl <| WL.cmp .eql rfl .i64 c.kind 2 rfl rfl rfl ?_
    exact RB hS12 rfl (by (rw [mean_cmp (by first | exact .inl (by assumption) | exact .inr (by assumption)),cmpM_o (by assumption) (by assumption) (by assumption)]; simp_all [Cmp.b]; done))
   exact RB hS12 rfl (by (rw [mean_cmp (by first | exact .inl (by assumption) | exact .inr (by assumption)),cmpM_o (by assumption) (by assumption) (by assumption)]; simp_all [Cmp.b]; done))
  have h12 : c.oth = []:=by simpa [SCmp.b] using h0
  clear h0
  obtain ⟨p7,x6,hx6,he6,ep4⟩:=Sl.at (hvv.mono hle1) (((findC l c.col)).toNat) (by omega)
  obtain ⟨cs6,hc7,hr6⟩:=he6
  obtain ⟨rfl,hb22,hb23,hb24⟩:=ValE_open hr6
  refine dr [(9,false)] [(29,strV c.col),(30, .int .i64 (findC l c.col)),(31, .pointer (some p7)),(32, .agg #[.int .i64 x6.k, .int .i64 x6.n,strV x6.s]),(33, .agg #[.int .i64 c.v.k, .int .i64 c.v.n,strV c.v.s]),(34, .int .i64 (cmpV x6 c.v))] hS9 ⟨fun _ hSw=>WL.loadG1 hSw (Cells.drop 1 hc1) ti9 rfl rfl rfl <| nu rfl rfl,fun _ hSw=>WL.callD hSw hb128 rfl rfl rfl (c_find hSw.imm l c.col _ (hvl.mono hle1)) rfl,fun _=>WL.indexAddrP (((findC l c.col)).toNat) ep4 ul36 ti48 rfl rfl rfl (congrArg (Value.int .i64) (Int.toNat_of_nonneg (by omega)).symm) <| nu rfl rfl,fun _ hSw=>WL.loadGAt hSw hc7 [.int .i64 x6.k, .int .i64 x6.n,strV x6.s] ti48 rfl rfl rfl rfl rfl <| nu rfl rfl,fun _ hSw=>WL.loadOA hSw 0 _ _ _ 0 [.int .i64 c.v.k, .int .i64 c.v.n,strV c.v.s] rfl rfl rfl ti48 rfl rfl rfl <| nu rfl rfl,fun _ hSw=>WL.callD hSw hb118 rfl rfl rfl (c_order hSw.imm x6 c.v _ (ValE_mk x6 hb22 hb23 hb24) _ (ValE_mk c.v hb4 hb5 hb6)) rfl,trivial⟩ (fun w14 hS13=>?_)
  refine WL.eqlS (cmpV x6 c.v) 0 rfl rfl rfl (fun h17=>?_) (fun h17=>?_)
  ·refine WL.loadG1 hS13 (Cells.drop 0 hc1) ti3 rfl rfl rfl ?_
   refine WL.eqlS c.kind 1 rfl rfl rfl (fun h18=>?_) (fun h18=>?_)
   ·exact RB hS13 rfl (by (rw [mean_cmp (by first | exact .inl (by assumption) | exact .inr (by assumption)),cmpM_v (by assumption) (by assumption)]; simp_all [Cmp.b]; done))
   refine WL.lssS (cmpV x6 c.v) 0 rfl rfl rfl (fun h19=>?_) (fun h19=>?_)
   ·refine WL.loadG1 hS13 (Cells.drop 0 hc1) ti3 rfl rfl rfl <| WL.cmp .eql rfl .i64 c.kind 2 rfl rfl rfl ?_
    exact RB hS13 rfl (by (rw [mean_cmp (by first | exact .inl (by assumption) | exact .inr (by assumption)),cmpM_v (by assumption) (by assumption)]; simp_all [Cmp.b]; done))
   exact RB hS13 rfl (by (rw [mean_cmp (by first | exact .inl (by assumption) | exact .inr (by assumption)),cmpM_v (by assumption) (by assumption)]; simp_all [Cmp.b]; done))
  refine WL.lssS (cmpV x6 c.v) 0 rfl rfl rfl (fun h20=>?_) (fun h20=>?_)
  ·refine WL.loadG1 hS13 (Cells.drop 0 hc1) ti3 rfl rfl rfl <| WL.cmp .eql rfl .i64 c.kind 2 rfl rfl rfl ?_
   exact RB hS13 rfl (by (rw [mean_cmp (by first | exact .inl (by assumption) | exact .inr (by assumption)),cmpM_v (by assumption) (by assumption)]; simp_all [Cmp.b]; done))
  exact RB hS13 rfl (by (rw [mean_cmp (by first | exact .inl (by assumption) | exact .inr (by assumption)),cmpM_v (by assumption) (by assumption)]; simp_all [Cmp.b]; done))
 refine WL.eqlS c.kind 4 rfl rfl rfl (fun h21=>?_) (fun h21=>?_)
 ·have hal:=well_4 hwf (by assumption)
  refine WL.loadG1 hS1 (Cells.drop 6 hc1) ti49 rfl rfl rfl ?_
  refine WL.indexAddr (ho1.mono hle1) 0 (by omega) ul49 ti51 rfl rfl rfl rfl (fun p8 x7 hx7 he7=>?_)
  obtain ⟨cs7,hc8,hr7⟩:=he7
  obtain ⟨lv2,rfl,hb25,hb26,hb27,hb28,hb29,hb30,ho2⟩:=CondE_open hr7
  refine WL.loadGAt hS1 hc8 [.int .i64 x7.kind,strV x7.col,strV x7.oth, .int .i64 x7.v.k, .int .i64 x7.v.n,strV x7.v.s,lv2] ti51 rfl rfl rfl rfl rfl ?_
  refine WL.cV hS1 hb114 rfl rfl rfl (ih hS1.imm x7 l v _ hr7 _ (hvl.mono hle1) _ (hvv.mono hle1) (hwf.2 _ (List.mem_of_getElem? (by assumption))) (typed_child hty (List.mem_of_getElem? (by assumption))) (by assumption)) (fun w15 G4 hS14 hle4=>?_)
  exact RB hS14 rfl (by (rw [mean_4 (by assumption) (by assumption)]; done))
 refine WL.eqlS c.kind 5 rfl rfl rfl (fun h22=>?_) (fun h22=>?_)
 ·have hal:=well_5 hwf (by assumption)
  refine WL.loadG1 hS1 (Cells.drop 6 hc1) ti49 rfl rfl rfl ?_
  refine WL.indexAddr (ho1.mono hle1) 0 (by omega) ul49 ti51 rfl rfl rfl rfl (fun p9 x9 hx8 he8=>?_)
  obtain ⟨cs8,hc9,hr8⟩:=he8
  obtain ⟨lv3,rfl,hb31,hb32,hb33,hb34,hb35,hb36,ho3⟩:=CondE_open hr8
  refine WL.loadGAt hS1 hc9 [.int .i64 x9.kind,strV x9.col,strV x9.oth, .int .i64 x9.v.k, .int .i64 x9.v.n,strV x9.v.s,lv3] ti51 rfl rfl rfl rfl rfl ?_
  refine WL.cV hS1 hb114 rfl rfl rfl (ih hS1.imm x9 l v _ hr8 _ (hvl.mono hle1) _ (hvv.mono hle1) (hwf.2 _ (List.mem_of_getElem? (by assumption))) (typed_child hty (List.mem_of_getElem? (by assumption))) (by assumption)) (fun w16 G5 hS15 hle5=>?_)
  refine WL.split (fun (h23 : (meanF d x9 l v) = true)=>?_) (fun (h23 : (meanF d x9 l v) = false)=>?_)
  ·refine WL.loadG1 hS15 (Cells.drop 6 (hc1.mono hle5)) ti49 rfl rfl rfl ?_
   refine WL.indexAddr (ho1.mono (hle1.trans hle5)) 1 (by omega) ul49 ti51 rfl rfl rfl rfl (fun p10 x10 hx9 he9=>?_)
   obtain ⟨cs9,hc10,hr9⟩:=he9
   obtain ⟨lv4,rfl,hb37,hb38,hb39,hb40,hb41,hb42,ho4⟩:=CondE_open hr9
   refine WL.loadGAt hS15 hc10 [.int .i64 x10.kind,strV x10.col,strV x10.oth, .int .i64 x10.v.k, .int .i64 x10.v.n,strV x10.v.s,lv4] ti51 rfl rfl rfl rfl rfl ?_
   refine WL.cV hS15 hb114 rfl rfl rfl (ih hS15.imm x10 l v _ hr9 _ (hvl.mono (hle1.trans hle5)) _ (hvv.mono (hle1.trans hle5)) (hwf.2 _ (List.mem_of_getElem? (by assumption))) (typed_child hty (List.mem_of_getElem? (by assumption))) (by assumption)) (fun w17 G6 hS16 hle6=>?_)
   exact RB hS16 rfl (by (rw [mean_5 (by assumption) (by assumption) (by assumption)]; simp_all; done))
  exact RB hS15 rfl (by exact (mean_5f (by assumption) (by assumption) hal (by assumption)).symm)
 refine WL.eqlS c.kind 6 rfl rfl rfl (fun h24=>?_) (fun h24=>?_)
 ·have hal:=well_6 hwf (by assumption)
  refine WL.loadG1 hS1 (Cells.drop 6 hc1) ti49 rfl rfl rfl ?_
  refine WL.indexAddr (ho1.mono hle1) 0 (by omega) ul49 ti51 rfl rfl rfl rfl (fun p11 x11 hx10 he10=>?_)
  obtain ⟨cs10,hc11,hr10⟩:=he10
  obtain ⟨lv5,rfl,hb43,hb44,hb45,hb46,hb47,hb48,ho5⟩:=CondE_open hr10
  refine WL.loadGAt hS1 hc11 [.int .i64 x11.kind,strV x11.col,strV x11.oth, .int .i64 x11.v.k, .int .i64 x11.v.n,strV x11.v.s,lv5] ti51 rfl rfl rfl rfl rfl ?_
  refine WL.cV hS1 hb114 rfl rfl rfl (ih hS1.imm x11 l v _ hr10 _ (hvl.mono hle1) _ (hvv.mono hle1) (hwf.2 _ (List.mem_of_getElem? (by assumption))) (typed_child hty (List.mem_of_getElem? (by assumption))) (by assumption)) (fun w18 G7 hS17 hle7=>?_)
  refine WL.split (fun (h25 : (meanF d x11 l v) = true)=>?_) (fun (h25 : (meanF d x11 l v) = false)=>?_)
  ·exact RB hS17 rfl (by exact (mean_6t (by assumption) (by assumption) hal (by assumption)).symm)
  refine WL.loadG1 hS17 (Cells.drop 6 (hc1.mono hle7)) ti49 rfl rfl rfl ?_
  refine WL.indexAddr (ho1.mono (hle1.trans hle7)) 1 (by omega) ul49 ti51 rfl rfl rfl rfl (fun p12 x12 hx11 he11=>?_)
  obtain ⟨cs11,hc12,hr11⟩:=he11
  obtain ⟨lv6,rfl,hb49,hb50,hb51,hb52,hb53,hb54,ho6⟩:=CondE_open hr11
  refine WL.loadGAt hS17 hc12 [.int .i64 x12.kind,strV x12.col,strV x12.oth, .int .i64 x12.v.k, .int .i64 x12.v.n,strV x12.v.s,lv6] ti51 rfl rfl rfl rfl rfl ?_
  refine WL.cV hS17 hb114 rfl rfl rfl (ih hS17.imm x12 l v _ hr11 _ (hvl.mono (hle1.trans hle7)) _ (hvv.mono (hle1.trans hle7)) (hwf.2 _ (List.mem_of_getElem? (by assumption))) (typed_child hty (List.mem_of_getElem? (by assumption))) (by assumption)) (fun w19 G9 hS18 hle9=>?_)
  exact RB hS18 rfl (by (rw [mean_6 (by assumption) (by assumption) (by assumption)]; simp_all; done))
 exact RB hS1 rfl (by exact (mean_t (by assumption) (by assumption) (by assumption) (by assumption) (by assumption)).symm)
end Go.Civ
