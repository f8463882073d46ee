/- Lemmas: Wj1. -/
import Derived.Test.YtjjkgobhlfmhhaaGreatU30
import Derived.Test.YtjjkgobhlfmhhaaGreatProg
import Derived.KernelRfl
import Derived.WalkKit
set_option linter.unusedVariables false
set_option linter.unusedSimpArgs false
set_option maxRecDepth 100000
set_option maxHeartbeats 4000000
namespace Go.Civ
open Go.Proofs
theorem c_plain (d : Nat) : ∀ {G : GH} {w : World} (hG : G.In w) (c : Cond) (cc : List Value) (hcc : (CondE d).rep G c cc),CL Tryz.prog (nat_lit 232) #[.agg cc.toArray] [] w G fun _ _ r=>r = .bool (plainB c):=by
 induction d
 ·intro G w hG c cc hcc; exact (CondE_zero hcc).elim
 rename_i d ih
 intro G w hG c cc hcc
 refine calls_of_go ft [] Tryz.func232 rfl rfl ?_
 have hS:=St.start (X:=[]) hG
 obtain ⟨lv1,rfl,hb1,hb2,hb3,hb4,hb5,hb6,ho1⟩:=CondE_step hcc
 refine WL.boxG [.int .i64 c.kind,strV c.col,strV c.oth, .int .i64 c.v.k, .int .i64 c.v.n,strV c.v.s,lv1] _ hS rfl rfl rfl (fun p1 w1 G1 hle1 hsp1 hc1 hS1=>?_)
 refine WL.loadGAt hS1 (Cells.drop 3 hc1) [.int .i64 c.v.k, .int .i64 c.v.n,strV c.v.s] ti48 rfl rfl rfl rfl rfl <| WL.build _ [] [.int .i64 0, .int .i64 0,strV []] ti48 rfl fl48 rfl rfl rfl rfl <| WL.aggEq (ValEq48 c.v (Val.mk 0 0 [])) eqg48 rfl rfl rfl ?_
 refine WL.split (fun (h1 : (decide (c.v = (Val.mk 0 0 []))) = true)=>?_) (fun (h1 : (decide (c.v = (Val.mk 0 0 []))) = false)=>?_)
 ·refine WL.loadG1 hS1 (Cells.drop 0 hc1) ti3 rfl rfl rfl ?_
  refine WL.eqlS c.kind 1 rfl rfl rfl (fun h2=>?_) (fun h2=>?_)
  ·refine WL.loadG1 hS1 (Cells.drop 1 hc1) ti9 rfl rfl rfl <| WL.strCmp .neq rfl c.col [] rfl rfl rfl ?_
   refine WL.split (fun h0=>?_) (fun h0=>?_)
   ·have h3 : c.col ≠ []:=by simpa [SCmp.b] using h0
    clear h0
    refine WL.loadG1 hS1 (Cells.drop 6 hc1) ti49 rfl rfl rfl ?_
    have bd1:=ho1.bound
    refine WL.lenSl (ho1.mono hle1) ul49 rfl rfl ?_
    refine WL.eqlS (c.l.length : Int) 0 rfl rfl rfl (fun h4=>?_) (fun h4=>?_)
    ·refine WL.loadG1 hS1 (Cells.drop 2 hc1) ti9 rfl rfl rfl <| WL.strCmp .eql rfl c.oth [] rfl rfl rfl ?_
     refine WL.split (fun h0=>?_) (fun h0=>?_)
     ·have h5 : c.oth = []:=by simpa [SCmp.b] using h0
      clear h0
      refine WL.loadGAt hS1 (Cells.drop 3 hc1) [.int .i64 c.v.k, .int .i64 c.v.n,strV c.v.s] ti48 rfl rfl rfl rfl rfl ?_
      refine WL.cV hS1 hb136 rfl rfl rfl (c_rValid hS1.imm c.v _ (ValE_mk c.v hb4 hb5 hb6)) (fun w2 G2 hS2 hle2=>?_)
      refine WL.split (fun (h6 : (valB c.v) = true)=>?_) (fun (h6 : (valB c.v) = false)=>?_)
      ·exact RB hS2 rfl (by unfold plainB isCmp isOp arity; (simp_all [Cmp.b,SCmp.b]; done))
      refine WL.loadG1 hS2 (Cells.drop 2 (hc1.mono hle2)) ti9 rfl rfl rfl <| WL.strCmp .neq rfl c.oth [] rfl rfl rfl ?_
      refine WL.split (fun h0=>?_) (fun h0=>?_)
      ·have h7 : c.oth ≠ []:=by simpa [SCmp.b] using h0
       clear h0
       exact RB hS2 rfl (by unfold plainB isCmp isOp arity; (simp_all [Cmp.b,SCmp.b]; done))
      have h7 : c.oth = []:=by simpa [SCmp.b] using h0
      clear h0
      exact RB hS2 rfl (by unfold plainB isCmp isOp arity; (simp_all [Cmp.b,SCmp.b]; done))
     have h5 : c.oth ≠ []:=by simpa [SCmp.b] using h0
     clear h0
     refine WL.loadG1 hS1 (Cells.drop 2 hc1) ti9 rfl rfl rfl <| WL.strCmp .neq rfl c.oth [] rfl rfl rfl ?_
     refine WL.split (fun h0=>?_) (fun h0=>?_)
     ·have h8 : c.oth ≠ []:=by simpa [SCmp.b] using h0
      clear h0
      exact RB hS1 rfl (by unfold plainB isCmp isOp arity; (simp_all [Cmp.b,SCmp.b]; done))
     have h8 : c.oth = []:=by simpa [SCmp.b] using h0
     clear h0
     exact RB hS1 rfl (by unfold plainB isCmp isOp arity; (simp_all [Cmp.b,SCmp.b]; done))
    exact RB hS1 rfl (by unfold plainB isCmp isOp arity; (simp_all [Cmp.b,SCmp.b]; done))
   have h3 : c.col = []:=by simpa [SCmp.b] using h0
   clear h0
   exact RB hS1 rfl (by unfold plainB isCmp isOp arity; (simp_all [Cmp.b,SCmp.b]; done))
  refine WL.eqlS c.kind 2 rfl rfl rfl (fun h9=>?_) (fun h9=>?_)
  ·refine WL.loadG1 hS1 (Cells.drop 1 hc1) ti9 rfl rfl rfl <| WL.strCmp .neq rfl c.col [] rfl rfl rfl ?_
   refine WL.split (fun h0=>?_) (fun h0=>?_)
   ·have h10 : c.col ≠ []:=by simpa [SCmp.b] using h0
    clear h0
    refine WL.loadG1 hS1 (Cells.drop 6 hc1) ti49 rfl rfl rfl ?_
    have bd2:=ho1.bound
    refine WL.lenSl (ho1.mono hle1) ul49 rfl rfl ?_
    refine WL.eqlS (c.l.length : Int) 0 rfl rfl rfl (fun h11=>?_) (fun h11=>?_)
    ·refine WL.loadG1 hS1 (Cells.drop 2 hc1) ti9 rfl rfl rfl <| WL.strCmp .eql rfl c.oth [] rfl rfl rfl ?_
     refine WL.split (fun h0=>?_) (fun h0=>?_)
     ·have h12 : c.oth = []:=by simpa [SCmp.b] using h0
      clear h0
      refine WL.loadGAt hS1 (Cells.drop 3 hc1) [.int .i64 c.v.k, .int .i64 c.v.n,strV c.v.s] ti48 rfl rfl rfl rfl rfl ?_
      refine WL.cV hS1 hb136 rfl rfl rfl (c_rValid hS1.imm c.v _ (ValE_mk c.v hb4 hb5 hb6)) (fun w3 G3 hS3 hle3=>?_)
      refine WL.split (fun (h13 : (valB c.v) = true)=>?_) (fun (h13 : (valB c.v) = false)=>?_)
      ·exact RB hS3 rfl (by unfold plainB isCmp isOp arity; (simp_all [Cmp.b,SCmp.b]; done))
      refine WL.loadG1 hS3 (Cells.drop 2 (hc1.mono hle3)) ti9 rfl rfl rfl <| WL.strCmp .neq rfl c.oth [] rfl rfl rfl ?_
      refine WL.split (fun h0=>?_) (fun h0=>?_)
      ·have h14 : c.oth ≠ []:=by simpa [SCmp.b] using h0
       clear h0
       exact RB hS3 rfl (by unfold plainB isCmp isOp arity; (simp_all [Cmp.b,SCmp.b]; done))
      have h14 : c.oth = []:=by simpa [SCmp.b] using h0
      clear h0
      exact RB hS3 rfl (by unfold plainB isCmp isOp arity; (simp_all [Cmp.b,SCmp.b]; done))
     have h12 : c.oth ≠ []:=by simpa [SCmp.b] using h0
     clear h0
     refine WL.loadG1 hS1 (Cells.drop 2 hc1) ti9 rfl rfl rfl <| WL.strCmp .neq rfl c.oth [] rfl rfl rfl ?_
     refine WL.split (fun h0=>?_) (fun h0=>?_)
     ·have h15 : c.oth ≠ []:=by simpa [SCmp.b] using h0
      clear h0
      exact RB hS1 rfl (by unfold plainB isCmp isOp arity; (simp_all [Cmp.b,SCmp.b]; done))
     have h15 : c.oth = []:=by simpa [SCmp.b] using h0
     clear h0
     exact RB hS1 rfl (by unfold plainB isCmp isOp arity; (simp_all [Cmp.b,SCmp.b]; done))
    exact RB hS1 rfl (by unfold plainB isCmp isOp arity; (simp_all [Cmp.b,SCmp.b]; done))
   have h10 : c.col = []:=by simpa [SCmp.b] using h0
   clear h0
   exact RB hS1 rfl (by unfold plainB isCmp isOp arity; (simp_all [Cmp.b,SCmp.b]; done))
  refine WL.eqlS c.kind 3 rfl rfl rfl (fun h16=>?_) (fun h16=>?_)
  ·refine WL.loadG1 hS1 (Cells.drop 1 hc1) ti9 rfl rfl rfl <| WL.strCmp .eql rfl c.col [] rfl rfl rfl ?_
   refine WL.split (fun h0=>?_) (fun h0=>?_)
   ·have h17 : c.col = []:=by simpa [SCmp.b] using h0
    clear h0
    refine WL.loadG1 hS1 (Cells.drop 2 hc1) ti9 rfl rfl rfl <| WL.strCmp .eql rfl c.oth [] rfl rfl rfl ?_
    refine WL.split (fun h0=>?_) (fun h0=>?_)
    ·have h18 : c.oth = []:=by simpa [SCmp.b] using h0
     clear h0
     refine WL.loadG1 hS1 (Cells.drop 6 hc1) ti49 rfl rfl rfl ?_
     have bd3:=ho1.bound
     refine WL.lenSl (ho1.mono hle1) ul49 rfl rfl <| WL.cmp .eql rfl .i64 (c.l.length : Int) 0 rfl rfl rfl ?_
     exact RB hS1 rfl (by unfold plainB isCmp isOp arity; (simp_all [Cmp.b,SCmp.b]; rw [Bool.eq_iff_iff]; simp [List.length_eq_zero_iff]; done))
    have h18 : c.oth ≠ []:=by simpa [SCmp.b] using h0
    clear h0
    exact RB hS1 rfl (by unfold plainB isCmp isOp arity; (simp_all [Cmp.b,SCmp.b]; done))
   have h17 : c.col ≠ []:=by simpa [SCmp.b] using h0
   clear h0
   exact RB hS1 rfl (by unfold plainB isCmp isOp arity; (simp_all [Cmp.b,SCmp.b]; done))
  refine WL.eqlS c.kind 4 rfl rfl rfl (fun h19=>?_) (fun h19=>?_)
  ·refine WL.loadG1 hS1 (Cells.drop 1 hc1) ti9 rfl rfl rfl <| WL.strCmp .eql rfl c.col [] rfl rfl rfl ?_
   refine WL.split (fun h0=>?_) (fun h0=>?_)
   ·have h20 : c.col = []:=by simpa [SCmp.b] using h0
    clear h0
    refine WL.loadG1 hS1 (Cells.drop 2 hc1) ti9 rfl rfl rfl <| WL.strCmp .eql rfl c.oth [] rfl rfl rfl ?_
    refine WL.split (fun h0=>?_) (fun h0=>?_)
    ·have h21 : c.oth = []:=by simpa [SCmp.b] using h0
     clear h0
     refine WL.loadG1 hS1 (Cells.drop 6 hc1) ti49 rfl rfl rfl ?_
     have bd4:=ho1.bound
     refine WL.lenSl (ho1.mono hle1) ul49 rfl rfl <| WL.cmp .eql rfl .i64 (c.l.length : Int) 1 rfl rfl rfl ?_
     exact RB hS1 rfl (by unfold plainB isCmp isOp arity; (simp_all [Cmp.b,SCmp.b]; rw [Bool.eq_iff_iff]; simp; omega))
    have h21 : c.oth ≠ []:=by simpa [SCmp.b] using h0
    clear h0
    exact RB hS1 rfl (by unfold plainB isCmp isOp arity; (simp_all [Cmp.b,SCmp.b]; done))
   have h20 : c.col ≠ []:=by simpa [SCmp.b] using h0
   clear h0
   exact RB hS1 rfl (by unfold plainB isCmp isOp arity; (simp_all [Cmp.b,SCmp.b]; done))
  refine WL.eqlS c.kind 5 rfl rfl rfl (fun h22=>?_) (fun h22=>?_)
  ·refine WL.loadG1 hS1 (Cells.drop 1 hc1) ti9 rfl rfl rfl <| WL.strCmp .eql rfl c.col [] rfl rfl rfl ?_
   refine WL.split (fun h0=>?_) (fun h0=>?_)
   ·have h23 : c.col = []:=by simpa [SCmp.b] using h0
    clear h0
    refine WL.loadG1 hS1 (Cells.drop 2 hc1) ti9 rfl rfl rfl <| WL.strCmp .eql rfl c.oth [] rfl rfl rfl ?_
    refine WL.split (fun h0=>?_) (fun h0=>?_)
    ·have h24 : c.oth = []:=by simpa [SCmp.b] using h0
     clear h0
     refine WL.loadG1 hS1 (Cells.drop 6 hc1) ti49 rfl rfl rfl ?_
     have bd5:=ho1.bound
     refine WL.lenSl (ho1.mono hle1) ul49 rfl rfl <| WL.cmp .eql rfl .i64 (c.l.length : Int) 2 rfl rfl rfl ?_
     exact RB hS1 rfl (by unfold plainB isCmp isOp arity; (simp_all [Cmp.b,SCmp.b]; rw [Bool.eq_iff_iff]; simp; omega))
    have h24 : c.oth ≠ []:=by simpa [SCmp.b] using h0
    clear h0
    exact RB hS1 rfl (by unfold plainB isCmp isOp arity; (simp_all [Cmp.b,SCmp.b]; done))
   have h23 : c.col ≠ []:=by simpa [SCmp.b] using h0
   clear h0
   exact RB hS1 rfl (by unfold plainB isCmp isOp arity; (simp_all [Cmp.b,SCmp.b]; done))
  refine WL.eqlS c.kind 6 rfl rfl rfl (fun h25=>?_) (fun h25=>?_)
  ·refine WL.loadG1 hS1 (Cells.drop 1 hc1) ti9 rfl rfl rfl <| WL.strCmp .eql rfl c.col [] rfl rfl rfl ?_
   refine WL.split (fun h0=>?_) (fun h0=>?_)
   ·have h26 : c.col = []:=by simpa [SCmp.b] using h0
    clear h0
    refine WL.loadG1 hS1 (Cells.drop 2 hc1) ti9 rfl rfl rfl <| WL.strCmp .eql rfl c.oth [] rfl rfl rfl ?_
    refine WL.split (fun h0=>?_) (fun h0=>?_)
    ·have h27 : c.oth = []:=by simpa [SCmp.b] using h0
     clear h0
     refine WL.loadG1 hS1 (Cells.drop 6 hc1) ti49 rfl rfl rfl ?_
     have bd6:=ho1.bound
     refine WL.lenSl (ho1.mono hle1) ul49 rfl rfl <| WL.cmp .eql rfl .i64 (c.l.length : Int) 2 rfl rfl rfl ?_
     exact RB hS1 rfl (by unfold plainB isCmp isOp arity; (simp_all [Cmp.b,SCmp.b]; rw [Bool.eq_iff_iff]; simp; omega))
    have h27 : c.oth ≠ []:=by simpa [SCmp.b] using h0
    clear h0
    exact RB hS1 rfl (by unfold plainB isCmp isOp arity; (simp_all [Cmp.b,SCmp.b]; done))
   have h26 : c.col ≠ []:=by simpa [SCmp.b] using h0
   clear h0
   exact RB hS1 rfl (by unfold plainB isCmp isOp arity; (simp_all [Cmp.b,SCmp.b]; done))
  exact RB hS1 rfl (by unfold plainB isCmp isOp arity; (simp_all [Cmp.b,SCmp.b]; done))
 refine WL.loadG1 hS1 (Cells.drop 0 hc1) ti3 rfl rfl rfl ?_
 refine WL.eqlS c.kind 1 rfl rfl rfl (fun h28=>?_) (fun h28=>?_)
 ·refine WL.loadG1 hS1 (Cells.drop 1 hc1) ti9 rfl rfl rfl <| WL.strCmp .neq rfl c.col [] rfl rfl rfl ?_
  refine WL.split (fun h0=>?_) (fun h0=>?_)
  ·have h29 : c.col ≠ []:=by simpa [SCmp.b] using h0
   clear h0
   refine WL.loadG1 hS1 (Cells.drop 6 hc1) ti49 rfl rfl rfl ?_
   have bd7:=ho1.bound
   refine WL.lenSl (ho1.mono hle1) ul49 rfl rfl ?_
   refine WL.eqlS (c.l.length : Int) 0 rfl rfl rfl (fun h30=>?_) (fun h30=>?_)
   ·refine WL.loadG1 hS1 (Cells.drop 2 hc1) ti9 rfl rfl rfl <| WL.strCmp .eql rfl c.oth [] rfl rfl rfl ?_
    refine WL.split (fun h0=>?_) (fun h0=>?_)
    ·have h31 : c.oth = []:=by simpa [SCmp.b] using h0
     clear h0
     refine WL.loadGAt hS1 (Cells.drop 3 hc1) [.int .i64 c.v.k, .int .i64 c.v.n,strV c.v.s] ti48 rfl rfl rfl rfl rfl ?_
     refine WL.cV hS1 hb136 rfl rfl rfl (c_rValid hS1.imm c.v _ (ValE_mk c.v hb4 hb5 hb6)) (fun w4 G4 hS4 hle4=>?_)
     refine WL.split (fun (h32 : (valB c.v) = true)=>?_) (fun (h32 : (valB c.v) = false)=>?_)
     ·exact RB hS4 rfl (by unfold plainB isCmp isOp arity; (simp_all [Cmp.b,SCmp.b]; done))
     refine WL.loadG1 hS4 (Cells.drop 2 (hc1.mono hle4)) ti9 rfl rfl rfl <| WL.strCmp .neq rfl c.oth [] rfl rfl rfl ?_
     refine WL.split (fun h0=>?_) (fun h0=>?_)
     ·have h33 : c.oth ≠ []:=by simpa [SCmp.b] using h0
      clear h0
      exact RB hS4 rfl (by unfold plainB isCmp isOp arity; (simp_all [Cmp.b,SCmp.b]; done))
     have h33 : c.oth = []:=by simpa [SCmp.b] using h0
     clear h0
     exact RB hS4 rfl (by unfold plainB isCmp isOp arity; (simp_all [Cmp.b,SCmp.b]; done))
    have h31 : c.oth ≠ []:=by simpa [SCmp.b] using h0
    clear h0
    refine WL.loadG1 hS1 (Cells.drop 2 hc1) ti9 rfl rfl rfl <| WL.strCmp .neq rfl c.oth [] rfl rfl rfl ?_
    refine WL.split (fun h0=>?_) (fun h0=>?_)
    ·have h34 : c.oth ≠ []:=by simpa [SCmp.b] using h0
     clear h0
     exact RB hS1 rfl (by unfold plainB isCmp isOp arity; (simp_all [Cmp.b,SCmp.b]; done))
    have h34 : c.oth = []:=by simpa [SCmp.b] using h0
    clear h0
    exact RB hS1 rfl (by unfold plainB isCmp isOp arity; (simp_all [Cmp.b,SCmp.b]; done))
   exact RB hS1 rfl (by unfold plainB isCmp isOp arity; (simp_all [Cmp.b,SCmp.b]; done))
  have h29 : c.col = []:=by simpa [SCmp.b] using h0
  clear h0
  exact RB hS1 rfl (by unfold plainB isCmp isOp arity; (simp_all [Cmp.b,SCmp.b]; done))
 refine WL.eqlS c.kind 2 rfl rfl rfl (fun h35=>?_) (fun h35=>?_)
 ·refine WL.loadG1 hS1 (Cells.drop 1 hc1) ti9 rfl rfl rfl <| WL.strCmp .neq rfl c.col [] rfl rfl rfl ?_
  refine WL.split (fun h0=>?_) (fun h0=>?_)
  ·have h36 : c.col ≠ []:=by simpa [SCmp.b] using h0
   clear h0
   refine WL.loadG1 hS1 (Cells.drop 6 hc1) ti49 rfl rfl rfl ?_
   have bd8:=ho1.bound
   refine WL.lenSl (ho1.mono hle1) ul49 rfl rfl ?_
   refine WL.eqlS (c.l.length : Int) 0 rfl rfl rfl (fun h37=>?_) (fun h37=>?_)
   ·refine WL.loadG1 hS1 (Cells.drop 2 hc1) ti9 rfl rfl rfl <| WL.strCmp .eql rfl c.oth [] rfl rfl rfl ?_
    refine WL.split (fun h0=>?_) (fun h0=>?_)
    ·have h38 : c.oth = []:=by simpa [SCmp.b] using h0
     clear h0
     refine WL.loadGAt hS1 (Cells.drop 3 hc1) [.int .i64 c.v.k, .int .i64 c.v.n,strV c.v.s] ti48 rfl rfl rfl rfl rfl ?_
     refine WL.cV hS1 hb136 rfl rfl rfl (c_rValid hS1.imm c.v _ (ValE_mk c.v hb4 hb5 hb6)) (fun w5 G5 hS5 hle5=>?_)
     refine WL.split (fun (h39 : (valB c.v) = true)=>?_) (fun (h39 : (valB c.v) = false)=>?_)
     ·exact RB hS5 rfl (by unfold plainB isCmp isOp arity; (simp_all [Cmp.b,SCmp.b]; done))
     refine WL.loadG1 hS5 (Cells.drop 2 (hc1.mono hle5)) ti9 rfl rfl rfl <| WL.strCmp .neq rfl c.oth [] rfl rfl rfl ?_
     refine WL.split (fun h0=>?_) (fun h0=>?_)
     ·have h40 : c.oth ≠ []:=by simpa [SCmp.b] using h0
      clear h0
      exact RB hS5 rfl (by unfold plainB isCmp isOp arity; (simp_all [Cmp.b,SCmp.b]; done))
     have h40 : c.oth = []:=by simpa [SCmp.b] using h0
     clear h0
     exact RB hS5 rfl (by unfold plainB isCmp isOp arity; (simp_all [Cmp.b,SCmp.b]; done))
    have h38 : c.oth ≠ []:=by simpa [SCmp.b] using h0
    clear h0
    refine WL.loadG1 hS1 (Cells.drop 2 hc1) ti9 rfl rfl rfl <| WL.strCmp .neq rfl c.oth [] rfl rfl rfl ?_
    refine WL.split (fun h0=>?_) (fun h0=>?_)
    ·have h41 : c.oth ≠ []:=by simpa [SCmp.b] using h0
     clear h0
     exact RB hS1 rfl (by unfold plainB isCmp isOp arity; (simp_all [Cmp.b,SCmp.b]; done))
    have h41 : c.oth = []:=by simpa [SCmp.b] using h0
    clear h0
    exact RB hS1 rfl (by unfold plainB isCmp isOp arity; (simp_all [Cmp.b,SCmp.b]; done))
   exact RB hS1 rfl (by unfold plainB isCmp isOp arity; (simp_all [Cmp.b,SCmp.b]; done))
  have h36 : c.col = []:=by simpa [SCmp.b] using h0
  clear h0
  exact RB hS1 rfl (by unfold plainB isCmp isOp arity; (simp_all [Cmp.b,SCmp.b]; done))
 refine WL.eqlS c.kind 3 rfl rfl rfl (fun h42=>?_) (fun h42=>?_)
 ·refine WL.loadG1 hS1 (Cells.drop 1 hc1) ti9 rfl rfl rfl <| WL.strCmp .eql rfl c.col [] rfl rfl rfl ?_
  refine WL.split (fun h0=>?_) (fun h0=>?_)
  ·have h43 : c.col = []:=by simpa [SCmp.b] using h0
   clear h0
   refine WL.loadG1 hS1 (Cells.drop 2 hc1) ti9 rfl rfl rfl <| WL.strCmp .eql rfl c.oth [] rfl rfl rfl ?_
   refine WL.split (fun h0=>?_) (fun h0=>?_)
   ·have h44 : c.oth = []:=by simpa [SCmp.b] using h0
    clear h0
    exact RB hS1 rfl (by unfold plainB isCmp isOp arity; (simp_all [Cmp.b,SCmp.b]; done))
   have h44 : c.oth ≠ []:=by simpa [SCmp.b] using h0
   clear h0
   exact RB hS1 rfl (by unfold plainB isCmp isOp arity; (simp_all [Cmp.b,SCmp.b]; done))
  have h43 : c.col ≠ []:=by simpa [SCmp.b] using h0
  clear h0
  exact RB hS1 rfl (by unfold plainB isCmp isOp arity; (simp_all [Cmp.b,SCmp.b]; done))
 refine WL.eqlS c.kind 4 rfl rfl rfl (fun h45=>?_) (fun h45=>?_)
 ·refine WL.loadG1 hS1 (Cells.drop 1 hc1) ti9 rfl rfl rfl <| WL.strCmp .eql rfl c.col [] rfl rfl rfl ?_
  refine WL.split (fun h0=>?_) (fun h0=>?_)
  ·have h46 : c.col = []:=by simpa [SCmp.b] using h0
   clear h0
   refine WL.loadG1 hS1 (Cells.drop 2 hc1) ti9 rfl rfl rfl <| WL.strCmp .eql rfl c.oth [] rfl rfl rfl ?_
   refine WL.split (fun h0=>?_) (fun h0=>?_)
   ·have h47 : c.oth = []:=by simpa [SCmp.b] using h0
    clear h0
    exact RB hS1 rfl (by unfold plainB isCmp isOp arity; (simp_all [Cmp.b,SCmp.b]; done))
   have h47 : c.oth ≠ []:=by simpa [SCmp.b] using h0
   clear h0
   exact RB hS1 rfl (by unfold plainB isCmp isOp arity; (simp_all [Cmp.b,SCmp.b]; done))
  have h46 : c.col ≠ []:=by simpa [SCmp.b] using h0
  clear h0
  exact RB hS1 rfl (by unfold plainB isCmp isOp arity; (simp_all [Cmp.b,SCmp.b]; done))
 refine WL.eqlS c.kind 5 rfl rfl rfl (fun h48=>?_) (fun h48=>?_)
 ·refine WL.loadG1 hS1 (Cells.drop 1 hc1) ti9 rfl rfl rfl <| WL.strCmp .eql rfl c.col [] rfl rfl rfl ?_
  refine WL.split (fun h0=>?_) (fun h0=>?_)
  ·have h49 : c.col = []:=by simpa [SCmp.b] using h0
   clear h0
   refine WL.loadG1 hS1 (Cells.drop 2 hc1) ti9 rfl rfl rfl <| WL.strCmp .eql rfl c.oth [] rfl rfl rfl ?_
   refine WL.split (fun h0=>?_) (fun h0=>?_)
   ·have h50 : c.oth = []:=by simpa [SCmp.b] using h0
    clear h0
    exact RB hS1 rfl (by unfold plainB isCmp isOp arity; (simp_all [Cmp.b,SCmp.b]; done))
   have h50 : c.oth ≠ []:=by simpa [SCmp.b] using h0
   clear h0
   exact RB hS1 rfl (by unfold plainB isCmp isOp arity; (simp_all [Cmp.b,SCmp.b]; done))
  have h49 : c.col ≠ []:=by simpa [SCmp.b] using h0
  clear h0
  exact RB hS1 rfl (by unfold plainB isCmp isOp arity; (simp_all [Cmp.b,SCmp.b]; done))
 refine WL.eqlS c.kind 6 rfl rfl rfl (fun h51=>?_) (fun h51=>?_)
 ·refine WL.loadG1 hS1 (Cells.drop 1 hc1) ti9 rfl rfl rfl <| WL.strCmp .eql rfl c.col [] rfl rfl rfl ?_
  refine WL.split (fun h0=>?_) (fun h0=>?_)
  ·have h52 : c.col = []:=by simpa [SCmp.b] using h0
   clear h0
   refine WL.loadG1 hS1 (Cells.drop 2 hc1) ti9 rfl rfl rfl <| WL.strCmp .eql rfl c.oth [] rfl rfl rfl ?_
   refine WL.split (fun h0=>?_) (fun h0=>?_)
   ·have h53 : c.oth = []:=by simpa [SCmp.b] using h0
    clear h0
    exact RB hS1 rfl (by unfold plainB isCmp isOp arity; (simp_all [Cmp.b,SCmp.b]; done))
   have h53 : c.oth ≠ []:=by simpa [SCmp.b] using h0
   clear h0
   exact RB hS1 rfl (by unfold plainB isCmp isOp arity; (simp_all [Cmp.b,SCmp.b]; done))
  have h52 : c.col ≠ []:=by simpa [SCmp.b] using h0
  clear h0
  exact RB hS1 rfl (by unfold plainB isCmp isOp arity; (simp_all [Cmp.b,SCmp.b]; done))
 exact RB hS1 rfl (by unfold plainB isCmp isOp arity; (simp_all [Cmp.b,SCmp.b]; done))
theorem c_nodes (d : Nat) : ∀ {G : GH} {w : World} (hG : G.In w) (c : Cond) (dep : Int) (cc : List Value) (hcc : (CondE d).rep G c cc) (hdep : 0 ≤ dep ∧ dep ≤ 13),CL Tryz.prog (nat_lit 217) #[.agg cc.toArray, .int .i64 dep] [] w G fun _ _ r=>r = .int .i64 (nodesF d c dep):=by
 induction d
 ·intro G w hG c dep cc hcc hdep; exact (CondE_zero hcc).elim
 rename_i d ih
 intro G w hG c dep cc hcc hdep
 refine calls_of_go ft [] Tryz.func217 rfl rfl ?_
 have hdep64 : I64 dep:=⟨by omega,by omega⟩
 have hS:=St.start (X:=[]) hG
 obtain ⟨lv1,rfl,hb1,hb2,hb3,hb4,hb5,hb6,ho1⟩:=CondE_step hcc
 refine WL.boxG [.int .i64 c.kind,strV c.col,strV c.oth, .int .i64 c.v.k, .int .i64 c.v.n,strV c.v.s,lv1] _ hS rfl rfl rfl (fun p1 w1 G1 hle1 hsp1 hc1 hS1=>?_)
 refine WL.gtrS dep 12 rfl rfl rfl (fun h1=>?_) (fun h1=>?_)
 ·exact RI hS1 rfl (by exact (nodes_1 (by assumption)).symm)
 refine WL.loadGAt hS1 hc1 [.int .i64 c.kind,strV c.col,strV c.oth, .int .i64 c.v.k, .int .i64 c.v.n,strV c.v.s,lv1] ti51 rfl rfl rfl rfl rfl ?_
 refine WL.cV hS1 hb232 rfl rfl rfl (c_plain _ hS1.imm c _ ((CondE _).mono hle1 hcc)) (fun w2 G2 hS2 hle2=>?_)
 refine WL.split (fun (h2 : (plainB c) = true)=>?_) (fun (h2 : (plainB c) = false)=>?_)
 ·refine LP.go ft [] (fun m ρ1 w1=>∃ (k1 : Nat),∃ (nn : Int),∃ (G3 : GH),m = c.l.length - k1 ∧ G2.le G3 ∧ St w [] G G3 [] w1 ∧ FR ρ1 [(1, .int .i64 dep),(2, .pointer (some p1)),(5, .int .i64 nn),(6, .int .i64 (k1 : Int))] ∧ k1 ≤ c.l.length ∧ nn = nodesL (fun x=>nodesF d x (dep + 1)) (c.l.take k1) 1 ∧ 1 ≤ nn ∧ nn ≤ 61 + 60 * (13 - dep)) _ ⟨0,1,G2,rfl,(G2.le_refl),hS2,⟨rfl,rfl,rfl,rfl,trivial⟩,(by omega),(by rfl),(by omega)⟩ ?_
  rintro m ρ1 w3 ⟨k1,nn,G3,rfl,hle3,hS3,hF9,f1,f2,f3⟩
  refine hF9.set ?_
  clear hF9
  have hnn64 : I64 nn:=⟨by omega,by omega⟩
  refine WL.loadG1 hS3 (Cells.drop 6 (hc1.mono (hle2.trans hle3))) ti49 rfl rfl rfl ?_
  have bd1:=ho1.bound
  refine WL.lenSl (ho1.mono ((hle1.trans hle2).trans hle3)) ul49 rfl rfl ?_
  refine WL.lssS (k1 : Int) (c.l.length : Int) rfl rfl rfl (fun h3=>?_) (fun h3=>?_)
  ·refine WL.leqS nn 60 rfl rfl rfl (fun h4=>?_) (fun h4=>?_)
   ·refine WL.loadG1 hS3 (Cells.drop 6 (hc1.mono (hle2.trans hle3))) ti49 rfl rfl rfl ?_
    refine WL.indexAddr (ho1.mono ((hle1.trans hle2).trans hle3)) k1 (by omega) ul49 ti51 rfl rfl rfl rfl (fun p2 x1 hx1 he1=>?_)
    obtain ⟨cs1,hc2,hr1⟩:=he1
    obtain ⟨lv2,rfl,hb7,hb8,hb9,hb10,hb11,hb12,ho2⟩:=CondE_open hr1
    refine WL.loadGAt hS3 hc2 [.int .i64 x1.kind,strV x1.col,strV x1.oth, .int .i64 x1.v.k, .int .i64 x1.v.n,strV x1.v.s,lv2] ti51 rfl rfl rfl rfl rfl ?_
    have hi1 : I64 (dep + 1):=by have:=hdep64.1; have:=hdep64.2; constructor <;> omega
    refine WL.ar .add rfl dep 1 rfl rfl rfl hi1 ?_
    refine WL.cV hS3 hb217 rfl rfl rfl (ih hS3.imm x1 (dep + 1) _ hr1 (by omega)) (fun w4 G4 hS4 hle4=>?_)
    have hi2 : I64 (nn + (nodesF d x1 (dep + 1))):=by have:=hnn64.1; have:=hnn64.2; have:=(nodesF_b d x1 (dep + 1) (by omega)).1; have:=(nodesF_b d x1 (dep + 1) (by omega)).2; constructor <;> omega
    refine WL.ar .add rfl nn (nodesF d x1 (dep + 1)) rfl rfl rfl hi2 ?_
    refine WL.incr k1 (by have hreach : reach = 140737488355328:=rfl; omega) rfl rfl rfl ?_
    exact BK.mk' _ ⟨k1 + 1,(nn + (nodesF d x1 (dep + 1))),G4,rfl,(hle3.trans hle4),hS4,⟨rfl,rfl,rfl,rfl,trivial⟩,(by omega),(by exact nodesL_take (by assumption) (by assumption) (by omega)),(by have h9:=nodesF_b d x1 (dep + 1) (by omega); omega)⟩ (show c.l.length - (k1 + 1) < c.l.length - k1 by omega)
   exact RI hS3 rfl (by exact (nodes_3 (by omega) (by assumption) (by assumption) (.inr (by omega))).symm)
  exact RI hS3 rfl (by exact (nodes_3 (by omega) (by assumption) (by assumption) (.inl (by omega))).symm)
 exact RI hS2 rfl (by exact (nodes_2 (by omega) (by assumption)).symm)
theorem c_rFormed {G : GH} {w : World} (hG : G.In w) (d : Nat) (c : Cond) (cc : List Value) (hcc : (CondE d).rep G c cc) : CL Tryz.prog (nat_lit 193) #[.agg cc.toArray] [] w G fun _ _ r=>r = .bool (decide (nodesF d c 1 ≤ 60)):=by
 refine calls_of_go ft [] Tryz.func193 rfl rfl ?_
 have hS:=St.start (X:=[]) hG
 obtain ⟨lv1,rfl,hb1,hb2,hb3,hb4,hb5,hb6,ho1⟩:=CondE_open hcc
 refine WL.boxG [.int .i64 c.kind,strV c.col,strV c.oth, .int .i64 c.v.k, .int .i64 c.v.n,strV c.v.s,lv1] _ hS rfl rfl rfl (fun p1 w1 G1 hle1 hsp1 hc1 hS1=>?_)
 refine WL.loadGAt hS1 hc1 [.int .i64 c.kind,strV c.col,strV c.oth, .int .i64 c.v.k, .int .i64 c.v.n,strV c.v.s,lv1] ti51 rfl rfl rfl rfl rfl ?_
 refine WL.cV hS1 hb217 rfl rfl rfl (c_nodes _ hS1.imm c 1 _ ((CondE _).mono hle1 hcc) (by omega)) (fun w2 G2 hS2 hle2=>?_)
 refine WL.cmp .leq rfl .i64 (nodesF d c 1) 60 rfl rfl rfl ?_
 exact RB hS2 rfl (by simp [Cmp.b])
theorem c_rCheck33 {G : GH} {w : World} (hG : G.In w) (d : Nat) (c : Cond) (l : List Col) (cc : List Value) (hcc : (CondE d).rep G c cc) (vl : Value) (hvl : Sl ColE 24 G vl l) : CL Tryz.prog (nat_lit 167) #[.agg cc.toArray,vl] [] w G fun _ _ r=>r = .int .i64 (checkF d c l):=by
 refine calls_of_go ft [] Tryz.func167 rfl rfl ?_
 have hS:=St.start (X:=[]) hG
 obtain ⟨lv1,rfl,hb1,hb2,hb3,hb4,hb5,hb6,ho1⟩:=CondE_open hcc
 refine WL.boxG [.int .i64 c.kind,strV c.col,strV c.oth, .int .i64 c.v.k, .int .i64 c.v.n,strV c.v.s,lv1] _ hS rfl rfl rfl (fun p1 w1 G1 hle1 hsp1 hc1 hS1=>?_)
 refine WL.loadGAt hS1 hc1 [.int .i64 c.kind,strV c.col,strV c.oth, .int .i64 c.v.k, .int .i64 c.v.n,strV c.v.s,lv1] ti51 rfl rfl rfl rfl rfl ?_
 refine WL.cV hS1 hb193 rfl rfl rfl (c_rFormed hS1.imm _ c _ ((CondE _).mono hle1 hcc)) (fun w2 G2 hS2 hle2=>?_)
 refine WL.split (fun (h1 : (decide (nodesF d c 1 ≤ 60)) = true)=>?_) (fun (h1 : (decide (nodesF d c 1 ≤ 60)) = false)=>?_)
 ·refine WL.loadGAt hS2 (hc1.mono hle2) [.int .i64 c.kind,strV c.col,strV c.oth, .int .i64 c.v.k, .int .i64 c.v.n,strV c.v.s,lv1] ti51 rfl rfl rfl rfl rfl ?_
  refine WL.cV hS2 hb194 rfl rfl rfl (c_rtyped _ hS2.imm c l _ ((CondE _).mono (hle1.trans hle2) hcc) _ (hvl.mono (hle1.trans hle2))) (fun w3 G3 hS3 hle3=>?_)
  exact RI hS3 rfl (by unfold checkF; exact (if_pos (of_decide_eq_true (by assumption))).symm)
 exact RI hS2 rfl (by unfold checkF; exact (if_neg (of_decide_eq_false (by assumption))).symm)
end Go.Civ
