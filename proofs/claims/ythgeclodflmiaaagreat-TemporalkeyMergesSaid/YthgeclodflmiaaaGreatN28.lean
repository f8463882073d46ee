/- Lemmas. -/
import Derived.Test.YthgeclodflmiaaaGreatN24
import Derived.Test.YthgeclodflmiaaaGreatProg
import Derived.KernelRfl
import Derived.WalkKit
set_option linter.unusedVariables false
set_option linter.unusedSimpArgs false
set_option maxRecDepth 100000
set_option maxHeartbeats 4000000
namespace Go.Civ
open Go.Proofs
theorem Ztz (d : Nat) : ∀ {G : GH} {w : World} (hG : G.In w) (c : Cond) (cc : List Value) (hcc : (YT d).rep G c cc),CL Tryz.prog (nat_lit 274) #[.agg cc.toArray] [] w G fun _ _ r=>r = .bool (ZD c):=by
 induction d
 ·intro G w hG c cc hcc; exact (ZaF hcc).elim
 rename_i d ih
 intro G w hG c cc hcc
 refine Zf ft [] Tryz.func274 rfl rfl ?_
 have hS:=St.start (X:=[]) hG
 obtain ⟨lv1,rfl,hb1,hb2,hb3,hb4,hb5,hb6,ho1⟩:=ZaG hcc
 refine Z1 [.int .i64 c.kind,Zb c.col,Zb c.oth, .int .i64 c.v.k, .int .i64 c.v.n,Zb c.v.s,lv1] _ hS rfl rfl rfl (fun p1 w1 G1 hle1 hsp1 hc1 hS1=>?_)
 refine Zd hS1 (XZ.drop 3 hc1) [.int .i64 c.v.k, .int .i64 c.v.n,Zb c.v.s] ZG rfl rfl rfl rfl rfl <| WL.build _ [] [.int .i64 0, .int .i64 0,Zb []] ZG rfl Zql rfl rfl rfl rfl <| Zem (ZdT c.v (Val.mk 0 0 [])) Zhk rfl rfl rfl ?_
 refine WL.split (fun (h1 : (decide (c.v = (Val.mk 0 0 []))) = true)=>?_) (fun (h1 : (decide (c.v = (Val.mk 0 0 []))) = false)=>?_)
 ·refine Za hS1 (XZ.drop 0 hc1) Zl rfl rfl rfl ?_
  refine Zx c.kind 1 rfl rfl rfl (fun h2=>?_) (fun h2=>?_)
  ·refine Za hS1 (XZ.drop 1 hc1) Yk rfl rfl rfl <| Z7 .neq rfl c.col [] rfl rfl rfl ?_
   refine WL.split (fun h0=>?_) (fun h0=>?_)
   ·have h3 : c.col ≠ []:=by simpa [SCmp.b] using h0
    clear h0
    refine Za hS1 (XZ.drop 6 hc1) Za3 rfl rfl rfl ?_
    have bd1:=ho1.bound
    refine Zj (ho1.mono hle1) Zal rfl rfl ?_
    refine Zx (c.l.length : Int) 0 rfl rfl rfl (fun h4=>?_) (fun h4=>?_)
    ·refine Za hS1 (XZ.drop 2 hc1) Yk rfl rfl rfl <| Z7 .eql rfl c.oth [] rfl rfl rfl ?_
     refine WL.split (fun h0=>?_) (fun h0=>?_)
     ·have h5 : c.oth = []:=by simpa [SCmp.b] using h0
      clear h0
      refine Zd hS1 (XZ.drop 3 hc1) [.int .i64 c.v.k, .int .i64 c.v.n,Zb c.v.s] ZG rfl rfl rfl rfl rfl ?_
      refine Zn hS1 Zhj rfl rfl rfl (ZcN hS1.imm c.v _ (YK c.v hb4 hb5 hb6)) (fun w2 G2 hS2 hle2=>?_)
      refine WL.split (fun (h6 : (Zy c.v) = true)=>?_) (fun (h6 : (Zy c.v) = false)=>?_)
      ·exact RB hS2 rfl (by unfold ZD ZR Y4 Ye; (simp_all [Cmp.b,SCmp.b]; done))
      refine Za hS2 (XZ.drop 2 (hc1.mono hle2)) Yk rfl rfl rfl <| Z7 .neq rfl c.oth [] rfl rfl rfl ?_
      refine WL.split (fun h0=>?_) (fun h0=>?_)
      ·have h7 : c.oth ≠ []:=by simpa [SCmp.b] using h0
       clear h0
       exact RB hS2 rfl (by unfold ZD ZR Y4 Ye; (simp_all [Cmp.b,SCmp.b]; done))
      have h7 : c.oth = []:=by simpa [SCmp.b] using h0
      clear h0
      exact RB hS2 rfl (by unfold ZD ZR Y4 Ye; (simp_all [Cmp.b,SCmp.b]; done))
     have h5 : c.oth ≠ []:=by simpa [SCmp.b] using h0
     clear h0
     refine Za hS1 (XZ.drop 2 hc1) Yk rfl rfl rfl <| Z7 .neq rfl c.oth [] rfl rfl rfl ?_
     refine WL.split (fun h0=>?_) (fun h0=>?_)
     ·have h8 : c.oth ≠ []:=by simpa [SCmp.b] using h0
      clear h0
      exact RB hS1 rfl (by unfold ZD ZR Y4 Ye; (simp_all [Cmp.b,SCmp.b]; done))
     have h8 : c.oth = []:=by simpa [SCmp.b] using h0
     clear h0
     exact RB hS1 rfl (by unfold ZD ZR Y4 Ye; (simp_all [Cmp.b,SCmp.b]; done))
    exact RB hS1 rfl (by unfold ZD ZR Y4 Ye; (simp_all [Cmp.b,SCmp.b]; done))
   have h3 : c.col = []:=by simpa [SCmp.b] using h0
   clear h0
   exact RB hS1 rfl (by unfold ZD ZR Y4 Ye; (simp_all [Cmp.b,SCmp.b]; done))
  refine Zx c.kind 2 rfl rfl rfl (fun h9=>?_) (fun h9=>?_)
  ·refine Za hS1 (XZ.drop 1 hc1) Yk rfl rfl rfl <| Z7 .neq rfl c.col [] rfl rfl rfl ?_
   refine WL.split (fun h0=>?_) (fun h0=>?_)
   ·have h10 : c.col ≠ []:=by simpa [SCmp.b] using h0
    clear h0
    refine Za hS1 (XZ.drop 6 hc1) Za3 rfl rfl rfl ?_
    have bd2:=ho1.bound
    refine Zj (ho1.mono hle1) Zal rfl rfl ?_
    refine Zx (c.l.length : Int) 0 rfl rfl rfl (fun h11=>?_) (fun h11=>?_)
    ·refine Za hS1 (XZ.drop 2 hc1) Yk rfl rfl rfl <| Z7 .eql rfl c.oth [] rfl rfl rfl ?_
     refine WL.split (fun h0=>?_) (fun h0=>?_)
     ·have h12 : c.oth = []:=by simpa [SCmp.b] using h0
      clear h0
      refine Zd hS1 (XZ.drop 3 hc1) [.int .i64 c.v.k, .int .i64 c.v.n,Zb c.v.s] ZG rfl rfl rfl rfl rfl ?_
      refine Zn hS1 Zhj rfl rfl rfl (ZcN hS1.imm c.v _ (YK c.v hb4 hb5 hb6)) (fun w3 G3 hS3 hle3=>?_)
      refine WL.split (fun (h13 : (Zy c.v) = true)=>?_) (fun (h13 : (Zy c.v) = false)=>?_)
      ·exact RB hS3 rfl (by unfold ZD ZR Y4 Ye; (simp_all [Cmp.b,SCmp.b]; done))
      refine Za hS3 (XZ.drop 2 (hc1.mono hle3)) Yk rfl rfl rfl <| Z7 .neq rfl c.oth [] rfl rfl rfl ?_
      refine WL.split (fun h0=>?_) (fun h0=>?_)
      ·have h14 : c.oth ≠ []:=by simpa [SCmp.b] using h0
       clear h0
       exact RB hS3 rfl (by unfold ZD ZR Y4 Ye; (simp_all [Cmp.b,SCmp.b]; done))
      have h14 : c.oth = []:=by simpa [SCmp.b] using h0
      clear h0
      exact RB hS3 rfl (by unfold ZD ZR Y4 Ye; (simp_all [Cmp.b,SCmp.b]; done))
     have h12 : c.oth ≠ []:=by simpa [SCmp.b] using h0
     clear h0
     refine Za hS1 (XZ.drop 2 hc1) Yk rfl rfl rfl <| Z7 .neq rfl c.oth [] rfl rfl rfl ?_
     refine WL.split (fun h0=>?_) (fun h0=>?_)
     ·have h15 : c.oth ≠ []:=by simpa [SCmp.b] using h0
      clear h0
      exact RB hS1 rfl (by unfold ZD ZR Y4 Ye; (simp_all [Cmp.b,SCmp.b]; done))
     have h15 : c.oth = []:=by simpa [SCmp.b] using h0
     clear h0
     exact RB hS1 rfl (by unfold ZD ZR Y4 Ye; (simp_all [Cmp.b,SCmp.b]; done))
    exact RB hS1 rfl (by unfold ZD ZR Y4 Ye; (simp_all [Cmp.b,SCmp.b]; done))
   have h10 : c.col = []:=by simpa [SCmp.b] using h0
   clear h0
   exact RB hS1 rfl (by unfold ZD ZR Y4 Ye; (simp_all [Cmp.b,SCmp.b]; done))
  refine Zx c.kind 3 rfl rfl rfl (fun h16=>?_) (fun h16=>?_)
  ·refine Za hS1 (XZ.drop 1 hc1) Yk rfl rfl rfl <| Z7 .eql rfl c.col [] rfl rfl rfl ?_
   refine WL.split (fun h0=>?_) (fun h0=>?_)
   ·have h17 : c.col = []:=by simpa [SCmp.b] using h0
    clear h0
    refine Za hS1 (XZ.drop 2 hc1) Yk rfl rfl rfl <| Z7 .eql rfl c.oth [] rfl rfl rfl ?_
    refine WL.split (fun h0=>?_) (fun h0=>?_)
    ·have h18 : c.oth = []:=by simpa [SCmp.b] using h0
     clear h0
     refine Za hS1 (XZ.drop 6 hc1) Za3 rfl rfl rfl ?_
     have bd3:=ho1.bound
     refine Zj (ho1.mono hle1) Zal rfl rfl <| ZO .eql rfl .i64 (c.l.length : Int) 0 rfl rfl rfl ?_
     exact RB hS1 rfl (by unfold ZD ZR Y4 Ye; (simp_all [Cmp.b,SCmp.b]; rw [Bool.eq_iff_iff]; simp [List.length_eq_zero_iff]; done))
    have h18 : c.oth ≠ []:=by simpa [SCmp.b] using h0
    clear h0
    exact RB hS1 rfl (by unfold ZD ZR Y4 Ye; (simp_all [Cmp.b,SCmp.b]; done))
   have h17 : c.col ≠ []:=by simpa [SCmp.b] using h0
   clear h0
   exact RB hS1 rfl (by unfold ZD ZR Y4 Ye; (simp_all [Cmp.b,SCmp.b]; done))
  refine Zx c.kind 4 rfl rfl rfl (fun h19=>?_) (fun h19=>?_)
  ·refine Za hS1 (XZ.drop 1 hc1) Yk rfl rfl rfl <| Z7 .eql rfl c.col [] rfl rfl rfl ?_
   refine WL.split (fun h0=>?_) (fun h0=>?_)
   ·have h20 : c.col = []:=by simpa [SCmp.b] using h0
    clear h0
    refine Za hS1 (XZ.drop 2 hc1) Yk rfl rfl rfl <| Z7 .eql rfl c.oth [] rfl rfl rfl ?_
    refine WL.split (fun h0=>?_) (fun h0=>?_)
    ·have h21 : c.oth = []:=by simpa [SCmp.b] using h0
     clear h0
     refine Za hS1 (XZ.drop 6 hc1) Za3 rfl rfl rfl ?_
     have bd4:=ho1.bound
     refine Zj (ho1.mono hle1) Zal rfl rfl <| ZO .eql rfl .i64 (c.l.length : Int) 1 rfl rfl rfl ?_
     exact RB hS1 rfl (by unfold ZD ZR Y4 Ye; (simp_all [Cmp.b,SCmp.b]; rw [Bool.eq_iff_iff]; simp; omega))
    have h21 : c.oth ≠ []:=by simpa [SCmp.b] using h0
    clear h0
    exact RB hS1 rfl (by unfold ZD ZR Y4 Ye; (simp_all [Cmp.b,SCmp.b]; done))
   have h20 : c.col ≠ []:=by simpa [SCmp.b] using h0
   clear h0
   exact RB hS1 rfl (by unfold ZD ZR Y4 Ye; (simp_all [Cmp.b,SCmp.b]; done))
  refine Zx c.kind 5 rfl rfl rfl (fun h22=>?_) (fun h22=>?_)
  ·refine Za hS1 (XZ.drop 1 hc1) Yk rfl rfl rfl <| Z7 .eql rfl c.col [] rfl rfl rfl ?_
   refine WL.split (fun h0=>?_) (fun h0=>?_)
   ·have h23 : c.col = []:=by simpa [SCmp.b] using h0
    clear h0
    refine Za hS1 (XZ.drop 2 hc1) Yk rfl rfl rfl <| Z7 .eql rfl c.oth [] rfl rfl rfl ?_
    refine WL.split (fun h0=>?_) (fun h0=>?_)
    ·have h24 : c.oth = []:=by simpa [SCmp.b] using h0
     clear h0
     refine Za hS1 (XZ.drop 6 hc1) Za3 rfl rfl rfl ?_
     have bd5:=ho1.bound
     refine Zj (ho1.mono hle1) Zal rfl rfl <| ZO .eql rfl .i64 (c.l.length : Int) 2 rfl rfl rfl ?_
     exact RB hS1 rfl (by unfold ZD ZR Y4 Ye; (simp_all [Cmp.b,SCmp.b]; rw [Bool.eq_iff_iff]; simp; omega))
    have h24 : c.oth ≠ []:=by simpa [SCmp.b] using h0
    clear h0
    exact RB hS1 rfl (by unfold ZD ZR Y4 Ye; (simp_all [Cmp.b,SCmp.b]; done))
   have h23 : c.col ≠ []:=by simpa [SCmp.b] using h0
   clear h0
   exact RB hS1 rfl (by unfold ZD ZR Y4 Ye; (simp_all [Cmp.b,SCmp.b]; done))
  refine Zx c.kind 6 rfl rfl rfl (fun h25=>?_) (fun h25=>?_)
  ·refine Za hS1 (XZ.drop 1 hc1) Yk rfl rfl rfl <| Z7 .eql rfl c.col [] rfl rfl rfl ?_
   refine WL.split (fun h0=>?_) (fun h0=>?_)
   ·have h26 : c.col = []:=by simpa [SCmp.b] using h0
    clear h0
    refine Za hS1 (XZ.drop 2 hc1) Yk rfl rfl rfl <| Z7 .eql rfl c.oth [] rfl rfl rfl ?_
    refine WL.split (fun h0=>?_) (fun h0=>?_)
    ·have h27 : c.oth = []:=by simpa [SCmp.b] using h0
     clear h0
     refine Za hS1 (XZ.drop 6 hc1) Za3 rfl rfl rfl ?_
     have bd6:=ho1.bound
     refine Zj (ho1.mono hle1) Zal rfl rfl <| ZO .eql rfl .i64 (c.l.length : Int) 2 rfl rfl rfl ?_
     exact RB hS1 rfl (by unfold ZD ZR Y4 Ye; (simp_all [Cmp.b,SCmp.b]; rw [Bool.eq_iff_iff]; simp; omega))
    have h27 : c.oth ≠ []:=by simpa [SCmp.b] using h0
    clear h0
    exact RB hS1 rfl (by unfold ZD ZR Y4 Ye; (simp_all [Cmp.b,SCmp.b]; done))
   have h26 : c.col ≠ []:=by simpa [SCmp.b] using h0
   clear h0
   exact RB hS1 rfl (by unfold ZD ZR Y4 Ye; (simp_all [Cmp.b,SCmp.b]; done))
  exact RB hS1 rfl (by unfold ZD ZR Y4 Ye; (simp_all [Cmp.b,SCmp.b]; done))
 refine Za hS1 (XZ.drop 0 hc1) Zl rfl rfl rfl ?_
 refine Zx c.kind 1 rfl rfl rfl (fun h28=>?_) (fun h28=>?_)
 ·refine Za hS1 (XZ.drop 1 hc1) Yk rfl rfl rfl <| Z7 .neq rfl c.col [] rfl rfl rfl ?_
  refine WL.split (fun h0=>?_) (fun h0=>?_)
  ·have h29 : c.col ≠ []:=by simpa [SCmp.b] using h0
   clear h0
   refine Za hS1 (XZ.drop 6 hc1) Za3 rfl rfl rfl ?_
   have bd7:=ho1.bound
   refine Zj (ho1.mono hle1) Zal rfl rfl ?_
   refine Zx (c.l.length : Int) 0 rfl rfl rfl (fun h30=>?_) (fun h30=>?_)
   ·refine Za hS1 (XZ.drop 2 hc1) Yk rfl rfl rfl <| Z7 .eql rfl c.oth [] rfl rfl rfl ?_
    refine WL.split (fun h0=>?_) (fun h0=>?_)
    ·have h31 : c.oth = []:=by simpa [SCmp.b] using h0
     clear h0
     refine Zd hS1 (XZ.drop 3 hc1) [.int .i64 c.v.k, .int .i64 c.v.n,Zb c.v.s] ZG rfl rfl rfl rfl rfl ?_
     refine Zn hS1 Zhj rfl rfl rfl (ZcN hS1.imm c.v _ (YK c.v hb4 hb5 hb6)) (fun w4 G4 hS4 hle4=>?_)
     refine WL.split (fun (h32 : (Zy c.v) = true)=>?_) (fun (h32 : (Zy c.v) = false)=>?_)
     ·exact RB hS4 rfl (by unfold ZD ZR Y4 Ye; (simp_all [Cmp.b,SCmp.b]; done))
     refine Za hS4 (XZ.drop 2 (hc1.mono hle4)) Yk rfl rfl rfl <| Z7 .neq rfl c.oth [] rfl rfl rfl ?_
     refine WL.split (fun h0=>?_) (fun h0=>?_)
     ·have h33 : c.oth ≠ []:=by simpa [SCmp.b] using h0
      clear h0
      exact RB hS4 rfl (by unfold ZD ZR Y4 Ye; (simp_all [Cmp.b,SCmp.b]; done))
     have h33 : c.oth = []:=by simpa [SCmp.b] using h0
     clear h0
     exact RB hS4 rfl (by unfold ZD ZR Y4 Ye; (simp_all [Cmp.b,SCmp.b]; done))
    have h31 : c.oth ≠ []:=by simpa [SCmp.b] using h0
    clear h0
    refine Za hS1 (XZ.drop 2 hc1) Yk rfl rfl rfl <| Z7 .neq rfl c.oth [] rfl rfl rfl ?_
    refine WL.split (fun h0=>?_) (fun h0=>?_)
    ·have h34 : c.oth ≠ []:=by simpa [SCmp.b] using h0
     clear h0
     exact RB hS1 rfl (by unfold ZD ZR Y4 Ye; (simp_all [Cmp.b,SCmp.b]; done))
    have h34 : c.oth = []:=by simpa [SCmp.b] using h0
    clear h0
    exact RB hS1 rfl (by unfold ZD ZR Y4 Ye; (simp_all [Cmp.b,SCmp.b]; done))
   exact RB hS1 rfl (by unfold ZD ZR Y4 Ye; (simp_all [Cmp.b,SCmp.b]; done))
  have h29 : c.col = []:=by simpa [SCmp.b] using h0
  clear h0
  exact RB hS1 rfl (by unfold ZD ZR Y4 Ye; (simp_all [Cmp.b,SCmp.b]; done))
 refine Zx c.kind 2 rfl rfl rfl (fun h35=>?_) (fun h35=>?_)
 ·refine Za hS1 (XZ.drop 1 hc1) Yk rfl rfl rfl <| Z7 .neq rfl c.col [] rfl rfl rfl ?_
  refine WL.split (fun h0=>?_) (fun h0=>?_)
  ·have h36 : c.col ≠ []:=by simpa [SCmp.b] using h0
   clear h0
   refine Za hS1 (XZ.drop 6 hc1) Za3 rfl rfl rfl ?_
   have bd8:=ho1.bound
   refine Zj (ho1.mono hle1) Zal rfl rfl ?_
   refine Zx (c.l.length : Int) 0 rfl rfl rfl (fun h37=>?_) (fun h37=>?_)
   ·refine Za hS1 (XZ.drop 2 hc1) Yk rfl rfl rfl <| Z7 .eql rfl c.oth [] rfl rfl rfl ?_
    refine WL.split (fun h0=>?_) (fun h0=>?_)
    ·have h38 : c.oth = []:=by simpa [SCmp.b] using h0
     clear h0
     refine Zd hS1 (XZ.drop 3 hc1) [.int .i64 c.v.k, .int .i64 c.v.n,Zb c.v.s] ZG rfl rfl rfl rfl rfl ?_
     refine Zn hS1 Zhj rfl rfl rfl (ZcN hS1.imm c.v _ (YK c.v hb4 hb5 hb6)) (fun w5 G5 hS5 hle5=>?_)
     refine WL.split (fun (h39 : (Zy c.v) = true)=>?_) (fun (h39 : (Zy c.v) = false)=>?_)
     ·exact RB hS5 rfl (by unfold ZD ZR Y4 Ye; (simp_all [Cmp.b,SCmp.b]; done))
     refine Za hS5 (XZ.drop 2 (hc1.mono hle5)) Yk rfl rfl rfl <| Z7 .neq rfl c.oth [] rfl rfl rfl ?_
     refine WL.split (fun h0=>?_) (fun h0=>?_)
     ·have h40 : c.oth ≠ []:=by simpa [SCmp.b] using h0
      clear h0
      exact RB hS5 rfl (by unfold ZD ZR Y4 Ye; (simp_all [Cmp.b,SCmp.b]; done))
     have h40 : c.oth = []:=by simpa [SCmp.b] using h0
     clear h0
     exact RB hS5 rfl (by unfold ZD ZR Y4 Ye; (simp_all [Cmp.b,SCmp.b]; done))
    have h38 : c.oth ≠ []:=by simpa [SCmp.b] using h0
    clear h0
    refine Za hS1 (XZ.drop 2 hc1) Yk rfl rfl rfl <| Z7 .neq rfl c.oth [] rfl rfl rfl ?_
    refine WL.split (fun h0=>?_) (fun h0=>?_)
    ·have h41 : c.oth ≠ []:=by simpa [SCmp.b] using h0
     clear h0
     exact RB hS1 rfl (by unfold ZD ZR Y4 Ye; (simp_all [Cmp.b,SCmp.b]; done))
    have h41 : c.oth = []:=by simpa [SCmp.b] using h0
    clear h0
    exact RB hS1 rfl (by unfold ZD ZR Y4 Ye; (simp_all [Cmp.b,SCmp.b]; done))
   exact RB hS1 rfl (by unfold ZD ZR Y4 Ye; (simp_all [Cmp.b,SCmp.b]; done))
  have h36 : c.col = []:=by simpa [SCmp.b] using h0
  clear h0
  exact RB hS1 rfl (by unfold ZD ZR Y4 Ye; (simp_all [Cmp.b,SCmp.b]; done))
 refine Zx c.kind 3 rfl rfl rfl (fun h42=>?_) (fun h42=>?_)
 ·refine Za hS1 (XZ.drop 1 hc1) Yk rfl rfl rfl <| Z7 .eql rfl c.col [] rfl rfl rfl ?_
  refine WL.split (fun h0=>?_) (fun h0=>?_)
  ·have h43 : c.col = []:=by simpa [SCmp.b] using h0
   clear h0
   refine Za hS1 (XZ.drop 2 hc1) Yk rfl rfl rfl <| Z7 .eql rfl c.oth [] rfl rfl rfl ?_
   refine WL.split (fun h0=>?_) (fun h0=>?_)
   ·have h44 : c.oth = []:=by simpa [SCmp.b] using h0
    clear h0
    exact RB hS1 rfl (by unfold ZD ZR Y4 Ye; (simp_all [Cmp.b,SCmp.b]; done))
   have h44 : c.oth ≠ []:=by simpa [SCmp.b] using h0
   clear h0
   exact RB hS1 rfl (by unfold ZD ZR Y4 Ye; (simp_all [Cmp.b,SCmp.b]; done))
  have h43 : c.col ≠ []:=by simpa [SCmp.b] using h0
  clear h0
  exact RB hS1 rfl (by unfold ZD ZR Y4 Ye; (simp_all [Cmp.b,SCmp.b]; done))
 refine Zx c.kind 4 rfl rfl rfl (fun h45=>?_) (fun h45=>?_)
 ·refine Za hS1 (XZ.drop 1 hc1) Yk rfl rfl rfl <| Z7 .eql rfl c.col [] rfl rfl rfl ?_
  refine WL.split (fun h0=>?_) (fun h0=>?_)
  ·have h46 : c.col = []:=by simpa [SCmp.b] using h0
   clear h0
   refine Za hS1 (XZ.drop 2 hc1) Yk rfl rfl rfl <| Z7 .eql rfl c.oth [] rfl rfl rfl ?_
   refine WL.split (fun h0=>?_) (fun h0=>?_)
   ·have h47 : c.oth = []:=by simpa [SCmp.b] using h0
    clear h0
    exact RB hS1 rfl (by unfold ZD ZR Y4 Ye; (simp_all [Cmp.b,SCmp.b]; done))
   have h47 : c.oth ≠ []:=by simpa [SCmp.b] using h0
   clear h0
   exact RB hS1 rfl (by unfold ZD ZR Y4 Ye; (simp_all [Cmp.b,SCmp.b]; done))
  have h46 : c.col ≠ []:=by simpa [SCmp.b] using h0
  clear h0
  exact RB hS1 rfl (by unfold ZD ZR Y4 Ye; (simp_all [Cmp.b,SCmp.b]; done))
 refine Zx c.kind 5 rfl rfl rfl (fun h48=>?_) (fun h48=>?_)
 ·refine Za hS1 (XZ.drop 1 hc1) Yk rfl rfl rfl <| Z7 .eql rfl c.col [] rfl rfl rfl ?_
  refine WL.split (fun h0=>?_) (fun h0=>?_)
  ·have h49 : c.col = []:=by simpa [SCmp.b] using h0
   clear h0
   refine Za hS1 (XZ.drop 2 hc1) Yk rfl rfl rfl <| Z7 .eql rfl c.oth [] rfl rfl rfl ?_
   refine WL.split (fun h0=>?_) (fun h0=>?_)
   ·have h50 : c.oth = []:=by simpa [SCmp.b] using h0
    clear h0
    exact RB hS1 rfl (by unfold ZD ZR Y4 Ye; (simp_all [Cmp.b,SCmp.b]; done))
   have h50 : c.oth ≠ []:=by simpa [SCmp.b] using h0
   clear h0
   exact RB hS1 rfl (by unfold ZD ZR Y4 Ye; (simp_all [Cmp.b,SCmp.b]; done))
  have h49 : c.col ≠ []:=by simpa [SCmp.b] using h0
  clear h0
  exact RB hS1 rfl (by unfold ZD ZR Y4 Ye; (simp_all [Cmp.b,SCmp.b]; done))
 refine Zx c.kind 6 rfl rfl rfl (fun h51=>?_) (fun h51=>?_)
 ·refine Za hS1 (XZ.drop 1 hc1) Yk rfl rfl rfl <| Z7 .eql rfl c.col [] rfl rfl rfl ?_
  refine WL.split (fun h0=>?_) (fun h0=>?_)
  ·have h52 : c.col = []:=by simpa [SCmp.b] using h0
   clear h0
   refine Za hS1 (XZ.drop 2 hc1) Yk rfl rfl rfl <| Z7 .eql rfl c.oth [] rfl rfl rfl ?_
   refine WL.split (fun h0=>?_) (fun h0=>?_)
   ·have h53 : c.oth = []:=by simpa [SCmp.b] using h0
    clear h0
    exact RB hS1 rfl (by unfold ZD ZR Y4 Ye; (simp_all [Cmp.b,SCmp.b]; done))
   have h53 : c.oth ≠ []:=by simpa [SCmp.b] using h0
   clear h0
   exact RB hS1 rfl (by unfold ZD ZR Y4 Ye; (simp_all [Cmp.b,SCmp.b]; done))
  have h52 : c.col ≠ []:=by simpa [SCmp.b] using h0
  clear h0
  exact RB hS1 rfl (by unfold ZD ZR Y4 Ye; (simp_all [Cmp.b,SCmp.b]; done))
 exact RB hS1 rfl (by unfold ZD ZR Y4 Ye; (simp_all [Cmp.b,SCmp.b]; done))
theorem Zt0 (d : Nat) : ∀ {G : GH} {w : World} (hG : G.In w) (c : Cond) (dep : Int) (cc : List Value) (hcc : (YT d).rep G c cc) (hdep : 0 ≤ dep ∧ dep ≤ 13),CL Tryz.prog (nat_lit 268) #[.agg cc.toArray, .int .i64 dep] [] w G fun _ _ r=>r = .int .i64 (Y2 d c dep):=by
 induction d
 ·intro G w hG c dep cc hcc hdep; exact (ZaF hcc).elim
 rename_i d ih
 intro G w hG c dep cc hcc hdep
 refine Zf ft [] Tryz.func268 rfl rfl ?_
 have hdep64 : Zv dep:=⟨by omega,by omega⟩
 have hS:=St.start (X:=[]) hG
 obtain ⟨lv1,rfl,hb1,hb2,hb3,hb4,hb5,hb6,ho1⟩:=ZaG hcc
 refine Z1 [.int .i64 c.kind,Zb c.col,Zb c.oth, .int .i64 c.v.k, .int .i64 c.v.n,Zb c.v.s,lv1] _ hS rfl rfl rfl (fun p1 w1 G1 hle1 hsp1 hc1 hS1=>?_)
 refine YL dep 12 rfl rfl rfl (fun h1=>?_) (fun h1=>?_)
 ·exact RI hS1 rfl (by exact (Zs2 ‹_›).symm)
 refine Zd hS1 hc1 [.int .i64 c.kind,Zb c.col,Zb c.oth, .int .i64 c.v.k, .int .i64 c.v.n,Zb c.v.s,lv1] X6 rfl rfl rfl rfl rfl ?_
 refine Zn hS1 ZvJ rfl rfl rfl (Ztz _ hS1.imm c _ ((YT _).mono hle1 hcc)) (fun w2 G2 hS2 hle2=>?_)
 refine WL.split (fun (h2 : (ZD c) = true)=>?_) (fun (h2 : (ZD c) = false)=>?_)
 ·refine LP.go ft [] (fun m ρ1 w1=>∃ (k1 : Nat),∃ (nn : Int),∃ (G3 : GH),m = c.l.length - k1 ∧ G2.le G3 ∧ St w [] G G3 [] w1 ∧ FR ρ1 [(1, .int .i64 dep),(2, .pointer (some p1)),(5, .int .i64 nn),(6, .int .i64 (k1 : Int))] ∧ k1 ≤ c.l.length ∧ nn = YM (fun x=>Y2 d x (dep + 1)) (c.l.take k1) 1 ∧ 1 ≤ nn ∧ nn ≤ 61 + 60 * (13 - dep)) _ ⟨0,1,G2,rfl,(G2.le_refl),hS2,⟨rfl,rfl,rfl,rfl,trivial⟩,(by omega),(by rfl),(by omega)⟩ ?_
  rintro m ρ1 w3 ⟨k1,nn,G3,rfl,hle3,hS3,hF9,f1,f2,f3⟩
  refine hF9.set ?_
  clear hF9
  have hnn64 : Zv nn:=⟨by omega,by omega⟩
  refine Za hS3 (XZ.drop 6 (hc1.mono (hle2.trans hle3))) Za3 rfl rfl rfl ?_
  have bd1:=ho1.bound
  refine Zj (ho1.mono ((hle1.trans hle2).trans hle3)) Zal rfl rfl ?_
  refine Zo (k1 : Int) (c.l.length : Int) rfl rfl rfl (fun h3=>?_) (fun h3=>?_)
  ·refine Qa nn 60 rfl rfl rfl (fun h4=>?_) (fun h4=>?_)
   ·refine Za hS3 (XZ.drop 6 (hc1.mono (hle2.trans hle3))) Za3 rfl rfl rfl ?_
    refine WL.indexAddr (ho1.mono ((hle1.trans hle2).trans hle3)) k1 (by omega) Zal X6 rfl rfl rfl rfl (fun p2 x1 hx1 he1=>?_)
    obtain ⟨cs1,hc2,hr1⟩:=he1
    obtain ⟨lv2,rfl,hb7,hb8,hb9,hb10,YV,Xu,ho2⟩:=Xs hr1
    refine Zd hS3 hc2 [.int .i64 x1.kind,Zb x1.col,Zb x1.oth, .int .i64 x1.v.k, .int .i64 x1.v.n,Zb x1.v.s,lv2] X6 rfl rfl rfl rfl rfl ?_
    have hi1 : Zv (dep + 1):=by have:=hdep64.1; have:=hdep64.2; constructor <;> omega
    refine Zbe .add rfl dep 1 rfl rfl rfl hi1 ?_
    refine Zn hS3 Zsh rfl rfl rfl (ih hS3.imm x1 (dep + 1) _ hr1 (by omega)) (fun w4 G4 hS4 hle4=>?_)
    have hi2 : Zv (nn + (Y2 d x1 (dep + 1))):=by have:=hnn64.1; have:=hnn64.2; have:=(ZcJ d x1 (dep + 1) (by omega)).1; have:=(ZcJ d x1 (dep + 1) (by omega)).2; constructor <;> omega
    refine Zbe .add rfl nn (Y2 d x1 (dep + 1)) rfl rfl rfl hi2 ?_
    refine Zk k1 (by have hreach : reach = 140737488355328:=rfl; omega) rfl rfl rfl ?_
    exact BK.mk' _ ⟨k1 + 1,(nn + (Y2 d x1 (dep + 1))),G4,rfl,(hle3.trans hle4),hS4,⟨rfl,rfl,rfl,rfl,trivial⟩,(by omega),(by exact Zlr ‹_› ‹_› (by omega)),(by have h9:=ZcJ d x1 (dep + 1) (by omega); omega)⟩ (show c.l.length - (k1 + 1) < c.l.length - k1 by omega)
   exact RI hS3 rfl (by exact (ZlJ (by omega) ‹_› ‹_› (.inr (by omega))).symm)
  exact RI hS3 rfl (by exact (ZlJ (by omega) ‹_› ‹_› (.inl (by omega))).symm)
 exact RI hS2 rfl (by exact (Zs3 (by omega) ‹_›).symm)
theorem Zpx {G : GH} {w : World} (hG : G.In w) (d : Nat) (c : Cond) (cc : List Value) (hcc : (YT d).rep G c cc) : CL Tryz.prog (nat_lit 248) #[.agg cc.toArray] [] w G fun _ _ r=>r = .bool (decide (Y2 d c 1 ≤ 60)):=by
 refine Zf ft [] Tryz.func248 rfl rfl ?_
 have hS:=St.start (X:=[]) hG
 obtain ⟨lv1,rfl,hb1,hb2,hb3,hb4,hb5,hb6,ho1⟩:=Xs hcc
 refine Z1 [.int .i64 c.kind,Zb c.col,Zb c.oth, .int .i64 c.v.k, .int .i64 c.v.n,Zb c.v.s,lv1] _ hS rfl rfl rfl (fun p1 w1 G1 hle1 hsp1 hc1 hS1=>?_)
 refine Zd hS1 hc1 [.int .i64 c.kind,Zb c.col,Zb c.oth, .int .i64 c.v.k, .int .i64 c.v.n,Zb c.v.s,lv1] X6 rfl rfl rfl rfl rfl ?_
 refine Zn hS1 Zsh rfl rfl rfl (Zt0 _ hS1.imm c 1 _ ((YT _).mono hle1 hcc) (by omega)) (fun w2 G2 hS2 hle2=>?_)
 refine ZO .leq rfl .i64 (Y2 d c 1) 60 rfl rfl rfl ?_
 exact RB hS2 rfl (by simp [Cmp.b])
theorem Zn8 {G : GH} {w : World} (hG : G.In w) (d : Nat) (c : Cond) (l : List Col) (cc : List Value) (hcc : (YT d).rep G c cc) (vl : Value) (hvl : Sl ColE 24 G vl l) : CL Tryz.prog (nat_lit 216) #[.agg cc.toArray,vl] [] w G fun _ _ r=>r = .int .i64 (XW d c l):=by
 refine Zf ft [] Tryz.func216 rfl rfl ?_
 have hS:=St.start (X:=[]) hG
 obtain ⟨lv1,rfl,hb1,hb2,hb3,hb4,hb5,hb6,ho1⟩:=Xs hcc
 refine Z1 [.int .i64 c.kind,Zb c.col,Zb c.oth, .int .i64 c.v.k, .int .i64 c.v.n,Zb c.v.s,lv1] _ hS rfl rfl rfl (fun p1 w1 G1 hle1 hsp1 hc1 hS1=>?_)
 refine Zd hS1 hc1 [.int .i64 c.kind,Zb c.col,Zb c.oth, .int .i64 c.v.k, .int .i64 c.v.n,Zb c.v.s,lv1] X6 rfl rfl rfl rfl rfl ?_
 refine Zn hS1 ZvI rfl rfl rfl (Zpx hS1.imm _ c _ ((YT _).mono hle1 hcc)) (fun w2 G2 hS2 hle2=>?_)
 refine WL.split (fun (h1 : (decide (Y2 d c 1 ≤ 60)) = true)=>?_) (fun (h1 : (decide (Y2 d c 1 ≤ 60)) = false)=>?_)
 ·refine Zd hS2 (hc1.mono hle2) [.int .i64 c.kind,Zb c.col,Zb c.oth, .int .i64 c.v.k, .int .i64 c.v.n,Zb c.v.s,lv1] X6 rfl rfl rfl rfl rfl ?_
  refine Zn hS2 Zsg rfl rfl rfl (Zry _ hS2.imm c l _ ((YT _).mono (hle1.trans hle2) hcc) _ (hvl.mono (hle1.trans hle2))) (fun w3 G3 hS3 hle3=>?_)
  exact RI hS3 rfl (by unfold XW; exact (if_pos (of_decide_eq_true ‹_›)).symm)
 exact RI hS2 rfl (by unfold XW; exact (if_neg (of_decide_eq_false ‹_›)).symm)
end Go.Civ
