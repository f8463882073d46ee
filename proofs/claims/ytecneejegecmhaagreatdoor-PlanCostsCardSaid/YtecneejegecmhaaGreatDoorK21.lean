/- Lemmas. -/
import Derived.Test.YtecneejegecmhaaGreatDoorK20
set_option linter.unusedVariables false
set_option linter.unusedSimpArgs false
set_option linter.unnecessarySimpa false
set_option linter.unusedVariables false
set_option linter.unusedSimpArgs false
set_option maxRecDepth 100000
set_option maxHeartbeats 4000000
namespace Go.Civ
open Go.Proofs
theorem ZuJ (d : Nat) : ∀ {G : GH} {w : World} (hG : G.In w) (c : Cond) (cc : List Value) (hcc : (Xy d).rep G c cc),CL Tryz.prog (nat_lit 213) #[.agg cc.toArray] [] w G fun _ _ r=>r = .bool (Zw c):=by
 induction d
 ·intro G w hG c cc hcc; exact (ZaD hcc).elim
 rename_i d ih
 intro G w hG c cc hcc
 refine Zg ft [] Tryz.func213 V V ?_
 have hS:=St.start (X:=[]) hG
 obtain ⟨lv1,rfl,B1,B2,Z7,Z5,ZD,hb6,O1⟩:=ZaE hcc
 refine Z4 [U c.kind,Za c.col,Za c.oth,U c.v.k,U c.v.n,Za c.v.s,lv1] _ hS V V V (fun p1 w1 G1 L1 M1 C1 S1=>?_)
 refine Zc S1 (Xh.drop 3 C1) [U c.v.k,U c.v.n,Za c.v.s] Xv V V V V V <| WL.build _ [] [U 0,U 0,Za []] Xv V ZiI V V V V <| ZaC (ZaO c.v (Val.mk 0 0 [])) ZcB V V V ?_
 refine WL.split (fun (h1 : (decide (c.v = (Val.mk 0 0 []))) = true)=>?_) (fun (h1 : (decide (c.v = (Val.mk 0 0 []))) = false)=>?_)
 ·refine Z S1 (Xh.drop 0 C1) Zk V V V ?_
  refine Ze c.kind 1 V V V (fun h2=>?_) (fun h2=>?_)
  ·refine Z S1 (Xh.drop 1 C1) Zv V V V <| Zn .neq V c.col [] V V V ?_
   refine WL.split (fun h0=>?_) (fun h0=>?_)
   ·have h3 : c.col ≠ []:=by simpa [SCmp.b] using h0
    clear h0
    refine Z S1 (Xh.drop 6 C1) XD V V V ?_
    have V1:=O1.bound
    refine Zm (O1.mono L1) Xr V V ?_
    refine Ze (c.l.length : Int) 0 V V V (fun h4=>?_) (fun h4=>?_)
    ·refine Z S1 (Xh.drop 2 C1) Zv V V V <| Zn .eql V c.oth [] V V V ?_
     refine WL.split (fun h0=>?_) (fun h0=>?_)
     ·have h5 : c.oth = []:=by simpa [SCmp.b] using h0
      clear h0
      refine Zc S1 (Xh.drop 3 C1) [U c.v.k,U c.v.n,Za c.v.s] Xv V V V V V ?_
      refine Zl S1 Zkk V V V (Zfs S1.imm c.v _ (XX c.v Z5 ZD hb6)) (fun w2 G2 S2 L2=>?_)
      refine WL.split (fun (h6 : (Yo c.v) = true)=>?_) (fun (h6 : (Yo c.v) = false)=>?_)
      ·exact RB S2 V (by unfold Zw ZE Yc ZG; (simp_all [Cmp.b,SCmp.b]; done))
      refine Z S2 (Xh.drop 2 (C1.mono L2)) Zv V V V <| Zn .neq V c.oth [] V V V ?_
      refine WL.split (fun h0=>?_) (fun h0=>?_)
      ·have h7 : c.oth ≠ []:=by simpa [SCmp.b] using h0
       clear h0
       exact RB S2 V (by unfold Zw ZE Yc ZG; (simp_all [Cmp.b,SCmp.b]; done))
      have h7 : c.oth = []:=by simpa [SCmp.b] using h0
      clear h0
      exact RB S2 V (by unfold Zw ZE Yc ZG; (simp_all [Cmp.b,SCmp.b]; done))
     have h5 : c.oth ≠ []:=by simpa [SCmp.b] using h0
     clear h0
     refine Z S1 (Xh.drop 2 C1) Zv V V V <| Zn .neq V c.oth [] V V V ?_
     refine WL.split (fun h0=>?_) (fun h0=>?_)
     ·have h8 : c.oth ≠ []:=by simpa [SCmp.b] using h0
      clear h0
      exact RB S1 V (by unfold Zw ZE Yc ZG; (simp_all [Cmp.b,SCmp.b]; done))
     have h8 : c.oth = []:=by simpa [SCmp.b] using h0
     clear h0
     exact RB S1 V (by unfold Zw ZE Yc ZG; (simp_all [Cmp.b,SCmp.b]; done))
    exact RB S1 V (by unfold Zw ZE Yc ZG; (simp_all [Cmp.b,SCmp.b]; done))
   have h3 : c.col = []:=by simpa [SCmp.b] using h0
   clear h0
   exact RB S1 V (by unfold Zw ZE Yc ZG; (simp_all [Cmp.b,SCmp.b]; done))
  refine Ze c.kind 2 V V V (fun h9=>?_) (fun h9=>?_)
  ·refine Z S1 (Xh.drop 1 C1) Zv V V V <| Zn .neq V c.col [] V V V ?_
   refine WL.split (fun h0=>?_) (fun h0=>?_)
   ·have h10 : c.col ≠ []:=by simpa [SCmp.b] using h0
    clear h0
    refine Z S1 (Xh.drop 6 C1) XD V V V ?_
    have V2:=O1.bound
    refine Zm (O1.mono L1) Xr V V ?_
    refine Ze (c.l.length : Int) 0 V V V (fun h11=>?_) (fun h11=>?_)
    ·refine Z S1 (Xh.drop 2 C1) Zv V V V <| Zn .eql V c.oth [] V V V ?_
     refine WL.split (fun h0=>?_) (fun h0=>?_)
     ·have h12 : c.oth = []:=by simpa [SCmp.b] using h0
      clear h0
      refine Zc S1 (Xh.drop 3 C1) [U c.v.k,U c.v.n,Za c.v.s] Xv V V V V V ?_
      refine Zl S1 Zkk V V V (Zfs S1.imm c.v _ (XX c.v Z5 ZD hb6)) (fun w3 G3 S3 L3=>?_)
      refine WL.split (fun (h13 : (Yo c.v) = true)=>?_) (fun (h13 : (Yo c.v) = false)=>?_)
      ·exact RB S3 V (by unfold Zw ZE Yc ZG; (simp_all [Cmp.b,SCmp.b]; done))
      refine Z S3 (Xh.drop 2 (C1.mono L3)) Zv V V V <| Zn .neq V c.oth [] V V V ?_
      refine WL.split (fun h0=>?_) (fun h0=>?_)
      ·have h14 : c.oth ≠ []:=by simpa [SCmp.b] using h0
       clear h0
       exact RB S3 V (by unfold Zw ZE Yc ZG; (simp_all [Cmp.b,SCmp.b]; done))
      have h14 : c.oth = []:=by simpa [SCmp.b] using h0
      clear h0
      exact RB S3 V (by unfold Zw ZE Yc ZG; (simp_all [Cmp.b,SCmp.b]; done))
     have h12 : c.oth ≠ []:=by simpa [SCmp.b] using h0
     clear h0
     refine Z S1 (Xh.drop 2 C1) Zv V V V <| Zn .neq V c.oth [] V V V ?_
     refine WL.split (fun h0=>?_) (fun h0=>?_)
     ·have h15 : c.oth ≠ []:=by simpa [SCmp.b] using h0
      clear h0
      exact RB S1 V (by unfold Zw ZE Yc ZG; (simp_all [Cmp.b,SCmp.b]; done))
     have h15 : c.oth = []:=by simpa [SCmp.b] using h0
     clear h0
     exact RB S1 V (by unfold Zw ZE Yc ZG; (simp_all [Cmp.b,SCmp.b]; done))
    exact RB S1 V (by unfold Zw ZE Yc ZG; (simp_all [Cmp.b,SCmp.b]; done))
   have h10 : c.col = []:=by simpa [SCmp.b] using h0
   clear h0
   exact RB S1 V (by unfold Zw ZE Yc ZG; (simp_all [Cmp.b,SCmp.b]; done))
  refine Ze c.kind 3 V V V (fun h16=>?_) (fun h16=>?_)
  ·refine Z S1 (Xh.drop 1 C1) Zv V V V <| Zn .eql V c.col [] V V V ?_
   refine WL.split (fun h0=>?_) (fun h0=>?_)
   ·have h17 : c.col = []:=by simpa [SCmp.b] using h0
    clear h0
    refine Z S1 (Xh.drop 2 C1) Zv V V V <| Zn .eql V c.oth [] V V V ?_
    refine WL.split (fun h0=>?_) (fun h0=>?_)
    ·have h18 : c.oth = []:=by simpa [SCmp.b] using h0
     clear h0
     refine Z S1 (Xh.drop 6 C1) XD V V V ?_
     have V3:=O1.bound
     refine Zm (O1.mono L1) Xr V V <| Yd .eql V .i64 (c.l.length : Int) 0 V V V ?_
     exact RB S1 V (by unfold Zw ZE Yc ZG; (simp_all [Cmp.b,SCmp.b]; rw [Bool.eq_iff_iff]; simp [List.length_eq_zero_iff]; done))
    have h18 : c.oth ≠ []:=by simpa [SCmp.b] using h0
    clear h0
    exact RB S1 V (by unfold Zw ZE Yc ZG; (simp_all [Cmp.b,SCmp.b]; done))
   have h17 : c.col ≠ []:=by simpa [SCmp.b] using h0
   clear h0
   exact RB S1 V (by unfold Zw ZE Yc ZG; (simp_all [Cmp.b,SCmp.b]; done))
  refine Ze c.kind 4 V V V (fun h19=>?_) (fun h19=>?_)
  ·refine Z S1 (Xh.drop 1 C1) Zv V V V <| Zn .eql V c.col [] V V V ?_
   refine WL.split (fun h0=>?_) (fun h0=>?_)
   ·have h20 : c.col = []:=by simpa [SCmp.b] using h0
    clear h0
    refine Z S1 (Xh.drop 2 C1) Zv V V V <| Zn .eql V c.oth [] V V V ?_
    refine WL.split (fun h0=>?_) (fun h0=>?_)
    ·have h21 : c.oth = []:=by simpa [SCmp.b] using h0
     clear h0
     refine Z S1 (Xh.drop 6 C1) XD V V V ?_
     have V4:=O1.bound
     refine Zm (O1.mono L1) Xr V V <| Yd .eql V .i64 (c.l.length : Int) 1 V V V ?_
     exact RB S1 V (by unfold Zw ZE Yc ZG; (simp_all [Cmp.b,SCmp.b]; rw [Bool.eq_iff_iff]; simp; omega))
    have h21 : c.oth ≠ []:=by simpa [SCmp.b] using h0
    clear h0
    exact RB S1 V (by unfold Zw ZE Yc ZG; (simp_all [Cmp.b,SCmp.b]; done))
   have h20 : c.col ≠ []:=by simpa [SCmp.b] using h0
   clear h0
   exact RB S1 V (by unfold Zw ZE Yc ZG; (simp_all [Cmp.b,SCmp.b]; done))
  refine Ze c.kind 5 V V V (fun h22=>?_) (fun h22=>?_)
  ·refine Z S1 (Xh.drop 1 C1) Zv V V V <| Zn .eql V c.col [] V V V ?_
   refine WL.split (fun h0=>?_) (fun h0=>?_)
   ·have h23 : c.col = []:=by simpa [SCmp.b] using h0
    clear h0
    refine Z S1 (Xh.drop 2 C1) Zv V V V <| Zn .eql V c.oth [] V V V ?_
    refine WL.split (fun h0=>?_) (fun h0=>?_)
    ·have h24 : c.oth = []:=by simpa [SCmp.b] using h0
     clear h0
     refine Z S1 (Xh.drop 6 C1) XD V V V ?_
     have V5:=O1.bound
     refine Zm (O1.mono L1) Xr V V <| Yd .eql V .i64 (c.l.length : Int) 2 V V V ?_
     exact RB S1 V (by unfold Zw ZE Yc ZG; (simp_all [Cmp.b,SCmp.b]; rw [Bool.eq_iff_iff]; simp; omega))
    have h24 : c.oth ≠ []:=by simpa [SCmp.b] using h0
    clear h0
    exact RB S1 V (by unfold Zw ZE Yc ZG; (simp_all [Cmp.b,SCmp.b]; done))
   have h23 : c.col ≠ []:=by simpa [SCmp.b] using h0
   clear h0
   exact RB S1 V (by unfold Zw ZE Yc ZG; (simp_all [Cmp.b,SCmp.b]; done))
  refine Ze c.kind 6 V V V (fun h25=>?_) (fun h25=>?_)
  ·refine Z S1 (Xh.drop 1 C1) Zv V V V <| Zn .eql V c.col [] V V V ?_
   refine WL.split (fun h0=>?_) (fun h0=>?_)
   ·have h26 : c.col = []:=by simpa [SCmp.b] using h0
    clear h0
    refine Z S1 (Xh.drop 2 C1) Zv V V V <| Zn .eql V c.oth [] V V V ?_
    refine WL.split (fun h0=>?_) (fun h0=>?_)
    ·have h27 : c.oth = []:=by simpa [SCmp.b] using h0
     clear h0
     refine Z S1 (Xh.drop 6 C1) XD V V V ?_
     have V6:=O1.bound
     refine Zm (O1.mono L1) Xr V V <| Yd .eql V .i64 (c.l.length : Int) 2 V V V ?_
     exact RB S1 V (by unfold Zw ZE Yc ZG; (simp_all [Cmp.b,SCmp.b]; rw [Bool.eq_iff_iff]; simp; omega))
    have h27 : c.oth ≠ []:=by simpa [SCmp.b] using h0
    clear h0
    exact RB S1 V (by unfold Zw ZE Yc ZG; (simp_all [Cmp.b,SCmp.b]; done))
   have h26 : c.col ≠ []:=by simpa [SCmp.b] using h0
   clear h0
   exact RB S1 V (by unfold Zw ZE Yc ZG; (simp_all [Cmp.b,SCmp.b]; done))
  exact RB S1 V (by unfold Zw ZE Yc ZG; (simp_all [Cmp.b,SCmp.b]; done))
 refine Z S1 (Xh.drop 0 C1) Zk V V V ?_
 refine Ze c.kind 1 V V V (fun h28=>?_) (fun h28=>?_)
 ·refine Z S1 (Xh.drop 1 C1) Zv V V V <| Zn .neq V c.col [] V V V ?_
  refine WL.split (fun h0=>?_) (fun h0=>?_)
  ·have h29 : c.col ≠ []:=by simpa [SCmp.b] using h0
   clear h0
   refine Z S1 (Xh.drop 6 C1) XD V V V ?_
   have V7:=O1.bound
   refine Zm (O1.mono L1) Xr V V ?_
   refine Ze (c.l.length : Int) 0 V V V (fun h30=>?_) (fun h30=>?_)
   ·refine Z S1 (Xh.drop 2 C1) Zv V V V <| Zn .eql V c.oth [] V V V ?_
    refine WL.split (fun h0=>?_) (fun h0=>?_)
    ·have h31 : c.oth = []:=by simpa [SCmp.b] using h0
     clear h0
     refine Zc S1 (Xh.drop 3 C1) [U c.v.k,U c.v.n,Za c.v.s] Xv V V V V V ?_
     refine Zl S1 Zkk V V V (Zfs S1.imm c.v _ (XX c.v Z5 ZD hb6)) (fun w4 G4 S4 L4=>?_)
     refine WL.split (fun (h32 : (Yo c.v) = true)=>?_) (fun (h32 : (Yo c.v) = false)=>?_)
     ·exact RB S4 V (by unfold Zw ZE Yc ZG; (simp_all [Cmp.b,SCmp.b]; done))
     refine Z S4 (Xh.drop 2 (C1.mono L4)) Zv V V V <| Zn .neq V c.oth [] V V V ?_
     refine WL.split (fun h0=>?_) (fun h0=>?_)
     ·have h33 : c.oth ≠ []:=by simpa [SCmp.b] using h0
      clear h0
      exact RB S4 V (by unfold Zw ZE Yc ZG; (simp_all [Cmp.b,SCmp.b]; done))
     have h33 : c.oth = []:=by simpa [SCmp.b] using h0
     clear h0
     exact RB S4 V (by unfold Zw ZE Yc ZG; (simp_all [Cmp.b,SCmp.b]; done))
    have h31 : c.oth ≠ []:=by simpa [SCmp.b] using h0
    clear h0
    refine Z S1 (Xh.drop 2 C1) Zv V V V <| Zn .neq V c.oth [] V V V ?_
    refine WL.split (fun h0=>?_) (fun h0=>?_)
    ·have h34 : c.oth ≠ []:=by simpa [SCmp.b] using h0
     clear h0
     exact RB S1 V (by unfold Zw ZE Yc ZG; (simp_all [Cmp.b,SCmp.b]; done))
    have h34 : c.oth = []:=by simpa [SCmp.b] using h0
    clear h0
    exact RB S1 V (by unfold Zw ZE Yc ZG; (simp_all [Cmp.b,SCmp.b]; done))
   exact RB S1 V (by unfold Zw ZE Yc ZG; (simp_all [Cmp.b,SCmp.b]; done))
  have h29 : c.col = []:=by simpa [SCmp.b] using h0
  clear h0
  exact RB S1 V (by unfold Zw ZE Yc ZG; (simp_all [Cmp.b,SCmp.b]; done))
 refine Ze c.kind 2 V V V (fun h35=>?_) (fun h35=>?_)
 ·refine Z S1 (Xh.drop 1 C1) Zv V V V <| Zn .neq V c.col [] V V V ?_
  refine WL.split (fun h0=>?_) (fun h0=>?_)
  ·have h36 : c.col ≠ []:=by simpa [SCmp.b] using h0
   clear h0
   refine Z S1 (Xh.drop 6 C1) XD V V V ?_
   have V8:=O1.bound
   refine Zm (O1.mono L1) Xr V V ?_
   refine Ze (c.l.length : Int) 0 V V V (fun h37=>?_) (fun h37=>?_)
   ·refine Z S1 (Xh.drop 2 C1) Zv V V V <| Zn .eql V c.oth [] V V V ?_
    refine WL.split (fun h0=>?_) (fun h0=>?_)
    ·have h38 : c.oth = []:=by simpa [SCmp.b] using h0
     clear h0
     refine Zc S1 (Xh.drop 3 C1) [U c.v.k,U c.v.n,Za c.v.s] Xv V V V V V ?_
     refine Zl S1 Zkk V V V (Zfs S1.imm c.v _ (XX c.v Z5 ZD hb6)) (fun w5 G5 S5 L5=>?_)
     refine WL.split (fun (h39 : (Yo c.v) = true)=>?_) (fun (h39 : (Yo c.v) = false)=>?_)
     ·exact RB S5 V (by unfold Zw ZE Yc ZG; (simp_all [Cmp.b,SCmp.b]; done))
     refine Z S5 (Xh.drop 2 (C1.mono L5)) Zv V V V <| Zn .neq V c.oth [] V V V ?_
     refine WL.split (fun h0=>?_) (fun h0=>?_)
     ·have h40 : c.oth ≠ []:=by simpa [SCmp.b] using h0
      clear h0
      exact RB S5 V (by unfold Zw ZE Yc ZG; (simp_all [Cmp.b,SCmp.b]; done))
     have h40 : c.oth = []:=by simpa [SCmp.b] using h0
     clear h0
     exact RB S5 V (by unfold Zw ZE Yc ZG; (simp_all [Cmp.b,SCmp.b]; done))
    have h38 : c.oth ≠ []:=by simpa [SCmp.b] using h0
    clear h0
    refine Z S1 (Xh.drop 2 C1) Zv V V V <| Zn .neq V c.oth [] V V V ?_
    refine WL.split (fun h0=>?_) (fun h0=>?_)
    ·have h41 : c.oth ≠ []:=by simpa [SCmp.b] using h0
     clear h0
     exact RB S1 V (by unfold Zw ZE Yc ZG; (simp_all [Cmp.b,SCmp.b]; done))
    have h41 : c.oth = []:=by simpa [SCmp.b] using h0
    clear h0
    exact RB S1 V (by unfold Zw ZE Yc ZG; (simp_all [Cmp.b,SCmp.b]; done))
   exact RB S1 V (by unfold Zw ZE Yc ZG; (simp_all [Cmp.b,SCmp.b]; done))
  have h36 : c.col = []:=by simpa [SCmp.b] using h0
  clear h0
  exact RB S1 V (by unfold Zw ZE Yc ZG; (simp_all [Cmp.b,SCmp.b]; done))
 refine Ze c.kind 3 V V V (fun h42=>?_) (fun h42=>?_)
 ·refine Z S1 (Xh.drop 1 C1) Zv V V V <| Zn .eql V c.col [] V V V ?_
  refine WL.split (fun h0=>?_) (fun h0=>?_)
  ·have h43 : c.col = []:=by simpa [SCmp.b] using h0
   clear h0
   refine Z S1 (Xh.drop 2 C1) Zv V V V <| Zn .eql V c.oth [] V V V ?_
   refine WL.split (fun h0=>?_) (fun h0=>?_)
   ·have h44 : c.oth = []:=by simpa [SCmp.b] using h0
    clear h0
    exact RB S1 V (by unfold Zw ZE Yc ZG; (simp_all [Cmp.b,SCmp.b]; done))
   have h44 : c.oth ≠ []:=by simpa [SCmp.b] using h0
   clear h0
   exact RB S1 V (by unfold Zw ZE Yc ZG; (simp_all [Cmp.b,SCmp.b]; done))
  have h43 : c.col ≠ []:=by simpa [SCmp.b] using h0
  clear h0
  exact RB S1 V (by unfold Zw ZE Yc ZG; (simp_all [Cmp.b,SCmp.b]; done))
 refine Ze c.kind 4 V V V (fun h45=>?_) (fun h45=>?_)
 ·refine Z S1 (Xh.drop 1 C1) Zv V V V <| Zn .eql V c.col [] V V V ?_
  refine WL.split (fun h0=>?_) (fun h0=>?_)
  ·have h46 : c.col = []:=by simpa [SCmp.b] using h0
   clear h0
   refine Z S1 (Xh.drop 2 C1) Zv V V V <| Zn .eql V c.oth [] V V V ?_
   refine WL.split (fun h0=>?_) (fun h0=>?_)
   ·have h47 : c.oth = []:=by simpa [SCmp.b] using h0
    clear h0
    exact RB S1 V (by unfold Zw ZE Yc ZG; (simp_all [Cmp.b,SCmp.b]; done))
   have h47 : c.oth ≠ []:=by simpa [SCmp.b] using h0
   clear h0
   exact RB S1 V (by unfold Zw ZE Yc ZG; (simp_all [Cmp.b,SCmp.b]; done))
  have h46 : c.col ≠ []:=by simpa [SCmp.b] using h0
  clear h0
  exact RB S1 V (by unfold Zw ZE Yc ZG; (simp_all [Cmp.b,SCmp.b]; done))
 refine Ze c.kind 5 V V V (fun h48=>?_) (fun h48=>?_)
 ·refine Z S1 (Xh.drop 1 C1) Zv V V V <| Zn .eql V c.col [] V V V ?_
  refine WL.split (fun h0=>?_) (fun h0=>?_)
  ·have h49 : c.col = []:=by simpa [SCmp.b] using h0
   clear h0
   refine Z S1 (Xh.drop 2 C1) Zv V V V <| Zn .eql V c.oth [] V V V ?_
   refine WL.split (fun h0=>?_) (fun h0=>?_)
   ·have h50 : c.oth = []:=by simpa [SCmp.b] using h0
    clear h0
    exact RB S1 V (by unfold Zw ZE Yc ZG; (simp_all [Cmp.b,SCmp.b]; done))
   have h50 : c.oth ≠ []:=by simpa [SCmp.b] using h0
   clear h0
   exact RB S1 V (by unfold Zw ZE Yc ZG; (simp_all [Cmp.b,SCmp.b]; done))
  have h49 : c.col ≠ []:=by simpa [SCmp.b] using h0
  clear h0
  exact RB S1 V (by unfold Zw ZE Yc ZG; (simp_all [Cmp.b,SCmp.b]; done))
 refine Ze c.kind 6 V V V (fun h51=>?_) (fun h51=>?_)
 ·refine Z S1 (Xh.drop 1 C1) Zv V V V <| Zn .eql V c.col [] V V V ?_
  refine WL.split (fun h0=>?_) (fun h0=>?_)
  ·have h52 : c.col = []:=by simpa [SCmp.b] using h0
   clear h0
   refine Z S1 (Xh.drop 2 C1) Zv V V V <| Zn .eql V c.oth [] V V V ?_
   refine WL.split (fun h0=>?_) (fun h0=>?_)
   ·have h53 : c.oth = []:=by simpa [SCmp.b] using h0
    clear h0
    exact RB S1 V (by unfold Zw ZE Yc ZG; (simp_all [Cmp.b,SCmp.b]; done))
   have h53 : c.oth ≠ []:=by simpa [SCmp.b] using h0
   clear h0
   exact RB S1 V (by unfold Zw ZE Yc ZG; (simp_all [Cmp.b,SCmp.b]; done))
  have h52 : c.col ≠ []:=by simpa [SCmp.b] using h0
  clear h0
  exact RB S1 V (by unfold Zw ZE Yc ZG; (simp_all [Cmp.b,SCmp.b]; done))
 exact RB S1 V (by unfold Zw ZE Yc ZG; (simp_all [Cmp.b,SCmp.b]; done))
theorem ZuK (d : Nat) : ∀ {G : GH} {w : World} (hG : G.In w) (c : Cond) (dep : Int) (cc : List Value) (hcc : (Xy d).rep G c cc) (hdep : 0 ≤ dep ∧ dep ≤ 13),CL Tryz.prog (nat_lit 189) #[.agg cc.toArray,U dep] [] w G fun _ _ r=>r = U (Yi d c dep):=by
 induction d
 ·intro G w hG c dep cc hcc hdep; exact (ZaD hcc).elim
 rename_i d ih
 intro G w hG c dep cc hcc hdep
 refine Zg ft [] Tryz.func189 V V ?_
 have hdep64 : Zj dep:=⟨by omega,by omega⟩
 have hS:=St.start (X:=[]) hG
 obtain ⟨lv1,rfl,B1,B2,Z7,Z5,ZD,hb6,O1⟩:=ZaE hcc
 refine Z4 [U c.kind,Za c.col,Za c.oth,U c.v.k,U c.v.n,Za c.v.s,lv1] _ hS V V V (fun p1 w1 G1 L1 M1 C1 S1=>?_)
 refine Z1 dep 12 V V V (fun h1=>?_) (fun h1=>?_)
 ·exact RI S1 V (by exact (ZtA ‹_›).symm)
 refine Zc S1 C1 [U c.kind,Za c.col,Za c.oth,U c.v.k,U c.v.n,Za c.v.s,lv1] ZY V V V V V ?_
 refine Zl S1 ZzC V V V (ZuJ _ S1.imm c _ ((Xy _).mono L1 hcc)) (fun w2 G2 S2 L2=>?_)
 refine WL.split (fun (h2 : (Zw c) = true)=>?_) (fun (h2 : (Zw c) = false)=>?_)
 ·refine LP.go ft [] (fun m ρ1 w1=>∃ (k1 : Nat),∃ (nn : Int),∃ (G3 : GH),m = c.l.length - k1 ∧ G2.le G3 ∧ St w [] G G3 [] w1 ∧ FR ρ1 [(1,U dep),(2,ZP p1),(5,U nn),(6,U (k1 : Int))] ∧ k1 ≤ c.l.length ∧ nn = YP (fun x=>Yi d x (dep + 1)) (c.l.take k1) 1 ∧ 1 ≤ nn ∧ nn ≤ 61 + 60 * (13 - dep)) _ ⟨0,1,G2,V,(G2.le_refl),S2,(ZS V),(by omega),(by rfl),(by omega)⟩ ?_
  rintro m ρ1 w3 ⟨k1,nn,G3,rfl,L3,S3,F9,f1,f2,f3⟩
  refine F9.set ?_
  clear F9
  have hnn64 : Zj nn:=⟨by omega,by omega⟩
  refine Z S3 (Xh.drop 6 (C1.mono (L2.trans L3))) XD V V V ?_
  have V1:=O1.bound
  have j1:=((L1.trans L2).trans L3)
  refine Zm (O1.mono j1) Xr V V ?_
  refine Zp (k1 : Int) (c.l.length : Int) V V V (fun h3=>?_) (fun h3=>?_)
  ·refine X2 nn 60 V V V (fun h4=>?_) (fun h4=>?_)
   ·refine Z S3 (Xh.drop 6 (C1.mono (L2.trans L3))) XD V V V ?_
    refine WL.indexAddr (O1.mono j1) k1 (by omega) Xr ZY V V V V (fun p2 x1 U1 E1=>?_)
    obtain ⟨D1,C2,R1⟩:=E1
    obtain ⟨lv2,rfl,hb7,ZV,hb9,ZI,ZJ,ZL,O2⟩:=ZbZ R1
    refine Zc S3 C2 [U x1.kind,Za x1.col,Za x1.oth,U x1.v.k,U x1.v.n,Za x1.v.s,lv2] ZY V V V V V ?_
    have hi1 : Zj (dep + 1):=by have:=hdep64.1; have:=hdep64.2; constructor <;> omega
    refine WL.ar .add V dep 1 V V V hi1 ?_
    refine Zl S3 Ztu V V V (ih S3.imm x1 (dep + 1) _ R1 (by omega)) (fun w4 G4 S4 L4=>?_)
    have hi2 : Zj (nn + (Yi d x1 (dep + 1))):=by have:=hnn64.1; have:=hnn64.2; have:=(Zcv d x1 (dep + 1) (by omega)).1; have:=(Zcv d x1 (dep + 1) (by omega)).2; constructor <;> omega
    refine WL.ar .add V nn (Yi d x1 (dep + 1)) V V V hi2 ?_
    refine Zq k1 (by have:=Zb; omega) V V V ?_
    exact BK.mk' _ ⟨k1 + 1,(nn + (Yi d x1 (dep + 1))),G4,V,(L3.trans L4),S4,(ZS V),(by omega),(by exact ZlV ‹_› ‹_› (by omega)),(by have h9:=Zcv d x1 (dep + 1) (by omega); omega)⟩ (show c.l.length - (k1 + 1) < c.l.length - k1 by omega)
   exact RI S3 V (by exact (Zmk (by omega) ‹_› ‹_› (.inr (by omega))).symm)
  exact RI S3 V (by exact (Zmk (by omega) ‹_› ‹_› (.inl (by omega))).symm)
 exact RI S2 V (by exact (ZtB (by omega) ‹_›).symm)
theorem ZpY {G : GH} {w : World} (hG : G.In w) (d : Nat) (c : Cond) (cc : List Value) (hcc : (Xy d).rep G c cc) : CL Tryz.prog (nat_lit 145) #[.agg cc.toArray] [] w G fun _ _ r=>r = .bool (decide (Yi d c 1 ≤ 60)):=by
 refine Zg ft [] Tryz.func145 V V ?_
 have hS:=St.start (X:=[]) hG
 obtain ⟨lv1,rfl,B1,B2,Z7,Z5,ZD,hb6,O1⟩:=ZbZ hcc
 refine Z4 [U c.kind,Za c.col,Za c.oth,U c.v.k,U c.v.n,Za c.v.s,lv1] _ hS V V V (fun p1 w1 G1 L1 M1 C1 S1=>?_)
 refine Zc S1 C1 [U c.kind,Za c.col,Za c.oth,U c.v.k,U c.v.n,Za c.v.s,lv1] ZY V V V V V ?_
 refine Zl S1 Ztu V V V (ZuK _ S1.imm c 1 _ ((Xy _).mono L1 hcc) (by omega)) (fun w2 G2 S2 L2=>?_)
 refine Yd .leq V .i64 (Yi d c 1) 60 V V V ?_
 exact RB S2 V (by simp [Cmp.b])
end Go.Civ
set_option linter.unusedVariables false
set_option linter.unusedSimpArgs false
set_option maxRecDepth 100000
set_option maxHeartbeats 4000000
namespace Go.Civ
open Go.Proofs
theorem ZrG (d : Nat) : ∀ {G : GH} {w : World} (hG : G.In w) (c : Cond) (dep n : Int) (cc : List Value) (hcc : (Xy d).rep G c cc) (pb : Nat) (hpb : QJ w G (some (pb,(nat_lit 3),[U n]))) (hdep : 0 ≤ dep ∧ dep ≤ 13) (hn : 0 ≤ n ∧ n ≤ 60),CL Tryz.prog (nat_lit 155) #[.agg cc.toArray,U dep, .pointer (some ⟨pb,0,none⟩)] [pb] w G fun G' w' r=>(r = .bool ((Yn d c dep n).1)) ∧ QJ w' G' (some (pb,(nat_lit 3),[U ((Yn d c dep n).2)])):=by
 induction d
 ·intro G w hG c dep n cc hcc pb hpb hdep hn; exact (ZaD hcc).elim
 rename_i d ih
 intro G w hG c dep n cc hcc pb hpb hdep hn
 refine Zg ft [19] Tryz.func155 V V ?_
 have hdep64 : Zj dep:=⟨by omega,by omega⟩
 have N64 : Zj n:=⟨by omega,by omega⟩
 have hS:=St.lentO hG hpb
 obtain ⟨lv1,rfl,B1,B2,Z7,Z5,ZD,hb6,O1⟩:=ZaE hcc
 refine Z4 [U c.kind,Za c.col,Za c.oth,U c.v.k,U c.v.n,Za c.v.s,lv1] _ hS V V V (fun p1 w1 G1 L1 M1 C1 S1=>?_)
 refine WL.nilCheck _ V V <| Yz S1 0 _ _ _ 0 _ V V Zk V V V ?_
 have hi1 : Zj (n + 1):=by have:=N64.1; have:=N64.2; constructor <;> omega
 refine WL.ar .add V n 1 V V V hi1 <| WL.nilCheck _ V V ?_
 refine Z9 S1 0 [U (n + 1)] V V Zk V V V V V V (fun w2 S2=>?_)
 refine WL.nilCheck _ V V <| Yz S2 0 _ _ _ 0 _ V V Zk V V V ?_
 refine Z1 (n + 1) 60 V V V (fun h1=>?_) (fun h1=>?_)
 ·exact RT S2 V ⟨(congrArg Value.bool (by (rw [ZhE (by omega)]; done))),(S2.lentAt 0 V).cast (by (rw [ZhE (by omega)]; done))⟩
 refine Z1 dep 12 V V V (fun h2=>?_) (fun h2=>?_)
 ·exact RT S2 V ⟨(congrArg Value.bool (by (rw [ZhE (by omega)]; done))),(S2.lentAt 0 V).cast (by (rw [ZhE (by omega)]; done))⟩
 refine WL.build _ [] [U 0,U 0,Za []] Xv V ZiI V V V V ?_
 refine WL.alloc S2 Xv V V (fun b1 w3 N1 S3=>?_)
 refine Z9 S3 0 [U 0,U 0,Za []] V V Xv V V V V V V (fun w4 S4=>?_)
 obtain ⟨G2,L2,C2,S5⟩:=S4.shutB N1
 refine JN.go ft [19] (fun ρ1 w1=>∃ (op9 : Int),∃ (G3 : GH),G2.le G3 ∧ St w [pb] G G3 [some (pb,(nat_lit 3),[U (n + 1)])] w1 ∧ FR ρ1 [(1,U dep),(2, .pointer (some ⟨pb,0,none⟩)),(3,ZP p1),(8,U op9)] ∧ Zw c = decide ((c.l.length : Int) = op9)) ?_ ?_
 ·refine Z S5 (Xh.drop 0 (C1.mono L2)) Zk V V V ?_
  refine Ze c.kind 1 V V V (fun h3=>?_) (fun h3=>?_)
  ·rcases Classical.em (c.col = []) with h4 | h4
   ·refine dr [] [(31,Za c.col),(32, .bool true)] S5 ⟨fun _ hSw=>Z hSw (Xh.drop 1 (C1.mono L2)) Zv V V V <| nu V V,fun _=>Xn .eql V c.col [] true (by simp [h4,SCmp.b]) V V V <| nu V V,trivial⟩ (fun w6 S7=>?_)
    exact RT S7 V ⟨(congrArg Value.bool (by (rw [YD (by omega) (by omega) (by unfold Zw ZE Yc ZG; (simp_all [Cmp.b,SCmp.b]; done))]; done))),(S7.lentAt 0 V).cast (by (rw [YD (by omega) (by omega) (by unfold Zw ZE Yc ZG; (simp_all [Cmp.b,SCmp.b]; done))]; done))⟩
   rcases Bool.eq_false_or_eq_true (!((SCmp.b .eql c.oth []) == (Yo c.v))) with h5 | h5
   ·refine dr [] [(31,Za c.col),(32, .bool false),(35,Za c.oth),(36, .bool (SCmp.b .eql c.oth [])),(38, .agg #[U c.v.k,U c.v.n,Za c.v.s]),(39, .bool (Yo c.v)),(40, .bool true)] S5 ⟨fun _ hSw=>Z hSw (Xh.drop 1 (C1.mono L2)) Zv V V V <| nu V V,fun _=>Xn .eql V c.col [] false (by simp [h4,SCmp.b]) V V V <| nu V V,fun _ hSw=>Z hSw (Xh.drop 2 (C1.mono L2)) Zv V V V <| nu V V,fun _=>Zn .eql V c.oth [] V V V <| nu V V,fun _ hSw=>Zc hSw (Xh.drop 3 (C1.mono L2)) [U c.v.k,U c.v.n,Za c.v.s] Xv V V V V V <| nu V V,fun _ hSw=>ZB hSw Zdg V V V (ZaL hSw.imm c.v _ (XX c.v Z5 ZD hb6)) V,fun _=>Za7 (SCmp.b .eql c.oth []) (Yo c.v) ul4 V V V <| nu (congrArg Value.bool h5.symm) V,trivial⟩ (fun w7 S8=>?_)
    exact RT S8 V ⟨(congrArg Value.bool (by (rw [YD (by omega) (by omega) (ZdH (by exact .inl ‹_›) ‹_›)]; done))),(S8.lentAt 0 V).cast (by (rw [YD (by omega) (by omega) (ZdH (by exact .inl ‹_›) ‹_›)]; done))⟩
   rcases Classical.em (c.oth = []) with h6 | h6
   ·refine dr [] [(31,Za c.col),(32, .bool false),(35,Za c.oth),(36, .bool (SCmp.b .eql c.oth [])),(38, .agg #[U c.v.k,U c.v.n,Za c.v.s]),(39, .bool (Yo c.v)),(40, .bool false),(44,Za c.oth),(45, .bool false)] S5 ⟨fun _ hSw=>Z hSw (Xh.drop 1 (C1.mono L2)) Zv V V V <| nu V V,fun _=>Xn .eql V c.col [] false (by simp [h4,SCmp.b]) V V V <| nu V V,fun _ hSw=>Z hSw (Xh.drop 2 (C1.mono L2)) Zv V V V <| nu V V,fun _=>Zn .eql V c.oth [] V V V <| nu V V,fun _ hSw=>Zc hSw (Xh.drop 3 (C1.mono L2)) [U c.v.k,U c.v.n,Za c.v.s] Xv V V V V V <| nu V V,fun _ hSw=>ZB hSw Zdg V V V (ZaL hSw.imm c.v _ (XX c.v Z5 ZD hb6)) V,fun _=>Za7 (SCmp.b .eql c.oth []) (Yo c.v) ul4 V V V <| nu (congrArg Value.bool h5.symm) V,fun _ hSw=>Z hSw (Xh.drop 2 (C1.mono L2)) Zv V V V <| nu V V,fun _=>Xn .neq V c.oth [] false (by simp [h6,SCmp.b]) V V V <| nu V V,trivial⟩ (fun w9 S9=>?_)
    exact ⟨0,G2,(G2.le_refl),S9,(ZS V),(by exact Zmu (by exact .inl ‹_›) ‹_› ‹_› ‹_›)⟩
   rcases Classical.em (c.v = (Val.mk 0 0 [])) with h7 | h7
   ·refine dr [] [(31,Za c.col),(32, .bool false),(35,Za c.oth),(36, .bool (SCmp.b .eql c.oth [])),(38, .agg #[U c.v.k,U c.v.n,Za c.v.s]),(39, .bool (Yo c.v)),(40, .bool false),(44,Za c.oth),(45, .bool true),(48, .agg #[U c.v.k,U c.v.n,Za c.v.s]),(49, .agg #[U 0,U 0,Za []]),(50, .bool false)] S5 ⟨fun _ hSw=>Z hSw (Xh.drop 1 (C1.mono L2)) Zv V V V <| nu V V,fun _=>Xn .eql V c.col [] false (by simp [h4,SCmp.b]) V V V <| nu V V,fun _ hSw=>Z hSw (Xh.drop 2 (C1.mono L2)) Zv V V V <| nu V V,fun _=>Zn .eql V c.oth [] V V V <| nu V V,fun _ hSw=>Zc hSw (Xh.drop 3 (C1.mono L2)) [U c.v.k,U c.v.n,Za c.v.s] Xv V V V V V <| nu V V,fun _ hSw=>ZB hSw Zdg V V V (ZaL hSw.imm c.v _ (XX c.v Z5 ZD hb6)) V,fun _=>Za7 (SCmp.b .eql c.oth []) (Yo c.v) ul4 V V V <| nu (congrArg Value.bool h5.symm) V,fun _ hSw=>Z hSw (Xh.drop 2 (C1.mono L2)) Zv V V V <| nu V V,fun _=>Xn .neq V c.oth [] true (by simp [h6,SCmp.b]) V V V <| nu V V,fun _ hSw=>Zc hSw (Xh.drop 3 (C1.mono L2)) [U c.v.k,U c.v.n,Za c.v.s] Xv V V V V V <| nu V V,fun _ hSw=>Zc hSw C2 [U 0,U 0,Za []] Xv V V V V V <| nu V V,fun _=>Zbl false (ZaO c.v (Val.mk 0 0 [])) ZcB (by simp [h7]) V V V <| nu V V,trivial⟩ (fun w10 S10=>?_)
    exact ⟨0,G2,(G2.le_refl),S10,(ZS V),(by exact Zmv (by exact .inl ‹_›) ‹_› ‹_› ‹_›)⟩
   refine dr [] [(31,Za c.col),(32, .bool false),(35,Za c.oth),(36, .bool (SCmp.b .eql c.oth [])),(38, .agg #[U c.v.k,U c.v.n,Za c.v.s]),(39, .bool (Yo c.v)),(40, .bool false),(44,Za c.oth),(45, .bool true),(48, .agg #[U c.v.k,U c.v.n,Za c.v.s]),(49, .agg #[U 0,U 0,Za []]),(50, .bool true)] S5 ⟨fun _ hSw=>Z hSw (Xh.drop 1 (C1.mono L2)) Zv V V V <| nu V V,fun _=>Xn .eql V c.col [] false (by simp [h4,SCmp.b]) V V V <| nu V V,fun _ hSw=>Z hSw (Xh.drop 2 (C1.mono L2)) Zv V V V <| nu V V,fun _=>Zn .eql V c.oth [] V V V <| nu V V,fun _ hSw=>Zc hSw (Xh.drop 3 (C1.mono L2)) [U c.v.k,U c.v.n,Za c.v.s] Xv V V V V V <| nu V V,fun _ hSw=>ZB hSw Zdg V V V (ZaL hSw.imm c.v _ (XX c.v Z5 ZD hb6)) V,fun _=>Za7 (SCmp.b .eql c.oth []) (Yo c.v) ul4 V V V <| nu (congrArg Value.bool h5.symm) V,fun _ hSw=>Z hSw (Xh.drop 2 (C1.mono L2)) Zv V V V <| nu V V,fun _=>Xn .neq V c.oth [] true (by simp [h6,SCmp.b]) V V V <| nu V V,fun _ hSw=>Zc hSw (Xh.drop 3 (C1.mono L2)) [U c.v.k,U c.v.n,Za c.v.s] Xv V V V V V <| nu V V,fun _ hSw=>Zc hSw C2 [U 0,U 0,Za []] Xv V V V V V <| nu V V,fun _=>Zbl true (ZaO c.v (Val.mk 0 0 [])) ZcB (by simp [h7]) V V V <| nu V V,trivial⟩ (fun w11 S11=>?_)
   exact RT S11 V ⟨(congrArg Value.bool (by (rw [YD (by omega) (by omega) (by unfold Zw ZE Yc ZG; (simp_all [Cmp.b,SCmp.b]; done))]; done))),(S11.lentAt 0 V).cast (by (rw [YD (by omega) (by omega) (by unfold Zw ZE Yc ZG; (simp_all [Cmp.b,SCmp.b]; done))]; done))⟩
  refine Ze c.kind 2 V V V (fun h8=>?_) (fun h8=>?_)
  ·rcases Classical.em (c.col = []) with h9 | h9
   ·refine dr [] [(31,Za c.col),(32, .bool true)] S5 ⟨fun _ hSw=>Z hSw (Xh.drop 1 (C1.mono L2)) Zv V V V <| nu V V,fun _=>Xn .eql V c.col [] true (by simp [h9,SCmp.b]) V V V <| nu V V,trivial⟩ (fun w12 S12=>?_)
    exact RT S12 V ⟨(congrArg Value.bool (by (rw [YD (by omega) (by omega) (by unfold Zw ZE Yc ZG; (simp_all [Cmp.b,SCmp.b]; done))]; done))),(S12.lentAt 0 V).cast (by (rw [YD (by omega) (by omega) (by unfold Zw ZE Yc ZG; (simp_all [Cmp.b,SCmp.b]; done))]; done))⟩
   rcases Bool.eq_false_or_eq_true (!((SCmp.b .eql c.oth []) == (Yo c.v))) with h10 | h10
   ·refine dr [] [(31,Za c.col),(32, .bool false),(35,Za c.oth),(36, .bool (SCmp.b .eql c.oth [])),(38, .agg #[U c.v.k,U c.v.n,Za c.v.s]),(39, .bool (Yo c.v)),(40, .bool true)] S5 ⟨fun _ hSw=>Z hSw (Xh.drop 1 (C1.mono L2)) Zv V V V <| nu V V,fun _=>Xn .eql V c.col [] false (by simp [h9,SCmp.b]) V V V <| nu V V,fun _ hSw=>Z hSw (Xh.drop 2 (C1.mono L2)) Zv V V V <| nu V V,fun _=>Zn .eql V c.oth [] V V V <| nu V V,fun _ hSw=>Zc hSw (Xh.drop 3 (C1.mono L2)) [U c.v.k,U c.v.n,Za c.v.s] Xv V V V V V <| nu V V,fun _ hSw=>ZB hSw Zdg V V V (ZaL hSw.imm c.v _ (XX c.v Z5 ZD hb6)) V,fun _=>Za7 (SCmp.b .eql c.oth []) (Yo c.v) ul4 V V V <| nu (congrArg Value.bool h10.symm) V,trivial⟩ (fun w13 S13=>?_)
    exact RT S13 V ⟨(congrArg Value.bool (by (rw [YD (by omega) (by omega) (ZdH (by exact .inr ‹_›) ‹_›)]; done))),(S13.lentAt 0 V).cast (by (rw [YD (by omega) (by omega) (ZdH (by exact .inr ‹_›) ‹_›)]; done))⟩
   rcases Classical.em (c.oth = []) with h11 | h11
   ·refine dr [] [(31,Za c.col),(32, .bool false),(35,Za c.oth),(36, .bool (SCmp.b .eql c.oth [])),(38, .agg #[U c.v.k,U c.v.n,Za c.v.s]),(39, .bool (Yo c.v)),(40, .bool false),(44,Za c.oth),(45, .bool false)] S5 ⟨fun _ hSw=>Z hSw (Xh.drop 1 (C1.mono L2)) Zv V V V <| nu V V,fun _=>Xn .eql V c.col [] false (by simp [h9,SCmp.b]) V V V <| nu V V,fun _ hSw=>Z hSw (Xh.drop 2 (C1.mono L2)) Zv V V V <| nu V V,fun _=>Zn .eql V c.oth [] V V V <| nu V V,fun _ hSw=>Zc hSw (Xh.drop 3 (C1.mono L2)) [U c.v.k,U c.v.n,Za c.v.s] Xv V V V V V <| nu V V,fun _ hSw=>ZB hSw Zdg V V V (ZaL hSw.imm c.v _ (XX c.v Z5 ZD hb6)) V,fun _=>Za7 (SCmp.b .eql c.oth []) (Yo c.v) ul4 V V V <| nu (congrArg Value.bool h10.symm) V,fun _ hSw=>Z hSw (Xh.drop 2 (C1.mono L2)) Zv V V V <| nu V V,fun _=>Xn .neq V c.oth [] false (by simp [h11,SCmp.b]) V V V <| nu V V,trivial⟩ (fun w14 S14=>?_)
    exact ⟨0,G2,(G2.le_refl),S14,(ZS V),(by exact Zmu (by exact .inr ‹_›) ‹_› ‹_› ‹_›)⟩
   rcases Classical.em (c.v = (Val.mk 0 0 [])) with h12 | h12
   ·refine dr [] [(31,Za c.col),(32, .bool false),(35,Za c.oth),(36, .bool (SCmp.b .eql c.oth [])),(38, .agg #[U c.v.k,U c.v.n,Za c.v.s]),(39, .bool (Yo c.v)),(40, .bool false),(44,Za c.oth),(45, .bool true),(48, .agg #[U c.v.k,U c.v.n,Za c.v.s]),(49, .agg #[U 0,U 0,Za []]),(50, .bool false)] S5 ⟨fun _ hSw=>Z hSw (Xh.drop 1 (C1.mono L2)) Zv V V V <| nu V V,fun _=>Xn .eql V c.col [] false (by simp [h9,SCmp.b]) V V V <| nu V V,fun _ hSw=>Z hSw (Xh.drop 2 (C1.mono L2)) Zv V V V <| nu V V,fun _=>Zn .eql V c.oth [] V V V <| nu V V,fun _ hSw=>Zc hSw (Xh.drop 3 (C1.mono L2)) [U c.v.k,U c.v.n,Za c.v.s] Xv V V V V V <| nu V V,fun _ hSw=>ZB hSw Zdg V V V (ZaL hSw.imm c.v _ (XX c.v Z5 ZD hb6)) V,fun _=>Za7 (SCmp.b .eql c.oth []) (Yo c.v) ul4 V V V <| nu (congrArg Value.bool h10.symm) V,fun _ hSw=>Z hSw (Xh.drop 2 (C1.mono L2)) Zv V V V <| nu V V,fun _=>Xn .neq V c.oth [] true (by simp [h11,SCmp.b]) V V V <| nu V V,fun _ hSw=>Zc hSw (Xh.drop 3 (C1.mono L2)) [U c.v.k,U c.v.n,Za c.v.s] Xv V V V V V <| nu V V,fun _ hSw=>Zc hSw C2 [U 0,U 0,Za []] Xv V V V V V <| nu V V,fun _=>Zbl false (ZaO c.v (Val.mk 0 0 [])) ZcB (by simp [h12]) V V V <| nu V V,trivial⟩ (fun w15 S15=>?_)
    exact ⟨0,G2,(G2.le_refl),S15,(ZS V),(by exact Zmv (by exact .inr ‹_›) ‹_› ‹_› ‹_›)⟩
   refine dr [] [(31,Za c.col),(32, .bool false),(35,Za c.oth),(36, .bool (SCmp.b .eql c.oth [])),(38, .agg #[U c.v.k,U c.v.n,Za c.v.s]),(39, .bool (Yo c.v)),(40, .bool false),(44,Za c.oth),(45, .bool true),(48, .agg #[U c.v.k,U c.v.n,Za c.v.s]),(49, .agg #[U 0,U 0,Za []]),(50, .bool true)] S5 ⟨fun _ hSw=>Z hSw (Xh.drop 1 (C1.mono L2)) Zv V V V <| nu V V,fun _=>Xn .eql V c.col [] false (by simp [h9,SCmp.b]) V V V <| nu V V,fun _ hSw=>Z hSw (Xh.drop 2 (C1.mono L2)) Zv V V V <| nu V V,fun _=>Zn .eql V c.oth [] V V V <| nu V V,fun _ hSw=>Zc hSw (Xh.drop 3 (C1.mono L2)) [U c.v.k,U c.v.n,Za c.v.s] Xv V V V V V <| nu V V,fun _ hSw=>ZB hSw Zdg V V V (ZaL hSw.imm c.v _ (XX c.v Z5 ZD hb6)) V,fun _=>Za7 (SCmp.b .eql c.oth []) (Yo c.v) ul4 V V V <| nu (congrArg Value.bool h10.symm) V,fun _ hSw=>Z hSw (Xh.drop 2 (C1.mono L2)) Zv V V V <| nu V V,fun _=>Xn .neq V c.oth [] true (by simp [h11,SCmp.b]) V V V <| nu V V,fun _ hSw=>Zc hSw (Xh.drop 3 (C1.mono L2)) [U c.v.k,U c.v.n,Za c.v.s] Xv V V V V V <| nu V V,fun _ hSw=>Zc hSw C2 [U 0,U 0,Za []] Xv V V V V V <| nu V V,fun _=>Zbl true (ZaO c.v (Val.mk 0 0 [])) ZcB (by simp [h12]) V V V <| nu V V,trivial⟩ (fun w16 S16=>?_)
   exact RT S16 V ⟨(congrArg Value.bool (by (rw [YD (by omega) (by omega) (by unfold Zw ZE Yc ZG; (simp_all [Cmp.b,SCmp.b]; done))]; done))),(S16.lentAt 0 V).cast (by (rw [YD (by omega) (by omega) (by unfold Zw ZE Yc ZG; (simp_all [Cmp.b,SCmp.b]; done))]; done))⟩
  refine Ze c.kind 3 V V V (fun h13=>?_) (fun h13=>?_)
  ·refine Z S5 (Xh.drop 1 (C1.mono L2)) Zv V V V <| Zn .neq V c.col [] V V V ?_
   refine WL.split (fun h0=>?_) (fun h0=>?_)
   ·have h14 : c.col ≠ []:=by simpa [SCmp.b] using h0
    clear h0
    exact RT S5 V ⟨(congrArg Value.bool (by (rw [YD (by omega) (by omega) (by unfold Zw ZE Yc ZG; (simp_all [Cmp.b,SCmp.b]; done))]; done))),(S5.lentAt 0 V).cast (by (rw [YD (by omega) (by omega) (by unfold Zw ZE Yc ZG; (simp_all [Cmp.b,SCmp.b]; done))]; done))⟩
   have h14 : c.col = []:=by simpa [SCmp.b] using h0
   clear h0
   refine Z S5 (Xh.drop 2 (C1.mono L2)) Zv V V V <| Zn .neq V c.oth [] V V V ?_
   refine WL.split (fun h0=>?_) (fun h0=>?_)
   ·have h15 : c.oth ≠ []:=by simpa [SCmp.b] using h0
    clear h0
    exact RT S5 V ⟨(congrArg Value.bool (by (rw [YD (by omega) (by omega) (by unfold Zw ZE Yc ZG; (simp_all [Cmp.b,SCmp.b]; done))]; done))),(S5.lentAt 0 V).cast (by (rw [YD (by omega) (by omega) (by unfold Zw ZE Yc ZG; (simp_all [Cmp.b,SCmp.b]; done))]; done))⟩
   have h15 : c.oth = []:=by simpa [SCmp.b] using h0
   clear h0
   refine Zc S5 (Xh.drop 3 (C1.mono L2)) [U c.v.k,U c.v.n,Za c.v.s] Xv V V V V V <| Zc S5 C2 [U 0,U 0,Za []] Xv V V V V V <| ZaZ (ZaO c.v (Val.mk 0 0 [])) ZcB V V V ?_
   refine WL.split (fun (h16 : (!decide (c.v = (Val.mk 0 0 []))) = true)=>?_) (fun (h16 : (!decide (c.v = (Val.mk 0 0 []))) = false)=>?_)
   ·exact RT S5 V ⟨(congrArg Value.bool (by (rw [YD (by omega) (by omega) (by unfold Zw ZE Yc ZG; (simp_all [Cmp.b,SCmp.b]; done))]; done))),(S5.lentAt 0 V).cast (by (rw [YD (by omega) (by omega) (by unfold Zw ZE Yc ZG; (simp_all [Cmp.b,SCmp.b]; done))]; done))⟩
   refine Zc8 3 3 S5 V (fun b2 w17 hm1 ha1 S17=>?_)
   refine Qn 4 1 S17 hm1 ha1 Za1 QC QC (by constructor <;> decide) (by constructor <;> decide) (by decide) V V V V (fun w18 hm2 S18=>?_)
   refine Qn 5 2 S18 hm2 ha1 Za1 QC QC (by constructor <;> decide) (by constructor <;> decide) (by decide) V V V V (fun w19 hm3 S19=>?_)
   refine Qn 6 2 S19 hm3 ha1 Za1 QC QC (by constructor <;> decide) (by constructor <;> decide) (by decide) V V V V (fun w20 hm4 S20=>?_)
   refine Z S20 (Xh.drop 0 (C1.mono L2)) Zk V V V ?_
   refine ZcV c.kind hm4 Za1 QC QC B1 (by rfl) V V V (fun cc1 hat1=>?_)
   have hcc : cc1 = (ZG c.kind : Int):=by exact Zvq ‹_› hat1
   exact ⟨cc1,G2,(G2.le_refl),S20,(ZS V),(by exact Zgp (by omega) ‹_› ‹_› (by exact of_decide_eq_true (ZhK ‹_›)) ‹_›)⟩
  refine Ze c.kind 4 V V V (fun h17=>?_) (fun h17=>?_)
  ·refine Z S5 (Xh.drop 1 (C1.mono L2)) Zv V V V <| Zn .neq V c.col [] V V V ?_
   refine WL.split (fun h0=>?_) (fun h0=>?_)
   ·have h18 : c.col ≠ []:=by simpa [SCmp.b] using h0
    clear h0
    exact RT S5 V ⟨(congrArg Value.bool (by (rw [YD (by omega) (by omega) (by unfold Zw ZE Yc ZG; (simp_all [Cmp.b,SCmp.b]; done))]; done))),(S5.lentAt 0 V).cast (by (rw [YD (by omega) (by omega) (by unfold Zw ZE Yc ZG; (simp_all [Cmp.b,SCmp.b]; done))]; done))⟩
   have h18 : c.col = []:=by simpa [SCmp.b] using h0
   clear h0
   refine Z S5 (Xh.drop 2 (C1.mono L2)) Zv V V V <| Zn .neq V c.oth [] V V V ?_
   refine WL.split (fun h0=>?_) (fun h0=>?_)
   ·have h19 : c.oth ≠ []:=by simpa [SCmp.b] using h0
    clear h0
    exact RT S5 V ⟨(congrArg Value.bool (by (rw [YD (by omega) (by omega) (by unfold Zw ZE Yc ZG; (simp_all [Cmp.b,SCmp.b]; done))]; done))),(S5.lentAt 0 V).cast (by (rw [YD (by omega) (by omega) (by unfold Zw ZE Yc ZG; (simp_all [Cmp.b,SCmp.b]; done))]; done))⟩
   have h19 : c.oth = []:=by simpa [SCmp.b] using h0
   clear h0
   refine Zc S5 (Xh.drop 3 (C1.mono L2)) [U c.v.k,U c.v.n,Za c.v.s] Xv V V V V V <| Zc S5 C2 [U 0,U 0,Za []] Xv V V V V V <| ZaZ (ZaO c.v (Val.mk 0 0 [])) ZcB V V V ?_
   refine WL.split (fun (h20 : (!decide (c.v = (Val.mk 0 0 []))) = true)=>?_) (fun (h20 : (!decide (c.v = (Val.mk 0 0 []))) = false)=>?_)
   ·exact RT S5 V ⟨(congrArg Value.bool (by (rw [YD (by omega) (by omega) (by unfold Zw ZE Yc ZG; (simp_all [Cmp.b,SCmp.b]; done))]; done))),(S5.lentAt 0 V).cast (by (rw [YD (by omega) (by omega) (by unfold Zw ZE Yc ZG; (simp_all [Cmp.b,SCmp.b]; done))]; done))⟩
   refine Zc8 3 3 S5 V (fun b3 w21 hm5 ha2 S21=>?_)
   refine Qn 4 1 S21 hm5 ha2 Za1 QC QC (by constructor <;> decide) (by constructor <;> decide) (by decide) V V V V (fun w22 hm6 S22=>?_)
   refine Qn 5 2 S22 hm6 ha2 Za1 QC QC (by constructor <;> decide) (by constructor <;> decide) (by decide) V V V V (fun w23 hm7 S23=>?_)
   refine Qn 6 2 S23 hm7 ha2 Za1 QC QC (by constructor <;> decide) (by constructor <;> decide) (by decide) V V V V (fun w24 hm8 S24=>?_)
   refine Z S24 (Xh.drop 0 (C1.mono L2)) Zk V V V ?_
   refine ZcV c.kind hm8 Za1 QC QC B1 (by rfl) V V V (fun cc2 hat2=>?_)
   have hcc : cc2 = (ZG c.kind : Int):=by exact Zvr ‹_› hat2
   exact ⟨cc2,G2,(G2.le_refl),S24,(ZS V),(by exact Zgp (by omega) ‹_› ‹_› (by exact of_decide_eq_true (ZhK ‹_›)) ‹_›)⟩
  refine Ze c.kind 5 V V V (fun h21=>?_) (fun h21=>?_)
  ·refine Z S5 (Xh.drop 1 (C1.mono L2)) Zv V V V <| Zn .neq V c.col [] V V V ?_
   refine WL.split (fun h0=>?_) (fun h0=>?_)
   ·have h22 : c.col ≠ []:=by simpa [SCmp.b] using h0
    clear h0
    exact RT S5 V ⟨(congrArg Value.bool (by (rw [YD (by omega) (by omega) (by unfold Zw ZE Yc ZG; (simp_all [Cmp.b,SCmp.b]; done))]; done))),(S5.lentAt 0 V).cast (by (rw [YD (by omega) (by omega) (by unfold Zw ZE Yc ZG; (simp_all [Cmp.b,SCmp.b]; done))]; done))⟩
   have h22 : c.col = []:=by simpa [SCmp.b] using h0
   clear h0
   refine Z S5 (Xh.drop 2 (C1.mono L2)) Zv V V V <| Zn .neq V c.oth [] V V V ?_
   refine WL.split (fun h0=>?_) (fun h0=>?_)
   ·have h23 : c.oth ≠ []:=by simpa [SCmp.b] using h0
    clear h0
    exact RT S5 V ⟨(congrArg Value.bool (by (rw [YD (by omega) (by omega) (by unfold Zw ZE Yc ZG; (simp_all [Cmp.b,SCmp.b]; done))]; done))),(S5.lentAt 0 V).cast (by (rw [YD (by omega) (by omega) (by unfold Zw ZE Yc ZG; (simp_all [Cmp.b,SCmp.b]; done))]; done))⟩
   have h23 : c.oth = []:=by simpa [SCmp.b] using h0
   clear h0
   refine Zc S5 (Xh.drop 3 (C1.mono L2)) [U c.v.k,U c.v.n,Za c.v.s] Xv V V V V V <| Zc S5 C2 [U 0,U 0,Za []] Xv V V V V V <| ZaZ (ZaO c.v (Val.mk 0 0 [])) ZcB V V V ?_
   refine WL.split (fun (h24 : (!decide (c.v = (Val.mk 0 0 []))) = true)=>?_) (fun (h24 : (!decide (c.v = (Val.mk 0 0 []))) = false)=>?_)
   ·exact RT S5 V ⟨(congrArg Value.bool (by (rw [YD (by omega) (by omega) (by unfold Zw ZE Yc ZG; (simp_all [Cmp.b,SCmp.b]; done))]; done))),(S5.lentAt 0 V).cast (by (rw [YD (by omega) (by omega) (by unfold Zw ZE Yc ZG; (simp_all [Cmp.b,SCmp.b]; done))]; done))⟩
   refine Zc8 3 3 S5 V (fun b4 w25 hm9 ha3 S25=>?_)
   refine Qn 4 1 S25 hm9 ha3 Za1 QC QC (by constructor <;> decide) (by constructor <;> decide) (by decide) V V V V (fun w26 hm10 S26=>?_)
   refine Qn 5 2 S26 hm10 ha3 Za1 QC QC (by constructor <;> decide) (by constructor <;> decide) (by decide) V V V V (fun w27 hm11 S27=>?_)
   refine Qn 6 2 S27 hm11 ha3 Za1 QC QC (by constructor <;> decide) (by constructor <;> decide) (by decide) V V V V (fun w28 hm12 S28=>?_)
   refine Z S28 (Xh.drop 0 (C1.mono L2)) Zk V V V ?_
   refine ZcV c.kind hm12 Za1 QC QC B1 (by rfl) V V V (fun cc3 hat3=>?_)
   have hcc : cc3 = (ZG c.kind : Int):=by exact Zvs ‹_› hat3
   exact ⟨cc3,G2,(G2.le_refl),S28,(ZS V),(by exact Zgp (by omega) ‹_› ‹_› (by exact of_decide_eq_true (ZhK ‹_›)) ‹_›)⟩
  refine Ze c.kind 6 V V V (fun h25=>?_) (fun h25=>?_)
  ·refine Z S5 (Xh.drop 1 (C1.mono L2)) Zv V V V <| Zn .neq V c.col [] V V V ?_
   refine WL.split (fun h0=>?_) (fun h0=>?_)
   ·have h26 : c.col ≠ []:=by simpa [SCmp.b] using h0
    clear h0
    exact RT S5 V ⟨(congrArg Value.bool (by (rw [YD (by omega) (by omega) (by unfold Zw ZE Yc ZG; (simp_all [Cmp.b,SCmp.b]; done))]; done))),(S5.lentAt 0 V).cast (by (rw [YD (by omega) (by omega) (by unfold Zw ZE Yc ZG; (simp_all [Cmp.b,SCmp.b]; done))]; done))⟩
   have h26 : c.col = []:=by simpa [SCmp.b] using h0
   clear h0
   refine Z S5 (Xh.drop 2 (C1.mono L2)) Zv V V V <| Zn .neq V c.oth [] V V V ?_
   refine WL.split (fun h0=>?_) (fun h0=>?_)
   ·have h27 : c.oth ≠ []:=by simpa [SCmp.b] using h0
    clear h0
    exact RT S5 V ⟨(congrArg Value.bool (by (rw [YD (by omega) (by omega) (by unfold Zw ZE Yc ZG; (simp_all [Cmp.b,SCmp.b]; done))]; done))),(S5.lentAt 0 V).cast (by (rw [YD (by omega) (by omega) (by unfold Zw ZE Yc ZG; (simp_all [Cmp.b,SCmp.b]; done))]; done))⟩
   have h27 : c.oth = []:=by simpa [SCmp.b] using h0
   clear h0
   refine Zc S5 (Xh.drop 3 (C1.mono L2)) [U c.v.k,U c.v.n,Za c.v.s] Xv V V V V V <| Zc S5 C2 [U 0,U 0,Za []] Xv V V V V V <| ZaZ (ZaO c.v (Val.mk 0 0 [])) ZcB V V V ?_
   refine WL.split (fun (h28 : (!decide (c.v = (Val.mk 0 0 []))) = true)=>?_) (fun (h28 : (!decide (c.v = (Val.mk 0 0 []))) = false)=>?_)
   ·exact RT S5 V ⟨(congrArg Value.bool (by (rw [YD (by omega) (by omega) (by unfold Zw ZE Yc ZG; (simp_all [Cmp.b,SCmp.b]; done))]; done))),(S5.lentAt 0 V).cast (by (rw [YD (by omega) (by omega) (by unfold Zw ZE Yc ZG; (simp_all [Cmp.b,SCmp.b]; done))]; done))⟩
   refine Zc8 3 3 S5 V (fun b5 w29 hm13 ha4 S29=>?_)
   refine Qn 4 1 S29 hm13 ha4 Za1 QC QC (by constructor <;> decide) (by constructor <;> decide) (by decide) V V V V (fun w30 hm14 S30=>?_)
   refine Qn 5 2 S30 hm14 ha4 Za1 QC QC (by constructor <;> decide) (by constructor <;> decide) (by decide) V V V V (fun w31 hm15 S31=>?_)
   refine Qn 6 2 S31 hm15 ha4 Za1 QC QC (by constructor <;> decide) (by constructor <;> decide) (by decide) V V V V (fun w32 hm16 S32=>?_)
   refine Z S32 (Xh.drop 0 (C1.mono L2)) Zk V V V ?_
   refine ZcV c.kind hm16 Za1 QC QC B1 (by rfl) V V V (fun cc4 hat4=>?_)
   have hcc : cc4 = (ZG c.kind : Int):=by exact Zvt ‹_› hat4
   exact ⟨cc4,G2,(G2.le_refl),S32,(ZS V),(by exact Zgp (by omega) ‹_› ‹_› (by exact of_decide_eq_true (ZhK ‹_›)) ‹_›)⟩
  exact RT S5 V ⟨(congrArg Value.bool (by (rw [YD (by omega) (by omega) (by unfold Zw ZE Yc ZG; (simp_all [Cmp.b,SCmp.b]; done))]; done))),(S5.lentAt 0 V).cast (by (rw [YD (by omega) (by omega) (by unfold Zw ZE Yc ZG; (simp_all [Cmp.b,SCmp.b]; done))]; done))⟩
 rintro ρ1 w5 ⟨op9,G3,L3,S6,F9,f1⟩
 refine F9.set ?_
 have N9:=(by assumption : Zw c = decide ((c.l.length : Int) = op9))
 have j1:=(L2.trans L3)
 refine Z S6 (Xh.drop 6 (C1.mono j1)) XD V V V ?_
 have V1:=O1.bound
 have j2:=((L1.trans L2).trans L3)
 refine Zm (O1.mono j2) Xr V V ?_
 refine Zz (c.l.length : Int) op9 V V V (fun h29=>?_) (fun h29=>?_)
 ·exact RT S6 V ⟨(congrArg Value.bool (by (rw [YD (by omega) (by omega) (by rw [N9]; exact decide_eq_false ‹_›)]; done))),(S6.lentAt 0 V).cast (by (rw [YD (by omega) (by omega) (by rw [N9]; exact decide_eq_false ‹_›)]; done))⟩
 have hpl : Zw c = true:=by rw [N9]; exact decide_eq_true ‹_›
 refine Z S6 (Xh.drop 6 (C1.mono j1)) XD V V V ?_
 have V2:=O1.bound
 refine Zm (O1.mono j2) Xr V V ?_
 refine LP.go ft [19] (fun m ρ1 w1=>∃ (k1 : Nat),∃ (mm : Int),∃ (G4 : GH),m = c.l.length - k1 ∧ G3.le G4 ∧ St w [pb] G G4 [some (pb,(nat_lit 3),[U mm])] w1 ∧ FR ρ1 [(1,U dep),(2, .pointer (some ⟨pb,0,none⟩)),(83,lv1),(84,U (c.l.length : Int)),(85,U (k1 : Int))] ∧ k1 ≤ c.l.length ∧ Xe (fun x m=>Yn d x (dep + 1) m) (c.l.take k1) (n + 1) = (true,mm) ∧ 0 ≤ mm ∧ mm ≤ 60) _ ⟨0,(n + 1),G3,V,(G3.le_refl),S6,(ZS V),(by omega),(by rfl),(by omega)⟩ ?_
 rintro m ρ1 w33 ⟨k1,mm,G4,rfl,L4,S33,F9,f2,f3,f4⟩
 refine F9.set ?_
 clear F9
 have hm64 : Zj mm:=⟨by omega,by omega⟩
 refine Zp (k1 : Int) (c.l.length : Int) V V V (fun h30=>?_) (fun h30=>?_)
 ·refine WL.indexAddr (O1.mono (j2.trans L4)) k1 (by omega) Xr ZY V V V V (fun p2 x1 U1 E1=>?_)
  obtain ⟨D1,C3,R1⟩:=E1
  obtain ⟨lv2,rfl,hb7,ZV,hb9,ZI,ZJ,ZL,O2⟩:=ZbZ R1
  refine Zc S33 C3 [U x1.kind,Za x1.col,Za x1.oth,U x1.v.k,U x1.v.n,Za x1.v.s,lv2] ZY V V V V V ?_
  refine WL.alloc S33 ZY V V (fun b6 w34 N2 S34=>?_)
  refine Z9 S34 0 [U x1.kind,Za x1.col,Za x1.oth,U x1.v.k,U x1.v.n,Za x1.v.s,lv2] V V ZY V V (by simp only [YE,O2] <;> rfl) V V V (fun w35 S35=>?_)
  obtain ⟨G5,L5,C4,S36⟩:=S35.shutB N2
  refine Zc S36 C4 [U x1.kind,Za x1.col,Za x1.oth,U x1.v.k,U x1.v.n,Za x1.v.s,lv2] ZY V V V V V ?_
  have hi2 : Zj (dep + 1):=by have:=hdep64.1; have:=hdep64.2; constructor <;> omega
  refine WL.ar .add V dep 1 V V V hi2 ?_
  refine Zax Ztq V V V (ih S36.imm x1 (dep + 1) mm _ ((Xy _).mono L5 R1) _ (S36.lentAt 0 V) (by omega) (by omega)) (fun w36 G6 r1 hres1 ⟨P1,hlc1⟩=>?_)
  have S37 : St w [pb] G G6 [some (pb,(nat_lit 3),[U ((Yn d x1 (dep + 1) mm).2)])] w36:=S36.callX 0 V [U ((Yn d x1 (dep + 1) mm).2)] hres1 (hlc1 _ V).1
  have L6:=hres1.le
  subst P1
  refine WL.split (fun (h31 : ((Yn d x1 (dep + 1) mm).1) = true)=>?_) (fun (h31 : ((Yn d x1 (dep + 1) mm).1) = false)=>?_)
  ·refine Zq k1 (by have:=Zb; omega) V V V ?_
   exact BK.mk' _ ⟨k1 + 1,(Yn d x1 (dep + 1) mm).2,G6,V,(L4.trans (L5.trans L6)),S37,(ZS V),(by omega),(by exact Zk7 ‹_› ‹_› ‹_›),(by have h9:=ZhD (by assumption : (Yn d _ (dep + 1) mm).1 = true); omega)⟩ (show c.l.length - (k1 + 1) < c.l.length - k1 by omega)
  exact RT S37 V ⟨(congrArg Value.bool (by (rw [Zo4 (k:=k1) (by omega) (by omega) hpl ‹_› ‹_› ‹_›]; done))),(S37.lentAt 0 V).cast (by (rw [Zo4 (k:=k1) (by omega) (by omega) hpl ‹_› ‹_› ‹_›]; done))⟩
 exact RT S33 V ⟨(congrArg Value.bool (by (rw [Zo5 (k:=k1) (m:=mm) (by omega) (by omega) hpl (by omega) ‹_›]; done))),(S33.lentAt 0 V).cast (by (rw [Zo5 (k:=k1) (m:=mm) (by omega) (by omega) hpl (by omega) ‹_›]; done))⟩
theorem ZuL {G : GH} {w : World} (hG : G.In w) (d : Nat) (c : Cond) (l : List Col) (cc : List Value) (hcc : (Xy d).rep G c cc) (vl : Value) (hvl : Sl ColE 24 G vl l) : CL Tryz.prog (nat_lit 113) #[.agg cc.toArray,vl] [] w G fun _ _ r=>r = U (Q3 d c l):=by
 refine Zg ft [] Tryz.func113 V V ?_
 have hS:=St.start (X:=[]) hG
 obtain ⟨lv1,rfl,B1,B2,Z7,Z5,ZD,hb6,O1⟩:=ZbZ hcc
 refine Z4 [U c.kind,Za c.col,Za c.oth,U c.v.k,U c.v.n,Za c.v.s,lv1] _ hS V V V (fun p1 w1 G1 L1 M1 C1 S1=>?_)
 refine WL.alloc S1 Zk V V (fun b1 w2 N1 S2=>?_)
 refine Z9 S2 0 [U 0] V V Zk V V V V V V (fun w3 S3=>?_)
 refine Zc S3 C1 [U c.kind,Za c.col,Za c.oth,U c.v.k,U c.v.n,Za c.v.s,lv1] ZY V V V V V ?_
 refine Zax Ztq V V V (ZrG _ S3.imm c 1 0 _ ((Xy _).mono L1 hcc) _ (S3.lentAt 0 V) (by omega) (by omega)) (fun w4 G2 r1 hres1 ⟨P1,hlc1⟩=>?_)
 have S4 : St w [] G G2 [some (b1,3,[U ((Yn d c 1 0).2)])] w4:=S3.callX 0 V [U ((Yn d c 1 0).2)] hres1 (hlc1 _ V).1
 have L2:=hres1.le
 subst P1
 refine WL.split (fun (h1 : ((Yn d c 1 0).1) = true)=>?_) (fun (h1 : ((Yn d c 1 0).1) = false)=>?_)
 ·refine Zc S4 (C1.mono L2) [U c.kind,Za c.col,Za c.oth,U c.v.k,U c.v.n,Za c.v.s,lv1] ZY V V V V V ?_
  refine Zl S4 Ztr V V V (ZuI _ S4.imm c l _ ((Xy _).mono (L1.trans L2) hcc) _ (hvl.mono (L1.trans L2))) (fun w5 G3 S5 L3=>?_)
  exact RI S5 V (by unfold Q3; exact (if_pos (of_decide_eq_true (by rw [← Zk9]; assumption))).symm)
 exact RI S4 V (by unfold Q3; exact (if_neg (of_decide_eq_false (by rw [← Zk9]; assumption))).symm)
end Go.Civ
