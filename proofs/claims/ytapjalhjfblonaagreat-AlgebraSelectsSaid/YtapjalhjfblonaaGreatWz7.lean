/- Walks, printed by specs38.py. -/
import Derived.Test.YtapjalhjfblonaaGreatProg
import Derived.KernelRfl
import Derived.WalkKit
import Derived.Test.YtapjalhjfblonaaGreatWz6
import Derived.Test.YtapjalhjfblonaaGreatWp0
import Derived.Test.YtapjalhjfblonaaGreatCiv38
set_option linter.unusedVariables false
set_option linter.unusedSimpArgs false
set_option maxRecDepth 100000
set_option maxHeartbeats 4000000
namespace Go.Civ
open Go.Proofs


theorem c_rSelect (G : GH) (w : World) (hG : G.In w) (d : Nat) (l : List Fact) (cs : List Col) (c : Cond) (vl : Value) (hvl : Sl FactE 40 G vl l) (vs : Value) (hvs : Sl ColE 24 G vs cs) (cc : List Value) (hcc : (CondE d).rep G c cc)  : Calls Tryz.prog (nat_lit 18) #[vl, vs, .agg cc.toArray] w fun e w' => ∃ r G', e = .returned r ∧ Res [] w G w' G' ∧ ∃ r0 r1, r = .tuple #[r0, r1] ∧ Sl FactE 40 G' r0 (rselL d c cs l) ∧ r1 = .int .i64 (rselE d c cs l) := by
 refine calls_of_WC (N := 98) Tryz.func18 rfl rfl rfl ?_
 have hS := St.start (X := []) hG
 obtain ⟨lv1, rfl, hb1, hb2, hb3, hb4, hb5, hb6, ho1⟩ := CondE_open hcc
 refine WC.seq <| WC.region rfl ?_
 refine WL.boxG [.int .i64 c.kind, strV c.col, strV c.oth, .int .i64 c.v.k, .int .i64 c.v.n, strV c.v.s, lv1] _ hS rfl rfl rfl (fun p1 w1 G1 hle1 hsp1 hc1 hS1 => ?_)
 refine WL.assign rfl <| WL.assign rfl <| WL.nil <| WC.seq <| WC.seq <| WC.region rfl <| WL.move rfl ?_
 refine WL.callF [vl] #[] hb33 rfl rfl rfl ((c_rfValid _ _ hS1.imm l _ (hvl.mono hle1) ).mono ?_)
 rintro e w2 ⟨r1, G2, rfl, hres1, hpost1⟩
 refine ⟨_, rfl, ?_⟩
 have hS2 := hS1.call hres1
 have hle2 := hres1.le
 subst hpost1
 refine WL.split (fun (h1 : (rvalidB l) = true) => ?_) (fun (h1 : (rvalidB l) = false) => ?_)
 ·refine WL.not true rfl rfl <| WL.move rfl <| WL.move rfl ?_
  have bd1 := hvs.bound
  refine WL.lenSl (hvs.mono (hle1.trans hle2)) ul32 rfl rfl ?_
  refine WL.gtrS (cs.length : Int) 8 rfl rfl rfl (fun h2 => ?_) (fun h2 => ?_)
  ·refine WL.pickF rfl rfl <| WL.nil <| WC.condT rfl <| WC.seq <| WC.region rfl <| WL.assign rfl <| WL.assign rfl <| WL.nil <| WC.ret ?_
   exact ⟨_, rfl, _, _, rfl, hS2.res, (.slice none 0 0), (.int .i64 1), rfl, (Sl.cast (Sl.nil FactE 40 G2) (by exact (rsel_no (selOk_no (by first | exact .inl (by rw [← rvalid_valid]; exact h1) | exact .inr (.inl (by omega)) | exact .inr (.inr ⟨by omega, kinds_head hx0 (eqF_len (by omega))⟩) | exact .inr (.inr ⟨by omega, kinds_head hx0 (eqF_no (by assumption) (by assumption) (decide_eq_false (by assumption)))⟩)))).1.symm)), (congrArg (Value.int .i64) (by exact (rsel_no (selOk_no (by first | exact .inl (by rw [← rvalid_valid]; exact h1) | exact .inr (.inl (by omega)) | exact .inr (.inr ⟨by omega, kinds_head hx0 (eqF_len (by omega))⟩) | exact .inr (.inr ⟨by omega, kinds_head hx0 (eqF_no (by assumption) (by assumption) (decide_eq_false (by assumption)))⟩)))).2.symm))⟩
  refine WL.pickF rfl rfl <| WL.nil <| WC.condF rfl <| WC.skip <| WC.seq ?_
  have hv9 : validB l = true := by rw [← rvalid_valid]; exact h1
  have hll9 := valid_le hv9
  refine WC.region rfl <| WL.assign rfl <| WL.nil <| WC.seq <| WC.seq <| WC.region rfl <| WL.assign rfl <| WL.nil <| WC.block ?_
  have hS4 := hS2.pad
  refine WC.loop (γ := Nat) (fun m ρ1 w1 => ∃ (k1 : Nat), ∃ (v1 : Value) (o1 : OB), ∃ (G3 : GH), m = cs.length - k1 ∧ G2.le G3 ∧ St w [] G G3 [o1] w1 ∧ Row Enc.str 16 9 G3 v1 ((cs.take k1).map Col.name) o1 ∧ ρ1 0 = vl ∧ ρ1 1 = vs ∧ ρ1 5 = .pointer (some p1) ∧ ρ1 8 = v1 ∧ ρ1 9 = .int .i64 (k1 : Int) ∧ k1 ≤ cs.length) (fun m => m) _ ⟨0, (.slice none 0 0), none, G2, rfl, (G2.le_refl), hS4, (Row.cast (Row.nil Enc.str 16 9 G2) (by simp)), rfl, rfl, rfl, rfl, rfl, (by omega)⟩ ?_
  rintro m ρ1 w3 ⟨k1, v1, o1, G3, rfl, hle3, hS3, hr1, e1, e2, e3, e4, e5, f1⟩
  refine WC.set (d := 0) e1 <| WC.set (d := 1) e2 <| WC.set (d := 5) e3 <| WC.set (d := 8) e4 <| WC.set (d := 9) e5 ?_
  have htk := List.length_take_le k1 cs
  refine WC.seq <| WC.seq <| WC.region rfl <| WL.move rfl <| WL.move rfl ?_
  have bd2 := hvs.bound
  refine WL.lenSl (hvs.mono ((hle1.trans hle2).trans hle3)) ul32 rfl rfl ?_
  refine WL.lssS (k1 : Int) (cs.length : Int) rfl rfl rfl (fun h3 => ?_) (fun h3 => ?_)
  ·refine WL.nil <| WC.condT rfl <| WC.skip <| WC.seq <| WC.block <| WC.region rfl <| WL.move rfl <| WL.move rfl <| WL.move rfl ?_
   refine WL.indexAddr (hvs.mono ((hle1.trans hle2).trans hle3)) k1 (by omega) ul32 ti71 rfl rfl rfl rfl (fun p2 x1 hx1 he1 => ?_)
   obtain ⟨cs1, hc2, hr2⟩ := he1
   obtain ⟨rfl, hb7, hb8⟩ := ColE_open hr2
   refine WL.fieldAddr _ 0 _ fl71 rfl rfl rfl <| WL.loadG1 hS3 (Cells.drop 0 hc2) ti9 rfl rfl rfl ?_
   refine WL.buildSlice _ [(0, [strV x1.name])] [strV x1.name] hS3 sl69 rfl rfl rfl rfl (fun z hz => by match z, hz with | [z0], _ => rfl) (fun b1 w4 hn1 hS5 => ?_)
   refine WL.push (m := ([x1.name] : List (List UInt8))) sl69 rfl rfl rfl hr1 hS5 1 rfl 0 _ _ _ _ _ rfl ⟨[strV x1.name], _, rfl, ⟨rfl, hb7⟩, rfl⟩ rfl (by have hreach : reach = 140737488355328 := rfl; simp only [List.length_append, List.length_cons, List.length_nil, List.length_map]; omega) (by have hreach : reach = 140737488355328 := rfl; simp only [List.length_append, List.length_cons, List.length_nil, List.length_map]; omega) rfl rfl rfl (fun v2 o2 w5 hr3 hS6 => ?_)
   have hS7 := hS6.tail
   refine WL.assign rfl <| WL.nil <| WC.region rfl <| WL.move rfl ?_
   refine WL.incr k1 (by have hreach : reach = 140737488355328 := rfl; omega) rfl rfl rfl ?_
   refine WL.assign rfl <| WL.nil ?_
   exact ⟨_, ⟨k1 + 1, v2, o2, G3, rfl, hle3, hS7, (Row.cast hr3 (by (rw [List.take_add_one, (by assumption : cs[k1]? = some _)]; simp))), rfl, rfl, rfl, rfl, rfl, (by omega)⟩, (show cs.length - (k1 + 1) < cs.length - k1 by omega)⟩
  refine WL.nil <| WC.condF rfl <| WC.exit ?_
  refine WC.seqJ (fun ρ1 w1 => ∃ (G4 : GH), G3.le G4 ∧ St w [] G G4 [o1] w1 ∧ ρ1 0 = vl ∧ ρ1 1 = vs ∧ ρ1 5 = .pointer (some p1) ∧ selOk l cs = true) ?_ ?_
  ·refine WC.seq <| WC.region rfl <| WL.move rfl ?_
   have bd3 := hvl.bound
   refine WL.lenSl (hvl.mono ((hle1.trans hle2).trans hle3)) ul22 rfl rfl ?_
   refine WL.gtrS (l.length : Int) 0 rfl rfl rfl (fun h4 => ?_) (fun h4 => ?_)
   ·refine WL.nil <| WC.condT rfl <| WC.seq <| WC.seq ?_
    obtain ⟨x0, hx0⟩ : ∃ f, l[0]? = some f := ⟨_, List.getElem?_eq_getElem (by omega)⟩
    refine WC.region rfl <| WL.move rfl ?_
    refine WL.indexAddr (hvl.mono ((hle1.trans hle2).trans hle3)) 0 (by omega) ul22 ti63 rfl rfl rfl rfl (fun p3 x2 hx2 he2 => ?_)
    obtain rfl : x0 = x2 := Option.some.inj (hx0.symm.trans hx2)
    obtain ⟨cs2, hc3, hr4⟩ := he2
    obtain ⟨v3, rfl, hs1, hb9, hb10⟩ := FactE_open hr4
    refine WL.fieldAddr _ 0 _ fl63 rfl rfl rfl <| WL.loadG1 hS3 (Cells.drop 0 hc3) ti61 rfl rfl rfl ?_
    have bd4 := hs1.bound
    refine WL.lenSl hs1 ul61 rfl rfl <| WL.move rfl ?_
    have bd5 := hvs.bound
    refine WL.lenSl (hvs.mono ((hle1.trans hle2).trans hle3)) ul32 rfl rfl ?_
    refine WL.neqS (x0.v.length : Int) (cs.length : Int) rfl rfl rfl (fun h5 => ?_) (fun h5 => ?_)
    ·refine WL.nil <| WC.condT rfl <| WC.seq <| WC.region rfl <| WL.assign rfl <| WL.assign rfl <| WL.nil <| WC.ret ?_
     exact ⟨_, rfl, _, _, rfl, hS3.res, (.slice none 0 0), (.int .i64 1), rfl, (Sl.cast (Sl.nil FactE 40 G3) (by exact (rsel_no (selOk_no (by first | exact .inl (by rw [← rvalid_valid]; exact h1) | exact .inr (.inl (by omega)) | exact .inr (.inr ⟨by omega, kinds_head hx0 (eqF_len (by omega))⟩) | exact .inr (.inr ⟨by omega, kinds_head hx0 (eqF_no (by assumption) (by assumption) (decide_eq_false (by assumption)))⟩)))).1.symm)), (congrArg (Value.int .i64) (by exact (rsel_no (selOk_no (by first | exact .inl (by rw [← rvalid_valid]; exact h1) | exact .inr (.inl (by omega)) | exact .inr (.inr ⟨by omega, kinds_head hx0 (eqF_len (by omega))⟩) | exact .inr (.inr ⟨by omega, kinds_head hx0 (eqF_no (by assumption) (by assumption) (decide_eq_false (by assumption)))⟩)))).2.symm))⟩
    refine WL.nil <| WC.condF rfl <| WC.skip <| WC.seq <| WC.region rfl <| WL.assign rfl <| WL.nil <| WC.block ?_
    refine WC.loop (γ := Nat) (fun m ρ1 w1 => ∃ (k2 : Nat), ∃ (G5 : GH), m = cs.length - k2 ∧ G3.le G5 ∧ St w [] G G5 [o1] w1 ∧ ρ1 0 = vl ∧ ρ1 1 = vs ∧ ρ1 5 = .pointer (some p1) ∧ ρ1 10 = .int .i64 (k2 : Int) ∧ k2 ≤ cs.length ∧ ∀ j, j < k2 → ∀ (u : Val) (y : Col), x0.v[j]? = some u → cs[j]? = some y → decide (u.k = y.kind) = true) (fun m => m) _ ⟨0, G3, rfl, (G3.le_refl), hS3, rfl, rfl, rfl, rfl, (by omega), (by intro j hj; omega)⟩ ?_
    rintro m ρ1 w7 ⟨k2, G5, rfl, hle5, hS9, e9, e10, e11, e12, f3, f4⟩
    refine WC.set (d := 0) e9 <| WC.set (d := 1) e10 <| WC.set (d := 5) e11 <| WC.set (d := 10) e12 <| WC.seq <| WC.seq <| WC.region rfl <| WL.move rfl <| WL.move rfl ?_
    have bd6 := hvs.bound
    refine WL.lenSl (hvs.mono (((hle1.trans hle2).trans hle3).trans hle5)) ul32 rfl rfl ?_
    refine WL.lssS (k2 : Int) (cs.length : Int) rfl rfl rfl (fun h6 => ?_) (fun h6 => ?_)
    ·refine WL.nil <| WC.condT rfl <| WC.skip <| WC.seq <| WC.block <| WC.seq ?_
     obtain ⟨p4, x3, hx3, he3, ep1⟩ := Sl.at (hvl.mono (((hle1.trans hle2).trans hle3).trans hle5)) 0 (by omega)
     obtain rfl : x0 = x3 := Option.some.inj (hx0.symm.trans hx3)
     obtain ⟨cs3, hc4, hr5⟩ := he3
     obtain ⟨v4, rfl, hs2, hb11, hb12⟩ := FactE_open hr5
     obtain ⟨p5, x4, hx4, he4, ep2⟩ := Sl.at hs2 k2 (by omega)
     obtain ⟨cs4, hc5, hr6⟩ := he4
     obtain ⟨rfl, hb13, hb14, hb15⟩ := ValE_open hr6
     obtain ⟨p6, x5, hx5, he5, ep3⟩ := Sl.at (hvs.mono (((hle1.trans hle2).trans hle3).trans hle5)) k2 (by omega)
     obtain ⟨cs5, hc6, hr7⟩ := he5
     obtain ⟨rfl, hb16, hb17⟩ := ColE_open hr7
     rcases Cmp.dec .neq x4.k x5.kind with ⟨hb18, q1⟩ | ⟨hb18, q1⟩
     ·have h7 : x4.k ≠ x5.kind := q1
      clear q1
      refine dr ⟨[0, 1, 3, 7, 0, 31, 63, 127, 0, 0, 768, 1792, 3840, 8191], [0, 1, 2, 4, 5, 6, 8, 9, 10, 11, 13], [3, 7, 12], [], []⟩ [(53, vl), (54, .pointer (some p4)), (55, .pointer (some (p4.add 0))), (57, .int .i64 (k2 : Int)), (58, .pointer (some p5)), (59, .pointer (some (p5.add 0))), (61, vs), (62, .int .i64 (k2 : Int)), (63, .pointer (some p6)), (64, .pointer (some (p6.add 1))), (66, .bool true), (56, v4), (60, .int .i64 x4.k), (65, .int .i64 x5.kind)] [o1] hS9 ?_ ?_ trivial (fun w8 hS10 => ?_)
      ·exact ⟨fun _ _ => WL.move rfl <| WL.nu rfl, fun _ _ => WL.indexAddrP 0 ep1 ul22 ti63 rfl rfl rfl rfl <| WL.nu rfl, fun _ _ => WL.fieldAddr _ 0 _ fl63 rfl rfl rfl <| WL.nu rfl, fun _ _ => WL.move rfl <| WL.nu rfl, fun _ _ => WL.indexAddrP k2 ep2 ul61 ti34 rfl rfl rfl rfl <| WL.nu rfl, fun _ _ => WL.fieldAddr _ 0 _ fl34 rfl rfl rfl <| WL.nu rfl, fun _ _ => WL.move rfl <| WL.nu rfl, fun _ _ => WL.move rfl <| WL.nu rfl, fun _ _ => WL.indexAddrP k2 ep3 ul32 ti71 rfl rfl rfl rfl <| WL.nu rfl, fun _ _ => WL.fieldAddr _ 1 _ fl71 rfl rfl rfl <| WL.nu rfl, fun _ _ => WL.cmpV .neq rfl .i64 x4.k x5.kind _ hb18 rfl rfl rfl <| WL.nu rfl, trivial⟩
      ·exact ⟨fun _ hSw => WL.loadG1 hSw (Cells.drop 0 hc4) ti61 rfl rfl rfl <| WL.nu rfl, fun _ hSw => WL.loadG1 hSw (Cells.drop 0 hc5) ti3 rfl rfl rfl <| WL.nu rfl, fun _ hSw => WL.loadG1 hSw (Cells.drop 1 hc6) ti3 rfl rfl rfl <| WL.nu rfl, trivial⟩
      refine WC.condT rfl <| WC.seq <| WC.region rfl <| WL.assign rfl <| WL.assign rfl <| WL.nil <| WC.ret ?_
      exact ⟨_, rfl, _, _, rfl, hS10.res, (.slice none 0 0), (.int .i64 1), rfl, (Sl.cast (Sl.nil FactE 40 G5) (by exact (rsel_no (selOk_no (by first | exact .inl (by rw [← rvalid_valid]; exact h1) | exact .inr (.inl (by omega)) | exact .inr (.inr ⟨by omega, kinds_head hx0 (eqF_len (by omega))⟩) | exact .inr (.inr ⟨by omega, kinds_head hx0 (eqF_no (by assumption) (by assumption) (decide_eq_false (by assumption)))⟩)))).1.symm)), (congrArg (Value.int .i64) (by exact (rsel_no (selOk_no (by first | exact .inl (by rw [← rvalid_valid]; exact h1) | exact .inr (.inl (by omega)) | exact .inr (.inr ⟨by omega, kinds_head hx0 (eqF_len (by omega))⟩) | exact .inr (.inr ⟨by omega, kinds_head hx0 (eqF_no (by assumption) (by assumption) (decide_eq_false (by assumption)))⟩)))).2.symm))⟩
     have h7 : x4.k = x5.kind := q1
     clear q1
     refine dr ⟨[0, 1, 3, 7, 0, 31, 63, 127, 0, 0, 768, 1792, 3840, 8191], [0, 1, 2, 4, 5, 6, 8, 9, 10, 11, 13], [3, 7, 12], [], []⟩ [(53, vl), (54, .pointer (some p4)), (55, .pointer (some (p4.add 0))), (57, .int .i64 (k2 : Int)), (58, .pointer (some p5)), (59, .pointer (some (p5.add 0))), (61, vs), (62, .int .i64 (k2 : Int)), (63, .pointer (some p6)), (64, .pointer (some (p6.add 1))), (66, .bool false), (56, v4), (60, .int .i64 x4.k), (65, .int .i64 x5.kind)] [o1] hS9 ?_ ?_ trivial (fun w8 hS11 => ?_)
     ·exact ⟨fun _ _ => WL.move rfl <| WL.nu rfl, fun _ _ => WL.indexAddrP 0 ep1 ul22 ti63 rfl rfl rfl rfl <| WL.nu rfl, fun _ _ => WL.fieldAddr _ 0 _ fl63 rfl rfl rfl <| WL.nu rfl, fun _ _ => WL.move rfl <| WL.nu rfl, fun _ _ => WL.indexAddrP k2 ep2 ul61 ti34 rfl rfl rfl rfl <| WL.nu rfl, fun _ _ => WL.fieldAddr _ 0 _ fl34 rfl rfl rfl <| WL.nu rfl, fun _ _ => WL.move rfl <| WL.nu rfl, fun _ _ => WL.move rfl <| WL.nu rfl, fun _ _ => WL.indexAddrP k2 ep3 ul32 ti71 rfl rfl rfl rfl <| WL.nu rfl, fun _ _ => WL.fieldAddr _ 1 _ fl71 rfl rfl rfl <| WL.nu rfl, fun _ _ => WL.cmpV .neq rfl .i64 x4.k x5.kind _ hb18 rfl rfl rfl <| WL.nu rfl, trivial⟩
     ·exact ⟨fun _ hSw => WL.loadG1 hSw (Cells.drop 0 hc4) ti61 rfl rfl rfl <| WL.nu rfl, fun _ hSw => WL.loadG1 hSw (Cells.drop 0 hc5) ti3 rfl rfl rfl <| WL.nu rfl, fun _ hSw => WL.loadG1 hSw (Cells.drop 1 hc6) ti3 rfl rfl rfl <| WL.nu rfl, trivial⟩
     refine WC.condF rfl <| WC.skip <| WC.region rfl <| WL.move rfl ?_
     refine WL.incr k2 (by have hreach : reach = 140737488355328 := rfl; omega) rfl rfl rfl ?_
     refine WL.assign rfl <| WL.nil ?_
     exact ⟨_, ⟨k2 + 1, G5, rfl, hle5, hS11, rfl, rfl, rfl, rfl, (by omega), (by exact lt_step2 (by assumption) (by assumption) (by assumption) (decide_eq_true (by assumption)))⟩, (show cs.length - (k2 + 1) < cs.length - k2 by omega)⟩
    refine WL.nil <| WC.condF rfl <| WC.exit ?_
    exact ⟨G5, hle5, hS9, rfl, rfl, rfl, (by exact selOk_yes hv9 (by omega) (.inr (rkinds hx0 (by omega) (by assumption) (by omega))))⟩
   refine WL.nil <| WC.condF rfl <| WC.skip ?_
   exact ⟨G3, (G3.le_refl), hS3, rfl, rfl, rfl, (by exact selOk_yes hv9 (by omega) (.inl (by omega)))⟩
  rintro ρ1 w6 ⟨G4, hle4, hS8, e6, e7, e8, f2⟩
  refine WC.set (d := 0) e6 <| WC.set (d := 1) e7 <| WC.set (d := 5) e8 ?_
  have hok := (by assumption : selOk l cs = true)
  refine WC.seq <| WC.region rfl <| WL.loadGAt hS8 (hc1.mono ((hle2.trans hle3).trans hle4)) [.int .i64 c.kind, strV c.col, strV c.oth, .int .i64 c.v.k, .int .i64 c.v.n, strV c.v.s, lv1] ti37 rfl rfl rfl rfl rfl <| WL.move rfl ?_
  refine WL.callF [.agg #[.int .i64 c.kind, strV c.col, strV c.oth, .int .i64 c.v.k, .int .i64 c.v.n, strV c.v.s, lv1], vs] #[] hb69 rfl rfl rfl ((c_rCheck33 _ _ hS8.imm _ c cs _ ((CondE _).mono (((hle1.trans hle2).trans hle3).trans hle4) hcc) _ (hvs.mono (((hle1.trans hle2).trans hle3).trans hle4)) ).mono ?_)
  rintro e w10 ⟨r2, G6, rfl, hres2, hpost2⟩
  refine ⟨_, rfl, ?_⟩
  have hS12 := hS8.call hres2
  have hle6 := hres2.le
  subst hpost2
  refine WL.assign rfl <| WL.nil <| WC.seq <| WC.seq <| WC.region rfl <| WL.move rfl ?_
  refine WL.neqS (checkF d c cs) 0 rfl rfl rfl (fun h8 => ?_) (fun h8 => ?_)
  ·refine WL.nil <| WC.condT rfl <| WC.seq <| WC.region rfl <| WL.move rfl <| WL.assign rfl <| WL.assign rfl <| WL.nil <| WC.ret ?_
   exact ⟨_, rfl, _, _, rfl, hS12.res, (.slice none 0 0), (.int .i64 (checkF d c cs)), rfl, (Sl.cast (Sl.nil FactE 40 G6) (by exact (rsel_err hok (by assumption)).1.symm)), (congrArg (Value.int .i64) (by exact (rsel_err hok (by assumption)).2.symm))⟩
  refine WL.nil <| WC.condF rfl <| WC.skip <| WC.seq ?_
  have hck : checkF d c cs = 0 := by assumption
  have hwt := check_well hck
  refine WC.region rfl <| WL.assign rfl <| WL.nil <| WC.seq <| WC.seq <| WC.region rfl <| WL.assign rfl <| WL.nil <| WC.block ?_
  have hS14 := hS12.pad
  refine WC.loop (γ := Nat) (fun m ρ1 w1 => ∃ (k3 : Nat), ∃ (v5 : Value) (o3 : OB), ∃ (G7 : GH), m = l.length - k3 ∧ G6.le G7 ∧ St w [] G G7 [o3, o1] w1 ∧ Row FactE 40 63 G7 v5 (selF d c cs (l.take k3)) o3 ∧ ρ1 0 = vl ∧ ρ1 1 = vs ∧ ρ1 5 = .pointer (some p1) ∧ ρ1 12 = v5 ∧ ρ1 13 = .int .i64 (k3 : Int) ∧ k3 ≤ l.length) (fun m => m) _ ⟨0, (.slice none 0 0), none, G6, rfl, (G6.le_refl), hS14, (Row.cast (Row.nil FactE 40 63 G6) (by simp [selF])), rfl, rfl, rfl, rfl, rfl, (by omega)⟩ ?_
  rintro m ρ1 w11 ⟨k3, v5, o3, G7, rfl, hle7, hS13, hr8, e13, e14, e15, e16, e17, f5⟩
  refine WC.set (d := 0) e13 <| WC.set (d := 1) e14 <| WC.set (d := 5) e15 <| WC.set (d := 12) e16 <| WC.set (d := 13) e17 ?_
  have hsf := selF_takeLen (d := d) (c := c) (cs := cs) (l := l) (k := k3)
  refine WC.seq <| WC.seq <| WC.region rfl <| WL.move rfl <| WL.move rfl ?_
  have bd7 := hvl.bound
  refine WL.lenSl (hvl.mono (((((hle1.trans hle2).trans hle3).trans hle4).trans hle6).trans hle7)) ul22 rfl rfl ?_
  refine WL.lssS (k3 : Int) (l.length : Int) rfl rfl rfl (fun h9 => ?_) (fun h9 => ?_)
  ·refine WL.nil <| WC.condT rfl <| WC.skip <| WC.seq <| WC.block <| WC.seq ?_
   obtain ⟨p7, x6, hx6, he6, ep4⟩ := Sl.at (hvl.mono (((((hle1.trans hle2).trans hle3).trans hle4).trans hle6).trans hle7)) k3 (by omega)
   obtain ⟨cs6, hc7, hr9⟩ := he6
   obtain ⟨v6, rfl, hs3, hb19, hb20⟩ := FactE_open hr9
   rcases Bool.eq_false_or_eq_true (meanF d c cs x6.v) with h10 | h10
   ·refine dr ⟨[0, 0, 0, 0, 12, 28, 60, 127], [1, 2, 3, 4, 5], [0, 6], [7], []⟩ [(80, vs), (81, vl), (82, .int .i64 (k3 : Int)), (83, .pointer (some p7)), (84, .pointer (some (p7.add 0))), (79, .agg #[.int .i64 c.kind, strV c.col, strV c.oth, .int .i64 c.v.k, .int .i64 c.v.n, strV c.v.s, lv1]), (85, v6), (86, .bool true)] [o3, o1] hS13 ?_ ?_ ?_ (fun w8 hS15 => ?_)
    ·exact ⟨fun _ _ => WL.move rfl <| WL.nu rfl, fun _ _ => WL.move rfl <| WL.nu rfl, fun _ _ => WL.move rfl <| WL.nu rfl, fun _ _ => WL.indexAddrP k3 ep4 ul22 ti63 rfl rfl rfl rfl <| WL.nu rfl, fun _ _ => WL.fieldAddr _ 0 _ fl63 rfl rfl rfl <| WL.nu rfl, trivial⟩
    ·exact ⟨fun _ hSw => WL.loadGAt hSw (hc1.mono ((((hle2.trans hle3).trans hle4).trans hle6).trans hle7)) [.int .i64 c.kind, strV c.col, strV c.oth, .int .i64 c.v.k, .int .i64 c.v.n, strV c.v.s, lv1] ti37 rfl rfl rfl rfl rfl <| WL.nu rfl, fun _ hSw => WL.loadG1 hSw (Cells.drop 0 hc7) ti61 rfl rfl rfl <| WL.nu rfl, trivial⟩
    ·exact ⟨fun _ hSw => WL.callD [.agg #[.int .i64 c.kind, strV c.col, strV c.oth, .int .i64 c.v.k, .int .i64 c.v.n, strV c.v.s, lv1], vs, v6] #[] hb70 rfl rfl rfl hSw (c_rMeaning _ _ _ hSw.imm c cs x6.v _ ((CondE _).mono (((((hle1.trans hle2).trans hle3).trans hle4).trans hle6).trans hle7) hcc) _ (hvs.mono (((((hle1.trans hle2).trans hle3).trans hle4).trans hle6).trans hle7)) _ hs3 hwt.1 hwt.2 (sel_typed hok hck (List.mem_of_getElem? (by assumption)))) (congrArg Value.bool h10.symm), trivial⟩
    refine WC.condT rfl <| WC.region rfl <| WL.move rfl <| WL.move rfl <| WL.move rfl ?_
    refine WL.indexAddr (hvl.mono (((((hle1.trans hle2).trans hle3).trans hle4).trans hle6).trans hle7)) k3 (by omega) ul22 ti63 rfl rfl rfl rfl (fun p8 x7 hx7 he7 => ?_)
    obtain rfl : x6 = x7 := Option.some.inj (hx6.symm.trans hx7)
    obtain ⟨cs7, hc8, hr10⟩ := he7
    obtain ⟨v7, rfl, hs4, hb21, hb22⟩ := FactE_open hr10
    refine WL.loadGAt hS15 hc8 [v7, .int .i64 x6.t.a, .int .i64 x6.t.b] ti63 rfl rfl rfl rfl rfl ?_
    refine WL.buildSlice _ [(0, [v7, .int .i64 x6.t.a, .int .i64 x6.t.b])] [v7, .int .i64 x6.t.a, .int .i64 x6.t.b] hS15 sl22 rfl rfl rfl rfl (fun z hz => by match z, hz with | [z0, z1, z2], _ => rfl) (fun b2 w13 hn2 hS16 => ?_)
    refine WL.push (m := ([x6] : List Fact)) sl22 rfl rfl rfl hr8 hS16 1 rfl 0 _ _ _ _ _ rfl ⟨[v7, .int .i64 x6.t.a, .int .i64 x6.t.b], _, rfl, (FactE_mk x6 hs4 hb21 hb22), rfl⟩ rfl (by have hreach : reach = 140737488355328 := rfl; simp only [List.length_append, List.length_cons, List.length_nil, List.length_map]; omega) (by have hreach : reach = 140737488355328 := rfl; simp only [List.length_append, List.length_cons, List.length_nil, List.length_map]; omega) rfl rfl rfl (fun v8 o4 w14 hr11 hS17 => ?_)
    have hS18 := hS17.tail
    refine WL.assign rfl <| WL.nil <| WC.region rfl <| WL.move rfl ?_
    refine WL.incr k3 (by have hreach : reach = 140737488355328 := rfl; omega) rfl rfl rfl ?_
    refine WL.assign rfl <| WL.nil ?_
    exact ⟨_, ⟨k3 + 1, v8, o4, G7, rfl, hle7, hS18, (Row.cast hr11 (by (exact (selF_yes (by assumption) (by assumption)).symm))), rfl, rfl, rfl, rfl, rfl, (by omega)⟩, (show l.length - (k3 + 1) < l.length - k3 by omega)⟩
   refine dr ⟨[0, 0, 0, 0, 12, 28, 60, 127], [1, 2, 3, 4, 5], [0, 6], [7], []⟩ [(80, vs), (81, vl), (82, .int .i64 (k3 : Int)), (83, .pointer (some p7)), (84, .pointer (some (p7.add 0))), (79, .agg #[.int .i64 c.kind, strV c.col, strV c.oth, .int .i64 c.v.k, .int .i64 c.v.n, strV c.v.s, lv1]), (85, v6), (86, .bool false)] [o3, o1] hS13 ?_ ?_ ?_ (fun w8 hS19 => ?_)
   ·exact ⟨fun _ _ => WL.move rfl <| WL.nu rfl, fun _ _ => WL.move rfl <| WL.nu rfl, fun _ _ => WL.move rfl <| WL.nu rfl, fun _ _ => WL.indexAddrP k3 ep4 ul22 ti63 rfl rfl rfl rfl <| WL.nu rfl, fun _ _ => WL.fieldAddr _ 0 _ fl63 rfl rfl rfl <| WL.nu rfl, trivial⟩
   ·exact ⟨fun _ hSw => WL.loadGAt hSw (hc1.mono ((((hle2.trans hle3).trans hle4).trans hle6).trans hle7)) [.int .i64 c.kind, strV c.col, strV c.oth, .int .i64 c.v.k, .int .i64 c.v.n, strV c.v.s, lv1] ti37 rfl rfl rfl rfl rfl <| WL.nu rfl, fun _ hSw => WL.loadG1 hSw (Cells.drop 0 hc7) ti61 rfl rfl rfl <| WL.nu rfl, trivial⟩
   ·exact ⟨fun _ hSw => WL.callD [.agg #[.int .i64 c.kind, strV c.col, strV c.oth, .int .i64 c.v.k, .int .i64 c.v.n, strV c.v.s, lv1], vs, v6] #[] hb70 rfl rfl rfl hSw (c_rMeaning _ _ _ hSw.imm c cs x6.v _ ((CondE _).mono (((((hle1.trans hle2).trans hle3).trans hle4).trans hle6).trans hle7) hcc) _ (hvs.mono (((((hle1.trans hle2).trans hle3).trans hle4).trans hle6).trans hle7)) _ hs3 hwt.1 hwt.2 (sel_typed hok hck (List.mem_of_getElem? (by assumption)))) (congrArg Value.bool h10.symm), trivial⟩
   refine WC.condF rfl <| WC.skip <| WC.region rfl <| WL.move rfl ?_
   refine WL.incr k3 (by have hreach : reach = 140737488355328 := rfl; omega) rfl rfl rfl ?_
   refine WL.assign rfl <| WL.nil ?_
   exact ⟨_, ⟨k3 + 1, v5, o3, G7, rfl, hle7, hS19, (Row.cast hr8 (by (exact (selF_no (by assumption) (by assumption)).symm))), rfl, rfl, rfl, rfl, rfl, (by omega)⟩, (show l.length - (k3 + 1) < l.length - k3 by omega)⟩
  refine WL.nil <| WC.condF rfl <| WC.exit <| WC.seq <| WC.region rfl <| WL.move rfl ?_
  obtain ⟨G8, hle8, hs5, hS20⟩ := Row.freeze hr8 hS13 0 rfl
  refine WL.callF [v5] #[] hb64 rfl rfl rfl ((c_rdone _ _ hS20.imm (selF d c cs (l.take k3)) _ hs5 (by rw [selF_all (by omega)]; exact selF_good (good_of_valid hv9)) (by omega)).mono ?_)
  rintro e w16 ⟨r3, G9, rfl, hres3, hpost3⟩
  refine ⟨_, rfl, ?_⟩
  have hS21 := hS20.call hres3
  have hle9 := hres3.le
  obtain ⟨r4, r5, rfl, hs6, rfl⟩ := hpost3
  refine WL.extract _ _ rfl rfl rfl <| WL.extract _ _ rfl rfl rfl <| WL.assign rfl <| WL.assign rfl <| WL.nil <| WC.ret ?_
  exact ⟨_, rfl, _, _, rfl, hS21.res, r4, (.int .i64 (doneE (selF d c cs (l.take k3)))), rfl, (Sl.cast hs6 (by (rw [selF_all (by omega)]; exact (rsel_ok hok hck).1.symm))), (congrArg (Value.int .i64) (by (rw [selF_all (by omega)]; exact (rsel_ok hok hck).2.symm)))⟩
 refine WL.not false rfl rfl <| WL.move rfl <| WL.no rfl rfl <| WL.no rfl rfl <| WL.no rfl rfl <| WL.pickT rfl rfl <| WL.nil <| WC.condT rfl <| WC.seq <| WC.region rfl <| WL.assign rfl <| WL.assign rfl <| WL.nil <| WC.ret ?_
 exact ⟨_, rfl, _, _, rfl, hS2.res, (.slice none 0 0), (.int .i64 1), rfl, (Sl.cast (Sl.nil FactE 40 G2) (by exact (rsel_no (selOk_no (by first | exact .inl (by rw [← rvalid_valid]; exact h1) | exact .inr (.inl (by omega)) | exact .inr (.inr ⟨by omega, kinds_head hx0 (eqF_len (by omega))⟩) | exact .inr (.inr ⟨by omega, kinds_head hx0 (eqF_no (by assumption) (by assumption) (decide_eq_false (by assumption)))⟩)))).1.symm)), (congrArg (Value.int .i64) (by exact (rsel_no (selOk_no (by first | exact .inl (by rw [← rvalid_valid]; exact h1) | exact .inr (.inl (by omega)) | exact .inr (.inr ⟨by omega, kinds_head hx0 (eqF_len (by omega))⟩) | exact .inr (.inr ⟨by omega, kinds_head hx0 (eqF_no (by assumption) (by assumption) (decide_eq_false (by assumption)))⟩)))).2.symm))⟩
end Go.Civ
