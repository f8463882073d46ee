/- Walks, printed by specs38.py. -/
import Derived.Test.YtapjalhjfblonaaGreatProg
import Derived.KernelRfl
import Derived.WalkKit
import Derived.Test.YtapjalhjfblonaaGreatWb
import Derived.Test.YtapjalhjfblonaaGreatCiv34
set_option linter.unusedVariables false
set_option linter.unusedSimpArgs false
set_option maxRecDepth 100000
set_option maxHeartbeats 4000000
namespace Go.Civ
open Go.Proofs


theorem c_IndexC (G : GH) (w : World) (hG : G.In w) (l : List Col) (pf : Col → Bool) (vl : Value) (hvl : Sl ColE 24 G vl l) (fid : Nat) (fcap : Array Value) (hf : FnB Tryz.prog (Is ColE) fid fcap G (fun x => x ∈ l) pf)  : Calls Tryz.prog (nat_lit 176) #[vl, .func (.func fid) #[] fcap] w fun e w' => ∃ r G', e = .returned r ∧ Res [] w G w' G' ∧ r = .int .i64 (idxF pf l) := by
 refine calls_of_WC (N := 19) Tryz.func176 rfl rfl rfl ?_
 have hS := St.start (X := []) hG
 refine WC.seq <| WC.region rfl <| WL.assign rfl <| WL.nil <| WC.seq <| WC.seq <| WC.region rfl <| WL.move rfl ?_
 have bd1 := hvl.bound
 refine WL.lenSl hvl ul32 rfl rfl <| WL.move rfl <| WL.nil <| WC.block ?_
 refine WC.loop (γ := Nat) (fun m ρ1 w1 => ∃ (k1 : Nat), ∃ (G1 : GH), m = l.length - k1 ∧ G.le G1 ∧ St w [] G G1 [] w1 ∧ ρ1 0 = vl ∧ ρ1 1 = .func (.func fid) #[] fcap ∧ ρ1 7 = .int .i64 (l.length : Int) ∧ ρ1 8 = .int .i64 (k1 : Int) ∧ k1 ≤ l.length ∧ ∀ j, j < k1 → ∀ x, l[j]? = some x → pf x = false) (fun m => m) _ ⟨0, G, rfl, (G.le_refl), hS, rfl, rfl, rfl, rfl, (by omega), (by intro j hj; omega)⟩ ?_
 rintro m ρ1 w1 ⟨k1, G1, rfl, hle1, hS1, e1, e2, e3, e4, f1, f2⟩
 refine WC.set (d := 0) e1 <| WC.set (d := 1) e2 <| WC.set (d := 7) e3 <| WC.set (d := 8) e4 <| WC.seq <| WC.region rfl ?_
 refine WL.lssS (k1 : Int) (l.length : Int) rfl rfl rfl (fun h1 => ?_) (fun h1 => ?_)
 ·refine WL.nil <| WC.seq <| WC.condT rfl <| WC.skip <| WC.seq <| WC.block <| WC.seq <| WC.region rfl <| WL.move rfl <| WL.assign rfl <| WL.nil <| WC.seq <| WC.region rfl <| WL.move rfl <| WL.move rfl <| WL.move rfl ?_
  refine WL.indexAddr (hvl.mono hle1) k1 (by omega) ul32 ti71 rfl rfl rfl rfl (fun p1 x1 hx1 he1 => ?_)
  obtain ⟨cs1, hc1, hr1⟩ := he1
  obtain ⟨rfl, hb1, hb2⟩ := ColE_open hr1
  refine WL.loadGAt hS1 hc1 [strV x1.name, .int .i64 x1.kind] ti71 rfl rfl rfl rfl rfl ?_
  have hcc1 := hf.call _ _ (.agg #[strV x1.name, .int .i64 x1.kind]) x1 hle1 hS1.imm (List.mem_of_getElem? hx1) ⟨_, rfl, (ColE_mk x1 hb1 hb2)⟩
  refine WL.callF _ fcap hf.body rfl rfl rfl (hcc1.mono ?_)
  rintro e w2 ⟨r1, G2, rfl, hres1, hpost1⟩
  refine ⟨_, rfl, ?_⟩
  have hS2 := hS1.call hres1
  have hle2 := hres1.le
  subst hpost1
  refine WL.split (fun (h2 : (pf x1) = true) => ?_) (fun (h2 : (pf x1) = false) => ?_)
  ·refine WL.nil <| WC.condT rfl <| WC.seq <| WC.region rfl <| WL.move rfl <| WL.assign rfl <| WL.nil <| WC.ret ?_
   exact ⟨_, rfl, _, _, rfl, hS2.res, (congrArg (Value.int .i64) (by exact (idxF_some _ (by assumption) (by assumption) (by assumption)).symm))⟩
  refine WL.nil <| WC.condF rfl <| WC.skip <| WC.region rfl ?_
  refine WL.incr k1 (by have hreach : reach = 140737488355328 := rfl; omega) rfl rfl rfl ?_
  refine WL.move rfl <| WL.nil ?_
  exact ⟨_, ⟨k1 + 1, G2, rfl, (hle1.trans hle2), hS2, rfl, rfl, rfl, rfl, (by omega), (by exact lt_step (by assumption) (by assumption) (by assumption))⟩, (show l.length - (k1 + 1) < l.length - k1 by omega)⟩
 refine WL.nil <| WC.seq <| WC.condF rfl <| WC.exit <| WC.seq <| WC.region rfl <| WL.assign rfl <| WL.nil <| WC.ret ?_
 exact ⟨_, rfl, _, _, rfl, hS1.res, (congrArg (Value.int .i64) (by exact (idxF_none' (by assumption) (by omega)).symm))⟩

theorem c_find1 (G : GH) (w : World) (hG : G.In w) (x : Col) (nm : List UInt8) (cx : List Value) (hcx : ColE.rep G x cx) (pn : Addr) (hpn : Cells G pn [strV nm])  : Calls Tryz.prog (nat_lit 177) #[.agg cx.toArray, .pointer (some pn)] w fun e w' => ∃ r G', e = .returned r ∧ Res [] w G w' G' ∧ r = .bool (decide (x.name = nm)) := by
 refine calls_of_WC (N := 8) Tryz.func177 rfl rfl rfl ?_
 have hS := St.start (X := []) hG
 obtain ⟨rfl, hb1, hb2⟩ := ColE_open hcx
 refine WC.seq <| WC.region rfl ?_
 refine WL.boxG [strV x.name, .int .i64 x.kind] _ hS rfl rfl rfl (fun p1 w1 G1 hle1 hsp1 hc1 hS1 => ?_)
 refine WL.assign rfl <| WL.nil <| WC.seq <| WC.region rfl <| WL.fieldAddr _ 0 _ fl71 rfl rfl rfl <| WL.loadG1 hS1 (Cells.drop 0 hc1) ti9 rfl rfl rfl <| WL.loadG1 hS1 (hpn.mono hle1) ti9 rfl rfl rfl <| WL.strCmp .eql rfl x.name nm rfl rfl rfl <| WL.assign rfl <| WL.nil <| WC.ret ?_
 exact ⟨_, rfl, _, _, rfl, hS1.res, (congrArg Value.bool (by simp [SCmp.b]))⟩

theorem c_find (G : GH) (w : World) (hG : G.In w) (l : List Col) (nm : List UInt8) (vl : Value) (hvl : Sl ColE 24 G vl l)  : Calls Tryz.prog (nat_lit 150) #[vl, strV nm] w fun e w' => ∃ r G', e = .returned r ∧ Res [] w G w' G' ∧ r = .int .i64 (findC l nm) := by
 refine calls_of_WC (N := 8) Tryz.func150 rfl rfl rfl ?_
 have hS := St.start (X := []) hG
 refine WC.seq <| WC.region rfl ?_
 refine WL.boxG [strV nm] _ hS rfl rfl rfl (fun p1 w1 G1 hle1 hsp1 hc1 hS1 => ?_)
 refine WL.assign rfl <| WL.nil <| WC.seq <| WC.region rfl <| WL.move rfl <| WL.makeFunc _ rfl rfl ?_
 refine WL.callF [vl, .func (.func 177) #[] #[.pointer (some p1)]] #[] hb176 rfl rfl rfl ((c_IndexC _ _ hS1.imm l (fun x8 => decide (x8.name = nm)) _ (hvl.mono hle1) 177 #[.pointer (some p1)] ⟨hb177, fun G8 w8 v8 x8 hle8 hG8 hon8 hA8 => by obtain ⟨cs_x8, rfl, hr_x8⟩ := hA8; exact c_find1 G8 w8 hG8 x8 nm cs_x8 hr_x8  p1 (hc1.mono hle8) ⟩ ).mono ?_)
 rintro e w2 ⟨r1, G2, rfl, hres1, hpost1⟩
 refine ⟨_, rfl, ?_⟩
 have hS2 := hS1.call hres1
 have hle2 := hres1.le
 subst hpost1
 refine WL.assign rfl <| WL.nil <| WC.ret ?_
 exact ⟨_, rfl, _, _, rfl, hS2.res, (congrArg (Value.int .i64) (by rfl))⟩

theorem c_rAt33 (G : GH) (w : World) (hG : G.In w) (l : List Col) (nm : List UInt8) (vl : Value) (hvl : Sl ColE 24 G vl l)  : Calls Tryz.prog (nat_lit 129) #[vl, strV nm] w fun e w' => ∃ r G', e = .returned r ∧ Res [] w G w' G' ∧ r = .int .i64 (findC l nm) := by
 refine calls_of_WC (N := 20) Tryz.func129 rfl rfl rfl ?_
 have hS := St.start (X := []) hG
 refine WC.seq <| WC.region rfl <| WL.assign rfl <| WL.nil <| WC.seq <| WC.seq <| WC.region rfl <| WL.assign rfl <| WL.nil <| WC.block ?_
 refine WC.loop (γ := Nat) (fun m ρ1 w1 => ∃ (k1 : Nat), ∃ (G1 : GH), m = l.length - k1 ∧ G.le G1 ∧ St w [] G G1 [] w1 ∧ ρ1 0 = vl ∧ ρ1 1 = strV nm ∧ ρ1 5 = .int .i64 (k1 : Int) ∧ k1 ≤ l.length ∧ ∀ j, j < k1 → ∀ x, l[j]? = some x → decide (x.name = nm) = false) (fun m => m) _ ⟨0, G, rfl, (G.le_refl), hS, rfl, rfl, rfl, (by omega), (by intro j hj; omega)⟩ ?_
 rintro m ρ1 w1 ⟨k1, G1, rfl, hle1, hS1, e1, e2, e3, f1, f2⟩
 refine WC.set (d := 0) e1 <| WC.set (d := 1) e2 <| WC.set (d := 5) e3 <| WC.seq <| WC.seq <| WC.region rfl <| WL.move rfl <| WL.move rfl ?_
 have bd1 := hvl.bound
 refine WL.lenSl (hvl.mono hle1) ul32 rfl rfl ?_
 refine WL.lssS (k1 : Int) (l.length : Int) rfl rfl rfl (fun h1 => ?_) (fun h1 => ?_)
 ·refine WL.nil <| WC.condT rfl <| WC.skip <| WC.seq <| WC.block <| WC.seq <| WC.region rfl <| WL.move rfl <| WL.move rfl ?_
  refine WL.indexAddr (hvl.mono hle1) k1 (by omega) ul32 ti71 rfl rfl rfl rfl (fun p1 x1 hx1 he1 => ?_)
  obtain ⟨cs1, hc1, hr1⟩ := he1
  obtain ⟨rfl, hb1, hb2⟩ := ColE_open hr1
  refine WL.fieldAddr _ 0 _ fl71 rfl rfl rfl <| WL.loadG1 hS1 (Cells.drop 0 hc1) ti9 rfl rfl rfl <| WL.move rfl <| WL.strCmp .eql rfl x1.name nm rfl rfl rfl ?_
  refine WL.split (fun h0 => ?_) (fun h0 => ?_)
  ·have h2 : x1.name = nm := by simpa [SCmp.b] using h0
   clear h0
   refine WL.nil <| WC.condT rfl <| WC.seq <| WC.region rfl <| WL.move rfl <| WL.assign rfl <| WL.nil <| WC.ret ?_
   exact ⟨_, rfl, _, _, rfl, hS1.res, (congrArg (Value.int .i64) (by exact (findC_yes (by assumption) (by assumption) (by assumption)).symm))⟩
  have h2 : x1.name ≠ nm := by simpa [SCmp.b] using h0
  clear h0
  refine WL.nil <| WC.condF rfl <| WC.skip <| WC.region rfl <| WL.move rfl ?_
  refine WL.incr k1 (by have hreach : reach = 140737488355328 := rfl; omega) rfl rfl rfl ?_
  refine WL.assign rfl <| WL.nil ?_
  exact ⟨_, ⟨k1 + 1, G1, rfl, hle1, hS1, rfl, rfl, rfl, (by omega), (by exact lt_step (by assumption) (by assumption) (decide_eq_false (by assumption)))⟩, (show l.length - (k1 + 1) < l.length - k1 by omega)⟩
 refine WL.nil <| WC.condF rfl <| WC.exit <| WC.seq <| WC.region rfl <| WL.assign rfl <| WL.nil <| WC.ret ?_
 exact ⟨_, rfl, _, _, rfl, hS1.res, (congrArg (Value.int .i64) (by exact (findC_no (k := k1) (by omega) (by assumption)).symm))⟩

theorem c_typed (d : Nat) : ∀ (G : GH) (w : World) (hG : G.In w) (c : Cond) (l : List Col) (cc : List Value) (hcc : (CondE d).rep G c cc) (vl : Value) (hvl : Sl ColE 24 G vl l) , Calls Tryz.prog (nat_lit 126) #[.agg cc.toArray, vl] w fun e w' => ∃ r G', e = .returned r ∧ Res [] w G w' G' ∧ r = .int .i64 (typedF d c l) := by
 induction d
 ·intro G w hG c l cc hcc vl hvl; exact (CondE_zero hcc).elim
 rename_i d ih
 intro G w hG c l cc hcc vl hvl
 refine calls_of_WC (N := 63) Tryz.func126 rfl rfl rfl ?_
 have hS := St.start (X := []) hG
 obtain ⟨lv1, rfl, hb1, hb2, hb3, hb4, hb5, hb6, ho1⟩ := CondE_step hcc
 refine WC.seq <| WC.region rfl ?_
 refine WL.boxG [.int .i64 c.kind, strV c.col, strV c.oth, .int .i64 c.v.k, .int .i64 c.v.n, strV c.v.s, lv1] _ hS rfl rfl rfl (fun p1 w1 G1 hle1 hsp1 hc1 hS1 => ?_)
 refine WL.assign rfl <| WL.nil ?_
 refine WC.seqJ (fun ρ1 w1 => ∃ (G2 : GH), G1.le G2 ∧ St w [] G G2 [] w1 ∧ ρ1 1 = vl ∧ ρ1 2 = .pointer (some p1) ∧ typ1 c l = 0) ?_ ?_
 ·refine WC.seq <| WC.region rfl <| WL.fieldAddr _ 0 _ fl37 rfl rfl rfl <| WL.loadG1 hS1 (Cells.drop 0 hc1) ti3 rfl rfl rfl ?_
  refine WL.eqlS c.kind 1 rfl rfl rfl (fun h1 => ?_) (fun h1 => ?_)
  ·refine WL.move rfl <| WL.no rfl rfl <| WL.no rfl rfl <| WL.no rfl rfl <| WL.pickT rfl rfl <| WL.nil <| WC.condT rfl <| WC.seq <| WC.region rfl <| WL.move rfl <| WL.fieldAddr _ 1 _ fl37 rfl rfl rfl <| WL.loadG1 hS1 (Cells.drop 1 hc1) ti9 rfl rfl rfl ?_
   refine WL.callF [vl, strV c.col] #[] hb150 rfl rfl rfl ((c_find _ _ hS1.imm l c.col _ (hvl.mono hle1) ).mono ?_)
   rintro e w3 ⟨r1, G3, rfl, hres1, hpost1⟩
   refine ⟨_, rfl, ?_⟩
   have hS3 := hS1.call hres1
   have hle3 := hres1.le
   subst hpost1
   refine WL.assign rfl <| WL.nil <| WC.seq <| WC.seq ?_
   have hf1 := findC_lt (l := l) (nm := c.col)
   refine WC.region rfl <| WL.move rfl ?_
   refine WL.lssS (findC l c.col) 0 rfl rfl rfl (fun h2 => ?_) (fun h2 => ?_)
   ·refine WL.nil <| WC.condT rfl <| WC.seq <| WC.region rfl <| WL.assign rfl <| WL.nil <| WC.ret ?_
    exact ⟨_, rfl, _, _, rfl, hS3.res, (congrArg (Value.int .i64) (by exact (typed_1 (typ_7 (by first | exact .inl (by assumption) | exact .inr (by assumption)) (by assumption)) (by decide)).symm))⟩
   refine WL.nil <| WC.condF rfl <| WC.skip <| WC.seq <| WC.region rfl <| WL.fieldAddr _ 3 _ fl37 rfl rfl rfl <| WL.fieldAddr _ 0 _ fl34 rfl rfl rfl <| WL.loadG1 hS3 (Cells.drop 0 (Cells.drop 3 (hc1.mono hle3))) ti3 rfl rfl rfl <| WL.assign rfl <| WL.nil <| WC.seq <| WC.seq <| WC.region rfl <| WL.fieldAddr _ 2 _ fl37 rfl rfl rfl <| WL.loadG1 hS3 (Cells.drop 2 (hc1.mono hle3)) ti9 rfl rfl rfl <| WL.strCmp .neq rfl c.oth [] rfl rfl rfl ?_
   refine WL.split (fun h0 => ?_) (fun h0 => ?_)
   ·have h3 : c.oth ≠ [] := by simpa [SCmp.b] using h0
    clear h0
    refine WL.nil <| WC.condT rfl <| WC.seq <| WC.region rfl <| WL.move rfl <| WL.fieldAddr _ 2 _ fl37 rfl rfl rfl <| WL.loadG1 hS3 (Cells.drop 2 (hc1.mono hle3)) ti9 rfl rfl rfl ?_
    refine WL.callF [vl, strV c.oth] #[] hb150 rfl rfl rfl ((c_find _ _ hS3.imm l c.oth _ (hvl.mono (hle1.trans hle3)) ).mono ?_)
    rintro e w4 ⟨r2, G4, rfl, hres2, hpost2⟩
    refine ⟨_, rfl, ?_⟩
    have hS4 := hS3.call hres2
    have hle4 := hres2.le
    subst hpost2
    refine WL.assign rfl <| WL.nil <| WC.seq <| WC.seq ?_
    have hf2 := findC_lt (l := l) (nm := c.oth)
    refine WC.region rfl <| WL.move rfl ?_
    refine WL.lssS (findC l c.oth) 0 rfl rfl rfl (fun h4 => ?_) (fun h4 => ?_)
    ·refine WL.nil <| WC.condT rfl <| WC.seq <| WC.region rfl <| WL.assign rfl <| WL.nil <| WC.ret ?_
     exact ⟨_, rfl, _, _, rfl, hS4.res, (congrArg (Value.int .i64) (by exact (typed_1 (typ_7o (by first | exact .inl (by assumption) | exact .inr (by assumption)) (by omega) (by assumption) (by assumption)) (by decide)).symm))⟩
    refine WL.nil <| WC.condF rfl <| WC.skip <| WC.region rfl <| WL.move rfl <| WL.move rfl ?_
    refine WL.indexAddr (hvl.mono ((hle1.trans hle3).trans hle4)) (((findC l c.oth)).toNat) (by omega) ul32 ti71 rfl rfl rfl (congrArg (Value.int .i64) (Int.toNat_of_nonneg (by omega)).symm) (fun p2 x1 hx1 he1 => ?_)
    obtain ⟨cs1, hc2, hr1⟩ := he1
    obtain ⟨rfl, hb7, hb8⟩ := ColE_open hr1
    refine WL.fieldAddr _ 1 _ fl71 rfl rfl rfl <| WL.loadG1 hS4 (Cells.drop 1 hc2) ti3 rfl rfl rfl <| WL.assign rfl <| WL.nil <| WC.seq <| WC.region rfl <| WL.move rfl <| WL.move rfl <| WL.move rfl ?_
    refine WL.indexAddr (hvl.mono ((hle1.trans hle3).trans hle4)) (((findC l c.col)).toNat) (by omega) ul32 ti71 rfl rfl rfl (congrArg (Value.int .i64) (Int.toNat_of_nonneg (by omega)).symm) (fun p3 x2 hx2 he2 => ?_)
    obtain ⟨cs2, hc3, hr2⟩ := he2
    obtain ⟨rfl, hb9, hb10⟩ := ColE_open hr2
    refine WL.fieldAddr _ 1 _ fl71 rfl rfl rfl <| WL.loadG1 hS4 (Cells.drop 1 hc3) ti3 rfl rfl rfl ?_
    refine WL.neqS x1.kind x2.kind rfl rfl rfl (fun h5 => ?_) (fun h5 => ?_)
    ·refine WL.nil <| WC.condT rfl <| WC.seq <| WC.region rfl <| WL.assign rfl <| WL.nil <| WC.ret ?_
     exact ⟨_, rfl, _, _, rfl, hS4.res, (congrArg (Value.int .i64) (by exact (typed_1 ((typ_o (by first | exact .inl (by assumption) | exact .inr (by assumption)) (by omega) (by assumption) (by omega) (by assumption) (by assumption)).trans (if_pos (by omega))) (by decide)).symm))⟩
    refine WL.nil <| WC.condF rfl <| WC.skip ?_
    exact ⟨G4, (hle3.trans hle4), hS4, rfl, rfl, (by exact (typ_o (by first | exact .inl (by assumption) | exact .inr (by assumption)) (by omega) (by assumption) (by omega) (by assumption) (by assumption)).trans (if_neg (by omega)))⟩
   have h3 : c.oth = [] := by simpa [SCmp.b] using h0
   clear h0
   refine WL.nil <| WC.condF rfl <| WC.skip <| WC.seq <| WC.region rfl <| WL.move rfl <| WL.move rfl <| WL.move rfl ?_
   refine WL.indexAddr (hvl.mono (hle1.trans hle3)) (((findC l c.col)).toNat) (by omega) ul32 ti71 rfl rfl rfl (congrArg (Value.int .i64) (Int.toNat_of_nonneg (by omega)).symm) (fun p4 x3 hx3 he3 => ?_)
   obtain ⟨cs3, hc4, hr3⟩ := he3
   obtain ⟨rfl, hb11, hb12⟩ := ColE_open hr3
   refine WL.fieldAddr _ 1 _ fl71 rfl rfl rfl <| WL.loadG1 hS3 (Cells.drop 1 hc4) ti3 rfl rfl rfl ?_
   refine WL.neqS c.v.k x3.kind rfl rfl rfl (fun h6 => ?_) (fun h6 => ?_)
   ·refine WL.nil <| WC.condT rfl <| WC.seq <| WC.region rfl <| WL.assign rfl <| WL.nil <| WC.ret ?_
    exact ⟨_, rfl, _, _, rfl, hS3.res, (congrArg (Value.int .i64) (by exact (typed_1 ((typ_v (by first | exact .inl (by assumption) | exact .inr (by assumption)) (by omega) (by assumption) (by assumption)).trans (if_pos (by omega))) (by decide)).symm))⟩
   refine WL.nil <| WC.condF rfl <| WC.skip ?_
   exact ⟨G3, hle3, hS3, rfl, rfl, (by exact (typ_v (by first | exact .inl (by assumption) | exact .inr (by assumption)) (by omega) (by assumption) (by assumption)).trans (if_neg (by omega)))⟩
  refine WL.move rfl <| WL.fieldAddr _ 0 _ fl37 rfl rfl rfl <| WL.loadG1 hS1 (Cells.drop 0 hc1) ti3 rfl rfl rfl ?_
  refine WL.eqlS c.kind 2 rfl rfl rfl (fun h7 => ?_) (fun h7 => ?_)
  ·refine WL.pickF rfl rfl <| WL.nil <| WC.condT rfl <| WC.seq <| WC.region rfl <| WL.move rfl <| WL.fieldAddr _ 1 _ fl37 rfl rfl rfl <| WL.loadG1 hS1 (Cells.drop 1 hc1) ti9 rfl rfl rfl ?_
   refine WL.callF [vl, strV c.col] #[] hb150 rfl rfl rfl ((c_find _ _ hS1.imm l c.col _ (hvl.mono hle1) ).mono ?_)
   rintro e w5 ⟨r3, G5, rfl, hres3, hpost3⟩
   refine ⟨_, rfl, ?_⟩
   have hS5 := hS1.call hres3
   have hle5 := hres3.le
   subst hpost3
   refine WL.assign rfl <| WL.nil <| WC.seq <| WC.seq ?_
   have hf1 := findC_lt (l := l) (nm := c.col)
   refine WC.region rfl <| WL.move rfl ?_
   refine WL.lssS (findC l c.col) 0 rfl rfl rfl (fun h8 => ?_) (fun h8 => ?_)
   ·refine WL.nil <| WC.condT rfl <| WC.seq <| WC.region rfl <| WL.assign rfl <| WL.nil <| WC.ret ?_
    exact ⟨_, rfl, _, _, rfl, hS5.res, (congrArg (Value.int .i64) (by exact (typed_1 (typ_7 (by first | exact .inl (by assumption) | exact .inr (by assumption)) (by assumption)) (by decide)).symm))⟩
   refine WL.nil <| WC.condF rfl <| WC.skip <| WC.seq <| WC.region rfl <| WL.fieldAddr _ 3 _ fl37 rfl rfl rfl <| WL.fieldAddr _ 0 _ fl34 rfl rfl rfl <| WL.loadG1 hS5 (Cells.drop 0 (Cells.drop 3 (hc1.mono hle5))) ti3 rfl rfl rfl <| WL.assign rfl <| WL.nil <| WC.seq <| WC.seq <| WC.region rfl <| WL.fieldAddr _ 2 _ fl37 rfl rfl rfl <| WL.loadG1 hS5 (Cells.drop 2 (hc1.mono hle5)) ti9 rfl rfl rfl <| WL.strCmp .neq rfl c.oth [] rfl rfl rfl ?_
   refine WL.split (fun h0 => ?_) (fun h0 => ?_)
   ·have h9 : c.oth ≠ [] := by simpa [SCmp.b] using h0
    clear h0
    refine WL.nil <| WC.condT rfl <| WC.seq <| WC.region rfl <| WL.move rfl <| WL.fieldAddr _ 2 _ fl37 rfl rfl rfl <| WL.loadG1 hS5 (Cells.drop 2 (hc1.mono hle5)) ti9 rfl rfl rfl ?_
    refine WL.callF [vl, strV c.oth] #[] hb150 rfl rfl rfl ((c_find _ _ hS5.imm l c.oth _ (hvl.mono (hle1.trans hle5)) ).mono ?_)
    rintro e w6 ⟨r4, G6, rfl, hres4, hpost4⟩
    refine ⟨_, rfl, ?_⟩
    have hS6 := hS5.call hres4
    have hle6 := hres4.le
    subst hpost4
    refine WL.assign rfl <| WL.nil <| WC.seq <| WC.seq ?_
    have hf2 := findC_lt (l := l) (nm := c.oth)
    refine WC.region rfl <| WL.move rfl ?_
    refine WL.lssS (findC l c.oth) 0 rfl rfl rfl (fun h10 => ?_) (fun h10 => ?_)
    ·refine WL.nil <| WC.condT rfl <| WC.seq <| WC.region rfl <| WL.assign rfl <| WL.nil <| WC.ret ?_
     exact ⟨_, rfl, _, _, rfl, hS6.res, (congrArg (Value.int .i64) (by exact (typed_1 (typ_7o (by first | exact .inl (by assumption) | exact .inr (by assumption)) (by omega) (by assumption) (by assumption)) (by decide)).symm))⟩
    refine WL.nil <| WC.condF rfl <| WC.skip <| WC.region rfl <| WL.move rfl <| WL.move rfl ?_
    refine WL.indexAddr (hvl.mono ((hle1.trans hle5).trans hle6)) (((findC l c.oth)).toNat) (by omega) ul32 ti71 rfl rfl rfl (congrArg (Value.int .i64) (Int.toNat_of_nonneg (by omega)).symm) (fun p5 x4 hx4 he4 => ?_)
    obtain ⟨cs4, hc5, hr4⟩ := he4
    obtain ⟨rfl, hb13, hb14⟩ := ColE_open hr4
    refine WL.fieldAddr _ 1 _ fl71 rfl rfl rfl <| WL.loadG1 hS6 (Cells.drop 1 hc5) ti3 rfl rfl rfl <| WL.assign rfl <| WL.nil <| WC.seq <| WC.region rfl <| WL.move rfl <| WL.move rfl <| WL.move rfl ?_
    refine WL.indexAddr (hvl.mono ((hle1.trans hle5).trans hle6)) (((findC l c.col)).toNat) (by omega) ul32 ti71 rfl rfl rfl (congrArg (Value.int .i64) (Int.toNat_of_nonneg (by omega)).symm) (fun p6 x5 hx5 he5 => ?_)
    obtain ⟨cs5, hc6, hr5⟩ := he5
    obtain ⟨rfl, hb15, hb16⟩ := ColE_open hr5
    refine WL.fieldAddr _ 1 _ fl71 rfl rfl rfl <| WL.loadG1 hS6 (Cells.drop 1 hc6) ti3 rfl rfl rfl ?_
    refine WL.neqS x4.kind x5.kind rfl rfl rfl (fun h11 => ?_) (fun h11 => ?_)
    ·refine WL.nil <| WC.condT rfl <| WC.seq <| WC.region rfl <| WL.assign rfl <| WL.nil <| WC.ret ?_
     exact ⟨_, rfl, _, _, rfl, hS6.res, (congrArg (Value.int .i64) (by exact (typed_1 ((typ_o (by first | exact .inl (by assumption) | exact .inr (by assumption)) (by omega) (by assumption) (by omega) (by assumption) (by assumption)).trans (if_pos (by omega))) (by decide)).symm))⟩
    refine WL.nil <| WC.condF rfl <| WC.skip ?_
    exact ⟨G6, (hle5.trans hle6), hS6, rfl, rfl, (by exact (typ_o (by first | exact .inl (by assumption) | exact .inr (by assumption)) (by omega) (by assumption) (by omega) (by assumption) (by assumption)).trans (if_neg (by omega)))⟩
   have h9 : c.oth = [] := by simpa [SCmp.b] using h0
   clear h0
   refine WL.nil <| WC.condF rfl <| WC.skip <| WC.seq <| WC.region rfl <| WL.move rfl <| WL.move rfl <| WL.move rfl ?_
   refine WL.indexAddr (hvl.mono (hle1.trans hle5)) (((findC l c.col)).toNat) (by omega) ul32 ti71 rfl rfl rfl (congrArg (Value.int .i64) (Int.toNat_of_nonneg (by omega)).symm) (fun p7 x6 hx6 he6 => ?_)
   obtain ⟨cs6, hc7, hr6⟩ := he6
   obtain ⟨rfl, hb17, hb18⟩ := ColE_open hr6
   refine WL.fieldAddr _ 1 _ fl71 rfl rfl rfl <| WL.loadG1 hS5 (Cells.drop 1 hc7) ti3 rfl rfl rfl ?_
   refine WL.neqS c.v.k x6.kind rfl rfl rfl (fun h12 => ?_) (fun h12 => ?_)
   ·refine WL.nil <| WC.condT rfl <| WC.seq <| WC.region rfl <| WL.assign rfl <| WL.nil <| WC.ret ?_
    exact ⟨_, rfl, _, _, rfl, hS5.res, (congrArg (Value.int .i64) (by exact (typed_1 ((typ_v (by first | exact .inl (by assumption) | exact .inr (by assumption)) (by omega) (by assumption) (by assumption)).trans (if_pos (by omega))) (by decide)).symm))⟩
   refine WL.nil <| WC.condF rfl <| WC.skip ?_
   exact ⟨G5, hle5, hS5, rfl, rfl, (by exact (typ_v (by first | exact .inl (by assumption) | exact .inr (by assumption)) (by omega) (by assumption) (by assumption)).trans (if_neg (by omega)))⟩
  refine WL.pickF rfl rfl <| WL.nil <| WC.condF rfl <| WC.skip ?_
  exact ⟨G1, (G1.le_refl), hS1, rfl, rfl, (by exact typ_no (by assumption) (by assumption))⟩
 rintro ρ1 w2 ⟨G2, hle2, hS2, e1, e2, f1⟩
 refine WC.set (d := 1) e1 <| WC.set (d := 2) e2 ?_
 have ht0 := (by assumption : typ1 c l = 0)
 refine WC.seq <| WC.seq <| WC.region rfl <| WL.fieldAddr _ 6 _ fl37 rfl rfl rfl <| WL.loadG1 hS2 (Cells.drop 6 (hc1.mono hle2)) ti35 rfl rfl rfl ?_
 have bd1 := ho1.bound
 refine WL.lenSl (ho1.mono (hle1.trans hle2)) ul35 rfl rfl <| WL.move rfl <| WL.nil <| WC.block ?_
 refine WC.loop (γ := Nat) (fun m ρ1 w1 => ∃ (k1 : Nat), ∃ (G7 : GH), m = c.l.length - k1 ∧ G2.le G7 ∧ St w [] G G7 [] w1 ∧ ρ1 1 = vl ∧ ρ1 50 = lv1 ∧ ρ1 51 = .int .i64 (c.l.length : Int) ∧ ρ1 52 = .int .i64 (k1 : Int) ∧ k1 ≤ c.l.length ∧ ∀ j, j < k1 → ∀ y, c.l[j]? = some y → typedF d y l = 0) (fun m => m) _ ⟨0, G2, rfl, (G2.le_refl), hS2, rfl, rfl, rfl, rfl, (by omega), (by intro j hj; omega)⟩ ?_
 rintro m ρ1 w7 ⟨k1, G7, rfl, hle7, hS7, e3, e4, e5, e6, f2, f3⟩
 refine WC.set (d := 1) e3 <| WC.set (d := 50) e4 <| WC.set (d := 51) e5 <| WC.set (d := 52) e6 <| WC.seq <| WC.region rfl ?_
 refine WL.lssS (k1 : Int) (c.l.length : Int) rfl rfl rfl (fun h13 => ?_) (fun h13 => ?_)
 ·refine WL.nil <| WC.seq <| WC.condT rfl <| WC.skip <| WC.seq <| WC.block <| WC.seq <| WC.region rfl ?_
  refine WL.indexAddr (ho1.mono ((hle1.trans hle2).trans hle7)) k1 (by omega) ul35 ti37 rfl rfl rfl rfl (fun p8 x7 hx7 he7 => ?_)
  obtain ⟨cs7, hc8, hr7⟩ := he7
  obtain ⟨lv2, rfl, hb19, hb20, hb21, hb22, hb23, hb24, ho2⟩ := CondE_open hr7
  refine WL.loadGAt hS7 hc8 [.int .i64 x7.kind, strV x7.col, strV x7.oth, .int .i64 x7.v.k, .int .i64 x7.v.n, strV x7.v.s, lv2] ti37 rfl rfl rfl rfl rfl ?_
  refine WL.alloc hS7 ti37 rfl rfl (fun b1 w8 hn1 hS8 => ?_)
  refine WL.store hS8 0 _ _ _ 0 _ [.int .i64 x7.kind, strV x7.col, strV x7.oth, .int .i64 x7.v.k, .int .i64 x7.v.n, strV x7.v.s, lv2] [.int .i64 x7.kind, strV x7.col, strV x7.oth, .int .i64 x7.v.k, .int .i64 x7.v.n, strV x7.v.s, lv2] _ rfl rfl ti37 rfl (Nat.le_of_ble_eq_true rfl) (by simp only [List.all_cons, List.all_nil, ho2, Bool.true_and] <;> rfl) rfl rfl rfl rfl rfl (fun w9 hS9 => ?_)
  obtain ⟨G8, hle8, hc9, hS10⟩ := hS9.shutB hn1
  refine WL.nil <| WC.seq <| WC.region rfl <| WL.loadGAt hS10 hc9 [.int .i64 x7.kind, strV x7.col, strV x7.oth, .int .i64 x7.v.k, .int .i64 x7.v.n, strV x7.v.s, lv2] ti37 rfl rfl rfl rfl rfl <| WL.move rfl ?_
  refine WL.callF [.agg #[.int .i64 x7.kind, strV x7.col, strV x7.oth, .int .i64 x7.v.k, .int .i64 x7.v.n, strV x7.v.s, lv2], vl] #[] hb126 rfl rfl rfl ((ih _ _ hS10.imm x7 l _ ((CondE _).mono hle8 hr7) _ (hvl.mono (((hle1.trans hle2).trans hle7).trans hle8)) ).mono ?_)
  rintro e w10 ⟨r5, G9, rfl, hres5, hpost5⟩
  refine ⟨_, rfl, ?_⟩
  have hS11 := hS10.call hres5
  have hle9 := hres5.le
  subst hpost5
  refine WL.assign rfl <| WL.nil <| WC.seq <| WC.region rfl <| WL.move rfl ?_
  refine WL.neqS (typedF d x7 l) 0 rfl rfl rfl (fun h14 => ?_) (fun h14 => ?_)
  ·refine WL.nil <| WC.condT rfl <| WC.seq <| WC.region rfl <| WL.move rfl <| WL.assign rfl <| WL.nil <| WC.ret ?_
   exact ⟨_, rfl, _, _, rfl, hS11.res, (congrArg (Value.int .i64) (by exact (typed_2 ht0 (by assumption) (by assumption) (by assumption)).symm))⟩
  refine WL.nil <| WC.condF rfl <| WC.skip <| WC.region rfl ?_
  refine WL.incr k1 (by have hreach : reach = 140737488355328 := rfl; omega) rfl rfl rfl ?_
  refine WL.move rfl <| WL.nil ?_
  exact ⟨_, ⟨k1 + 1, G9, rfl, (hle7.trans (hle8.trans hle9)), hS11, rfl, rfl, rfl, rfl, (by omega), (by exact lt_step (by assumption) (by assumption) (by assumption))⟩, (show c.l.length - (k1 + 1) < c.l.length - k1 by omega)⟩
 refine WL.nil <| WC.seq <| WC.condF rfl <| WC.exit <| WC.seq <| WC.region rfl <| WL.assign rfl <| WL.nil <| WC.ret ?_
 exact ⟨_, rfl, _, _, rfl, hS7.res, (congrArg (Value.int .i64) (by exact (typed_3 ht0 (by assumption) (by omega)).symm))⟩

theorem c_rtyped (d : Nat) : ∀ (G : GH) (w : World) (hG : G.In w) (c : Cond) (l : List Col) (cc : List Value) (hcc : (CondE d).rep G c cc) (vl : Value) (hvl : Sl ColE 24 G vl l) , Calls Tryz.prog (nat_lit 128) #[.agg cc.toArray, vl] w fun e w' => ∃ r G', e = .returned r ∧ Res [] w G w' G' ∧ r = .int .i64 (typedF d c l) := by
 induction d
 ·intro G w hG c l cc hcc vl hvl; exact (CondE_zero hcc).elim
 rename_i d ih
 intro G w hG c l cc hcc vl hvl
 refine calls_of_WC (N := 65) Tryz.func128 rfl rfl rfl ?_
 have hS := St.start (X := []) hG
 obtain ⟨lv1, rfl, hb1, hb2, hb3, hb4, hb5, hb6, ho1⟩ := CondE_step hcc
 refine WC.seq <| WC.region rfl ?_
 refine WL.boxG [.int .i64 c.kind, strV c.col, strV c.oth, .int .i64 c.v.k, .int .i64 c.v.n, strV c.v.s, lv1] _ hS rfl rfl rfl (fun p1 w1 G1 hle1 hsp1 hc1 hS1 => ?_)
 refine WL.assign rfl <| WL.nil ?_
 refine WC.seqJ (fun ρ1 w1 => ∃ (G2 : GH), G1.le G2 ∧ St w [] G G2 [] w1 ∧ ρ1 1 = vl ∧ ρ1 2 = .pointer (some p1) ∧ typ1 c l = 0) ?_ ?_
 ·refine WC.seq <| WC.region rfl <| WL.fieldAddr _ 0 _ fl37 rfl rfl rfl <| WL.loadG1 hS1 (Cells.drop 0 hc1) ti3 rfl rfl rfl ?_
  refine WL.eqlS c.kind 1 rfl rfl rfl (fun h1 => ?_) (fun h1 => ?_)
  ·refine WL.move rfl <| WL.no rfl rfl <| WL.no rfl rfl <| WL.no rfl rfl <| WL.pickT rfl rfl <| WL.nil <| WC.condT rfl <| WC.seq <| WC.region rfl <| WL.move rfl <| WL.fieldAddr _ 1 _ fl37 rfl rfl rfl <| WL.loadG1 hS1 (Cells.drop 1 hc1) ti9 rfl rfl rfl ?_
   refine WL.callF [vl, strV c.col] #[] hb129 rfl rfl rfl ((c_rAt33 _ _ hS1.imm l c.col _ (hvl.mono hle1) ).mono ?_)
   rintro e w3 ⟨r1, G3, rfl, hres1, hpost1⟩
   refine ⟨_, rfl, ?_⟩
   have hS3 := hS1.call hres1
   have hle3 := hres1.le
   subst hpost1
   refine WL.assign rfl <| WL.nil <| WC.seq <| WC.seq ?_
   have hf1 := findC_lt (l := l) (nm := c.col)
   refine WC.region rfl <| WL.move rfl ?_
   refine WL.lssS (findC l c.col) 0 rfl rfl rfl (fun h2 => ?_) (fun h2 => ?_)
   ·refine WL.nil <| WC.condT rfl <| WC.seq <| WC.region rfl <| WL.assign rfl <| WL.nil <| WC.ret ?_
    exact ⟨_, rfl, _, _, rfl, hS3.res, (congrArg (Value.int .i64) (by exact (typed_1 (typ_7 (by first | exact .inl (by assumption) | exact .inr (by assumption)) (by assumption)) (by decide)).symm))⟩
   refine WL.nil <| WC.condF rfl <| WC.skip <| WC.seq <| WC.region rfl <| WL.fieldAddr _ 3 _ fl37 rfl rfl rfl <| WL.fieldAddr _ 0 _ fl34 rfl rfl rfl <| WL.loadG1 hS3 (Cells.drop 0 (Cells.drop 3 (hc1.mono hle3))) ti3 rfl rfl rfl <| WL.assign rfl <| WL.nil <| WC.seq <| WC.seq <| WC.region rfl <| WL.fieldAddr _ 2 _ fl37 rfl rfl rfl <| WL.loadG1 hS3 (Cells.drop 2 (hc1.mono hle3)) ti9 rfl rfl rfl <| WL.strCmp .neq rfl c.oth [] rfl rfl rfl ?_
   refine WL.split (fun h0 => ?_) (fun h0 => ?_)
   ·have h3 : c.oth ≠ [] := by simpa [SCmp.b] using h0
    clear h0
    refine WL.nil <| WC.condT rfl <| WC.seq <| WC.region rfl <| WL.move rfl <| WL.fieldAddr _ 2 _ fl37 rfl rfl rfl <| WL.loadG1 hS3 (Cells.drop 2 (hc1.mono hle3)) ti9 rfl rfl rfl ?_
    refine WL.callF [vl, strV c.oth] #[] hb129 rfl rfl rfl ((c_rAt33 _ _ hS3.imm l c.oth _ (hvl.mono (hle1.trans hle3)) ).mono ?_)
    rintro e w4 ⟨r2, G4, rfl, hres2, hpost2⟩
    refine ⟨_, rfl, ?_⟩
    have hS4 := hS3.call hres2
    have hle4 := hres2.le
    subst hpost2
    refine WL.assign rfl <| WL.nil <| WC.seq <| WC.seq ?_
    have hf2 := findC_lt (l := l) (nm := c.oth)
    refine WC.region rfl <| WL.move rfl ?_
    refine WL.lssS (findC l c.oth) 0 rfl rfl rfl (fun h4 => ?_) (fun h4 => ?_)
    ·refine WL.nil <| WC.condT rfl <| WC.seq <| WC.region rfl <| WL.assign rfl <| WL.nil <| WC.ret ?_
     exact ⟨_, rfl, _, _, rfl, hS4.res, (congrArg (Value.int .i64) (by exact (typed_1 (typ_7o (by first | exact .inl (by assumption) | exact .inr (by assumption)) (by omega) (by assumption) (by assumption)) (by decide)).symm))⟩
    refine WL.nil <| WC.condF rfl <| WC.skip <| WC.region rfl <| WL.move rfl <| WL.move rfl ?_
    refine WL.indexAddr (hvl.mono ((hle1.trans hle3).trans hle4)) (((findC l c.oth)).toNat) (by omega) ul32 ti71 rfl rfl rfl (congrArg (Value.int .i64) (Int.toNat_of_nonneg (by omega)).symm) (fun p2 x1 hx1 he1 => ?_)
    obtain ⟨cs1, hc2, hr1⟩ := he1
    obtain ⟨rfl, hb7, hb8⟩ := ColE_open hr1
    refine WL.fieldAddr _ 1 _ fl71 rfl rfl rfl <| WL.loadG1 hS4 (Cells.drop 1 hc2) ti3 rfl rfl rfl <| WL.assign rfl <| WL.nil <| WC.seq <| WC.region rfl <| WL.move rfl <| WL.move rfl ?_
    refine WL.indexAddr (hvl.mono ((hle1.trans hle3).trans hle4)) (((findC l c.col)).toNat) (by omega) ul32 ti71 rfl rfl rfl (congrArg (Value.int .i64) (Int.toNat_of_nonneg (by omega)).symm) (fun p3 x2 hx2 he2 => ?_)
    obtain ⟨cs2, hc3, hr2⟩ := he2
    obtain ⟨rfl, hb9, hb10⟩ := ColE_open hr2
    refine WL.fieldAddr _ 1 _ fl71 rfl rfl rfl <| WL.loadG1 hS4 (Cells.drop 1 hc3) ti3 rfl rfl rfl <| WL.move rfl ?_
    refine WL.neqS x2.kind x1.kind rfl rfl rfl (fun h5 => ?_) (fun h5 => ?_)
    ·refine WL.nil <| WC.condT rfl <| WC.seq <| WC.region rfl <| WL.assign rfl <| WL.nil <| WC.ret ?_
     exact ⟨_, rfl, _, _, rfl, hS4.res, (congrArg (Value.int .i64) (by exact (typed_1 ((typ_o (by first | exact .inl (by assumption) | exact .inr (by assumption)) (by omega) (by assumption) (by omega) (by assumption) (by assumption)).trans (if_pos (by omega))) (by decide)).symm))⟩
    refine WL.nil <| WC.condF rfl <| WC.skip ?_
    exact ⟨G4, (hle3.trans hle4), hS4, rfl, rfl, (by exact (typ_o (by first | exact .inl (by assumption) | exact .inr (by assumption)) (by omega) (by assumption) (by omega) (by assumption) (by assumption)).trans (if_neg (by omega)))⟩
   have h3 : c.oth = [] := by simpa [SCmp.b] using h0
   clear h0
   refine WL.nil <| WC.condF rfl <| WC.skip <| WC.seq <| WC.region rfl <| WL.move rfl <| WL.move rfl ?_
   refine WL.indexAddr (hvl.mono (hle1.trans hle3)) (((findC l c.col)).toNat) (by omega) ul32 ti71 rfl rfl rfl (congrArg (Value.int .i64) (Int.toNat_of_nonneg (by omega)).symm) (fun p4 x3 hx3 he3 => ?_)
   obtain ⟨cs3, hc4, hr3⟩ := he3
   obtain ⟨rfl, hb11, hb12⟩ := ColE_open hr3
   refine WL.fieldAddr _ 1 _ fl71 rfl rfl rfl <| WL.loadG1 hS3 (Cells.drop 1 hc4) ti3 rfl rfl rfl <| WL.move rfl ?_
   refine WL.neqS x3.kind c.v.k rfl rfl rfl (fun h6 => ?_) (fun h6 => ?_)
   ·refine WL.nil <| WC.condT rfl <| WC.seq <| WC.region rfl <| WL.assign rfl <| WL.nil <| WC.ret ?_
    exact ⟨_, rfl, _, _, rfl, hS3.res, (congrArg (Value.int .i64) (by exact (typed_1 ((typ_v (by first | exact .inl (by assumption) | exact .inr (by assumption)) (by omega) (by assumption) (by assumption)).trans (if_pos (by omega))) (by decide)).symm))⟩
   refine WL.nil <| WC.condF rfl <| WC.skip ?_
   exact ⟨G3, hle3, hS3, rfl, rfl, (by exact (typ_v (by first | exact .inl (by assumption) | exact .inr (by assumption)) (by omega) (by assumption) (by assumption)).trans (if_neg (by omega)))⟩
  refine WL.move rfl <| WL.fieldAddr _ 0 _ fl37 rfl rfl rfl <| WL.loadG1 hS1 (Cells.drop 0 hc1) ti3 rfl rfl rfl ?_
  refine WL.eqlS c.kind 2 rfl rfl rfl (fun h7 => ?_) (fun h7 => ?_)
  ·refine WL.pickF rfl rfl <| WL.nil <| WC.condT rfl <| WC.seq <| WC.region rfl <| WL.move rfl <| WL.fieldAddr _ 1 _ fl37 rfl rfl rfl <| WL.loadG1 hS1 (Cells.drop 1 hc1) ti9 rfl rfl rfl ?_
   refine WL.callF [vl, strV c.col] #[] hb129 rfl rfl rfl ((c_rAt33 _ _ hS1.imm l c.col _ (hvl.mono hle1) ).mono ?_)
   rintro e w5 ⟨r3, G5, rfl, hres3, hpost3⟩
   refine ⟨_, rfl, ?_⟩
   have hS5 := hS1.call hres3
   have hle5 := hres3.le
   subst hpost3
   refine WL.assign rfl <| WL.nil <| WC.seq <| WC.seq ?_
   have hf1 := findC_lt (l := l) (nm := c.col)
   refine WC.region rfl <| WL.move rfl ?_
   refine WL.lssS (findC l c.col) 0 rfl rfl rfl (fun h8 => ?_) (fun h8 => ?_)
   ·refine WL.nil <| WC.condT rfl <| WC.seq <| WC.region rfl <| WL.assign rfl <| WL.nil <| WC.ret ?_
    exact ⟨_, rfl, _, _, rfl, hS5.res, (congrArg (Value.int .i64) (by exact (typed_1 (typ_7 (by first | exact .inl (by assumption) | exact .inr (by assumption)) (by assumption)) (by decide)).symm))⟩
   refine WL.nil <| WC.condF rfl <| WC.skip <| WC.seq <| WC.region rfl <| WL.fieldAddr _ 3 _ fl37 rfl rfl rfl <| WL.fieldAddr _ 0 _ fl34 rfl rfl rfl <| WL.loadG1 hS5 (Cells.drop 0 (Cells.drop 3 (hc1.mono hle5))) ti3 rfl rfl rfl <| WL.assign rfl <| WL.nil <| WC.seq <| WC.seq <| WC.region rfl <| WL.fieldAddr _ 2 _ fl37 rfl rfl rfl <| WL.loadG1 hS5 (Cells.drop 2 (hc1.mono hle5)) ti9 rfl rfl rfl <| WL.strCmp .neq rfl c.oth [] rfl rfl rfl ?_
   refine WL.split (fun h0 => ?_) (fun h0 => ?_)
   ·have h9 : c.oth ≠ [] := by simpa [SCmp.b] using h0
    clear h0
    refine WL.nil <| WC.condT rfl <| WC.seq <| WC.region rfl <| WL.move rfl <| WL.fieldAddr _ 2 _ fl37 rfl rfl rfl <| WL.loadG1 hS5 (Cells.drop 2 (hc1.mono hle5)) ti9 rfl rfl rfl ?_
    refine WL.callF [vl, strV c.oth] #[] hb129 rfl rfl rfl ((c_rAt33 _ _ hS5.imm l c.oth _ (hvl.mono (hle1.trans hle5)) ).mono ?_)
    rintro e w6 ⟨r4, G6, rfl, hres4, hpost4⟩
    refine ⟨_, rfl, ?_⟩
    have hS6 := hS5.call hres4
    have hle6 := hres4.le
    subst hpost4
    refine WL.assign rfl <| WL.nil <| WC.seq <| WC.seq ?_
    have hf2 := findC_lt (l := l) (nm := c.oth)
    refine WC.region rfl <| WL.move rfl ?_
    refine WL.lssS (findC l c.oth) 0 rfl rfl rfl (fun h10 => ?_) (fun h10 => ?_)
    ·refine WL.nil <| WC.condT rfl <| WC.seq <| WC.region rfl <| WL.assign rfl <| WL.nil <| WC.ret ?_
     exact ⟨_, rfl, _, _, rfl, hS6.res, (congrArg (Value.int .i64) (by exact (typed_1 (typ_7o (by first | exact .inl (by assumption) | exact .inr (by assumption)) (by omega) (by assumption) (by assumption)) (by decide)).symm))⟩
    refine WL.nil <| WC.condF rfl <| WC.skip <| WC.region rfl <| WL.move rfl <| WL.move rfl ?_
    refine WL.indexAddr (hvl.mono ((hle1.trans hle5).trans hle6)) (((findC l c.oth)).toNat) (by omega) ul32 ti71 rfl rfl rfl (congrArg (Value.int .i64) (Int.toNat_of_nonneg (by omega)).symm) (fun p5 x4 hx4 he4 => ?_)
    obtain ⟨cs4, hc5, hr4⟩ := he4
    obtain ⟨rfl, hb13, hb14⟩ := ColE_open hr4
    refine WL.fieldAddr _ 1 _ fl71 rfl rfl rfl <| WL.loadG1 hS6 (Cells.drop 1 hc5) ti3 rfl rfl rfl <| WL.assign rfl <| WL.nil <| WC.seq <| WC.region rfl <| WL.move rfl <| WL.move rfl ?_
    refine WL.indexAddr (hvl.mono ((hle1.trans hle5).trans hle6)) (((findC l c.col)).toNat) (by omega) ul32 ti71 rfl rfl rfl (congrArg (Value.int .i64) (Int.toNat_of_nonneg (by omega)).symm) (fun p6 x5 hx5 he5 => ?_)
    obtain ⟨cs5, hc6, hr5⟩ := he5
    obtain ⟨rfl, hb15, hb16⟩ := ColE_open hr5
    refine WL.fieldAddr _ 1 _ fl71 rfl rfl rfl <| WL.loadG1 hS6 (Cells.drop 1 hc6) ti3 rfl rfl rfl <| WL.move rfl ?_
    refine WL.neqS x5.kind x4.kind rfl rfl rfl (fun h11 => ?_) (fun h11 => ?_)
    ·refine WL.nil <| WC.condT rfl <| WC.seq <| WC.region rfl <| WL.assign rfl <| WL.nil <| WC.ret ?_
     exact ⟨_, rfl, _, _, rfl, hS6.res, (congrArg (Value.int .i64) (by exact (typed_1 ((typ_o (by first | exact .inl (by assumption) | exact .inr (by assumption)) (by omega) (by assumption) (by omega) (by assumption) (by assumption)).trans (if_pos (by omega))) (by decide)).symm))⟩
    refine WL.nil <| WC.condF rfl <| WC.skip ?_
    exact ⟨G6, (hle5.trans hle6), hS6, rfl, rfl, (by exact (typ_o (by first | exact .inl (by assumption) | exact .inr (by assumption)) (by omega) (by assumption) (by omega) (by assumption) (by assumption)).trans (if_neg (by omega)))⟩
   have h9 : c.oth = [] := by simpa [SCmp.b] using h0
   clear h0
   refine WL.nil <| WC.condF rfl <| WC.skip <| WC.seq <| WC.region rfl <| WL.move rfl <| WL.move rfl ?_
   refine WL.indexAddr (hvl.mono (hle1.trans hle5)) (((findC l c.col)).toNat) (by omega) ul32 ti71 rfl rfl rfl (congrArg (Value.int .i64) (Int.toNat_of_nonneg (by omega)).symm) (fun p7 x6 hx6 he6 => ?_)
   obtain ⟨cs6, hc7, hr6⟩ := he6
   obtain ⟨rfl, hb17, hb18⟩ := ColE_open hr6
   refine WL.fieldAddr _ 1 _ fl71 rfl rfl rfl <| WL.loadG1 hS5 (Cells.drop 1 hc7) ti3 rfl rfl rfl <| WL.move rfl ?_
   refine WL.neqS x6.kind c.v.k rfl rfl rfl (fun h12 => ?_) (fun h12 => ?_)
   ·refine WL.nil <| WC.condT rfl <| WC.seq <| WC.region rfl <| WL.assign rfl <| WL.nil <| WC.ret ?_
    exact ⟨_, rfl, _, _, rfl, hS5.res, (congrArg (Value.int .i64) (by exact (typed_1 ((typ_v (by first | exact .inl (by assumption) | exact .inr (by assumption)) (by omega) (by assumption) (by assumption)).trans (if_pos (by omega))) (by decide)).symm))⟩
   refine WL.nil <| WC.condF rfl <| WC.skip ?_
   exact ⟨G5, hle5, hS5, rfl, rfl, (by exact (typ_v (by first | exact .inl (by assumption) | exact .inr (by assumption)) (by omega) (by assumption) (by assumption)).trans (if_neg (by omega)))⟩
  refine WL.pickF rfl rfl <| WL.nil <| WC.condF rfl <| WC.skip ?_
  exact ⟨G1, (G1.le_refl), hS1, rfl, rfl, (by exact typ_no (by assumption) (by assumption))⟩
 rintro ρ1 w2 ⟨G2, hle2, hS2, e1, e2, f1⟩
 refine WC.set (d := 1) e1 <| WC.set (d := 2) e2 ?_
 have ht0 := (by assumption : typ1 c l = 0)
 refine WC.seq <| WC.seq <| WC.region rfl <| WL.assign rfl <| WL.nil <| WC.block ?_
 refine WC.loop (γ := Nat) (fun m ρ1 w1 => ∃ (k1 : Nat), ∃ (G7 : GH), m = c.l.length - k1 ∧ G2.le G7 ∧ St w [] G G7 [] w1 ∧ ρ1 1 = vl ∧ ρ1 2 = .pointer (some p1) ∧ ρ1 8 = .int .i64 (k1 : Int) ∧ k1 ≤ c.l.length ∧ ∀ j, j < k1 → ∀ y, c.l[j]? = some y → typedF d y l = 0) (fun m => m) _ ⟨0, G2, rfl, (G2.le_refl), hS2, rfl, rfl, rfl, (by omega), (by intro j hj; omega)⟩ ?_
 rintro m ρ1 w7 ⟨k1, G7, rfl, hle7, hS7, e3, e4, e5, f2, f3⟩
 refine WC.set (d := 1) e3 <| WC.set (d := 2) e4 <| WC.set (d := 8) e5 <| WC.seq <| WC.seq <| WC.region rfl <| WL.move rfl <| WL.fieldAddr _ 6 _ fl37 rfl rfl rfl <| WL.loadG1 hS7 (Cells.drop 6 (hc1.mono (hle2.trans hle7))) ti35 rfl rfl rfl ?_
 have bd1 := ho1.bound
 refine WL.lenSl (ho1.mono ((hle1.trans hle2).trans hle7)) ul35 rfl rfl ?_
 refine WL.lssS (k1 : Int) (c.l.length : Int) rfl rfl rfl (fun h13 => ?_) (fun h13 => ?_)
 ·refine WL.nil <| WC.condT rfl <| WC.skip <| WC.seq <| WC.block <| WC.seq <| WC.region rfl <| WL.fieldAddr _ 6 _ fl37 rfl rfl rfl <| WL.loadG1 hS7 (Cells.drop 6 (hc1.mono (hle2.trans hle7))) ti35 rfl rfl rfl <| WL.move rfl ?_
  refine WL.indexAddr (ho1.mono ((hle1.trans hle2).trans hle7)) k1 (by omega) ul35 ti37 rfl rfl rfl rfl (fun p8 x7 hx7 he7 => ?_)
  obtain ⟨cs7, hc8, hr7⟩ := he7
  obtain ⟨lv2, rfl, hb19, hb20, hb21, hb22, hb23, hb24, ho2⟩ := CondE_open hr7
  refine WL.loadGAt hS7 hc8 [.int .i64 x7.kind, strV x7.col, strV x7.oth, .int .i64 x7.v.k, .int .i64 x7.v.n, strV x7.v.s, lv2] ti37 rfl rfl rfl rfl rfl <| WL.move rfl ?_
  refine WL.callF [.agg #[.int .i64 x7.kind, strV x7.col, strV x7.oth, .int .i64 x7.v.k, .int .i64 x7.v.n, strV x7.v.s, lv2], vl] #[] hb128 rfl rfl rfl ((ih _ _ hS7.imm x7 l _ hr7 _ (hvl.mono ((hle1.trans hle2).trans hle7)) ).mono ?_)
  rintro e w8 ⟨r5, G8, rfl, hres5, hpost5⟩
  refine ⟨_, rfl, ?_⟩
  have hS8 := hS7.call hres5
  have hle8 := hres5.le
  subst hpost5
  refine WL.assign rfl <| WL.nil <| WC.seq <| WC.region rfl <| WL.move rfl ?_
  refine WL.neqS (typedF d x7 l) 0 rfl rfl rfl (fun h14 => ?_) (fun h14 => ?_)
  ·refine WL.nil <| WC.condT rfl <| WC.seq <| WC.region rfl <| WL.move rfl <| WL.assign rfl <| WL.nil <| WC.ret ?_
   exact ⟨_, rfl, _, _, rfl, hS8.res, (congrArg (Value.int .i64) (by exact (typed_2 ht0 (by assumption) (by assumption) (by assumption)).symm))⟩
  refine WL.nil <| WC.condF rfl <| WC.skip <| WC.region rfl <| WL.move rfl ?_
  refine WL.incr k1 (by have hreach : reach = 140737488355328 := rfl; omega) rfl rfl rfl ?_
  refine WL.assign rfl <| WL.nil ?_
  exact ⟨_, ⟨k1 + 1, G8, rfl, (hle7.trans hle8), hS8, rfl, rfl, rfl, (by omega), (by exact lt_step (by assumption) (by assumption) (by assumption))⟩, (show c.l.length - (k1 + 1) < c.l.length - k1 by omega)⟩
 refine WL.nil <| WC.condF rfl <| WC.exit <| WC.seq <| WC.region rfl <| WL.assign rfl <| WL.nil <| WC.ret ?_
 exact ⟨_, rfl, _, _, rfl, hS7.res, (congrArg (Value.int .i64) (by exact (typed_3 ht0 (by assumption) (by omega)).symm))⟩
end Go.Civ
