/- Walks, printed by specs38.py. -/
import Derived.Test.YtapjalhjfblonaaGreatProg
import Derived.KernelRfl
import Derived.WalkKit
import Derived.Test.YtapjalhjfblonaaGreatWz6
import Derived.Test.YtapjalhjfblonaaGreatCiv38
import Derived.Test.YtapjalhjfblonaaGreatWa
set_option linter.unusedVariables false
set_option linter.unusedSimpArgs false
set_option maxRecDepth 100000
set_option maxHeartbeats 4000000
namespace Go.Civ
open Go.Proofs


theorem c_IndexI (G : GH) (w : World) (hG : G.In w) (l : List Int) (pf : Int → Bool) (vl : Value) (hvl : Sl Enc.int 8 G vl l) (fid : Nat) (fcap : Array Value) (hf : FnB Tryz.prog IntV fid fcap G (fun x => x ∈ l) pf)  : Calls Tryz.prog (nat_lit 131) #[vl, .func (.func fid) #[] fcap] w fun e w' => ∃ r G', e = .returned r ∧ Res [] w G w' G' ∧ r = .int .i64 (idxF pf l) := by
 refine calls_of_WC (N := 19) Tryz.func131 rfl rfl rfl ?_
 have hS := St.start (X := []) hG
 refine WC.seq <| WC.region rfl <| WL.assign rfl <| WL.nil <| WC.seq <| WC.seq <| WC.region rfl <| WL.move rfl ?_
 have bd1 := hvl.bound
 refine WL.lenSl hvl ul38 rfl rfl <| WL.move rfl <| WL.nil <| WC.block ?_
 refine WC.loop (γ := Nat) (fun m ρ1 w1 => ∃ (k1 : Nat), ∃ (G1 : GH), m = l.length - k1 ∧ G.le G1 ∧ St w [] G G1 [] w1 ∧ ρ1 0 = vl ∧ ρ1 1 = .func (.func fid) #[] fcap ∧ ρ1 7 = .int .i64 (l.length : Int) ∧ ρ1 8 = .int .i64 (k1 : Int) ∧ k1 ≤ l.length ∧ ∀ j, j < k1 → ∀ x, l[j]? = some x → pf x = false) (fun m => m) _ ⟨0, G, rfl, (G.le_refl), hS, rfl, rfl, rfl, rfl, (by omega), (by intro j hj; omega)⟩ ?_
 rintro m ρ1 w1 ⟨k1, G1, rfl, hle1, hS1, e1, e2, e3, e4, f1, f2⟩
 refine WC.set (d := 0) e1 <| WC.set (d := 1) e2 <| WC.set (d := 7) e3 <| WC.set (d := 8) e4 <| WC.seq <| WC.region rfl ?_
 refine WL.lssS (k1 : Int) (l.length : Int) rfl rfl rfl (fun h1 => ?_) (fun h1 => ?_)
 ·refine WL.nil <| WC.seq <| WC.condT rfl <| WC.skip <| WC.seq <| WC.block <| WC.seq <| WC.region rfl <| WL.move rfl <| WL.assign rfl <| WL.nil <| WC.seq <| WC.region rfl <| WL.move rfl <| WL.move rfl <| WL.move rfl ?_
  refine WL.indexAddr (hvl.mono hle1) k1 (by omega) ul38 ti3 rfl rfl rfl rfl (fun p1 x1 hx1 he1 => ?_)
  obtain ⟨cs1, hc1, hr1⟩ := he1
  obtain ⟨rfl, hb1⟩ := hr1
  refine WL.loadG1 hS1 hc1 ti3 rfl rfl rfl ?_
  have hcc1 := hf.call _ _ (.int .i64 x1) x1 hle1 hS1.imm (List.mem_of_getElem? hx1) ⟨rfl, hb1⟩
  refine WL.callF _ fcap hf.body rfl rfl rfl (hcc1.mono ?_)
  rintro e w2 ⟨r1, G2, rfl, hres1, hpost1⟩
  refine ⟨_, rfl, ?_⟩
  have hS2 := hS1.call hres1
  have hle2 := hres1.le
  subst hpost1
  refine WL.split (fun (h2 : (pf x1) = true) => ?_) (fun (h2 : (pf x1) = false) => ?_)
  ·refine WL.nil <| WC.condT rfl <| WC.seq <| WC.region rfl <| WL.move rfl <| WL.assign rfl <| WL.nil <| WC.ret ?_
   exact ⟨_, rfl, _, _, rfl, hS2.res, (congrArg (Value.int .i64) (by first | exact (idxF_some _ (by assumption) (by assumption) (by assumption)).symm | exact (idxF_none' (by assumption) (by omega)).symm))⟩
  refine WL.nil <| WC.condF rfl <| WC.skip <| WC.region rfl ?_
  refine WL.incr k1 (by have hreach : reach = 140737488355328 := rfl; omega) rfl rfl rfl ?_
  refine WL.move rfl <| WL.nil ?_
  exact ⟨_, ⟨k1 + 1, G2, rfl, (hle1.trans hle2), hS2, rfl, rfl, rfl, rfl, (by omega), (by exact lt_step (by assumption) (by assumption) (by assumption))⟩, (show l.length - (k1 + 1) < l.length - k1 by omega)⟩
 refine WL.nil <| WC.seq <| WC.condF rfl <| WC.exit <| WC.seq <| WC.region rfl <| WL.assign rfl <| WL.nil <| WC.ret ?_
 exact ⟨_, rfl, _, _, rfl, hS1.res, (congrArg (Value.int .i64) (by first | exact (idxF_some _ (by assumption) (by assumption) (by assumption)).symm | exact (idxF_none' (by assumption) (by omega)).symm))⟩

theorem c_ContainsI (G : GH) (w : World) (hG : G.In w) (l : List Int) (pf : Int → Bool) (vl : Value) (hvl : Sl Enc.int 8 G vl l) (fid : Nat) (fcap : Array Value) (hf : FnB Tryz.prog IntV fid fcap G (fun x => x ∈ l) pf)  : Calls Tryz.prog (nat_lit 71) #[vl, .func (.func fid) #[] fcap] w fun e w' => ∃ r G', e = .returned r ∧ Res [] w G w' G' ∧ r = .bool (l.any pf) := by
 refine calls_of_WC (N := 9) Tryz.func71 rfl rfl rfl ?_
 have hS := St.start (X := []) hG
 refine WC.seq <| WC.region rfl <| WL.assign rfl <| WL.nil <| WC.seq <| WC.region rfl <| WL.move rfl <| WL.move rfl ?_
 refine WL.callF [vl, .func (.func fid) #[] fcap] #[] hb131 rfl rfl rfl ((c_IndexI _ _ hS.imm l pf _ hvl fid fcap (hf.up (G.le_refl)) ).mono ?_)
 rintro e w1 ⟨r1, G1, rfl, hres1, hpost1⟩
 refine ⟨_, rfl, ?_⟩
 have hS1 := hS.call hres1
 have hle1 := hres1.le
 subst hpost1
 refine WL.cmp .geq rfl .i64 (idxF pf l) 0 rfl rfl rfl <| WL.assign rfl <| WL.nil <| WC.ret ?_
 exact ⟨_, rfl, _, _, rfl, hS1.res, (congrArg Value.bool (by exact idxF_any _ _))⟩

theorem c_prj1 (G : GH) (w : World) (hG : G.In w) (i : Int) (l : List Fact) (vl : Value) (hvl : Sl FactE 40 G vl l) (pl : Addr) (hpl : Cells G pl [vl]) (h0 : 0 < l.length) : Calls Tryz.prog (nat_lit 72) #[.int .i64 i, .pointer (some pl)] w fun e w' => ∃ r G', e = .returned r ∧ Res [] w G w' G' ∧ r = .bool (oob (headV l).length i) := by
 refine calls_of_WC (N := 15) Tryz.func72 rfl rfl rfl ?_
 have hS := St.start (X := []) hG
 refine WC.seq <| WC.region rfl <| WL.assign rfl <| WL.nil <| WC.seq <| WC.region rfl <| WL.move rfl ?_
 refine WL.lssS i 0 rfl rfl rfl (fun h1 => ?_) (fun h1 => ?_)
 ·refine WL.move rfl <| WL.no rfl rfl <| WL.no rfl rfl <| WL.no rfl rfl <| WL.no rfl rfl <| WL.no rfl rfl <| WL.no rfl rfl <| WL.no rfl rfl <| WL.pickT rfl rfl <| WL.assign rfl <| WL.nil <| WC.ret ?_
  exact ⟨_, rfl, _, _, rfl, hS.res, (congrArg Value.bool (by unfold oob; first | (rw [decide_eq_true (by assumption : i < 0)]; rfl) | (rw [headV_of (by assumption)]; simp_all [Cmp.b] <;> omega)))⟩
 refine WL.move rfl <| WL.move rfl <| WL.loadG1 hS hpl ti22 rfl rfl rfl ?_
 refine WL.indexAddr hvl 0 (by omega) ul22 ti63 rfl rfl rfl rfl (fun p1 x1 hx1 he1 => ?_)
 obtain ⟨cs1, hc1, hr1⟩ := he1
 obtain ⟨v1, rfl, hs1, hb1, hb2⟩ := FactE_open hr1
 refine WL.fieldAddr _ 0 _ fl63 rfl rfl rfl <| WL.loadG1 hS (Cells.drop 0 hc1) ti61 rfl rfl rfl ?_
 have bd1 := hs1.bound
 refine WL.lenSl hs1 ul61 rfl rfl <| WL.cmp .geq rfl .i64 i (x1.v.length : Int) rfl rfl rfl <| WL.pickF rfl rfl <| WL.assign rfl <| WL.nil <| WC.ret ?_
 exact ⟨_, rfl, _, _, rfl, hS.res, (congrArg Value.bool (by unfold oob; first | (rw [decide_eq_true (by assumption : i < 0)]; rfl) | (rw [headV_of (by assumption)]; simp_all [Cmp.b] <;> omega)))⟩

theorem c_Project (G : GH) (w : World) (hG : G.In w) (l : List Fact) (ps : List Int) (vl : Value) (hvl : Sl FactE 40 G vl l) (vp : Value) (hvp : Sl Enc.int 8 G vp ps)  : Calls Tryz.prog (nat_lit 19) #[vl, vp] w fun e w' => ∃ r G', e = .returned r ∧ Res [] w G w' G' ∧ ∃ r0 r1, r = .tuple #[r0, r1] ∧ Sl FactE 40 G' r0 (prjL l ps) ∧ r1 = .int .i64 (prjE l ps) := by
 refine calls_of_WC (N := 64) Tryz.func19 rfl rfl rfl ?_
 have hS := St.start (X := []) hG
 refine WC.seq <| WC.region rfl ?_
 refine WL.boxG [vl] _ hS rfl rfl hvl.cells1 (fun p1 w1 G1 hle1 hsp1 hc1 hS1 => ?_)
 refine WL.assign rfl <| WL.assign rfl <| WL.nil <| WC.seq <| WC.block <| WC.seq <| WC.region rfl <| WL.loadG1 hS1 hc1 ti22 rfl rfl rfl ?_
 refine WL.callF [vl] #[] hb57 rfl rfl rfl ((c_valid _ _ hS1.imm l _ (hvl.mono hle1) ).mono ?_)
 rintro e w2 ⟨r1, G2, rfl, hres1, hpost1⟩
 refine ⟨_, rfl, ?_⟩
 have hS2 := hS1.call hres1
 have hle2 := hres1.le
 subst hpost1
 refine WL.split (fun (h1 : (validB l) = true) => ?_) (fun (h1 : (validB l) = false) => ?_)
 ·refine WL.not true rfl rfl <| WL.assign rfl <| WL.nil <| WC.condF rfl <| WC.seq <| WC.region rfl <| WL.move rfl ?_
  have bd1 := hvp.bound
  refine WL.lenSl (hvp.mono (hle1.trans hle2)) ul38 rfl rfl ?_
  refine WL.gtrS (ps.length : Int) 8 rfl rfl rfl (fun h2 => ?_) (fun h2 => ?_)
  ·refine WL.assign rfl <| WL.nil <| WC.condT rfl <| WC.seq <| WC.region rfl <| WL.assign rfl <| WL.assign rfl <| WL.nil <| WC.ret ?_
   exact ⟨_, rfl, _, _, rfl, hS2.res, (.slice none 0 0), (.int .i64 5), rfl, (Sl.cast (Sl.nil FactE 40 G2) (by first | exact (prj_1 (by assumption)).1.1.symm | exact (prj_5 h1 (by omega)).1.1.symm | exact (prj_2 h1 (by omega) (by unfold prjBad; rw [decide_eq_true (by omega), (by assumption : ps.any (oob (headV l).length) = true)]; rfl)).1.1.symm | (rw [prjF_all (by omega)]; exact (prj_ok hv9 (by omega) hnb).1.1.symm) | exact (prj_1 (by assumption)).1.2.symm | exact (prj_5 h1 (by omega)).1.2.symm | exact (prj_2 h1 (by omega) (by unfold prjBad; rw [decide_eq_true (by omega), (by assumption : ps.any (oob (headV l).length) = true)]; rfl)).1.2.symm | (rw [prjF_all (by omega)]; exact (prj_ok hv9 (by omega) hnb).1.2.symm))), (congrArg (Value.int .i64) (by first | exact (prj_1 (by assumption)).1.1.symm | exact (prj_5 h1 (by omega)).1.1.symm | exact (prj_2 h1 (by omega) (by unfold prjBad; rw [decide_eq_true (by omega), (by assumption : ps.any (oob (headV l).length) = true)]; rfl)).1.1.symm | (rw [prjF_all (by omega)]; exact (prj_ok hv9 (by omega) hnb).1.1.symm) | exact (prj_1 (by assumption)).1.2.symm | exact (prj_5 h1 (by omega)).1.2.symm | exact (prj_2 h1 (by omega) (by unfold prjBad; rw [decide_eq_true (by omega), (by assumption : ps.any (oob (headV l).length) = true)]; rfl)).1.2.symm | (rw [prjF_all (by omega)]; exact (prj_ok hv9 (by omega) hnb).1.2.symm)))⟩
  refine WL.assign rfl <| WL.nil <| WC.condF rfl <| WC.seq <| WC.region rfl <| WL.loadG1 hS2 (hc1.mono hle2) ti22 rfl rfl rfl ?_
  have bd2 := hvl.bound
  refine WL.lenSl (hvl.mono (hle1.trans hle2)) ul22 rfl rfl ?_
  refine WL.gtrS (l.length : Int) 0 rfl rfl rfl (fun h3 => ?_) (fun h3 => ?_)
  ·refine WL.move rfl <| WL.move rfl <| WL.makeFunc _ rfl rfl ?_
   refine WL.callF [vp, .func (.func 72) #[] #[.pointer (some p1)]] #[] hb71 rfl rfl rfl ((c_ContainsI _ _ hS2.imm ps (fun x8 => oob (headV l).length x8) _ (hvp.mono (hle1.trans hle2)) 72 #[.pointer (some p1)] ⟨hb72, fun G8 w8 v8 x8 hle8 hG8 hon8 hA8 => by obtain ⟨rfl, hi_x8⟩ := hA8; exact c_prj1 G8 w8 hG8 x8 l vl ((hvl.mono (hle1.trans hle2)).mono hle8) p1 ((hc1.mono hle2).mono hle8) (by omega)⟩ ).mono ?_)
   rintro e w3 ⟨r2, G3, rfl, hres2, hpost2⟩
   refine ⟨_, rfl, ?_⟩
   have hS3 := hS2.call hres2
   have hle3 := hres2.le
   subst hpost2
   refine WL.split (fun (h4 : (ps.any (fun x8 => oob (headV l).length x8)) = true) => ?_) (fun (h4 : (ps.any (fun x8 => oob (headV l).length x8)) = false) => ?_)
   ·refine WL.pickT rfl rfl <| WL.assign rfl <| WL.nil <| WC.condT rfl <| WC.seq <| WC.region rfl <| WL.assign rfl <| WL.assign rfl <| WL.nil <| WC.ret ?_
    exact ⟨_, rfl, _, _, rfl, hS3.res, (.slice none 0 0), (.int .i64 2), rfl, (Sl.cast (Sl.nil FactE 40 G3) (by first | exact (prj_1 (by assumption)).1.1.symm | exact (prj_5 h1 (by omega)).1.1.symm | exact (prj_2 h1 (by omega) (by unfold prjBad; rw [decide_eq_true (by omega), (by assumption : ps.any (oob (headV l).length) = true)]; rfl)).1.1.symm | (rw [prjF_all (by omega)]; exact (prj_ok hv9 (by omega) hnb).1.1.symm) | exact (prj_1 (by assumption)).1.2.symm | exact (prj_5 h1 (by omega)).1.2.symm | exact (prj_2 h1 (by omega) (by unfold prjBad; rw [decide_eq_true (by omega), (by assumption : ps.any (oob (headV l).length) = true)]; rfl)).1.2.symm | (rw [prjF_all (by omega)]; exact (prj_ok hv9 (by omega) hnb).1.2.symm))), (congrArg (Value.int .i64) (by first | exact (prj_1 (by assumption)).1.1.symm | exact (prj_5 h1 (by omega)).1.1.symm | exact (prj_2 h1 (by omega) (by unfold prjBad; rw [decide_eq_true (by omega), (by assumption : ps.any (oob (headV l).length) = true)]; rfl)).1.1.symm | (rw [prjF_all (by omega)]; exact (prj_ok hv9 (by omega) hnb).1.1.symm) | exact (prj_1 (by assumption)).1.2.symm | exact (prj_5 h1 (by omega)).1.2.symm | exact (prj_2 h1 (by omega) (by unfold prjBad; rw [decide_eq_true (by omega), (by assumption : ps.any (oob (headV l).length) = true)]; rfl)).1.2.symm | (rw [prjF_all (by omega)]; exact (prj_ok hv9 (by omega) hnb).1.2.symm)))⟩
   refine WL.pickT rfl rfl <| WL.assign rfl <| WL.nil <| WC.condF rfl <| WC.skip <| WC.seq ?_
   have hv9 : validB l = true := h1
   have hll9 := valid_le hv9
   have hnb : prjBad l ps = false := by unfold prjBad; first | (rw [decide_eq_false (by omega)]; rfl) | (rw [(by assumption : ps.any (oob (headV l).length) = false)]; simp)
   refine WC.region rfl <| WL.assign rfl <| WL.nil <| WC.seq <| WC.seq <| WC.region rfl <| WL.loadG1 hS3 (hc1.mono (hle2.trans hle3)) ti22 rfl rfl rfl ?_
   have bd3 := hvl.bound
   refine WL.lenSl (hvl.mono ((hle1.trans hle2).trans hle3)) ul22 rfl rfl <| WL.move rfl <| WL.nil <| WC.block ?_
   have hS5 := hS3.pad
   refine WC.loop (γ := Nat) (fun m ρ1 w1 => ∃ (k1 : Nat), ∃ (v1 : Value) (o1 : OB), ∃ (G4 : GH), m = l.length - k1 ∧ G3.le G4 ∧ St w [] G G4 [o1] w1 ∧ Row FactE 40 63 G4 v1 (prjF ps (l.take k1)) o1 ∧ ρ1 1 = vp ∧ ρ1 6 = v1 ∧ ρ1 29 = vl ∧ ρ1 30 = .int .i64 (l.length : Int) ∧ ρ1 31 = .int .i64 (k1 : Int) ∧ k1 ≤ l.length) (fun m => m) _ ⟨0, (.slice none 0 0), none, G3, rfl, (G3.le_refl), hS5, (Row.cast (Row.nil FactE 40 63 G3) (by simp [prjF])), rfl, rfl, rfl, rfl, rfl, (by omega)⟩ ?_
   rintro m ρ1 w4 ⟨k1, v1, o1, G4, rfl, hle4, hS4, hr1, e1, e2, e3, e4, e5, f1⟩
   refine WC.set (d := 1) e1 <| WC.set (d := 6) e2 <| WC.set (d := 29) e3 <| WC.set (d := 30) e4 <| WC.set (d := 31) e5 ?_
   have hpl9 := prjF_takeLen (ps := ps) (l := l) (k := k1)
   refine WC.seq <| WC.region rfl ?_
   refine WL.lssS (k1 : Int) (l.length : Int) rfl rfl rfl (fun h5 => ?_) (fun h5 => ?_)
   ·refine WL.nil <| WC.seq <| WC.condT rfl <| WC.skip <| WC.seq <| WC.block <| WC.seq ?_
    obtain ⟨f9, hf9⟩ : ∃ f, l[k1]? = some f := ⟨_, List.getElem?_eq_getElem (by omega)⟩
    refine WC.region rfl ?_
    refine WL.indexAddr (hvl.mono (((hle1.trans hle2).trans hle3).trans hle4)) k1 (by omega) ul22 ti63 rfl rfl rfl rfl (fun p2 x1 hx1 he1 => ?_)
    obtain rfl : f9 = x1 := Option.some.inj (hf9.symm.trans hx1)
    obtain ⟨cs1, hc2, hr2⟩ := he1
    obtain ⟨v2, rfl, hs1, hb1, hb2⟩ := FactE_open hr2
    refine WL.loadGAt hS4 hc2 [v2, .int .i64 f9.t.a, .int .i64 f9.t.b] ti63 rfl rfl rfl rfl rfl ?_
    refine WL.alloc hS4 ti63 rfl rfl (fun b1 w5 hn1 hS6 => ?_)
    refine WL.store hS6 0 _ _ _ 0 _ [v2, .int .i64 f9.t.a, .int .i64 f9.t.b] [v2, .int .i64 f9.t.a, .int .i64 f9.t.b] _ rfl rfl ti63 rfl (Nat.le_of_ble_eq_true rfl) (by simp only [List.all_cons, List.all_nil, hs1.oneC, Bool.true_and] <;> rfl) rfl rfl rfl rfl rfl (fun w6 hS7 => ?_)
    obtain ⟨G5, hle5, hc3, hS8⟩ := hS7.shutB hn1
    refine WL.nil <| WC.seq <| WC.region rfl <| WL.fieldAddr _ 1 _ fl63 rfl rfl rfl <| WL.loadGAt hS8 (Cells.drop 1 hc3) [.int .i64 f9.t.a, .int .i64 f9.t.b] ti46 rfl rfl rfl rfl rfl <| WL.build _ [(1, [.int .i64 f9.t.a, .int .i64 f9.t.b])] [.slice none 0 0, .int .i64 f9.t.a, .int .i64 f9.t.b] ti63 rfl fl63 rfl rfl rfl rfl ?_
    refine WL.alloc hS8 ti63 rfl rfl (fun b2 w7 hn2 hS9 => ?_)
    refine WL.store hS9 0 _ _ _ 0 _ [.slice none 0 0, .int .i64 f9.t.a, .int .i64 f9.t.b] [.slice none 0 0, .int .i64 f9.t.a, .int .i64 f9.t.b] _ rfl rfl ti63 rfl (Nat.le_of_ble_eq_true rfl) rfl rfl rfl rfl rfl rfl (fun w8 hS10 => ?_)
    refine WL.nil <| WC.seq <| WC.seq ?_
    have hin9 : ∀ i ∈ ps, 0 ≤ i ∧ i < (f9.v.length : Int) := fun i hi => bad_in hv9 hnb (List.mem_of_getElem? hf9) hi
    refine WC.region rfl <| WL.move rfl ?_
    have bd4 := hvp.bound
    refine WL.lenSl (hvp.mono ((((hle1.trans hle2).trans hle3).trans hle4).trans hle5)) ul38 rfl rfl <| WL.move rfl <| WL.nil <| WC.block ?_
    have hS12 := hS10.pad
    refine WC.loop (γ := Nat) (fun m ρ1 w1 => ∃ (k2 : Nat), ∃ (v3 : Value) (o2 : OB), ∃ (G6 : GH), m = ps.length - k2 ∧ G5.le G6 ∧ St w [] G G6 [o2, some (b2, 63, [v3, .int .i64 f9.t.a, .int .i64 f9.t.b]), o1] w1 ∧ Row ValE 32 34 G6 v3 (prjV f9.v (ps.take k2)) o2 ∧ ρ1 1 = vp ∧ ρ1 6 = v1 ∧ ρ1 8 = .pointer (some (⟨b1, 0, none⟩ : Addr)) ∧ ρ1 9 = .pointer (some ⟨b2, 0, none⟩) ∧ ρ1 29 = vl ∧ ρ1 30 = .int .i64 (l.length : Int) ∧ ρ1 31 = .int .i64 (k1 : Int) ∧ ρ1 38 = vp ∧ ρ1 39 = .int .i64 (ps.length : Int) ∧ ρ1 40 = .int .i64 (k2 : Int) ∧ k2 ≤ ps.length) (fun m => m) _ ⟨0, (.slice none 0 0), none, G5, rfl, (G5.le_refl), hS12, (Row.cast (Row.nil ValE 32 34 G5) (by simp [prjV])), rfl, rfl, rfl, rfl, rfl, rfl, rfl, rfl, rfl, rfl, (by omega)⟩ ?_
    rintro m ρ1 w9 ⟨k2, v3, o2, G6, rfl, hle6, hS11, hr3, e6, e7, e8, e9, e10, e11, e12, e13, e14, e15, f2⟩
    refine WC.set (d := 1) e6 <| WC.set (d := 6) e7 <| WC.set (d := 8) e8 <| WC.set (d := 9) e9 <| WC.set (d := 29) e10 <| WC.set (d := 30) e11 <| WC.set (d := 31) e12 <| WC.set (d := 38) e13 <| WC.set (d := 39) e14 <| WC.set (d := 40) e15 ?_
    have hpv9 := prjV_len (ps := ps) (j := k2) (v := f9.v)
    refine WC.seq <| WC.region rfl ?_
    refine WL.lssS (k2 : Int) (ps.length : Int) rfl rfl rfl (fun h6 => ?_) (fun h6 => ?_)
    ·refine WL.nil <| WC.seq <| WC.condT rfl <| WC.skip <| WC.seq <| WC.block <| WC.seq <| WC.region rfl ?_
     refine WL.indexAddr (hvp.mono (((((hle1.trans hle2).trans hle3).trans hle4).trans hle5).trans hle6)) k2 (by omega) ul38 ti3 rfl rfl rfl rfl (fun p3 x2 hx2 he2 => ?_)
     obtain ⟨cs2, hc4, hr4⟩ := he2
     obtain ⟨rfl, hb3⟩ := hr4
     refine WL.loadG1 hS11 hc4 ti3 rfl rfl rfl <| WL.assign rfl <| WL.nil ?_
     have hir9 := hin9 _ (List.mem_of_getElem? hx2)
     obtain ⟨p4, x3, hx3, he3, ep1⟩ := Sl.at (hs1.mono (hle5.trans hle6)) ((x2).toNat) (by omega)
     obtain ⟨cs3, hc5, hr5⟩ := he3
     obtain ⟨rfl, hb4, hb5, hb6⟩ := ValE_open hr5
     refine dr ⟨[0, 1, 0, 4, 0, 28, 60, 124, 255, 511, 1023], [0, 2, 4, 5, 9], [1, 3, 6], [], [7, 8, 10]⟩ [(44, .pointer (some ⟨b2, 0, none⟩)), (46, .pointer (some ((⟨b1, 0, none⟩ : Addr).add 0))), (48, .int .i64 x2), (49, .pointer (some p4)), (53, .pointer (some ⟨b2, 0, none⟩)), (45, v3), (47, v2), (50, .agg #[.int .i64 x3.k, .int .i64 x3.n, strV x3.s])] [o2, some (b2, 63, [v3, .int .i64 f9.t.a, .int .i64 f9.t.b]), o1] hS11 ?_ ?_ trivial (fun w8 hS13 => ?_)
     ·exact ⟨fun _ _ => WL.fieldAddr _ 0 _ fl63 rfl rfl rfl <| WL.nu rfl, fun _ _ => WL.fieldAddr _ 0 _ fl63 rfl rfl rfl <| WL.nu rfl, fun _ _ => WL.move rfl <| WL.nu rfl, fun _ _ => WL.indexAddrP ((x2).toNat) ep1 ul61 ti34 rfl rfl rfl (congrArg (Value.int .i64) (Int.toNat_of_nonneg (by omega)).symm) <| WL.nu rfl, fun _ _ => WL.fieldAddr _ 0 _ fl63 rfl rfl rfl <| WL.nu rfl, trivial⟩
     ·exact ⟨fun _ hSw => WL.loadO1 hSw 1 _ _ _ 0 _ rfl rfl ti61 rfl rfl rfl <| WL.nu rfl, fun _ hSw => WL.loadG1 hSw (Cells.drop 0 (hc3.mono hle6)) ti61 rfl rfl rfl <| WL.nu rfl, fun _ hSw => WL.loadGAt hSw hc5 [.int .i64 x3.k, .int .i64 x3.n, strV x3.s] ti34 rfl rfl rfl rfl rfl <| WL.nu rfl, trivial⟩
     refine TL.step rfl ?_
     refine WL.buildSlice _ [(0, [.int .i64 x3.k, .int .i64 x3.n, strV x3.s])] [.int .i64 x3.k, .int .i64 x3.n, strV x3.s] hS13 sl61 rfl rfl rfl rfl (fun z hz => by match z, hz with | [z0, z1, z2], _ => rfl) (fun b3 w11 hn3 hS14 => ?_)
     refine WL.nil ⟨fun _ => hS14.tail.down hS13.le (G6.le_refl), ?_⟩
     refine TL.step rfl ?_
     refine WL.push (m := ([x3] : List Val)) sl61 rfl rfl rfl hr3 hS14 1 rfl 0 _ _ _ _ _ rfl ⟨[.int .i64 x3.k, .int .i64 x3.n, strV x3.s], _, rfl, (ValE_mk x3 hb4 hb5 hb6), rfl⟩ rfl (by have hreach : reach = 140737488355328 := rfl; simp only [List.length_append, List.length_cons, List.length_nil, List.length_map]; omega) (by have hreach : reach = 140737488355328 := rfl; simp only [List.length_append, List.length_cons, List.length_nil, List.length_map]; omega) rfl rfl rfl (fun v4 o3 w12 hr6 hS15 => ?_)
     have hS16 := hS15.tail
     refine WL.nil ⟨fun h => absurd h (by decide), ?_⟩
     refine TL.step rfl ?_
     refine WL.store hS16 1 _ _ _ 0 _ [v4] [v4, .int .i64 f9.t.a, .int .i64 f9.t.b] _ rfl hr6.cells1 ti61 rfl (Nat.le_of_ble_eq_true rfl) (by simp only [List.all_cons, List.all_nil, hr6.oneC, Bool.true_and] <;> rfl) rfl rfl rfl rfl rfl (fun w13 hS17 => ?_)
     refine WL.nil ⟨fun h => absurd h (by decide), ?_⟩
     refine WC.region rfl ?_
     refine WL.incr k2 (by have hreach : reach = 140737488355328 := rfl; omega) rfl rfl rfl ?_
     refine WL.move rfl <| WL.nil ?_
     exact ⟨_, ⟨k2 + 1, v4, o3, G6, rfl, hle6, hS17, (Row.cast hr6 (by (exact (prjV_step (by assumption) (by assumption)).symm))), rfl, rfl, rfl, rfl, rfl, rfl, rfl, rfl, rfl, rfl, (by omega)⟩, (show ps.length - (k2 + 1) < ps.length - k2 by omega)⟩
    refine WL.nil <| WC.seq <| WC.condF rfl <| WC.exit ?_
    obtain ⟨G7, hle7, hs2, hS18⟩ := Row.freeze hr3 hS11 0 rfl
    refine WC.region rfl <| WL.move rfl <| WL.loadOA hS18 1 _ _ _ 0 [v3, .int .i64 f9.t.a, .int .i64 f9.t.b] rfl rfl rfl ti63 rfl rfl rfl ?_
    refine WL.buildSlice _ [(0, [v3, .int .i64 f9.t.a, .int .i64 f9.t.b])] [v3, .int .i64 f9.t.a, .int .i64 f9.t.b] hS18 sl22 rfl rfl rfl rfl (fun z hz => by match z, hz with | [z0, z1, z2], _ => rfl) (fun b4 w14 hn4 hS19 => ?_)
    refine WL.push (m := ([(Fact.mk (prjV f9.v (ps.take k2)) f9.t)] : List Fact)) sl22 rfl rfl rfl (hr1.mono ((hle5.trans hle6).trans hle7)) hS19 3 rfl 0 _ _ _ _ _ rfl ⟨[v3, .int .i64 f9.t.a, .int .i64 f9.t.b], _, rfl, (FactE_mk (Fact.mk (prjV f9.v (ps.take k2)) f9.t) hs2 (by first | assumption | (constructor <;> omega)) (by first | assumption | (constructor <;> omega))), rfl⟩ rfl (by have hreach : reach = 140737488355328 := rfl; simp only [List.length_append, List.length_cons, List.length_nil, List.length_map]; omega) (by have hreach : reach = 140737488355328 := rfl; simp only [List.length_append, List.length_cons, List.length_nil, List.length_map]; omega) rfl rfl rfl (fun v5 o4 w15 hr7 hS20 => ?_)
    have hS21 := hS20.tail
    refine WL.assign rfl <| WL.nil <| WC.region rfl ?_
    refine WL.incr k1 (by have hreach : reach = 140737488355328 := rfl; omega) rfl rfl rfl ?_
    refine WL.move rfl <| WL.nil ?_
    have hS22 := hS21.tail
    have hS23 := hS22.tail
    exact ⟨_, ⟨k1 + 1, v5, o4, G7, rfl, (hle4.trans ((hle5.trans hle6).trans hle7)), hS23, (Row.cast hr7 (by (exact (prjF_step hf9 (by omega)).symm))), rfl, rfl, rfl, rfl, rfl, (by omega)⟩, (show l.length - (k1 + 1) < l.length - k1 by omega)⟩
   refine WL.nil <| WC.seq <| WC.condF rfl <| WC.exit <| WC.seq <| WC.region rfl <| WL.move rfl ?_
   obtain ⟨G8, hle8, hs3, hS24⟩ := Row.freeze hr1 hS4 0 rfl
   refine WL.callF [v1] #[] hb61 rfl rfl rfl ((c_finished _ _ hS24.imm (prjF ps (l.take k1)) _ hs3 (by rw [prjF_all (by omega)]; exact prjF_good hv9 hnb) (by omega)).mono ?_)
   rintro e w16 ⟨r3, G9, rfl, hres3, hpost3⟩
   refine ⟨_, rfl, ?_⟩
   have hS25 := hS24.call hres3
   have hle9 := hres3.le
   obtain ⟨r4, r5, rfl, hs4, rfl⟩ := hpost3
   refine WL.extract _ _ rfl rfl rfl <| WL.extract _ _ rfl rfl rfl <| WL.assign rfl <| WL.assign rfl <| WL.nil <| WC.ret ?_
   exact ⟨_, rfl, _, _, rfl, hS25.res, r4, (.int .i64 (finE (prjF ps (l.take k1)))), rfl, (Sl.cast hs4 (by first | exact (prj_1 (by assumption)).1.1.symm | exact (prj_5 h1 (by omega)).1.1.symm | exact (prj_2 h1 (by omega) (by unfold prjBad; rw [decide_eq_true (by omega), (by assumption : ps.any (oob (headV l).length) = true)]; rfl)).1.1.symm | (rw [prjF_all (by omega)]; exact (prj_ok hv9 (by omega) hnb).1.1.symm) | exact (prj_1 (by assumption)).1.2.symm | exact (prj_5 h1 (by omega)).1.2.symm | exact (prj_2 h1 (by omega) (by unfold prjBad; rw [decide_eq_true (by omega), (by assumption : ps.any (oob (headV l).length) = true)]; rfl)).1.2.symm | (rw [prjF_all (by omega)]; exact (prj_ok hv9 (by omega) hnb).1.2.symm))), (congrArg (Value.int .i64) (by first | exact (prj_1 (by assumption)).1.1.symm | exact (prj_5 h1 (by omega)).1.1.symm | exact (prj_2 h1 (by omega) (by unfold prjBad; rw [decide_eq_true (by omega), (by assumption : ps.any (oob (headV l).length) = true)]; rfl)).1.1.symm | (rw [prjF_all (by omega)]; exact (prj_ok hv9 (by omega) hnb).1.1.symm) | exact (prj_1 (by assumption)).1.2.symm | exact (prj_5 h1 (by omega)).1.2.symm | exact (prj_2 h1 (by omega) (by unfold prjBad; rw [decide_eq_true (by omega), (by assumption : ps.any (oob (headV l).length) = true)]; rfl)).1.2.symm | (rw [prjF_all (by omega)]; exact (prj_ok hv9 (by omega) hnb).1.2.symm)))⟩
  refine WL.move rfl <| WL.no rfl rfl <| WL.no rfl rfl <| WL.no rfl rfl <| WL.pickF rfl rfl <| WL.assign rfl <| WL.nil <| WC.condF rfl <| WC.skip <| WC.seq ?_
  have hv9 : validB l = true := h1
  have hll9 := valid_le hv9
  have hnb : prjBad l ps = false := by unfold prjBad; first | (rw [decide_eq_false (by omega)]; rfl) | (rw [(by assumption : ps.any (oob (headV l).length) = false)]; simp)
  refine WC.region rfl <| WL.assign rfl <| WL.nil <| WC.seq <| WC.seq <| WC.region rfl <| WL.loadG1 hS2 (hc1.mono hle2) ti22 rfl rfl rfl ?_
  have bd5 := hvl.bound
  refine WL.lenSl (hvl.mono (hle1.trans hle2)) ul22 rfl rfl <| WL.move rfl <| WL.nil <| WC.block ?_
  have hS27 := hS2.pad
  refine WC.loop (γ := Nat) (fun m ρ1 w1 => ∃ (k1 : Nat), ∃ (v6 : Value) (o5 : OB), ∃ (G10 : GH), m = l.length - k1 ∧ G2.le G10 ∧ St w [] G G10 [o5] w1 ∧ Row FactE 40 63 G10 v6 (prjF ps (l.take k1)) o5 ∧ ρ1 1 = vp ∧ ρ1 6 = v6 ∧ ρ1 29 = vl ∧ ρ1 30 = .int .i64 (l.length : Int) ∧ ρ1 31 = .int .i64 (k1 : Int) ∧ k1 ≤ l.length) (fun m => m) _ ⟨0, (.slice none 0 0), none, G2, rfl, (G2.le_refl), hS27, (Row.cast (Row.nil FactE 40 63 G2) (by simp [prjF])), rfl, rfl, rfl, rfl, rfl, (by omega)⟩ ?_
  rintro m ρ1 w17 ⟨k1, v6, o5, G10, rfl, hle10, hS26, hr8, e16, e17, e18, e19, e20, f3⟩
  refine WC.set (d := 1) e16 <| WC.set (d := 6) e17 <| WC.set (d := 29) e18 <| WC.set (d := 30) e19 <| WC.set (d := 31) e20 ?_
  have hpl9 := prjF_takeLen (ps := ps) (l := l) (k := k1)
  refine WC.seq <| WC.region rfl ?_
  refine WL.lssS (k1 : Int) (l.length : Int) rfl rfl rfl (fun h7 => ?_) (fun h7 => ?_)
  ·refine WL.nil <| WC.seq <| WC.condT rfl <| WC.skip <| WC.seq <| WC.block <| WC.seq ?_
   obtain ⟨f9, hf9⟩ : ∃ f, l[k1]? = some f := ⟨_, List.getElem?_eq_getElem (by omega)⟩
   refine WC.region rfl ?_
   refine WL.indexAddr (hvl.mono ((hle1.trans hle2).trans hle10)) k1 (by omega) ul22 ti63 rfl rfl rfl rfl (fun p5 x4 hx4 he4 => ?_)
   obtain rfl : f9 = x4 := Option.some.inj (hf9.symm.trans hx4)
   obtain ⟨cs4, hc6, hr9⟩ := he4
   obtain ⟨v7, rfl, hs5, hb7, hb8⟩ := FactE_open hr9
   refine WL.loadGAt hS26 hc6 [v7, .int .i64 f9.t.a, .int .i64 f9.t.b] ti63 rfl rfl rfl rfl rfl ?_
   refine WL.alloc hS26 ti63 rfl rfl (fun b5 w18 hn5 hS28 => ?_)
   refine WL.store hS28 0 _ _ _ 0 _ [v7, .int .i64 f9.t.a, .int .i64 f9.t.b] [v7, .int .i64 f9.t.a, .int .i64 f9.t.b] _ rfl rfl ti63 rfl (Nat.le_of_ble_eq_true rfl) (by simp only [List.all_cons, List.all_nil, hs5.oneC, Bool.true_and] <;> rfl) rfl rfl rfl rfl rfl (fun w19 hS29 => ?_)
   obtain ⟨G11, hle11, hc7, hS30⟩ := hS29.shutB hn5
   refine WL.nil <| WC.seq <| WC.region rfl <| WL.fieldAddr _ 1 _ fl63 rfl rfl rfl <| WL.loadGAt hS30 (Cells.drop 1 hc7) [.int .i64 f9.t.a, .int .i64 f9.t.b] ti46 rfl rfl rfl rfl rfl <| WL.build _ [(1, [.int .i64 f9.t.a, .int .i64 f9.t.b])] [.slice none 0 0, .int .i64 f9.t.a, .int .i64 f9.t.b] ti63 rfl fl63 rfl rfl rfl rfl ?_
   refine WL.alloc hS30 ti63 rfl rfl (fun b6 w20 hn6 hS31 => ?_)
   refine WL.store hS31 0 _ _ _ 0 _ [.slice none 0 0, .int .i64 f9.t.a, .int .i64 f9.t.b] [.slice none 0 0, .int .i64 f9.t.a, .int .i64 f9.t.b] _ rfl rfl ti63 rfl (Nat.le_of_ble_eq_true rfl) rfl rfl rfl rfl rfl rfl (fun w21 hS32 => ?_)
   refine WL.nil <| WC.seq <| WC.seq ?_
   have hin9 : ∀ i ∈ ps, 0 ≤ i ∧ i < (f9.v.length : Int) := fun i hi => bad_in hv9 hnb (List.mem_of_getElem? hf9) hi
   refine WC.region rfl <| WL.move rfl ?_
   have bd6 := hvp.bound
   refine WL.lenSl (hvp.mono (((hle1.trans hle2).trans hle10).trans hle11)) ul38 rfl rfl <| WL.move rfl <| WL.nil <| WC.block ?_
   have hS34 := hS32.pad
   refine WC.loop (γ := Nat) (fun m ρ1 w1 => ∃ (k2 : Nat), ∃ (v8 : Value) (o6 : OB), ∃ (G12 : GH), m = ps.length - k2 ∧ G11.le G12 ∧ St w [] G G12 [o6, some (b6, 63, [v8, .int .i64 f9.t.a, .int .i64 f9.t.b]), o5] w1 ∧ Row ValE 32 34 G12 v8 (prjV f9.v (ps.take k2)) o6 ∧ ρ1 1 = vp ∧ ρ1 6 = v6 ∧ ρ1 8 = .pointer (some (⟨b5, 0, none⟩ : Addr)) ∧ ρ1 9 = .pointer (some ⟨b6, 0, none⟩) ∧ ρ1 29 = vl ∧ ρ1 30 = .int .i64 (l.length : Int) ∧ ρ1 31 = .int .i64 (k1 : Int) ∧ ρ1 38 = vp ∧ ρ1 39 = .int .i64 (ps.length : Int) ∧ ρ1 40 = .int .i64 (k2 : Int) ∧ k2 ≤ ps.length) (fun m => m) _ ⟨0, (.slice none 0 0), none, G11, rfl, (G11.le_refl), hS34, (Row.cast (Row.nil ValE 32 34 G11) (by simp [prjV])), rfl, rfl, rfl, rfl, rfl, rfl, rfl, rfl, rfl, rfl, (by omega)⟩ ?_
   rintro m ρ1 w22 ⟨k2, v8, o6, G12, rfl, hle12, hS33, hr10, e21, e22, e23, e24, e25, e26, e27, e28, e29, e30, f4⟩
   refine WC.set (d := 1) e21 <| WC.set (d := 6) e22 <| WC.set (d := 8) e23 <| WC.set (d := 9) e24 <| WC.set (d := 29) e25 <| WC.set (d := 30) e26 <| WC.set (d := 31) e27 <| WC.set (d := 38) e28 <| WC.set (d := 39) e29 <| WC.set (d := 40) e30 ?_
   have hpv9 := prjV_len (ps := ps) (j := k2) (v := f9.v)
   refine WC.seq <| WC.region rfl ?_
   refine WL.lssS (k2 : Int) (ps.length : Int) rfl rfl rfl (fun h8 => ?_) (fun h8 => ?_)
   ·refine WL.nil <| WC.seq <| WC.condT rfl <| WC.skip <| WC.seq <| WC.block <| WC.seq <| WC.region rfl ?_
    refine WL.indexAddr (hvp.mono ((((hle1.trans hle2).trans hle10).trans hle11).trans hle12)) k2 (by omega) ul38 ti3 rfl rfl rfl rfl (fun p6 x5 hx5 he5 => ?_)
    obtain ⟨cs5, hc8, hr11⟩ := he5
    obtain ⟨rfl, hb9⟩ := hr11
    refine WL.loadG1 hS33 hc8 ti3 rfl rfl rfl <| WL.assign rfl <| WL.nil ?_
    have hir9 := hin9 _ (List.mem_of_getElem? hx5)
    obtain ⟨p7, x6, hx6, he6, ep2⟩ := Sl.at (hs5.mono (hle11.trans hle12)) ((x5).toNat) (by omega)
    obtain ⟨cs6, hc9, hr12⟩ := he6
    obtain ⟨rfl, hb10, hb11, hb12⟩ := ValE_open hr12
    refine dr ⟨[0, 1, 0, 4, 0, 28, 60, 124, 255, 511, 1023], [0, 2, 4, 5, 9], [1, 3, 6], [], [7, 8, 10]⟩ [(44, .pointer (some ⟨b6, 0, none⟩)), (46, .pointer (some ((⟨b5, 0, none⟩ : Addr).add 0))), (48, .int .i64 x5), (49, .pointer (some p7)), (53, .pointer (some ⟨b6, 0, none⟩)), (45, v8), (47, v7), (50, .agg #[.int .i64 x6.k, .int .i64 x6.n, strV x6.s])] [o6, some (b6, 63, [v8, .int .i64 f9.t.a, .int .i64 f9.t.b]), o5] hS33 ?_ ?_ trivial (fun w8 hS35 => ?_)
    ·exact ⟨fun _ _ => WL.fieldAddr _ 0 _ fl63 rfl rfl rfl <| WL.nu rfl, fun _ _ => WL.fieldAddr _ 0 _ fl63 rfl rfl rfl <| WL.nu rfl, fun _ _ => WL.move rfl <| WL.nu rfl, fun _ _ => WL.indexAddrP ((x5).toNat) ep2 ul61 ti34 rfl rfl rfl (congrArg (Value.int .i64) (Int.toNat_of_nonneg (by omega)).symm) <| WL.nu rfl, fun _ _ => WL.fieldAddr _ 0 _ fl63 rfl rfl rfl <| WL.nu rfl, trivial⟩
    ·exact ⟨fun _ hSw => WL.loadO1 hSw 1 _ _ _ 0 _ rfl rfl ti61 rfl rfl rfl <| WL.nu rfl, fun _ hSw => WL.loadG1 hSw (Cells.drop 0 (hc7.mono hle12)) ti61 rfl rfl rfl <| WL.nu rfl, fun _ hSw => WL.loadGAt hSw hc9 [.int .i64 x6.k, .int .i64 x6.n, strV x6.s] ti34 rfl rfl rfl rfl rfl <| WL.nu rfl, trivial⟩
    refine TL.step rfl ?_
    refine WL.buildSlice _ [(0, [.int .i64 x6.k, .int .i64 x6.n, strV x6.s])] [.int .i64 x6.k, .int .i64 x6.n, strV x6.s] hS35 sl61 rfl rfl rfl rfl (fun z hz => by match z, hz with | [z0, z1, z2], _ => rfl) (fun b7 w24 hn7 hS36 => ?_)
    refine WL.nil ⟨fun _ => hS36.tail.down hS35.le (G12.le_refl), ?_⟩
    refine TL.step rfl ?_
    refine WL.push (m := ([x6] : List Val)) sl61 rfl rfl rfl hr10 hS36 1 rfl 0 _ _ _ _ _ rfl ⟨[.int .i64 x6.k, .int .i64 x6.n, strV x6.s], _, rfl, (ValE_mk x6 hb10 hb11 hb12), rfl⟩ rfl (by have hreach : reach = 140737488355328 := rfl; simp only [List.length_append, List.length_cons, List.length_nil, List.length_map]; omega) (by have hreach : reach = 140737488355328 := rfl; simp only [List.length_append, List.length_cons, List.length_nil, List.length_map]; omega) rfl rfl rfl (fun v9 o7 w25 hr13 hS37 => ?_)
    have hS38 := hS37.tail
    refine WL.nil ⟨fun h => absurd h (by decide), ?_⟩
    refine TL.step rfl ?_
    refine WL.store hS38 1 _ _ _ 0 _ [v9] [v9, .int .i64 f9.t.a, .int .i64 f9.t.b] _ rfl hr13.cells1 ti61 rfl (Nat.le_of_ble_eq_true rfl) (by simp only [List.all_cons, List.all_nil, hr13.oneC, Bool.true_and] <;> rfl) rfl rfl rfl rfl rfl (fun w26 hS39 => ?_)
    refine WL.nil ⟨fun h => absurd h (by decide), ?_⟩
    refine WC.region rfl ?_
    refine WL.incr k2 (by have hreach : reach = 140737488355328 := rfl; omega) rfl rfl rfl ?_
    refine WL.move rfl <| WL.nil ?_
    exact ⟨_, ⟨k2 + 1, v9, o7, G12, rfl, hle12, hS39, (Row.cast hr13 (by (exact (prjV_step (by assumption) (by assumption)).symm))), rfl, rfl, rfl, rfl, rfl, rfl, rfl, rfl, rfl, rfl, (by omega)⟩, (show ps.length - (k2 + 1) < ps.length - k2 by omega)⟩
   refine WL.nil <| WC.seq <| WC.condF rfl <| WC.exit ?_
   obtain ⟨G13, hle13, hs6, hS40⟩ := Row.freeze hr10 hS33 0 rfl
   refine WC.region rfl <| WL.move rfl <| WL.loadOA hS40 1 _ _ _ 0 [v8, .int .i64 f9.t.a, .int .i64 f9.t.b] rfl rfl rfl ti63 rfl rfl rfl ?_
   refine WL.buildSlice _ [(0, [v8, .int .i64 f9.t.a, .int .i64 f9.t.b])] [v8, .int .i64 f9.t.a, .int .i64 f9.t.b] hS40 sl22 rfl rfl rfl rfl (fun z hz => by match z, hz with | [z0, z1, z2], _ => rfl) (fun b8 w27 hn8 hS41 => ?_)
   refine WL.push (m := ([(Fact.mk (prjV f9.v (ps.take k2)) f9.t)] : List Fact)) sl22 rfl rfl rfl (hr8.mono ((hle11.trans hle12).trans hle13)) hS41 3 rfl 0 _ _ _ _ _ rfl ⟨[v8, .int .i64 f9.t.a, .int .i64 f9.t.b], _, rfl, (FactE_mk (Fact.mk (prjV f9.v (ps.take k2)) f9.t) hs6 (by first | assumption | (constructor <;> omega)) (by first | assumption | (constructor <;> omega))), rfl⟩ rfl (by have hreach : reach = 140737488355328 := rfl; simp only [List.length_append, List.length_cons, List.length_nil, List.length_map]; omega) (by have hreach : reach = 140737488355328 := rfl; simp only [List.length_append, List.length_cons, List.length_nil, List.length_map]; omega) rfl rfl rfl (fun v10 o8 w28 hr14 hS42 => ?_)
   have hS43 := hS42.tail
   refine WL.assign rfl <| WL.nil <| WC.region rfl ?_
   refine WL.incr k1 (by have hreach : reach = 140737488355328 := rfl; omega) rfl rfl rfl ?_
   refine WL.move rfl <| WL.nil ?_
   have hS44 := hS43.tail
   have hS45 := hS44.tail
   exact ⟨_, ⟨k1 + 1, v10, o8, G13, rfl, (hle10.trans ((hle11.trans hle12).trans hle13)), hS45, (Row.cast hr14 (by (exact (prjF_step hf9 (by omega)).symm))), rfl, rfl, rfl, rfl, rfl, (by omega)⟩, (show l.length - (k1 + 1) < l.length - k1 by omega)⟩
  refine WL.nil <| WC.seq <| WC.condF rfl <| WC.exit <| WC.seq <| WC.region rfl <| WL.move rfl ?_
  obtain ⟨G14, hle14, hs7, hS46⟩ := Row.freeze hr8 hS26 0 rfl
  refine WL.callF [v6] #[] hb61 rfl rfl rfl ((c_finished _ _ hS46.imm (prjF ps (l.take k1)) _ hs7 (by rw [prjF_all (by omega)]; exact prjF_good hv9 hnb) (by omega)).mono ?_)
  rintro e w29 ⟨r6, G15, rfl, hres4, hpost4⟩
  refine ⟨_, rfl, ?_⟩
  have hS47 := hS46.call hres4
  have hle15 := hres4.le
  obtain ⟨r7, r8, rfl, hs8, rfl⟩ := hpost4
  refine WL.extract _ _ rfl rfl rfl <| WL.extract _ _ rfl rfl rfl <| WL.assign rfl <| WL.assign rfl <| WL.nil <| WC.ret ?_
  exact ⟨_, rfl, _, _, rfl, hS47.res, r7, (.int .i64 (finE (prjF ps (l.take k1)))), rfl, (Sl.cast hs8 (by first | exact (prj_1 (by assumption)).1.1.symm | exact (prj_5 h1 (by omega)).1.1.symm | exact (prj_2 h1 (by omega) (by unfold prjBad; rw [decide_eq_true (by omega), (by assumption : ps.any (oob (headV l).length) = true)]; rfl)).1.1.symm | (rw [prjF_all (by omega)]; exact (prj_ok hv9 (by omega) hnb).1.1.symm) | exact (prj_1 (by assumption)).1.2.symm | exact (prj_5 h1 (by omega)).1.2.symm | exact (prj_2 h1 (by omega) (by unfold prjBad; rw [decide_eq_true (by omega), (by assumption : ps.any (oob (headV l).length) = true)]; rfl)).1.2.symm | (rw [prjF_all (by omega)]; exact (prj_ok hv9 (by omega) hnb).1.2.symm))), (congrArg (Value.int .i64) (by first | exact (prj_1 (by assumption)).1.1.symm | exact (prj_5 h1 (by omega)).1.1.symm | exact (prj_2 h1 (by omega) (by unfold prjBad; rw [decide_eq_true (by omega), (by assumption : ps.any (oob (headV l).length) = true)]; rfl)).1.1.symm | (rw [prjF_all (by omega)]; exact (prj_ok hv9 (by omega) hnb).1.1.symm) | exact (prj_1 (by assumption)).1.2.symm | exact (prj_5 h1 (by omega)).1.2.symm | exact (prj_2 h1 (by omega) (by unfold prjBad; rw [decide_eq_true (by omega), (by assumption : ps.any (oob (headV l).length) = true)]; rfl)).1.2.symm | (rw [prjF_all (by omega)]; exact (prj_ok hv9 (by omega) hnb).1.2.symm)))⟩
 refine WL.not false rfl rfl <| WL.assign rfl <| WL.nil <| WC.condT rfl <| WC.seq <| WC.region rfl <| WL.assign rfl <| WL.assign rfl <| WL.nil <| WC.ret ?_
 exact ⟨_, rfl, _, _, rfl, hS2.res, (.slice none 0 0), (.int .i64 1), rfl, (Sl.cast (Sl.nil FactE 40 G2) (by first | exact (prj_1 (by assumption)).1.1.symm | exact (prj_5 h1 (by omega)).1.1.symm | exact (prj_2 h1 (by omega) (by unfold prjBad; rw [decide_eq_true (by omega), (by assumption : ps.any (oob (headV l).length) = true)]; rfl)).1.1.symm | (rw [prjF_all (by omega)]; exact (prj_ok hv9 (by omega) hnb).1.1.symm) | exact (prj_1 (by assumption)).1.2.symm | exact (prj_5 h1 (by omega)).1.2.symm | exact (prj_2 h1 (by omega) (by unfold prjBad; rw [decide_eq_true (by omega), (by assumption : ps.any (oob (headV l).length) = true)]; rfl)).1.2.symm | (rw [prjF_all (by omega)]; exact (prj_ok hv9 (by omega) hnb).1.2.symm))), (congrArg (Value.int .i64) (by first | exact (prj_1 (by assumption)).1.1.symm | exact (prj_5 h1 (by omega)).1.1.symm | exact (prj_2 h1 (by omega) (by unfold prjBad; rw [decide_eq_true (by omega), (by assumption : ps.any (oob (headV l).length) = true)]; rfl)).1.1.symm | (rw [prjF_all (by omega)]; exact (prj_ok hv9 (by omega) hnb).1.1.symm) | exact (prj_1 (by assumption)).1.2.symm | exact (prj_5 h1 (by omega)).1.2.symm | exact (prj_2 h1 (by omega) (by unfold prjBad; rw [decide_eq_true (by omega), (by assumption : ps.any (oob (headV l).length) = true)]; rfl)).1.2.symm | (rw [prjF_all (by omega)]; exact (prj_ok hv9 (by omega) hnb).1.2.symm)))⟩
end Go.Civ
