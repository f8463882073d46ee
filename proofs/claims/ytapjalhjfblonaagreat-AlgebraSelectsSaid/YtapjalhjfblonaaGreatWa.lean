/- Walks, printed by specs38.py. -/
import Derived.Test.YtapjalhjfblonaaGreatProg
import Derived.KernelRfl
import Derived.WalkKit
import Derived.Test.YtapjalhjfblonaaGreatWt
set_option linter.unusedVariables false
set_option linter.unusedSimpArgs false
set_option maxRecDepth 100000
set_option maxHeartbeats 4000000
namespace Go.Civ
open Go.Proofs


theorem c_isNaN (G : GH) (w : World) (hG : G.In w) (a : Int)  : Calls Tryz.prog (nat_lit 153) #[.int .i64 a] w fun e w' => ∃ r G', e = .returned r ∧ Res [] w G w' G' ∧ r = .bool false := by
 refine calls_of_WC (N := 6) Tryz.func153 rfl rfl rfl ?_
 have hS := St.start (X := []) hG
 refine WC.seq <| WC.region rfl <| WL.assign rfl <| WL.nil <| WC.seq <| WC.region rfl <| WL.move rfl <| WL.move rfl <| WL.cmp .neq rfl .i64 a a rfl rfl rfl <| WL.assign rfl <| WL.nil <| WC.ret ?_
 exact ⟨_, rfl, _, _, rfl, hS.res, (congrArg Value.bool (by simp [Cmp.b]))⟩

theorem c_Compare (G : GH) (w : World) (hG : G.In w) (a b : Int)  : Calls Tryz.prog (nat_lit 148) #[.int .i64 a, .int .i64 b] w fun e w' => ∃ r G', e = .returned r ∧ Res [] w G w' G' ∧ r = .int .i64 (sgn a b) := by
 refine calls_of_WC (N := 20) Tryz.func148 rfl rfl rfl ?_
 have hS := St.start (X := []) hG
 refine WC.seq <| WC.region rfl <| WL.assign rfl <| WL.nil <| WC.seq <| WC.region rfl <| WL.move rfl ?_
 refine WL.callF [.int .i64 a] #[] hb153 rfl rfl rfl ((c_isNaN _ _ hS.imm a  ).mono ?_)
 rintro e w1 ⟨r1, G1, rfl, hres1, hpost1⟩
 refine ⟨_, rfl, ?_⟩
 have hS1 := hS.call hres1
 have hle1 := hres1.le
 subst hpost1
 refine WL.assign rfl <| WL.nil <| WC.seq <| WC.region rfl <| WL.move rfl ?_
 refine WL.callF [.int .i64 b] #[] hb153 rfl rfl rfl ((c_isNaN _ _ hS1.imm b  ).mono ?_)
 rintro e w2 ⟨r2, G2, rfl, hres2, hpost2⟩
 refine ⟨_, rfl, ?_⟩
 have hS2 := hS1.call hres2
 have hle2 := hres2.le
 subst hpost2
 refine WL.assign rfl <| WL.nil <| WC.seq <| WC.seq <| WC.region rfl <| WL.move rfl <| WL.nil <| WC.condF rfl <| WC.skip <| WC.seq <| WC.seq <| WC.region rfl <| WL.move rfl <| WL.nil <| WC.condF rfl <| WC.skip <| WC.seq <| WC.seq <| WC.region rfl <| WL.move rfl <| WL.move rfl ?_
 refine WL.lssS a b rfl rfl rfl (fun h1 => ?_) (fun h1 => ?_)
 ·refine WL.nil <| WC.condT rfl <| WC.seq <| WC.region rfl <| WL.assign rfl <| WL.nil <| WC.ret ?_
  exact ⟨_, rfl, _, _, rfl, hS2.res, (congrArg (Value.int .i64) (by unfold sgn; split <;> (try split) <;> rfl))⟩
 refine WL.nil <| WC.condF rfl <| WC.skip <| WC.seq <| WC.seq <| WC.region rfl <| WL.move rfl <| WL.move rfl ?_
 refine WL.gtrS a b rfl rfl rfl (fun h2 => ?_) (fun h2 => ?_)
 ·refine WL.nil <| WC.condT rfl <| WC.seq <| WC.region rfl <| WL.assign rfl <| WL.nil <| WC.ret ?_
  exact ⟨_, rfl, _, _, rfl, hS2.res, (congrArg (Value.int .i64) (by unfold sgn; split <;> (try split) <;> omega))⟩
 refine WL.nil <| WC.condF rfl <| WC.skip <| WC.seq <| WC.region rfl <| WL.assign rfl <| WL.nil <| WC.ret ?_
 exact ⟨_, rfl, _, _, rfl, hS2.res, (congrArg (Value.int .i64) (by unfold sgn; split <;> (try split) <;> omega))⟩

theorem c_isNaNs (G : GH) (w : World) (hG : G.In w) (a : List UInt8)  : Calls Tryz.prog (nat_lit 175) #[strV a] w fun e w' => ∃ r G', e = .returned r ∧ Res [] w G w' G' ∧ r = .bool false := by
 refine calls_of_WC (N := 6) Tryz.func175 rfl rfl rfl ?_
 have hS := St.start (X := []) hG
 refine WC.seq <| WC.region rfl <| WL.assign rfl <| WL.nil <| WC.seq <| WC.region rfl <| WL.move rfl <| WL.move rfl <| WL.strCmp .neq rfl a a rfl rfl rfl <| WL.assign rfl <| WL.nil <| WC.ret ?_
 exact ⟨_, rfl, _, _, rfl, hS.res, (congrArg Value.bool (by simp [SCmp.b]))⟩

theorem c_CompareS (G : GH) (w : World) (hG : G.In w) (a b : List UInt8)  : Calls Tryz.prog (nat_lit 149) #[strV a, strV b] w fun e w' => ∃ r G', e = .returned r ∧ Res [] w G w' G' ∧ r = .int .i64 (cmpS a b) := by
 refine calls_of_WC (N := 20) Tryz.func149 rfl rfl rfl ?_
 have hS := St.start (X := []) hG
 refine WC.seq <| WC.region rfl <| WL.assign rfl <| WL.nil <| WC.seq <| WC.region rfl <| WL.move rfl ?_
 refine WL.callF [strV a] #[] hb175 rfl rfl rfl ((c_isNaNs _ _ hS.imm a  ).mono ?_)
 rintro e w1 ⟨r1, G1, rfl, hres1, hpost1⟩
 refine ⟨_, rfl, ?_⟩
 have hS1 := hS.call hres1
 have hle1 := hres1.le
 subst hpost1
 refine WL.assign rfl <| WL.nil <| WC.seq <| WC.region rfl <| WL.move rfl ?_
 refine WL.callF [strV b] #[] hb175 rfl rfl rfl ((c_isNaNs _ _ hS1.imm b  ).mono ?_)
 rintro e w2 ⟨r2, G2, rfl, hres2, hpost2⟩
 refine ⟨_, rfl, ?_⟩
 have hS2 := hS1.call hres2
 have hle2 := hres2.le
 subst hpost2
 refine WL.assign rfl <| WL.nil <| WC.seq <| WC.seq <| WC.region rfl <| WL.move rfl <| WL.nil <| WC.condF rfl <| WC.skip <| WC.seq <| WC.seq <| WC.region rfl <| WL.move rfl <| WL.nil <| WC.condF rfl <| WC.skip <| WC.seq <| WC.seq <| WC.region rfl <| WL.move rfl <| WL.move rfl <| WL.strCmp .lss rfl a b rfl rfl rfl ?_
 refine WL.split (fun (h1 : (SCmp.b .lss a b) = true) => ?_) (fun (h1 : (SCmp.b .lss a b) = false) => ?_)
 ·refine WL.nil <| WC.condT rfl <| WC.seq <| WC.region rfl <| WL.assign rfl <| WL.nil <| WC.ret ?_
  exact ⟨_, rfl, _, _, rfl, hS2.res, (congrArg (Value.int .i64) (by unfold cmpS; simp_all [SCmp.b]))⟩
 refine WL.nil <| WC.condF rfl <| WC.skip <| WC.seq <| WC.seq <| WC.region rfl <| WL.move rfl <| WL.move rfl <| WL.strCmp .gtr rfl a b rfl rfl rfl ?_
 refine WL.split (fun (h2 : (SCmp.b .gtr a b) = true) => ?_) (fun (h2 : (SCmp.b .gtr a b) = false) => ?_)
 ·refine WL.nil <| WC.condT rfl <| WC.seq <| WC.region rfl <| WL.assign rfl <| WL.nil <| WC.ret ?_
  exact ⟨_, rfl, _, _, rfl, hS2.res, (congrArg (Value.int .i64) (by unfold cmpS; simp_all [SCmp.b]))⟩
 refine WL.nil <| WC.condF rfl <| WC.skip <| WC.seq <| WC.region rfl <| WL.assign rfl <| WL.nil <| WC.ret ?_
 exact ⟨_, rfl, _, _, rfl, hS2.res, (congrArg (Value.int .i64) (by unfold cmpS; simp_all [SCmp.b]))⟩

theorem c_Or (G : GH) (w : World) (hG : G.In w) (l : List Int) (vl : Value) (hvl : Sl Enc.int 8 G vl l)  : Calls Tryz.prog (nat_lit 147) #[vl] w fun e w' => ∃ r G', e = .returned r ∧ Res [] w G w' G' ∧ r = .int .i64 (cmpOr l) := by
 refine calls_of_WC (N := 18) Tryz.func147 rfl rfl rfl ?_
 have hS := St.start (X := []) hG
 refine WC.seq <| WC.region rfl <| WL.assign rfl <| WL.nil <| WC.seq <| WC.region rfl <| WL.assign rfl <| WL.nil <| WC.seq <| WC.seq <| WC.region rfl <| WL.move rfl ?_
 have bd1 := hvl.bound
 refine WL.lenSl hvl ul38 rfl rfl <| WL.move rfl <| WL.nil <| WC.block ?_
 refine WC.loop (γ := Nat) (fun m ρ1 w1 => ∃ (k1 : Nat), ∃ (G1 : GH), m = l.length - k1 ∧ G.le G1 ∧ St w [] G G1 [] w1 ∧ ρ1 3 = .int .i64 0 ∧ ρ1 6 = vl ∧ ρ1 7 = .int .i64 (l.length : Int) ∧ ρ1 8 = .int .i64 (k1 : Int) ∧ k1 ≤ l.length ∧ ∀ j, j < k1 → ∀ x, l[j]? = some x → x = 0) (fun m => m) _ ⟨0, G, rfl, (G.le_refl), hS, rfl, rfl, rfl, rfl, (by omega), (by intro j hj; omega)⟩ ?_
 rintro m ρ1 w1 ⟨k1, G1, rfl, hle1, hS1, e1, e2, e3, e4, f1, f2⟩
 refine WC.set (d := 3) e1 <| WC.set (d := 6) e2 <| WC.set (d := 7) e3 <| WC.set (d := 8) e4 <| WC.seq <| WC.region rfl ?_
 refine WL.lssS (k1 : Int) (l.length : Int) rfl rfl rfl (fun h1 => ?_) (fun h1 => ?_)
 ·refine WL.nil <| WC.seq <| WC.condT rfl <| WC.skip <| WC.seq <| WC.block <| WC.seq <| WC.region rfl ?_
  refine WL.indexAddr (hvl.mono hle1) k1 (by omega) ul38 ti3 rfl rfl rfl rfl (fun p1 x1 hx1 he1 => ?_)
  obtain ⟨cs1, hc1, hr1⟩ := he1
  obtain ⟨rfl, hb1⟩ := hr1
  refine WL.loadG1 hS1 hc1 ti3 rfl rfl rfl <| WL.assign rfl <| WL.nil <| WC.seq <| WC.region rfl <| WL.move rfl <| WL.move rfl ?_
  refine WL.neqS x1 0 rfl rfl rfl (fun h2 => ?_) (fun h2 => ?_)
  ·refine WL.nil <| WC.condT rfl <| WC.seq <| WC.region rfl <| WL.move rfl <| WL.assign rfl <| WL.nil <| WC.ret ?_
   exact ⟨_, rfl, _, _, rfl, hS1.res, (congrArg (Value.int .i64) (by exact (cmpOr_at (by assumption) (by assumption) (by assumption)).symm))⟩
  refine WL.nil <| WC.condF rfl <| WC.skip <| WC.region rfl ?_
  refine WL.incr k1 (by have hreach : reach = 140737488355328 := rfl; omega) rfl rfl rfl ?_
  refine WL.move rfl <| WL.nil ?_
  exact ⟨_, ⟨k1 + 1, G1, rfl, hle1, hS1, rfl, rfl, rfl, rfl, (by omega), (by exact lt_step (by assumption) (by assumption) (by assumption))⟩, (show l.length - (k1 + 1) < l.length - k1 by omega)⟩
 refine WL.nil <| WC.seq <| WC.condF rfl <| WC.exit <| WC.seq <| WC.region rfl <| WL.move rfl <| WL.assign rfl <| WL.nil <| WC.ret ?_
 exact ⟨_, rfl, _, _, rfl, hS1.res, (congrArg (Value.int .i64) (by exact (cmpOr_none (by assumption) (by omega)).symm))⟩

theorem c_order (G : GH) (w : World) (hG : G.In w) (x y : Val) (cx : List Value) (hcx : ValE.rep G x cx) (cy : List Value) (hcy : ValE.rep G y cy)  : Calls Tryz.prog (nat_lit 95) #[.agg cx.toArray, .agg cy.toArray] w fun e w' => ∃ r G', e = .returned r ∧ Res [] w G w' G' ∧ r = .int .i64 (cmpV x y) := by
 refine calls_of_WC (N := 22) Tryz.func95 rfl rfl rfl ?_
 have hS := St.start (X := []) hG
 obtain ⟨rfl, hb1, hb2, hb3⟩ := ValE_open hcx
 obtain ⟨rfl, hb4, hb5, hb6⟩ := ValE_open hcy
 refine WC.seq <| WC.region rfl ?_
 refine WL.boxG [.int .i64 x.k, .int .i64 x.n, strV x.s] _ hS rfl rfl rfl (fun p1 w1 G1 hle1 hsp1 hc1 hS1 => ?_)
 refine WL.boxG [.int .i64 y.k, .int .i64 y.n, strV y.s] _ hS1 rfl rfl rfl (fun p2 w2 G2 hle2 hsp2 hc2 hS2 => ?_)
 refine WL.assign rfl <| WL.nil <| WC.seq ?_
 refine dr ⟨[0, 1, 0, 4, 15, 0, 32, 0, 128, 511, 0, 1024, 0, 4096, 16383, 32767, 65535, 131071], [0, 2, 5, 7, 10, 12], [1, 3, 6, 8, 11, 13], [4, 9, 14], [15, 16, 17]⟩ [(5, .pointer (some (p1.add 0))), (7, .pointer (some (p2.add 0))), (10, .pointer (some (p1.add 1))), (12, .pointer (some (p2.add 1))), (15, .pointer (some (p1.add 2))), (17, .pointer (some (p2.add 2))), (6, .int .i64 x.k), (8, .int .i64 y.k), (11, .int .i64 x.n), (13, .int .i64 y.n), (16, strV x.s), (18, strV y.s), (9, .int .i64 (sgn x.k y.k)), (14, .int .i64 (sgn x.n y.n)), (19, .int .i64 (cmpS x.s y.s))] [] hS2 ?_ ?_ ?_ (fun w8 hS3 => ?_)
 ·exact ⟨fun _ _ => WL.fieldAddr _ 0 _ fl34 rfl rfl rfl <| WL.nu rfl, fun _ _ => WL.fieldAddr _ 0 _ fl34 rfl rfl rfl <| WL.nu rfl, fun _ _ => WL.fieldAddr _ 1 _ fl34 rfl rfl rfl <| WL.nu rfl, fun _ _ => WL.fieldAddr _ 1 _ fl34 rfl rfl rfl <| WL.nu rfl, fun _ _ => WL.fieldAddr _ 2 _ fl34 rfl rfl rfl <| WL.nu rfl, fun _ _ => WL.fieldAddr _ 2 _ fl34 rfl rfl rfl <| WL.nu rfl, trivial⟩
 ·exact ⟨fun _ hSw => WL.loadG1 hSw (Cells.drop 0 (hc1.mono hle2)) ti3 rfl rfl rfl <| WL.nu rfl, fun _ hSw => WL.loadG1 hSw (Cells.drop 0 hc2) ti3 rfl rfl rfl <| WL.nu rfl, fun _ hSw => WL.loadG1 hSw (Cells.drop 1 (hc1.mono hle2)) ti3 rfl rfl rfl <| WL.nu rfl, fun _ hSw => WL.loadG1 hSw (Cells.drop 1 hc2) ti3 rfl rfl rfl <| WL.nu rfl, fun _ hSw => WL.loadG1 hSw (Cells.drop 2 (hc1.mono hle2)) ti9 rfl rfl rfl <| WL.nu rfl, fun _ hSw => WL.loadG1 hSw (Cells.drop 2 hc2) ti9 rfl rfl rfl <| WL.nu rfl, trivial⟩
 ·exact ⟨fun _ hSw => WL.callD [.int .i64 x.k, .int .i64 y.k] #[] hb148 rfl rfl rfl hSw (c_Compare _ _ hSw.imm x.k y.k  ) rfl, fun _ hSw => WL.callD [.int .i64 x.n, .int .i64 y.n] #[] hb148 rfl rfl rfl hSw (c_Compare _ _ hSw.imm x.n y.n  ) rfl, fun _ hSw => WL.callD [strV x.s, strV y.s] #[] hb149 rfl rfl rfl hSw (c_CompareS _ _ hSw.imm x.s y.s  ) rfl, trivial⟩
 refine TL.step rfl ?_
 refine WL.buildSlice _ [(0, [.int .i64 (sgn x.k y.k)]), (1, [.int .i64 (sgn x.n y.n)]), (2, [.int .i64 (cmpS x.s y.s)])] [.int .i64 (sgn x.k y.k), .int .i64 (sgn x.n y.n), .int .i64 (cmpS x.s y.s)] hS3 sl38 rfl rfl rfl rfl (fun z hz => by match z, hz with | [z0, z1, z2], _ => rfl) (fun b1 w4 hn1 hS4 => ?_)
 refine WL.nil ⟨fun h => absurd h (by decide), ?_⟩
 refine TL.step rfl ?_
 obtain ⟨G3, hle3, hs1, hS5⟩ := St.sealSl (E := Enc.int) (by_ := 8) (l := ([(sgn x.k y.k), (sgn x.n y.n), (cmpS x.s y.s)] : List Int)) hS4 hn1 ⟨[.int .i64 (sgn x.k y.k)], _, rfl, ⟨rfl, I64_sgn x.k y.k⟩, ⟨[.int .i64 (sgn x.n y.n)], _, rfl, ⟨rfl, I64_sgn x.n y.n⟩, ⟨[.int .i64 (cmpS x.s y.s)], _, rfl, ⟨rfl, I64_cmpS x.s y.s⟩, rfl⟩⟩⟩ rfl (by simp [reach]) (by simp [reach])
 refine WL.callF [.slice (some ⟨b1, 0, none⟩) 3 3] #[] hb147 rfl rfl rfl ((c_Or _ _ hS5.imm [(sgn x.k y.k), (sgn x.n y.n), (cmpS x.s y.s)] _ hs1 ).mono ?_)
 rintro e w5 ⟨r1, G4, rfl, hres1, hpost1⟩
 refine ⟨_, rfl, ?_⟩
 have hS6 := hS5.call hres1
 have hle4 := hres1.le
 subst hpost1
 refine WL.nil ⟨fun h => absurd h (by decide), ?_⟩
 refine TL.step rfl ?_
 refine WL.assign rfl ?_
 refine WL.nil ⟨fun h => absurd h (by decide), ?_⟩
 refine WC.ret ?_
 exact ⟨_, rfl, _, _, rfl, hS6.res, (congrArg (Value.int .i64) (by exact cmpOr3 _ _ _))⟩

theorem c_IndexV (G : GH) (w : World) (hG : G.In w) (l : List Val) (pf : Val → Bool) (vl : Value) (hvl : Sl ValE 32 G vl l) (fid : Nat) (fcap : Array Value) (hf : FnB Tryz.prog (Is ValE) fid fcap G (fun x => x ∈ l) pf)  : Calls Tryz.prog (nat_lit 158) #[vl, .func (.func fid) #[] fcap] w fun e w' => ∃ r G', e = .returned r ∧ Res [] w G w' G' ∧ r = .int .i64 (idxF pf l) := by
 refine calls_of_WC (N := 19) Tryz.func158 rfl rfl rfl ?_
 have hS := St.start (X := []) hG
 refine WC.seq <| WC.region rfl <| WL.assign rfl <| WL.nil <| WC.seq <| WC.seq <| WC.region rfl <| WL.move rfl ?_
 have bd1 := hvl.bound
 refine WL.lenSl hvl ul61 rfl rfl <| WL.move rfl <| WL.nil <| WC.block ?_
 refine WC.loop (γ := Nat) (fun m ρ1 w1 => ∃ (k1 : Nat), ∃ (G1 : GH), m = l.length - k1 ∧ G.le G1 ∧ St w [] G G1 [] w1 ∧ ρ1 0 = vl ∧ ρ1 1 = .func (.func fid) #[] fcap ∧ ρ1 7 = .int .i64 (l.length : Int) ∧ ρ1 8 = .int .i64 (k1 : Int) ∧ k1 ≤ l.length ∧ ∀ j, j < k1 → ∀ x, l[j]? = some x → pf x = false) (fun m => m) _ ⟨0, G, rfl, (G.le_refl), hS, rfl, rfl, rfl, rfl, (by omega), (by intro j hj; omega)⟩ ?_
 rintro m ρ1 w1 ⟨k1, G1, rfl, hle1, hS1, e1, e2, e3, e4, f1, f2⟩
 refine WC.set (d := 0) e1 <| WC.set (d := 1) e2 <| WC.set (d := 7) e3 <| WC.set (d := 8) e4 <| WC.seq <| WC.region rfl ?_
 refine WL.lssS (k1 : Int) (l.length : Int) rfl rfl rfl (fun h1 => ?_) (fun h1 => ?_)
 ·refine WL.nil <| WC.seq <| WC.condT rfl <| WC.skip <| WC.seq <| WC.block <| WC.seq <| WC.region rfl <| WL.move rfl <| WL.assign rfl <| WL.nil <| WC.seq <| WC.region rfl <| WL.move rfl <| WL.move rfl <| WL.move rfl ?_
  refine WL.indexAddr (hvl.mono hle1) k1 (by omega) ul61 ti34 rfl rfl rfl rfl (fun p1 x1 hx1 he1 => ?_)
  obtain ⟨cs1, hc1, hr1⟩ := he1
  obtain ⟨rfl, hb1, hb2, hb3⟩ := ValE_open hr1
  refine WL.loadGAt hS1 hc1 [.int .i64 x1.k, .int .i64 x1.n, strV x1.s] ti34 rfl rfl rfl rfl rfl ?_
  have hcc1 := hf.call _ _ (.agg #[.int .i64 x1.k, .int .i64 x1.n, strV x1.s]) x1 hle1 hS1.imm (List.mem_of_getElem? hx1) ⟨_, rfl, (ValE_mk x1 hb1 hb2 hb3)⟩
  refine WL.callF _ fcap hf.body rfl rfl rfl (hcc1.mono ?_)
  rintro e w2 ⟨r1, G2, rfl, hres1, hpost1⟩
  refine ⟨_, rfl, ?_⟩
  have hS2 := hS1.call hres1
  have hle2 := hres1.le
  subst hpost1
  refine WL.split (fun (h2 : (pf x1) = true) => ?_) (fun (h2 : (pf x1) = false) => ?_)
  ·refine WL.nil <| WC.condT rfl <| WC.seq <| WC.region rfl <| WL.move rfl <| WL.assign rfl <| WL.nil <| WC.ret ?_
   exact ⟨_, rfl, _, _, rfl, hS2.res, (congrArg (Value.int .i64) (by exact (idxF_some _ (by assumption) (by assumption) (by assumption)).symm))⟩
  refine WL.nil <| WC.condF rfl <| WC.skip <| WC.region rfl ?_
  refine WL.incr k1 (by have hreach : reach = 140737488355328 := rfl; omega) rfl rfl rfl ?_
  refine WL.move rfl <| WL.nil ?_
  exact ⟨_, ⟨k1 + 1, G2, rfl, (hle1.trans hle2), hS2, rfl, rfl, rfl, rfl, (by omega), (by exact lt_step (by assumption) (by assumption) (by assumption))⟩, (show l.length - (k1 + 1) < l.length - k1 by omega)⟩
 refine WL.nil <| WC.seq <| WC.condF rfl <| WC.exit <| WC.seq <| WC.region rfl <| WL.assign rfl <| WL.nil <| WC.ret ?_
 exact ⟨_, rfl, _, _, rfl, hS1.res, (congrArg (Value.int .i64) (by exact (idxF_none' (by assumption) (by omega)).symm))⟩

theorem c_ContainsV (G : GH) (w : World) (hG : G.In w) (l : List Val) (pf : Val → Bool) (vl : Value) (hvl : Sl ValE 32 G vl l) (fid : Nat) (fcap : Array Value) (hf : FnB Tryz.prog (Is ValE) fid fcap G (fun x => x ∈ l) pf)  : Calls Tryz.prog (nat_lit 117) #[vl, .func (.func fid) #[] fcap] w fun e w' => ∃ r G', e = .returned r ∧ Res [] w G w' G' ∧ r = .bool (l.any pf) := by
 refine calls_of_WC (N := 9) Tryz.func117 rfl rfl rfl ?_
 have hS := St.start (X := []) hG
 refine WC.seq <| WC.region rfl <| WL.assign rfl <| WL.nil <| WC.seq <| WC.region rfl <| WL.move rfl <| WL.move rfl ?_
 refine WL.callF [vl, .func (.func fid) #[] fcap] #[] hb158 rfl rfl rfl ((c_IndexV _ _ hS.imm l pf _ hvl fid fcap (hf.up (G.le_refl)) ).mono ?_)
 rintro e w1 ⟨r1, G1, rfl, hres1, hpost1⟩
 refine ⟨_, rfl, ?_⟩
 have hS1 := hS.call hres1
 have hle1 := hres1.le
 subst hpost1
 refine WL.cmp .geq rfl .i64 (idxF pf l) 0 rfl rfl rfl <| WL.assign rfl <| WL.nil <| WC.ret ?_
 exact ⟨_, rfl, _, _, rfl, hS1.res, (congrArg Value.bool (by exact idxF_any _ _))⟩

theorem c_IndexF (G : GH) (w : World) (hG : G.In w) (l : List Fact) (pf : Fact → Bool) (vl : Value) (hvl : Sl FactE 40 G vl l) (fid : Nat) (fcap : Array Value) (hf : FnB Tryz.prog (Is FactE) fid fcap G (fun x => x ∈ l) pf)  : Calls Tryz.prog (nat_lit 114) #[vl, .func (.func fid) #[] fcap] w fun e w' => ∃ r G', e = .returned r ∧ Res [] w G w' G' ∧ r = .int .i64 (idxF pf l) := by
 refine calls_of_WC (N := 19) Tryz.func114 rfl rfl rfl ?_
 have hS := St.start (X := []) hG
 refine WC.seq <| WC.region rfl <| WL.assign rfl <| WL.nil <| WC.seq <| WC.seq <| WC.region rfl <| WL.move rfl ?_
 have bd1 := hvl.bound
 refine WL.lenSl hvl ul22 rfl rfl <| WL.move rfl <| WL.nil <| WC.block ?_
 refine WC.loop (γ := Nat) (fun m ρ1 w1 => ∃ (k1 : Nat), ∃ (G1 : GH), m = l.length - k1 ∧ G.le G1 ∧ St w [] G G1 [] w1 ∧ ρ1 0 = vl ∧ ρ1 1 = .func (.func fid) #[] fcap ∧ ρ1 7 = .int .i64 (l.length : Int) ∧ ρ1 8 = .int .i64 (k1 : Int) ∧ k1 ≤ l.length ∧ ∀ j, j < k1 → ∀ x, l[j]? = some x → pf x = false) (fun m => m) _ ⟨0, G, rfl, (G.le_refl), hS, rfl, rfl, rfl, rfl, (by omega), (by intro j hj; omega)⟩ ?_
 rintro m ρ1 w1 ⟨k1, G1, rfl, hle1, hS1, e1, e2, e3, e4, f1, f2⟩
 refine WC.set (d := 0) e1 <| WC.set (d := 1) e2 <| WC.set (d := 7) e3 <| WC.set (d := 8) e4 <| WC.seq <| WC.region rfl ?_
 refine WL.lssS (k1 : Int) (l.length : Int) rfl rfl rfl (fun h1 => ?_) (fun h1 => ?_)
 ·refine WL.nil <| WC.seq <| WC.condT rfl <| WC.skip <| WC.seq <| WC.block <| WC.seq <| WC.region rfl <| WL.move rfl <| WL.assign rfl <| WL.nil <| WC.seq <| WC.region rfl <| WL.move rfl <| WL.move rfl <| WL.move rfl ?_
  refine WL.indexAddr (hvl.mono hle1) k1 (by omega) ul22 ti63 rfl rfl rfl rfl (fun p1 x1 hx1 he1 => ?_)
  obtain ⟨cs1, hc1, hr1⟩ := he1
  obtain ⟨v1, rfl, hs1, hb1, hb2⟩ := FactE_open hr1
  refine WL.loadGAt hS1 hc1 [v1, .int .i64 x1.t.a, .int .i64 x1.t.b] ti63 rfl rfl rfl rfl rfl ?_
  have hcc1 := hf.call _ _ (.agg #[v1, .int .i64 x1.t.a, .int .i64 x1.t.b]) x1 hle1 hS1.imm (List.mem_of_getElem? hx1) ⟨_, rfl, (FactE_mk x1 hs1 hb1 hb2)⟩
  refine WL.callF _ fcap hf.body rfl rfl rfl (hcc1.mono ?_)
  rintro e w2 ⟨r1, G2, rfl, hres1, hpost1⟩
  refine ⟨_, rfl, ?_⟩
  have hS2 := hS1.call hres1
  have hle2 := hres1.le
  subst hpost1
  refine WL.split (fun (h2 : (pf x1) = true) => ?_) (fun (h2 : (pf x1) = false) => ?_)
  ·refine WL.nil <| WC.condT rfl <| WC.seq <| WC.region rfl <| WL.move rfl <| WL.assign rfl <| WL.nil <| WC.ret ?_
   exact ⟨_, rfl, _, _, rfl, hS2.res, (congrArg (Value.int .i64) (by exact (idxF_some _ (by assumption) (by assumption) (by assumption)).symm))⟩
  refine WL.nil <| WC.condF rfl <| WC.skip <| WC.region rfl ?_
  refine WL.incr k1 (by have hreach : reach = 140737488355328 := rfl; omega) rfl rfl rfl ?_
  refine WL.move rfl <| WL.nil ?_
  exact ⟨_, ⟨k1 + 1, G2, rfl, (hle1.trans hle2), hS2, rfl, rfl, rfl, rfl, (by omega), (by exact lt_step (by assumption) (by assumption) (by assumption))⟩, (show l.length - (k1 + 1) < l.length - k1 by omega)⟩
 refine WL.nil <| WC.seq <| WC.condF rfl <| WC.exit <| WC.seq <| WC.region rfl <| WL.assign rfl <| WL.nil <| WC.ret ?_
 exact ⟨_, rfl, _, _, rfl, hS1.res, (congrArg (Value.int .i64) (by exact (idxF_none' (by assumption) (by omega)).symm))⟩

theorem c_ContainsF (G : GH) (w : World) (hG : G.In w) (l : List Fact) (pf : Fact → Bool) (vl : Value) (hvl : Sl FactE 40 G vl l) (fid : Nat) (fcap : Array Value) (hf : FnB Tryz.prog (Is FactE) fid fcap G (fun x => x ∈ l) pf)  : Calls Tryz.prog (nat_lit 55) #[vl, .func (.func fid) #[] fcap] w fun e w' => ∃ r G', e = .returned r ∧ Res [] w G w' G' ∧ r = .bool (l.any pf) := by
 refine calls_of_WC (N := 9) Tryz.func55 rfl rfl rfl ?_
 have hS := St.start (X := []) hG
 refine WC.seq <| WC.region rfl <| WL.assign rfl <| WL.nil <| WC.seq <| WC.region rfl <| WL.move rfl <| WL.move rfl ?_
 refine WL.callF [vl, .func (.func fid) #[] fcap] #[] hb114 rfl rfl rfl ((c_IndexF _ _ hS.imm l pf _ hvl fid fcap (hf.up (G.le_refl)) ).mono ?_)
 rintro e w1 ⟨r1, G1, rfl, hres1, hpost1⟩
 refine ⟨_, rfl, ?_⟩
 have hS1 := hS.call hres1
 have hle1 := hres1.le
 subst hpost1
 refine WL.cmp .geq rfl .i64 (idxF pf l) 0 rfl rfl rfl <| WL.assign rfl <| WL.nil <| WC.ret ?_
 exact ⟨_, rfl, _, _, rfl, hS1.res, (congrArg Value.bool (by exact idxF_any _ _))⟩

theorem c_IndexFF (G : GH) (w : World) (hG : G.In w) (l : List (List Fact)) (pf : (List Fact) → Bool) (vl : Value) (hvl : Sl (FactE.slice 40) 24 G vl l) (fid : Nat) (fcap : Array Value) (hf : FnB Tryz.prog (Sl FactE 40) fid fcap G (fun x => x ∈ l) pf)  : Calls Tryz.prog (nat_lit 113) #[vl, .func (.func fid) #[] fcap] w fun e w' => ∃ r G', e = .returned r ∧ Res [] w G w' G' ∧ r = .int .i64 (idxF pf l) := by
 refine calls_of_WC (N := 19) Tryz.func113 rfl rfl rfl ?_
 have hS := St.start (X := []) hG
 refine WC.seq <| WC.region rfl <| WL.assign rfl <| WL.nil <| WC.seq <| WC.seq <| WC.region rfl <| WL.move rfl ?_
 have bd1 := hvl.bound
 refine WL.lenSl hvl ul89 rfl rfl <| WL.move rfl <| WL.nil <| WC.block ?_
 refine WC.loop (γ := Nat) (fun m ρ1 w1 => ∃ (k1 : Nat), ∃ (G1 : GH), m = l.length - k1 ∧ G.le G1 ∧ St w [] G G1 [] w1 ∧ ρ1 0 = vl ∧ ρ1 1 = .func (.func fid) #[] fcap ∧ ρ1 7 = .int .i64 (l.length : Int) ∧ ρ1 8 = .int .i64 (k1 : Int) ∧ k1 ≤ l.length ∧ ∀ j, j < k1 → ∀ x, l[j]? = some x → pf x = false) (fun m => m) _ ⟨0, G, rfl, (G.le_refl), hS, rfl, rfl, rfl, rfl, (by omega), (by intro j hj; omega)⟩ ?_
 rintro m ρ1 w1 ⟨k1, G1, rfl, hle1, hS1, e1, e2, e3, e4, f1, f2⟩
 refine WC.set (d := 0) e1 <| WC.set (d := 1) e2 <| WC.set (d := 7) e3 <| WC.set (d := 8) e4 <| WC.seq <| WC.region rfl ?_
 refine WL.lssS (k1 : Int) (l.length : Int) rfl rfl rfl (fun h1 => ?_) (fun h1 => ?_)
 ·refine WL.nil <| WC.seq <| WC.condT rfl <| WC.skip <| WC.seq <| WC.block <| WC.seq <| WC.region rfl <| WL.move rfl <| WL.assign rfl <| WL.nil <| WC.seq <| WC.region rfl <| WL.move rfl <| WL.move rfl <| WL.move rfl ?_
  refine WL.indexAddr (hvl.mono hle1) k1 (by omega) ul89 ti22 rfl rfl rfl rfl (fun p1 x1 hx1 he1 => ?_)
  obtain ⟨cs1, hc1, hr1⟩ := he1
  obtain ⟨v1, rfl, hs1⟩ := hr1
  refine WL.loadG1 hS1 hc1 ti22 rfl rfl rfl ?_
  have hcc1 := hf.call _ _ v1 x1 hle1 hS1.imm (List.mem_of_getElem? hx1) hs1
  refine WL.callF _ fcap hf.body rfl rfl rfl (hcc1.mono ?_)
  rintro e w2 ⟨r1, G2, rfl, hres1, hpost1⟩
  refine ⟨_, rfl, ?_⟩
  have hS2 := hS1.call hres1
  have hle2 := hres1.le
  subst hpost1
  refine WL.split (fun (h2 : (pf x1) = true) => ?_) (fun (h2 : (pf x1) = false) => ?_)
  ·refine WL.nil <| WC.condT rfl <| WC.seq <| WC.region rfl <| WL.move rfl <| WL.assign rfl <| WL.nil <| WC.ret ?_
   exact ⟨_, rfl, _, _, rfl, hS2.res, (congrArg (Value.int .i64) (by exact (idxF_some _ (by assumption) (by assumption) (by assumption)).symm))⟩
  refine WL.nil <| WC.condF rfl <| WC.skip <| WC.region rfl ?_
  refine WL.incr k1 (by have hreach : reach = 140737488355328 := rfl; omega) rfl rfl rfl ?_
  refine WL.move rfl <| WL.nil ?_
  exact ⟨_, ⟨k1 + 1, G2, rfl, (hle1.trans hle2), hS2, rfl, rfl, rfl, rfl, (by omega), (by exact lt_step (by assumption) (by assumption) (by assumption))⟩, (show l.length - (k1 + 1) < l.length - k1 by omega)⟩
 refine WL.nil <| WC.seq <| WC.condF rfl <| WC.exit <| WC.seq <| WC.region rfl <| WL.assign rfl <| WL.nil <| WC.ret ?_
 exact ⟨_, rfl, _, _, rfl, hS1.res, (congrArg (Value.int .i64) (by exact (idxF_none' (by assumption) (by omega)).symm))⟩

theorem c_ContainsFF (G : GH) (w : World) (hG : G.In w) (l : List (List Fact)) (pf : (List Fact) → Bool) (vl : Value) (hvl : Sl (FactE.slice 40) 24 G vl l) (fid : Nat) (fcap : Array Value) (hf : FnB Tryz.prog (Sl FactE 40) fid fcap G (fun x => x ∈ l) pf)  : Calls Tryz.prog (nat_lit 53) #[vl, .func (.func fid) #[] fcap] w fun e w' => ∃ r G', e = .returned r ∧ Res [] w G w' G' ∧ r = .bool (l.any pf) := by
 refine calls_of_WC (N := 9) Tryz.func53 rfl rfl rfl ?_
 have hS := St.start (X := []) hG
 refine WC.seq <| WC.region rfl <| WL.assign rfl <| WL.nil <| WC.seq <| WC.region rfl <| WL.move rfl <| WL.move rfl ?_
 refine WL.callF [vl, .func (.func fid) #[] fcap] #[] hb113 rfl rfl rfl ((c_IndexFF _ _ hS.imm l pf _ hvl fid fcap (hf.up (G.le_refl)) ).mono ?_)
 rintro e w1 ⟨r1, G1, rfl, hres1, hpost1⟩
 refine ⟨_, rfl, ?_⟩
 have hS1 := hS.call hres1
 have hle1 := hres1.le
 subst hpost1
 refine WL.cmp .geq rfl .i64 (idxF pf l) 0 rfl rfl rfl <| WL.assign rfl <| WL.nil <| WC.ret ?_
 exact ⟨_, rfl, _, _, rfl, hS1.res, (congrArg Value.bool (by exact idxF_any _ _))⟩

theorem c_IndexP (G : GH) (w : World) (hG : G.In w) (l : List (Int × Int)) (pf : (Int × Int) → Bool) (vl : Value) (hvl : Sl PairE 16 G vl l) (fid : Nat) (fcap : Array Value) (hf : FnB Tryz.prog (Is PairE) fid fcap G (fun x => x ∈ l) pf)  : Calls Tryz.prog (nat_lit 155) #[vl, .func (.func fid) #[] fcap] w fun e w' => ∃ r G', e = .returned r ∧ Res [] w G w' G' ∧ r = .int .i64 (idxF pf l) := by
 refine calls_of_WC (N := 19) Tryz.func155 rfl rfl rfl ?_
 have hS := St.start (X := []) hG
 refine WC.seq <| WC.region rfl <| WL.assign rfl <| WL.nil <| WC.seq <| WC.seq <| WC.region rfl <| WL.move rfl ?_
 have bd1 := hvl.bound
 refine WL.lenSl hvl ul88 rfl rfl <| WL.move rfl <| WL.nil <| WC.block ?_
 refine WC.loop (γ := Nat) (fun m ρ1 w1 => ∃ (k1 : Nat), ∃ (G1 : GH), m = l.length - k1 ∧ G.le G1 ∧ St w [] G G1 [] w1 ∧ ρ1 0 = vl ∧ ρ1 1 = .func (.func fid) #[] fcap ∧ ρ1 7 = .int .i64 (l.length : Int) ∧ ρ1 8 = .int .i64 (k1 : Int) ∧ k1 ≤ l.length ∧ ∀ j, j < k1 → ∀ x, l[j]? = some x → pf x = false) (fun m => m) _ ⟨0, G, rfl, (G.le_refl), hS, rfl, rfl, rfl, rfl, (by omega), (by intro j hj; omega)⟩ ?_
 rintro m ρ1 w1 ⟨k1, G1, rfl, hle1, hS1, e1, e2, e3, e4, f1, f2⟩
 refine WC.set (d := 0) e1 <| WC.set (d := 1) e2 <| WC.set (d := 7) e3 <| WC.set (d := 8) e4 <| WC.seq <| WC.region rfl ?_
 refine WL.lssS (k1 : Int) (l.length : Int) rfl rfl rfl (fun h1 => ?_) (fun h1 => ?_)
 ·refine WL.nil <| WC.seq <| WC.condT rfl <| WC.skip <| WC.seq <| WC.block <| WC.seq <| WC.region rfl <| WL.move rfl <| WL.assign rfl <| WL.nil <| WC.seq <| WC.region rfl <| WL.move rfl <| WL.move rfl <| WL.move rfl ?_
  refine WL.indexAddr (hvl.mono hle1) k1 (by omega) ul88 ti87 rfl rfl rfl rfl (fun p1 x1 hx1 he1 => ?_)
  obtain ⟨cs1, hc1, hr1⟩ := he1
  obtain ⟨rfl, hb1, hb2⟩ := PairE_open hr1
  refine WL.loadGAt hS1 hc1 [.int .i64 x1.1, .int .i64 x1.2] ti87 rfl rfl rfl rfl rfl ?_
  have hcc1 := hf.call _ _ (.agg #[.int .i64 x1.1, .int .i64 x1.2]) x1 hle1 hS1.imm (List.mem_of_getElem? hx1) ⟨_, rfl, (PairE_mk x1 hb1 hb2)⟩
  refine WL.callF _ fcap hf.body rfl rfl rfl (hcc1.mono ?_)
  rintro e w2 ⟨r1, G2, rfl, hres1, hpost1⟩
  refine ⟨_, rfl, ?_⟩
  have hS2 := hS1.call hres1
  have hle2 := hres1.le
  subst hpost1
  refine WL.split (fun (h2 : (pf x1) = true) => ?_) (fun (h2 : (pf x1) = false) => ?_)
  ·refine WL.nil <| WC.condT rfl <| WC.seq <| WC.region rfl <| WL.move rfl <| WL.assign rfl <| WL.nil <| WC.ret ?_
   exact ⟨_, rfl, _, _, rfl, hS2.res, (congrArg (Value.int .i64) (by exact (idxF_some _ (by assumption) (by assumption) (by assumption)).symm))⟩
  refine WL.nil <| WC.condF rfl <| WC.skip <| WC.region rfl ?_
  refine WL.incr k1 (by have hreach : reach = 140737488355328 := rfl; omega) rfl rfl rfl ?_
  refine WL.move rfl <| WL.nil ?_
  exact ⟨_, ⟨k1 + 1, G2, rfl, (hle1.trans hle2), hS2, rfl, rfl, rfl, rfl, (by omega), (by exact lt_step (by assumption) (by assumption) (by assumption))⟩, (show l.length - (k1 + 1) < l.length - k1 by omega)⟩
 refine WL.nil <| WC.seq <| WC.condF rfl <| WC.exit <| WC.seq <| WC.region rfl <| WL.assign rfl <| WL.nil <| WC.ret ?_
 exact ⟨_, rfl, _, _, rfl, hS1.res, (congrArg (Value.int .i64) (by exact (idxF_none' (by assumption) (by omega)).symm))⟩

theorem c_ContainsP (G : GH) (w : World) (hG : G.In w) (l : List (Int × Int)) (pf : (Int × Int) → Bool) (vl : Value) (hvl : Sl PairE 16 G vl l) (fid : Nat) (fcap : Array Value) (hf : FnB Tryz.prog (Is PairE) fid fcap G (fun x => x ∈ l) pf)  : Calls Tryz.prog (nat_lit 107) #[vl, .func (.func fid) #[] fcap] w fun e w' => ∃ r G', e = .returned r ∧ Res [] w G w' G' ∧ r = .bool (l.any pf) := by
 refine calls_of_WC (N := 9) Tryz.func107 rfl rfl rfl ?_
 have hS := St.start (X := []) hG
 refine WC.seq <| WC.region rfl <| WL.assign rfl <| WL.nil <| WC.seq <| WC.region rfl <| WL.move rfl <| WL.move rfl ?_
 refine WL.callF [vl, .func (.func fid) #[] fcap] #[] hb155 rfl rfl rfl ((c_IndexP _ _ hS.imm l pf _ hvl fid fcap (hf.up (G.le_refl)) ).mono ?_)
 rintro e w1 ⟨r1, G1, rfl, hres1, hpost1⟩
 refine ⟨_, rfl, ?_⟩
 have hS1 := hS.call hres1
 have hle1 := hres1.le
 subst hpost1
 refine WL.cmp .geq rfl .i64 (idxF pf l) 0 rfl rfl rfl <| WL.assign rfl <| WL.nil <| WC.ret ?_
 exact ⟨_, rfl, _, _, rfl, hS1.res, (congrArg Value.bool (by exact idxF_any _ _))⟩

theorem c_IndexVV (G : GH) (w : World) (hG : G.In w) (l : List (List Val)) (pf : (List Val) → Bool) (vl : Value) (hvl : Sl (ValE.slice 32) 24 G vl l) (fid : Nat) (fcap : Array Value) (hf : FnB Tryz.prog (Sl ValE 32) fid fcap G (fun x => x ∈ l) pf)  : Calls Tryz.prog (nat_lit 100) #[vl, .func (.func fid) #[] fcap] w fun e w' => ∃ r G', e = .returned r ∧ Res [] w G w' G' ∧ r = .int .i64 (idxF pf l) := by
 refine calls_of_WC (N := 19) Tryz.func100 rfl rfl rfl ?_
 have hS := St.start (X := []) hG
 refine WC.seq <| WC.region rfl <| WL.assign rfl <| WL.nil <| WC.seq <| WC.seq <| WC.region rfl <| WL.move rfl ?_
 have bd1 := hvl.bound
 refine WL.lenSl hvl ul67 rfl rfl <| WL.move rfl <| WL.nil <| WC.block ?_
 refine WC.loop (γ := Nat) (fun m ρ1 w1 => ∃ (k1 : Nat), ∃ (G1 : GH), m = l.length - k1 ∧ G.le G1 ∧ St w [] G G1 [] w1 ∧ ρ1 0 = vl ∧ ρ1 1 = .func (.func fid) #[] fcap ∧ ρ1 7 = .int .i64 (l.length : Int) ∧ ρ1 8 = .int .i64 (k1 : Int) ∧ k1 ≤ l.length ∧ ∀ j, j < k1 → ∀ x, l[j]? = some x → pf x = false) (fun m => m) _ ⟨0, G, rfl, (G.le_refl), hS, rfl, rfl, rfl, rfl, (by omega), (by intro j hj; omega)⟩ ?_
 rintro m ρ1 w1 ⟨k1, G1, rfl, hle1, hS1, e1, e2, e3, e4, f1, f2⟩
 refine WC.set (d := 0) e1 <| WC.set (d := 1) e2 <| WC.set (d := 7) e3 <| WC.set (d := 8) e4 <| WC.seq <| WC.region rfl ?_
 refine WL.lssS (k1 : Int) (l.length : Int) rfl rfl rfl (fun h1 => ?_) (fun h1 => ?_)
 ·refine WL.nil <| WC.seq <| WC.condT rfl <| WC.skip <| WC.seq <| WC.block <| WC.seq <| WC.region rfl <| WL.move rfl <| WL.assign rfl <| WL.nil <| WC.seq <| WC.region rfl <| WL.move rfl <| WL.move rfl <| WL.move rfl ?_
  refine WL.indexAddr (hvl.mono hle1) k1 (by omega) ul67 ti61 rfl rfl rfl rfl (fun p1 x1 hx1 he1 => ?_)
  obtain ⟨cs1, hc1, hr1⟩ := he1
  obtain ⟨v1, rfl, hs1⟩ := hr1
  refine WL.loadG1 hS1 hc1 ti61 rfl rfl rfl ?_
  have hcc1 := hf.call _ _ v1 x1 hle1 hS1.imm (List.mem_of_getElem? hx1) hs1
  refine WL.callF _ fcap hf.body rfl rfl rfl (hcc1.mono ?_)
  rintro e w2 ⟨r1, G2, rfl, hres1, hpost1⟩
  refine ⟨_, rfl, ?_⟩
  have hS2 := hS1.call hres1
  have hle2 := hres1.le
  subst hpost1
  refine WL.split (fun (h2 : (pf x1) = true) => ?_) (fun (h2 : (pf x1) = false) => ?_)
  ·refine WL.nil <| WC.condT rfl <| WC.seq <| WC.region rfl <| WL.move rfl <| WL.assign rfl <| WL.nil <| WC.ret ?_
   exact ⟨_, rfl, _, _, rfl, hS2.res, (congrArg (Value.int .i64) (by exact (idxF_some _ (by assumption) (by assumption) (by assumption)).symm))⟩
  refine WL.nil <| WC.condF rfl <| WC.skip <| WC.region rfl ?_
  refine WL.incr k1 (by have hreach : reach = 140737488355328 := rfl; omega) rfl rfl rfl ?_
  refine WL.move rfl <| WL.nil ?_
  exact ⟨_, ⟨k1 + 1, G2, rfl, (hle1.trans hle2), hS2, rfl, rfl, rfl, rfl, (by omega), (by exact lt_step (by assumption) (by assumption) (by assumption))⟩, (show l.length - (k1 + 1) < l.length - k1 by omega)⟩
 refine WL.nil <| WC.seq <| WC.condF rfl <| WC.exit <| WC.seq <| WC.region rfl <| WL.assign rfl <| WL.nil <| WC.ret ?_
 exact ⟨_, rfl, _, _, rfl, hS1.res, (congrArg (Value.int .i64) (by exact (idxF_none' (by assumption) (by omega)).symm))⟩

theorem c_ContainsVV (G : GH) (w : World) (hG : G.In w) (l : List (List Val)) (pf : (List Val) → Bool) (vl : Value) (hvl : Sl (ValE.slice 32) 24 G vl l) (fid : Nat) (fcap : Array Value) (hf : FnB Tryz.prog (Sl ValE 32) fid fcap G (fun x => x ∈ l) pf)  : Calls Tryz.prog (nat_lit 40) #[vl, .func (.func fid) #[] fcap] w fun e w' => ∃ r G', e = .returned r ∧ Res [] w G w' G' ∧ r = .bool (l.any pf) := by
 refine calls_of_WC (N := 9) Tryz.func40 rfl rfl rfl ?_
 have hS := St.start (X := []) hG
 refine WC.seq <| WC.region rfl <| WL.assign rfl <| WL.nil <| WC.seq <| WC.region rfl <| WL.move rfl <| WL.move rfl ?_
 refine WL.callF [vl, .func (.func fid) #[] fcap] #[] hb100 rfl rfl rfl ((c_IndexVV _ _ hS.imm l pf _ hvl fid fcap (hf.up (G.le_refl)) ).mono ?_)
 rintro e w1 ⟨r1, G1, rfl, hres1, hpost1⟩
 refine ⟨_, rfl, ?_⟩
 have hS1 := hS.call hres1
 have hle1 := hres1.le
 subst hpost1
 refine WL.cmp .geq rfl .i64 (idxF pf l) 0 rfl rfl rfl <| WL.assign rfl <| WL.nil <| WC.ret ?_
 exact ⟨_, rfl, _, _, rfl, hS1.res, (congrArg Value.bool (by exact idxF_any _ _))⟩
end Go.Civ
