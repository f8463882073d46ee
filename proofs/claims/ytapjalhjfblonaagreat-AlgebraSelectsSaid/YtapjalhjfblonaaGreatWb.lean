/- Walks, printed by specs38.py. -/
import Derived.Test.YtapjalhjfblonaaGreatProg
import Derived.KernelRfl
import Derived.WalkKit
import Derived.Test.YtapjalhjfblonaaGreatWa
import Derived.Test.YtapjalhjfblonaaGreatSv
set_option linter.unusedVariables false
set_option linter.unusedSimpArgs false
set_option maxRecDepth 100000
set_option maxHeartbeats 4000000
namespace Go.Civ
open Go.Proofs


theorem c_EqualV (G : GH) (w : World) (hG : G.In w) (a b : List Val) (pf : Val → Val → Bool) (va : Value) (hva : Sl ValE 32 G va a) (vb : Value) (hvb : Sl ValE 32 G vb b) (fid : Nat) (fcap : Array Value) (hf : FnB2 Tryz.prog (Is ValE) (Is ValE) fid fcap G (fun x y => x ∈ a ∧ y ∈ b) pf)  : Calls Tryz.prog (nat_lit 156) #[va, vb, .func (.func fid) #[] fcap] w fun e w' => ∃ r G', e = .returned r ∧ Res [] w G w' G' ∧ r = .bool (eqF pf a b) := by
 refine calls_of_WC (N := 32) Tryz.func156 rfl rfl rfl ?_
 have hS := St.start (X := []) hG
 refine WC.seq <| WC.region rfl <| WL.assign rfl <| WL.nil <| WC.seq <| WC.seq <| WC.region rfl <| WL.move rfl ?_
 have bd1 := hva.bound
 refine WL.lenSl hva ul61 rfl rfl <| WL.move rfl ?_
 have bd2 := hvb.bound
 refine WL.lenSl hvb ul61 rfl rfl ?_
 refine WL.neqS (a.length : Int) (b.length : Int) rfl rfl rfl (fun h1 => ?_) (fun h1 => ?_)
 ·refine WL.nil <| WC.condT rfl <| WC.seq <| WC.region rfl <| WL.assign rfl <| WL.nil <| WC.ret ?_
  exact ⟨_, rfl, _, _, rfl, hS.res, (congrArg Value.bool (by exact (eqF_len (by omega)).symm))⟩
 refine WL.nil <| WC.condF rfl <| WC.skip <| WC.seq <| WC.seq <| WC.region rfl <| WL.move rfl ?_
 have bd3 := hva.bound
 refine WL.lenSl hva ul61 rfl rfl <| WL.move rfl <| WL.nil <| WC.block ?_
 refine WC.loop (γ := Nat) (fun m ρ1 w1 => ∃ (k1 : Nat), ∃ (G1 : GH), m = a.length - k1 ∧ G.le G1 ∧ St w [] G G1 [] w1 ∧ ρ1 1 = vb ∧ ρ1 2 = .func (.func fid) #[] fcap ∧ ρ1 15 = va ∧ ρ1 16 = .int .i64 (a.length : Int) ∧ ρ1 17 = .int .i64 (k1 : Int) ∧ k1 ≤ a.length ∧ ∀ j, j < k1 → ∀ x y, a[j]? = some x → b[j]? = some y → pf x y = true) (fun m => m) _ ⟨0, G, rfl, (G.le_refl), hS, rfl, rfl, rfl, rfl, rfl, (by omega), (by intro j hj; omega)⟩ ?_
 rintro m ρ1 w1 ⟨k1, G1, rfl, hle1, hS1, e1, e2, e3, e4, e5, f1, f2⟩
 refine WC.set (d := 1) e1 <| WC.set (d := 2) e2 <| WC.set (d := 15) e3 <| WC.set (d := 16) e4 <| WC.set (d := 17) e5 <| WC.seq <| WC.region rfl ?_
 refine WL.lssS (k1 : Int) (a.length : Int) rfl rfl rfl (fun h2 => ?_) (fun h2 => ?_)
 ·refine WL.nil <| WC.seq <| WC.condT rfl <| WC.skip <| WC.seq <| WC.block <| WC.seq <| WC.region rfl <| WL.move rfl ?_
  refine WL.indexAddr (hva.mono hle1) k1 (by omega) ul61 ti34 rfl rfl rfl rfl (fun p1 x1 hx1 he1 => ?_)
  obtain ⟨cs1, hc1, hr1⟩ := he1
  obtain ⟨rfl, hb1, hb2, hb3⟩ := ValE_open hr1
  refine WL.loadGAt hS1 hc1 [.int .i64 x1.k, .int .i64 x1.n, strV x1.s] ti34 rfl rfl rfl rfl rfl ?_
  refine WL.alloc hS1 ti34 rfl rfl (fun b1 w2 hn1 hS2 => ?_)
  refine WL.assign rfl ?_
  refine WL.store hS2 0 _ _ _ 0 _ [.int .i64 x1.k, .int .i64 x1.n, strV x1.s] [.int .i64 x1.k, .int .i64 x1.n, strV x1.s] _ rfl rfl ti34 rfl (Nat.le_of_ble_eq_true rfl) rfl rfl rfl rfl rfl rfl (fun w3 hS3 => ?_)
  obtain ⟨G2, hle2, hc2, hS4⟩ := hS3.shutB hn1
  refine WL.nil <| WC.seq <| WC.region rfl <| WL.move rfl <| WL.move rfl ?_
  refine WL.indexAddr (hvb.mono (hle1.trans hle2)) k1 (by omega) ul61 ti34 rfl rfl rfl rfl (fun p2 x2 hx2 he2 => ?_)
  obtain ⟨cs2, hc3, hr2⟩ := he2
  obtain ⟨rfl, hb4, hb5, hb6⟩ := ValE_open hr2
  refine WL.loadGAt hS4 hc3 [.int .i64 x2.k, .int .i64 x2.n, strV x2.s] ti34 rfl rfl rfl rfl rfl ?_
  refine WL.alloc hS4 ti34 rfl rfl (fun b2 w4 hn2 hS5 => ?_)
  refine WL.store hS5 0 _ _ _ 0 _ [.int .i64 x2.k, .int .i64 x2.n, strV x2.s] [.int .i64 x2.k, .int .i64 x2.n, strV x2.s] _ rfl rfl ti34 rfl (Nat.le_of_ble_eq_true rfl) rfl rfl rfl rfl rfl rfl (fun w5 hS6 => ?_)
  obtain ⟨G3, hle3, hc4, hS7⟩ := hS6.shutB hn2
  refine WL.nil <| WC.seq <| WC.region rfl <| WL.move rfl <| WL.loadGAt hS7 (hc2.mono hle3) [.int .i64 x1.k, .int .i64 x1.n, strV x1.s] ti34 rfl rfl rfl rfl rfl <| WL.loadGAt hS7 hc4 [.int .i64 x2.k, .int .i64 x2.n, strV x2.s] ti34 rfl rfl rfl rfl rfl ?_
  have hcc1 := hf.call _ _ (.agg #[.int .i64 x1.k, .int .i64 x1.n, strV x1.s]) (.agg #[.int .i64 x2.k, .int .i64 x2.n, strV x2.s]) x1 x2 ((hle1.trans hle2).trans hle3) hS7.imm ⟨(List.mem_of_getElem? hx1), (List.mem_of_getElem? hx2)⟩ ⟨_, rfl, (ValE_mk x1 hb1 hb2 hb3)⟩ ⟨_, rfl, (ValE_mk x2 hb4 hb5 hb6)⟩
  refine WL.callF _ fcap hf.body rfl rfl rfl (hcc1.mono ?_)
  rintro e w6 ⟨r1, G4, rfl, hres1, hpost1⟩
  refine ⟨_, rfl, ?_⟩
  have hS8 := hS7.call hres1
  have hle4 := hres1.le
  subst hpost1
  refine WL.split (fun (h3 : (pf x1 x2) = true) => ?_) (fun (h3 : (pf x1 x2) = false) => ?_)
  ·refine WL.not true rfl rfl <| WL.nil <| WC.condF rfl <| WC.skip <| WC.region rfl ?_
   refine WL.incr k1 (by have hreach : reach = 140737488355328 := rfl; omega) rfl rfl rfl ?_
   refine WL.move rfl <| WL.nil ?_
   exact ⟨_, ⟨k1 + 1, G4, rfl, (hle1.trans ((hle2.trans hle3).trans hle4)), hS8, rfl, rfl, rfl, rfl, rfl, (by omega), (by exact lt_step2 (by assumption) (by assumption) (by assumption) (by simp_all))⟩, (show a.length - (k1 + 1) < a.length - k1 by omega)⟩
  refine WL.not false rfl rfl <| WL.nil <| WC.condT rfl <| WC.seq <| WC.region rfl <| WL.assign rfl <| WL.nil <| WC.ret ?_
  exact ⟨_, rfl, _, _, rfl, hS8.res, (congrArg Value.bool (by exact (eqF_no (by assumption) (by assumption) (by simp_all)).symm))⟩
 refine WL.nil <| WC.seq <| WC.condF rfl <| WC.exit <| WC.seq <| WC.region rfl <| WL.assign rfl <| WL.nil <| WC.ret ?_
 exact ⟨_, rfl, _, _, rfl, hS1.res, (congrArg Value.bool (by exact (eqF_yes (by omega) (by assumption) (by omega)).symm))⟩

theorem c_CompareV (G : GH) (w : World) (hG : G.In w) (a b : List Val) (pf : Val → Val → Int) (va : Value) (hva : Sl ValE 32 G va a) (vb : Value) (hvb : Sl ValE 32 G vb b) (fid : Nat) (fcap : Array Value) (hf : FnI2 Tryz.prog (Is ValE) (Is ValE) fid fcap G (fun x y => x ∈ a ∧ y ∈ b) pf)  : Calls Tryz.prog (nat_lit 94) #[va, vb, .func (.func fid) #[] fcap] w fun e w' => ∃ r G', e = .returned r ∧ Res [] w G w' G' ∧ r = .int .i64 (cmpL pf a b) := by
 refine calls_of_WC (N := 39) Tryz.func94 rfl rfl rfl ?_
 have hS := St.start (X := []) hG
 refine WC.seq <| WC.region rfl <| WL.assign rfl <| WL.nil <| WC.seq <| WC.seq <| WC.region rfl <| WL.move rfl ?_
 have bd1 := hva.bound
 refine WL.lenSl hva ul61 rfl rfl <| WL.move rfl <| WL.nil <| WC.block ?_
 refine WC.loop (γ := Nat) (fun m ρ1 w1 => ∃ (k1 : Nat), ∃ (G1 : GH), m = a.length - k1 ∧ G.le G1 ∧ St w [] G G1 [] w1 ∧ ρ1 0 = va ∧ ρ1 1 = vb ∧ ρ1 2 = .func (.func fid) #[] fcap ∧ ρ1 11 = va ∧ ρ1 12 = .int .i64 (a.length : Int) ∧ ρ1 13 = .int .i64 (k1 : Int) ∧ k1 ≤ a.length ∧ k1 ≤ b.length ∧ ∀ j, j < k1 → ∀ x y, a[j]? = some x → b[j]? = some y → pf x y = 0) (fun m => m) _ ⟨0, G, rfl, (G.le_refl), hS, rfl, rfl, rfl, rfl, rfl, rfl, (by omega), (by omega), (by intro j hj; omega)⟩ ?_
 rintro m ρ1 w1 ⟨k1, G1, rfl, hle1, hS1, e1, e2, e3, e4, e5, e6, f1, f2, f3⟩
 refine WC.set (d := 0) e1 <| WC.set (d := 1) e2 <| WC.set (d := 2) e3 <| WC.set (d := 11) e4 <| WC.set (d := 12) e5 <| WC.set (d := 13) e6 <| WC.seq <| WC.region rfl ?_
 refine WL.lssS (k1 : Int) (a.length : Int) rfl rfl rfl (fun h1 => ?_) (fun h1 => ?_)
 ·refine WL.nil <| WC.seq <| WC.condT rfl <| WC.skip <| WC.seq <| WC.block <| WC.seq <| WC.region rfl <| WL.move rfl ?_
  refine WL.indexAddr (hva.mono hle1) k1 (by omega) ul61 ti34 rfl rfl rfl rfl (fun p1 x1 hx1 he1 => ?_)
  obtain ⟨cs1, hc1, hr1⟩ := he1
  obtain ⟨rfl, hb1, hb2, hb3⟩ := ValE_open hr1
  refine WL.loadGAt hS1 hc1 [.int .i64 x1.k, .int .i64 x1.n, strV x1.s] ti34 rfl rfl rfl rfl rfl ?_
  refine WL.alloc hS1 ti34 rfl rfl (fun b1 w2 hn1 hS2 => ?_)
  refine WL.assign rfl ?_
  refine WL.store hS2 0 _ _ _ 0 _ [.int .i64 x1.k, .int .i64 x1.n, strV x1.s] [.int .i64 x1.k, .int .i64 x1.n, strV x1.s] _ rfl rfl ti34 rfl (Nat.le_of_ble_eq_true rfl) rfl rfl rfl rfl rfl rfl (fun w3 hS3 => ?_)
  obtain ⟨G2, hle2, hc2, hS4⟩ := hS3.shutB hn1
  refine WL.nil <| WC.seq <| WC.seq <| WC.region rfl <| WL.move rfl <| WL.move rfl ?_
  have bd2 := hvb.bound
  refine WL.lenSl (hvb.mono (hle1.trans hle2)) ul61 rfl rfl ?_
  refine WL.geqS (k1 : Int) (b.length : Int) rfl rfl rfl (fun h2 => ?_) (fun h2 => ?_)
  ·refine WL.nil <| WC.condT rfl <| WC.seq <| WC.region rfl <| WL.assign rfl <| WL.nil <| WC.ret ?_
   exact ⟨_, rfl, _, _, rfl, hS4.res, (congrArg (Value.int .i64) (by exact (cmpL_long (by assumption) (by omega) (by omega)).symm))⟩
  refine WL.nil <| WC.condF rfl <| WC.skip <| WC.seq <| WC.region rfl <| WL.move rfl <| WL.move rfl ?_
  refine WL.indexAddr (hvb.mono (hle1.trans hle2)) k1 (by omega) ul61 ti34 rfl rfl rfl rfl (fun p2 x2 hx2 he2 => ?_)
  obtain ⟨cs2, hc3, hr2⟩ := he2
  obtain ⟨rfl, hb4, hb5, hb6⟩ := ValE_open hr2
  refine WL.loadGAt hS4 hc3 [.int .i64 x2.k, .int .i64 x2.n, strV x2.s] ti34 rfl rfl rfl rfl rfl ?_
  refine WL.alloc hS4 ti34 rfl rfl (fun b2 w4 hn2 hS5 => ?_)
  refine WL.store hS5 0 _ _ _ 0 _ [.int .i64 x2.k, .int .i64 x2.n, strV x2.s] [.int .i64 x2.k, .int .i64 x2.n, strV x2.s] _ rfl rfl ti34 rfl (Nat.le_of_ble_eq_true rfl) rfl rfl rfl rfl rfl rfl (fun w5 hS6 => ?_)
  obtain ⟨G3, hle3, hc4, hS7⟩ := hS6.shutB hn2
  refine WL.nil <| WC.seq <| WC.region rfl <| WL.move rfl <| WL.loadGAt hS7 (hc2.mono hle3) [.int .i64 x1.k, .int .i64 x1.n, strV x1.s] ti34 rfl rfl rfl rfl rfl <| WL.loadGAt hS7 hc4 [.int .i64 x2.k, .int .i64 x2.n, strV x2.s] ti34 rfl rfl rfl rfl rfl ?_
  have hcc1 := hf.call _ _ (.agg #[.int .i64 x1.k, .int .i64 x1.n, strV x1.s]) (.agg #[.int .i64 x2.k, .int .i64 x2.n, strV x2.s]) x1 x2 ((hle1.trans hle2).trans hle3) hS7.imm ⟨(List.mem_of_getElem? hx1), (List.mem_of_getElem? hx2)⟩ ⟨_, rfl, (ValE_mk x1 hb1 hb2 hb3)⟩ ⟨_, rfl, (ValE_mk x2 hb4 hb5 hb6)⟩
  refine WL.callF _ fcap hf.body rfl rfl rfl (hcc1.mono ?_)
  rintro e w6 ⟨r1, G4, rfl, hres1, hpost1⟩
  refine ⟨_, rfl, ?_⟩
  have hS8 := hS7.call hres1
  have hle4 := hres1.le
  subst hpost1
  refine WL.assign rfl <| WL.nil <| WC.seq <| WC.region rfl <| WL.move rfl ?_
  refine WL.neqS (pf x1 x2) 0 rfl rfl rfl (fun h3 => ?_) (fun h3 => ?_)
  ·refine WL.nil <| WC.condT rfl <| WC.seq <| WC.region rfl <| WL.move rfl <| WL.assign rfl <| WL.nil <| WC.ret ?_
   exact ⟨_, rfl, _, _, rfl, hS8.res, (congrArg (Value.int .i64) (by exact (cmpL_at (by assumption) (by assumption) (by assumption) (by assumption)).symm))⟩
  refine WL.nil <| WC.condF rfl <| WC.skip <| WC.region rfl ?_
  refine WL.incr k1 (by have hreach : reach = 140737488355328 := rfl; omega) rfl rfl rfl ?_
  refine WL.move rfl <| WL.nil ?_
  exact ⟨_, ⟨k1 + 1, G4, rfl, (hle1.trans ((hle2.trans hle3).trans hle4)), hS8, rfl, rfl, rfl, rfl, rfl, rfl, (by omega), (by omega), (by exact lt_step2 (by assumption) (by assumption) (by assumption) (by assumption))⟩, (show a.length - (k1 + 1) < a.length - k1 by omega)⟩
 refine WL.nil <| WC.seq <| WC.condF rfl <| WC.exit <| WC.seq <| WC.seq <| WC.region rfl <| WL.move rfl ?_
 have bd3 := hva.bound
 refine WL.lenSl (hva.mono hle1) ul61 rfl rfl <| WL.move rfl ?_
 have bd4 := hvb.bound
 refine WL.lenSl (hvb.mono hle1) ul61 rfl rfl ?_
 refine WL.lssS (a.length : Int) (b.length : Int) rfl rfl rfl (fun h4 => ?_) (fun h4 => ?_)
 ·refine WL.nil <| WC.condT rfl <| WC.seq <| WC.region rfl <| WL.assign rfl <| WL.nil <| WC.ret ?_
  exact ⟨_, rfl, _, _, rfl, hS1.res, (congrArg (Value.int .i64) (by exact (cmpL_short (by assumption) (by omega) (by omega)).symm))⟩
 refine WL.nil <| WC.condF rfl <| WC.skip <| WC.seq <| WC.region rfl <| WL.assign rfl <| WL.nil <| WC.ret ?_
 exact ⟨_, rfl, _, _, rfl, hS1.res, (congrArg (Value.int .i64) (by exact (cmpL_same (by assumption) (by omega) (by omega) (by omega)).symm))⟩

theorem c_EqualVV (G : GH) (w : World) (hG : G.In w) (a b : List (List Val)) (pf : (List Val) → (List Val) → Bool) (va : Value) (hva : Sl (ValE.slice 32) 24 G va a) (vb : Value) (hvb : Sl (ValE.slice 32) 24 G vb b) (fid : Nat) (fcap : Array Value) (hf : FnB2 Tryz.prog (Sl ValE 32) (Sl ValE 32) fid fcap G (fun x y => x ∈ a ∧ y ∈ b) pf)  : Calls Tryz.prog (nat_lit 104) #[va, vb, .func (.func fid) #[] fcap] w fun e w' => ∃ r G', e = .returned r ∧ Res [] w G w' G' ∧ r = .bool (eqF pf a b) := by
 refine calls_of_WC (N := 32) Tryz.func104 rfl rfl rfl ?_
 have hS := St.start (X := []) hG
 refine WC.seq <| WC.region rfl <| WL.assign rfl <| WL.nil <| WC.seq <| WC.seq <| WC.region rfl <| WL.move rfl ?_
 have bd1 := hva.bound
 refine WL.lenSl hva ul67 rfl rfl <| WL.move rfl ?_
 have bd2 := hvb.bound
 refine WL.lenSl hvb ul67 rfl rfl ?_
 refine WL.neqS (a.length : Int) (b.length : Int) rfl rfl rfl (fun h1 => ?_) (fun h1 => ?_)
 ·refine WL.nil <| WC.condT rfl <| WC.seq <| WC.region rfl <| WL.assign rfl <| WL.nil <| WC.ret ?_
  exact ⟨_, rfl, _, _, rfl, hS.res, (congrArg Value.bool (by exact (eqF_len (by omega)).symm))⟩
 refine WL.nil <| WC.condF rfl <| WC.skip <| WC.seq <| WC.seq <| WC.region rfl <| WL.move rfl ?_
 have bd3 := hva.bound
 refine WL.lenSl hva ul67 rfl rfl <| WL.move rfl <| WL.nil <| WC.block ?_
 refine WC.loop (γ := Nat) (fun m ρ1 w1 => ∃ (k1 : Nat), ∃ (G1 : GH), m = a.length - k1 ∧ G.le G1 ∧ St w [] G G1 [] w1 ∧ ρ1 1 = vb ∧ ρ1 2 = .func (.func fid) #[] fcap ∧ ρ1 15 = va ∧ ρ1 16 = .int .i64 (a.length : Int) ∧ ρ1 17 = .int .i64 (k1 : Int) ∧ k1 ≤ a.length ∧ ∀ j, j < k1 → ∀ x y, a[j]? = some x → b[j]? = some y → pf x y = true) (fun m => m) _ ⟨0, G, rfl, (G.le_refl), hS, rfl, rfl, rfl, rfl, rfl, (by omega), (by intro j hj; omega)⟩ ?_
 rintro m ρ1 w1 ⟨k1, G1, rfl, hle1, hS1, e1, e2, e3, e4, e5, f1, f2⟩
 refine WC.set (d := 1) e1 <| WC.set (d := 2) e2 <| WC.set (d := 15) e3 <| WC.set (d := 16) e4 <| WC.set (d := 17) e5 <| WC.seq <| WC.region rfl ?_
 refine WL.lssS (k1 : Int) (a.length : Int) rfl rfl rfl (fun h2 => ?_) (fun h2 => ?_)
 ·refine WL.nil <| WC.seq <| WC.condT rfl <| WC.skip <| WC.seq <| WC.block <| WC.seq <| WC.region rfl <| WL.move rfl ?_
  refine WL.indexAddr (hva.mono hle1) k1 (by omega) ul67 ti61 rfl rfl rfl rfl (fun p1 x1 hx1 he1 => ?_)
  obtain ⟨cs1, hc1, hr1⟩ := he1
  obtain ⟨v1, rfl, hs1⟩ := hr1
  refine WL.loadG1 hS1 hc1 ti61 rfl rfl rfl <| WL.assign rfl <| WL.assign rfl <| WL.nil <| WC.seq <| WC.region rfl <| WL.move rfl <| WL.move rfl ?_
  refine WL.indexAddr (hvb.mono hle1) k1 (by omega) ul67 ti61 rfl rfl rfl rfl (fun p2 x2 hx2 he2 => ?_)
  obtain ⟨cs2, hc2, hr2⟩ := he2
  obtain ⟨v2, rfl, hs2⟩ := hr2
  refine WL.loadG1 hS1 hc2 ti61 rfl rfl rfl <| WL.assign rfl <| WL.nil <| WC.seq <| WC.region rfl <| WL.move rfl <| WL.move rfl <| WL.move rfl ?_
  have hcc1 := hf.call _ _ v1 v2 x1 x2 hle1 hS1.imm ⟨(List.mem_of_getElem? hx1), (List.mem_of_getElem? hx2)⟩ hs1 hs2
  refine WL.callF _ fcap hf.body rfl rfl rfl (hcc1.mono ?_)
  rintro e w2 ⟨r1, G2, rfl, hres1, hpost1⟩
  refine ⟨_, rfl, ?_⟩
  have hS2 := hS1.call hres1
  have hle2 := hres1.le
  subst hpost1
  refine WL.split (fun (h3 : (pf x1 x2) = true) => ?_) (fun (h3 : (pf x1 x2) = false) => ?_)
  ·refine WL.not true rfl rfl <| WL.nil <| WC.condF rfl <| WC.skip <| WC.region rfl ?_
   refine WL.incr k1 (by have hreach : reach = 140737488355328 := rfl; omega) rfl rfl rfl ?_
   refine WL.move rfl <| WL.nil ?_
   exact ⟨_, ⟨k1 + 1, G2, rfl, (hle1.trans hle2), hS2, rfl, rfl, rfl, rfl, rfl, (by omega), (by exact lt_step2 (by assumption) (by assumption) (by assumption) (by simp_all))⟩, (show a.length - (k1 + 1) < a.length - k1 by omega)⟩
  refine WL.not false rfl rfl <| WL.nil <| WC.condT rfl <| WC.seq <| WC.region rfl <| WL.assign rfl <| WL.nil <| WC.ret ?_
  exact ⟨_, rfl, _, _, rfl, hS2.res, (congrArg Value.bool (by exact (eqF_no (by assumption) (by assumption) (by simp_all)).symm))⟩
 refine WL.nil <| WC.seq <| WC.condF rfl <| WC.exit <| WC.seq <| WC.region rfl <| WL.assign rfl <| WL.nil <| WC.ret ?_
 exact ⟨_, rfl, _, _, rfl, hS1.res, (congrArg Value.bool (by exact (eqF_yes (by omega) (by assumption) (by omega)).symm))⟩

theorem c_kinds1 (G : GH) (w : World) (hG : G.In w) (x y : Val) (cx : List Value) (hcx : ValE.rep G x cx) (cy : List Value) (hcy : ValE.rep G y cy)  : Calls Tryz.prog (nat_lit 157) #[.agg cx.toArray, .agg cy.toArray] w fun e w' => ∃ r G', e = .returned r ∧ Res [] w G w' G' ∧ r = .bool (decide (x.k = y.k)) := by
 refine calls_of_WC (N := 10) Tryz.func157 rfl rfl rfl ?_
 have hS := St.start (X := []) hG
 obtain ⟨rfl, hb1, hb2, hb3⟩ := ValE_open hcx
 obtain ⟨rfl, hb4, hb5, hb6⟩ := ValE_open hcy
 refine WC.seq <| WC.region rfl ?_
 refine WL.boxG [.int .i64 x.k, .int .i64 x.n, strV x.s] _ hS rfl rfl rfl (fun p1 w1 G1 hle1 hsp1 hc1 hS1 => ?_)
 refine WL.boxG [.int .i64 y.k, .int .i64 y.n, strV y.s] _ hS1 rfl rfl rfl (fun p2 w2 G2 hle2 hsp2 hc2 hS2 => ?_)
 refine WL.assign rfl <| WL.nil <| WC.seq <| WC.region rfl <| WL.fieldAddr _ 0 _ fl34 rfl rfl rfl <| WL.loadG1 hS2 (Cells.drop 0 (hc1.mono hle2)) ti3 rfl rfl rfl <| WL.fieldAddr _ 0 _ fl34 rfl rfl rfl <| WL.loadG1 hS2 (Cells.drop 0 hc2) ti3 rfl rfl rfl <| WL.cmp .eql rfl .i64 x.k y.k rfl rfl rfl <| WL.assign rfl <| WL.nil <| WC.ret ?_
 exact ⟨_, rfl, _, _, rfl, hS2.res, (congrArg Value.bool (by rfl))⟩

theorem c_kinds (G : GH) (w : World) (hG : G.In w) (a b : List Val) (va : Value) (hva : Sl ValE 32 G va a) (vb : Value) (hvb : Sl ValE 32 G vb b)  : Calls Tryz.prog (nat_lit 116) #[va, vb] w fun e w' => ∃ r G', e = .returned r ∧ Res [] w G w' G' ∧ r = .bool (kindsB a b) := by
 refine calls_of_WC (N := 8) Tryz.func116 rfl rfl rfl ?_
 have hS := St.start (X := []) hG
 refine WC.seq <| WC.region rfl <| WL.assign rfl <| WL.nil <| WC.seq <| WC.region rfl <| WL.move rfl <| WL.move rfl ?_
 refine WL.callF [va, vb, .func (.func 157) #[] #[]] #[] hb156 rfl rfl rfl ((c_EqualV _ _ hS.imm a b (fun x8 y8 => decide (x8.k = y8.k)) _ hva _ hvb 157 #[] ⟨hb157, fun G8 w8 v8 u8 x8 y8 hle8 hG8 hon8 hA8 hB8 => by obtain ⟨cs_x8, rfl, hr_x8⟩ := hA8; obtain ⟨cs_y8, rfl, hr_y8⟩ := hB8; exact c_kinds1 G8 w8 hG8 x8 y8 cs_x8 hr_x8 cs_y8 hr_y8 ⟩ ).mono ?_)
 rintro e w1 ⟨r1, G1, rfl, hres1, hpost1⟩
 refine ⟨_, rfl, ?_⟩
 have hS1 := hS.call hres1
 have hle1 := hres1.le
 subst hpost1
 refine WL.assign rfl <| WL.nil <| WC.ret ?_
 exact ⟨_, rfl, _, _, rfl, hS1.res, (congrArg Value.bool (by rfl))⟩

theorem c_line (G : GH) (w : World) (hG : G.In w) (x : Int)  : Calls Tryz.prog (nat_lit 162) #[.int .i64 x] w fun e w' => ∃ r G', e = .returned r ∧ Res [] w G w' G' ∧ r = .bool (lineB x) := by
 refine calls_of_WC (N := 9) Tryz.func162 rfl rfl rfl ?_
 have hS := St.start (X := []) hG
 refine WC.seq <| WC.region rfl <| WL.assign rfl <| WL.nil <| WC.seq <| WC.region rfl <| WL.move rfl ?_
 refine WL.geqS x (-4398046511104) rfl rfl rfl (fun h1 => ?_) (fun h1 => ?_)
 ·refine WL.move rfl <| WL.move rfl <| WL.cmp .leq rfl .i64 x 4398046511104 rfl rfl rfl <| WL.pickT rfl rfl <| WL.assign rfl <| WL.nil <| WC.ret ?_
  exact ⟨_, rfl, _, _, rfl, hS.res, (congrArg Value.bool (by unfold lineB; simp [Cmp.b] <;> omega))⟩
 refine WL.move rfl <| WL.no rfl rfl <| WL.no rfl rfl <| WL.pickF rfl rfl <| WL.assign rfl <| WL.nil <| WC.ret ?_
 exact ⟨_, rfl, _, _, rfl, hS.res, (congrArg Value.bool (by unfold lineB; simp [Cmp.b] <;> omega))⟩

theorem c_iValid (G : GH) (w : World) (hG : G.In w) (x : Span) (cx : List Value) (hcx : SpanE.rep G x cx)  : Calls Tryz.prog (nat_lit 122) #[.agg cx.toArray] w fun e w' => ∃ r G', e = .returned r ∧ Res [] w G w' G' ∧ r = .bool (spanV x) := by
 refine calls_of_WC (N := 18) Tryz.func122 rfl rfl rfl ?_
 have hS := St.start (X := []) hG
 obtain ⟨rfl, hb1, hb2⟩ := SpanE_open hcx
 refine WC.seq <| WC.region rfl ?_
 refine WL.boxG [.int .i64 x.a, .int .i64 x.b] _ hS rfl rfl rfl (fun p1 w1 G1 hle1 hsp1 hc1 hS1 => ?_)
 refine WL.assign rfl <| WL.nil <| WC.seq <| WC.region rfl <| WL.fieldAddr _ 0 _ fl46 rfl rfl rfl <| WL.loadG1 hS1 (Cells.drop 0 hc1) ti3 rfl rfl rfl ?_
 refine WL.callF [.int .i64 x.a] #[] hb162 rfl rfl rfl ((c_line _ _ hS1.imm x.a  ).mono ?_)
 rintro e w2 ⟨r1, G2, rfl, hres1, hpost1⟩
 refine ⟨_, rfl, ?_⟩
 have hS2 := hS1.call hres1
 have hle2 := hres1.le
 subst hpost1
 refine WL.split (fun (h1 : (lineB x.a) = true) => ?_) (fun (h1 : (lineB x.a) = false) => ?_)
 ·refine WL.move rfl <| WL.fieldAddr _ 1 _ fl46 rfl rfl rfl <| WL.loadG1 hS2 (Cells.drop 1 (hc1.mono hle2)) ti3 rfl rfl rfl ?_
  refine WL.callF [.int .i64 x.b] #[] hb162 rfl rfl rfl ((c_line _ _ hS2.imm x.b  ).mono ?_)
  rintro e w3 ⟨r2, G3, rfl, hres2, hpost2⟩
  refine ⟨_, rfl, ?_⟩
  have hS3 := hS2.call hres2
  have hle3 := hres2.le
  subst hpost2
  refine WL.split (fun (h2 : (lineB x.b) = true) => ?_) (fun (h2 : (lineB x.b) = false) => ?_)
  ·refine WL.pickT rfl rfl <| WL.move rfl <| WL.fieldAddr _ 0 _ fl46 rfl rfl rfl <| WL.loadG1 hS3 (Cells.drop 0 (hc1.mono (hle2.trans hle3))) ti3 rfl rfl rfl <| WL.fieldAddr _ 1 _ fl46 rfl rfl rfl <| WL.loadG1 hS3 (Cells.drop 1 (hc1.mono (hle2.trans hle3))) ti3 rfl rfl rfl <| WL.cmp .lss rfl .i64 x.a x.b rfl rfl rfl <| WL.pickT rfl rfl <| WL.assign rfl <| WL.nil <| WC.ret ?_
   exact ⟨_, rfl, _, _, rfl, hS3.res, (congrArg Value.bool (by unfold spanV; simp_all [Cmp.b] <;> (first | omega | (intros; omega) | (rw [Bool.eq_iff_iff]; simp <;> omega) | (rw [Bool.eq_iff_iff]; simp_all <;> omega))))⟩
  refine WL.pickT rfl rfl <| WL.move rfl <| WL.no rfl rfl <| WL.no rfl rfl <| WL.no rfl rfl <| WL.no rfl rfl <| WL.no rfl rfl <| WL.pickF rfl rfl <| WL.assign rfl <| WL.nil <| WC.ret ?_
  exact ⟨_, rfl, _, _, rfl, hS3.res, (congrArg Value.bool (by unfold spanV; simp_all [Cmp.b] <;> (first | omega | (intros; omega) | (rw [Bool.eq_iff_iff]; simp <;> omega) | (rw [Bool.eq_iff_iff]; simp_all <;> omega))))⟩
 refine WL.move rfl <| WL.no rfl rfl <| WL.no rfl rfl <| WL.no rfl rfl <| WL.pickF rfl rfl <| WL.move rfl <| WL.no rfl rfl <| WL.no rfl rfl <| WL.no rfl rfl <| WL.no rfl rfl <| WL.no rfl rfl <| WL.pickF rfl rfl <| WL.assign rfl <| WL.nil <| WC.ret ?_
 exact ⟨_, rfl, _, _, rfl, hS2.res, (congrArg Value.bool (by unfold spanV; simp_all [Cmp.b] <;> (first | omega | (intros; omega) | (rw [Bool.eq_iff_iff]; simp <;> omega) | (rw [Bool.eq_iff_iff]; simp_all <;> omega))))⟩

theorem c_span (G : GH) (w : World) (hG : G.In w) (x : Span) (cx : List Value) (hcx : SpanE.rep G x cx)  : Calls Tryz.prog (nat_lit 84) #[.agg cx.toArray] w fun e w' => ∃ r G', e = .returned r ∧ Res [] w G w' G' ∧ r = .bool (spanB x) := by
 refine calls_of_WC (N := 15) Tryz.func84 rfl rfl rfl ?_
 have hS := St.start (X := []) hG
 obtain ⟨rfl, hb1, hb2⟩ := SpanE_open hcx
 refine WC.seq <| WC.region rfl ?_
 refine WL.boxG [.int .i64 x.a, .int .i64 x.b] _ hS rfl rfl rfl (fun p1 w1 G1 hle1 hsp1 hc1 hS1 => ?_)
 refine WL.assign rfl <| WL.nil <| WC.seq <| WC.region rfl <| WL.loadGAt hS1 hc1 [.int .i64 x.a, .int .i64 x.b] ti46 rfl rfl rfl rfl rfl ?_
 refine WL.callF [.agg #[.int .i64 x.a, .int .i64 x.b]] #[] hb122 rfl rfl rfl ((c_iValid _ _ hS1.imm x _ (SpanE_mk x hb1 hb2) ).mono ?_)
 rintro e w2 ⟨r1, G2, rfl, hres1, hpost1⟩
 refine ⟨_, rfl, ?_⟩
 have hS2 := hS1.call hres1
 have hle2 := hres1.le
 subst hpost1
 refine WL.split (fun (h1 : (spanV x) = true) => ?_) (fun (h1 : (spanV x) = false) => ?_)
 ·refine WL.move rfl <| WL.fieldAddr _ 0 _ fl46 rfl rfl rfl <| WL.loadG1 hS2 (Cells.drop 0 (hc1.mono hle2)) ti3 rfl rfl rfl ?_
  refine WL.geqS x.a (-62135596800) rfl rfl rfl (fun h2 => ?_) (fun h2 => ?_)
  ·refine WL.pickT rfl rfl <| WL.move rfl <| WL.fieldAddr _ 1 _ fl46 rfl rfl rfl <| WL.loadG1 hS2 (Cells.drop 1 (hc1.mono hle2)) ti3 rfl rfl rfl <| WL.cmp .leq rfl .i64 x.b 253402300800 rfl rfl rfl <| WL.pickT rfl rfl <| WL.assign rfl <| WL.nil <| WC.ret ?_
   exact ⟨_, rfl, _, _, rfl, hS2.res, (congrArg Value.bool (by unfold spanB; simp only [spanV, lineB] at *; simp_all [Cmp.b] <;> omega))⟩
  refine WL.pickT rfl rfl <| WL.move rfl <| WL.no rfl rfl <| WL.no rfl rfl <| WL.no rfl rfl <| WL.pickF rfl rfl <| WL.assign rfl <| WL.nil <| WC.ret ?_
  exact ⟨_, rfl, _, _, rfl, hS2.res, (congrArg Value.bool (by unfold spanB; simp only [spanV, lineB] at *; simp_all [Cmp.b] <;> omega))⟩
 refine WL.move rfl <| WL.no rfl rfl <| WL.no rfl rfl <| WL.no rfl rfl <| WL.pickF rfl rfl <| WL.move rfl <| WL.no rfl rfl <| WL.no rfl rfl <| WL.no rfl rfl <| WL.pickF rfl rfl <| WL.assign rfl <| WL.nil <| WC.ret ?_
 exact ⟨_, rfl, _, _, rfl, hS2.res, (congrArg Value.bool (by unfold spanB; simp only [spanV, lineB] at *; simp_all [Cmp.b] <;> omega))⟩

theorem c_Has (G : GH) (w : World) (hG : G.In w) (x : Span) (t : Int) (cx : List Value) (hcx : SpanE.rep G x cx)  : Calls Tryz.prog (nat_lit 96) #[.agg cx.toArray, .int .i64 t] w fun e w' => ∃ r G', e = .returned r ∧ Res [] w G w' G' ∧ r = .bool (spanHas x t) := by
 refine calls_of_WC (N := 19) Tryz.func96 rfl rfl rfl ?_
 have hS := St.start (X := []) hG
 obtain ⟨rfl, hb1, hb2⟩ := SpanE_open hcx
 refine WC.seq <| WC.region rfl ?_
 refine WL.boxG [.int .i64 x.a, .int .i64 x.b] _ hS rfl rfl rfl (fun p1 w1 G1 hle1 hsp1 hc1 hS1 => ?_)
 refine WL.assign rfl <| WL.nil <| WC.seq <| WC.region rfl <| WL.loadGAt hS1 hc1 [.int .i64 x.a, .int .i64 x.b] ti46 rfl rfl rfl rfl rfl ?_
 refine WL.callF [.agg #[.int .i64 x.a, .int .i64 x.b]] #[] hb122 rfl rfl rfl ((c_iValid _ _ hS1.imm x _ (SpanE_mk x hb1 hb2) ).mono ?_)
 rintro e w2 ⟨r1, G2, rfl, hres1, hpost1⟩
 refine ⟨_, rfl, ?_⟩
 have hS2 := hS1.call hres1
 have hle2 := hres1.le
 subst hpost1
 refine WL.split (fun (h1 : (spanV x) = true) => ?_) (fun (h1 : (spanV x) = false) => ?_)
 ·refine WL.move rfl <| WL.fieldAddr _ 0 _ fl46 rfl rfl rfl <| WL.loadG1 hS2 (Cells.drop 0 (hc1.mono hle2)) ti3 rfl rfl rfl <| WL.move rfl ?_
  refine WL.leqS x.a t rfl rfl rfl (fun h2 => ?_) (fun h2 => ?_)
  ·refine WL.pickT rfl rfl <| WL.move rfl <| WL.move rfl <| WL.fieldAddr _ 1 _ fl46 rfl rfl rfl <| WL.loadG1 hS2 (Cells.drop 1 (hc1.mono hle2)) ti3 rfl rfl rfl <| WL.cmp .lss rfl .i64 t x.b rfl rfl rfl <| WL.pickT rfl rfl <| WL.assign rfl <| WL.nil <| WC.ret ?_
   exact ⟨_, rfl, _, _, rfl, hS2.res, (congrArg Value.bool (by unfold spanHas; simp_all [Cmp.b] <;> (first | omega | (intros; omega) | (rw [Bool.eq_iff_iff]; simp <;> omega) | (rw [Bool.eq_iff_iff]; simp_all <;> omega))))⟩
  refine WL.pickT rfl rfl <| WL.move rfl <| WL.no rfl rfl <| WL.no rfl rfl <| WL.no rfl rfl <| WL.no rfl rfl <| WL.pickF rfl rfl <| WL.assign rfl <| WL.nil <| WC.ret ?_
  exact ⟨_, rfl, _, _, rfl, hS2.res, (congrArg Value.bool (by unfold spanHas; simp_all [Cmp.b] <;> (omega)))⟩
 refine WL.move rfl <| WL.no rfl rfl <| WL.no rfl rfl <| WL.no rfl rfl <| WL.no rfl rfl <| WL.pickF rfl rfl <| WL.move rfl <| WL.no rfl rfl <| WL.no rfl rfl <| WL.no rfl rfl <| WL.no rfl rfl <| WL.pickF rfl rfl <| WL.assign rfl <| WL.nil <| WC.ret ?_
 exact ⟨_, rfl, _, _, rfl, hS2.res, (congrArg Value.bool (by unfold spanHas; simp_all [Cmp.b] <;> (first | omega | (intros; omega) | (rw [Bool.eq_iff_iff]; simp <;> omega) | (rw [Bool.eq_iff_iff]; simp_all <;> omega))))⟩

theorem c_vValid (G : GH) (w : World) (hG : G.In w) (x : Val) (cx : List Value) (hcx : ValE.rep G x cx)  : Calls Tryz.prog (nat_lit 119) #[.agg cx.toArray] w fun e w' => ∃ r G', e = .returned r ∧ Res [] w G w' G' ∧ r = .bool (valB x) := by
 refine calls_of_WC (N := 57) Tryz.func119 rfl rfl rfl ?_
 have hS := St.start (X := []) hG
 obtain ⟨rfl, hb1, hb2, hb3⟩ := ValE_open hcx
 refine WC.seq <| WC.region rfl ?_
 refine WL.boxG [.int .i64 x.k, .int .i64 x.n, strV x.s] _ hS rfl rfl rfl (fun p1 w1 G1 hle1 hsp1 hc1 hS1 => ?_)
 refine WL.assign rfl <| WL.nil <| WC.seq <| WC.seq <| WC.region rfl <| WL.fieldAddr _ 0 _ fl34 rfl rfl rfl <| WL.loadG1 hS1 (Cells.drop 0 hc1) ti3 rfl rfl rfl <| WL.nil <| WC.block <| WC.seq <| WC.region rfl ?_
 refine WL.eqlS x.k 1 rfl rfl rfl (fun h1 => ?_) (fun h1 => ?_)
 ·refine WL.assign rfl <| WL.nil <| WC.condT rfl <| WC.seq <| WC.region rfl <| WL.fieldAddr _ 2 _ fl34 rfl rfl rfl <| WL.loadG1 hS1 (Cells.drop 2 hc1) ti9 rfl rfl rfl <| WL.strCmp .eql rfl x.s [] rfl rfl rfl <| WL.assign rfl <| WL.nil <| WC.ret ?_
  exact ⟨_, rfl, _, _, rfl, hS1.res, (congrArg Value.bool (by unfold valB; simp_all [Cmp.b, SCmp.b] <;> (first | omega | (intros; omega) | (rw [Bool.eq_iff_iff]; simp <;> omega) | (rw [Bool.eq_iff_iff]; simp_all <;> omega))))⟩
 refine WL.assign rfl <| WL.nil <| WC.condF rfl <| WC.seq <| WC.region rfl ?_
 refine WL.eqlS x.k 2 rfl rfl rfl (fun h2 => ?_) (fun h2 => ?_)
 ·refine WL.assign rfl <| WL.nil <| WC.condT rfl <| WC.seq <| WC.region rfl <| WL.fieldAddr _ 1 _ fl34 rfl rfl rfl <| WL.loadG1 hS1 (Cells.drop 1 hc1) ti3 rfl rfl rfl ?_
  refine WL.eqlS x.n 0 rfl rfl rfl (fun h3 => ?_) (fun h3 => ?_)
  ·refine WL.move rfl <| WL.fieldAddr _ 2 _ fl34 rfl rfl rfl <| WL.loadG1 hS1 (Cells.drop 2 hc1) ti9 rfl rfl rfl <| WL.lenStr x.s ul9 rfl rfl ?_
   refine WL.leqS (x.s.length : Int) 30 rfl rfl rfl (fun h4 => ?_) (fun h4 => ?_)
   ·refine WL.pickT rfl rfl <| WL.move rfl <| WL.fieldAddr _ 2 _ fl34 rfl rfl rfl <| WL.loadG1 hS1 (Cells.drop 2 hc1) ti9 rfl rfl rfl ?_
    refine WL.callF [strV x.s, .func (.func 160) #[] #[]] #[] hb159 rfl rfl rfl ((c_ContainsS _ _ hS1.imm x.s  ).mono ?_)
    rintro e w2 ⟨r1, G2, rfl, hres1, hpost1⟩
    refine ⟨_, rfl, ?_⟩
    have hS2 := hS1.call hres1
    have hle2 := hres1.le
    subst hpost1
    refine WL.not (!x.s.all okC) rfl rfl <| WL.pickT rfl rfl <| WL.assign rfl <| WL.nil <| WC.ret ?_
    exact ⟨_, rfl, _, _, rfl, hS2.res, (congrArg Value.bool (by unfold valB; simp_all [Cmp.b, SCmp.b] <;> (omega)))⟩
   refine WL.pickT rfl rfl <| WL.move rfl <| WL.no rfl rfl <| WL.no rfl rfl <| WL.no rfl rfl <| WL.no rfl rfl <| WL.pickF rfl rfl <| WL.assign rfl <| WL.nil <| WC.ret ?_
   exact ⟨_, rfl, _, _, rfl, hS1.res, (congrArg Value.bool (by unfold valB; simp_all [Cmp.b, SCmp.b] <;> (omega)))⟩
  refine WL.move rfl <| WL.no rfl rfl <| WL.no rfl rfl <| WL.no rfl rfl <| WL.no rfl rfl <| WL.pickF rfl rfl <| WL.move rfl <| WL.no rfl rfl <| WL.no rfl rfl <| WL.no rfl rfl <| WL.no rfl rfl <| WL.pickF rfl rfl <| WL.assign rfl <| WL.nil <| WC.ret ?_
  exact ⟨_, rfl, _, _, rfl, hS1.res, (congrArg Value.bool (by unfold valB; simp_all [Cmp.b, SCmp.b] <;> (first | omega | (intros; omega) | (rw [Bool.eq_iff_iff]; simp <;> omega) | (rw [Bool.eq_iff_iff]; simp_all <;> omega))))⟩
 refine WL.assign rfl <| WL.nil <| WC.condF rfl <| WC.seq <| WC.region rfl ?_
 refine WL.eqlS x.k 3 rfl rfl rfl (fun h5 => ?_) (fun h5 => ?_)
 ·refine WL.assign rfl <| WL.nil <| WC.condT rfl <| WC.seq <| WC.region rfl <| WL.fieldAddr _ 2 _ fl34 rfl rfl rfl <| WL.loadG1 hS1 (Cells.drop 2 hc1) ti9 rfl rfl rfl <| WL.strCmp .eql rfl x.s [] rfl rfl rfl ?_
  refine WL.split (fun h0 => ?_) (fun h0 => ?_)
  ·have h6 : x.s = [] := by simpa [SCmp.b] using h0
   clear h0
   refine WL.move rfl <| WL.fieldAddr _ 1 _ fl34 rfl rfl rfl <| WL.loadG1 hS1 (Cells.drop 1 hc1) ti3 rfl rfl rfl ?_
   refine WL.eqlS x.n 0 rfl rfl rfl (fun h7 => ?_) (fun h7 => ?_)
   ·refine WL.move rfl <| WL.no rfl rfl <| WL.no rfl rfl <| WL.no rfl rfl <| WL.pickT rfl rfl <| WL.pickT rfl rfl <| WL.assign rfl <| WL.nil <| WC.ret ?_
    exact ⟨_, rfl, _, _, rfl, hS1.res, (congrArg Value.bool (by unfold valB; simp_all [Cmp.b, SCmp.b] <;> (first | omega | (intros; omega) | (rw [Bool.eq_iff_iff]; simp <;> omega) | (rw [Bool.eq_iff_iff]; simp_all <;> omega))))⟩
   refine WL.move rfl <| WL.fieldAddr _ 1 _ fl34 rfl rfl rfl <| WL.loadG1 hS1 (Cells.drop 1 hc1) ti3 rfl rfl rfl <| WL.cmp .eql rfl .i64 x.n 1 rfl rfl rfl <| WL.pickF rfl rfl <| WL.pickT rfl rfl <| WL.assign rfl <| WL.nil <| WC.ret ?_
   exact ⟨_, rfl, _, _, rfl, hS1.res, (congrArg Value.bool (by unfold valB; simp_all [Cmp.b, SCmp.b] <;> ((rw [Bool.eq_iff_iff]; simp <;> omega))))⟩
  have h6 : x.s ≠ [] := by simpa [SCmp.b] using h0
  clear h0
  refine WL.move rfl <| WL.no rfl rfl <| WL.no rfl rfl <| WL.no rfl rfl <| WL.no rfl rfl <| WL.no rfl rfl <| WL.no rfl rfl <| WL.no rfl rfl <| WL.no rfl rfl <| WL.pickF rfl rfl <| WL.assign rfl <| WL.nil <| WC.ret ?_
  exact ⟨_, rfl, _, _, rfl, hS1.res, (congrArg Value.bool (by unfold valB; simp_all [Cmp.b, SCmp.b] <;> (first | omega | (intros; omega) | (rw [Bool.eq_iff_iff]; simp <;> omega) | (rw [Bool.eq_iff_iff]; simp_all <;> omega))))⟩
 refine WL.assign rfl <| WL.nil <| WC.condF rfl <| WC.seq <| WC.region rfl ?_
 refine WL.eqlS x.k 4 rfl rfl rfl (fun h8 => ?_) (fun h8 => ?_)
 ·refine WL.assign rfl <| WL.nil <| WC.condT rfl <| WC.seq <| WC.region rfl <| WL.fieldAddr _ 2 _ fl34 rfl rfl rfl <| WL.loadG1 hS1 (Cells.drop 2 hc1) ti9 rfl rfl rfl <| WL.strCmp .eql rfl x.s [] rfl rfl rfl ?_
  refine WL.split (fun h0 => ?_) (fun h0 => ?_)
  ·have h9 : x.s = [] := by simpa [SCmp.b] using h0
   clear h0
   refine WL.move rfl <| WL.fieldAddr _ 1 _ fl34 rfl rfl rfl <| WL.loadG1 hS1 (Cells.drop 1 hc1) ti3 rfl rfl rfl ?_
   refine WL.geqS x.n (-62135596800) rfl rfl rfl (fun h10 => ?_) (fun h10 => ?_)
   ·refine WL.pickT rfl rfl <| WL.move rfl <| WL.fieldAddr _ 1 _ fl34 rfl rfl rfl <| WL.loadG1 hS1 (Cells.drop 1 hc1) ti3 rfl rfl rfl <| WL.cmp .leq rfl .i64 x.n 253402300800 rfl rfl rfl <| WL.pickT rfl rfl <| WL.assign rfl <| WL.nil <| WC.ret ?_
    exact ⟨_, rfl, _, _, rfl, hS1.res, (congrArg Value.bool (by unfold valB; simp_all [Cmp.b, SCmp.b] <;> (first | omega | (intros; omega) | (rw [Bool.eq_iff_iff]; simp <;> omega) | (rw [Bool.eq_iff_iff]; simp_all <;> omega))))⟩
   refine WL.pickT rfl rfl <| WL.move rfl <| WL.no rfl rfl <| WL.no rfl rfl <| WL.no rfl rfl <| WL.pickF rfl rfl <| WL.assign rfl <| WL.nil <| WC.ret ?_
   exact ⟨_, rfl, _, _, rfl, hS1.res, (congrArg Value.bool (by unfold valB; simp_all [Cmp.b, SCmp.b] <;> (omega)))⟩
  have h9 : x.s ≠ [] := by simpa [SCmp.b] using h0
  clear h0
  refine WL.move rfl <| WL.no rfl rfl <| WL.no rfl rfl <| WL.no rfl rfl <| WL.pickF rfl rfl <| WL.move rfl <| WL.no rfl rfl <| WL.no rfl rfl <| WL.no rfl rfl <| WL.pickF rfl rfl <| WL.assign rfl <| WL.nil <| WC.ret ?_
  exact ⟨_, rfl, _, _, rfl, hS1.res, (congrArg Value.bool (by unfold valB; simp_all [Cmp.b, SCmp.b] <;> (first | omega | (intros; omega) | (rw [Bool.eq_iff_iff]; simp <;> omega) | (rw [Bool.eq_iff_iff]; simp_all <;> omega))))⟩
 refine WL.assign rfl <| WL.nil <| WC.condF rfl <| WC.skip <| WC.seq <| WC.region rfl <| WL.assign rfl <| WL.nil <| WC.ret ?_
 exact ⟨_, rfl, _, _, rfl, hS1.res, (congrArg Value.bool (by unfold valB; simp_all [Cmp.b, SCmp.b] <;> (first | omega | (intros; omega) | (rw [Bool.eq_iff_iff]; simp <;> omega) | (rw [Bool.eq_iff_iff]; simp_all <;> omega))))⟩

theorem c_all1 (G : GH) (w : World) (hG : G.In w) (x : Val) (cx : List Value) (hcx : ValE.rep G x cx)  : Calls Tryz.prog (nat_lit 146) #[.agg cx.toArray] w fun e w' => ∃ r G', e = .returned r ∧ Res [] w G w' G' ∧ r = .bool (!valB x) := by
 refine calls_of_WC (N := 6) Tryz.func146 rfl rfl rfl ?_
 have hS := St.start (X := []) hG
 obtain ⟨rfl, hb1, hb2, hb3⟩ := ValE_open hcx
 refine WC.seq <| WC.region rfl ?_
 refine WL.boxG [.int .i64 x.k, .int .i64 x.n, strV x.s] _ hS rfl rfl rfl (fun p1 w1 G1 hle1 hsp1 hc1 hS1 => ?_)
 refine WL.assign rfl <| WL.nil <| WC.seq <| WC.region rfl <| WL.loadGAt hS1 hc1 [.int .i64 x.k, .int .i64 x.n, strV x.s] ti34 rfl rfl rfl rfl rfl ?_
 refine WL.callF [.agg #[.int .i64 x.k, .int .i64 x.n, strV x.s]] #[] hb119 rfl rfl rfl ((c_vValid _ _ hS1.imm x _ (ValE_mk x hb1 hb2 hb3) ).mono ?_)
 rintro e w2 ⟨r1, G2, rfl, hres1, hpost1⟩
 refine ⟨_, rfl, ?_⟩
 have hS2 := hS1.call hres1
 have hle2 := hres1.le
 subst hpost1
 refine WL.not (valB x) rfl rfl <| WL.assign rfl <| WL.nil <| WC.ret ?_
 exact ⟨_, rfl, _, _, rfl, hS2.res, (congrArg Value.bool (by rfl))⟩

theorem c_all (G : GH) (w : World) (hG : G.In w) (l : List Val) (vl : Value) (hvl : Sl ValE 32 G vl l)  : Calls Tryz.prog (nat_lit 93) #[vl] w fun e w' => ∃ r G', e = .returned r ∧ Res [] w G w' G' ∧ r = .bool (l.all valB) := by
 refine calls_of_WC (N := 6) Tryz.func93 rfl rfl rfl ?_
 have hS := St.start (X := []) hG
 refine WC.seq <| WC.region rfl <| WL.assign rfl <| WL.nil <| WC.seq <| WC.region rfl <| WL.move rfl ?_
 refine WL.callF [vl, .func (.func 146) #[] #[]] #[] hb117 rfl rfl rfl ((c_ContainsV _ _ hS.imm l (fun x8 => !valB x8) _ hvl 146 #[] ⟨hb146, fun G8 w8 v8 x8 hle8 hG8 hon8 hA8 => by obtain ⟨cs_x8, rfl, hr_x8⟩ := hA8; exact c_all1 G8 w8 hG8 x8 cs_x8 hr_x8 ⟩ ).mono ?_)
 rintro e w1 ⟨r1, G1, rfl, hres1, hpost1⟩
 refine ⟨_, rfl, ?_⟩
 have hS1 := hS.call hres1
 have hle1 := hres1.le
 subst hpost1
 refine WL.not (l.any (fun x8 => !valB x8)) rfl rfl ?_
 refine WL.assign rfl <| WL.nil <| WC.ret ?_
 exact ⟨_, rfl, _, _, rfl, hS1.res, (congrArg Value.bool (by exact any_not _ _))⟩

theorem c_Order (G : GH) (w : World) (hG : G.In w) (a b : List Val) (va : Value) (hva : Sl ValE 32 G va a) (vb : Value) (hvb : Sl ValE 32 G vb b)  : Calls Tryz.prog (nat_lit 35) #[va, vb] w fun e w' => ∃ r G', e = .returned r ∧ Res [] w G w' G' ∧ r = .int .i64 (ordV a b) := by
 refine calls_of_WC (N := 16) Tryz.func35 rfl rfl rfl ?_
 have hS := St.start (X := []) hG
 refine WC.seq <| WC.region rfl <| WL.assign rfl <| WL.nil <| WC.seq <| WC.seq <| WC.region rfl <| WL.move rfl ?_
 refine WL.callF [va] #[] hb93 rfl rfl rfl ((c_all _ _ hS.imm a _ hva ).mono ?_)
 rintro e w1 ⟨r1, G1, rfl, hres1, hpost1⟩
 refine ⟨_, rfl, ?_⟩
 have hS1 := hS.call hres1
 have hle1 := hres1.le
 subst hpost1
 refine WL.split (fun (h1 : (a.all valB) = true) => ?_) (fun (h1 : (a.all valB) = false) => ?_)
 ·refine WL.not true rfl rfl <| WL.move rfl <| WL.move rfl ?_
  refine WL.callF [vb] #[] hb93 rfl rfl rfl ((c_all _ _ hS1.imm b _ (hvb.mono hle1) ).mono ?_)
  rintro e w2 ⟨r2, G2, rfl, hres2, hpost2⟩
  refine ⟨_, rfl, ?_⟩
  have hS2 := hS1.call hres2
  have hle2 := hres2.le
  subst hpost2
  refine WL.split (fun (h2 : (b.all valB) = true) => ?_) (fun (h2 : (b.all valB) = false) => ?_)
  ·refine WL.not true rfl rfl <| WL.pickF rfl rfl <| WL.nil <| WC.condF rfl <| WC.skip <| WC.seq <| WC.region rfl <| WL.move rfl <| WL.move rfl ?_
   refine WL.callF [va, vb, .func (.func 95) #[] #[]] #[] hb94 rfl rfl rfl ((c_CompareV _ _ hS2.imm a b (fun x8 y8 => cmpV x8 y8) _ (hva.mono (hle1.trans hle2)) _ (hvb.mono (hle1.trans hle2)) 95 #[] ⟨hb95, fun G8 w8 v8 u8 x8 y8 hle8 hG8 hon8 hA8 hB8 => by obtain ⟨cs_x8, rfl, hr_x8⟩ := hA8; obtain ⟨cs_y8, rfl, hr_y8⟩ := hB8; exact c_order G8 w8 hG8 x8 y8 cs_x8 hr_x8 cs_y8 hr_y8 ⟩ ).mono ?_)
   rintro e w3 ⟨r3, G3, rfl, hres3, hpost3⟩
   refine ⟨_, rfl, ?_⟩
   have hS3 := hS2.call hres3
   have hle3 := hres3.le
   subst hpost3
   refine WL.assign rfl <| WL.nil <| WC.ret ?_
   exact ⟨_, rfl, _, _, rfl, hS3.res, (congrArg (Value.int .i64) (by unfold ordV; generalize a.all valB = p at *; generalize b.all valB = q at *; cases p <;> cases q <;> simp_all))⟩
  refine WL.not false rfl rfl <| WL.pickF rfl rfl <| WL.nil <| WC.condT rfl <| WC.seq <| WC.region rfl <| WL.assign rfl <| WL.nil <| WC.ret ?_
  exact ⟨_, rfl, _, _, rfl, hS2.res, (congrArg (Value.int .i64) (by unfold ordV; generalize a.all valB = p at *; generalize b.all valB = q at *; cases p <;> cases q <;> simp_all))⟩
 refine WL.not false rfl rfl <| WL.move rfl <| WL.no rfl rfl <| WL.no rfl rfl <| WL.no rfl rfl <| WL.pickT rfl rfl <| WL.nil <| WC.condT rfl <| WC.seq <| WC.region rfl <| WL.assign rfl <| WL.nil <| WC.ret ?_
 exact ⟨_, rfl, _, _, rfl, hS1.res, (congrArg (Value.int .i64) (by unfold ordV; generalize a.all valB = p at *; generalize b.all valB = q at *; cases p <;> cases q <;> simp_all))⟩

theorem c_valid11 (G : GH) (w : World) (hG : G.In w) (x : Val) (cx : List Value) (hcx : ValE.rep G x cx)  : Calls Tryz.prog (nat_lit 118) #[.agg cx.toArray] w fun e w' => ∃ r G', e = .returned r ∧ Res [] w G w' G' ∧ r = .bool (!valB x) := by
 refine calls_of_WC (N := 6) Tryz.func118 rfl rfl rfl ?_
 have hS := St.start (X := []) hG
 obtain ⟨rfl, hb1, hb2, hb3⟩ := ValE_open hcx
 refine WC.seq <| WC.region rfl ?_
 refine WL.boxG [.int .i64 x.k, .int .i64 x.n, strV x.s] _ hS rfl rfl rfl (fun p1 w1 G1 hle1 hsp1 hc1 hS1 => ?_)
 refine WL.assign rfl <| WL.nil <| WC.seq <| WC.region rfl <| WL.loadGAt hS1 hc1 [.int .i64 x.k, .int .i64 x.n, strV x.s] ti34 rfl rfl rfl rfl rfl ?_
 refine WL.callF [.agg #[.int .i64 x.k, .int .i64 x.n, strV x.s]] #[] hb119 rfl rfl rfl ((c_vValid _ _ hS1.imm x _ (ValE_mk x hb1 hb2 hb3) ).mono ?_)
 rintro e w2 ⟨r1, G2, rfl, hres1, hpost1⟩
 refine ⟨_, rfl, ?_⟩
 have hS2 := hS1.call hres1
 have hle2 := hres1.le
 subst hpost1
 refine WL.not (valB x) rfl rfl <| WL.assign rfl <| WL.nil <| WC.ret ?_
 exact ⟨_, rfl, _, _, rfl, hS2.res, (congrArg Value.bool (by rfl))⟩
end Go.Civ
