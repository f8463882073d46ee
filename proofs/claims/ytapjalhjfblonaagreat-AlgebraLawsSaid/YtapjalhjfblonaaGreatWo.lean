/- Walks, printed by specs38.py. -/
import Derived.Test.YtapjalhjfblonaaGreatProg
import Derived.KernelRfl
import Derived.WalkKit
import Derived.Test.YtapjalhjfblonaaGreatWt
import Derived.Test.YtapjalhjfblonaaGreatCiv27
import Derived.Test.YtapjalhjfblonaaGreatSg
set_option linter.unusedVariables false
set_option linter.unusedSimpArgs false
set_option maxRecDepth 100000
set_option maxHeartbeats 4000000
namespace Go.Civ
open Go.Proofs


theorem c_ConcatV (G : GH) (w : World) (hG : G.In w) (l : List (List Val)) (vl : Value) (hvl : Sl (ValE.slice 32) 24 G vl l) (hl : l.flatten.length ≤ 1000000) : Calls Tryz.prog (nat_lit 60) #[vl] w fun e w' => ∃ r G', e = .returned r ∧ Res [] w G w' G' ∧ Sl ValE 32 G' r l.flatten := by
  refine calls_of_WC (N := 36) Tryz.func60 rfl rfl rfl ?_
  have hS := St.start (X := []) hG
  refine WC.seq <| WC.region rfl <| WL.assign rfl <| WL.nil <| WC.seq <| WC.region rfl <| WL.assign rfl <| WL.nil <| WC.seq <| WC.seq <| WC.region rfl <| WL.move rfl ?_
  have bd1 := hvl.bound
  refine WL.lenSl hvl ul67 rfl rfl ?_
  refine WL.move rfl <| WL.nil <| WC.block ?_
  refine WC.loop (γ := Nat) (fun m ρ1 w1 => ∃ (k1 : Nat), ∃ (sz : Nat), ∃ (G1 : GH), m = l.length - k1 ∧ G.le G1 ∧ St w [] G G1 [] w1 ∧ ρ1 0 = vl ∧ ρ1 3 = .int .i64 (sz : Int) ∧ ρ1 9 = vl ∧ ρ1 10 = .int .i64 (l.length : Int) ∧ ρ1 11 = .int .i64 (k1 : Int) ∧ k1 ≤ l.length ∧ sz = (l.take k1).flatten.length) (fun m => m) _ ⟨0, 0, G, rfl, (G.le_refl), hS, rfl, rfl, rfl, rfl, rfl, (by omega), (by simp)⟩ ?_
  rintro m ρ1 w1 ⟨k1, sz, G1, rfl, hle1, hS1, e1, e2, e3, e4, e5, f1, f2⟩
  refine WC.set (d := 0) e1 ?_
  refine WC.set (d := 3) e2 ?_
  refine WC.set (d := 9) e3 ?_
  refine WC.set (d := 10) e4 ?_
  refine WC.set (d := 11) e5 ?_
  have hf9 := flat_le l k1
  refine WC.seq <| WC.region rfl ?_
  refine WL.lssS (k1 : Int) (l.length : Int) rfl rfl rfl (fun h1 => ?_) (fun h1 => ?_)
  · refine WL.nil <| WC.seq <| WC.condT rfl <| WC.skip <| WC.seq <| WC.block <| WC.seq <| WC.region rfl ?_
    refine WL.indexAddr (hvl.mono hle1) k1 (by omega) ul67 ti61 rfl rfl rfl rfl (fun p1 x1 hx1 he1 => ?_)
    obtain ⟨cs1, hc1, hr1⟩ := he1
    obtain ⟨v1, rfl, hs1⟩ := hr1
    refine WL.loadG1 hS1 hc1 ti61 rfl rfl rfl ?_
    refine WL.assign rfl <| WL.nil <| WC.seq <| WC.region rfl <| WL.move rfl <| WL.move rfl ?_
    have bd2 := hs1.bound
    refine WL.lenSl hs1 ul61 rfl rfl ?_
    refine WL.addN sz x1.length (by have hreach : reach = 140737488355328 := rfl; omega) rfl rfl rfl ?_
    refine WL.assign rfl <| WL.nil <| WC.seq <| WC.region rfl <| WL.move rfl ?_
    refine WL.lssS ((sz + x1.length : Nat) : Int) 0 rfl rfl rfl (fun h2 => ?_) (fun h2 => ?_)
    · exact absurd h2 (by omega)
    refine WL.nil <| WC.condF rfl <| WC.skip <| WC.region rfl ?_
    refine WL.incr k1 (by have hreach : reach = 140737488355328 := rfl; omega) rfl rfl rfl ?_
    refine WL.move rfl <| WL.nil ?_
    exact ⟨_, ⟨k1 + 1, sz + x1.length, G1, rfl, hle1, hS1, rfl, rfl, rfl, rfl, rfl, (by omega), (by rw [flat_take (by assumption), List.length_append]; omega)⟩, (show l.length - (k1 + 1) < l.length - k1 by omega)⟩
  refine WL.nil <| WC.seq <| WC.condF rfl <| WC.exit <| WC.seq <| WC.region rfl <| WL.move rfl ?_
  refine WL.callF [.slice none 0 0, .int .i64 (sz : Int)] #[] hb123 rfl rfl rfl ((c_GrowV _ _ hS1.imm sz  (by omega)).mono ?_)
  rintro e w2 ⟨r1, G2, rfl, hres1, hpost1⟩
  refine ⟨_, rfl, ?_⟩
  have hS2 := hS1.call hres1
  have hle2 := hres1.le
  obtain ⟨o1, hr2, hf1⟩ := hpost1
  have hS3 := hS1.adoptO hres1 hf1
  refine WL.assign rfl <| WL.nil <| WC.seq <| WC.seq <| WC.region rfl <| WL.move rfl ?_
  have bd3 := hvl.bound
  refine WL.lenSl (hvl.mono (hle1.trans hle2)) ul67 rfl rfl ?_
  refine WL.move rfl <| WL.nil <| WC.block ?_
  refine WC.loop (γ := Nat) (fun m ρ1 w1 => ∃ (k2 : Nat), ∃ (v2 : Value) (o2 : OB), ∃ (G3 : GH), m = l.length - k2 ∧ G2.le G3 ∧ St w [] G G3 [o2] w1 ∧ Row ValE 32 34 G3 v2 ((l.take k2).flatten) o2 ∧ ρ1 6 = v2 ∧ ρ1 25 = vl ∧ ρ1 26 = .int .i64 (l.length : Int) ∧ ρ1 27 = .int .i64 (k2 : Int) ∧ k2 ≤ l.length) (fun m => m) _ ⟨0, r1, o1, G2, rfl, (G2.le_refl), hS3, (Row.cast hr2 (by simp)), rfl, rfl, rfl, rfl, (by omega)⟩ ?_
  rintro m ρ1 w3 ⟨k2, v2, o2, G3, rfl, hle3, hS4, hr3, e6, e7, e8, e9, f3⟩
  refine WC.set (d := 6) e6 ?_
  refine WC.set (d := 25) e7 ?_
  refine WC.set (d := 26) e8 ?_
  refine WC.set (d := 27) e9 ?_
  have hf8 := flat_le l k2
  refine WC.seq <| WC.region rfl ?_
  refine WL.lssS (k2 : Int) (l.length : Int) rfl rfl rfl (fun h3 => ?_) (fun h3 => ?_)
  · refine WL.nil <| WC.seq <| WC.condT rfl <| WC.skip <| WC.seq <| WC.block <| WC.seq <| WC.region rfl ?_
    refine WL.indexAddr (hvl.mono ((hle1.trans hle2).trans hle3)) k2 (by omega) ul67 ti61 rfl rfl rfl rfl (fun p2 x2 hx2 he2 => ?_)
    obtain ⟨cs2, hc2, hr4⟩ := he2
    obtain ⟨v3, rfl, hs2⟩ := hr4
    refine WL.loadG1 hS4 hc2 ti61 rfl rfl rfl ?_
    refine WL.assign rfl <| WL.nil <| WC.region rfl <| WL.move rfl <| WL.move rfl ?_
    refine WL.pushSl sl61 rfl rfl rfl hr3 hS4 0 rfl hs2 (by have hf7 := flat_le l (k2 + 1); rw [flat_take (by assumption), List.length_append] at hf7; have hreach : reach = 140737488355328 := rfl; (dsimp only; omega)) (by have hf7 := flat_le l (k2 + 1); rw [flat_take (by assumption), List.length_append] at hf7; have hreach : reach = 140737488355328 := rfl; omega) rfl rfl rfl (fun v4 o3 w4 hr5 hS5 => ?_)
    refine WL.assign rfl <| WL.nil <| WC.region rfl ?_
    refine WL.incr k2 (by have hreach : reach = 140737488355328 := rfl; omega) rfl rfl rfl ?_
    refine WL.move rfl <| WL.nil ?_
    exact ⟨_, ⟨k2 + 1, v4, o3, G3, rfl, hle3, hS5, (Row.cast hr5 (by exact (flat_take (by assumption)).symm)), rfl, rfl, rfl, rfl, (by omega)⟩, (show l.length - (k2 + 1) < l.length - k2 by omega)⟩
  refine WL.nil <| WC.seq <| WC.condF rfl <| WC.exit <| WC.seq <| WC.region rfl <| WL.move rfl <| WL.assign rfl <| WL.nil ?_
  refine WC.ret ?_
  obtain ⟨G4, hle4, hs3, hS6⟩ := Row.freeze hr3 hS4 0 rfl
  exact ⟨v2, rfl, v2, _, rfl, hS6.res, (Sl.cast hs3 (by exact flat_all (by omega)))⟩

theorem c_ConcatF (G : GH) (w : World) (hG : G.In w) (l : List (List Fact)) (vl : Value) (hvl : Sl (FactE.slice 40) 24 G vl l) (hl : l.flatten.length ≤ 1000000) : Calls Tryz.prog (nat_lit 74) #[vl] w fun e w' => ∃ r G', e = .returned r ∧ Res [] w G w' G' ∧ Sl FactE 40 G' r l.flatten := by
  refine calls_of_WC (N := 36) Tryz.func74 rfl rfl rfl ?_
  have hS := St.start (X := []) hG
  refine WC.seq <| WC.region rfl <| WL.assign rfl <| WL.nil <| WC.seq <| WC.region rfl <| WL.assign rfl <| WL.nil <| WC.seq <| WC.seq <| WC.region rfl <| WL.move rfl ?_
  have bd1 := hvl.bound
  refine WL.lenSl hvl ul89 rfl rfl ?_
  refine WL.move rfl <| WL.nil <| WC.block ?_
  refine WC.loop (γ := Nat) (fun m ρ1 w1 => ∃ (k1 : Nat), ∃ (sz : Nat), ∃ (G1 : GH), m = l.length - k1 ∧ G.le G1 ∧ St w [] G G1 [] w1 ∧ ρ1 0 = vl ∧ ρ1 3 = .int .i64 (sz : Int) ∧ ρ1 9 = vl ∧ ρ1 10 = .int .i64 (l.length : Int) ∧ ρ1 11 = .int .i64 (k1 : Int) ∧ k1 ≤ l.length ∧ sz = (l.take k1).flatten.length) (fun m => m) _ ⟨0, 0, G, rfl, (G.le_refl), hS, rfl, rfl, rfl, rfl, rfl, (by omega), (by simp)⟩ ?_
  rintro m ρ1 w1 ⟨k1, sz, G1, rfl, hle1, hS1, e1, e2, e3, e4, e5, f1, f2⟩
  refine WC.set (d := 0) e1 ?_
  refine WC.set (d := 3) e2 ?_
  refine WC.set (d := 9) e3 ?_
  refine WC.set (d := 10) e4 ?_
  refine WC.set (d := 11) e5 ?_
  have hf9 := flat_le l k1
  refine WC.seq <| WC.region rfl ?_
  refine WL.lssS (k1 : Int) (l.length : Int) rfl rfl rfl (fun h1 => ?_) (fun h1 => ?_)
  · refine WL.nil <| WC.seq <| WC.condT rfl <| WC.skip <| WC.seq <| WC.block <| WC.seq <| WC.region rfl ?_
    refine WL.indexAddr (hvl.mono hle1) k1 (by omega) ul89 ti22 rfl rfl rfl rfl (fun p1 x1 hx1 he1 => ?_)
    obtain ⟨cs1, hc1, hr1⟩ := he1
    obtain ⟨v1, rfl, hs1⟩ := hr1
    refine WL.loadG1 hS1 hc1 ti22 rfl rfl rfl ?_
    refine WL.assign rfl <| WL.nil <| WC.seq <| WC.region rfl <| WL.move rfl <| WL.move rfl ?_
    have bd2 := hs1.bound
    refine WL.lenSl hs1 ul22 rfl rfl ?_
    refine WL.addN sz x1.length (by have hreach : reach = 140737488355328 := rfl; omega) rfl rfl rfl ?_
    refine WL.assign rfl <| WL.nil <| WC.seq <| WC.region rfl <| WL.move rfl ?_
    refine WL.lssS ((sz + x1.length : Nat) : Int) 0 rfl rfl rfl (fun h2 => ?_) (fun h2 => ?_)
    · exact absurd h2 (by omega)
    refine WL.nil <| WC.condF rfl <| WC.skip <| WC.region rfl ?_
    refine WL.incr k1 (by have hreach : reach = 140737488355328 := rfl; omega) rfl rfl rfl ?_
    refine WL.move rfl <| WL.nil ?_
    exact ⟨_, ⟨k1 + 1, sz + x1.length, G1, rfl, hle1, hS1, rfl, rfl, rfl, rfl, rfl, (by omega), (by rw [flat_take (by assumption), List.length_append]; omega)⟩, (show l.length - (k1 + 1) < l.length - k1 by omega)⟩
  refine WL.nil <| WC.seq <| WC.condF rfl <| WC.exit <| WC.seq <| WC.region rfl <| WL.move rfl ?_
  refine WL.callF [.slice none 0 0, .int .i64 (sz : Int)] #[] hb132 rfl rfl rfl ((c_GrowF _ _ hS1.imm sz  (by omega)).mono ?_)
  rintro e w2 ⟨r1, G2, rfl, hres1, hpost1⟩
  refine ⟨_, rfl, ?_⟩
  have hS2 := hS1.call hres1
  have hle2 := hres1.le
  obtain ⟨o1, hr2, hf1⟩ := hpost1
  have hS3 := hS1.adoptO hres1 hf1
  refine WL.assign rfl <| WL.nil <| WC.seq <| WC.seq <| WC.region rfl <| WL.move rfl ?_
  have bd3 := hvl.bound
  refine WL.lenSl (hvl.mono (hle1.trans hle2)) ul89 rfl rfl ?_
  refine WL.move rfl <| WL.nil <| WC.block ?_
  refine WC.loop (γ := Nat) (fun m ρ1 w1 => ∃ (k2 : Nat), ∃ (v2 : Value) (o2 : OB), ∃ (G3 : GH), m = l.length - k2 ∧ G2.le G3 ∧ St w [] G G3 [o2] w1 ∧ Row FactE 40 63 G3 v2 ((l.take k2).flatten) o2 ∧ ρ1 6 = v2 ∧ ρ1 25 = vl ∧ ρ1 26 = .int .i64 (l.length : Int) ∧ ρ1 27 = .int .i64 (k2 : Int) ∧ k2 ≤ l.length) (fun m => m) _ ⟨0, r1, o1, G2, rfl, (G2.le_refl), hS3, (Row.cast hr2 (by simp)), rfl, rfl, rfl, rfl, (by omega)⟩ ?_
  rintro m ρ1 w3 ⟨k2, v2, o2, G3, rfl, hle3, hS4, hr3, e6, e7, e8, e9, f3⟩
  refine WC.set (d := 6) e6 ?_
  refine WC.set (d := 25) e7 ?_
  refine WC.set (d := 26) e8 ?_
  refine WC.set (d := 27) e9 ?_
  have hf8 := flat_le l k2
  refine WC.seq <| WC.region rfl ?_
  refine WL.lssS (k2 : Int) (l.length : Int) rfl rfl rfl (fun h3 => ?_) (fun h3 => ?_)
  · refine WL.nil <| WC.seq <| WC.condT rfl <| WC.skip <| WC.seq <| WC.block <| WC.seq <| WC.region rfl ?_
    refine WL.indexAddr (hvl.mono ((hle1.trans hle2).trans hle3)) k2 (by omega) ul89 ti22 rfl rfl rfl rfl (fun p2 x2 hx2 he2 => ?_)
    obtain ⟨cs2, hc2, hr4⟩ := he2
    obtain ⟨v3, rfl, hs2⟩ := hr4
    refine WL.loadG1 hS4 hc2 ti22 rfl rfl rfl ?_
    refine WL.assign rfl <| WL.nil <| WC.region rfl <| WL.move rfl <| WL.move rfl ?_
    refine WL.pushSl sl22 rfl rfl rfl hr3 hS4 0 rfl hs2 (by have hf7 := flat_le l (k2 + 1); rw [flat_take (by assumption), List.length_append] at hf7; have hreach : reach = 140737488355328 := rfl; (dsimp only; omega)) (by have hf7 := flat_le l (k2 + 1); rw [flat_take (by assumption), List.length_append] at hf7; have hreach : reach = 140737488355328 := rfl; omega) rfl rfl rfl (fun v4 o3 w4 hr5 hS5 => ?_)
    refine WL.assign rfl <| WL.nil <| WC.region rfl ?_
    refine WL.incr k2 (by have hreach : reach = 140737488355328 := rfl; omega) rfl rfl rfl ?_
    refine WL.move rfl <| WL.nil ?_
    exact ⟨_, ⟨k2 + 1, v4, o3, G3, rfl, hle3, hS5, (Row.cast hr5 (by exact (flat_take (by assumption)).symm)), rfl, rfl, rfl, rfl, (by omega)⟩, (show l.length - (k2 + 1) < l.length - k2 by omega)⟩
  refine WL.nil <| WC.seq <| WC.condF rfl <| WC.exit <| WC.seq <| WC.region rfl <| WL.move rfl <| WL.assign rfl <| WL.nil ?_
  refine WC.ret ?_
  obtain ⟨G4, hle4, hs3, hS6⟩ := Row.freeze hr3 hS4 0 rfl
  exact ⟨v2, rfl, v2, _, rfl, hS6.res, (Sl.cast hs3 (by exact flat_all (by omega)))⟩

theorem c_r10Line (G : GH) (w : World) (hG : G.In w) (x : Int)  : Calls Tryz.prog (nat_lit 163) #[.int .i64 x] w fun e w' => ∃ r G', e = .returned r ∧ Res [] w G w' G' ∧ r = .bool (lineB x) := by
  refine calls_of_WC (N := 9) Tryz.func163 rfl rfl rfl ?_
  have hS := St.start (X := []) hG
  refine WC.seq <| WC.region rfl <| WL.assign rfl <| WL.nil <| WC.seq <| WC.region rfl <| WL.move rfl ?_
  refine WL.geqS x (-4398046511104) rfl rfl rfl (fun h1 => ?_) (fun h1 => ?_)
  · refine WL.move rfl <| WL.move rfl ?_
    refine WL.cmp .leq rfl .i64 x 4398046511104 rfl rfl rfl ?_
    refine WL.pickT rfl rfl <| WL.assign rfl <| WL.nil ?_
    refine WC.ret ?_
    exact ⟨.bool (Cmp.b .leq x 4398046511104), rfl, .bool (Cmp.b .leq x 4398046511104), _, rfl, hS.res, (congrArg Value.bool (by unfold lineB; simp [Cmp.b] <;> omega))⟩
  refine WL.move rfl <| WL.no rfl rfl <| WL.no rfl rfl <| WL.pickF rfl rfl <| WL.assign rfl <| WL.nil ?_
  refine WC.ret ?_
  exact ⟨.bool false, rfl, .bool false, _, rfl, hS.res, (congrArg Value.bool (by unfold lineB; simp [Cmp.b] <;> omega))⟩

theorem c_r10Valid (G : GH) (w : World) (hG : G.In w) (x : Span) (cx : List Value) (hcx : SpanE.rep G x cx)  : Calls Tryz.prog (nat_lit 124) #[.agg cx.toArray] w fun e w' => ∃ r G', e = .returned r ∧ Res [] w G w' G' ∧ r = .bool (spanV x) := by
  refine calls_of_WC (N := 18) Tryz.func124 rfl rfl rfl ?_
  have hS := St.start (X := []) hG
  obtain ⟨rfl, hb1, hb2⟩ := SpanE_open hcx
  refine WC.seq <| WC.region rfl ?_
  refine WL.boxG [.int .i64 x.a, .int .i64 x.b] _ hS rfl rfl rfl (fun p1 w1 G1 hle1 hsp1 hc1 hS1 => ?_)
  refine WL.assign rfl <| WL.nil <| WC.seq <| WC.region rfl ?_
  refine WL.fieldAddr _ 0 _ fl46 rfl rfl rfl ?_
  refine WL.loadG1 hS1 (Cells.drop 0 hc1) ti3 rfl rfl rfl ?_
  refine WL.callF [.int .i64 x.a] #[] hb163 rfl rfl rfl ((c_r10Line _ _ hS1.imm x.a  ).mono ?_)
  rintro e w2 ⟨r1, G2, rfl, hres1, hpost1⟩
  refine ⟨_, rfl, ?_⟩
  have hS2 := hS1.call hres1
  have hle2 := hres1.le
  subst hpost1
  refine WL.split (fun (h1 : (lineB x.a) = true) => ?_) (fun (h1 : (lineB x.a) = false) => ?_)
  · refine WL.move rfl ?_
    refine WL.fieldAddr _ 1 _ fl46 rfl rfl rfl ?_
    refine WL.loadG1 hS2 (Cells.drop 1 (hc1.mono hle2)) ti3 rfl rfl rfl ?_
    refine WL.callF [.int .i64 x.b] #[] hb163 rfl rfl rfl ((c_r10Line _ _ hS2.imm x.b  ).mono ?_)
    rintro e w3 ⟨r2, G3, rfl, hres2, hpost2⟩
    refine ⟨_, rfl, ?_⟩
    have hS3 := hS2.call hres2
    have hle3 := hres2.le
    subst hpost2
    refine WL.split (fun (h2 : (lineB x.b) = true) => ?_) (fun (h2 : (lineB x.b) = false) => ?_)
    · refine WL.pickT rfl rfl <| WL.move rfl ?_
      refine WL.fieldAddr _ 0 _ fl46 rfl rfl rfl ?_
      refine WL.loadG1 hS3 (Cells.drop 0 (hc1.mono (hle2.trans hle3))) ti3 rfl rfl rfl ?_
      refine WL.fieldAddr _ 1 _ fl46 rfl rfl rfl ?_
      refine WL.loadG1 hS3 (Cells.drop 1 (hc1.mono (hle2.trans hle3))) ti3 rfl rfl rfl ?_
      refine WL.cmp .lss rfl .i64 x.a x.b rfl rfl rfl ?_
      refine WL.pickT rfl rfl <| WL.assign rfl <| WL.nil ?_
      refine WC.ret ?_
      exact ⟨.bool (Cmp.b .lss x.a x.b), rfl, .bool (Cmp.b .lss x.a x.b), _, rfl, hS3.res, (congrArg Value.bool (by unfold spanV; simp_all [Cmp.b] <;> (first | omega | (intros; omega) | (rw [Bool.eq_iff_iff]; simp <;> omega) | (rw [Bool.eq_iff_iff]; simp_all <;> omega))))⟩
    refine WL.pickT rfl rfl <| WL.move rfl <| WL.no rfl rfl <| WL.no rfl rfl <| WL.no rfl rfl <| WL.no rfl rfl <| WL.no rfl rfl <| WL.pickF rfl rfl <| WL.assign rfl <| WL.nil ?_
    refine WC.ret ?_
    exact ⟨.bool false, rfl, .bool false, _, rfl, hS3.res, (congrArg Value.bool (by unfold spanV; simp_all [Cmp.b] <;> (first | omega | (intros; omega) | (rw [Bool.eq_iff_iff]; simp <;> omega) | (rw [Bool.eq_iff_iff]; simp_all <;> omega))))⟩
  refine WL.move rfl <| WL.no rfl rfl <| WL.no rfl rfl <| WL.no rfl rfl <| WL.pickF rfl rfl <| WL.move rfl <| WL.no rfl rfl <| WL.no rfl rfl <| WL.no rfl rfl <| WL.no rfl rfl <| WL.no rfl rfl <| WL.pickF rfl rfl <| WL.assign rfl <| WL.nil ?_
  refine WC.ret ?_
  exact ⟨.bool false, rfl, .bool false, _, rfl, hS2.res, (congrArg Value.bool (by unfold spanV; simp_all [Cmp.b] <;> (first | omega | (intros; omega) | (rw [Bool.eq_iff_iff]; simp <;> omega) | (rw [Bool.eq_iff_iff]; simp_all <;> omega))))⟩
end Go.Civ
