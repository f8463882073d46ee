/- Walks, printed by specs38.py. -/
import Derived.Test.YtapjalhjfblonaaGreatProg
import Derived.KernelRfl
import Derived.WalkKit
import Derived.Test.YtapjalhjfblonaaGreatMWt
set_option linter.unusedVariables false
set_option linter.unusedSimpArgs false
set_option maxRecDepth 100000
set_option maxHeartbeats 4000000
namespace Go.Civ
open Go.Proofs


theorem c_isNaN {G : GH} {w : World} (hG : G.In w) (a : Int)  : CL Tryz.prog (nat_lit 153) #[.int .i64 a] [] w G fun _ _ r => r = .bool false := by
  refine calls_of_go ft [] Tryz.func153 rfl rfl ?_
  have hS := St.start (X := []) hG
  refine WL.cmp .neq rfl .i64 a a rfl rfl rfl ?_
  exact RB hS rfl (by simp [Cmp.b])

theorem c_Compare {G : GH} {w : World} (hG : G.In w) (a b : Int)  : CL Tryz.prog (nat_lit 148) #[.int .i64 a, .int .i64 b] [] w G fun _ _ r => r = .int .i64 (sgn a b) := by
  refine calls_of_go ft [] Tryz.func148 rfl rfl ?_
  have hS := St.start (X := []) hG
  refine WL.cV hS hb153 rfl rfl rfl (c_isNaN hS.imm a  ) (fun w1 G1 hS1 hle1 => ?_)
  refine WL.cV hS1 hb153 rfl rfl rfl (c_isNaN hS1.imm b  ) (fun w2 G2 hS2 hle2 => ?_)
  refine WL.lssS a b rfl rfl rfl (fun h1 => ?_) (fun h1 => ?_)
  · exact RI hS2 rfl (by unfold sgn; split <;> (try split) <;> rfl)
  refine WL.gtrS a b rfl rfl rfl (fun h2 => ?_) (fun h2 => ?_)
  · exact RI hS2 rfl (by unfold sgn; split <;> (try split) <;> omega)
  exact RI hS2 rfl (by unfold sgn; split <;> (try split) <;> omega)

theorem c_isNaNs {G : GH} {w : World} (hG : G.In w) (a : List UInt8)  : CL Tryz.prog (nat_lit 175) #[strV a] [] w G fun _ _ r => r = .bool false := by
  refine calls_of_go ft [] Tryz.func175 rfl rfl ?_
  have hS := St.start (X := []) hG
  refine WL.strCmp .neq rfl a a rfl rfl rfl ?_
  exact RB hS rfl (by simp [SCmp.b])

theorem c_CompareS {G : GH} {w : World} (hG : G.In w) (a b : List UInt8)  : CL Tryz.prog (nat_lit 149) #[strV a, strV b] [] w G fun _ _ r => r = .int .i64 (cmpS a b) := by
  refine calls_of_go ft [] Tryz.func149 rfl rfl ?_
  have hS := St.start (X := []) hG
  refine WL.cV hS hb175 rfl rfl rfl (c_isNaNs hS.imm a  ) (fun w1 G1 hS1 hle1 => ?_)
  refine WL.cV hS1 hb175 rfl rfl rfl (c_isNaNs hS1.imm b  ) (fun w2 G2 hS2 hle2 => ?_)
  refine WL.strCmp .lss rfl a b rfl rfl rfl ?_
  refine WL.split (fun (h1 : (SCmp.b .lss a b) = true) => ?_) (fun (h1 : (SCmp.b .lss a b) = false) => ?_)
  · exact RI hS2 rfl (by unfold cmpS; simp_all [SCmp.b])
  refine WL.strCmp .gtr rfl a b rfl rfl rfl ?_
  refine WL.split (fun (h2 : (SCmp.b .gtr a b) = true) => ?_) (fun (h2 : (SCmp.b .gtr a b) = false) => ?_)
  · exact RI hS2 rfl (by unfold cmpS; simp_all [SCmp.b])
  exact RI hS2 rfl (by unfold cmpS; simp_all [SCmp.b])

theorem c_Or {G : GH} {w : World} (hG : G.In w) (l : List Int) (vl : Value) (hvl : Sl Enc.int 8 G vl l)  : CL Tryz.prog (nat_lit 147) #[vl] [] w G fun _ _ r => r = .int .i64 (cmpOr l) := by
  refine calls_of_go ft [] Tryz.func147 rfl rfl ?_
  have hS := St.start (X := []) hG
  have bd1 := hvl.bound
  refine WL.lenSl hvl ul38 rfl rfl ?_
  refine LP.go ft [] (fun m ρ1 w1 => ∃ (k1 : Nat), ∃ (G1 : GH), m = l.length - k1 ∧ G.le G1 ∧ St w [] G G1 [] w1 ∧ FR ρ1 [(3, .int .i64 0), (6, vl), (7, .int .i64 (l.length : Int)), (8, .int .i64 (k1 : Int))] ∧ k1 ≤ l.length ∧ ∀ j, j < k1 → ∀ x, l[j]? = some x → x = 0) _ ⟨0, G, rfl, (G.le_refl), hS, ⟨rfl, rfl, rfl, rfl, trivial⟩, (by omega), (by intro j hj; omega)⟩ ?_
  rintro m ρ1 w1 ⟨k1, G1, rfl, hle1, hS1, hF9, f1, f2⟩
  refine hF9.set ?_
  clear hF9
  refine WL.lssS (k1 : Int) (l.length : Int) rfl rfl rfl (fun h1 => ?_) (fun h1 => ?_)
  · refine WL.indexAddr (hvl.mono hle1) k1 (by omega) ul38 ti3 rfl rfl rfl rfl (fun p1 x1 hx1 he1 => ?_)
    obtain ⟨cs1, hc1, hr1⟩ := he1
    obtain ⟨rfl, hb1⟩ := hr1
    refine WL.loadG1 hS1 hc1 ti3 rfl rfl rfl ?_
    refine WL.neqS x1 0 rfl rfl rfl (fun h2 => ?_) (fun h2 => ?_)
    · exact RI hS1 rfl (by exact (cmpOr_at (by assumption) (by assumption) (by assumption)).symm)
    refine WL.incr k1 (by have hreach : reach = 140737488355328 := rfl; omega) rfl rfl rfl ?_
    exact BK.mk' _ ⟨k1 + 1, G1, rfl, hle1, hS1, ⟨rfl, rfl, rfl, rfl, trivial⟩, (by omega), (by exact lt_step (by assumption) (by assumption) (by assumption))⟩ (show l.length - (k1 + 1) < l.length - k1 by omega)
  exact RI hS1 rfl (by exact (cmpOr_none (by assumption) (by omega)).symm)

theorem c_order {G : GH} {w : World} (hG : G.In w) (x y : Val) (cx : List Value) (hcx : ValE.rep G x cx) (cy : List Value) (hcy : ValE.rep G y cy)  : CL Tryz.prog (nat_lit 95) #[.agg cx.toArray, .agg cy.toArray] [] w G fun _ _ r => r = .int .i64 (cmpV x y) := by
  refine calls_of_go ft [] Tryz.func95 rfl rfl ?_
  have hS := St.start (X := []) hG
  obtain ⟨rfl, hb1, hb2, hb3⟩ := ValE_open hcx
  obtain ⟨rfl, hb4, hb5, hb6⟩ := ValE_open hcy
  refine WL.boxG [.int .i64 x.k, .int .i64 x.n, strV x.s] _ hS rfl rfl rfl (fun p1 w1 G1 hle1 hsp1 hc1 hS1 => ?_)
  refine WL.boxG [.int .i64 y.k, .int .i64 y.n, strV y.s] _ hS1 rfl rfl rfl (fun p2 w2 G2 hle2 hsp2 hc2 hS2 => ?_)
  refine dr [(15, false), (16, false), (17, false)] [(6, .int .i64 x.k), (8, .int .i64 y.k), (9, .int .i64 (sgn x.k y.k)), (11, .int .i64 x.n), (13, .int .i64 y.n), (14, .int .i64 (sgn x.n y.n)), (16, strV x.s), (18, strV y.s), (19, .int .i64 (cmpS x.s y.s))] hS2 ⟨fun _ hSw => WL.loadG1 hSw (Cells.drop 0 (hc1.mono hle2)) ti3 rfl rfl rfl <| nu rfl rfl, fun _ hSw => WL.loadG1 hSw (Cells.drop 0 hc2) ti3 rfl rfl rfl <| nu rfl rfl, fun _ hSw => WL.callD hSw hb148 rfl rfl rfl (c_Compare hSw.imm x.k y.k  ) rfl, fun _ hSw => WL.loadG1 hSw (Cells.drop 1 (hc1.mono hle2)) ti3 rfl rfl rfl <| nu rfl rfl, fun _ hSw => WL.loadG1 hSw (Cells.drop 1 hc2) ti3 rfl rfl rfl <| nu rfl rfl, fun _ hSw => WL.callD hSw hb148 rfl rfl rfl (c_Compare hSw.imm x.n y.n  ) rfl, fun _ hSw => WL.loadG1 hSw (Cells.drop 2 (hc1.mono hle2)) ti9 rfl rfl rfl <| nu rfl rfl, fun _ hSw => WL.loadG1 hSw (Cells.drop 2 hc2) ti9 rfl rfl rfl <| nu rfl rfl, fun _ hSw => WL.callD hSw hb149 rfl rfl rfl (c_CompareS hSw.imm x.s y.s  ) rfl, trivial⟩ (fun w3 hS3 => ?_)
  refine WL.buildSlice _ [(0, [.int .i64 (sgn x.k y.k)]), (1, [.int .i64 (sgn x.n y.n)]), (2, [.int .i64 (cmpS x.s y.s)])] [.int .i64 (sgn x.k y.k), .int .i64 (sgn x.n y.n), .int .i64 (cmpS x.s y.s)] hS3 sl38 rfl rfl rfl rfl (fun z hz => by match z, hz with | [z0, z1, z2], _ => rfl) (fun b1 w4 hn1 hS4 => ?_)
  obtain ⟨G3, hle3, hs1, hS5⟩ := St.sealSl (E := Enc.int) (by_ := 8) (l := ([(sgn x.k y.k), (sgn x.n y.n), (cmpS x.s y.s)] : List Int)) hS4 hn1 ⟨[.int .i64 (sgn x.k y.k)], _, rfl, ⟨rfl, I64_sgn x.k y.k⟩, ⟨[.int .i64 (sgn x.n y.n)], _, rfl, ⟨rfl, I64_sgn x.n y.n⟩, ⟨[.int .i64 (cmpS x.s y.s)], _, rfl, ⟨rfl, I64_cmpS x.s y.s⟩, rfl⟩⟩⟩ rfl (by simp [reach]) (by simp [reach])
  refine WL.cV hS5 hb147 rfl rfl rfl (c_Or hS5.imm [(sgn x.k y.k), (sgn x.n y.n), (cmpS x.s y.s)] _ hs1 ) (fun w5 G4 hS6 hle4 => ?_)
  exact RI hS6 rfl (by exact cmpOr3 _ _ _)

theorem c_IndexV {G : GH} {w : World} (hG : G.In w) (l : List Val) (pf : Val → Bool) (vl : Value) (hvl : Sl ValE 32 G vl l) (fid : Nat) (fcap : Array Value) (hf : FnB Tryz.prog (Is ValE) fid fcap G (fun x => x ∈ l) pf)  : CL Tryz.prog (nat_lit 158) #[vl, .func (.func fid) #[] fcap] [] w G fun _ _ r => r = .int .i64 (idxF pf l) := by
  refine calls_of_go ft [] Tryz.func158 rfl rfl ?_
  have hS := St.start (X := []) hG
  have bd1 := hvl.bound
  refine WL.lenSl hvl ul61 rfl rfl ?_
  refine LP.go ft [] (fun m ρ1 w1 => ∃ (k1 : Nat), ∃ (G1 : GH), m = l.length - k1 ∧ G.le G1 ∧ St w [] G G1 [] w1 ∧ FR ρ1 [(0, vl), (1, .func (.func fid) #[] fcap), (7, .int .i64 (l.length : Int)), (8, .int .i64 (k1 : Int))] ∧ k1 ≤ l.length ∧ ∀ j, j < k1 → ∀ x, l[j]? = some x → pf x = false) _ ⟨0, G, rfl, (G.le_refl), hS, ⟨rfl, rfl, rfl, rfl, trivial⟩, (by omega), (by intro j hj; omega)⟩ ?_
  rintro m ρ1 w1 ⟨k1, G1, rfl, hle1, hS1, hF9, f1, f2⟩
  refine hF9.set ?_
  clear hF9
  refine WL.lssS (k1 : Int) (l.length : Int) rfl rfl rfl (fun h1 => ?_) (fun h1 => ?_)
  · refine WL.indexAddr (hvl.mono hle1) k1 (by omega) ul61 ti34 rfl rfl rfl rfl (fun p1 x1 hx1 he1 => ?_)
    obtain ⟨cs1, hc1, hr1⟩ := he1
    obtain ⟨rfl, hb1, hb2, hb3⟩ := ValE_open hr1
    refine WL.loadGAt hS1 hc1 [.int .i64 x1.k, .int .i64 x1.n, strV x1.s] ti34 rfl rfl rfl rfl rfl ?_
    refine WL.cV hS1 hf.body rfl rfl rfl (hf.call _ _ (.agg #[.int .i64 x1.k, .int .i64 x1.n, strV x1.s]) x1 hle1 hS1.imm (List.mem_of_getElem? hx1) ⟨_, rfl, (ValE_mk x1 hb1 hb2 hb3)⟩) (fun w2 G2 hS2 hle2 => ?_)
    refine WL.split (fun (h2 : (pf x1) = true) => ?_) (fun (h2 : (pf x1) = false) => ?_)
    · exact RI hS2 rfl (by exact (idxF_some _ (by assumption) (by assumption) (by assumption)).symm)
    refine WL.incr k1 (by have hreach : reach = 140737488355328 := rfl; omega) rfl rfl rfl ?_
    exact BK.mk' _ ⟨k1 + 1, G2, rfl, (hle1.trans hle2), hS2, ⟨rfl, rfl, rfl, rfl, trivial⟩, (by omega), (by exact lt_step (by assumption) (by assumption) (by assumption))⟩ (show l.length - (k1 + 1) < l.length - k1 by omega)
  exact RI hS1 rfl (by exact (idxF_none' (by assumption) (by omega)).symm)

theorem c_ContainsV {G : GH} {w : World} (hG : G.In w) (l : List Val) (pf : Val → Bool) (vl : Value) (hvl : Sl ValE 32 G vl l) (fid : Nat) (fcap : Array Value) (hf : FnB Tryz.prog (Is ValE) fid fcap G (fun x => x ∈ l) pf)  : CL Tryz.prog (nat_lit 117) #[vl, .func (.func fid) #[] fcap] [] w G fun _ _ r => r = .bool (l.any pf) := by
  refine calls_of_go ft [] Tryz.func117 rfl rfl ?_
  have hS := St.start (X := []) hG
  refine WL.cV hS hb158 rfl rfl rfl (c_IndexV hS.imm l pf _ hvl fid fcap (hf.up (G.le_refl)) ) (fun w1 G1 hS1 hle1 => ?_)
  refine WL.cmp .geq rfl .i64 (idxF pf l) 0 rfl rfl rfl ?_
  exact RB hS1 rfl (by exact idxF_any _ _)

theorem c_IndexF {G : GH} {w : World} (hG : G.In w) (l : List Fact) (pf : Fact → Bool) (vl : Value) (hvl : Sl FactE 40 G vl l) (fid : Nat) (fcap : Array Value) (hf : FnB Tryz.prog (Is FactE) fid fcap G (fun x => x ∈ l) pf)  : CL Tryz.prog (nat_lit 114) #[vl, .func (.func fid) #[] fcap] [] w G fun _ _ r => r = .int .i64 (idxF pf l) := by
  refine calls_of_go ft [] Tryz.func114 rfl rfl ?_
  have hS := St.start (X := []) hG
  have bd1 := hvl.bound
  refine WL.lenSl hvl ul22 rfl rfl ?_
  refine LP.go ft [] (fun m ρ1 w1 => ∃ (k1 : Nat), ∃ (G1 : GH), m = l.length - k1 ∧ G.le G1 ∧ St w [] G G1 [] w1 ∧ FR ρ1 [(0, vl), (1, .func (.func fid) #[] fcap), (7, .int .i64 (l.length : Int)), (8, .int .i64 (k1 : Int))] ∧ k1 ≤ l.length ∧ ∀ j, j < k1 → ∀ x, l[j]? = some x → pf x = false) _ ⟨0, G, rfl, (G.le_refl), hS, ⟨rfl, rfl, rfl, rfl, trivial⟩, (by omega), (by intro j hj; omega)⟩ ?_
  rintro m ρ1 w1 ⟨k1, G1, rfl, hle1, hS1, hF9, f1, f2⟩
  refine hF9.set ?_
  clear hF9
  refine WL.lssS (k1 : Int) (l.length : Int) rfl rfl rfl (fun h1 => ?_) (fun h1 => ?_)
  · refine WL.indexAddr (hvl.mono hle1) k1 (by omega) ul22 ti63 rfl rfl rfl rfl (fun p1 x1 hx1 he1 => ?_)
    obtain ⟨cs1, hc1, hr1⟩ := he1
    obtain ⟨v1, rfl, hs1, hb1, hb2⟩ := FactE_open hr1
    refine WL.loadGAt hS1 hc1 [v1, .int .i64 x1.t.a, .int .i64 x1.t.b] ti63 rfl rfl rfl rfl rfl ?_
    refine WL.cV hS1 hf.body rfl rfl rfl (hf.call _ _ (.agg #[v1, .int .i64 x1.t.a, .int .i64 x1.t.b]) x1 hle1 hS1.imm (List.mem_of_getElem? hx1) ⟨_, rfl, (FactE_mk x1 hs1 hb1 hb2)⟩) (fun w2 G2 hS2 hle2 => ?_)
    refine WL.split (fun (h2 : (pf x1) = true) => ?_) (fun (h2 : (pf x1) = false) => ?_)
    · exact RI hS2 rfl (by exact (idxF_some _ (by assumption) (by assumption) (by assumption)).symm)
    refine WL.incr k1 (by have hreach : reach = 140737488355328 := rfl; omega) rfl rfl rfl ?_
    exact BK.mk' _ ⟨k1 + 1, G2, rfl, (hle1.trans hle2), hS2, ⟨rfl, rfl, rfl, rfl, trivial⟩, (by omega), (by exact lt_step (by assumption) (by assumption) (by assumption))⟩ (show l.length - (k1 + 1) < l.length - k1 by omega)
  exact RI hS1 rfl (by exact (idxF_none' (by assumption) (by omega)).symm)

theorem c_ContainsF {G : GH} {w : World} (hG : G.In w) (l : List Fact) (pf : Fact → Bool) (vl : Value) (hvl : Sl FactE 40 G vl l) (fid : Nat) (fcap : Array Value) (hf : FnB Tryz.prog (Is FactE) fid fcap G (fun x => x ∈ l) pf)  : CL Tryz.prog (nat_lit 55) #[vl, .func (.func fid) #[] fcap] [] w G fun _ _ r => r = .bool (l.any pf) := by
  refine calls_of_go ft [] Tryz.func55 rfl rfl ?_
  have hS := St.start (X := []) hG
  refine WL.cV hS hb114 rfl rfl rfl (c_IndexF hS.imm l pf _ hvl fid fcap (hf.up (G.le_refl)) ) (fun w1 G1 hS1 hle1 => ?_)
  refine WL.cmp .geq rfl .i64 (idxF pf l) 0 rfl rfl rfl ?_
  exact RB hS1 rfl (by exact idxF_any _ _)

theorem c_IndexFF {G : GH} {w : World} (hG : G.In w) (l : List (List Fact)) (pf : (List Fact) → Bool) (vl : Value) (hvl : Sl (FactE.slice 40) 24 G vl l) (fid : Nat) (fcap : Array Value) (hf : FnB Tryz.prog (Sl FactE 40) fid fcap G (fun x => x ∈ l) pf)  : CL Tryz.prog (nat_lit 113) #[vl, .func (.func fid) #[] fcap] [] w G fun _ _ r => r = .int .i64 (idxF pf l) := by
  refine calls_of_go ft [] Tryz.func113 rfl rfl ?_
  have hS := St.start (X := []) hG
  have bd1 := hvl.bound
  refine WL.lenSl hvl ul89 rfl rfl ?_
  refine LP.go ft [] (fun m ρ1 w1 => ∃ (k1 : Nat), ∃ (G1 : GH), m = l.length - k1 ∧ G.le G1 ∧ St w [] G G1 [] w1 ∧ FR ρ1 [(0, vl), (1, .func (.func fid) #[] fcap), (7, .int .i64 (l.length : Int)), (8, .int .i64 (k1 : Int))] ∧ k1 ≤ l.length ∧ ∀ j, j < k1 → ∀ x, l[j]? = some x → pf x = false) _ ⟨0, G, rfl, (G.le_refl), hS, ⟨rfl, rfl, rfl, rfl, trivial⟩, (by omega), (by intro j hj; omega)⟩ ?_
  rintro m ρ1 w1 ⟨k1, G1, rfl, hle1, hS1, hF9, f1, f2⟩
  refine hF9.set ?_
  clear hF9
  refine WL.lssS (k1 : Int) (l.length : Int) rfl rfl rfl (fun h1 => ?_) (fun h1 => ?_)
  · refine WL.indexAddr (hvl.mono hle1) k1 (by omega) ul89 ti22 rfl rfl rfl rfl (fun p1 x1 hx1 he1 => ?_)
    obtain ⟨cs1, hc1, hr1⟩ := he1
    obtain ⟨v1, rfl, hs1⟩ := hr1
    refine WL.loadG1 hS1 hc1 ti22 rfl rfl rfl ?_
    refine WL.cV hS1 hf.body rfl rfl rfl (hf.call _ _ v1 x1 hle1 hS1.imm (List.mem_of_getElem? hx1) hs1) (fun w2 G2 hS2 hle2 => ?_)
    refine WL.split (fun (h2 : (pf x1) = true) => ?_) (fun (h2 : (pf x1) = false) => ?_)
    · exact RI hS2 rfl (by exact (idxF_some _ (by assumption) (by assumption) (by assumption)).symm)
    refine WL.incr k1 (by have hreach : reach = 140737488355328 := rfl; omega) rfl rfl rfl ?_
    exact BK.mk' _ ⟨k1 + 1, G2, rfl, (hle1.trans hle2), hS2, ⟨rfl, rfl, rfl, rfl, trivial⟩, (by omega), (by exact lt_step (by assumption) (by assumption) (by assumption))⟩ (show l.length - (k1 + 1) < l.length - k1 by omega)
  exact RI hS1 rfl (by exact (idxF_none' (by assumption) (by omega)).symm)

theorem c_ContainsFF {G : GH} {w : World} (hG : G.In w) (l : List (List Fact)) (pf : (List Fact) → Bool) (vl : Value) (hvl : Sl (FactE.slice 40) 24 G vl l) (fid : Nat) (fcap : Array Value) (hf : FnB Tryz.prog (Sl FactE 40) fid fcap G (fun x => x ∈ l) pf)  : CL Tryz.prog (nat_lit 53) #[vl, .func (.func fid) #[] fcap] [] w G fun _ _ r => r = .bool (l.any pf) := by
  refine calls_of_go ft [] Tryz.func53 rfl rfl ?_
  have hS := St.start (X := []) hG
  refine WL.cV hS hb113 rfl rfl rfl (c_IndexFF hS.imm l pf _ hvl fid fcap (hf.up (G.le_refl)) ) (fun w1 G1 hS1 hle1 => ?_)
  refine WL.cmp .geq rfl .i64 (idxF pf l) 0 rfl rfl rfl ?_
  exact RB hS1 rfl (by exact idxF_any _ _)

theorem c_IndexP {G : GH} {w : World} (hG : G.In w) (l : List (Int × Int)) (pf : (Int × Int) → Bool) (vl : Value) (hvl : Sl PairE 16 G vl l) (fid : Nat) (fcap : Array Value) (hf : FnB Tryz.prog (Is PairE) fid fcap G (fun x => x ∈ l) pf)  : CL Tryz.prog (nat_lit 155) #[vl, .func (.func fid) #[] fcap] [] w G fun _ _ r => r = .int .i64 (idxF pf l) := by
  refine calls_of_go ft [] Tryz.func155 rfl rfl ?_
  have hS := St.start (X := []) hG
  have bd1 := hvl.bound
  refine WL.lenSl hvl ul88 rfl rfl ?_
  refine LP.go ft [] (fun m ρ1 w1 => ∃ (k1 : Nat), ∃ (G1 : GH), m = l.length - k1 ∧ G.le G1 ∧ St w [] G G1 [] w1 ∧ FR ρ1 [(0, vl), (1, .func (.func fid) #[] fcap), (7, .int .i64 (l.length : Int)), (8, .int .i64 (k1 : Int))] ∧ k1 ≤ l.length ∧ ∀ j, j < k1 → ∀ x, l[j]? = some x → pf x = false) _ ⟨0, G, rfl, (G.le_refl), hS, ⟨rfl, rfl, rfl, rfl, trivial⟩, (by omega), (by intro j hj; omega)⟩ ?_
  rintro m ρ1 w1 ⟨k1, G1, rfl, hle1, hS1, hF9, f1, f2⟩
  refine hF9.set ?_
  clear hF9
  refine WL.lssS (k1 : Int) (l.length : Int) rfl rfl rfl (fun h1 => ?_) (fun h1 => ?_)
  · refine WL.indexAddr (hvl.mono hle1) k1 (by omega) ul88 ti87 rfl rfl rfl rfl (fun p1 x1 hx1 he1 => ?_)
    obtain ⟨cs1, hc1, hr1⟩ := he1
    obtain ⟨rfl, hb1, hb2⟩ := PairE_open hr1
    refine WL.loadGAt hS1 hc1 [.int .i64 x1.1, .int .i64 x1.2] ti87 rfl rfl rfl rfl rfl ?_
    refine WL.cV hS1 hf.body rfl rfl rfl (hf.call _ _ (.agg #[.int .i64 x1.1, .int .i64 x1.2]) x1 hle1 hS1.imm (List.mem_of_getElem? hx1) ⟨_, rfl, (PairE_mk x1 hb1 hb2)⟩) (fun w2 G2 hS2 hle2 => ?_)
    refine WL.split (fun (h2 : (pf x1) = true) => ?_) (fun (h2 : (pf x1) = false) => ?_)
    · exact RI hS2 rfl (by exact (idxF_some _ (by assumption) (by assumption) (by assumption)).symm)
    refine WL.incr k1 (by have hreach : reach = 140737488355328 := rfl; omega) rfl rfl rfl ?_
    exact BK.mk' _ ⟨k1 + 1, G2, rfl, (hle1.trans hle2), hS2, ⟨rfl, rfl, rfl, rfl, trivial⟩, (by omega), (by exact lt_step (by assumption) (by assumption) (by assumption))⟩ (show l.length - (k1 + 1) < l.length - k1 by omega)
  exact RI hS1 rfl (by exact (idxF_none' (by assumption) (by omega)).symm)

theorem c_ContainsP {G : GH} {w : World} (hG : G.In w) (l : List (Int × Int)) (pf : (Int × Int) → Bool) (vl : Value) (hvl : Sl PairE 16 G vl l) (fid : Nat) (fcap : Array Value) (hf : FnB Tryz.prog (Is PairE) fid fcap G (fun x => x ∈ l) pf)  : CL Tryz.prog (nat_lit 107) #[vl, .func (.func fid) #[] fcap] [] w G fun _ _ r => r = .bool (l.any pf) := by
  refine calls_of_go ft [] Tryz.func107 rfl rfl ?_
  have hS := St.start (X := []) hG
  refine WL.cV hS hb155 rfl rfl rfl (c_IndexP hS.imm l pf _ hvl fid fcap (hf.up (G.le_refl)) ) (fun w1 G1 hS1 hle1 => ?_)
  refine WL.cmp .geq rfl .i64 (idxF pf l) 0 rfl rfl rfl ?_
  exact RB hS1 rfl (by exact idxF_any _ _)

theorem c_IndexVV {G : GH} {w : World} (hG : G.In w) (l : List (List Val)) (pf : (List Val) → Bool) (vl : Value) (hvl : Sl (ValE.slice 32) 24 G vl l) (fid : Nat) (fcap : Array Value) (hf : FnB Tryz.prog (Sl ValE 32) fid fcap G (fun x => x ∈ l) pf)  : CL Tryz.prog (nat_lit 100) #[vl, .func (.func fid) #[] fcap] [] w G fun _ _ r => r = .int .i64 (idxF pf l) := by
  refine calls_of_go ft [] Tryz.func100 rfl rfl ?_
  have hS := St.start (X := []) hG
  have bd1 := hvl.bound
  refine WL.lenSl hvl ul67 rfl rfl ?_
  refine LP.go ft [] (fun m ρ1 w1 => ∃ (k1 : Nat), ∃ (G1 : GH), m = l.length - k1 ∧ G.le G1 ∧ St w [] G G1 [] w1 ∧ FR ρ1 [(0, vl), (1, .func (.func fid) #[] fcap), (7, .int .i64 (l.length : Int)), (8, .int .i64 (k1 : Int))] ∧ k1 ≤ l.length ∧ ∀ j, j < k1 → ∀ x, l[j]? = some x → pf x = false) _ ⟨0, G, rfl, (G.le_refl), hS, ⟨rfl, rfl, rfl, rfl, trivial⟩, (by omega), (by intro j hj; omega)⟩ ?_
  rintro m ρ1 w1 ⟨k1, G1, rfl, hle1, hS1, hF9, f1, f2⟩
  refine hF9.set ?_
  clear hF9
  refine WL.lssS (k1 : Int) (l.length : Int) rfl rfl rfl (fun h1 => ?_) (fun h1 => ?_)
  · refine WL.indexAddr (hvl.mono hle1) k1 (by omega) ul67 ti61 rfl rfl rfl rfl (fun p1 x1 hx1 he1 => ?_)
    obtain ⟨cs1, hc1, hr1⟩ := he1
    obtain ⟨v1, rfl, hs1⟩ := hr1
    refine WL.loadG1 hS1 hc1 ti61 rfl rfl rfl ?_
    refine WL.cV hS1 hf.body rfl rfl rfl (hf.call _ _ v1 x1 hle1 hS1.imm (List.mem_of_getElem? hx1) hs1) (fun w2 G2 hS2 hle2 => ?_)
    refine WL.split (fun (h2 : (pf x1) = true) => ?_) (fun (h2 : (pf x1) = false) => ?_)
    · exact RI hS2 rfl (by exact (idxF_some _ (by assumption) (by assumption) (by assumption)).symm)
    refine WL.incr k1 (by have hreach : reach = 140737488355328 := rfl; omega) rfl rfl rfl ?_
    exact BK.mk' _ ⟨k1 + 1, G2, rfl, (hle1.trans hle2), hS2, ⟨rfl, rfl, rfl, rfl, trivial⟩, (by omega), (by exact lt_step (by assumption) (by assumption) (by assumption))⟩ (show l.length - (k1 + 1) < l.length - k1 by omega)
  exact RI hS1 rfl (by exact (idxF_none' (by assumption) (by omega)).symm)

theorem c_ContainsVV {G : GH} {w : World} (hG : G.In w) (l : List (List Val)) (pf : (List Val) → Bool) (vl : Value) (hvl : Sl (ValE.slice 32) 24 G vl l) (fid : Nat) (fcap : Array Value) (hf : FnB Tryz.prog (Sl ValE 32) fid fcap G (fun x => x ∈ l) pf)  : CL Tryz.prog (nat_lit 40) #[vl, .func (.func fid) #[] fcap] [] w G fun _ _ r => r = .bool (l.any pf) := by
  refine calls_of_go ft [] Tryz.func40 rfl rfl ?_
  have hS := St.start (X := []) hG
  refine WL.cV hS hb100 rfl rfl rfl (c_IndexVV hS.imm l pf _ hvl fid fcap (hf.up (G.le_refl)) ) (fun w1 G1 hS1 hle1 => ?_)
  refine WL.cmp .geq rfl .i64 (idxF pf l) 0 rfl rfl rfl ?_
  exact RB hS1 rfl (by exact idxF_any _ _)
end Go.Civ
