/- Walks, printed by specs38.py. -/
import Derived.Test.YtapjalhjfblonaaGreatProg
import Derived.KernelRfl
import Derived.WalkKit
import Derived.Test.YtapjalhjfblonaaGreatMWc
set_option linter.unusedVariables false
set_option linter.unusedSimpArgs false
set_option maxRecDepth 100000
set_option maxHeartbeats 4000000
namespace Go.Civ
open Go.Proofs


theorem c_rfValid {G : GH} {w : World} (hG : G.In w) (l : List Fact) (vl : Value) (hvl : Sl FactE 40 G vl l)  : CL Tryz.prog (nat_lit 33) #[vl] [] w G fun _ _ r => r = .bool (rvalidB l) := by
  refine calls_of_go ft [] Tryz.func33 rfl rfl ?_
  have hl0 : ∀ x, l[0]? = some x → l.head?.elim [] Fact.v = x.v := fun x hx => by rw [List.head?_eq_getElem?, hx]; rfl
  have hS := St.start (X := []) hG
  have bd1 := hvl.bound
  refine WL.lenSl hvl ul22 rfl rfl ?_
  refine WL.gtrS (l.length : Int) 1000 rfl rfl rfl (fun h1 => ?_) (fun h1 => ?_)
  · exact RB hS rfl (by unfold rvalidB; (rw [decide_eq_false (by omega)]; rfl))
  refine LP.go ft [] (fun m ρ1 w1 => ∃ (k1 : Nat), ∃ (G1 : GH), m = l.length - k1 ∧ G.le G1 ∧ St w [] G G1 [] w1 ∧ FR ρ1 [(0, vl), (3, .int .i64 (k1 : Int))] ∧ k1 ≤ l.length ∧ ∀ j, j < k1 → ∀ x, l[j]? = some x → rfactB (l.head?.elim [] Fact.v) x = true) _ ⟨0, G, rfl, (G.le_refl), hS, ⟨rfl, rfl, trivial⟩, (by omega), (by intro j hj; omega)⟩ ?_
  rintro m ρ1 w1 ⟨k1, G1, rfl, hle1, hS1, hF9, f1, f2⟩
  refine hF9.set ?_
  clear hF9
  have bd2 := hvl.bound
  refine WL.lenSl (hvl.mono hle1) ul22 rfl rfl ?_
  refine WL.lssS (k1 : Int) (l.length : Int) rfl rfl rfl (fun h2 => ?_) (fun h2 => ?_)
  · obtain ⟨p1, x1, hx1, he1, ep1⟩ := Sl.at (hvl.mono hle1) k1 (by omega)
    obtain ⟨cs1, hc1, hr1⟩ := he1
    obtain ⟨v1, rfl, hs1, hb1, hb2⟩ := FactE_open hr1
    have bd3 := hs1.bound
    rcases Cmp.dec .gtr (x1.v.length : Int) 8 with ⟨hb3, q1⟩ | ⟨hb3, q1⟩
    · have h3 : 8 < (x1.v.length : Int) := q1
      clear q1
      refine dr [] [(15, .pointer (some p1)), (17, v1), (18, .int .i64 (x1.v.length : Int)), (19, .bool true)] hS1 ⟨fun _ => WL.indexAddrP k1 ep1 ul22 ti63 rfl rfl rfl rfl <| nu rfl rfl, fun _ hSw => WL.loadG1 hSw (Cells.drop 0 hc1) ti61 rfl rfl rfl <| nu rfl rfl, fun _ => WL.lenSl hs1 ul61 rfl rfl <| nu rfl rfl, fun _ => WL.cmpV .gtr rfl .i64 (x1.v.length : Int) 8 _ hb3 rfl rfl rfl <| nu rfl rfl, trivial⟩ (fun w2 hS2 => ?_)
      exact RB hS2 rfl (by unfold rvalidB; (rw [all_no (p := rfactB (l.head?.elim [] Fact.v)) (by assumption) (by first | exact rfact_len (by assumption) | exact rfact_val (by assumption) | exact rfact_span (by assumption) | exact rfact_kinds (by rw [hl0 _ (by assumption)]; assumption))]; simp))
    have h3 : (x1.v.length : Int) ≤ 8 := q1
    clear q1
    obtain ⟨p2, x2, hx2, he2, ep2⟩ := Sl.at (hvl.mono hle1) k1 (by omega)
    obtain rfl : x1 = x2 := Option.some.inj (hx1.symm.trans hx2)
    obtain ⟨cs2, hc2, hr2⟩ := he2
    obtain ⟨v2, rfl, hs2, hb4, hb5⟩ := FactE_open hr2
    rcases Bool.eq_false_or_eq_true (x1.v.all valB) with h4 | h4
    · obtain ⟨p3, x3, hx3, he3, ep3⟩ := Sl.at (hvl.mono hle1) k1 (by omega)
      obtain rfl : x1 = x3 := Option.some.inj (hx1.symm.trans hx3)
      obtain ⟨cs3, hc3, hr3⟩ := he3
      obtain ⟨v3, rfl, hs3, hb6, hb7⟩ := FactE_open hr3
      rcases Bool.eq_false_or_eq_true (spanB x1.t) with h5 | h5
      · obtain ⟨p4, x4, hx4, he4, ep4⟩ := Sl.at (hvl.mono hle1) 0 (by omega)
        obtain ⟨cs4, hc4, hr4⟩ := he4
        obtain ⟨v4, rfl, hs4, hb8, hb9⟩ := FactE_open hr4
        obtain ⟨p5, x5, hx5, he5, ep5⟩ := Sl.at (hvl.mono hle1) k1 (by omega)
        obtain rfl : x1 = x5 := Option.some.inj (hx1.symm.trans hx5)
        obtain ⟨cs5, hc5, hr5⟩ := he5
        obtain ⟨v5, rfl, hs5, hb10, hb11⟩ := FactE_open hr5
        rcases Bool.eq_false_or_eq_true (kindsB x4.v x1.v) with h6 | h6
        · refine dr [] [(15, .pointer (some p1)), (17, v1), (18, .int .i64 (x1.v.length : Int)), (19, .bool false), (23, .pointer (some p2)), (25, v2), (26, .bool true), (32, .pointer (some p3)), (34, .agg #[.int .i64 x1.t.a, .int .i64 x1.t.b]), (35, .bool true), (40, .pointer (some p4)), (42, v4), (45, .pointer (some p5)), (47, v5), (48, .bool true)] hS1 ⟨fun _ => WL.indexAddrP k1 ep1 ul22 ti63 rfl rfl rfl rfl <| nu rfl rfl, fun _ hSw => WL.loadG1 hSw (Cells.drop 0 hc1) ti61 rfl rfl rfl <| nu rfl rfl, fun _ => WL.lenSl hs1 ul61 rfl rfl <| nu rfl rfl, fun _ => WL.cmpV .gtr rfl .i64 (x1.v.length : Int) 8 _ hb3 rfl rfl rfl <| nu rfl rfl, fun _ => WL.indexAddrP k1 ep2 ul22 ti63 rfl rfl rfl rfl <| nu rfl rfl, fun _ hSw => WL.loadG1 hSw (Cells.drop 0 hc2) ti61 rfl rfl rfl <| nu rfl rfl, fun _ hSw => WL.callD hSw hb92 rfl rfl rfl (c_rAll hSw.imm x1.v _ hs2 ) (congrArg Value.bool h4.symm), fun _ => WL.indexAddrP k1 ep3 ul22 ti63 rfl rfl rfl rfl <| nu rfl rfl, fun _ hSw => WL.loadGAt hSw (Cells.drop 1 hc3) [.int .i64 x1.t.a, .int .i64 x1.t.b] ti46 rfl rfl rfl rfl rfl <| nu rfl rfl, fun _ hSw => WL.callD hSw hb86 rfl rfl rfl (c_rSpan hSw.imm x1.t _ (SpanE_mk x1.t hb6 hb7) ) (congrArg Value.bool h5.symm), fun _ => WL.indexAddrP 0 ep4 ul22 ti63 rfl rfl rfl rfl <| nu rfl rfl, fun _ hSw => WL.loadG1 hSw (Cells.drop 0 hc4) ti61 rfl rfl rfl <| nu rfl rfl, fun _ => WL.indexAddrP k1 ep5 ul22 ti63 rfl rfl rfl rfl <| nu rfl rfl, fun _ hSw => WL.loadG1 hSw (Cells.drop 0 hc5) ti61 rfl rfl rfl <| nu rfl rfl, fun _ hSw => WL.callD hSw hb75 rfl rfl rfl (c_rkinds hSw.imm x4.v x1.v _ hs4 _ hs5 ) (congrArg Value.bool h6.symm), trivial⟩ (fun w3 hS3 => ?_)
          refine WL.incr k1 (by have hreach : reach = 140737488355328 := rfl; omega) rfl rfl rfl ?_
          exact BK.mk' _ ⟨k1 + 1, G1, rfl, hle1, hS3, ⟨rfl, rfl, trivial⟩, (by omega), (by exact lt_step (by assumption) (by assumption) (rfact_yes (by assumption) (by assumption) (by assumption) (by rw [hl0 _ (by assumption)]; assumption)))⟩ (show l.length - (k1 + 1) < l.length - k1 by omega)
        refine dr [] [(15, .pointer (some p1)), (17, v1), (18, .int .i64 (x1.v.length : Int)), (19, .bool false), (23, .pointer (some p2)), (25, v2), (26, .bool true), (32, .pointer (some p3)), (34, .agg #[.int .i64 x1.t.a, .int .i64 x1.t.b]), (35, .bool true), (40, .pointer (some p4)), (42, v4), (45, .pointer (some p5)), (47, v5), (48, .bool false)] hS1 ⟨fun _ => WL.indexAddrP k1 ep1 ul22 ti63 rfl rfl rfl rfl <| nu rfl rfl, fun _ hSw => WL.loadG1 hSw (Cells.drop 0 hc1) ti61 rfl rfl rfl <| nu rfl rfl, fun _ => WL.lenSl hs1 ul61 rfl rfl <| nu rfl rfl, fun _ => WL.cmpV .gtr rfl .i64 (x1.v.length : Int) 8 _ hb3 rfl rfl rfl <| nu rfl rfl, fun _ => WL.indexAddrP k1 ep2 ul22 ti63 rfl rfl rfl rfl <| nu rfl rfl, fun _ hSw => WL.loadG1 hSw (Cells.drop 0 hc2) ti61 rfl rfl rfl <| nu rfl rfl, fun _ hSw => WL.callD hSw hb92 rfl rfl rfl (c_rAll hSw.imm x1.v _ hs2 ) (congrArg Value.bool h4.symm), fun _ => WL.indexAddrP k1 ep3 ul22 ti63 rfl rfl rfl rfl <| nu rfl rfl, fun _ hSw => WL.loadGAt hSw (Cells.drop 1 hc3) [.int .i64 x1.t.a, .int .i64 x1.t.b] ti46 rfl rfl rfl rfl rfl <| nu rfl rfl, fun _ hSw => WL.callD hSw hb86 rfl rfl rfl (c_rSpan hSw.imm x1.t _ (SpanE_mk x1.t hb6 hb7) ) (congrArg Value.bool h5.symm), fun _ => WL.indexAddrP 0 ep4 ul22 ti63 rfl rfl rfl rfl <| nu rfl rfl, fun _ hSw => WL.loadG1 hSw (Cells.drop 0 hc4) ti61 rfl rfl rfl <| nu rfl rfl, fun _ => WL.indexAddrP k1 ep5 ul22 ti63 rfl rfl rfl rfl <| nu rfl rfl, fun _ hSw => WL.loadG1 hSw (Cells.drop 0 hc5) ti61 rfl rfl rfl <| nu rfl rfl, fun _ hSw => WL.callD hSw hb75 rfl rfl rfl (c_rkinds hSw.imm x4.v x1.v _ hs4 _ hs5 ) (congrArg Value.bool h6.symm), trivial⟩ (fun w4 hS4 => ?_)
        exact RB hS4 rfl (by unfold rvalidB; (rw [all_no (p := rfactB (l.head?.elim [] Fact.v)) (by assumption) (by first | exact rfact_len (by assumption) | exact rfact_val (by assumption) | exact rfact_span (by assumption) | exact rfact_kinds (by rw [hl0 _ (by assumption)]; assumption))]; simp))
      refine dr [] [(15, .pointer (some p1)), (17, v1), (18, .int .i64 (x1.v.length : Int)), (19, .bool false), (23, .pointer (some p2)), (25, v2), (26, .bool true), (32, .pointer (some p3)), (34, .agg #[.int .i64 x1.t.a, .int .i64 x1.t.b]), (35, .bool false)] hS1 ⟨fun _ => WL.indexAddrP k1 ep1 ul22 ti63 rfl rfl rfl rfl <| nu rfl rfl, fun _ hSw => WL.loadG1 hSw (Cells.drop 0 hc1) ti61 rfl rfl rfl <| nu rfl rfl, fun _ => WL.lenSl hs1 ul61 rfl rfl <| nu rfl rfl, fun _ => WL.cmpV .gtr rfl .i64 (x1.v.length : Int) 8 _ hb3 rfl rfl rfl <| nu rfl rfl, fun _ => WL.indexAddrP k1 ep2 ul22 ti63 rfl rfl rfl rfl <| nu rfl rfl, fun _ hSw => WL.loadG1 hSw (Cells.drop 0 hc2) ti61 rfl rfl rfl <| nu rfl rfl, fun _ hSw => WL.callD hSw hb92 rfl rfl rfl (c_rAll hSw.imm x1.v _ hs2 ) (congrArg Value.bool h4.symm), fun _ => WL.indexAddrP k1 ep3 ul22 ti63 rfl rfl rfl rfl <| nu rfl rfl, fun _ hSw => WL.loadGAt hSw (Cells.drop 1 hc3) [.int .i64 x1.t.a, .int .i64 x1.t.b] ti46 rfl rfl rfl rfl rfl <| nu rfl rfl, fun _ hSw => WL.callD hSw hb86 rfl rfl rfl (c_rSpan hSw.imm x1.t _ (SpanE_mk x1.t hb6 hb7) ) (congrArg Value.bool h5.symm), trivial⟩ (fun w5 hS5 => ?_)
      exact RB hS5 rfl (by unfold rvalidB; (rw [all_no (p := rfactB (l.head?.elim [] Fact.v)) (by assumption) (by first | exact rfact_len (by assumption) | exact rfact_val (by assumption) | exact rfact_span (by assumption) | exact rfact_kinds (by rw [hl0 _ (by assumption)]; assumption))]; simp))
    refine dr [] [(15, .pointer (some p1)), (17, v1), (18, .int .i64 (x1.v.length : Int)), (19, .bool false), (23, .pointer (some p2)), (25, v2), (26, .bool false)] hS1 ⟨fun _ => WL.indexAddrP k1 ep1 ul22 ti63 rfl rfl rfl rfl <| nu rfl rfl, fun _ hSw => WL.loadG1 hSw (Cells.drop 0 hc1) ti61 rfl rfl rfl <| nu rfl rfl, fun _ => WL.lenSl hs1 ul61 rfl rfl <| nu rfl rfl, fun _ => WL.cmpV .gtr rfl .i64 (x1.v.length : Int) 8 _ hb3 rfl rfl rfl <| nu rfl rfl, fun _ => WL.indexAddrP k1 ep2 ul22 ti63 rfl rfl rfl rfl <| nu rfl rfl, fun _ hSw => WL.loadG1 hSw (Cells.drop 0 hc2) ti61 rfl rfl rfl <| nu rfl rfl, fun _ hSw => WL.callD hSw hb92 rfl rfl rfl (c_rAll hSw.imm x1.v _ hs2 ) (congrArg Value.bool h4.symm), trivial⟩ (fun w6 hS6 => ?_)
    exact RB hS6 rfl (by unfold rvalidB; (rw [all_no (p := rfactB (l.head?.elim [] Fact.v)) (by assumption) (by first | exact rfact_len (by assumption) | exact rfact_val (by assumption) | exact rfact_span (by assumption) | exact rfact_kinds (by rw [hl0 _ (by assumption)]; assumption))]; simp))
  exact RB hS1 rfl (by unfold rvalidB; (rw [decide_eq_true (by omega)]; exact (all_yes (by assumption) (by omega)).symm))

theorem c_Less {G : GH} {w : World} (hG : G.In w) (a b : Int)  : CL Tryz.prog (nat_lit 103) #[.int .i64 a, .int .i64 b] [] w G fun _ _ r => r = .bool (decide (a < b)) := by
  refine calls_of_go ft [] Tryz.func103 rfl rfl ?_
  have hS := St.start (X := []) hG
  refine WL.cV hS hb153 rfl rfl rfl (c_isNaN hS.imm a  ) (fun w1 G1 hS1 hle1 => ?_)
  refine WL.cmp .lss rfl .i64 a b rfl rfl rfl ?_
  exact RB hS1 rfl (by simp_all [Cmp.b] <;> (first | omega | (intros; omega) | (rw [Bool.eq_iff_iff]; simp <;> omega) | (rw [Bool.eq_iff_iff]; simp_all <;> omega)))

theorem c_Same {G : GH} {w : World} (hG : G.In w) (a b : List Val) (va : Value) (hva : Sl ValE 32 G va a) (vb : Value) (hvb : Sl ValE 32 G vb b)  : CL Tryz.prog (nat_lit 88) #[va, vb] [] w G fun _ _ r => r = .bool (decide (a = b)) := by
  refine calls_of_go ft [] Tryz.func88 rfl rfl ?_
  have hS := St.start (X := []) hG
  have bd1 := hva.bound
  refine WL.lenSl hva ul61 rfl rfl ?_
  have bd2 := hvb.bound
  refine WL.lenSl hvb ul61 rfl rfl ?_
  refine WL.neqS (a.length : Int) (b.length : Int) rfl rfl rfl (fun h1 => ?_) (fun h1 => ?_)
  · exact RB hS rfl (by rw [← eqF_eq]; exact (eqF_len (by omega)).symm)
  refine LP.go ft [] (fun m ρ1 w1 => ∃ (k1 : Nat), ∃ (G1 : GH), m = a.length - k1 ∧ G.le G1 ∧ St w [] G G1 [] w1 ∧ FR ρ1 [(0, va), (1, vb), (5, .int .i64 (k1 : Int))] ∧ k1 ≤ a.length ∧ ∀ j, j < k1 → ∀ x y, a[j]? = some x → b[j]? = some y → decide (x = y) = true) _ ⟨0, G, rfl, (G.le_refl), hS, ⟨rfl, rfl, rfl, trivial⟩, (by omega), (by intro j hj; omega)⟩ ?_
  rintro m ρ1 w1 ⟨k1, G1, rfl, hle1, hS1, hF9, f1, f2⟩
  refine hF9.set ?_
  clear hF9
  have bd3 := hva.bound
  refine WL.lenSl (hva.mono hle1) ul61 rfl rfl ?_
  refine WL.lssS (k1 : Int) (a.length : Int) rfl rfl rfl (fun h2 => ?_) (fun h2 => ?_)
  · obtain ⟨p1, x1, hx1, he1, ep1⟩ := Sl.at (hva.mono hle1) k1 (by omega)
    obtain ⟨cs1, hc1, hr1⟩ := he1
    obtain ⟨rfl, hb1, hb2, hb3⟩ := ValE_open hr1
    obtain ⟨p2, x2, hx2, he2, ep2⟩ := Sl.at (hvb.mono hle1) k1 (by omega)
    obtain ⟨cs2, hc2, hr2⟩ := he2
    obtain ⟨rfl, hb4, hb5, hb6⟩ := ValE_open hr2
    rcases Classical.em (x1 = x2) with h3 | h3
    · refine dr [] [(19, .pointer (some p1)), (20, .agg #[.int .i64 x1.k, .int .i64 x1.n, strV x1.s]), (23, .pointer (some p2)), (24, .agg #[.int .i64 x2.k, .int .i64 x2.n, strV x2.s]), (25, .bool false)] hS1 ⟨fun _ => WL.indexAddrP k1 ep1 ul61 ti34 rfl rfl rfl rfl <| nu rfl rfl, fun _ hSw => WL.loadGAt hSw hc1 [.int .i64 x1.k, .int .i64 x1.n, strV x1.s] ti34 rfl rfl rfl rfl rfl <| nu rfl rfl, fun _ => WL.indexAddrP k1 ep2 ul61 ti34 rfl rfl rfl rfl <| nu rfl rfl, fun _ hSw => WL.loadGAt hSw hc2 [.int .i64 x2.k, .int .i64 x2.n, strV x2.s] ti34 rfl rfl rfl rfl rfl <| nu rfl rfl, fun _ => WL.aggEqNV false (ValEq34 x1 x2) eqg34 (by simp [h3]) rfl rfl rfl <| nu rfl rfl, trivial⟩ (fun w2 hS2 => ?_)
      refine WL.incr k1 (by have hreach : reach = 140737488355328 := rfl; omega) rfl rfl rfl ?_
      exact BK.mk' _ ⟨k1 + 1, G1, rfl, hle1, hS2, ⟨rfl, rfl, rfl, trivial⟩, (by omega), (by exact lt_step2 (by assumption) (by assumption) (by assumption) (decide_eq_true (by simp_all)))⟩ (show a.length - (k1 + 1) < a.length - k1 by omega)
    refine dr [] [(19, .pointer (some p1)), (20, .agg #[.int .i64 x1.k, .int .i64 x1.n, strV x1.s]), (23, .pointer (some p2)), (24, .agg #[.int .i64 x2.k, .int .i64 x2.n, strV x2.s]), (25, .bool true)] hS1 ⟨fun _ => WL.indexAddrP k1 ep1 ul61 ti34 rfl rfl rfl rfl <| nu rfl rfl, fun _ hSw => WL.loadGAt hSw hc1 [.int .i64 x1.k, .int .i64 x1.n, strV x1.s] ti34 rfl rfl rfl rfl rfl <| nu rfl rfl, fun _ => WL.indexAddrP k1 ep2 ul61 ti34 rfl rfl rfl rfl <| nu rfl rfl, fun _ hSw => WL.loadGAt hSw hc2 [.int .i64 x2.k, .int .i64 x2.n, strV x2.s] ti34 rfl rfl rfl rfl rfl <| nu rfl rfl, fun _ => WL.aggEqNV true (ValEq34 x1 x2) eqg34 (by simp [h3]) rfl rfl rfl <| nu rfl rfl, trivial⟩ (fun w3 hS3 => ?_)
    exact RB hS3 rfl (by rw [← eqF_eq]; exact (eqF_no (f := fun (x y : Val) => decide (x = y)) (by assumption) (by assumption) (decide_eq_false (by simp_all))).symm)
  exact RB hS1 rfl (by rw [← eqF_eq]; exact (eqF_yes (by omega) (by assumption) (by omega)).symm)

theorem c_lists1 {G : GH} {w : World} (hG : G.In w) (a b : List Val) (va : Value) (hva : Sl ValE 32 G va a) (vb : Value) (hvb : Sl ValE 32 G vb b)  : CL Tryz.prog (nat_lit 105) #[va, vb] [] w G fun _ _ r => r = .bool (decide (a = b)) := by
  refine calls_of_go ft [] Tryz.func105 rfl rfl ?_
  have hS := St.start (X := []) hG
  refine WL.cV hS hb88 rfl rfl rfl (c_Same hS.imm a b _ hva _ hvb ) (fun w1 G1 hS1 hle1 => ?_)
  exact RB hS1 rfl (by rfl)

theorem c_lists {G : GH} {w : World} (hG : G.In w) (a b : List (List Val)) (va : Value) (hva : Sl (ValE.slice 32) 24 G va a) (vb : Value) (hvb : Sl (ValE.slice 32) 24 G vb b)  : CL Tryz.prog (nat_lit 46) #[va, vb] [] w G fun _ _ r => r = .bool (decide (a = b)) := by
  refine calls_of_go ft [] Tryz.func46 rfl rfl ?_
  have hS := St.start (X := []) hG
  refine WL.cV hS hb104 rfl rfl rfl (c_EqualVV hS.imm a b (fun x8 y8 => decide (x8 = y8)) _ hva _ hvb 105 #[] ⟨hb105, fun G8 w8 v8 u8 x8 y8 hle8 hG8 hon8 hA8 hB8 => by exact c_lists1 hG8 x8 y8 v8 hA8 u8 hB8 ⟩ ) (fun w1 G1 hS1 hle1 => ?_)
  exact RB hS1 rfl (by exact eqF_eq)
end Go.Civ
