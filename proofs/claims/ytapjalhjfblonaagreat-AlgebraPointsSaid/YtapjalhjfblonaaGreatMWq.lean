/- Walks, printed by specs38.py. -/
import Derived.Test.YtapjalhjfblonaaGreatProg
import Derived.KernelRfl
import Derived.WalkKit
import Derived.Test.YtapjalhjfblonaaGreatMWq0
import Derived.Test.YtapjalhjfblonaaGreatMWi
import Derived.Test.YtapjalhjfblonaaGreatMCiv28
import Derived.Test.YtapjalhjfblonaaGreatMWo
import Derived.Test.YtapjalhjfblonaaGreatMWj
set_option linter.unusedVariables false
set_option linter.unusedSimpArgs false
set_option maxRecDepth 100000
set_option maxHeartbeats 4000000
namespace Go.Civ
open Go.Proofs


theorem c_pair {G : GH} {w : World} (hG : G.In w) (a b : List Fact) (va : Value) (hva : Sl FactE 40 G va a) (vb : Value) (hvb : Sl FactE 40 G vb b)  : CL Tryz.prog (nat_lit 73) #[va, vb] [] w G fun _ _ r => r = .int .i64 (pairE a b) := by
  refine calls_of_go ft [] Tryz.func73 rfl rfl ?_
  have hS := St.start (X := []) hG
  refine WL.cV hS hb57 rfl rfl rfl (c_valid hS.imm a _ hva ) (fun w1 G1 hS1 hle1 => ?_)
  refine WL.split (fun (h1 : (validB a) = true) => ?_) (fun (h1 : (validB a) = false) => ?_)
  · refine WL.cV hS1 hb57 rfl rfl rfl (c_valid hS1.imm b _ (hvb.mono hle1) ) (fun w2 G2 hS2 hle2 => ?_)
    refine WL.split (fun (h2 : (validB b) = true) => ?_) (fun (h2 : (validB b) = false) => ?_)
    · have bd1 := hva.bound
      rcases Cmp.dec .gtr (a.length : Int) 0 with ⟨hb1, q1⟩ | ⟨hb1, q1⟩
      · have h3 : 0 < (a.length : Int) := q1
        clear q1
        have bd2 := hvb.bound
        rcases Cmp.dec .gtr (b.length : Int) 0 with ⟨hb2, q2⟩ | ⟨hb2, q2⟩
        · have h4 : 0 < (b.length : Int) := q2
          clear q2
          obtain ⟨p1, x1, hx1, he1, ep1⟩ := Sl.at (hva.mono (hle1.trans hle2)) 0 (by omega)
          obtain ⟨cs1, hc1, hr1⟩ := he1
          obtain ⟨v1, rfl, hs1, hb3, hb4⟩ := FactE_open hr1
          obtain ⟨p2, x2, hx2, he2, ep2⟩ := Sl.at (hvb.mono (hle1.trans hle2)) 0 (by omega)
          obtain ⟨cs2, hc2, hr2⟩ := he2
          obtain ⟨v2, rfl, hs2, hb5, hb6⟩ := FactE_open hr2
          rcases Bool.eq_false_or_eq_true (kindsB x1.v x2.v) with h5 | h5
          · refine dr [(20, false)] [(16, .int .i64 (a.length : Int)), (17, .bool true), (20, .int .i64 (b.length : Int)), (21, .bool true), (25, .pointer (some p1)), (27, v1), (29, .pointer (some p2)), (31, v2), (32, .bool true)] hS2 ⟨fun _ => WL.lenSl (hva.mono (hle1.trans hle2)) ul22 rfl rfl <| nu rfl rfl, fun _ => WL.cmpV .gtr rfl .i64 (a.length : Int) 0 _ hb1 rfl rfl rfl <| nu rfl rfl, fun _ => WL.lenSl (hvb.mono (hle1.trans hle2)) ul22 rfl rfl <| nu rfl rfl, fun _ => WL.cmpV .gtr rfl .i64 (b.length : Int) 0 _ hb2 rfl rfl rfl <| nu rfl rfl, fun _ => WL.indexAddrP 0 ep1 ul22 ti63 rfl rfl rfl rfl <| nu rfl rfl, fun _ hSw => WL.loadG1 hSw (Cells.drop 0 hc1) ti61 rfl rfl rfl <| nu rfl rfl, fun _ => WL.indexAddrP 0 ep2 ul22 ti63 rfl rfl rfl rfl <| nu rfl rfl, fun _ hSw => WL.loadG1 hSw (Cells.drop 0 hc2) ti61 rfl rfl rfl <| nu rfl rfl, fun _ hSw => WL.callD hSw hb116 rfl rfl rfl (c_kinds hSw.imm x1.v x2.v _ hs1 _ hs2 ) (congrArg Value.bool h5.symm), trivial⟩ (fun w3 hS3 => ?_)
            exact RI hS3 rfl (by exact (pairE_0 h1 h2 (by assumption) (by assumption) (by assumption)).symm)
          refine dr [(20, false)] [(16, .int .i64 (a.length : Int)), (17, .bool true), (20, .int .i64 (b.length : Int)), (21, .bool true), (25, .pointer (some p1)), (27, v1), (29, .pointer (some p2)), (31, v2), (32, .bool false)] hS2 ⟨fun _ => WL.lenSl (hva.mono (hle1.trans hle2)) ul22 rfl rfl <| nu rfl rfl, fun _ => WL.cmpV .gtr rfl .i64 (a.length : Int) 0 _ hb1 rfl rfl rfl <| nu rfl rfl, fun _ => WL.lenSl (hvb.mono (hle1.trans hle2)) ul22 rfl rfl <| nu rfl rfl, fun _ => WL.cmpV .gtr rfl .i64 (b.length : Int) 0 _ hb2 rfl rfl rfl <| nu rfl rfl, fun _ => WL.indexAddrP 0 ep1 ul22 ti63 rfl rfl rfl rfl <| nu rfl rfl, fun _ hSw => WL.loadG1 hSw (Cells.drop 0 hc1) ti61 rfl rfl rfl <| nu rfl rfl, fun _ => WL.indexAddrP 0 ep2 ul22 ti63 rfl rfl rfl rfl <| nu rfl rfl, fun _ hSw => WL.loadG1 hSw (Cells.drop 0 hc2) ti61 rfl rfl rfl <| nu rfl rfl, fun _ hSw => WL.callD hSw hb116 rfl rfl rfl (c_kinds hSw.imm x1.v x2.v _ hs1 _ hs2 ) (congrArg Value.bool h5.symm), trivial⟩ (fun w4 hS4 => ?_)
          exact RI hS4 rfl (by exact (pairE_13 h1 h2 (by assumption) (by assumption) (by assumption)).symm)
        have h4 : (b.length : Int) ≤ 0 := q2
        clear q2
        refine dr [(20, false)] [(16, .int .i64 (a.length : Int)), (17, .bool true), (20, .int .i64 (b.length : Int)), (21, .bool false)] hS2 ⟨fun _ => WL.lenSl (hva.mono (hle1.trans hle2)) ul22 rfl rfl <| nu rfl rfl, fun _ => WL.cmpV .gtr rfl .i64 (a.length : Int) 0 _ hb1 rfl rfl rfl <| nu rfl rfl, fun _ => WL.lenSl (hvb.mono (hle1.trans hle2)) ul22 rfl rfl <| nu rfl rfl, fun _ => WL.cmpV .gtr rfl .i64 (b.length : Int) 0 _ hb2 rfl rfl rfl <| nu rfl rfl, trivial⟩ (fun w5 hS5 => ?_)
        exact RI hS5 rfl (by exact (pairE_0' h1 h2 (by omega)).symm)
      have h3 : (a.length : Int) ≤ 0 := q1
      clear q1
      refine dr [(20, false)] [(16, .int .i64 (a.length : Int)), (17, .bool false)] hS2 ⟨fun _ => WL.lenSl (hva.mono (hle1.trans hle2)) ul22 rfl rfl <| nu rfl rfl, fun _ => WL.cmpV .gtr rfl .i64 (a.length : Int) 0 _ hb1 rfl rfl rfl <| nu rfl rfl, trivial⟩ (fun w6 hS6 => ?_)
      exact RI hS6 rfl (by exact (pairE_0' h1 h2 (by omega)).symm)
    exact RI hS2 rfl (by exact (pairE_1 (.inr (by assumption))).symm)
  exact RI hS1 rfl (by exact (pairE_1 (.inl (by assumption))).symm)

theorem c_Except {G : GH} {w : World} (hG : G.In w) (a b : List Fact) (va : Value) (hva : Sl FactE 40 G va a) (vb : Value) (hvb : Sl FactE 40 G vb b)  : CL Tryz.prog (nat_lit 23) #[va, vb] [] w G fun G' _ r => ∃ r0 r1, r = .tuple #[r0, r1] ∧ Sl FactE 40 G' r0 (excL a b) ∧ r1 = .int .i64 (excE a b) := by
  refine calls_of_go ft [] Tryz.func23 rfl rfl ?_
  have hS := St.start (X := []) hG
  refine WL.cV hS hb73 rfl rfl rfl (c_pair hS.imm a b _ hva _ hvb ) (fun w1 G1 hS1 hle1 => ?_)
  refine WL.neqS (pairE a b) 0 rfl rfl rfl (fun h1 => ?_) (fun h1 => ?_)
  · exact RT hS1 rfl ⟨_, _, rfl, (Sl.cast (Sl.nil FactE 40 G1) (by exact (exc_1 (by assumption)).1.symm)), (congrArg (Value.int .i64) (by exact (exc_1 (by assumption)).2.symm))⟩
  have hv9 := pairE_valid (by assumption : pairE a b = 0)
  have hgl9 := grp_len hv9.1
  have hgk9 := grp_len hv9.2
  have hal9 := valid_le hv9.1
  have hbl9 := valid_le hv9.2
  refine WL.cR hb79 rfl rfl rfl (c_grouped hS1.imm b _ (hvb.mono hle1) (good_of_valid (by exact hv9.2)) (by omega)) (fun w2 G2 r1 hres1 hpost1 => ?_)
  have hS2 := hS1.call hres1
  have hle2 := hres1.le
  obtain ⟨o1, hr1, hf1⟩ := hpost1
  have hS3 := hS1.adoptO hres1 hf1
  refine WL.cR hb79 rfl rfl rfl (c_grouped hS3.imm a _ (hva.mono (hle1.trans hle2)) (good_of_valid (by exact hv9.1)) (by omega)) (fun w3 G3 r2 hres2 hpost2 => ?_)
  have hS4 := hS3.call hres2
  have hle3 := hres2.le
  obtain ⟨o2, hr2, hf2⟩ := hpost2
  have hS5 := hS3.adoptO hres2 hf2
  obtain ⟨G4, hle4, hs1, hS6⟩ := Row.freeze (hr1.mono hle3) hS5 1 rfl
  have bd1 := hr2.bound
  refine WL.lenRow (hr2.mono hle4) ul114 rfl rfl ?_
  refine LP.go ft [] (fun m ρ1 w1 => ∃ (k1 : Nat), ∃ (o3 : OB), ∃ (G5 : GH), m = (grp a).length - k1 ∧ G4.le G5 ∧ St w [] G G5 [o3, none] w1 ∧ Row GroupE 48 117 G5 r2 (exN (grp b) (grp a) k1) o3 ∧ FR ρ1 [(7, r1), (8, r2), (25, r2), (26, .int .i64 (((grp a).length : Nat) : Int)), (27, .int .i64 (k1 : Int))] ∧ k1 ≤ (grp a).length) _ ⟨0, o2, G4, rfl, (G4.le_refl), hS6, (Row.cast (hr2.mono hle4) (by exact (exN_zero _ _).symm)), ⟨rfl, rfl, rfl, rfl, rfl, trivial⟩, (by omega)⟩ ?_
  rintro m ρ1 w4 ⟨k1, o3, G5, rfl, hle5, hS7, hr3, hF9, f1⟩
  refine hF9.set ?_
  clear hF9
  have lenx := exN_len (grp b) (grp a) k1
  refine WL.lssS (k1 : Int) (((grp a).length : Nat) : Int) rfl rfl rfl (fun h2 => ?_) (fun h2 => ?_)
  · refine WL.indexAddrRow hr3 k1 (by omega) ul114 ti117 rfl rfl rfl rfl (fun p1 x1 ec1 hx1 hr4 ra1 => ?_)
    obtain ⟨v1, v2, rfl, hs2, hs3⟩ := GroupE_open hr4
    refine WL.loadRA ra1 hS7 0 rfl ti117 rfl rfl rfl rfl ?_
    refine WL.alloc hS7 ti117 rfl rfl (fun b1 w5 hn1 hS8 => ?_)
    refine WL.store hS8 0 _ _ _ 0 _ [v1, v2] [v1, v2] _ rfl rfl ti117 rfl (Nat.le_of_ble_eq_true rfl) (by simp only [List.all_cons, List.all_nil, hs2.oneC, hs3.oneC, Bool.true_and] <;> rfl) rfl rfl rfl rfl rfl (fun w6 hS9 => ?_)
    obtain ⟨G6, hle6, hc1, hS10⟩ := hS9.shutB hn1
    have hg9 := grp_ok hv9.1 (exN_at hx1)
    refine WL.loadG1 hS10 (Cells.drop 0 hc1) ti61 rfl rfl rfl ?_
    refine WL.cA hS10 hb80 rfl rfl rfl (c_BinG hS10.imm (grp b) x1.v _ (hs1.mono (hle5.trans hle6)) _ (hs2.mono hle6) (grp_mono (good_of_valid hv9.2) hg9.2.2.2) (by omega)) ?_
    rintro w7 G7 _ ⟨_, _, rfl, rfl, rfl⟩ hS11 hle7
    refine splitB (fun (h3 : (foundG (grp b) x1.v) = true) => ?_) (fun (h3 : (foundG (grp b) x1.v) = false) => ?_)
    · refine set1 (d := 36) (congrArg (fun b9 => Value.tuple #[.int .i64 (((posG (grp b) x1.v) : Nat) : Int), .bool b9]) h3) ?_
      have hfl9 := found_lt (by assumption)
      obtain ⟨p2, x2, hx2, he1, ep1⟩ := Sl.at (hs1.mono ((hle5.trans hle6).trans hle7)) (posG (grp b) x1.v) (by omega)
      obtain ⟨cs1, hc2, hr5⟩ := he1
      obtain ⟨v3, v4, rfl, hs4, hs5⟩ := GroupE_open hr5
      obtain ⟨p3, x3, ec2, hx3, hr6, ra2, ep2⟩ := Row.atP (hr3.mono (hle6.trans hle7)) k1 (by omega)
      obtain rfl : x1 = x3 := Option.some.inj (hx1.symm.trans hx3)
      obtain ⟨v5, v6, rfl, hs6, hs7⟩ := GroupE_open hr6
      refine drT [9, 10, 11, 12, 15] [(44, v2), (47, .pointer (some p2)), (49, v4), (53, .pointer (some p3))] hS11 ⟨fun _ hSw => WL.loadG1 hSw (Cells.drop 1 (hc1.mono hle7)) ti111 rfl rfl rfl <| nu rfl rfl, fun _ => WL.indexAddrP (posG (grp b) x1.v) ep1 ul114 ti117 rfl rfl rfl rfl <| nu rfl rfl, fun _ hSw => WL.loadG1 hSw (Cells.drop 1 hc2) ti111 rfl rfl rfl <| nu rfl rfl, fun _ => WL.indexAddrP k1 ep2 ul114 ti117 rfl rfl rfl rfl <| nu rfl rfl, trivial⟩ (fun w8 hS12 => ?_)
      refine TG.fork 4 [9, 10, 11, 12, 15] [9] rfl rfl (by decide) (by decide) (TA.cons rfl ?_ TA.nil)
      refine WL.cA hS12 hb82 rfl rfl rfl (c_Minus hS12.imm x1.t x2.t _ (hs3.mono (hle6.trans hle7)) _ hs5 hg9.1 (grp_ok hv9.2 (by assumption)).1 hg9.2.1 (grp_ok hv9.2 (by assumption)).2.1 hg9.2.2.1 (grp_ok hv9.2 (by assumption)).2.2.1) ?_
      rintro w9 G8 _ ⟨r7, _, rfl, hs8, rfl⟩ hS13 hle8
      refine ⟨fun h => absurd h (by decide), ?_⟩
      refine TG.fork 3 [10, 11, 12, 15] [10] rfl rfl (by decide) (by decide) (TA.cons rfl ?_ TA.nil)
      refine WL.move rfl ?_
      refine ⟨fun h => absurd h (by decide), ?_⟩
      refine TG.fork 2 [11, 12, 15] [11, 12] rfl rfl (by decide) (by decide) (TA.cons rfl ?_ (TA.cons rfl ?_ TA.nil))
      · refine WL.extract _ _ rfl rfl rfl ?_
        refine ⟨fun h => absurd h (by decide), ?_⟩
        refine TG.fork 1 [12, 15] [12, 15] rfl rfl (by decide) (by decide) (TA.cons rfl ?_ (TA.cons rfl ?_ TA.nil))
        · refine WL.extract _ _ rfl rfl rfl ?_
          refine ⟨fun h => absurd h (by decide), ?_⟩
          refine TG.fork 0 [15] [15] rfl rfl (by decide) (by decide) (TA.cons rfl ?_ TA.nil)
          refine WL.storeR (hr3.mono ((hle6.trans hle7).trans hle8)) ra2 hS13 0 rfl (by omega) rfl 1 _ [r7] (Group.mk x1.v (combR 3 x1.t x2.t)) [v5, r7] hs8.cells1 ti111 rfl (Nat.le_of_ble_eq_true rfl) (by simp only [List.all_cons, List.all_nil, hs8.oneC, Bool.true_and] <;> rfl) rfl (GroupE_mk (Group.mk x1.v (combR 3 x1.t x2.t)) (hs6.mono hle8) hs8) rfl rfl rfl (fun o4 w10 hr7 hS14 => ?_)
          refine ⟨fun h => absurd h (by decide), ?_⟩
          refine TG.fin rfl ?_
          refine WL.incr k1 (by have hreach : reach = 140737488355328 := rfl; omega) rfl rfl rfl ?_
          exact BK.mk' _ ⟨k1 + 1, o4, G8, rfl, (hle5.trans ((hle6.trans hle7).trans hle8)), hS14, (Row.cast hr7 (by (exact exN_step (by assumption) (exStep_yes (by assumption) (by assumption)).symm))), ⟨rfl, rfl, rfl, rfl, rfl, trivial⟩, (by omega)⟩ (show (grp a).length - (k1 + 1) < (grp a).length - k1 by omega)
        refine WL.storeR (hr3.mono ((hle6.trans hle7).trans hle8)) ra2 hS13 0 rfl (by omega) rfl 1 _ [r7] (Group.mk x1.v (combR 3 x1.t x2.t)) [v5, r7] hs8.cells1 ti111 rfl (Nat.le_of_ble_eq_true rfl) (by simp only [List.all_cons, List.all_nil, hs8.oneC, Bool.true_and] <;> rfl) rfl (GroupE_mk (Group.mk x1.v (combR 3 x1.t x2.t)) (hs6.mono hle8) hs8) rfl rfl rfl (fun o5 w11 hr8 hS15 => ?_)
        refine ⟨fun h => absurd h (by decide), ?_⟩
        refine TG.fork 0 [12] [12] rfl rfl (by decide) (by decide) (TA.cons rfl ?_ TA.nil)
        refine WL.extract _ _ rfl rfl rfl ?_
        refine ⟨fun h => absurd h (by decide), ?_⟩
        refine TG.fin rfl ?_
        refine WL.incr k1 (by have hreach : reach = 140737488355328 := rfl; omega) rfl rfl rfl ?_
        exact BK.mk' _ ⟨k1 + 1, o5, G8, rfl, (hle5.trans ((hle6.trans hle7).trans hle8)), hS15, (Row.cast hr8 (by (exact exN_step (by assumption) (exStep_yes (by assumption) (by assumption)).symm))), ⟨rfl, rfl, rfl, rfl, rfl, trivial⟩, (by omega)⟩ (show (grp a).length - (k1 + 1) < (grp a).length - k1 by omega)
      refine WL.extract _ _ rfl rfl rfl ?_
      refine ⟨fun h => absurd h (by decide), ?_⟩
      refine TG.fork 1 [11, 15] [11] rfl rfl (by decide) (by decide) (TA.cons rfl ?_ TA.nil)
      refine WL.extract _ _ rfl rfl rfl ?_
      refine ⟨fun h => absurd h (by decide), ?_⟩
      refine TG.fork 0 [15] [15] rfl rfl (by decide) (by decide) (TA.cons rfl ?_ TA.nil)
      refine WL.storeR (hr3.mono ((hle6.trans hle7).trans hle8)) ra2 hS13 0 rfl (by omega) rfl 1 _ [r7] (Group.mk x1.v (combR 3 x1.t x2.t)) [v5, r7] hs8.cells1 ti111 rfl (Nat.le_of_ble_eq_true rfl) (by simp only [List.all_cons, List.all_nil, hs8.oneC, Bool.true_and] <;> rfl) rfl (GroupE_mk (Group.mk x1.v (combR 3 x1.t x2.t)) (hs6.mono hle8) hs8) rfl rfl rfl (fun o6 w12 hr9 hS16 => ?_)
      refine ⟨fun h => absurd h (by decide), ?_⟩
      refine TG.fin rfl ?_
      refine WL.incr k1 (by have hreach : reach = 140737488355328 := rfl; omega) rfl rfl rfl ?_
      exact BK.mk' _ ⟨k1 + 1, o6, G8, rfl, (hle5.trans ((hle6.trans hle7).trans hle8)), hS16, (Row.cast hr9 (by (exact exN_step (by assumption) (exStep_yes (by assumption) (by assumption)).symm))), ⟨rfl, rfl, rfl, rfl, rfl, trivial⟩, (by omega)⟩ (show (grp a).length - (k1 + 1) < (grp a).length - k1 by omega)
    refine set1 (d := 36) (congrArg (fun b9 => Value.tuple #[.int .i64 (((posG (grp b) x1.v) : Nat) : Int), .bool b9]) h3) ?_
    refine WL.incr k1 (by have hreach : reach = 140737488355328 := rfl; omega) rfl rfl rfl ?_
    exact BK.mk' _ ⟨k1 + 1, o3, G7, rfl, (hle5.trans (hle6.trans hle7)), hS11, (Row.cast (hr3.mono (hle6.trans hle7)) (by (exact exN_skip (by assumption) (exStep_no (by assumption))))), ⟨rfl, rfl, rfl, rfl, rfl, trivial⟩, (by omega)⟩ (show (grp a).length - (k1 + 1) < (grp a).length - k1 by omega)
  obtain ⟨G9, hle9, hs9, hS17⟩ := Row.freeze hr3 hS7 0 rfl
  refine WL.cA hS17 hb83 rfl rfl rfl (c_listed hS17.imm (exN (grp b) (grp a) k1) _ hs9 (by rw [exN_all (by omega)]; exact Nat.le_trans (exc_len hv9.1 hv9.2) (by decide))) ?_
  rintro w13 G10 _ ⟨r10, _, rfl, hs10, rfl⟩ hS18 hle10
  refine splitB (fun (h4 : (fitB (listedL (exN (grp b) (grp a) k1))) = true) => ?_) (fun (h4 : (fitB (listedL (exN (grp b) (grp a) k1))) = false) => ?_)
  · refine set1 (d := 58) (congrArg (fun b9 => Value.tuple #[r10, .bool b9]) h4) ?_
    exact RT hS18 rfl ⟨_, _, rfl, (Sl.cast hs10 (by exact (exc_3 (k := k1) (by assumption) (by omega) (by assumption)).1.symm)), (congrArg (Value.int .i64) (by exact (exc_3 (k := k1) (by assumption) (by omega) (by assumption)).2.symm))⟩
  refine set1 (d := 58) (congrArg (fun b9 => Value.tuple #[r10, .bool b9]) h4) ?_
  exact RT hS18 rfl ⟨_, _, rfl, (Sl.cast (Sl.nil FactE 40 G10) (by exact (exc_2 (k := k1) (by assumption) (by omega) (by assumption)).1.symm)), (congrArg (Value.int .i64) (by exact (exc_2 (k := k1) (by assumption) (by omega) (by assumption)).2.symm))⟩
end Go.Civ
set_option linter.unusedVariables false
set_option linter.unusedSimpArgs false
set_option maxRecDepth 100000
set_option maxHeartbeats 4000000
namespace Go.Civ
open Go.Proofs


theorem c_Union {G : GH} {w : World} (hG : G.In w) (a b : List Fact) (va : Value) (hva : Sl FactE 40 G va a) (vb : Value) (hvb : Sl FactE 40 G vb b)  : CL Tryz.prog (nat_lit 21) #[va, vb] [] w G fun G' _ r => ∃ r0 r1, r = .tuple #[r0, r1] ∧ Sl FactE 40 G' r0 (unionL a b) ∧ r1 = .int .i64 (unionE a b) := by
  refine calls_of_go ft [] Tryz.func21 rfl rfl ?_
  have hS := St.start (X := []) hG
  refine WL.cV hS hb73 rfl rfl rfl (c_pair hS.imm a b _ hva _ hvb ) (fun w1 G1 hS1 hle1 => ?_)
  refine WL.neqS (pairE a b) 0 rfl rfl rfl (fun h1 => ?_) (fun h1 => ?_)
  · exact RT hS1 rfl ⟨_, _, rfl, (Sl.cast (Sl.nil FactE 40 G1) (by exact (union_no (by assumption)).1.symm)), (congrArg (Value.int .i64) (by exact (union_no (by assumption)).2.symm))⟩
  have hv9 := pairE_valid (by assumption : pairE a b = 0)
  have hgl9 := grp_len hv9.1
  have hgk9 := grp_len hv9.2
  have hal9 := valid_le hv9.1
  have hbl9 := valid_le hv9.2
  refine WL.buildSlice _ [(0, [va]), (1, [vb])] [va, vb] hS1 sl89 rfl rfl rfl (by show [(0, (va : Value).cells.toList), (1, (vb : Value).cells.toList)] = _; simp only [(hva.mono hle1).cells1, (hvb.mono hle1).cells1] <;> rfl) (fun z hz => by match z, hz with | [z0, z1], _ => rfl) (fun b1 w2 hn1 hS2 => ?_)
  obtain ⟨G2, hle2, hs1, hS3⟩ := St.sealSl (E := (FactE.slice 40)) (by_ := 24) (l := ([a, b] : List (List Fact))) hS2 hn1 ⟨[va], _, rfl, ⟨_, rfl, (hva.mono hle1)⟩, ⟨[vb], _, rfl, ⟨_, rfl, (hvb.mono hle1)⟩, rfl⟩⟩ rfl (by simp [reach]) (by simp [reach])
  refine WL.cA hS3 hb74 rfl rfl rfl (c_ConcatF hS3.imm [a, b] _ hs1 (by simp only [List.flatten_cons, List.flatten_nil, List.length_append, List.length_nil]; omega)) (fun w3 G3 r1 hpost1 hS4 hle3 => ?_)
  refine WL.cA hS4 hb61 rfl rfl rfl (c_finished hS4.imm ([a, b].flatten) _ hpost1 (by simpa using good_append (good_of_valid hv9.1) (good_of_valid hv9.2)) (by simp only [List.flatten_cons, List.flatten_nil, List.length_append, List.length_nil]; omega)) ?_
  rintro w4 G4 _ ⟨r3, _, rfl, hs2, rfl⟩ hS5 hle4
  exact RT hS5 rfl ⟨_, _, rfl, (Sl.cast hs2 (by exact (union_yes (by assumption)).1.symm)), (congrArg (Value.int .i64) (by exact (union_yes (by assumption)).2.symm))⟩

theorem c_During {G : GH} {w : World} (hG : G.In w) (l : List Fact) (s : Span) (vl : Value) (hvl : Sl FactE 40 G vl l) (cs : List Value) (hcs : SpanE.rep G s cs)  : CL Tryz.prog (nat_lit 24) #[vl, .agg cs.toArray] [] w G fun G' _ r => ∃ r0 r1, r = .tuple #[r0, r1] ∧ Sl FactE 40 G' r0 (durL l s) ∧ r1 = .int .i64 (durE l s) := by
  refine calls_of_go ft [] Tryz.func24 rfl rfl ?_
  have hS := St.start (X := []) hG
  obtain ⟨rfl, hb1, hb2⟩ := SpanE_open hcs
  refine WL.boxG [.int .i64 s.a, .int .i64 s.b] _ hS rfl rfl rfl (fun p1 w1 G1 hle1 hsp1 hc1 hS1 => ?_)
  refine WL.cV hS1 hb57 rfl rfl rfl (c_valid hS1.imm l _ (hvl.mono hle1) ) (fun w2 G2 hS2 hle2 => ?_)
  refine WL.split (fun (h1 : (validB l) = true) => ?_) (fun (h1 : (validB l) = false) => ?_)
  · refine WL.loadGAt hS2 (hc1.mono hle2) [.int .i64 s.a, .int .i64 s.b] ti46 rfl rfl rfl rfl rfl ?_
    refine WL.cV hS2 hb84 rfl rfl rfl (c_span hS2.imm s _ (SpanE_mk s hb1 hb2) ) (fun w3 G3 hS3 hle3 => ?_)
    refine WL.split (fun (h2 : (spanB s) = true) => ?_) (fun (h2 : (spanB s) = false) => ?_)
    · have hll9 := valid_le h1
      have bd1 := hvl.bound
      refine WL.lenSl (hvl.mono ((hle1.trans hle2).trans hle3)) ul22 rfl rfl ?_
      have hS5 := hS3.pad
      refine LP.go ft [] (fun m ρ1 w1 => ∃ (k1 : Nat), ∃ (v1 : Value) (o1 : OB), ∃ (G4 : GH), m = l.length - k1 ∧ G3.le G4 ∧ St w [] G G4 [o1] w1 ∧ Row FactE 40 63 G4 v1 (duringF (l.take k1) s) o1 ∧ FR ρ1 [(3, .pointer (some p1)), (6, v1), (19, vl), (20, .int .i64 (l.length : Int)), (21, .int .i64 (k1 : Int))] ∧ k1 ≤ l.length) _ ⟨0, (.slice none 0 0), none, G3, rfl, (G3.le_refl), hS5, (Row.cast (Row.nil FactE 40 63 G3) (by simp [duringF])), ⟨rfl, rfl, rfl, rfl, rfl, trivial⟩, (by omega)⟩ ?_
      rintro m ρ1 w4 ⟨k1, v1, o1, G4, rfl, hle4, hS4, hr1, hF9, f1⟩
      refine hF9.set ?_
      clear hF9
      have hdl := duringF_takeLen l s k1
      refine WL.lssS (k1 : Int) (l.length : Int) rfl rfl rfl (fun h3 => ?_) (fun h3 => ?_)
      · refine WL.indexAddr (hvl.mono (((hle1.trans hle2).trans hle3).trans hle4)) k1 (by omega) ul22 ti63 rfl rfl rfl rfl (fun p2 x1 hx1 he1 => ?_)
        obtain ⟨cs1, hc2, hr2⟩ := he1
        obtain ⟨v2, rfl, hs1, hb3, hb4⟩ := FactE_open hr2
        refine WL.loadGAt hS4 hc2 [v2, .int .i64 x1.t.a, .int .i64 x1.t.b] ti63 rfl rfl rfl rfl rfl ?_
        refine WL.alloc hS4 ti63 rfl rfl (fun b1 w5 hn1 hS6 => ?_)
        refine WL.store hS6 0 _ _ _ 0 _ [v2, .int .i64 x1.t.a, .int .i64 x1.t.b] [v2, .int .i64 x1.t.a, .int .i64 x1.t.b] _ rfl rfl ti63 rfl (Nat.le_of_ble_eq_true rfl) (by simp only [List.all_cons, List.all_nil, hs1.oneC, Bool.true_and] <;> rfl) rfl rfl rfl rfl rfl (fun w6 hS7 => ?_)
        obtain ⟨G5, hle5, hc3, hS8⟩ := hS7.shutB hn1
        refine WL.loadGAt hS8 (Cells.drop 1 hc3) [.int .i64 x1.t.a, .int .i64 x1.t.b] ti46 rfl rfl rfl rfl rfl ?_
        refine WL.loadGAt hS8 (hc1.mono (((hle2.trans hle3).trans hle4).trans hle5)) [.int .i64 s.a, .int .i64 s.b] ti46 rfl rfl rfl rfl rfl ?_
        refine WL.cA hS8 hb85 rfl rfl rfl (c_Meet hS8.imm x1.t s _ (SpanE_mk x1.t hb3 hb4) _ (SpanE_mk s hb1 hb2) ) ?_
        rintro w7 G6 _ ⟨r2, _, rfl, hs2, rfl⟩ hS9 hle6
        obtain ⟨cs2, rfl, hr3⟩ := hs2
        obtain ⟨rfl, hb5, hb6⟩ := SpanE_open hr3
        refine WL.alloc hS9 ti46 rfl rfl (fun b2 w8 hn2 hS10 => ?_)
        refine WL.store hS10 0 _ _ _ 0 _ [.int .i64 ((meetS x1.t s).a), .int .i64 ((meetS x1.t s).b)] [.int .i64 ((meetS x1.t s).a), .int .i64 ((meetS x1.t s).b)] _ rfl rfl ti46 rfl (Nat.le_of_ble_eq_true rfl) rfl rfl rfl rfl rfl rfl (fun w9 hS11 => ?_)
        obtain ⟨G7, hle7, hc4, hS12⟩ := hS11.shutB hn2
        refine setB (d := 31) rfl (fun (h4 : (meetB x1.t s) = true) => ?_) (fun (h4 : (meetB x1.t s) = false) => ?_)
        · refine WL.loadG1 hS12 (Cells.drop 0 (hc3.mono (hle6.trans hle7))) ti61 rfl rfl rfl ?_
          refine WL.loadGAt hS12 hc4 [.int .i64 ((meetS x1.t s).a), .int .i64 ((meetS x1.t s).b)] ti46 rfl rfl rfl rfl rfl ?_
          refine WL.build _ [(0, [v2]), (1, [.int .i64 ((meetS x1.t s).a), .int .i64 ((meetS x1.t s).b)])] [v2, .int .i64 ((meetS x1.t s).a), .int .i64 ((meetS x1.t s).b)] ti63 rfl fl63 rfl rfl (by show [(0, (v2 : Value).cells.toList), (1, (.agg #[.int .i64 ((meetS x1.t s).a), .int .i64 ((meetS x1.t s).b)] : Value).cells.toList)] = _; simp only [(hs1.mono ((hle5.trans hle6).trans hle7)).cells1] <;> rfl) rfl ?_
          refine WL.buildSlice _ [(0, [v2, .int .i64 ((meetS x1.t s).a), .int .i64 ((meetS x1.t s).b)])] [v2, .int .i64 ((meetS x1.t s).a), .int .i64 ((meetS x1.t s).b)] hS12 sl22 rfl rfl rfl rfl (fun z hz => by match z, hz with | [z0, z1, z2], _ => rfl) (fun b3 w10 hn3 hS13 => ?_)
          refine WL.push (m := ([(Fact.mk x1.v (Span.mk ((meetS x1.t s).a) ((meetS x1.t s).b)))] : List Fact)) sl22 rfl rfl rfl (hr1.mono ((hle5.trans hle6).trans hle7)) hS13 1 rfl 0 _ _ _ _ _ rfl ⟨[v2, .int .i64 ((meetS x1.t s).a), .int .i64 ((meetS x1.t s).b)], _, rfl, (FactE_mk (Fact.mk x1.v (Span.mk ((meetS x1.t s).a) ((meetS x1.t s).b))) (hs1.mono ((hle5.trans hle6).trans hle7)) hb5 hb6), rfl⟩ rfl (by have hreach : reach = 140737488355328 := rfl; simp only [List.length_cons, List.length_nil]; omega) (by have hreach : reach = 140737488355328 := rfl; simp only [List.length_cons, List.length_nil]; omega) rfl rfl rfl (fun v3 o2 w11 hr4 hS14 => ?_)
          have hS15 := hS14.tail
          refine WL.incr k1 (by have hreach : reach = 140737488355328 := rfl; omega) rfl rfl rfl ?_
          exact BK.mk' _ ⟨k1 + 1, v3, o2, G7, rfl, (hle4.trans ((hle5.trans hle6).trans hle7)), hS15, (Row.cast hr4 (by (exact (duringF_yes (by assumption) (by assumption)).symm))), ⟨rfl, rfl, rfl, rfl, rfl, trivial⟩, (by omega)⟩ (show l.length - (k1 + 1) < l.length - k1 by omega)
        refine WL.incr k1 (by have hreach : reach = 140737488355328 := rfl; omega) rfl rfl rfl ?_
        exact BK.mk' _ ⟨k1 + 1, v1, o1, G7, rfl, (hle4.trans ((hle5.trans hle6).trans hle7)), hS12, (Row.cast (hr1.mono ((hle5.trans hle6).trans hle7)) (by (exact (duringF_no (by assumption) (by assumption)).symm))), ⟨rfl, rfl, rfl, rfl, rfl, trivial⟩, (by omega)⟩ (show l.length - (k1 + 1) < l.length - k1 by omega)
      obtain ⟨G8, hle8, hs3, hS16⟩ := Row.freeze hr1 hS4 0 rfl
      refine WL.cA hS16 hb61 rfl rfl rfl (c_finished hS16.imm (duringF (l.take k1) s) _ hs3 (by rw [duringF_all (by omega)]; exact duringF_good (good_of_valid h1)) (by omega)) ?_
      rintro w12 G9 _ ⟨r5, _, rfl, hs4, rfl⟩ hS17 hle9
      exact RT hS17 rfl ⟨_, _, rfl, (Sl.cast hs4 (by (rw [duringF_all (by omega)]; exact (dur_yes h1 h2).1.1.symm))), (congrArg (Value.int .i64) (by (rw [duringF_all (by omega)]; exact (dur_yes h1 h2).1.2.symm)))⟩
    exact RT hS3 rfl ⟨_, _, rfl, (Sl.cast (Sl.nil FactE 40 G3) (by exact (dur_no (.inr (by assumption))).1.1.symm)), (congrArg (Value.int .i64) (by exact (dur_no (.inr (by assumption))).1.2.symm))⟩
  exact RT hS2 rfl ⟨_, _, rfl, (Sl.cast (Sl.nil FactE 40 G2) (by exact (dur_no (.inl (by assumption))).1.1.symm)), (congrArg (Value.int .i64) (by exact (dur_no (.inl (by assumption))).1.2.symm))⟩
end Go.Civ
