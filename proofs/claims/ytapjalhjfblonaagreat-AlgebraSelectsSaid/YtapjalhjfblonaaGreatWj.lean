/- Walks, printed by specs38.py. -/
import Derived.Test.YtapjalhjfblonaaGreatProg
import Derived.KernelRfl
import Derived.WalkKit
import Derived.Test.YtapjalhjfblonaaGreatWi
import Derived.Test.YtapjalhjfblonaaGreatCiv17
import Derived.Test.YtapjalhjfblonaaGreatCiv19
set_option linter.unusedVariables false
set_option linter.unusedSimpArgs false
set_option maxRecDepth 100000
set_option maxHeartbeats 4000000
namespace Go.Civ
open Go.Proofs


theorem c_rSame (G : GH) (w : World) (hG : G.In w) (a b : List Fact) (va : Value) (hva : Sl FactE 40 G va a) (vb : Value) (hvb : Sl FactE 40 G vb b)  : Calls Tryz.prog (nat_lit 30) #[va, vb] w fun e w' => ∃ r G', e = .returned r ∧ Res [] w G w' G' ∧ r = .bool (decide (a = b)) := by
 refine calls_of_WC (N := 42) Tryz.func30 rfl rfl rfl ?_
 have hS := St.start (X := []) hG
 refine WC.seq <| WC.region rfl <| WL.assign rfl <| WL.nil <| WC.seq <| WC.seq <| WC.region rfl <| WL.move rfl ?_
 have bd1 := hva.bound
 refine WL.lenSl hva ul22 rfl rfl <| WL.move rfl ?_
 have bd2 := hvb.bound
 refine WL.lenSl hvb ul22 rfl rfl ?_
 refine WL.neqS (a.length : Int) (b.length : Int) rfl rfl rfl (fun h1 => ?_) (fun h1 => ?_)
 ·refine WL.nil <| WC.condT rfl <| WC.seq <| WC.region rfl <| WL.assign rfl <| WL.nil <| WC.ret ?_
  exact ⟨_, rfl, _, _, rfl, hS.res, (congrArg Value.bool (by rw [← eqF_eq]; exact (eqF_len (by omega)).symm))⟩
 refine WL.nil <| WC.condF rfl <| WC.skip <| WC.seq <| WC.seq <| WC.region rfl <| WL.assign rfl <| WL.nil <| WC.block ?_
 refine WC.loop (γ := Nat) (fun m ρ1 w1 => ∃ (k1 : Nat), ∃ (G1 : GH), m = a.length - k1 ∧ G.le G1 ∧ St w [] G G1 [] w1 ∧ ρ1 0 = va ∧ ρ1 1 = vb ∧ ρ1 5 = .int .i64 (k1 : Int) ∧ k1 ≤ a.length ∧ ∀ j, j < k1 → ∀ x y, a[j]? = some x → b[j]? = some y → decide (x = y) = true) (fun m => m) _ ⟨0, G, rfl, (G.le_refl), hS, rfl, rfl, rfl, (by omega), (by intro j hj; omega)⟩ ?_
 rintro m ρ1 w1 ⟨k1, G1, rfl, hle1, hS1, e1, e2, e3, f1, f2⟩
 refine WC.set (d := 0) e1 <| WC.set (d := 1) e2 <| WC.set (d := 5) e3 <| WC.seq <| WC.seq <| WC.region rfl <| WL.move rfl <| WL.move rfl ?_
 have bd3 := hva.bound
 refine WL.lenSl (hva.mono hle1) ul22 rfl rfl ?_
 refine WL.lssS (k1 : Int) (a.length : Int) rfl rfl rfl (fun h2 => ?_) (fun h2 => ?_)
 ·refine WL.nil <| WC.condT rfl <| WC.skip <| WC.seq <| WC.block <| WC.seq ?_
  obtain ⟨p1, x1, hx1, he1, ep1⟩ := Sl.at (hva.mono hle1) k1 (by omega)
  obtain ⟨cs1, hc1, hr1⟩ := he1
  obtain ⟨v1, rfl, hs1, hb1, hb2⟩ := FactE_open hr1
  obtain ⟨p2, x2, hx2, he2, ep2⟩ := Sl.at (hvb.mono hle1) k1 (by omega)
  obtain ⟨cs2, hc2, hr2⟩ := he2
  obtain ⟨v2, rfl, hs2, hb3, hb4⟩ := FactE_open hr2
  rcases Bool.eq_false_or_eq_true (decide (x1.v = x2.v)) with h3 | h3
  ·obtain ⟨p3, x3, hx3, he3, ep3⟩ := Sl.at (hva.mono hle1) k1 (by omega)
   obtain rfl : x1 = x3 := Option.some.inj (hx1.symm.trans hx3)
   obtain ⟨cs3, hc3, hr3⟩ := he3
   obtain ⟨v3, rfl, hs3, hb5, hb6⟩ := FactE_open hr3
   obtain ⟨p4, x4, hx4, he4, ep4⟩ := Sl.at (hvb.mono hle1) k1 (by omega)
   obtain rfl : x2 = x4 := Option.some.inj (hx2.symm.trans hx4)
   obtain ⟨cs4, hc4, hr4⟩ := he4
   obtain ⟨v4, rfl, hs4, hb7, hb8⟩ := FactE_open hr4
   rcases Classical.em (x1.t = x2.t) with h4 | h4
   ·refine dr ⟨[0, 0, 3, 7, 15, 0, 0, 96, 224, 480, 1023, 2047, 4095, 8191, 8191, 32767, 65535, 131071, 8191, 8191, 794623, 1843199, 3940351, 8388607, 16777215], [0, 1, 2, 3, 5, 6, 7, 8, 11, 12, 13, 14, 15, 16, 18, 19, 20, 21, 23, 24], [4, 9, 17, 22], [10], []⟩ [(17, va), (18, .int .i64 (k1 : Int)), (19, .pointer (some p1)), (20, .pointer (some (p1.add 0))), (22, vb), (23, .int .i64 (k1 : Int)), (24, .pointer (some p2)), (25, .pointer (some (p2.add 0))), (28, .bool false), (29, .bool false), (30, va), (31, .int .i64 (k1 : Int)), (32, .pointer (some p3)), (33, .pointer (some (p3.add 1))), (35, vb), (36, .int .i64 (k1 : Int)), (37, .pointer (some p4)), (38, .pointer (some (p4.add 1))), (40, .bool false), (41, .bool false), (21, v1), (26, v2), (34, .agg #[.int .i64 x1.t.a, .int .i64 x1.t.b]), (39, .agg #[.int .i64 x2.t.a, .int .i64 x2.t.b]), (27, .bool true)] [] hS1 ?_ ?_ ?_ (fun w8 hS2 => ?_)
    ·exact ⟨fun _ _ => WL.move rfl <| WL.nu rfl, fun _ _ => WL.move rfl <| WL.nu rfl, fun _ _ => WL.indexAddrP k1 ep1 ul22 ti63 rfl rfl rfl rfl <| WL.nu rfl, fun _ _ => WL.fieldAddr _ 0 _ fl63 rfl rfl rfl <| WL.nu rfl, fun _ _ => WL.move rfl <| WL.nu rfl, fun _ _ => WL.move rfl <| WL.nu rfl, fun _ _ => WL.indexAddrP k1 ep2 ul22 ti63 rfl rfl rfl rfl <| WL.nu rfl, fun _ _ => WL.fieldAddr _ 0 _ fl63 rfl rfl rfl <| WL.nu rfl, fun _ _ => WL.not true rfl rfl <| WL.nu rfl, fun _ _ => WL.move rfl <| WL.nu rfl, fun _ _ => WL.move rfl <| WL.nu rfl, fun _ _ => WL.move rfl <| WL.nu rfl, fun _ _ => WL.indexAddrP k1 ep3 ul22 ti63 rfl rfl rfl rfl <| WL.nu rfl, fun _ _ => WL.fieldAddr _ 1 _ fl63 rfl rfl rfl <| WL.nu rfl, fun _ _ => WL.move rfl <| WL.nu rfl, fun _ _ => WL.move rfl <| WL.nu rfl, fun _ _ => WL.indexAddrP k1 ep4 ul22 ti63 rfl rfl rfl rfl <| WL.nu rfl, fun _ _ => WL.fieldAddr _ 1 _ fl63 rfl rfl rfl <| WL.nu rfl, fun _ _ => WL.aggEqNV false (SpanEq46 x1.t x2.t) eqg46 (by simp [h4]) rfl rfl rfl <| WL.nu rfl, fun _ _ => WL.pickF rfl rfl <| WL.nu rfl, trivial⟩
    ·exact ⟨fun _ hSw => WL.loadG1 hSw (Cells.drop 0 hc1) ti61 rfl rfl rfl <| WL.nu rfl, fun _ hSw => WL.loadG1 hSw (Cells.drop 0 hc2) ti61 rfl rfl rfl <| WL.nu rfl, fun _ hSw => WL.loadGAt hSw (Cells.drop 1 hc3) [.int .i64 x1.t.a, .int .i64 x1.t.b] ti46 rfl rfl rfl rfl rfl <| WL.nu rfl, fun _ hSw => WL.loadGAt hSw (Cells.drop 1 hc4) [.int .i64 x2.t.a, .int .i64 x2.t.b] ti46 rfl rfl rfl rfl rfl <| WL.nu rfl, trivial⟩
    ·exact ⟨fun _ hSw => WL.callD [v1, v2] #[] hb88 rfl rfl rfl hSw (c_Same _ _ hSw.imm x1.v x2.v _ hs1 _ hs2 ) (congrArg Value.bool h3.symm), trivial⟩
    refine WC.condF rfl <| WC.skip <| WC.region rfl <| WL.move rfl ?_
    refine WL.incr k1 (by have hreach : reach = 140737488355328 := rfl; omega) rfl rfl rfl ?_
    refine WL.assign rfl <| WL.nil ?_
    exact ⟨_, ⟨k1 + 1, G1, rfl, hle1, hS2, rfl, rfl, rfl, (by omega), (by exact lt_step2 (by assumption) (by assumption) (by assumption) (decide_eq_true (fact_eq (by simp_all) (by simp_all))))⟩, (show a.length - (k1 + 1) < a.length - k1 by omega)⟩
   refine dr ⟨[0, 0, 3, 7, 15, 0, 0, 96, 224, 480, 1023, 2047, 4095, 8191, 8191, 32767, 65535, 131071, 8191, 8191, 794623, 1843199, 3940351, 8388607, 16777215], [0, 1, 2, 3, 5, 6, 7, 8, 11, 12, 13, 14, 15, 16, 18, 19, 20, 21, 23, 24], [4, 9, 17, 22], [10], []⟩ [(17, va), (18, .int .i64 (k1 : Int)), (19, .pointer (some p1)), (20, .pointer (some (p1.add 0))), (22, vb), (23, .int .i64 (k1 : Int)), (24, .pointer (some p2)), (25, .pointer (some (p2.add 0))), (28, .bool false), (29, .bool false), (30, va), (31, .int .i64 (k1 : Int)), (32, .pointer (some p3)), (33, .pointer (some (p3.add 1))), (35, vb), (36, .int .i64 (k1 : Int)), (37, .pointer (some p4)), (38, .pointer (some (p4.add 1))), (40, .bool true), (41, .bool true), (21, v1), (26, v2), (34, .agg #[.int .i64 x1.t.a, .int .i64 x1.t.b]), (39, .agg #[.int .i64 x2.t.a, .int .i64 x2.t.b]), (27, .bool true)] [] hS1 ?_ ?_ ?_ (fun w8 hS3 => ?_)
   ·exact ⟨fun _ _ => WL.move rfl <| WL.nu rfl, fun _ _ => WL.move rfl <| WL.nu rfl, fun _ _ => WL.indexAddrP k1 ep1 ul22 ti63 rfl rfl rfl rfl <| WL.nu rfl, fun _ _ => WL.fieldAddr _ 0 _ fl63 rfl rfl rfl <| WL.nu rfl, fun _ _ => WL.move rfl <| WL.nu rfl, fun _ _ => WL.move rfl <| WL.nu rfl, fun _ _ => WL.indexAddrP k1 ep2 ul22 ti63 rfl rfl rfl rfl <| WL.nu rfl, fun _ _ => WL.fieldAddr _ 0 _ fl63 rfl rfl rfl <| WL.nu rfl, fun _ _ => WL.not true rfl rfl <| WL.nu rfl, fun _ _ => WL.move rfl <| WL.nu rfl, fun _ _ => WL.move rfl <| WL.nu rfl, fun _ _ => WL.move rfl <| WL.nu rfl, fun _ _ => WL.indexAddrP k1 ep3 ul22 ti63 rfl rfl rfl rfl <| WL.nu rfl, fun _ _ => WL.fieldAddr _ 1 _ fl63 rfl rfl rfl <| WL.nu rfl, fun _ _ => WL.move rfl <| WL.nu rfl, fun _ _ => WL.move rfl <| WL.nu rfl, fun _ _ => WL.indexAddrP k1 ep4 ul22 ti63 rfl rfl rfl rfl <| WL.nu rfl, fun _ _ => WL.fieldAddr _ 1 _ fl63 rfl rfl rfl <| WL.nu rfl, fun _ _ => WL.aggEqNV true (SpanEq46 x1.t x2.t) eqg46 (by simp [h4]) rfl rfl rfl <| WL.nu rfl, fun _ _ => WL.pickF rfl rfl <| WL.nu rfl, trivial⟩
   ·exact ⟨fun _ hSw => WL.loadG1 hSw (Cells.drop 0 hc1) ti61 rfl rfl rfl <| WL.nu rfl, fun _ hSw => WL.loadG1 hSw (Cells.drop 0 hc2) ti61 rfl rfl rfl <| WL.nu rfl, fun _ hSw => WL.loadGAt hSw (Cells.drop 1 hc3) [.int .i64 x1.t.a, .int .i64 x1.t.b] ti46 rfl rfl rfl rfl rfl <| WL.nu rfl, fun _ hSw => WL.loadGAt hSw (Cells.drop 1 hc4) [.int .i64 x2.t.a, .int .i64 x2.t.b] ti46 rfl rfl rfl rfl rfl <| WL.nu rfl, trivial⟩
   ·exact ⟨fun _ hSw => WL.callD [v1, v2] #[] hb88 rfl rfl rfl hSw (c_Same _ _ hSw.imm x1.v x2.v _ hs1 _ hs2 ) (congrArg Value.bool h3.symm), trivial⟩
   refine WC.condT rfl <| WC.seq <| WC.region rfl <| WL.assign rfl <| WL.nil <| WC.ret ?_
   exact ⟨_, rfl, _, _, rfl, hS3.res, (congrArg Value.bool (by rw [← eqF_eq]; exact (eqF_no (f := fun (x y : Fact) => decide (x = y)) (by assumption) (by assumption) (decide_eq_false (fact_ne (by simp_all)))).symm))⟩
  refine dr ⟨[0, 0, 3, 7, 15, 0, 0, 96, 224, 480, 1023, 2047, 4095, 8191, 8191, 32767, 65535, 131071, 8191, 8191, 794623, 1843199, 3940351, 8388607, 16777215], [0, 1, 2, 3, 5, 6, 7, 8, 11, 12, 13, 14, 15, 16, 18, 19, 20, 21, 23, 24], [4, 9, 17, 22], [10], []⟩ [(17, va), (18, .int .i64 (k1 : Int)), (19, .pointer (some p1)), (20, .pointer (some (p1.add 0))), (22, vb), (23, .int .i64 (k1 : Int)), (24, .pointer (some p2)), (25, .pointer (some (p2.add 0))), (28, .bool true), (29, .bool true), (30, undef), (31, undef), (32, undef), (33, undef), (35, undef), (36, undef), (37, undef), (38, undef), (40, undef), (41, .bool true), (21, v1), (26, v2), (34, undef), (39, undef), (27, .bool false)] [] hS1 ?_ ?_ ?_ (fun w8 hS4 => ?_)
  ·exact ⟨fun _ _ => WL.move rfl <| WL.nu rfl, fun _ _ => WL.move rfl <| WL.nu rfl, fun _ _ => WL.indexAddrP k1 ep1 ul22 ti63 rfl rfl rfl rfl <| WL.nu rfl, fun _ _ => WL.fieldAddr _ 0 _ fl63 rfl rfl rfl <| WL.nu rfl, fun _ _ => WL.move rfl <| WL.nu rfl, fun _ _ => WL.move rfl <| WL.nu rfl, fun _ _ => WL.indexAddrP k1 ep2 ul22 ti63 rfl rfl rfl rfl <| WL.nu rfl, fun _ _ => WL.fieldAddr _ 0 _ fl63 rfl rfl rfl <| WL.nu rfl, fun _ _ => WL.not false rfl rfl <| WL.nu rfl, fun _ _ => WL.move rfl <| WL.nu rfl, fun _ _ => WL.no rfl rfl <| WL.nu rfl, fun _ _ => WL.no rfl rfl <| WL.nu rfl, fun _ _ => WL.no rfl rfl <| WL.nu rfl, fun _ _ => WL.no rfl rfl <| WL.nu rfl, fun _ _ => WL.no rfl rfl <| WL.nu rfl, fun _ _ => WL.no rfl rfl <| WL.nu rfl, fun _ _ => WL.no rfl rfl <| WL.nu rfl, fun _ _ => WL.no rfl rfl <| WL.nu rfl, fun _ _ => WL.no rfl rfl <| WL.nu rfl, fun _ _ => WL.pickT rfl rfl <| WL.nu rfl, trivial⟩
  ·exact ⟨fun _ hSw => WL.loadG1 hSw (Cells.drop 0 hc1) ti61 rfl rfl rfl <| WL.nu rfl, fun _ hSw => WL.loadG1 hSw (Cells.drop 0 hc2) ti61 rfl rfl rfl <| WL.nu rfl, fun _ _ => WL.no rfl rfl <| WL.nu rfl, fun _ _ => WL.no rfl rfl <| WL.nu rfl, trivial⟩
  ·exact ⟨fun _ hSw => WL.callD [v1, v2] #[] hb88 rfl rfl rfl hSw (c_Same _ _ hSw.imm x1.v x2.v _ hs1 _ hs2 ) (congrArg Value.bool h3.symm), trivial⟩
  refine WC.condT rfl <| WC.seq <| WC.region rfl <| WL.assign rfl <| WL.nil <| WC.ret ?_
  exact ⟨_, rfl, _, _, rfl, hS4.res, (congrArg Value.bool (by rw [← eqF_eq]; exact (eqF_no (f := fun (x y : Fact) => decide (x = y)) (by assumption) (by assumption) (decide_eq_false (fact_ne (by simp_all)))).symm))⟩
 refine WL.nil <| WC.condF rfl <| WC.exit <| WC.seq <| WC.region rfl <| WL.assign rfl <| WL.nil <| WC.ret ?_
 exact ⟨_, rfl, _, _, rfl, hS1.res, (congrArg Value.bool (by rw [← eqF_eq]; exact (eqF_yes (by omega) (by assumption) (by omega)).symm))⟩

theorem c_fact (G : GH) (w : World) (hG : G.In w) (a b : Int) (l : List Int) (vl : Value) (hvl : Sl Enc.int 8 G vl l) (ha : I64 a) (hb : I64 b) (h9 : l.length ≤ 1000) : Calls Tryz.prog (nat_lit 51) #[.int .i64 a, .int .i64 b, vl] w fun e w' => ∃ r G', e = .returned r ∧ Res [] w G w' G' ∧ Is FactE G' r (factL a b l) := by
 refine calls_of_WCR (N := 29) Tryz.func51 rfl rfl rfl ?_
 have hS := St.start (X := []) hG
 refine WC.seq <| WC.region rfl ?_
 refine WL.alloc hS ti63 rfl rfl (fun b1 w1 hn1 hS1 => ?_)
 refine WL.nil <| WC.seq <| WC.region rfl <| WL.move rfl <| WL.move rfl <| WL.build _ [(0, [.int .i64 a]), (1, [.int .i64 b])] [.int .i64 a, .int .i64 b] ti46 rfl fl46 rfl rfl rfl rfl <| WL.build _ [(1, [.int .i64 a, .int .i64 b])] [.slice none 0 0, .int .i64 a, .int .i64 b] ti63 rfl fl63 rfl rfl rfl rfl ?_
 refine WL.alloc hS1 ti63 rfl rfl (fun b2 w2 hn2 hS2 => ?_)
 refine WL.store hS2 0 _ _ _ 0 _ [.slice none 0 0, .int .i64 a, .int .i64 b] [.slice none 0 0, .int .i64 a, .int .i64 b] _ rfl rfl ti63 rfl (Nat.le_of_ble_eq_true rfl) rfl rfl rfl rfl rfl rfl (fun w3 hS3 => ?_)
 refine WL.nil <| WC.seq <| WC.seq <| WC.region rfl <| WL.move rfl ?_
 have bd1 := hvl.bound
 refine WL.lenSl hvl ul38 rfl rfl <| WL.move rfl <| WL.nil <| WC.block ?_
 have hS5 := hS3.pad
 refine WC.loop (γ := Nat) (fun m ρ1 w1 => ∃ (k1 : Nat), ∃ (v1 : Value) (o1 : OB), ∃ (G1 : GH), m = l.length - k1 ∧ G.le G1 ∧ St w [] G G1 [o1, some (b2, 63, [v1, .int .i64 a, .int .i64 b]), some (b1, 63, [.slice none 0 0, .int .i64 0, .int .i64 0])] w1 ∧ Row ValE 32 34 G1 v1 ((l.take k1).map (fun n => Val.mk 1 n [])) o1 ∧ ρ1 6 = .pointer (some ⟨b1, 0, none⟩) ∧ ρ1 7 = .pointer (some ⟨b2, 0, none⟩) ∧ ρ1 14 = vl ∧ ρ1 15 = .int .i64 (l.length : Int) ∧ ρ1 16 = .int .i64 (k1 : Int) ∧ k1 ≤ l.length) (fun m => m) _ ⟨0, (.slice none 0 0), none, G, rfl, (G.le_refl), hS5, (Row.nil ValE 32 34 G), rfl, rfl, rfl, rfl, rfl, (by omega)⟩ ?_
 rintro m ρ1 w4 ⟨k1, v1, o1, G1, rfl, hle1, hS4, hr1, e1, e2, e3, e4, e5, f1⟩
 refine WC.set (d := 6) e1 <| WC.set (d := 7) e2 <| WC.set (d := 14) e3 <| WC.set (d := 15) e4 <| WC.set (d := 16) e5 ?_
 have hkt := List.length_take_le k1 l
 refine WC.seq <| WC.region rfl ?_
 refine WL.lssS (k1 : Int) (l.length : Int) rfl rfl rfl (fun h1 => ?_) (fun h1 => ?_)
 ·refine WL.nil <| WC.seq <| WC.condT rfl <| WC.skip <| WC.seq <| WC.block <| WC.seq <| WC.region rfl ?_
  refine WL.indexAddr (hvl.mono hle1) k1 (by omega) ul38 ti3 rfl rfl rfl rfl (fun p1 x1 hx1 he1 => ?_)
  obtain ⟨cs1, hc1, hr2⟩ := he1
  obtain ⟨rfl, hb1⟩ := hr2
  refine WL.loadG1 hS4 hc1 ti3 rfl rfl rfl <| WL.assign rfl <| WL.nil <| WC.region rfl <| WL.fieldAddr _ 0 _ fl63 rfl rfl rfl <| WL.loadO1 hS4 1 _ _ _ 0 _ rfl rfl ti61 rfl rfl rfl <| WL.move rfl <| WL.build _ [(0, [.int .i64 1]), (1, [.int .i64 x1])] [.int .i64 1, .int .i64 x1, strV []] ti34 rfl fl34 rfl rfl rfl rfl ?_
  refine WL.buildSlice _ [(0, [.int .i64 1, .int .i64 x1, strV []])] [.int .i64 1, .int .i64 x1, strV []] hS4 sl61 rfl rfl rfl rfl (fun z hz => by match z, hz with | [z0, z1, z2], _ => rfl) (fun b3 w5 hn3 hS6 => ?_)
  refine WL.push (m := ([(Val.mk 1 x1 [])] : List Val)) sl61 rfl rfl rfl hr1 hS6 1 rfl 0 _ _ _ _ _ rfl ⟨[.int .i64 1, .int .i64 x1, strV []], _, rfl, (ValE_mk (Val.mk 1 x1 []) (show I64 1 from by constructor <;> decide) hb1 (by simp [reach])), rfl⟩ rfl (by have hreach : reach = 140737488355328 := rfl; simp only [List.length_cons, List.length_nil, List.length_map]; omega) (by have hreach : reach = 140737488355328 := rfl; simp only [List.length_cons, List.length_nil, List.length_map]; omega) rfl rfl rfl (fun v2 o2 w6 hr3 hS7 => ?_)
  have hS8 := hS7.tail
  refine WL.fieldAddr _ 0 _ fl63 rfl rfl rfl ?_
  refine WL.store hS8 1 _ _ _ 0 _ [v2] [v2, .int .i64 a, .int .i64 b] _ rfl hr3.cells1 ti61 rfl (Nat.le_of_ble_eq_true rfl) (by simp only [List.all_cons, List.all_nil, hr3.oneC, Bool.true_and] <;> rfl) rfl rfl rfl rfl rfl (fun w7 hS9 => ?_)
  refine WL.nil <| WC.region rfl ?_
  refine WL.incr k1 (by have hreach : reach = 140737488355328 := rfl; omega) rfl rfl rfl ?_
  refine WL.move rfl <| WL.nil ?_
  exact ⟨_, ⟨k1 + 1, v2, o2, G1, rfl, hle1, hS9, (Row.cast hr3 (by (rw [List.take_add_one, List.map_append, (by assumption : l[k1]? = some _)]; rfl))), rfl, rfl, rfl, rfl, rfl, (by omega)⟩, (show l.length - (k1 + 1) < l.length - k1 by omega)⟩
 refine WL.nil <| WC.seq <| WC.condF rfl <| WC.exit <| WC.seq <| WC.region rfl <| WL.loadOA hS4 1 _ _ _ 0 [v1, .int .i64 a, .int .i64 b] rfl rfl rfl ti63 rfl rfl rfl ?_
 refine WL.store hS4 2 _ _ _ 0 _ [v1, .int .i64 a, .int .i64 b] [v1, .int .i64 a, .int .i64 b] _ rfl rfl ti63 rfl (Nat.le_of_ble_eq_true rfl) (by simp only [List.all_cons, List.all_nil, hr1.oneC, Bool.true_and] <;> rfl) rfl rfl rfl rfl rfl (fun w8 hS10 => ?_)
 obtain ⟨G2, hle2, hc2, hS11⟩ := hS10.sealAt 2 rfl hn1
 refine WL.nil <| WC.ret ?_
 obtain ⟨G3, hle3, hs1, hS12⟩ := Row.freeze (hr1.mono hle2) hS11 0 rfl
 exact ⟨[.agg #[v1, .int .i64 a, .int .i64 b]], ⟨_, _, _, rfl, rfl, hS12.loadC (hc2.mono hle3) ti63 rfl rfl, rfl⟩, .agg #[v1, .int .i64 a, .int .i64 b], _, rfl, hS12.res, (Is.cast ⟨_, rfl, (FactE_mk (Fact.mk ((l.take k1).map (fun n => Val.mk 1 n [])) (Span.mk a b)) hs1 ha hb)⟩ (by unfold factL; rw [List.take_of_length_le (by omega)]))⟩

theorem c_Meet (G : GH) (w : World) (hG : G.In w) (a b : Span) (ca : List Value) (hca : SpanE.rep G a ca) (cb : List Value) (hcb : SpanE.rep G b cb)  : Calls Tryz.prog (nat_lit 85) #[.agg ca.toArray, .agg cb.toArray] w fun e w' => ∃ r G', e = .returned r ∧ Res [] w G w' G' ∧ ∃ r0 r1, r = .tuple #[r0, r1] ∧ Is SpanE G' r0 (meetS a b) ∧ r1 = .bool (meetB a b) := by
 refine calls_of_WCR (N := 35) Tryz.func85 rfl rfl rfl ?_
 have hS := St.start (X := []) hG
 obtain ⟨rfl, hb1, hb2⟩ := SpanE_open hca
 obtain ⟨rfl, hb3, hb4⟩ := SpanE_open hcb
 refine WC.seq <| WC.region rfl ?_
 refine WL.boxG [.int .i64 a.a, .int .i64 a.b] _ hS rfl rfl rfl (fun p1 w1 G1 hle1 hsp1 hc1 hS1 => ?_)
 refine WL.boxG [.int .i64 b.a, .int .i64 b.b] _ hS1 rfl rfl rfl (fun p2 w2 G2 hle2 hsp2 hc2 hS2 => ?_)
 refine WL.alloc hS2 ti46 rfl rfl (fun b1 w3 hn1 hS3 => ?_)
 refine WL.assign rfl <| WL.nil <| WC.seq <| WC.region rfl <| WL.fieldAddr _ 0 _ fl46 rfl rfl rfl <| WL.loadG1 hS3 (Cells.drop 0 (hc1.mono hle2)) ti3 rfl rfl rfl <| WL.fieldAddr _ 0 _ fl46 rfl rfl rfl <| WL.loadG1 hS3 (Cells.drop 0 hc2) ti3 rfl rfl rfl <| WL.maxI a.a b.a rfl rfl rfl <| WL.fieldAddr _ 1 _ fl46 rfl rfl rfl <| WL.loadG1 hS3 (Cells.drop 1 (hc1.mono hle2)) ti3 rfl rfl rfl <| WL.fieldAddr _ 1 _ fl46 rfl rfl rfl <| WL.loadG1 hS3 (Cells.drop 1 hc2) ti3 rfl rfl rfl <| WL.minI a.b b.b rfl rfl rfl <| WL.build _ [(0, [.int .i64 (max a.a b.a)]), (1, [.int .i64 (min a.b b.b)])] [.int .i64 (max a.a b.a), .int .i64 (min a.b b.b)] ti46 rfl fl46 rfl rfl rfl rfl ?_
 refine WL.alloc hS3 ti46 rfl rfl (fun b2 w4 hn2 hS4 => ?_)
 refine WL.store hS4 0 _ _ _ 0 _ [.int .i64 (max a.a b.a), .int .i64 (min a.b b.b)] [.int .i64 (max a.a b.a), .int .i64 (min a.b b.b)] _ rfl rfl ti46 rfl (Nat.le_of_ble_eq_true rfl) rfl rfl rfl rfl rfl rfl (fun w5 hS5 => ?_)
 obtain ⟨G3, hle3, hc3, hS6⟩ := hS5.shutB hn2
 refine WL.nil <| WC.seq <| WC.seq <| WC.region rfl <| WL.loadGAt hS6 (hc1.mono (hle2.trans hle3)) [.int .i64 a.a, .int .i64 a.b] ti46 rfl rfl rfl rfl rfl ?_
 refine WL.callF [.agg #[.int .i64 a.a, .int .i64 a.b]] #[] hb122 rfl rfl rfl ((c_iValid _ _ hS6.imm a _ (SpanE_mk a hb1 hb2) ).mono ?_)
 rintro e w6 ⟨r1, G4, rfl, hres1, hpost1⟩
 refine ⟨_, rfl, ?_⟩
 have hS7 := hS6.call hres1
 have hle4 := hres1.le
 subst hpost1
 refine WL.split (fun (h1 : (spanV a) = true) => ?_) (fun (h1 : (spanV a) = false) => ?_)
 ·refine WL.not true rfl rfl <| WL.move rfl <| WL.loadGAt hS7 (hc2.mono (hle3.trans hle4)) [.int .i64 b.a, .int .i64 b.b] ti46 rfl rfl rfl rfl rfl ?_
  refine WL.callF [.agg #[.int .i64 b.a, .int .i64 b.b]] #[] hb122 rfl rfl rfl ((c_iValid _ _ hS7.imm b _ (SpanE_mk b hb3 hb4) ).mono ?_)
  rintro e w7 ⟨r2, G5, rfl, hres2, hpost2⟩
  refine ⟨_, rfl, ?_⟩
  have hS8 := hS7.call hres2
  have hle5 := hres2.le
  subst hpost2
  refine WL.split (fun (h2 : (spanV b) = true) => ?_) (fun (h2 : (spanV b) = false) => ?_)
  ·refine WL.not true rfl rfl <| WL.pickF rfl rfl <| WL.move rfl <| WL.fieldAddr _ 0 _ fl46 rfl rfl rfl <| WL.loadG1 hS8 (Cells.drop 0 (hc3.mono (hle4.trans hle5))) ti3 rfl rfl rfl <| WL.fieldAddr _ 1 _ fl46 rfl rfl rfl <| WL.loadG1 hS8 (Cells.drop 1 (hc3.mono (hle4.trans hle5))) ti3 rfl rfl rfl ?_
   refine WL.geqS (max a.a b.a) (min a.b b.b) rfl rfl rfl (fun h3 => ?_) (fun h3 => ?_)
   ·refine WL.pickF rfl rfl <| WL.nil <| WC.condT rfl <| WC.seq <| WC.region rfl <| WL.build _ [] [.int .i64 0, .int .i64 0] ti46 rfl fl46 rfl rfl rfl rfl ?_
    refine WL.store hS8 0 _ _ _ 0 _ [.int .i64 0, .int .i64 0] [.int .i64 0, .int .i64 0] _ rfl rfl ti46 rfl (Nat.le_of_ble_eq_true rfl) rfl rfl rfl rfl rfl rfl (fun w8 hS9 => ?_)
    refine WL.assign rfl <| WL.nil <| WC.ret ?_
    exact ⟨[.agg #[.int .i64 0, .int .i64 0], .bool false], ⟨_, _, _, rfl, rfl, hS9.loadA 0 _ _ _ 0 [.int .i64 0, .int .i64 0] rfl rfl rfl ti46 rfl, ⟨_, rfl, rfl⟩⟩, .tuple #[.agg #[.int .i64 0, .int .i64 0], .bool false], _, rfl, hS9.res, (.agg #[.int .i64 0, .int .i64 0]), (.bool false), rfl, (Is.cast ⟨_, rfl, (SpanE_mk (Span.mk 0 0) I64_0 I64_0)⟩ (by exact (meetS_no (.inr (.inr (by assumption)))).symm)), (congrArg Value.bool (by exact (meetB_no (.inr (.inr (by assumption)))).symm))⟩
   refine WL.pickF rfl rfl <| WL.nil <| WC.condF rfl <| WC.skip <| WC.seq <| WC.region rfl <| WL.loadGAt hS8 (hc3.mono (hle4.trans hle5)) [.int .i64 (max a.a b.a), .int .i64 (min a.b b.b)] ti46 rfl rfl rfl rfl rfl ?_
   refine WL.store hS8 0 _ _ _ 0 _ [.int .i64 (max a.a b.a), .int .i64 (min a.b b.b)] [.int .i64 (max a.a b.a), .int .i64 (min a.b b.b)] _ rfl rfl ti46 rfl (Nat.le_of_ble_eq_true rfl) rfl rfl rfl rfl rfl rfl (fun w9 hS10 => ?_)
   refine WL.assign rfl <| WL.nil <| WC.ret ?_
   exact ⟨[.agg #[.int .i64 (max a.a b.a), .int .i64 (min a.b b.b)], .bool true], ⟨_, _, _, rfl, rfl, hS10.loadA 0 _ _ _ 0 [.int .i64 (max a.a b.a), .int .i64 (min a.b b.b)] rfl rfl rfl ti46 rfl, ⟨_, rfl, rfl⟩⟩, .tuple #[.agg #[.int .i64 (max a.a b.a), .int .i64 (min a.b b.b)], .bool true], _, rfl, hS10.res, (.agg #[.int .i64 (max a.a b.a), .int .i64 (min a.b b.b)]), (.bool true), rfl, (Is.cast ⟨_, rfl, (SpanE_mk (Span.mk (max a.a b.a) (min a.b b.b)) (I64_max hb1 hb3) (I64_min hb2 hb4))⟩ (by exact (meetS_yes h1 h2 (by assumption)).symm)), (congrArg Value.bool (by exact (meetB_yes h1 h2 (by assumption)).symm))⟩
  refine WL.not false rfl rfl <| WL.pickF rfl rfl <| WL.move rfl <| WL.no rfl rfl <| WL.no rfl rfl <| WL.no rfl rfl <| WL.no rfl rfl <| WL.no rfl rfl <| WL.pickT rfl rfl <| WL.nil <| WC.condT rfl <| WC.seq <| WC.region rfl <| WL.build _ [] [.int .i64 0, .int .i64 0] ti46 rfl fl46 rfl rfl rfl rfl ?_
  refine WL.store hS8 0 _ _ _ 0 _ [.int .i64 0, .int .i64 0] [.int .i64 0, .int .i64 0] _ rfl rfl ti46 rfl (Nat.le_of_ble_eq_true rfl) rfl rfl rfl rfl rfl rfl (fun w10 hS11 => ?_)
  refine WL.assign rfl <| WL.nil <| WC.ret ?_
  exact ⟨[.agg #[.int .i64 0, .int .i64 0], .bool false], ⟨_, _, _, rfl, rfl, hS11.loadA 0 _ _ _ 0 [.int .i64 0, .int .i64 0] rfl rfl rfl ti46 rfl, ⟨_, rfl, rfl⟩⟩, .tuple #[.agg #[.int .i64 0, .int .i64 0], .bool false], _, rfl, hS11.res, (.agg #[.int .i64 0, .int .i64 0]), (.bool false), rfl, (Is.cast ⟨_, rfl, (SpanE_mk (Span.mk 0 0) I64_0 I64_0)⟩ (by exact (meetS_no (.inr (.inl h2))).symm)), (congrArg Value.bool (by exact (meetB_no (.inr (.inl h2))).symm))⟩
 refine WL.not false rfl rfl <| WL.move rfl <| WL.no rfl rfl <| WL.no rfl rfl <| WL.no rfl rfl <| WL.pickT rfl rfl <| WL.move rfl <| WL.no rfl rfl <| WL.no rfl rfl <| WL.no rfl rfl <| WL.no rfl rfl <| WL.no rfl rfl <| WL.pickT rfl rfl <| WL.nil <| WC.condT rfl <| WC.seq <| WC.region rfl <| WL.build _ [] [.int .i64 0, .int .i64 0] ti46 rfl fl46 rfl rfl rfl rfl ?_
 refine WL.store hS7 0 _ _ _ 0 _ [.int .i64 0, .int .i64 0] [.int .i64 0, .int .i64 0] _ rfl rfl ti46 rfl (Nat.le_of_ble_eq_true rfl) rfl rfl rfl rfl rfl rfl (fun w11 hS12 => ?_)
 refine WL.assign rfl <| WL.nil <| WC.ret ?_
 exact ⟨[.agg #[.int .i64 0, .int .i64 0], .bool false], ⟨_, _, _, rfl, rfl, hS12.loadA 0 _ _ _ 0 [.int .i64 0, .int .i64 0] rfl rfl rfl ti46 rfl, ⟨_, rfl, rfl⟩⟩, .tuple #[.agg #[.int .i64 0, .int .i64 0], .bool false], _, rfl, hS12.res, (.agg #[.int .i64 0, .int .i64 0]), (.bool false), rfl, (Is.cast ⟨_, rfl, (SpanE_mk (Span.mk 0 0) I64_0 I64_0)⟩ (by exact (meetS_no (.inl h1)).symm)), (congrArg Value.bool (by exact (meetB_no (.inl h1)).symm))⟩

theorem c_CompareVal (G : GH) (w : World) (hG : G.In w) (x y : Val) (cx : List Value) (hcx : ValE.rep G x cx) (cy : List Value) (hcy : ValE.rep G y cy)  : Calls Tryz.prog (nat_lit 110) #[.agg cx.toArray, .agg cy.toArray] w fun e w' => ∃ r G', e = .returned r ∧ Res [] w G w' G' ∧ r = .int .i64 (cmpC x y) := by
 refine calls_of_WC (N := 16) Tryz.func110 rfl rfl rfl ?_
 have hS := St.start (X := []) hG
 obtain ⟨rfl, hb1, hb2, hb3⟩ := ValE_open hcx
 obtain ⟨rfl, hb4, hb5, hb6⟩ := ValE_open hcy
 refine WC.seq <| WC.region rfl ?_
 refine WL.boxG [.int .i64 x.k, .int .i64 x.n, strV x.s] _ hS rfl rfl rfl (fun p1 w1 G1 hle1 hsp1 hc1 hS1 => ?_)
 refine WL.boxG [.int .i64 y.k, .int .i64 y.n, strV y.s] _ hS1 rfl rfl rfl (fun p2 w2 G2 hle2 hsp2 hc2 hS2 => ?_)
 refine WL.assign rfl <| WL.nil <| WC.seq <| WC.seq <| WC.region rfl <| WL.loadGAt hS2 (hc1.mono hle2) [.int .i64 x.k, .int .i64 x.n, strV x.s] ti34 rfl rfl rfl rfl rfl ?_
 refine WL.callF [.agg #[.int .i64 x.k, .int .i64 x.n, strV x.s]] #[] hb119 rfl rfl rfl ((c_vValid _ _ hS2.imm x _ (ValE_mk x hb1 hb2 hb3) ).mono ?_)
 rintro e w3 ⟨r1, G3, rfl, hres1, hpost1⟩
 refine ⟨_, rfl, ?_⟩
 have hS3 := hS2.call hres1
 have hle3 := hres1.le
 subst hpost1
 refine WL.split (fun (h1 : (valB x) = true) => ?_) (fun (h1 : (valB x) = false) => ?_)
 ·refine WL.not true rfl rfl <| WL.move rfl <| WL.loadGAt hS3 (hc2.mono hle3) [.int .i64 y.k, .int .i64 y.n, strV y.s] ti34 rfl rfl rfl rfl rfl ?_
  refine WL.callF [.agg #[.int .i64 y.k, .int .i64 y.n, strV y.s]] #[] hb119 rfl rfl rfl ((c_vValid _ _ hS3.imm y _ (ValE_mk y hb4 hb5 hb6) ).mono ?_)
  rintro e w4 ⟨r2, G4, rfl, hres2, hpost2⟩
  refine ⟨_, rfl, ?_⟩
  have hS4 := hS3.call hres2
  have hle4 := hres2.le
  subst hpost2
  refine WL.split (fun (h2 : (valB y) = true) => ?_) (fun (h2 : (valB y) = false) => ?_)
  ·refine WL.not true rfl rfl <| WL.pickF rfl rfl <| WL.nil <| WC.condF rfl <| WC.skip <| WC.seq <| WC.region rfl <| WL.loadGAt hS4 (hc1.mono ((hle2.trans hle3).trans hle4)) [.int .i64 x.k, .int .i64 x.n, strV x.s] ti34 rfl rfl rfl rfl rfl <| WL.loadGAt hS4 (hc2.mono (hle3.trans hle4)) [.int .i64 y.k, .int .i64 y.n, strV y.s] ti34 rfl rfl rfl rfl rfl ?_
   refine WL.callF [.agg #[.int .i64 x.k, .int .i64 x.n, strV x.s], .agg #[.int .i64 y.k, .int .i64 y.n, strV y.s]] #[] hb95 rfl rfl rfl ((c_order _ _ hS4.imm x y _ (ValE_mk x hb1 hb2 hb3) _ (ValE_mk y hb4 hb5 hb6) ).mono ?_)
   rintro e w5 ⟨r3, G5, rfl, hres3, hpost3⟩
   refine ⟨_, rfl, ?_⟩
   have hS5 := hS4.call hres3
   have hle5 := hres3.le
   subst hpost3
   refine WL.assign rfl <| WL.nil <| WC.ret ?_
   exact ⟨_, rfl, _, _, rfl, hS5.res, (congrArg (Value.int .i64) (by unfold cmpC; simp_all))⟩
  refine WL.not false rfl rfl <| WL.pickF rfl rfl <| WL.nil <| WC.condT rfl <| WC.seq <| WC.region rfl <| WL.assign rfl <| WL.nil <| WC.ret ?_
  exact ⟨_, rfl, _, _, rfl, hS4.res, (congrArg (Value.int .i64) (by unfold cmpC; simp_all))⟩
 refine WL.not false rfl rfl <| WL.move rfl <| WL.no rfl rfl <| WL.no rfl rfl <| WL.no rfl rfl <| WL.pickT rfl rfl <| WL.nil <| WC.condT rfl <| WC.seq <| WC.region rfl <| WL.assign rfl <| WL.nil <| WC.ret ?_
 exact ⟨_, rfl, _, _, rfl, hS3.res, (congrArg (Value.int .i64) (by unfold cmpC; simp_all))⟩

theorem c_join1 (G : GH) (w : World) (hG : G.In w) (p : Int × Int) (j : Int) (cp : List Value) (hcp : PairE.rep G p cp) (pj : Addr) (hpj : Cells G pj [.int .i64 j])  : Calls Tryz.prog (nat_lit 108) #[.agg cp.toArray, .pointer (some pj)] w fun e w' => ∃ r G', e = .returned r ∧ Res [] w G w' G' ∧ r = .bool (decide (p.2 = j)) := by
 refine calls_of_WC (N := 8) Tryz.func108 rfl rfl rfl ?_
 have hS := St.start (X := []) hG
 obtain ⟨rfl, hb1, hb2⟩ := PairE_open hcp
 refine WC.seq <| WC.region rfl ?_
 refine WL.boxG [.int .i64 p.1, .int .i64 p.2] _ hS rfl rfl rfl (fun p1 w1 G1 hle1 hsp1 hc1 hS1 => ?_)
 refine WL.assign rfl <| WL.nil <| WC.seq <| WC.region rfl <| WL.indexAddrA _ 2 1 rfl ul87 ti3 rfl rfl rfl <| WL.loadG1 hS1 (Cells.drop 1 hc1) ti3 rfl rfl rfl <| WL.loadG1 hS1 (hpj.mono hle1) ti3 rfl rfl rfl <| WL.cmp .eql rfl .i64 p.2 j rfl rfl rfl <| WL.assign rfl <| WL.nil <| WC.ret ?_
 exact ⟨_, rfl, _, _, rfl, hS1.res, (congrArg Value.bool (by rfl))⟩

theorem c_join3 (G : GH) (w : World) (hG : G.In w) (p : Int × Int) (j : Int) (cp : List Value) (hcp : PairE.rep G p cp) (pj : Addr) (hpj : Cells G pj [.int .i64 j])  : Calls Tryz.prog (nat_lit 112) #[.agg cp.toArray, .pointer (some pj)] w fun e w' => ∃ r G', e = .returned r ∧ Res [] w G w' G' ∧ r = .bool (decide (p.2 = j)) := by
 refine calls_of_WC (N := 8) Tryz.func112 rfl rfl rfl ?_
 have hS := St.start (X := []) hG
 obtain ⟨rfl, hb1, hb2⟩ := PairE_open hcp
 refine WC.seq <| WC.region rfl ?_
 refine WL.boxG [.int .i64 p.1, .int .i64 p.2] _ hS rfl rfl rfl (fun p1 w1 G1 hle1 hsp1 hc1 hS1 => ?_)
 refine WL.assign rfl <| WL.nil <| WC.seq <| WC.region rfl <| WL.indexAddrA _ 2 1 rfl ul87 ti3 rfl rfl rfl <| WL.loadG1 hS1 (Cells.drop 1 hc1) ti3 rfl rfl rfl <| WL.loadG1 hS1 (hpj.mono hle1) ti3 rfl rfl rfl <| WL.cmp .eql rfl .i64 p.2 j rfl rfl rfl <| WL.assign rfl <| WL.nil <| WC.ret ?_
 exact ⟨_, rfl, _, _, rfl, hS1.res, (congrArg Value.bool (by rfl))⟩

theorem c_join2 (G : GH) (w : World) (hG : G.In w) (p : Int × Int) (fv : List Val) (fa fb : Int) (gv : List Val) (ga gb : Int) (cp : List Value) (hcp : PairE.rep G p cp) (vf : Value) (hvf : Sl ValE 32 G vf fv) (pf : Addr) (hpf : Cells G pf [vf, .int .i64 fa, .int .i64 fb]) (vg : Value) (hvg : Sl ValE 32 G vg gv) (pg : Addr) (hpg : Cells G pg [vg, .int .i64 ga, .int .i64 gb]) (hp1 : 0 ≤ p.1 ∧ p.1 < fv.length) (hp2 : 0 ≤ p.2 ∧ p.2 < gv.length) : Calls Tryz.prog (nat_lit 109) #[.agg cp.toArray, .pointer (some pf), .pointer (some pg)] w fun e w' => ∃ r G', e = .returned r ∧ Res [] w G w' G' ∧ r = .bool (joinNe fv gv p) := by
 refine calls_of_WC (N := 19) Tryz.func109 rfl rfl rfl ?_
 have hS := St.start (X := []) hG
 obtain ⟨rfl, hb1, hb2⟩ := PairE_open hcp
 refine WC.seq <| WC.region rfl ?_
 refine WL.boxG [.int .i64 p.1, .int .i64 p.2] _ hS rfl rfl rfl (fun p1 w1 G1 hle1 hsp1 hc1 hS1 => ?_)
 refine WL.assign rfl <| WL.nil <| WC.seq ?_
 obtain ⟨p2, x1, hx1, he1, ep1⟩ := Sl.at (hvf.mono hle1) ((p.1).toNat) (by omega)
 obtain ⟨cs1, hc2, hr1⟩ := he1
 obtain ⟨rfl, hb3, hb4, hb5⟩ := ValE_open hr1
 obtain ⟨p3, x2, hx2, he2, ep2⟩ := Sl.at (hvg.mono hle1) ((p.2).toNat) (by omega)
 obtain ⟨cs2, hc3, hr2⟩ := he2
 obtain ⟨rfl, hb6, hb7, hb8⟩ := ValE_open hr2
 refine dr ⟨[0, 1, 0, 4, 15, 31, 0, 64, 0, 256, 960, 1984, 4095, 8191, 16383], [0, 2, 4, 6, 8, 10, 13], [1, 3, 5, 7, 9, 11], [12], [14]⟩ [(5, .pointer (some (pf.add 0))), (7, .pointer (some (p1.add 0))), (9, .pointer (some p2)), (11, .pointer (some (pg.add 0))), (13, .pointer (some (p1.add 1))), (15, .pointer (some p3)), (18, .bool (Cmp.b .neq (cmpC x1 x2) 0)), (6, vf), (8, .int .i64 p.1), (10, .agg #[.int .i64 x1.k, .int .i64 x1.n, strV x1.s]), (12, vg), (14, .int .i64 p.2), (16, .agg #[.int .i64 x2.k, .int .i64 x2.n, strV x2.s]), (17, .int .i64 (cmpC x1 x2))] [] hS1 ?_ ?_ ?_ (fun w8 hS2 => ?_)
 ·exact ⟨fun _ _ => WL.fieldAddr _ 0 _ fl63 rfl rfl rfl <| WL.nu rfl, fun _ _ => WL.indexAddrA _ 2 0 rfl ul87 ti3 rfl rfl rfl <| WL.nu rfl, fun _ _ => WL.indexAddrP ((p.1).toNat) ep1 ul61 ti34 rfl rfl rfl (congrArg (Value.int .i64) (Int.toNat_of_nonneg (by omega)).symm) <| WL.nu rfl, fun _ _ => WL.fieldAddr _ 0 _ fl63 rfl rfl rfl <| WL.nu rfl, fun _ _ => WL.indexAddrA _ 2 1 rfl ul87 ti3 rfl rfl rfl <| WL.nu rfl, fun _ _ => WL.indexAddrP ((p.2).toNat) ep2 ul61 ti34 rfl rfl rfl (congrArg (Value.int .i64) (Int.toNat_of_nonneg (by omega)).symm) <| WL.nu rfl, fun _ _ => WL.cmp .neq rfl .i64 (cmpC x1 x2) 0 rfl rfl rfl <| WL.nu rfl, trivial⟩
 ·exact ⟨fun _ hSw => WL.loadG1 hSw (Cells.drop 0 (hpf.mono hle1)) ti61 rfl rfl rfl <| WL.nu rfl, fun _ hSw => WL.loadG1 hSw (Cells.drop 0 hc1) ti3 rfl rfl rfl <| WL.nu rfl, fun _ hSw => WL.loadGAt hSw hc2 [.int .i64 x1.k, .int .i64 x1.n, strV x1.s] ti34 rfl rfl rfl rfl rfl <| WL.nu rfl, fun _ hSw => WL.loadG1 hSw (Cells.drop 0 (hpg.mono hle1)) ti61 rfl rfl rfl <| WL.nu rfl, fun _ hSw => WL.loadG1 hSw (Cells.drop 1 hc1) ti3 rfl rfl rfl <| WL.nu rfl, fun _ hSw => WL.loadGAt hSw hc3 [.int .i64 x2.k, .int .i64 x2.n, strV x2.s] ti34 rfl rfl rfl rfl rfl <| WL.nu rfl, trivial⟩
 ·exact ⟨fun _ hSw => WL.callD [.agg #[.int .i64 x1.k, .int .i64 x1.n, strV x1.s], .agg #[.int .i64 x2.k, .int .i64 x2.n, strV x2.s]] #[] hb110 rfl rfl rfl hSw (c_CompareVal _ _ hSw.imm x1 x2 _ (ValE_mk x1 hb3 hb4 hb5) _ (ValE_mk x2 hb6 hb7 hb8) ) rfl, trivial⟩
 refine TL.step rfl ?_
 refine WL.assign rfl ?_
 refine WL.nil ⟨fun h => absurd h (by decide), ?_⟩
 refine WC.ret ?_
 exact ⟨_, rfl, _, _, rfl, hS2.res, (congrArg Value.bool (by rw [joinNe_at (by assumption) (by assumption)]; exact cmp_neq _ _))⟩

theorem c_Join (G : GH) (w : World) (hG : G.In w) (a b : List Fact) (on : List (Int × Int)) (va : Value) (hva : Sl FactE 40 G va a) (vb : Value) (hvb : Sl FactE 40 G vb b) (vo : Value) (hvo : Sl PairE 16 G vo on)  : Calls Tryz.prog (nat_lit 52) #[va, vb, vo] w fun e w' => ∃ r G', e = .returned r ∧ Res [] w G w' G' ∧ ∃ r0 r1, r = .tuple #[r0, r1] ∧ Sl FactE 40 G' r0 (joinL a b on) ∧ r1 = .int .i64 (joinE a b on) := by
 refine calls_of_WC (N := 193) Tryz.func52 rfl rfl rfl ?_
 have hS := St.start (X := []) hG
 refine WC.seq <| WC.region rfl <| WL.assign rfl <| WL.assign rfl <| WL.nil <| WC.seq <| WC.seq <| WC.region rfl <| WL.move rfl ?_
 refine WL.callF [va] #[] hb57 rfl rfl rfl ((c_valid _ _ hS.imm a _ hva ).mono ?_)
 rintro e w1 ⟨r1, G1, rfl, hres1, hpost1⟩
 refine ⟨_, rfl, ?_⟩
 have hS1 := hS.call hres1
 have hle1 := hres1.le
 subst hpost1
 refine WL.split (fun (h1 : (validB a) = true) => ?_) (fun (h1 : (validB a) = false) => ?_)
 ·refine WL.not true rfl rfl <| WL.move rfl <| WL.move rfl ?_
  refine WL.callF [vb] #[] hb57 rfl rfl rfl ((c_valid _ _ hS1.imm b _ (hvb.mono hle1) ).mono ?_)
  rintro e w2 ⟨r2, G2, rfl, hres2, hpost2⟩
  refine ⟨_, rfl, ?_⟩
  have hS2 := hS1.call hres2
  have hle2 := hres2.le
  subst hpost2
  refine WL.split (fun (h2 : (validB b) = true) => ?_) (fun (h2 : (validB b) = false) => ?_)
  ·refine WL.not true rfl rfl <| WL.pickF rfl rfl <| WL.nil <| WC.condF rfl <| WC.skip <| WC.seq <| WC.seq <| WC.region rfl <| WL.move rfl ?_
   have bd1 := hva.bound
   refine WL.lenSl (hva.mono (hle1.trans hle2)) ul22 rfl rfl ?_
   refine WL.eqlS (a.length : Int) 0 rfl rfl rfl (fun h3 => ?_) (fun h3 => ?_)
   ·refine WL.move rfl <| WL.no rfl rfl <| WL.no rfl rfl <| WL.no rfl rfl <| WL.pickT rfl rfl <| WL.nil <| WC.condT rfl <| WC.seq <| WC.region rfl <| WL.assign rfl <| WL.assign rfl <| WL.nil <| WC.ret ?_
    exact ⟨_, rfl, _, _, rfl, hS2.res, (.slice none 0 0), (.int .i64 0), rfl, (Sl.cast (Sl.nil FactE 40 G2) (by exact (join_empty h1 h2 (by omega)).1.symm)), (congrArg (Value.int .i64) (by exact (join_empty h1 h2 (by omega)).2.symm))⟩
   refine WL.move rfl <| WL.move rfl ?_
   have bd2 := hvb.bound
   refine WL.lenSl (hvb.mono (hle1.trans hle2)) ul22 rfl rfl ?_
   refine WL.eqlS (b.length : Int) 0 rfl rfl rfl (fun h4 => ?_) (fun h4 => ?_)
   ·refine WL.pickF rfl rfl <| WL.nil <| WC.condT rfl <| WC.seq <| WC.region rfl <| WL.assign rfl <| WL.assign rfl <| WL.nil <| WC.ret ?_
    exact ⟨_, rfl, _, _, rfl, hS2.res, (.slice none 0 0), (.int .i64 0), rfl, (Sl.cast (Sl.nil FactE 40 G2) (by exact (join_empty h1 h2 (by omega)).1.symm)), (congrArg (Value.int .i64) (by exact (join_empty h1 h2 (by omega)).2.symm))⟩
   refine WL.pickF rfl rfl <| WL.nil <| WC.condF rfl <| WC.skip <| WC.seq ?_
   obtain ⟨p1, x1, hx1, he1, ep1⟩ := Sl.at (hva.mono (hle1.trans hle2)) 0 (by omega)
   obtain ⟨cs1, hc1, hr1⟩ := he1
   obtain ⟨v1, rfl, hs1, hb1, hb2⟩ := FactE_open hr1
   have bd3 := hs1.bound
   obtain ⟨p2, x2, hx2, he2, ep2⟩ := Sl.at (hvb.mono (hle1.trans hle2)) 0 (by omega)
   obtain ⟨cs2, hc2, hr2⟩ := he2
   obtain ⟨v2, rfl, hs2, hb3, hb4⟩ := FactE_open hr2
   have bd4 := hs2.bound
   refine dr ⟨[0, 1, 3, 7, 15, 0, 32, 96, 224, 480, 31, 2047], [0, 1, 2, 4, 5, 6, 7, 9], [3, 8], [], [10, 11]⟩ [(46, va), (47, .pointer (some p1)), (48, .pointer (some (p1.add 0))), (50, .int .i64 (x1.v.length : Int)), (51, vb), (52, .pointer (some p2)), (53, .pointer (some (p2.add 0))), (55, .int .i64 (x2.v.length : Int)), (49, v1), (54, v2)] [] hS2 ?_ ?_ trivial (fun w8 hS3 => ?_)
   ·exact ⟨fun _ _ => WL.move rfl <| WL.nu rfl, fun _ _ => WL.indexAddrP 0 ep1 ul22 ti63 rfl rfl rfl rfl <| WL.nu rfl, fun _ _ => WL.fieldAddr _ 0 _ fl63 rfl rfl rfl <| WL.nu rfl, fun _ _ => WL.lenSl hs1 ul61 rfl rfl <| WL.nu rfl, fun _ _ => WL.move rfl <| WL.nu rfl, fun _ _ => WL.indexAddrP 0 ep2 ul22 ti63 rfl rfl rfl rfl <| WL.nu rfl, fun _ _ => WL.fieldAddr _ 0 _ fl63 rfl rfl rfl <| WL.nu rfl, fun _ _ => WL.lenSl hs2 ul61 rfl rfl <| WL.nu rfl, trivial⟩
   ·exact ⟨fun _ hSw => WL.loadG1 hSw (Cells.drop 0 hc1) ti61 rfl rfl rfl <| WL.nu rfl, fun _ hSw => WL.loadG1 hSw (Cells.drop 0 hc2) ti61 rfl rfl rfl <| WL.nu rfl, trivial⟩
   refine TL.step rfl ?_
   refine WL.assign rfl ?_
   refine WL.nil ⟨fun _ => hS3.down hS3.le (G2.le_refl), ?_⟩
   refine TL.step rfl ?_
   refine WL.assign rfl ?_
   refine WL.nil ⟨fun h => absurd h (by decide), ?_⟩
   refine WC.seq <| WC.seq ?_
   have hA : headV a = x1.v := headV_of hx1
   have hB : headV b = x2.v := headV_of hx2
   have hal := valid_le h1
   have hbl := valid_le h2
   have hAl : (headV a).length = x1.v.length := by rw [hA]
   have hBl : (headV b).length = x2.v.length := by rw [hB]
   refine WC.region rfl <| WL.move rfl ?_
   have bd5 := hvo.bound
   refine WL.lenSl (hvo.mono (hle1.trans hle2)) ul88 rfl rfl <| WL.move rfl <| WL.nil <| WC.block ?_
   refine WC.loop (γ := Nat) (fun m ρ1 w1 => ∃ (k1 : Nat), ∃ (G3 : GH), m = on.length - k1 ∧ G2.le G3 ∧ St w [] G G3 [] w1 ∧ ρ1 0 = va ∧ ρ1 1 = vb ∧ ρ1 2 = vo ∧ ρ1 8 = .int .i64 (x1.v.length : Int) ∧ ρ1 9 = .int .i64 (x2.v.length : Int) ∧ ρ1 56 = vo ∧ ρ1 57 = .int .i64 (on.length : Int) ∧ ρ1 58 = .int .i64 (k1 : Int) ∧ k1 ≤ on.length ∧ ∀ j, j < k1 → ∀ p, on[j]? = some p → okP (headV a).length (headV b).length p = true) (fun m => m) _ ⟨0, G2, rfl, (G2.le_refl), hS3, rfl, rfl, rfl, rfl, rfl, rfl, rfl, rfl, (by omega), (by intro j hj; omega)⟩ ?_
   rintro m ρ1 w4 ⟨k1, G3, rfl, hle3, hS4, e1, e2, e3, e4, e5, e6, e7, e8, f1, f2⟩
   refine WC.set (d := 0) e1 <| WC.set (d := 1) e2 <| WC.set (d := 2) e3 <| WC.set (d := 8) e4 <| WC.set (d := 9) e5 <| WC.set (d := 56) e6 <| WC.set (d := 57) e7 <| WC.set (d := 58) e8 <| WC.seq <| WC.region rfl ?_
   refine WL.lssS (k1 : Int) (on.length : Int) rfl rfl rfl (fun h5 => ?_) (fun h5 => ?_)
   ·refine WL.nil <| WC.seq <| WC.condT rfl <| WC.skip <| WC.seq <| WC.block <| WC.seq <| WC.region rfl ?_
    refine WL.indexAddr (hvo.mono ((hle1.trans hle2).trans hle3)) k1 (by omega) ul88 ti87 rfl rfl rfl rfl (fun p3 x3 hx3 he3 => ?_)
    obtain ⟨cs3, hc3, hr3⟩ := he3
    obtain ⟨rfl, hb5, hb6⟩ := PairE_open hr3
    refine WL.loadGAt hS4 hc3 [.int .i64 x3.1, .int .i64 x3.2] ti87 rfl rfl rfl rfl rfl ?_
    refine WL.alloc hS4 ti87 rfl rfl (fun b1 w5 hn1 hS5 => ?_)
    refine WL.store hS5 0 _ _ _ 0 _ [.int .i64 x3.1, .int .i64 x3.2] [.int .i64 x3.1, .int .i64 x3.2] _ rfl rfl ti87 rfl (Nat.le_of_ble_eq_true rfl) rfl rfl rfl rfl rfl rfl (fun w6 hS6 => ?_)
    obtain ⟨G4, hle4, hc4, hS7⟩ := hS6.shutB hn1
    refine WL.nil <| WC.seq <| WC.region rfl <| WL.indexAddrA _ 2 0 rfl ul87 ti3 rfl rfl rfl <| WL.loadG1 hS7 (Cells.drop 0 hc4) ti3 rfl rfl rfl ?_
    refine WL.lssS x3.1 0 rfl rfl rfl (fun h6 => ?_) (fun h6 => ?_)
    ·refine WL.move rfl <| WL.no rfl rfl <| WL.no rfl rfl <| WL.no rfl rfl <| WL.no rfl rfl <| WL.pickT rfl rfl <| WL.move rfl <| WL.no rfl rfl <| WL.no rfl rfl <| WL.no rfl rfl <| WL.pickT rfl rfl <| WL.move rfl <| WL.no rfl rfl <| WL.no rfl rfl <| WL.no rfl rfl <| WL.no rfl rfl <| WL.pickT rfl rfl <| WL.nil <| WC.condT rfl <| WC.seq <| WC.region rfl <| WL.assign rfl <| WL.assign rfl <| WL.nil <| WC.ret ?_
     exact ⟨_, rfl, _, _, rfl, hS7.res, (.slice none 0 0), (.int .i64 2), rfl, (Sl.cast (Sl.nil FactE 40 G4) (by exact (join_range h1 h2 (by omega) (by omega) (by assumption) (okP_no (by omega))).1.symm)), (congrArg (Value.int .i64) (by exact (join_range h1 h2 (by omega) (by omega) (by assumption) (okP_no (by omega))).2.symm))⟩
    refine WL.move rfl <| WL.indexAddrA _ 2 0 rfl ul87 ti3 rfl rfl rfl <| WL.loadG1 hS7 (Cells.drop 0 hc4) ti3 rfl rfl rfl <| WL.move rfl ?_
    refine WL.geqS x3.1 (x1.v.length : Int) rfl rfl rfl (fun h7 => ?_) (fun h7 => ?_)
    ·refine WL.pickF rfl rfl <| WL.move rfl <| WL.no rfl rfl <| WL.no rfl rfl <| WL.no rfl rfl <| WL.pickT rfl rfl <| WL.move rfl <| WL.no rfl rfl <| WL.no rfl rfl <| WL.no rfl rfl <| WL.no rfl rfl <| WL.pickT rfl rfl <| WL.nil <| WC.condT rfl <| WC.seq <| WC.region rfl <| WL.assign rfl <| WL.assign rfl <| WL.nil <| WC.ret ?_
     exact ⟨_, rfl, _, _, rfl, hS7.res, (.slice none 0 0), (.int .i64 2), rfl, (Sl.cast (Sl.nil FactE 40 G4) (by exact (join_range h1 h2 (by omega) (by omega) (by assumption) (okP_no (by omega))).1.symm)), (congrArg (Value.int .i64) (by exact (join_range h1 h2 (by omega) (by omega) (by assumption) (okP_no (by omega))).2.symm))⟩
    refine WL.pickF rfl rfl <| WL.move rfl <| WL.indexAddrA _ 2 1 rfl ul87 ti3 rfl rfl rfl <| WL.loadG1 hS7 (Cells.drop 1 hc4) ti3 rfl rfl rfl ?_
    refine WL.lssS x3.2 0 rfl rfl rfl (fun h8 => ?_) (fun h8 => ?_)
    ·refine WL.pickF rfl rfl <| WL.move rfl <| WL.no rfl rfl <| WL.no rfl rfl <| WL.no rfl rfl <| WL.no rfl rfl <| WL.pickT rfl rfl <| WL.nil <| WC.condT rfl <| WC.seq <| WC.region rfl <| WL.assign rfl <| WL.assign rfl <| WL.nil <| WC.ret ?_
     exact ⟨_, rfl, _, _, rfl, hS7.res, (.slice none 0 0), (.int .i64 2), rfl, (Sl.cast (Sl.nil FactE 40 G4) (by exact (join_range h1 h2 (by omega) (by omega) (by assumption) (okP_no (by omega))).1.symm)), (congrArg (Value.int .i64) (by exact (join_range h1 h2 (by omega) (by omega) (by assumption) (okP_no (by omega))).2.symm))⟩
    refine WL.pickF rfl rfl <| WL.move rfl <| WL.indexAddrA _ 2 1 rfl ul87 ti3 rfl rfl rfl <| WL.loadG1 hS7 (Cells.drop 1 hc4) ti3 rfl rfl rfl <| WL.move rfl ?_
    refine WL.geqS x3.2 (x2.v.length : Int) rfl rfl rfl (fun h9 => ?_) (fun h9 => ?_)
    ·refine WL.pickF rfl rfl <| WL.nil <| WC.condT rfl <| WC.seq <| WC.region rfl <| WL.assign rfl <| WL.assign rfl <| WL.nil <| WC.ret ?_
     exact ⟨_, rfl, _, _, rfl, hS7.res, (.slice none 0 0), (.int .i64 2), rfl, (Sl.cast (Sl.nil FactE 40 G4) (by exact (join_range h1 h2 (by omega) (by omega) (by assumption) (okP_no (by omega))).1.symm)), (congrArg (Value.int .i64) (by exact (join_range h1 h2 (by omega) (by omega) (by assumption) (okP_no (by omega))).2.symm))⟩
    refine WL.pickF rfl rfl <| WL.nil <| WC.condF rfl <| WC.skip <| WC.region rfl ?_
    refine WL.incr k1 (by have hreach : reach = 140737488355328 := rfl; omega) rfl rfl rfl ?_
    refine WL.move rfl <| WL.nil ?_
    exact ⟨_, ⟨k1 + 1, G4, rfl, (hle3.trans hle4), hS7, rfl, rfl, rfl, rfl, rfl, rfl, rfl, rfl, (by omega), (by exact lt_step (by assumption) (by assumption) (okP_yes (by omega) (by omega) (by omega) (by omega)))⟩, (show on.length - (k1 + 1) < on.length - k1 by omega)⟩
   refine WL.nil <| WC.seq <| WC.condF rfl <| WC.exit <| WC.seq ?_
   have hall : ∀ p ∈ on, okP (headV a).length (headV b).length p = true := lt_all (by assumption) (by omega)
   have hallB : on.all (okP (headV a).length (headV b).length) = true := List.all_eq_true.2 hall
   refine WC.region rfl <| WL.move rfl <| WL.assign rfl <| WL.nil <| WC.seq <| WC.seq <| WC.region rfl <| WL.move rfl <| WL.move rfl <| WL.nil <| WC.block ?_
   refine WC.loop (γ := Nat) (fun m ρ1 w1 => ∃ (k2 : Nat), ∃ (c : Nat), ∃ (G5 : GH), m = x2.v.length - k2 ∧ G3.le G5 ∧ St w [] G G5 [] w1 ∧ ρ1 0 = va ∧ ρ1 1 = vb ∧ ρ1 2 = vo ∧ ρ1 8 = .int .i64 (x1.v.length : Int) ∧ ρ1 12 = .int .i64 (c : Int) ∧ ρ1 84 = .int .i64 (x2.v.length : Int) ∧ ρ1 85 = .int .i64 (k2 : Int) ∧ k2 ≤ x2.v.length ∧ c + onN on k2 = (headV b).length) (fun m => m) _ ⟨0, x2.v.length, G3, rfl, (G3.le_refl), hS4, rfl, rfl, rfl, rfl, rfl, rfl, rfl, (by omega), (by simp [onN]; omega)⟩ ?_
   rintro m ρ1 w7 ⟨k2, c, G5, rfl, hle5, hS8, e9, e10, e11, e12, e13, e14, e15, f3, f4⟩
   refine WC.set (d := 0) e9 <| WC.set (d := 1) e10 <| WC.set (d := 2) e11 <| WC.set (d := 8) e12 <| WC.set (d := 12) e13 <| WC.set (d := 84) e14 <| WC.set (d := 85) e15 ?_
   have hcn := onN_le on k2
   refine WC.seq <| WC.region rfl ?_
   refine WL.lssS (k2 : Int) (x2.v.length : Int) rfl rfl rfl (fun h10 => ?_) (fun h10 => ?_)
   ·refine WL.nil <| WC.seq <| WC.condT rfl <| WC.skip <| WC.seq <| WC.block <| WC.seq <| WC.region rfl <| WL.move rfl ?_
    refine WL.alloc hS8 ti3 rfl rfl (fun b2 w8 hn2 hS9 => ?_)
    refine WL.store hS9 0 _ _ _ 0 _ [.int .i64 (k2 : Int)] [.int .i64 (k2 : Int)] _ rfl rfl ti3 rfl (Nat.le_of_ble_eq_true rfl) rfl rfl rfl rfl rfl rfl (fun w9 hS10 => ?_)
    obtain ⟨G6, hle6, hc5, hS11⟩ := hS10.shutB hn2
    refine WL.nil <| WC.seq <| WC.region rfl <| WL.move rfl <| WL.makeFunc _ rfl rfl ?_
    refine WL.callF [vo, .func (.func 108) #[] #[.pointer (some (⟨b2, 0, none⟩ : Addr))]] #[] hb107 rfl rfl rfl ((c_ContainsP _ _ hS11.imm on (fun x8 => decide (x8.2 = (k2 : Int))) _ (hvo.mono ((((hle1.trans hle2).trans hle3).trans hle5).trans hle6)) 108 #[.pointer (some (⟨b2, 0, none⟩ : Addr))] ⟨hb108, fun G8 w8 v8 x8 hle8 hG8 hon8 hA8 => by obtain ⟨cs_x8, rfl, hr_x8⟩ := hA8; exact c_join1 G8 w8 hG8 x8 (k2 : Int) cs_x8 hr_x8  (⟨b2, 0, none⟩ : Addr) (hc5.mono hle8) ⟩ ).mono ?_)
    rintro e w10 ⟨r3, G7, rfl, hres3, hpost3⟩
    refine ⟨_, rfl, ?_⟩
    have hS12 := hS11.call hres3
    have hle7 := hres3.le
    subst hpost3
    refine WL.split (fun (h11 : (on.any (fun x8 => decide (x8.2 = (k2 : Int)))) = true) => ?_) (fun (h11 : (on.any (fun x8 => decide (x8.2 = (k2 : Int)))) = false) => ?_)
    ·refine WL.nil <| WC.condT rfl <| WC.region rfl <| WL.move rfl ?_
     refine WL.decr c (by omega) (by have hreach : reach = 140737488355328 := rfl; omega) rfl rfl rfl ?_
     refine WL.assign rfl <| WL.nil <| WC.region rfl ?_
     refine WL.incr k2 (by have hreach : reach = 140737488355328 := rfl; omega) rfl rfl rfl ?_
     refine WL.move rfl <| WL.nil ?_
     exact ⟨_, ⟨k2 + 1, c - 1, G7, rfl, (hle5.trans (hle6.trans hle7)), hS12, rfl, rfl, rfl, rfl, rfl, rfl, rfl, (by omega), (by have hq := onN_step (on := on) (k := k2); unfold onB at hq; (rw [if_pos (by assumption)] at hq; omega))⟩, (show x2.v.length - (k2 + 1) < x2.v.length - k2 by omega)⟩
    refine WL.nil <| WC.condF rfl <| WC.skip <| WC.region rfl ?_
    refine WL.incr k2 (by have hreach : reach = 140737488355328 := rfl; omega) rfl rfl rfl ?_
    refine WL.move rfl <| WL.nil ?_
    exact ⟨_, ⟨k2 + 1, c, G7, rfl, (hle5.trans (hle6.trans hle7)), hS12, rfl, rfl, rfl, rfl, rfl, rfl, rfl, (by omega), (by have hq := onN_step (on := on) (k := k2); unfold onB at hq; (rw [if_neg (Bool.eq_false_iff.1 (by assumption))] at hq; omega))⟩, (show x2.v.length - (k2 + 1) < x2.v.length - k2 by omega)⟩
   refine WL.nil <| WC.seq <| WC.condF rfl <| WC.exit <| WC.seq <| WC.seq ?_
   have e8 : k2 = (headV b).length := by omega
   have hcc : c + onN on (headV b).length = (headV b).length := by rw [← e8]; omega
   refine WC.region rfl <| WL.move rfl ?_
   have bd6 := hvo.bound
   refine WL.lenSl (hvo.mono (((hle1.trans hle2).trans hle3).trans hle5)) ul88 rfl rfl <| WL.move rfl <| WL.nil <| WC.block ?_
   refine WC.loop (γ := Nat) (fun m ρ1 w1 => ∃ (k3 : Nat), ∃ (G8 : GH), m = on.length - k3 ∧ G5.le G8 ∧ St w [] G G8 [] w1 ∧ ρ1 0 = va ∧ ρ1 1 = vb ∧ ρ1 2 = vo ∧ ρ1 8 = .int .i64 (x1.v.length : Int) ∧ ρ1 12 = .int .i64 (c : Int) ∧ ρ1 94 = vo ∧ ρ1 95 = .int .i64 (on.length : Int) ∧ ρ1 96 = .int .i64 (k3 : Int) ∧ k3 ≤ on.length ∧ ∀ j, j < k3 → ∀ p, on[j]? = some p → kindP (headV a) (headV b) p = true) (fun m => m) _ ⟨0, G5, rfl, (G5.le_refl), hS8, rfl, rfl, rfl, rfl, rfl, rfl, rfl, rfl, (by omega), (by intro j hj; omega)⟩ ?_
   rintro m ρ1 w11 ⟨k3, G8, rfl, hle8, hS13, e16, e17, e18, e19, e20, e21, e22, e23, f5, f6⟩
   refine WC.set (d := 0) e16 <| WC.set (d := 1) e17 <| WC.set (d := 2) e18 <| WC.set (d := 8) e19 <| WC.set (d := 12) e20 <| WC.set (d := 94) e21 <| WC.set (d := 95) e22 <| WC.set (d := 96) e23 <| WC.seq <| WC.region rfl ?_
   refine WL.lssS (k3 : Int) (on.length : Int) rfl rfl rfl (fun h12 => ?_) (fun h12 => ?_)
   ·refine WL.nil <| WC.seq <| WC.condT rfl <| WC.skip <| WC.seq <| WC.block <| WC.seq <| WC.region rfl ?_
    refine WL.indexAddr (hvo.mono ((((hle1.trans hle2).trans hle3).trans hle5).trans hle8)) k3 (by omega) ul88 ti87 rfl rfl rfl rfl (fun p4 x4 hx4 he4 => ?_)
    obtain ⟨cs4, hc6, hr4⟩ := he4
    obtain ⟨rfl, hb7, hb8⟩ := PairE_open hr4
    refine WL.loadGAt hS13 hc6 [.int .i64 x4.1, .int .i64 x4.2] ti87 rfl rfl rfl rfl rfl ?_
    refine WL.alloc hS13 ti87 rfl rfl (fun b3 w12 hn3 hS14 => ?_)
    refine WL.store hS14 0 _ _ _ 0 _ [.int .i64 x4.1, .int .i64 x4.2] [.int .i64 x4.1, .int .i64 x4.2] _ rfl rfl ti87 rfl (Nat.le_of_ble_eq_true rfl) rfl rfl rfl rfl rfl rfl (fun w13 hS15 => ?_)
    obtain ⟨G9, hle9, hc7, hS16⟩ := hS15.shutB hn3
    refine WL.nil <| WC.seq ?_
    have hok := okP_iff.1 (hall x4 (List.mem_of_getElem? hx4))
    obtain ⟨p5, x5, hx5, he5, ep3⟩ := Sl.at (hva.mono (((((hle1.trans hle2).trans hle3).trans hle5).trans hle8).trans hle9)) 0 (by omega)
    obtain rfl : x1 = x5 := Option.some.inj (hx1.symm.trans hx5)
    obtain ⟨cs5, hc8, hr5⟩ := he5
    obtain ⟨v3, rfl, hs3, hb9, hb10⟩ := FactE_open hr5
    obtain ⟨p6, x6, hx6, he6, ep4⟩ := Sl.at hs3 ((x4.1).toNat) (by omega)
    obtain ⟨cs6, hc9, hr6⟩ := he6
    obtain ⟨rfl, hb11, hb12, hb13⟩ := ValE_open hr6
    obtain ⟨p7, x7, hx7, he7, ep5⟩ := Sl.at (hvb.mono (((((hle1.trans hle2).trans hle3).trans hle5).trans hle8).trans hle9)) 0 (by omega)
    obtain rfl : x2 = x7 := Option.some.inj (hx2.symm.trans hx7)
    obtain ⟨cs7, hc10, hr7⟩ := he7
    obtain ⟨v4, rfl, hs4, hb14, hb15⟩ := FactE_open hr7
    obtain ⟨p8, x8, hx8, he8, ep6⟩ := Sl.at hs4 ((x4.2).toNat) (by omega)
    obtain ⟨cs8, hc11, hr8⟩ := he8
    obtain ⟨rfl, hb16, hb17, hb18⟩ := ValE_open hr8
    rcases Cmp.dec .neq x6.k x8.k with ⟨hb19, q1⟩ | ⟨hb19, q1⟩
    ·have h13 : x6.k ≠ x8.k := q1
     clear q1
     refine dr ⟨[0, 1, 3, 7, 0, 16, 63, 127, 255, 0, 512, 1536, 3584, 0, 8192, 32256, 65024, 130560, 262143], [0, 1, 2, 4, 6, 7, 9, 10, 11, 13, 15, 16, 18], [3, 5, 8, 12, 14, 17], [], []⟩ [(100, va), (101, .pointer (some p5)), (102, .pointer (some (p5.add 0))), (104, .pointer (some ((⟨b3, 0, none⟩ : Addr).add 0))), (106, .pointer (some p6)), (107, .pointer (some (p6.add 0))), (109, vb), (110, .pointer (some p7)), (111, .pointer (some (p7.add 0))), (113, .pointer (some ((⟨b3, 0, none⟩ : Addr).add 1))), (115, .pointer (some p8)), (116, .pointer (some (p8.add 0))), (118, .bool true), (103, v3), (105, .int .i64 x4.1), (108, .int .i64 x6.k), (112, v4), (114, .int .i64 x4.2), (117, .int .i64 x8.k)] [] hS16 ?_ ?_ trivial (fun w8 hS17 => ?_)
     ·exact ⟨fun _ _ => WL.move rfl <| WL.nu rfl, fun _ _ => WL.indexAddrP 0 ep3 ul22 ti63 rfl rfl rfl rfl <| WL.nu rfl, fun _ _ => WL.fieldAddr _ 0 _ fl63 rfl rfl rfl <| WL.nu rfl, fun _ _ => WL.indexAddrA _ 2 0 rfl ul87 ti3 rfl rfl rfl <| WL.nu rfl, fun _ _ => WL.indexAddrP ((x4.1).toNat) ep4 ul61 ti34 rfl rfl rfl (congrArg (Value.int .i64) (Int.toNat_of_nonneg (by omega)).symm) <| WL.nu rfl, fun _ _ => WL.fieldAddr _ 0 _ fl34 rfl rfl rfl <| WL.nu rfl, fun _ _ => WL.move rfl <| WL.nu rfl, fun _ _ => WL.indexAddrP 0 ep5 ul22 ti63 rfl rfl rfl rfl <| WL.nu rfl, fun _ _ => WL.fieldAddr _ 0 _ fl63 rfl rfl rfl <| WL.nu rfl, fun _ _ => WL.indexAddrA _ 2 1 rfl ul87 ti3 rfl rfl rfl <| WL.nu rfl, fun _ _ => WL.indexAddrP ((x4.2).toNat) ep6 ul61 ti34 rfl rfl rfl (congrArg (Value.int .i64) (Int.toNat_of_nonneg (by omega)).symm) <| WL.nu rfl, fun _ _ => WL.fieldAddr _ 0 _ fl34 rfl rfl rfl <| WL.nu rfl, fun _ _ => WL.cmpV .neq rfl .i64 x6.k x8.k _ hb19 rfl rfl rfl <| WL.nu rfl, trivial⟩
     ·exact ⟨fun _ hSw => WL.loadG1 hSw (Cells.drop 0 hc8) ti61 rfl rfl rfl <| WL.nu rfl, fun _ hSw => WL.loadG1 hSw (Cells.drop 0 hc7) ti3 rfl rfl rfl <| WL.nu rfl, fun _ hSw => WL.loadG1 hSw (Cells.drop 0 hc9) ti3 rfl rfl rfl <| WL.nu rfl, fun _ hSw => WL.loadG1 hSw (Cells.drop 0 hc10) ti61 rfl rfl rfl <| WL.nu rfl, fun _ hSw => WL.loadG1 hSw (Cells.drop 1 hc7) ti3 rfl rfl rfl <| WL.nu rfl, fun _ hSw => WL.loadG1 hSw (Cells.drop 0 hc11) ti3 rfl rfl rfl <| WL.nu rfl, trivial⟩
     refine WC.condT rfl <| WC.seq <| WC.region rfl <| WL.assign rfl <| WL.assign rfl <| WL.nil <| WC.ret ?_
     exact ⟨_, rfl, _, _, rfl, hS17.res, (.slice none 0 0), (.int .i64 13), rfl, (Sl.cast (Sl.nil FactE 40 G9) (by exact (join_kind h1 h2 (by omega) (by omega) hallB (by assumption) (by rw [hA, hB]; exact kindP_no (by assumption) (by assumption) (by assumption))).1.symm)), (congrArg (Value.int .i64) (by exact (join_kind h1 h2 (by omega) (by omega) hallB (by assumption) (by rw [hA, hB]; exact kindP_no (by assumption) (by assumption) (by assumption))).2.symm))⟩
    have h13 : x6.k = x8.k := q1
    clear q1
    refine dr ⟨[0, 1, 3, 7, 0, 16, 63, 127, 255, 0, 512, 1536, 3584, 0, 8192, 32256, 65024, 130560, 262143], [0, 1, 2, 4, 6, 7, 9, 10, 11, 13, 15, 16, 18], [3, 5, 8, 12, 14, 17], [], []⟩ [(100, va), (101, .pointer (some p5)), (102, .pointer (some (p5.add 0))), (104, .pointer (some ((⟨b3, 0, none⟩ : Addr).add 0))), (106, .pointer (some p6)), (107, .pointer (some (p6.add 0))), (109, vb), (110, .pointer (some p7)), (111, .pointer (some (p7.add 0))), (113, .pointer (some ((⟨b3, 0, none⟩ : Addr).add 1))), (115, .pointer (some p8)), (116, .pointer (some (p8.add 0))), (118, .bool false), (103, v3), (105, .int .i64 x4.1), (108, .int .i64 x6.k), (112, v4), (114, .int .i64 x4.2), (117, .int .i64 x8.k)] [] hS16 ?_ ?_ trivial (fun w8 hS18 => ?_)
    ·exact ⟨fun _ _ => WL.move rfl <| WL.nu rfl, fun _ _ => WL.indexAddrP 0 ep3 ul22 ti63 rfl rfl rfl rfl <| WL.nu rfl, fun _ _ => WL.fieldAddr _ 0 _ fl63 rfl rfl rfl <| WL.nu rfl, fun _ _ => WL.indexAddrA _ 2 0 rfl ul87 ti3 rfl rfl rfl <| WL.nu rfl, fun _ _ => WL.indexAddrP ((x4.1).toNat) ep4 ul61 ti34 rfl rfl rfl (congrArg (Value.int .i64) (Int.toNat_of_nonneg (by omega)).symm) <| WL.nu rfl, fun _ _ => WL.fieldAddr _ 0 _ fl34 rfl rfl rfl <| WL.nu rfl, fun _ _ => WL.move rfl <| WL.nu rfl, fun _ _ => WL.indexAddrP 0 ep5 ul22 ti63 rfl rfl rfl rfl <| WL.nu rfl, fun _ _ => WL.fieldAddr _ 0 _ fl63 rfl rfl rfl <| WL.nu rfl, fun _ _ => WL.indexAddrA _ 2 1 rfl ul87 ti3 rfl rfl rfl <| WL.nu rfl, fun _ _ => WL.indexAddrP ((x4.2).toNat) ep6 ul61 ti34 rfl rfl rfl (congrArg (Value.int .i64) (Int.toNat_of_nonneg (by omega)).symm) <| WL.nu rfl, fun _ _ => WL.fieldAddr _ 0 _ fl34 rfl rfl rfl <| WL.nu rfl, fun _ _ => WL.cmpV .neq rfl .i64 x6.k x8.k _ hb19 rfl rfl rfl <| WL.nu rfl, trivial⟩
    ·exact ⟨fun _ hSw => WL.loadG1 hSw (Cells.drop 0 hc8) ti61 rfl rfl rfl <| WL.nu rfl, fun _ hSw => WL.loadG1 hSw (Cells.drop 0 hc7) ti3 rfl rfl rfl <| WL.nu rfl, fun _ hSw => WL.loadG1 hSw (Cells.drop 0 hc9) ti3 rfl rfl rfl <| WL.nu rfl, fun _ hSw => WL.loadG1 hSw (Cells.drop 0 hc10) ti61 rfl rfl rfl <| WL.nu rfl, fun _ hSw => WL.loadG1 hSw (Cells.drop 1 hc7) ti3 rfl rfl rfl <| WL.nu rfl, fun _ hSw => WL.loadG1 hSw (Cells.drop 0 hc11) ti3 rfl rfl rfl <| WL.nu rfl, trivial⟩
    refine WC.condF rfl <| WC.skip <| WC.region rfl ?_
    refine WL.incr k3 (by have hreach : reach = 140737488355328 := rfl; omega) rfl rfl rfl ?_
    refine WL.move rfl <| WL.nil ?_
    exact ⟨_, ⟨k3 + 1, G9, rfl, (hle8.trans hle9), hS18, rfl, rfl, rfl, rfl, rfl, rfl, rfl, rfl, (by omega), (by exact lt_step (by assumption) (by assumption) (by rw [hA, hB]; exact kindP_yes (by assumption) (by assumption) (by assumption)))⟩, (show on.length - (k3 + 1) < on.length - k3 by omega)⟩
   refine WL.nil <| WC.seq <| WC.condF rfl <| WC.exit <| WC.seq <| WC.seq ?_
   have hallK : on.all (kindP (headV a) (headV b)) = true := List.all_eq_true.2 (lt_all (by assumption) (by omega))
   refine WC.region rfl <| WL.move rfl <| WL.move rfl ?_
   refine WL.addN x1.v.length c (by have hreach : reach = 140737488355328 := rfl; omega) rfl rfl rfl ?_
   refine WL.gtrS ((x1.v.length + c : Nat) : Int) 8 rfl rfl rfl (fun h14 => ?_) (fun h14 => ?_)
   ·refine WL.nil <| WC.condT rfl <| WC.seq <| WC.region rfl <| WL.assign rfl <| WL.assign rfl <| WL.nil <| WC.ret ?_
    exact ⟨_, rfl, _, _, rfl, hS13.res, (.slice none 0 0), (.int .i64 5), rfl, (Sl.cast (Sl.nil FactE 40 G8) (by exact (join_wide h1 h2 (by omega) (by omega) hallB hallK (by omega)).1.symm)), (congrArg (Value.int .i64) (by exact (join_wide h1 h2 (by omega) (by omega) hallB hallK (by omega)).2.symm))⟩
   refine WL.nil <| WC.condF rfl <| WC.skip <| WC.seq <| WC.region rfl <| WL.move rfl ?_
   refine WL.callF [va] #[] hb32 rfl rfl rfl ((c_Normal _ _ hS13.imm a _ (hva.mono ((((hle1.trans hle2).trans hle3).trans hle5).trans hle8)) ).mono ?_)
   rintro e w16 ⟨r4, G10, rfl, hres4, hpost4⟩
   refine ⟨_, rfl, ?_⟩
   have hS19 := hS13.call hres4
   have hle10 := hres4.le
   obtain ⟨r5, r6, rfl, hs5, rfl⟩ := hpost4
   refine WL.move rfl <| WL.extract _ _ rfl rfl rfl <| WL.extract _ _ rfl rfl rfl <| WL.assign rfl <| WL.assign rfl <| WL.nil <| WC.seq <| WC.region rfl <| WL.move rfl ?_
   refine WL.callF [vb] #[] hb32 rfl rfl rfl ((c_Normal _ _ hS19.imm b _ (hvb.mono (((((hle1.trans hle2).trans hle3).trans hle5).trans hle8).trans hle10)) ).mono ?_)
   rintro e w17 ⟨r7, G11, rfl, hres5, hpost5⟩
   refine ⟨_, rfl, ?_⟩
   have hS20 := hS19.call hres5
   have hle11 := hres5.le
   obtain ⟨r8, r9, rfl, hs6, rfl⟩ := hpost5
   refine WL.move rfl <| WL.extract _ _ rfl rfl rfl <| WL.extract _ _ rfl rfl rfl <| WL.assign rfl <| WL.assign rfl <| WL.nil <| WC.seq <| WC.region rfl <| WL.assign rfl <| WL.nil <| WC.seq <| WC.seq <| WC.region rfl <| WL.move rfl ?_
   have bd7 := hs5.bound
   refine WL.lenSl (hs5.mono hle11) ul22 rfl rfl <| WL.move rfl <| WL.nil <| WC.block ?_
   have hS22 := hS20.pad
   refine WC.loop (γ := Nat) (fun m ρ1 w1 => ∃ (k4 : Nat), ∃ (v5 : Value) (o1 : OB), ∃ (G12 : GH), m = (normL a).length - k4 ∧ G11.le G12 ∧ St w [] G G12 [o1] w1 ∧ Row FactE 40 63 G12 v5 (joinF on ((normL a).take k4) (normL b)) o1 ∧ ρ1 2 = vo ∧ ρ1 18 = r8 ∧ ρ1 20 = v5 ∧ ρ1 134 = r5 ∧ ρ1 135 = .int .i64 (((normL a).length : Nat) : Int) ∧ ρ1 136 = .int .i64 (k4 : Int) ∧ k4 ≤ (normL a).length) (fun m => m) _ ⟨0, (.slice none 0 0), none, G11, rfl, (G11.le_refl), hS22, (Row.nil FactE 40 63 G11), rfl, rfl, rfl, rfl, rfl, rfl, (by omega)⟩ ?_
   rintro m ρ1 w18 ⟨k4, v5, o1, G12, rfl, hle12, hS21, hr9, e24, e25, e26, e27, e28, e29, f7⟩
   refine WC.set (d := 2) e24 <| WC.set (d := 18) e25 <| WC.set (d := 20) e26 <| WC.set (d := 134) e27 <| WC.set (d := 135) e28 <| WC.set (d := 136) e29 <| WC.seq <| WC.region rfl ?_
   refine WL.lssS (k4 : Int) (((normL a).length : Nat) : Int) rfl rfl rfl (fun h15 => ?_) (fun h15 => ?_)
   ·refine WL.nil <| WC.seq <| WC.condT rfl <| WC.skip <| WC.seq <| WC.block <| WC.seq <| WC.region rfl ?_
    refine WL.indexAddr (hs5.mono (hle11.trans hle12)) k4 (by omega) ul22 ti63 rfl rfl rfl rfl (fun p9 x9 hx9 he9 => ?_)
    obtain ⟨cs9, hc12, hr10⟩ := he9
    obtain ⟨v6, rfl, hs7, hb20, hb21⟩ := FactE_open hr10
    refine WL.loadGAt hS21 hc12 [v6, .int .i64 x9.t.a, .int .i64 x9.t.b] ti63 rfl rfl rfl rfl rfl ?_
    refine WL.alloc hS21 ti63 rfl rfl (fun b4 w19 hn4 hS23 => ?_)
    refine WL.store hS23 0 _ _ _ 0 _ [v6, .int .i64 x9.t.a, .int .i64 x9.t.b] [v6, .int .i64 x9.t.a, .int .i64 x9.t.b] _ rfl rfl ti63 rfl (Nat.le_of_ble_eq_true rfl) (by simp only [List.all_cons, List.all_nil, hs7.oneC, Bool.true_and] <;> rfl) rfl rfl rfl rfl rfl (fun w20 hS24 => ?_)
    obtain ⟨G13, hle13, hc13, hS25⟩ := hS24.shutB hn4
    refine WL.nil <| WC.seq <| WC.region rfl <| WL.move rfl ?_
    have bd8 := hs6.bound
    refine WL.lenSl (hs6.mono (hle12.trans hle13)) ul22 rfl rfl <| WL.move rfl <| WL.nil <| WC.block ?_
    refine WC.loop (γ := Nat) (fun m ρ1 w1 => ∃ (k5 : Nat), ∃ (v7 : Value) (o2 : OB), ∃ (G14 : GH), m = (normL b).length - k5 ∧ G13.le G14 ∧ St w [] G G14 [o2] w1 ∧ Row FactE 40 63 G14 v7 (joinF on ((normL a).take k4) (normL b) ++ joinG on x9 ((normL b).take k5)) o2 ∧ ρ1 2 = vo ∧ ρ1 18 = r8 ∧ ρ1 20 = v7 ∧ ρ1 22 = .pointer (some (⟨b4, 0, none⟩ : Addr)) ∧ ρ1 134 = r5 ∧ ρ1 135 = .int .i64 (((normL a).length : Nat) : Int) ∧ ρ1 136 = .int .i64 (k4 : Int) ∧ ρ1 140 = r8 ∧ ρ1 141 = .int .i64 (((normL b).length : Nat) : Int) ∧ ρ1 142 = .int .i64 (k5 : Int) ∧ k5 ≤ (normL b).length) (fun m => m) _ ⟨0, v5, o1, G13, rfl, (G13.le_refl), hS25, (Row.cast (hr9.mono hle13) (by simp [joinG])), rfl, rfl, rfl, rfl, rfl, rfl, rfl, rfl, rfl, rfl, (by omega)⟩ ?_
    rintro m ρ1 w21 ⟨k5, v7, o2, G14, rfl, hle14, hS26, hr11, e30, e31, e32, e33, e34, e35, e36, e37, e38, e39, f8⟩
    refine WC.set (d := 2) e30 <| WC.set (d := 18) e31 <| WC.set (d := 20) e32 <| WC.set (d := 22) e33 <| WC.set (d := 134) e34 <| WC.set (d := 135) e35 <| WC.set (d := 136) e36 <| WC.set (d := 140) e37 <| WC.set (d := 141) e38 <| WC.set (d := 142) e39 ?_
    have hnb := normL_len b
    have hjl := joinF_len (on := on) ((normL a).take k4) (normL b)
    have hjg := joinG_len (on := on) x9 ((normL b).take k5)
    have hjt := List.length_take_le' k4 (normL a)
    have hjt2 := List.length_take_le' k5 (normL b)
    have hjb := Nat.mul_le_mul (Nat.le_trans hjt (Nat.le_trans (normL_len a) hal)) (Nat.le_trans (normL_len b) hbl)
    refine WC.seq <| WC.region rfl ?_
    refine WL.lssS (k5 : Int) (((normL b).length : Nat) : Int) rfl rfl rfl (fun h16 => ?_) (fun h16 => ?_)
    ·refine WL.nil <| WC.seq <| WC.condT rfl <| WC.skip <| WC.seq <| WC.block <| WC.seq <| WC.region rfl ?_
     refine WL.indexAddr (hs6.mono ((hle12.trans hle13).trans hle14)) k5 (by omega) ul22 ti63 rfl rfl rfl rfl (fun p10 x10 hx10 he10 => ?_)
     obtain ⟨cs10, hc14, hr12⟩ := he10
     obtain ⟨v8, rfl, hs8, hb22, hb23⟩ := FactE_open hr12
     refine WL.loadGAt hS26 hc14 [v8, .int .i64 x10.t.a, .int .i64 x10.t.b] ti63 rfl rfl rfl rfl rfl ?_
     refine WL.alloc hS26 ti63 rfl rfl (fun b5 w22 hn5 hS27 => ?_)
     refine WL.store hS27 0 _ _ _ 0 _ [v8, .int .i64 x10.t.a, .int .i64 x10.t.b] [v8, .int .i64 x10.t.a, .int .i64 x10.t.b] _ rfl rfl ti63 rfl (Nat.le_of_ble_eq_true rfl) (by simp only [List.all_cons, List.all_nil, hs8.oneC, Bool.true_and] <;> rfl) rfl rfl rfl rfl rfl (fun w23 hS28 => ?_)
     obtain ⟨G15, hle15, hc15, hS29⟩ := hS28.shutB hn5
     refine WL.nil <| WC.seq ?_
     have hf1 := normL_vlen (a := a) h1 (List.mem_of_getElem? hx9)
     have hg1 := normL_vlen (a := b) h2 (List.mem_of_getElem? hx10)
     refine WC.region rfl <| WL.fieldAddr _ 1 _ fl63 rfl rfl rfl <| WL.loadGAt hS29 (Cells.drop 1 (hc13.mono (hle14.trans hle15))) [.int .i64 x9.t.a, .int .i64 x9.t.b] ti46 rfl rfl rfl rfl rfl <| WL.fieldAddr _ 1 _ fl63 rfl rfl rfl <| WL.loadGAt hS29 (Cells.drop 1 hc15) [.int .i64 x10.t.a, .int .i64 x10.t.b] ti46 rfl rfl rfl rfl rfl ?_
     refine WL.callF [.agg #[.int .i64 x9.t.a, .int .i64 x9.t.b], .agg #[.int .i64 x10.t.a, .int .i64 x10.t.b]] #[] hb85 rfl rfl rfl ((c_Meet _ _ hS29.imm x9.t x10.t _ (SpanE_mk x9.t hb20 hb21) _ (SpanE_mk x10.t hb22 hb23) ).mono ?_)
     rintro e w24 ⟨r10, G16, rfl, hres6, hpost6⟩
     refine ⟨_, rfl, ?_⟩
     have hS30 := hS29.call hres6
     have hle16 := hres6.le
     obtain ⟨r11, r12, rfl, hs9, rfl⟩ := hpost6
     obtain ⟨cs11, rfl, hr13⟩ := hs9
     obtain ⟨rfl, hb24, hb25⟩ := SpanE_open hr13
     refine WL.move rfl <| WL.extract _ _ rfl rfl rfl <| WL.extract _ _ rfl rfl rfl ?_
     refine WL.alloc hS30 ti46 rfl rfl (fun b6 w25 hn6 hS31 => ?_)
     refine WL.store hS31 0 _ _ _ 0 _ [.int .i64 ((meetS x9.t x10.t).a), .int .i64 ((meetS x9.t x10.t).b)] [.int .i64 ((meetS x9.t x10.t).a), .int .i64 ((meetS x9.t x10.t).b)] _ rfl rfl ti46 rfl (Nat.le_of_ble_eq_true rfl) rfl rfl rfl rfl rfl rfl (fun w26 hS32 => ?_)
     obtain ⟨G17, hle17, hc16, hS33⟩ := hS32.shutB hn6
     refine WL.assign rfl <| WL.nil <| WC.seq <| WC.seq <| WC.region rfl <| WL.move rfl <| WL.not (meetB x9.t x10.t) rfl rfl ?_
     refine WL.split (fun (h17 : (!(meetB x9.t x10.t)) = true) => ?_) (fun (h17 : (!(meetB x9.t x10.t)) = false) => ?_)
     ·refine WL.move rfl <| WL.no rfl rfl <| WL.no rfl rfl <| WL.no rfl rfl <| WL.pickT rfl rfl <| WL.nil <| WC.condT rfl <| WC.exit <| WC.region rfl ?_
      refine WL.incr k5 (by have hreach : reach = 140737488355328 := rfl; omega) rfl rfl rfl ?_
      refine WL.move rfl <| WL.nil ?_
      exact ⟨_, ⟨k5 + 1, v7, o2, G17, rfl, (hle14.trans ((hle15.trans hle16).trans hle17)), hS33, (Row.cast (hr11.mono ((hle15.trans hle16).trans hle17)) (by (rw [joinG_no1 (by assumption) (by assumption)]))), rfl, rfl, rfl, rfl, rfl, rfl, rfl, rfl, rfl, rfl, (by omega)⟩, (show (normL b).length - (k5 + 1) < (normL b).length - k5 by omega)⟩
     refine WL.move rfl <| WL.move rfl <| WL.makeFunc _ rfl rfl ?_
     refine WL.callF [vo, .func (.func 109) #[] #[.pointer (some (⟨b4, 0, none⟩ : Addr)), .pointer (some (⟨b5, 0, none⟩ : Addr))]] #[] hb107 rfl rfl rfl ((c_ContainsP _ _ hS33.imm on (fun x8 => joinNe x9.v x10.v x8) _ (hvo.mono ((((((((((((hle1.trans hle2).trans hle3).trans hle5).trans hle8).trans hle10).trans hle11).trans hle12).trans hle13).trans hle14).trans hle15).trans hle16).trans hle17)) 109 #[.pointer (some (⟨b4, 0, none⟩ : Addr)), .pointer (some (⟨b5, 0, none⟩ : Addr))] ⟨hb109, fun G8 w8 v8 x8 hle8 hG8 hon8 hA8 => by obtain ⟨cs_x8, rfl, hr_x8⟩ := hA8; exact c_join2 G8 w8 hG8 x8 x9.v x9.t.a x9.t.b x10.v x10.t.a x10.t.b cs_x8 hr_x8 v6 ((hs7.mono ((((hle13.trans hle14).trans hle15).trans hle16).trans hle17)).mono hle8) (⟨b4, 0, none⟩ : Addr) ((hc13.mono (((hle14.trans hle15).trans hle16).trans hle17)).mono hle8) v8 ((hs8.mono ((hle15.trans hle16).trans hle17)).mono hle8) (⟨b5, 0, none⟩ : Addr) ((hc15.mono (hle16.trans hle17)).mono hle8) (by have hq8 := okP_iff.1 (hall _ hon8); omega) (by have hq8 := okP_iff.1 (hall _ hon8); omega)⟩ ).mono ?_)
     rintro e w27 ⟨r13, G18, rfl, hres7, hpost7⟩
     refine ⟨_, rfl, ?_⟩
     have hS34 := hS33.call hres7
     have hle18 := hres7.le
     subst hpost7
     refine WL.split (fun (h18 : (on.any (fun x8 => joinNe x9.v x10.v x8)) = true) => ?_) (fun (h18 : (on.any (fun x8 => joinNe x9.v x10.v x8)) = false) => ?_)
     ·refine WL.pickF rfl rfl <| WL.nil <| WC.condT rfl <| WC.exit <| WC.region rfl ?_
      refine WL.incr k5 (by have hreach : reach = 140737488355328 := rfl; omega) rfl rfl rfl ?_
      refine WL.move rfl <| WL.nil ?_
      exact ⟨_, ⟨k5 + 1, v7, o2, G18, rfl, (hle14.trans (((hle15.trans hle16).trans hle17).trans hle18)), hS34, (Row.cast (hr11.mono (((hle15.trans hle16).trans hle17).trans hle18)) (by (rw [joinG_no2 (by assumption) (by assumption)]))), rfl, rfl, rfl, rfl, rfl, rfl, rfl, rfl, rfl, rfl, (by omega)⟩, (show (normL b).length - (k5 + 1) < (normL b).length - k5 by omega)⟩
     refine WL.pickF rfl rfl <| WL.nil <| WC.condF rfl <| WC.skip <| WC.seq <| WC.region rfl <| WL.fieldAddr _ 0 _ fl63 rfl rfl rfl <| WL.loadG1 hS34 (Cells.drop 0 (hc13.mono ((((hle14.trans hle15).trans hle16).trans hle17).trans hle18))) ti61 rfl rfl rfl ?_
     refine WL.callF [v6] #[] hb111 rfl rfl rfl ((c_CloneV _ _ hS34.imm x9.v _ (hs7.mono (((((hle13.trans hle14).trans hle15).trans hle16).trans hle17).trans hle18)) ).mono ?_)
     rintro e w28 ⟨r14, G19, rfl, hres8, hpost8⟩
     refine ⟨_, rfl, ?_⟩
     have hS35 := hS34.call hres8
     have hle19 := hres8.le
     obtain ⟨o3, hr14, hf1⟩ := hpost8
     have hS36 := hS34.adoptO hres8 hf1
     refine WL.assign rfl <| WL.nil <| WC.seq <| WC.seq <| WC.region rfl <| WL.fieldAddr _ 0 _ fl63 rfl rfl rfl <| WL.loadG1 hS36 (Cells.drop 0 (hc15.mono (((hle16.trans hle17).trans hle18).trans hle19))) ti61 rfl rfl rfl ?_
     have bd9 := hs8.bound
     refine WL.lenSl (hs8.mono ((((hle15.trans hle16).trans hle17).trans hle18).trans hle19)) ul61 rfl rfl <| WL.move rfl <| WL.nil <| WC.block ?_
     refine WC.loop (γ := Nat) (fun m ρ1 w1 => ∃ (k6 : Nat), ∃ (v9 : Value) (o4 : OB), ∃ (G20 : GH), m = x10.v.length - k6 ∧ G19.le G20 ∧ St w [] G G20 [o4, o2] w1 ∧ Row ValE 32 34 G20 v9 (x9.v ++ restV on (x10.v.take k6)) o4 ∧ ρ1 2 = vo ∧ ρ1 18 = r8 ∧ ρ1 20 = v7 ∧ ρ1 22 = .pointer (some (⟨b4, 0, none⟩ : Addr)) ∧ ρ1 25 = .pointer (some (⟨b6, 0, none⟩ : Addr)) ∧ ρ1 27 = v9 ∧ ρ1 134 = r5 ∧ ρ1 135 = .int .i64 (((normL a).length : Nat) : Int) ∧ ρ1 136 = .int .i64 (k4 : Int) ∧ ρ1 140 = r8 ∧ ρ1 141 = .int .i64 (((normL b).length : Nat) : Int) ∧ ρ1 142 = .int .i64 (k5 : Int) ∧ ρ1 165 = v8 ∧ ρ1 166 = .int .i64 (x10.v.length : Int) ∧ ρ1 167 = .int .i64 (k6 : Int) ∧ k6 ≤ x10.v.length) (fun m => m) _ ⟨0, r14, o3, G19, rfl, (G19.le_refl), hS36, (Row.cast hr14 (by simp [restV])), rfl, rfl, rfl, rfl, rfl, rfl, rfl, rfl, rfl, rfl, rfl, rfl, rfl, rfl, rfl, (by omega)⟩ ?_
     rintro m ρ1 w29 ⟨k6, v9, o4, G20, rfl, hle20, hS37, hr15, e40, e41, e42, e43, e44, e45, e46, e47, e48, e49, e50, e51, e52, e53, e54, f9⟩
     refine WC.set (d := 2) e40 <| WC.set (d := 18) e41 <| WC.set (d := 20) e42 <| WC.set (d := 22) e43 <| WC.set (d := 25) e44 <| WC.set (d := 27) e45 <| WC.set (d := 134) e46 <| WC.set (d := 135) e47 <| WC.set (d := 136) e48 <| WC.set (d := 140) e49 <| WC.set (d := 141) e50 <| WC.set (d := 142) e51 <| WC.set (d := 165) e52 <| WC.set (d := 166) e53 <| WC.set (d := 167) e54 ?_
     have hrl := restV_len on (x10.v.take k6)
     have hrt := List.length_take_le k6 x10.v
     refine WC.seq <| WC.region rfl ?_
     refine WL.lssS (k6 : Int) (x10.v.length : Int) rfl rfl rfl (fun h19 => ?_) (fun h19 => ?_)
     ·refine WL.nil <| WC.seq <| WC.condT rfl <| WC.skip <| WC.seq <| WC.block <| WC.seq <| WC.region rfl <| WL.move rfl ?_
      refine WL.indexAddr (hs8.mono (((((hle15.trans hle16).trans hle17).trans hle18).trans hle19).trans hle20)) k6 (by omega) ul61 ti34 rfl rfl rfl rfl (fun p11 x11 hx11 he11 => ?_)
      obtain ⟨cs12, hc17, hr16⟩ := he11
      obtain ⟨rfl, hb26, hb27, hb28⟩ := ValE_open hr16
      refine WL.loadGAt hS37 hc17 [.int .i64 x11.k, .int .i64 x11.n, strV x11.s] ti34 rfl rfl rfl rfl rfl ?_
      refine WL.alloc hS37 ti3 rfl rfl (fun b7 w30 hn7 hS38 => ?_)
      refine WL.alloc hS38 ti34 rfl rfl (fun b8 w31 hn8 hS39 => ?_)
      refine WL.store hS39 1 _ _ _ 0 _ [.int .i64 (k6 : Int)] [.int .i64 (k6 : Int)] _ rfl rfl ti3 rfl (Nat.le_of_ble_eq_true rfl) rfl rfl rfl rfl rfl rfl (fun w32 hS40 => ?_)
      obtain ⟨G21, hle21, hc18, hS41⟩ := hS40.sealAt 1 rfl hn7
      refine WL.store hS41 0 _ _ _ 0 _ [.int .i64 x11.k, .int .i64 x11.n, strV x11.s] [.int .i64 x11.k, .int .i64 x11.n, strV x11.s] _ rfl rfl ti34 rfl (Nat.le_of_ble_eq_true rfl) rfl rfl rfl rfl rfl rfl (fun w33 hS42 => ?_)
      obtain ⟨G22, hle22, hc19, hS43⟩ := hS42.shutB hn8
      refine WL.nil <| WC.seq <| WC.region rfl <| WL.move rfl <| WL.makeFunc _ rfl rfl ?_
      refine WL.callF [vo, .func (.func 112) #[] #[.pointer (some (⟨b7, 0, none⟩ : Addr))]] #[] hb107 rfl rfl rfl ((c_ContainsP _ _ hS43.imm on (fun x8 => decide (x8.2 = (k6 : Int))) _ (hvo.mono (((((((((((((((((hle1.trans hle2).trans hle3).trans hle5).trans hle8).trans hle10).trans hle11).trans hle12).trans hle13).trans hle14).trans hle15).trans hle16).trans hle17).trans hle18).trans hle19).trans hle20).trans hle21).trans hle22)) 112 #[.pointer (some (⟨b7, 0, none⟩ : Addr))] ⟨hb112, fun G8 w8 v8 x8 hle8 hG8 hon8 hA8 => by obtain ⟨cs_x8, rfl, hr_x8⟩ := hA8; exact c_join3 G8 w8 hG8 x8 (k6 : Int) cs_x8 hr_x8  (⟨b7, 0, none⟩ : Addr) ((hc18.mono hle22).mono hle8) ⟩ ).mono ?_)
      rintro e w34 ⟨r15, G23, rfl, hres9, hpost9⟩
      refine ⟨_, rfl, ?_⟩
      have hS44 := hS43.call hres9
      have hle23 := hres9.le
      subst hpost9
      refine WL.split (fun (h20 : (on.any (fun x8 => decide (x8.2 = (k6 : Int)))) = true) => ?_) (fun (h20 : (on.any (fun x8 => decide (x8.2 = (k6 : Int)))) = false) => ?_)
      ·refine WL.not true rfl rfl <| WL.nil <| WC.condF rfl <| WC.skip <| WC.region rfl ?_
       refine WL.incr k6 (by have hreach : reach = 140737488355328 := rfl; omega) rfl rfl rfl ?_
       refine WL.move rfl <| WL.nil ?_
       have hS45 := hS44.tail
       exact ⟨_, ⟨k6 + 1, v9, o4, G23, rfl, (hle20.trans ((hle21.trans hle22).trans hle23)), hS45, (Row.cast (hr15.mono ((hle21.trans hle22).trans hle23)) (by (rw [restV_no (by assumption) (by assumption)]))), rfl, rfl, rfl, rfl, rfl, rfl, rfl, rfl, rfl, rfl, rfl, rfl, rfl, rfl, rfl, (by omega)⟩, (show x10.v.length - (k6 + 1) < x10.v.length - k6 by omega)⟩
      refine WL.not false rfl rfl <| WL.nil <| WC.condT rfl <| WC.region rfl <| WL.move rfl <| WL.loadGAt hS44 (hc19.mono hle23) [.int .i64 x11.k, .int .i64 x11.n, strV x11.s] ti34 rfl rfl rfl rfl rfl ?_
      refine WL.buildSlice _ [(0, [.int .i64 x11.k, .int .i64 x11.n, strV x11.s])] [.int .i64 x11.k, .int .i64 x11.n, strV x11.s] hS44 sl61 rfl rfl rfl rfl (fun z hz => by match z, hz with | [z0, z1, z2], _ => rfl) (fun b9 w35 hn9 hS46 => ?_)
      refine WL.push (m := ([x11] : List Val)) sl61 rfl rfl rfl (hr15.mono ((hle21.trans hle22).trans hle23)) hS46 2 rfl 0 _ _ _ _ _ rfl ⟨[.int .i64 x11.k, .int .i64 x11.n, strV x11.s], _, rfl, (ValE_mk x11 hb26 hb27 hb28), rfl⟩ rfl (by have hreach : reach = 140737488355328 := rfl; simp only [List.length_append, List.length_cons, List.length_nil]; omega) (by have hreach : reach = 140737488355328 := rfl; simp only [List.length_append, List.length_cons, List.length_nil]; omega) rfl rfl rfl (fun v10 o5 w36 hr17 hS47 => ?_)
      have hS48 := hS47.tail
      refine WL.assign rfl <| WL.nil <| WC.region rfl ?_
      refine WL.incr k6 (by have hreach : reach = 140737488355328 := rfl; omega) rfl rfl rfl ?_
      refine WL.move rfl <| WL.nil ?_
      have hS49 := hS48.tail
      exact ⟨_, ⟨k6 + 1, v10, o5, G23, rfl, (hle20.trans ((hle21.trans hle22).trans hle23)), hS49, (Row.cast hr17 (by (rw [restV_yes (by assumption) (by assumption), List.append_assoc]))), rfl, rfl, rfl, rfl, rfl, rfl, rfl, rfl, rfl, rfl, rfl, rfl, rfl, rfl, rfl, (by omega)⟩, (show x10.v.length - (k6 + 1) < x10.v.length - k6 by omega)⟩
     refine WL.nil <| WC.seq <| WC.condF rfl <| WC.exit ?_
     obtain ⟨G24, hle24, hs10, hS50⟩ := Row.freeze hr15 hS37 0 rfl
     refine WC.region rfl <| WL.move rfl <| WL.move rfl <| WL.loadGAt hS50 (hc16.mono (((hle18.trans hle19).trans hle20).trans hle24)) [.int .i64 ((meetS x9.t x10.t).a), .int .i64 ((meetS x9.t x10.t).b)] ti46 rfl rfl rfl rfl rfl ?_
     refine WL.build _ [(0, [v9]), (1, [.int .i64 ((meetS x9.t x10.t).a), .int .i64 ((meetS x9.t x10.t).b)])] [v9, .int .i64 ((meetS x9.t x10.t).a), .int .i64 ((meetS x9.t x10.t).b)] ti63 rfl fl63 rfl rfl (by show [(0, (v9 : Value).cells.toList), (1, (.agg #[.int .i64 ((meetS x9.t x10.t).a), .int .i64 ((meetS x9.t x10.t).b)] : Value).cells.toList)] = _; simp only [hs10.cells1] <;> rfl) rfl ?_
     refine WL.buildSlice _ [(0, [v9, .int .i64 ((meetS x9.t x10.t).a), .int .i64 ((meetS x9.t x10.t).b)])] [v9, .int .i64 ((meetS x9.t x10.t).a), .int .i64 ((meetS x9.t x10.t).b)] hS50 sl22 rfl rfl rfl rfl (fun z hz => by match z, hz with | [z0, z1, z2], _ => rfl) (fun b10 w37 hn10 hS51 => ?_)
     refine WL.push (m := ([(Fact.mk (x9.v ++ restV on (x10.v.take k6)) (Span.mk ((meetS x9.t x10.t).a) ((meetS x9.t x10.t).b)))] : List Fact)) sl22 rfl rfl rfl (hr11.mono ((((((hle15.trans hle16).trans hle17).trans hle18).trans hle19).trans hle20).trans hle24)) hS51 2 rfl 0 _ _ _ _ _ rfl ⟨[v9, .int .i64 ((meetS x9.t x10.t).a), .int .i64 ((meetS x9.t x10.t).b)], _, rfl, (FactE_mk (Fact.mk (x9.v ++ restV on (x10.v.take k6)) (Span.mk ((meetS x9.t x10.t).a) ((meetS x9.t x10.t).b))) hs10 hb24 hb25), rfl⟩ rfl (by have hreach : reach = 140737488355328 := rfl; simp only [List.length_append, List.length_cons, List.length_nil]; omega) (by have hreach : reach = 140737488355328 := rfl; simp only [List.length_append, List.length_cons, List.length_nil]; omega) rfl rfl rfl (fun v11 o6 w38 hr18 hS52 => ?_)
     have hS53 := hS52.tail
     refine WL.assign rfl <| WL.nil <| WC.region rfl ?_
     refine WL.incr k5 (by have hreach : reach = 140737488355328 := rfl; omega) rfl rfl rfl ?_
     refine WL.move rfl <| WL.nil ?_
     have hS54 := hS53.tail
     exact ⟨_, ⟨k5 + 1, v11, o6, G24, rfl, (hle14.trans ((((((hle15.trans hle16).trans hle17).trans hle18).trans hle19).trans hle20).trans hle24)), hS54, (Row.cast hr18 (by (rw [joinG_yes (by assumption) (by assumption) (by assumption), restV_all (by omega), List.append_assoc]))), rfl, rfl, rfl, rfl, rfl, rfl, rfl, rfl, rfl, rfl, (by omega)⟩, (show (normL b).length - (k5 + 1) < (normL b).length - k5 by omega)⟩
    refine WL.nil <| WC.seq <| WC.condF rfl <| WC.exit <| WC.region rfl ?_
    refine WL.incr k4 (by have hreach : reach = 140737488355328 := rfl; omega) rfl rfl rfl ?_
    refine WL.move rfl <| WL.nil ?_
    exact ⟨_, ⟨k4 + 1, v7, o2, G14, rfl, (hle12.trans (hle13.trans hle14)), hS26, (Row.cast hr11 (by (rw [joinG_all (by omega), ← joinF_take (by assumption)]))), rfl, rfl, rfl, rfl, rfl, rfl, (by omega)⟩, (show (normL a).length - (k4 + 1) < (normL a).length - k4 by omega)⟩
   refine WL.nil <| WC.seq <| WC.condF rfl <| WC.exit <| WC.seq <| WC.region rfl <| WL.move rfl ?_
   obtain ⟨G25, hle25, hs11, hS55⟩ := Row.freeze hr9 hS21 0 rfl
   refine WL.callF [v5] #[] hb61 rfl rfl rfl ((c_finished _ _ hS55.imm (joinF on ((normL a).take k4) (normL b)) _ hs11 (by rw [joinF_all (by omega)]; exact joinF_good normL_good normL_good) (by rw [joinF_all (by omega)]; exact Nat.le_trans (joinF_len _ _) (Nat.mul_le_mul (normL_le a) (normL_le b)))).mono ?_)
   rintro e w39 ⟨r16, G26, rfl, hres10, hpost10⟩
   refine ⟨_, rfl, ?_⟩
   have hS56 := hS55.call hres10
   have hle26 := hres10.le
   obtain ⟨r17, r18, rfl, hs12, rfl⟩ := hpost10
   refine WL.extract _ _ rfl rfl rfl <| WL.extract _ _ rfl rfl rfl <| WL.assign rfl <| WL.assign rfl <| WL.nil <| WC.ret ?_
   exact ⟨_, rfl, _, _, rfl, hS56.res, r17, (.int .i64 (finE (joinF on ((normL a).take k4) (normL b)))), rfl, (Sl.cast hs12 (by (rw [joinF_all (by omega)]; exact (join_go h1 h2 (by omega) (by omega) hallB hallK (by omega)).1.symm))), (congrArg (Value.int .i64) (by (rw [joinF_all (by omega)]; exact (join_go h1 h2 (by omega) (by omega) hallB hallK (by omega)).2.symm)))⟩
  refine WL.not false rfl rfl <| WL.pickF rfl rfl <| WL.nil <| WC.condT rfl <| WC.seq <| WC.region rfl <| WL.assign rfl <| WL.assign rfl <| WL.nil <| WC.ret ?_
  exact ⟨_, rfl, _, _, rfl, hS2.res, (.slice none 0 0), (.int .i64 1), rfl, (Sl.cast (Sl.nil FactE 40 G2) (by exact (join_invalid (.inr h2)).1.symm)), (congrArg (Value.int .i64) (by exact (join_invalid (.inr h2)).2.symm))⟩
 refine WL.not false rfl rfl <| WL.move rfl <| WL.no rfl rfl <| WL.no rfl rfl <| WL.no rfl rfl <| WL.pickT rfl rfl <| WL.nil <| WC.condT rfl <| WC.seq <| WC.region rfl <| WL.assign rfl <| WL.assign rfl <| WL.nil <| WC.ret ?_
 exact ⟨_, rfl, _, _, rfl, hS1.res, (.slice none 0 0), (.int .i64 1), rfl, (Sl.cast (Sl.nil FactE 40 G1) (by exact (join_invalid (.inl h1)).1.symm)), (congrArg (Value.int .i64) (by exact (join_invalid (.inl h1)).2.symm))⟩
end Go.Civ
