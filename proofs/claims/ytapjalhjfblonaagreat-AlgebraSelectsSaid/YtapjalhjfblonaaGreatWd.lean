/- Walks, printed by specs38.py. -/
import Derived.Test.YtapjalhjfblonaaGreatProg
import Derived.KernelRfl
import Derived.WalkKit
import Derived.Test.YtapjalhjfblonaaGreatWc
set_option linter.unusedVariables false
set_option linter.unusedSimpArgs false
set_option maxRecDepth 100000
set_option maxHeartbeats 4000000
namespace Go.Civ
open Go.Proofs


theorem c_rfValid (G : GH) (w : World) (hG : G.In w) (l : List Fact) (vl : Value) (hvl : Sl FactE 40 G vl l)  : Calls Tryz.prog (nat_lit 33) #[vl] w fun e w' => ∃ r G', e = .returned r ∧ Res [] w G w' G' ∧ r = .bool (rvalidB l) := by
 refine calls_of_WC (N := 51) Tryz.func33 rfl rfl rfl ?_
 have hl0 : ∀ x, l[0]? = some x → l.head?.elim [] Fact.v = x.v := fun x hx => by rw [List.head?_eq_getElem?, hx]; rfl
 have hS := St.start (X := []) hG
 refine WC.seq <| WC.region rfl <| WL.assign rfl <| WL.nil <| WC.seq <| WC.seq <| WC.region rfl <| WL.move rfl ?_
 have bd1 := hvl.bound
 refine WL.lenSl hvl ul22 rfl rfl ?_
 refine WL.gtrS (l.length : Int) 1000 rfl rfl rfl (fun h1 => ?_) (fun h1 => ?_)
 ·refine WL.nil <| WC.condT rfl <| WC.seq <| WC.region rfl <| WL.assign rfl <| WL.nil <| WC.ret ?_
  exact ⟨_, rfl, _, _, rfl, hS.res, (congrArg Value.bool (by unfold rvalidB; (rw [decide_eq_false (by omega)]; rfl)))⟩
 refine WL.nil <| WC.condF rfl <| WC.skip <| WC.seq <| WC.seq <| WC.region rfl <| WL.assign rfl <| WL.nil <| WC.block ?_
 refine WC.loop (γ := Nat) (fun m ρ1 w1 => ∃ (k1 : Nat), ∃ (G1 : GH), m = l.length - k1 ∧ G.le G1 ∧ St w [] G G1 [] w1 ∧ ρ1 0 = vl ∧ ρ1 3 = .int .i64 (k1 : Int) ∧ k1 ≤ l.length ∧ ∀ j, j < k1 → ∀ x, l[j]? = some x → rfactB (l.head?.elim [] Fact.v) x = true) (fun m => m) _ ⟨0, G, rfl, (G.le_refl), hS, rfl, rfl, (by omega), (by intro j hj; omega)⟩ ?_
 rintro m ρ1 w1 ⟨k1, G1, rfl, hle1, hS1, e1, e2, f1, f2⟩
 refine WC.set (d := 0) e1 <| WC.set (d := 3) e2 <| WC.seq <| WC.seq <| WC.region rfl <| WL.move rfl <| WL.move rfl ?_
 have bd2 := hvl.bound
 refine WL.lenSl (hvl.mono hle1) ul22 rfl rfl ?_
 refine WL.lssS (k1 : Int) (l.length : Int) rfl rfl rfl (fun h2 => ?_) (fun h2 => ?_)
 ·refine WL.nil <| WC.condT rfl <| WC.skip <| WC.seq <| WC.block <| WC.seq ?_
  obtain ⟨p1, x1, hx1, he1, ep1⟩ := Sl.at (hvl.mono hle1) k1 (by omega)
  obtain ⟨cs1, hc1, hr1⟩ := he1
  obtain ⟨v1, rfl, hs1, hb1, hb2⟩ := FactE_open hr1
  have bd3 := hs1.bound
  rcases Cmp.dec .gtr (x1.v.length : Int) 8 with ⟨hb3, q1⟩ | ⟨hb3, q1⟩
  ·have h3 : 8 < (x1.v.length : Int) := q1
   clear q1
   refine dr ⟨[0, 0, 3, 7, 15, 31, 63, 127, 255, 255, 1023, 2047, 4095, 8191, 16383, 32767, 65535, 131071, 131071, 524287, 1048575, 2097151, 4194303, 8388607, 16777215, 33554431, 67108863, 134217727, 268435455, 536870911, 67108863, 67108863, 3288334335, 7583301631, 16173236223, 34359738367, 68719476735, 137438953471], [0, 1, 2, 3, 5, 6, 7, 8, 9, 10, 11, 14, 15, 16, 17, 18, 19, 20, 23, 24, 25, 26, 27, 28, 30, 31, 32, 33, 36, 37], [4, 12, 21, 29, 34], [13, 22, 35], []⟩ [(13, vl), (14, .int .i64 (k1 : Int)), (15, .pointer (some p1)), (16, .pointer (some (p1.add 0))), (18, .int .i64 (x1.v.length : Int)), (19, .bool true), (20, .bool true), (21, undef), (22, undef), (23, undef), (24, undef), (27, undef), (28, .bool true), (29, .bool true), (30, undef), (31, undef), (32, undef), (33, undef), (36, undef), (37, .bool true), (38, .bool true), (39, undef), (40, undef), (41, undef), (43, undef), (44, undef), (45, undef), (46, undef), (49, undef), (50, .bool true), (17, v1), (25, undef), (34, undef), (42, undef), (47, undef), (26, undef), (35, undef), (48, undef)] [] hS1 ?_ ?_ ?_ (fun w8 hS2 => ?_)
   ·exact ⟨fun _ _ => WL.move rfl <| WL.nu rfl, fun _ _ => WL.move rfl <| WL.nu rfl, fun _ _ => WL.indexAddrP k1 ep1 ul22 ti63 rfl rfl rfl rfl <| WL.nu rfl, fun _ _ => WL.fieldAddr _ 0 _ fl63 rfl rfl rfl <| WL.nu rfl, fun _ _ => WL.lenSl hs1 ul61 rfl rfl <| WL.nu rfl, fun _ _ => WL.cmpV .gtr rfl .i64 (x1.v.length : Int) 8 _ hb3 rfl rfl rfl <| WL.nu rfl, fun _ _ => WL.move rfl <| WL.nu rfl, fun _ _ => WL.no rfl rfl <| WL.nu rfl, fun _ _ => WL.no rfl rfl <| WL.nu rfl, fun _ _ => WL.no rfl rfl <| WL.nu rfl, fun _ _ => WL.no rfl rfl <| WL.nu rfl, fun _ _ => WL.no rfl rfl <| WL.nu rfl, fun _ _ => WL.pickT rfl rfl <| WL.nu rfl, fun _ _ => WL.move rfl <| WL.nu rfl, fun _ _ => WL.no rfl rfl <| WL.nu rfl, fun _ _ => WL.no rfl rfl <| WL.nu rfl, fun _ _ => WL.no rfl rfl <| WL.nu rfl, fun _ _ => WL.no rfl rfl <| WL.nu rfl, fun _ _ => WL.no rfl rfl <| WL.nu rfl, fun _ _ => WL.pickT rfl rfl <| WL.nu rfl, fun _ _ => WL.move rfl <| WL.nu rfl, fun _ _ => WL.no rfl rfl <| WL.nu rfl, fun _ _ => WL.no rfl rfl <| WL.nu rfl, fun _ _ => WL.no rfl rfl <| WL.nu rfl, fun _ _ => WL.no rfl rfl <| WL.nu rfl, fun _ _ => WL.no rfl rfl <| WL.nu rfl, fun _ _ => WL.no rfl rfl <| WL.nu rfl, fun _ _ => WL.no rfl rfl <| WL.nu rfl, fun _ _ => WL.no rfl rfl <| WL.nu rfl, fun _ _ => WL.pickT rfl rfl <| WL.nu rfl, trivial⟩
   ·exact ⟨fun _ hSw => WL.loadG1 hSw (Cells.drop 0 hc1) ti61 rfl rfl rfl <| WL.nu rfl, fun _ _ => WL.no rfl rfl <| WL.nu rfl, fun _ _ => WL.no rfl rfl <| WL.nu rfl, fun _ _ => WL.no rfl rfl <| WL.nu rfl, fun _ _ => WL.no rfl rfl <| WL.nu rfl, trivial⟩
   ·exact ⟨fun _ hSw => WL.no rfl rfl <| WL.nuS hSw rfl, fun _ hSw => WL.no rfl rfl <| WL.nuS hSw rfl, fun _ hSw => WL.no rfl rfl <| WL.nuS hSw rfl, trivial⟩
   refine WC.condT rfl <| WC.seq <| WC.region rfl <| WL.assign rfl <| WL.nil <| WC.ret ?_
   exact ⟨_, rfl, _, _, rfl, hS2.res, (congrArg Value.bool (by unfold rvalidB; (rw [all_no (p := rfactB (l.head?.elim [] Fact.v)) (by assumption) (by first | exact rfact_len (by assumption) | exact rfact_val (by assumption) | exact rfact_span (by assumption) | exact rfact_kinds (by rw [hl0 _ (by assumption)]; assumption))]; simp)))⟩
  have h3 : (x1.v.length : Int) ≤ 8 := q1
  clear q1
  obtain ⟨p2, x2, hx2, he2, ep2⟩ := Sl.at (hvl.mono hle1) k1 (by omega)
  obtain rfl : x1 = x2 := Option.some.inj (hx1.symm.trans hx2)
  obtain ⟨cs2, hc2, hr2⟩ := he2
  obtain ⟨v2, rfl, hs2, hb4, hb5⟩ := FactE_open hr2
  rcases Bool.eq_false_or_eq_true (x1.v.all valB) with h4 | h4
  ·obtain ⟨p3, x3, hx3, he3, ep3⟩ := Sl.at (hvl.mono hle1) k1 (by omega)
   obtain rfl : x1 = x3 := Option.some.inj (hx1.symm.trans hx3)
   obtain ⟨cs3, hc3, hr3⟩ := he3
   obtain ⟨v3, rfl, hs3, hb6, hb7⟩ := FactE_open hr3
   rcases Bool.eq_false_or_eq_true (spanB x1.t) with h5 | h5
   ·obtain ⟨p4, x4, hx4, he4, ep4⟩ := Sl.at (hvl.mono hle1) 0 (by omega)
    obtain ⟨cs4, hc4, hr4⟩ := he4
    obtain ⟨v4, rfl, hs4, hb8, hb9⟩ := FactE_open hr4
    obtain ⟨p5, x5, hx5, he5, ep5⟩ := Sl.at (hvl.mono hle1) k1 (by omega)
    obtain rfl : x1 = x5 := Option.some.inj (hx1.symm.trans hx5)
    obtain ⟨cs5, hc5, hr5⟩ := he5
    obtain ⟨v5, rfl, hs5, hb10, hb11⟩ := FactE_open hr5
    rcases Bool.eq_false_or_eq_true (kindsB x4.v x1.v) with h6 | h6
    ·refine dr ⟨[0, 0, 3, 7, 15, 31, 63, 127, 255, 255, 1023, 2047, 4095, 8191, 16383, 32767, 65535, 131071, 131071, 524287, 1048575, 2097151, 4194303, 8388607, 16777215, 33554431, 67108863, 134217727, 268435455, 536870911, 67108863, 67108863, 3288334335, 7583301631, 16173236223, 34359738367, 68719476735, 137438953471], [0, 1, 2, 3, 5, 6, 7, 8, 9, 10, 11, 14, 15, 16, 17, 18, 19, 20, 23, 24, 25, 26, 27, 28, 30, 31, 32, 33, 36, 37], [4, 12, 21, 29, 34], [13, 22, 35], []⟩ [(13, vl), (14, .int .i64 (k1 : Int)), (15, .pointer (some p1)), (16, .pointer (some (p1.add 0))), (18, .int .i64 (x1.v.length : Int)), (19, .bool false), (20, .bool false), (21, vl), (22, .int .i64 (k1 : Int)), (23, .pointer (some p2)), (24, .pointer (some (p2.add 0))), (27, .bool false), (28, .bool false), (29, .bool false), (30, vl), (31, .int .i64 (k1 : Int)), (32, .pointer (some p3)), (33, .pointer (some (p3.add 1))), (36, .bool false), (37, .bool false), (38, .bool false), (39, vl), (40, .pointer (some p4)), (41, .pointer (some (p4.add 0))), (43, vl), (44, .int .i64 (k1 : Int)), (45, .pointer (some p5)), (46, .pointer (some (p5.add 0))), (49, .bool false), (50, .bool false), (17, v1), (25, v2), (34, .agg #[.int .i64 x1.t.a, .int .i64 x1.t.b]), (42, v4), (47, v5), (26, .bool true), (35, .bool true), (48, .bool true)] [] hS1 ?_ ?_ ?_ (fun w8 hS3 => ?_)
     ·exact ⟨fun _ _ => WL.move rfl <| WL.nu rfl, fun _ _ => WL.move rfl <| WL.nu rfl, fun _ _ => WL.indexAddrP k1 ep1 ul22 ti63 rfl rfl rfl rfl <| WL.nu rfl, fun _ _ => WL.fieldAddr _ 0 _ fl63 rfl rfl rfl <| WL.nu rfl, fun _ _ => WL.lenSl hs1 ul61 rfl rfl <| WL.nu rfl, fun _ _ => WL.cmpV .gtr rfl .i64 (x1.v.length : Int) 8 _ hb3 rfl rfl rfl <| WL.nu rfl, fun _ _ => WL.move rfl <| WL.nu rfl, fun _ _ => WL.move rfl <| WL.nu rfl, fun _ _ => WL.move rfl <| WL.nu rfl, fun _ _ => WL.indexAddrP k1 ep2 ul22 ti63 rfl rfl rfl rfl <| WL.nu rfl, fun _ _ => WL.fieldAddr _ 0 _ fl63 rfl rfl rfl <| WL.nu rfl, fun _ _ => WL.not true rfl rfl <| WL.nu rfl, fun _ _ => WL.pickF rfl rfl <| WL.nu rfl, fun _ _ => WL.move rfl <| WL.nu rfl, fun _ _ => WL.move rfl <| WL.nu rfl, fun _ _ => WL.move rfl <| WL.nu rfl, fun _ _ => WL.indexAddrP k1 ep3 ul22 ti63 rfl rfl rfl rfl <| WL.nu rfl, fun _ _ => WL.fieldAddr _ 1 _ fl63 rfl rfl rfl <| WL.nu rfl, fun _ _ => WL.not true rfl rfl <| WL.nu rfl, fun _ _ => WL.pickF rfl rfl <| WL.nu rfl, fun _ _ => WL.move rfl <| WL.nu rfl, fun _ _ => WL.move rfl <| WL.nu rfl, fun _ _ => WL.indexAddrP 0 ep4 ul22 ti63 rfl rfl rfl rfl <| WL.nu rfl, fun _ _ => WL.fieldAddr _ 0 _ fl63 rfl rfl rfl <| WL.nu rfl, fun _ _ => WL.move rfl <| WL.nu rfl, fun _ _ => WL.move rfl <| WL.nu rfl, fun _ _ => WL.indexAddrP k1 ep5 ul22 ti63 rfl rfl rfl rfl <| WL.nu rfl, fun _ _ => WL.fieldAddr _ 0 _ fl63 rfl rfl rfl <| WL.nu rfl, fun _ _ => WL.not true rfl rfl <| WL.nu rfl, fun _ _ => WL.pickF rfl rfl <| WL.nu rfl, trivial⟩
     ·exact ⟨fun _ hSw => WL.loadG1 hSw (Cells.drop 0 hc1) ti61 rfl rfl rfl <| WL.nu rfl, fun _ hSw => WL.loadG1 hSw (Cells.drop 0 hc2) ti61 rfl rfl rfl <| WL.nu rfl, fun _ hSw => WL.loadGAt hSw (Cells.drop 1 hc3) [.int .i64 x1.t.a, .int .i64 x1.t.b] ti46 rfl rfl rfl rfl rfl <| WL.nu rfl, fun _ hSw => WL.loadG1 hSw (Cells.drop 0 hc4) ti61 rfl rfl rfl <| WL.nu rfl, fun _ hSw => WL.loadG1 hSw (Cells.drop 0 hc5) ti61 rfl rfl rfl <| WL.nu rfl, trivial⟩
     ·exact ⟨fun _ hSw => WL.callD [v2] #[] hb92 rfl rfl rfl hSw (c_rAll _ _ hSw.imm x1.v _ hs2 ) (congrArg Value.bool h4.symm), fun _ hSw => WL.callD [.agg #[.int .i64 x1.t.a, .int .i64 x1.t.b]] #[] hb86 rfl rfl rfl hSw (c_rSpan _ _ hSw.imm x1.t _ (SpanE_mk x1.t hb6 hb7) ) (congrArg Value.bool h5.symm), fun _ hSw => WL.callD [v4, v5] #[] hb75 rfl rfl rfl hSw (c_rkinds _ _ hSw.imm x4.v x1.v _ hs4 _ hs5 ) (congrArg Value.bool h6.symm), trivial⟩
     refine WC.condF rfl <| WC.skip <| WC.region rfl <| WL.move rfl ?_
     refine WL.incr k1 (by have hreach : reach = 140737488355328 := rfl; omega) rfl rfl rfl ?_
     refine WL.assign rfl <| WL.nil ?_
     exact ⟨_, ⟨k1 + 1, G1, rfl, hle1, hS3, rfl, rfl, (by omega), (by exact lt_step (by assumption) (by assumption) (rfact_yes (by assumption) (by assumption) (by assumption) (by rw [hl0 _ (by assumption)]; assumption)))⟩, (show l.length - (k1 + 1) < l.length - k1 by omega)⟩
    refine dr ⟨[0, 0, 3, 7, 15, 31, 63, 127, 255, 255, 1023, 2047, 4095, 8191, 16383, 32767, 65535, 131071, 131071, 524287, 1048575, 2097151, 4194303, 8388607, 16777215, 33554431, 67108863, 134217727, 268435455, 536870911, 67108863, 67108863, 3288334335, 7583301631, 16173236223, 34359738367, 68719476735, 137438953471], [0, 1, 2, 3, 5, 6, 7, 8, 9, 10, 11, 14, 15, 16, 17, 18, 19, 20, 23, 24, 25, 26, 27, 28, 30, 31, 32, 33, 36, 37], [4, 12, 21, 29, 34], [13, 22, 35], []⟩ [(13, vl), (14, .int .i64 (k1 : Int)), (15, .pointer (some p1)), (16, .pointer (some (p1.add 0))), (18, .int .i64 (x1.v.length : Int)), (19, .bool false), (20, .bool false), (21, vl), (22, .int .i64 (k1 : Int)), (23, .pointer (some p2)), (24, .pointer (some (p2.add 0))), (27, .bool false), (28, .bool false), (29, .bool false), (30, vl), (31, .int .i64 (k1 : Int)), (32, .pointer (some p3)), (33, .pointer (some (p3.add 1))), (36, .bool false), (37, .bool false), (38, .bool false), (39, vl), (40, .pointer (some p4)), (41, .pointer (some (p4.add 0))), (43, vl), (44, .int .i64 (k1 : Int)), (45, .pointer (some p5)), (46, .pointer (some (p5.add 0))), (49, .bool true), (50, .bool true), (17, v1), (25, v2), (34, .agg #[.int .i64 x1.t.a, .int .i64 x1.t.b]), (42, v4), (47, v5), (26, .bool true), (35, .bool true), (48, .bool false)] [] hS1 ?_ ?_ ?_ (fun w8 hS4 => ?_)
    ·exact ⟨fun _ _ => WL.move rfl <| WL.nu rfl, fun _ _ => WL.move rfl <| WL.nu rfl, fun _ _ => WL.indexAddrP k1 ep1 ul22 ti63 rfl rfl rfl rfl <| WL.nu rfl, fun _ _ => WL.fieldAddr _ 0 _ fl63 rfl rfl rfl <| WL.nu rfl, fun _ _ => WL.lenSl hs1 ul61 rfl rfl <| WL.nu rfl, fun _ _ => WL.cmpV .gtr rfl .i64 (x1.v.length : Int) 8 _ hb3 rfl rfl rfl <| WL.nu rfl, fun _ _ => WL.move rfl <| WL.nu rfl, fun _ _ => WL.move rfl <| WL.nu rfl, fun _ _ => WL.move rfl <| WL.nu rfl, fun _ _ => WL.indexAddrP k1 ep2 ul22 ti63 rfl rfl rfl rfl <| WL.nu rfl, fun _ _ => WL.fieldAddr _ 0 _ fl63 rfl rfl rfl <| WL.nu rfl, fun _ _ => WL.not true rfl rfl <| WL.nu rfl, fun _ _ => WL.pickF rfl rfl <| WL.nu rfl, fun _ _ => WL.move rfl <| WL.nu rfl, fun _ _ => WL.move rfl <| WL.nu rfl, fun _ _ => WL.move rfl <| WL.nu rfl, fun _ _ => WL.indexAddrP k1 ep3 ul22 ti63 rfl rfl rfl rfl <| WL.nu rfl, fun _ _ => WL.fieldAddr _ 1 _ fl63 rfl rfl rfl <| WL.nu rfl, fun _ _ => WL.not true rfl rfl <| WL.nu rfl, fun _ _ => WL.pickF rfl rfl <| WL.nu rfl, fun _ _ => WL.move rfl <| WL.nu rfl, fun _ _ => WL.move rfl <| WL.nu rfl, fun _ _ => WL.indexAddrP 0 ep4 ul22 ti63 rfl rfl rfl rfl <| WL.nu rfl, fun _ _ => WL.fieldAddr _ 0 _ fl63 rfl rfl rfl <| WL.nu rfl, fun _ _ => WL.move rfl <| WL.nu rfl, fun _ _ => WL.move rfl <| WL.nu rfl, fun _ _ => WL.indexAddrP k1 ep5 ul22 ti63 rfl rfl rfl rfl <| WL.nu rfl, fun _ _ => WL.fieldAddr _ 0 _ fl63 rfl rfl rfl <| WL.nu rfl, fun _ _ => WL.not false rfl rfl <| WL.nu rfl, fun _ _ => WL.pickF rfl rfl <| WL.nu rfl, trivial⟩
    ·exact ⟨fun _ hSw => WL.loadG1 hSw (Cells.drop 0 hc1) ti61 rfl rfl rfl <| WL.nu rfl, fun _ hSw => WL.loadG1 hSw (Cells.drop 0 hc2) ti61 rfl rfl rfl <| WL.nu rfl, fun _ hSw => WL.loadGAt hSw (Cells.drop 1 hc3) [.int .i64 x1.t.a, .int .i64 x1.t.b] ti46 rfl rfl rfl rfl rfl <| WL.nu rfl, fun _ hSw => WL.loadG1 hSw (Cells.drop 0 hc4) ti61 rfl rfl rfl <| WL.nu rfl, fun _ hSw => WL.loadG1 hSw (Cells.drop 0 hc5) ti61 rfl rfl rfl <| WL.nu rfl, trivial⟩
    ·exact ⟨fun _ hSw => WL.callD [v2] #[] hb92 rfl rfl rfl hSw (c_rAll _ _ hSw.imm x1.v _ hs2 ) (congrArg Value.bool h4.symm), fun _ hSw => WL.callD [.agg #[.int .i64 x1.t.a, .int .i64 x1.t.b]] #[] hb86 rfl rfl rfl hSw (c_rSpan _ _ hSw.imm x1.t _ (SpanE_mk x1.t hb6 hb7) ) (congrArg Value.bool h5.symm), fun _ hSw => WL.callD [v4, v5] #[] hb75 rfl rfl rfl hSw (c_rkinds _ _ hSw.imm x4.v x1.v _ hs4 _ hs5 ) (congrArg Value.bool h6.symm), trivial⟩
    refine WC.condT rfl <| WC.seq <| WC.region rfl <| WL.assign rfl <| WL.nil <| WC.ret ?_
    exact ⟨_, rfl, _, _, rfl, hS4.res, (congrArg Value.bool (by unfold rvalidB; (rw [all_no (p := rfactB (l.head?.elim [] Fact.v)) (by assumption) (by first | exact rfact_len (by assumption) | exact rfact_val (by assumption) | exact rfact_span (by assumption) | exact rfact_kinds (by rw [hl0 _ (by assumption)]; assumption))]; simp)))⟩
   refine dr ⟨[0, 0, 3, 7, 15, 31, 63, 127, 255, 255, 1023, 2047, 4095, 8191, 16383, 32767, 65535, 131071, 131071, 524287, 1048575, 2097151, 4194303, 8388607, 16777215, 33554431, 67108863, 134217727, 268435455, 536870911, 67108863, 67108863, 3288334335, 7583301631, 16173236223, 34359738367, 68719476735, 137438953471], [0, 1, 2, 3, 5, 6, 7, 8, 9, 10, 11, 14, 15, 16, 17, 18, 19, 20, 23, 24, 25, 26, 27, 28, 30, 31, 32, 33, 36, 37], [4, 12, 21, 29, 34], [13, 22, 35], []⟩ [(13, vl), (14, .int .i64 (k1 : Int)), (15, .pointer (some p1)), (16, .pointer (some (p1.add 0))), (18, .int .i64 (x1.v.length : Int)), (19, .bool false), (20, .bool false), (21, vl), (22, .int .i64 (k1 : Int)), (23, .pointer (some p2)), (24, .pointer (some (p2.add 0))), (27, .bool false), (28, .bool false), (29, .bool false), (30, vl), (31, .int .i64 (k1 : Int)), (32, .pointer (some p3)), (33, .pointer (some (p3.add 1))), (36, .bool true), (37, .bool true), (38, .bool true), (39, undef), (40, undef), (41, undef), (43, undef), (44, undef), (45, undef), (46, undef), (49, undef), (50, .bool true), (17, v1), (25, v2), (34, .agg #[.int .i64 x1.t.a, .int .i64 x1.t.b]), (42, undef), (47, undef), (26, .bool true), (35, .bool false), (48, undef)] [] hS1 ?_ ?_ ?_ (fun w8 hS5 => ?_)
   ·exact ⟨fun _ _ => WL.move rfl <| WL.nu rfl, fun _ _ => WL.move rfl <| WL.nu rfl, fun _ _ => WL.indexAddrP k1 ep1 ul22 ti63 rfl rfl rfl rfl <| WL.nu rfl, fun _ _ => WL.fieldAddr _ 0 _ fl63 rfl rfl rfl <| WL.nu rfl, fun _ _ => WL.lenSl hs1 ul61 rfl rfl <| WL.nu rfl, fun _ _ => WL.cmpV .gtr rfl .i64 (x1.v.length : Int) 8 _ hb3 rfl rfl rfl <| WL.nu rfl, fun _ _ => WL.move rfl <| WL.nu rfl, fun _ _ => WL.move rfl <| WL.nu rfl, fun _ _ => WL.move rfl <| WL.nu rfl, fun _ _ => WL.indexAddrP k1 ep2 ul22 ti63 rfl rfl rfl rfl <| WL.nu rfl, fun _ _ => WL.fieldAddr _ 0 _ fl63 rfl rfl rfl <| WL.nu rfl, fun _ _ => WL.not true rfl rfl <| WL.nu rfl, fun _ _ => WL.pickF rfl rfl <| WL.nu rfl, fun _ _ => WL.move rfl <| WL.nu rfl, fun _ _ => WL.move rfl <| WL.nu rfl, fun _ _ => WL.move rfl <| WL.nu rfl, fun _ _ => WL.indexAddrP k1 ep3 ul22 ti63 rfl rfl rfl rfl <| WL.nu rfl, fun _ _ => WL.fieldAddr _ 1 _ fl63 rfl rfl rfl <| WL.nu rfl, fun _ _ => WL.not false rfl rfl <| WL.nu rfl, fun _ _ => WL.pickF rfl rfl <| WL.nu rfl, fun _ _ => WL.move rfl <| WL.nu rfl, fun _ _ => WL.no rfl rfl <| WL.nu rfl, fun _ _ => WL.no rfl rfl <| WL.nu rfl, fun _ _ => WL.no rfl rfl <| WL.nu rfl, fun _ _ => WL.no rfl rfl <| WL.nu rfl, fun _ _ => WL.no rfl rfl <| WL.nu rfl, fun _ _ => WL.no rfl rfl <| WL.nu rfl, fun _ _ => WL.no rfl rfl <| WL.nu rfl, fun _ _ => WL.no rfl rfl <| WL.nu rfl, fun _ _ => WL.pickT rfl rfl <| WL.nu rfl, trivial⟩
   ·exact ⟨fun _ hSw => WL.loadG1 hSw (Cells.drop 0 hc1) ti61 rfl rfl rfl <| WL.nu rfl, fun _ hSw => WL.loadG1 hSw (Cells.drop 0 hc2) ti61 rfl rfl rfl <| WL.nu rfl, fun _ hSw => WL.loadGAt hSw (Cells.drop 1 hc3) [.int .i64 x1.t.a, .int .i64 x1.t.b] ti46 rfl rfl rfl rfl rfl <| WL.nu rfl, fun _ _ => WL.no rfl rfl <| WL.nu rfl, fun _ _ => WL.no rfl rfl <| WL.nu rfl, trivial⟩
   ·exact ⟨fun _ hSw => WL.callD [v2] #[] hb92 rfl rfl rfl hSw (c_rAll _ _ hSw.imm x1.v _ hs2 ) (congrArg Value.bool h4.symm), fun _ hSw => WL.callD [.agg #[.int .i64 x1.t.a, .int .i64 x1.t.b]] #[] hb86 rfl rfl rfl hSw (c_rSpan _ _ hSw.imm x1.t _ (SpanE_mk x1.t hb6 hb7) ) (congrArg Value.bool h5.symm), fun _ hSw => WL.no rfl rfl <| WL.nuS hSw rfl, trivial⟩
   refine WC.condT rfl <| WC.seq <| WC.region rfl <| WL.assign rfl <| WL.nil <| WC.ret ?_
   exact ⟨_, rfl, _, _, rfl, hS5.res, (congrArg Value.bool (by unfold rvalidB; (rw [all_no (p := rfactB (l.head?.elim [] Fact.v)) (by assumption) (by first | exact rfact_len (by assumption) | exact rfact_val (by assumption) | exact rfact_span (by assumption) | exact rfact_kinds (by rw [hl0 _ (by assumption)]; assumption))]; simp)))⟩
  refine dr ⟨[0, 0, 3, 7, 15, 31, 63, 127, 255, 255, 1023, 2047, 4095, 8191, 16383, 32767, 65535, 131071, 131071, 524287, 1048575, 2097151, 4194303, 8388607, 16777215, 33554431, 67108863, 134217727, 268435455, 536870911, 67108863, 67108863, 3288334335, 7583301631, 16173236223, 34359738367, 68719476735, 137438953471], [0, 1, 2, 3, 5, 6, 7, 8, 9, 10, 11, 14, 15, 16, 17, 18, 19, 20, 23, 24, 25, 26, 27, 28, 30, 31, 32, 33, 36, 37], [4, 12, 21, 29, 34], [13, 22, 35], []⟩ [(13, vl), (14, .int .i64 (k1 : Int)), (15, .pointer (some p1)), (16, .pointer (some (p1.add 0))), (18, .int .i64 (x1.v.length : Int)), (19, .bool false), (20, .bool false), (21, vl), (22, .int .i64 (k1 : Int)), (23, .pointer (some p2)), (24, .pointer (some (p2.add 0))), (27, .bool true), (28, .bool true), (29, .bool true), (30, undef), (31, undef), (32, undef), (33, undef), (36, undef), (37, .bool true), (38, .bool true), (39, undef), (40, undef), (41, undef), (43, undef), (44, undef), (45, undef), (46, undef), (49, undef), (50, .bool true), (17, v1), (25, v2), (34, undef), (42, undef), (47, undef), (26, .bool false), (35, undef), (48, undef)] [] hS1 ?_ ?_ ?_ (fun w8 hS6 => ?_)
  ·exact ⟨fun _ _ => WL.move rfl <| WL.nu rfl, fun _ _ => WL.move rfl <| WL.nu rfl, fun _ _ => WL.indexAddrP k1 ep1 ul22 ti63 rfl rfl rfl rfl <| WL.nu rfl, fun _ _ => WL.fieldAddr _ 0 _ fl63 rfl rfl rfl <| WL.nu rfl, fun _ _ => WL.lenSl hs1 ul61 rfl rfl <| WL.nu rfl, fun _ _ => WL.cmpV .gtr rfl .i64 (x1.v.length : Int) 8 _ hb3 rfl rfl rfl <| WL.nu rfl, fun _ _ => WL.move rfl <| WL.nu rfl, fun _ _ => WL.move rfl <| WL.nu rfl, fun _ _ => WL.move rfl <| WL.nu rfl, fun _ _ => WL.indexAddrP k1 ep2 ul22 ti63 rfl rfl rfl rfl <| WL.nu rfl, fun _ _ => WL.fieldAddr _ 0 _ fl63 rfl rfl rfl <| WL.nu rfl, fun _ _ => WL.not false rfl rfl <| WL.nu rfl, fun _ _ => WL.pickF rfl rfl <| WL.nu rfl, fun _ _ => WL.move rfl <| WL.nu rfl, fun _ _ => WL.no rfl rfl <| WL.nu rfl, fun _ _ => WL.no rfl rfl <| WL.nu rfl, fun _ _ => WL.no rfl rfl <| WL.nu rfl, fun _ _ => WL.no rfl rfl <| WL.nu rfl, fun _ _ => WL.no rfl rfl <| WL.nu rfl, fun _ _ => WL.pickT rfl rfl <| WL.nu rfl, fun _ _ => WL.move rfl <| WL.nu rfl, fun _ _ => WL.no rfl rfl <| WL.nu rfl, fun _ _ => WL.no rfl rfl <| WL.nu rfl, fun _ _ => WL.no rfl rfl <| WL.nu rfl, fun _ _ => WL.no rfl rfl <| WL.nu rfl, fun _ _ => WL.no rfl rfl <| WL.nu rfl, fun _ _ => WL.no rfl rfl <| WL.nu rfl, fun _ _ => WL.no rfl rfl <| WL.nu rfl, fun _ _ => WL.no rfl rfl <| WL.nu rfl, fun _ _ => WL.pickT rfl rfl <| WL.nu rfl, trivial⟩
  ·exact ⟨fun _ hSw => WL.loadG1 hSw (Cells.drop 0 hc1) ti61 rfl rfl rfl <| WL.nu rfl, fun _ hSw => WL.loadG1 hSw (Cells.drop 0 hc2) ti61 rfl rfl rfl <| WL.nu rfl, fun _ _ => WL.no rfl rfl <| WL.nu rfl, fun _ _ => WL.no rfl rfl <| WL.nu rfl, fun _ _ => WL.no rfl rfl <| WL.nu rfl, trivial⟩
  ·exact ⟨fun _ hSw => WL.callD [v2] #[] hb92 rfl rfl rfl hSw (c_rAll _ _ hSw.imm x1.v _ hs2 ) (congrArg Value.bool h4.symm), fun _ hSw => WL.no rfl rfl <| WL.nuS hSw rfl, fun _ hSw => WL.no rfl rfl <| WL.nuS hSw rfl, trivial⟩
  refine WC.condT rfl <| WC.seq <| WC.region rfl <| WL.assign rfl <| WL.nil <| WC.ret ?_
  exact ⟨_, rfl, _, _, rfl, hS6.res, (congrArg Value.bool (by unfold rvalidB; (rw [all_no (p := rfactB (l.head?.elim [] Fact.v)) (by assumption) (by first | exact rfact_len (by assumption) | exact rfact_val (by assumption) | exact rfact_span (by assumption) | exact rfact_kinds (by rw [hl0 _ (by assumption)]; assumption))]; simp)))⟩
 refine WL.nil <| WC.condF rfl <| WC.exit <| WC.seq <| WC.region rfl <| WL.assign rfl <| WL.nil <| WC.ret ?_
 exact ⟨_, rfl, _, _, rfl, hS1.res, (congrArg Value.bool (by unfold rvalidB; (rw [decide_eq_true (by omega)]; exact (all_yes (by assumption) (by omega)).symm)))⟩

theorem c_Less (G : GH) (w : World) (hG : G.In w) (a b : Int)  : Calls Tryz.prog (nat_lit 103) #[.int .i64 a, .int .i64 b] w fun e w' => ∃ r G', e = .returned r ∧ Res [] w G w' G' ∧ r = .bool (decide (a < b)) := by
 refine calls_of_WC (N := 17) Tryz.func103 rfl rfl rfl ?_
 have hS := St.start (X := []) hG
 refine WC.seq <| WC.region rfl <| WL.assign rfl <| WL.nil <| WC.seq <| WC.region rfl <| WL.move rfl ?_
 refine WL.callF [.int .i64 a] #[] hb153 rfl rfl rfl ((c_isNaN _ _ hS.imm a  ).mono ?_)
 rintro e w1 ⟨r1, G1, rfl, hres1, hpost1⟩
 refine ⟨_, rfl, ?_⟩
 have hS1 := hS.call hres1
 have hle1 := hres1.le
 subst hpost1
 refine WL.move rfl <| WL.no rfl rfl <| WL.no rfl rfl <| WL.no rfl rfl <| WL.pickF rfl rfl <| WL.move rfl <| WL.move rfl <| WL.move rfl <| WL.cmp .lss rfl .i64 a b rfl rfl rfl <| WL.pickF rfl rfl <| WL.assign rfl <| WL.nil <| WC.ret ?_
 exact ⟨_, rfl, _, _, rfl, hS1.res, (congrArg Value.bool (by simp_all [Cmp.b] <;> (first | omega | (intros; omega) | (rw [Bool.eq_iff_iff]; simp <;> omega) | (rw [Bool.eq_iff_iff]; simp_all <;> omega))))⟩

theorem c_Same (G : GH) (w : World) (hG : G.In w) (a b : List Val) (va : Value) (hva : Sl ValE 32 G va a) (vb : Value) (hvb : Sl ValE 32 G vb b)  : Calls Tryz.prog (nat_lit 88) #[va, vb] w fun e w' => ∃ r G', e = .returned r ∧ Res [] w G w' G' ∧ r = .bool (decide (a = b)) := by
 refine calls_of_WC (N := 26) Tryz.func88 rfl rfl rfl ?_
 have hS := St.start (X := []) hG
 refine WC.seq <| WC.region rfl <| WL.assign rfl <| WL.nil <| WC.seq <| WC.seq <| WC.region rfl <| WL.move rfl ?_
 have bd1 := hva.bound
 refine WL.lenSl hva ul61 rfl rfl <| WL.move rfl ?_
 have bd2 := hvb.bound
 refine WL.lenSl hvb ul61 rfl rfl ?_
 refine WL.neqS (a.length : Int) (b.length : Int) rfl rfl rfl (fun h1 => ?_) (fun h1 => ?_)
 ·refine WL.nil <| WC.condT rfl <| WC.seq <| WC.region rfl <| WL.assign rfl <| WL.nil <| WC.ret ?_
  exact ⟨_, rfl, _, _, rfl, hS.res, (congrArg Value.bool (by rw [← eqF_eq]; exact (eqF_len (by omega)).symm))⟩
 refine WL.nil <| WC.condF rfl <| WC.skip <| WC.seq <| WC.seq <| WC.region rfl <| WL.assign rfl <| WL.nil <| WC.block ?_
 refine WC.loop (γ := Nat) (fun m ρ1 w1 => ∃ (k1 : Nat), ∃ (G1 : GH), m = a.length - k1 ∧ G.le G1 ∧ St w [] G G1 [] w1 ∧ ρ1 0 = va ∧ ρ1 1 = vb ∧ ρ1 5 = .int .i64 (k1 : Int) ∧ k1 ≤ a.length ∧ ∀ j, j < k1 → ∀ x y, a[j]? = some x → b[j]? = some y → decide (x = y) = true) (fun m => m) _ ⟨0, G, rfl, (G.le_refl), hS, rfl, rfl, rfl, (by omega), (by intro j hj; omega)⟩ ?_
 rintro m ρ1 w1 ⟨k1, G1, rfl, hle1, hS1, e1, e2, e3, f1, f2⟩
 refine WC.set (d := 0) e1 <| WC.set (d := 1) e2 <| WC.set (d := 5) e3 <| WC.seq <| WC.seq <| WC.region rfl <| WL.move rfl <| WL.move rfl ?_
 have bd3 := hva.bound
 refine WL.lenSl (hva.mono hle1) ul61 rfl rfl ?_
 refine WL.lssS (k1 : Int) (a.length : Int) rfl rfl rfl (fun h2 => ?_) (fun h2 => ?_)
 ·refine WL.nil <| WC.condT rfl <| WC.skip <| WC.seq <| WC.block <| WC.seq ?_
  obtain ⟨p1, x1, hx1, he1, ep1⟩ := Sl.at (hva.mono hle1) k1 (by omega)
  obtain ⟨cs1, hc1, hr1⟩ := he1
  obtain ⟨rfl, hb1, hb2, hb3⟩ := ValE_open hr1
  obtain ⟨p2, x2, hx2, he2, ep2⟩ := Sl.at (hvb.mono hle1) k1 (by omega)
  obtain ⟨cs2, hc2, hr2⟩ := he2
  obtain ⟨rfl, hb4, hb5, hb6⟩ := ValE_open hr2
  rcases Classical.em (x1 = x2) with h3 | h3
  ·refine dr ⟨[0, 0, 3, 7, 0, 0, 48, 112, 255], [0, 1, 2, 4, 5, 6, 8], [3, 7], [], []⟩ [(17, va), (18, .int .i64 (k1 : Int)), (19, .pointer (some p1)), (21, vb), (22, .int .i64 (k1 : Int)), (23, .pointer (some p2)), (25, .bool false), (20, .agg #[.int .i64 x1.k, .int .i64 x1.n, strV x1.s]), (24, .agg #[.int .i64 x2.k, .int .i64 x2.n, strV x2.s])] [] hS1 ?_ ?_ trivial (fun w8 hS2 => ?_)
   ·exact ⟨fun _ _ => WL.move rfl <| WL.nu rfl, fun _ _ => WL.move rfl <| WL.nu rfl, fun _ _ => WL.indexAddrP k1 ep1 ul61 ti34 rfl rfl rfl rfl <| WL.nu rfl, fun _ _ => WL.move rfl <| WL.nu rfl, fun _ _ => WL.move rfl <| WL.nu rfl, fun _ _ => WL.indexAddrP k1 ep2 ul61 ti34 rfl rfl rfl rfl <| WL.nu rfl, fun _ _ => WL.aggEqNV false (ValEq34 x1 x2) eqg34 (by simp [h3]) rfl rfl rfl <| WL.nu rfl, trivial⟩
   ·exact ⟨fun _ hSw => WL.loadGAt hSw hc1 [.int .i64 x1.k, .int .i64 x1.n, strV x1.s] ti34 rfl rfl rfl rfl rfl <| WL.nu rfl, fun _ hSw => WL.loadGAt hSw hc2 [.int .i64 x2.k, .int .i64 x2.n, strV x2.s] ti34 rfl rfl rfl rfl rfl <| WL.nu rfl, trivial⟩
   refine WC.condF rfl <| WC.skip <| WC.region rfl <| WL.move rfl ?_
   refine WL.incr k1 (by have hreach : reach = 140737488355328 := rfl; omega) rfl rfl rfl ?_
   refine WL.assign rfl <| WL.nil ?_
   exact ⟨_, ⟨k1 + 1, G1, rfl, hle1, hS2, rfl, rfl, rfl, (by omega), (by exact lt_step2 (by assumption) (by assumption) (by assumption) (decide_eq_true (by simp_all)))⟩, (show a.length - (k1 + 1) < a.length - k1 by omega)⟩
  refine dr ⟨[0, 0, 3, 7, 0, 0, 48, 112, 255], [0, 1, 2, 4, 5, 6, 8], [3, 7], [], []⟩ [(17, va), (18, .int .i64 (k1 : Int)), (19, .pointer (some p1)), (21, vb), (22, .int .i64 (k1 : Int)), (23, .pointer (some p2)), (25, .bool true), (20, .agg #[.int .i64 x1.k, .int .i64 x1.n, strV x1.s]), (24, .agg #[.int .i64 x2.k, .int .i64 x2.n, strV x2.s])] [] hS1 ?_ ?_ trivial (fun w8 hS3 => ?_)
  ·exact ⟨fun _ _ => WL.move rfl <| WL.nu rfl, fun _ _ => WL.move rfl <| WL.nu rfl, fun _ _ => WL.indexAddrP k1 ep1 ul61 ti34 rfl rfl rfl rfl <| WL.nu rfl, fun _ _ => WL.move rfl <| WL.nu rfl, fun _ _ => WL.move rfl <| WL.nu rfl, fun _ _ => WL.indexAddrP k1 ep2 ul61 ti34 rfl rfl rfl rfl <| WL.nu rfl, fun _ _ => WL.aggEqNV true (ValEq34 x1 x2) eqg34 (by simp [h3]) rfl rfl rfl <| WL.nu rfl, trivial⟩
  ·exact ⟨fun _ hSw => WL.loadGAt hSw hc1 [.int .i64 x1.k, .int .i64 x1.n, strV x1.s] ti34 rfl rfl rfl rfl rfl <| WL.nu rfl, fun _ hSw => WL.loadGAt hSw hc2 [.int .i64 x2.k, .int .i64 x2.n, strV x2.s] ti34 rfl rfl rfl rfl rfl <| WL.nu rfl, trivial⟩
  refine WC.condT rfl <| WC.seq <| WC.region rfl <| WL.assign rfl <| WL.nil <| WC.ret ?_
  exact ⟨_, rfl, _, _, rfl, hS3.res, (congrArg Value.bool (by rw [← eqF_eq]; exact (eqF_no (f := fun (x y : Val) => decide (x = y)) (by assumption) (by assumption) (decide_eq_false (by simp_all))).symm))⟩
 refine WL.nil <| WC.condF rfl <| WC.exit <| WC.seq <| WC.region rfl <| WL.assign rfl <| WL.nil <| WC.ret ?_
 exact ⟨_, rfl, _, _, rfl, hS1.res, (congrArg Value.bool (by rw [← eqF_eq]; exact (eqF_yes (by omega) (by assumption) (by omega)).symm))⟩

theorem c_lists1 (G : GH) (w : World) (hG : G.In w) (a b : List Val) (va : Value) (hva : Sl ValE 32 G va a) (vb : Value) (hvb : Sl ValE 32 G vb b)  : Calls Tryz.prog (nat_lit 105) #[va, vb] w fun e w' => ∃ r G', e = .returned r ∧ Res [] w G w' G' ∧ r = .bool (decide (a = b)) := by
 refine calls_of_WC (N := 8) Tryz.func105 rfl rfl rfl ?_
 have hS := St.start (X := []) hG
 refine WC.seq <| WC.region rfl <| WL.assign rfl <| WL.nil <| WC.seq <| WC.region rfl <| WL.move rfl <| WL.move rfl ?_
 refine WL.callF [va, vb] #[] hb88 rfl rfl rfl ((c_Same _ _ hS.imm a b _ hva _ hvb ).mono ?_)
 rintro e w1 ⟨r1, G1, rfl, hres1, hpost1⟩
 refine ⟨_, rfl, ?_⟩
 have hS1 := hS.call hres1
 have hle1 := hres1.le
 subst hpost1
 refine WL.assign rfl <| WL.nil <| WC.ret ?_
 exact ⟨_, rfl, _, _, rfl, hS1.res, (congrArg Value.bool (by rfl))⟩

theorem c_lists (G : GH) (w : World) (hG : G.In w) (a b : List (List Val)) (va : Value) (hva : Sl (ValE.slice 32) 24 G va a) (vb : Value) (hvb : Sl (ValE.slice 32) 24 G vb b)  : Calls Tryz.prog (nat_lit 46) #[va, vb] w fun e w' => ∃ r G', e = .returned r ∧ Res [] w G w' G' ∧ r = .bool (decide (a = b)) := by
 refine calls_of_WC (N := 8) Tryz.func46 rfl rfl rfl ?_
 have hS := St.start (X := []) hG
 refine WC.seq <| WC.region rfl <| WL.assign rfl <| WL.nil <| WC.seq <| WC.region rfl <| WL.move rfl <| WL.move rfl ?_
 refine WL.callF [va, vb, .func (.func 105) #[] #[]] #[] hb104 rfl rfl rfl ((c_EqualVV _ _ hS.imm a b (fun x8 y8 => decide (x8 = y8)) _ hva _ hvb 105 #[] ⟨hb105, fun G8 w8 v8 u8 x8 y8 hle8 hG8 hon8 hA8 hB8 => by exact c_lists1 G8 w8 hG8 x8 y8 v8 hA8 u8 hB8 ⟩ ).mono ?_)
 rintro e w1 ⟨r1, G1, rfl, hres1, hpost1⟩
 refine ⟨_, rfl, ?_⟩
 have hS1 := hS.call hres1
 have hle1 := hres1.le
 subst hpost1
 refine WL.assign rfl <| WL.nil <| WC.ret ?_
 exact ⟨_, rfl, _, _, rfl, hS1.res, (congrArg Value.bool (by exact eqF_eq))⟩
end Go.Civ
