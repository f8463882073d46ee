/- Walks, printed by specs38.py. -/
import Derived.Test.YtapjalhjfblonaaGreatProg
import Derived.KernelRfl
import Derived.WalkKit
import Derived.Test.YtapjalhjfblonaaGreatWl
import Derived.Test.YtapjalhjfblonaaGreatWd
set_option linter.unusedVariables false
set_option linter.unusedSimpArgs false
set_option maxRecDepth 100000
set_option maxHeartbeats 4000000
namespace Go.Civ
open Go.Proofs


theorem c_values (G : GH) (w : World) (hG : G.In w) (l : List Fact) (vl : Value) (hvl : Sl FactE 40 G vl l) (hl : l.length ≤ 1000000) : Calls Tryz.prog (nat_lit 76) #[vl] w fun e w' => ∃ r G', e = .returned r ∧ Res [] w G w' G' ∧ Sl (ValE.slice 32) 24 G' r (vals l) := by
 refine calls_of_WC (N := 76) Tryz.func76 rfl rfl rfl ?_
 have hS := St.start (X := []) hG
 refine WC.seq <| WC.region rfl <| WL.assign rfl <| WL.nil <| WC.seq <| WC.region rfl <| WL.assign rfl <| WL.nil <| WC.seq <| WC.seq <| WC.region rfl <| WL.assign rfl <| WL.nil <| WC.block ?_
 have hS2 := hS.pad
 refine WC.loop (γ := Nat) (fun m ρ1 w1 => ∃ (k1 : Nat), ∃ (v1 : Value) (o1 : OB), ∃ (G1 : GH), m = l.length - k1 ∧ G.le G1 ∧ St w [] G G1 [o1] w1 ∧ Row (ValE.slice 32) 24 61 G1 v1 (vals (l.take k1)) o1 ∧ ρ1 0 = vl ∧ ρ1 3 = v1 ∧ ρ1 4 = .int .i64 (k1 : Int) ∧ k1 ≤ l.length) (fun m => m) _ ⟨0, (.slice none 0 0), none, G, rfl, (G.le_refl), hS2, (Row.nil (ValE.slice 32) 24 61 G), rfl, rfl, rfl, (by omega)⟩ ?_
 rintro m ρ1 w1 ⟨k1, v1, o1, G1, rfl, hle1, hS1, hr1, e1, e2, e3, f1⟩
 refine WC.set (d := 0) e1 <| WC.set (d := 3) e2 <| WC.set (d := 4) e3 ?_
 have hvl1 := vals_takeLen l k1
 refine WC.seq <| WC.seq <| WC.region rfl <| WL.move rfl <| WL.move rfl ?_
 have bd1 := hvl.bound
 refine WL.lenSl (hvl.mono hle1) ul22 rfl rfl ?_
 refine WL.lssS (k1 : Int) (l.length : Int) rfl rfl rfl (fun h1 => ?_) (fun h1 => ?_)
 ·refine WL.nil <| WC.condT rfl <| WC.skip <| WC.seq <| WC.block <| WC.seq ?_
  obtain ⟨xf, hxf⟩ : ∃ f, l[k1]? = some f := ⟨_, List.getElem?_eq_getElem (by omega)⟩
  refine WC.region rfl <| WL.assign rfl <| WL.nil <| WC.seq <| WC.block ?_
  refine WC.loop (γ := Nat) (fun m ρ1 w1 => ∃ (k2 : Nat), ∃ (G2 : GH), m = (vals (l.take k1)).length - k2 ∧ G1.le G2 ∧ St w [] G G2 [o1] w1 ∧ ρ1 0 = vl ∧ ρ1 3 = v1 ∧ ρ1 4 = .int .i64 (k1 : Int) ∧ ρ1 5 = .int .i64 (k2 : Int) ∧ k2 ≤ (vals (l.take k1)).length ∧ ∀ j, j < k2 → ∀ u, (vals (l.take k1))[j]? = some u → cmpL cmpV u xf.v < 0) (fun m => m) _ ⟨0, G1, rfl, (G1.le_refl), hS1, rfl, rfl, rfl, rfl, (by omega), (by intro j hj; omega)⟩ ?_
  rintro m ρ1 w2 ⟨k2, G2, rfl, hle2, hS3, e4, e5, e6, e7, f2, f3⟩
  refine WC.set (d := 0) e4 <| WC.set (d := 3) e5 <| WC.set (d := 4) e6 <| WC.set (d := 5) e7 <| WC.seq <| WC.seq ?_
  have bd2 := hr1.bound
  rcases Cmp.dec .lss (k2 : Int) (((vals (l.take k1)).length : Nat) : Int) with ⟨hb1, q1⟩ | ⟨hb1, q1⟩
  ·have h2 : (k2 : Int) < (((vals (l.take k1)).length : Nat) : Int) := q1
   clear q1
   obtain ⟨p1, x1, ec1, hx1, hr2, ra1, ep1⟩ := Row.atP (hr1.mono hle2) k2 (by omega)
   obtain ⟨v2, rfl, hs1⟩ := hr2
   obtain ⟨p2, x2, hx2, he1, ep2⟩ := Sl.at (hvl.mono (hle1.trans hle2)) k1 (by omega)
   obtain rfl : xf = x2 := Option.some.inj (hxf.symm.trans hx2)
   obtain ⟨cs1, hc1, hr3⟩ := he1
   obtain ⟨v3, rfl, hs2, hb2, hb3⟩ := FactE_open hr3
   rcases Cmp.dec .lss (cmpL cmpV x1 xf.v) 0 with ⟨hb4, q2⟩ | ⟨hb4, q2⟩
   ·have h3 : (cmpL cmpV x1 xf.v) < 0 := q2
    clear q2
    refine dr ⟨[0, 0, 2, 7, 15, 31, 31, 127, 255, 31, 31, 1567, 3615, 7711, 16383, 32767, 65535], [0, 1, 2, 3, 4, 5, 6, 7, 9, 10, 11, 12, 15, 16], [8, 13], [14], []⟩ [(13, .int .i64 (k2 : Int)), (14, v1), (15, .int .i64 (((vals (l.take k1)).length : Nat) : Int)), (16, .bool true), (17, .bool true), (18, v1), (19, .int .i64 (k2 : Int)), (20, .pointer (some p1)), (22, vl), (23, .int .i64 (k1 : Int)), (24, .pointer (some p2)), (25, .pointer (some (p2.add 0))), (28, .bool true), (29, .bool true), (21, v2), (26, v3), (27, .int .i64 (cmpL cmpV x1 xf.v))] [o1] hS3 ?_ ?_ ?_ (fun w8 hS4 => ?_)
    ·exact ⟨fun _ _ => WL.move rfl <| WL.nu rfl, fun _ _ => WL.move rfl <| WL.nu rfl, fun _ _ => WL.lenRow (hr1.mono hle2) ul67 rfl rfl <| WL.nu rfl, fun _ _ => WL.cmpV .lss rfl .i64 (k2 : Int) (((vals (l.take k1)).length : Nat) : Int) _ hb1 rfl rfl rfl <| WL.nu rfl, fun _ _ => WL.move rfl <| WL.nu rfl, fun _ _ => WL.move rfl <| WL.nu rfl, fun _ _ => WL.move rfl <| WL.nu rfl, fun _ _ => WL.indexAddrP k2 ep1 ul67 ti61 rfl rfl rfl rfl <| WL.nu rfl, fun _ _ => WL.move rfl <| WL.nu rfl, fun _ _ => WL.move rfl <| WL.nu rfl, fun _ _ => WL.indexAddrP k1 ep2 ul22 ti63 rfl rfl rfl rfl <| WL.nu rfl, fun _ _ => WL.fieldAddr _ 0 _ fl63 rfl rfl rfl <| WL.nu rfl, fun _ _ => WL.cmpV .lss rfl .i64 (cmpL cmpV x1 xf.v) 0 _ hb4 rfl rfl rfl <| WL.nu rfl, fun _ _ => WL.pickT rfl rfl <| WL.nu rfl, trivial⟩
    ·exact ⟨fun _ hSw => WL.loadR1' ra1 hSw 0 rfl _ rfl ti61 rfl rfl rfl <| WL.nu rfl, fun _ hSw => WL.loadG1 hSw (Cells.drop 0 hc1) ti61 rfl rfl rfl <| WL.nu rfl, trivial⟩
    ·exact ⟨fun _ hSw => WL.callD [v2, v3] #[] hb133 rfl rfl rfl hSw (c_rOrder _ _ hSw.imm x1 xf.v _ hs1 _ hs2 ) rfl, trivial⟩
    refine WC.condT rfl <| WC.skip <| WC.block <| WC.region rfl <| WL.move rfl ?_
    refine WL.incr k2 (by have hreach : reach = 140737488355328 := rfl; omega) rfl rfl rfl ?_
    refine WL.assign rfl <| WL.nil ?_
    exact ⟨_, ⟨k2 + 1, G2, rfl, hle2, hS4, rfl, rfl, rfl, rfl, (by omega), (by exact lt_step (by assumption) (by assumption) (by assumption))⟩, (show (vals (l.take k1)).length - (k2 + 1) < (vals (l.take k1)).length - k2 by omega)⟩
   have h3 : 0 ≤ (cmpL cmpV x1 xf.v) := q2
   clear q2
   refine dr ⟨[0, 0, 2, 7, 15, 31, 31, 127, 255, 31, 31, 1567, 3615, 7711, 16383, 32767, 65535], [0, 1, 2, 3, 4, 5, 6, 7, 9, 10, 11, 12, 15, 16], [8, 13], [14], []⟩ [(13, .int .i64 (k2 : Int)), (14, v1), (15, .int .i64 (((vals (l.take k1)).length : Nat) : Int)), (16, .bool true), (17, .bool true), (18, v1), (19, .int .i64 (k2 : Int)), (20, .pointer (some p1)), (22, vl), (23, .int .i64 (k1 : Int)), (24, .pointer (some p2)), (25, .pointer (some (p2.add 0))), (28, .bool false), (29, .bool false), (21, v2), (26, v3), (27, .int .i64 (cmpL cmpV x1 xf.v))] [o1] hS3 ?_ ?_ ?_ (fun w8 hS5 => ?_)
   ·exact ⟨fun _ _ => WL.move rfl <| WL.nu rfl, fun _ _ => WL.move rfl <| WL.nu rfl, fun _ _ => WL.lenRow (hr1.mono hle2) ul67 rfl rfl <| WL.nu rfl, fun _ _ => WL.cmpV .lss rfl .i64 (k2 : Int) (((vals (l.take k1)).length : Nat) : Int) _ hb1 rfl rfl rfl <| WL.nu rfl, fun _ _ => WL.move rfl <| WL.nu rfl, fun _ _ => WL.move rfl <| WL.nu rfl, fun _ _ => WL.move rfl <| WL.nu rfl, fun _ _ => WL.indexAddrP k2 ep1 ul67 ti61 rfl rfl rfl rfl <| WL.nu rfl, fun _ _ => WL.move rfl <| WL.nu rfl, fun _ _ => WL.move rfl <| WL.nu rfl, fun _ _ => WL.indexAddrP k1 ep2 ul22 ti63 rfl rfl rfl rfl <| WL.nu rfl, fun _ _ => WL.fieldAddr _ 0 _ fl63 rfl rfl rfl <| WL.nu rfl, fun _ _ => WL.cmpV .lss rfl .i64 (cmpL cmpV x1 xf.v) 0 _ hb4 rfl rfl rfl <| WL.nu rfl, fun _ _ => WL.pickT rfl rfl <| WL.nu rfl, trivial⟩
   ·exact ⟨fun _ hSw => WL.loadR1' ra1 hSw 0 rfl _ rfl ti61 rfl rfl rfl <| WL.nu rfl, fun _ hSw => WL.loadG1 hSw (Cells.drop 0 hc1) ti61 rfl rfl rfl <| WL.nu rfl, trivial⟩
   ·exact ⟨fun _ hSw => WL.callD [v2, v3] #[] hb133 rfl rfl rfl hSw (c_rOrder _ _ hSw.imm x1 xf.v _ hs1 _ hs2 ) rfl, trivial⟩
   refine WC.condF rfl <| WC.exit <| WC.seq <| WC.seq ?_
   have bd3 := hr1.bound
   rcases Cmp.dec .lss (k2 : Int) (((vals (l.take k1)).length : Nat) : Int) with ⟨hb5, q3⟩ | ⟨hb5, q3⟩
   ·have h4 : (k2 : Int) < (((vals (l.take k1)).length : Nat) : Int) := q3
    clear q3
    obtain ⟨p3, x3, ec2, hx3, hr4, ra2, ep3⟩ := Row.atP (hr1.mono hle2) k2 (by omega)
    obtain rfl : x1 = x3 := Option.some.inj (hx1.symm.trans hx3)
    obtain ⟨v4, rfl, hs3⟩ := hr4
    obtain ⟨p4, x4, hx4, he2, ep4⟩ := Sl.at (hvl.mono (hle1.trans hle2)) k1 (by omega)
    obtain rfl : xf = x4 := Option.some.inj (hxf.symm.trans hx4)
    obtain ⟨cs2, hc2, hr5⟩ := he2
    obtain ⟨v5, rfl, hs4, hb6, hb7⟩ := FactE_open hr5
    rcases Bool.eq_false_or_eq_true (decide (x1 = xf.v)) with h5 | h5
    ·refine dr ⟨[0, 0, 2, 7, 15, 31, 31, 127, 255, 31, 31, 1567, 3615, 7711, 16383, 32767], [0, 1, 2, 3, 4, 5, 6, 7, 9, 10, 11, 12, 15], [8, 13], [14], []⟩ [(32, .int .i64 (k2 : Int)), (33, v1), (34, .int .i64 (((vals (l.take k1)).length : Nat) : Int)), (35, .bool true), (36, .bool true), (37, v1), (38, .int .i64 (k2 : Int)), (39, .pointer (some p3)), (41, vl), (42, .int .i64 (k1 : Int)), (43, .pointer (some p4)), (44, .pointer (some (p4.add 0))), (47, .bool true), (40, v4), (45, v5), (46, .bool true)] [o1] hS5 ?_ ?_ ?_ (fun w8 hS6 => ?_)
     ·exact ⟨fun _ _ => WL.move rfl <| WL.nu rfl, fun _ _ => WL.move rfl <| WL.nu rfl, fun _ _ => WL.lenRow (hr1.mono hle2) ul67 rfl rfl <| WL.nu rfl, fun _ _ => WL.cmpV .lss rfl .i64 (k2 : Int) (((vals (l.take k1)).length : Nat) : Int) _ hb5 rfl rfl rfl <| WL.nu rfl, fun _ _ => WL.move rfl <| WL.nu rfl, fun _ _ => WL.move rfl <| WL.nu rfl, fun _ _ => WL.move rfl <| WL.nu rfl, fun _ _ => WL.indexAddrP k2 ep3 ul67 ti61 rfl rfl rfl rfl <| WL.nu rfl, fun _ _ => WL.move rfl <| WL.nu rfl, fun _ _ => WL.move rfl <| WL.nu rfl, fun _ _ => WL.indexAddrP k1 ep4 ul22 ti63 rfl rfl rfl rfl <| WL.nu rfl, fun _ _ => WL.fieldAddr _ 0 _ fl63 rfl rfl rfl <| WL.nu rfl, fun _ _ => WL.pickT rfl rfl <| WL.nu rfl, trivial⟩
     ·exact ⟨fun _ hSw => WL.loadR1' ra2 hSw 0 rfl _ rfl ti61 rfl rfl rfl <| WL.nu rfl, fun _ hSw => WL.loadG1 hSw (Cells.drop 0 hc2) ti61 rfl rfl rfl <| WL.nu rfl, trivial⟩
     ·exact ⟨fun _ hSw => WL.callD [v4, v5] #[] hb88 rfl rfl rfl hSw (c_Same _ _ hSw.imm x1 xf.v _ hs3 _ hs4 ) (congrArg Value.bool h5.symm), trivial⟩
     refine WC.condT rfl <| WC.exit <| WC.region rfl <| WL.move rfl ?_
     refine WL.incr k1 (by have hreach : reach = 140737488355328 := rfl; omega) rfl rfl rfl ?_
     refine WL.assign rfl <| WL.nil ?_
     exact ⟨_, ⟨k1 + 1, v1, o1, G2, rfl, (hle1.trans hle2), hS6, (Row.cast (hr1.mono hle2) (by (rw [vals_take hxf]; exact (vals_found' (out := vals (l.take k1)) (k := k2) (by assumption) (by assumption) (by assumption) (by assumption)).symm))), rfl, rfl, rfl, (by omega)⟩, (show l.length - (k1 + 1) < l.length - k1 by omega)⟩
    refine dr ⟨[0, 0, 2, 7, 15, 31, 31, 127, 255, 31, 31, 1567, 3615, 7711, 16383, 32767], [0, 1, 2, 3, 4, 5, 6, 7, 9, 10, 11, 12, 15], [8, 13], [14], []⟩ [(32, .int .i64 (k2 : Int)), (33, v1), (34, .int .i64 (((vals (l.take k1)).length : Nat) : Int)), (35, .bool true), (36, .bool true), (37, v1), (38, .int .i64 (k2 : Int)), (39, .pointer (some p3)), (41, vl), (42, .int .i64 (k1 : Int)), (43, .pointer (some p4)), (44, .pointer (some (p4.add 0))), (47, .bool false), (40, v4), (45, v5), (46, .bool false)] [o1] hS5 ?_ ?_ ?_ (fun w8 hS7 => ?_)
    ·exact ⟨fun _ _ => WL.move rfl <| WL.nu rfl, fun _ _ => WL.move rfl <| WL.nu rfl, fun _ _ => WL.lenRow (hr1.mono hle2) ul67 rfl rfl <| WL.nu rfl, fun _ _ => WL.cmpV .lss rfl .i64 (k2 : Int) (((vals (l.take k1)).length : Nat) : Int) _ hb5 rfl rfl rfl <| WL.nu rfl, fun _ _ => WL.move rfl <| WL.nu rfl, fun _ _ => WL.move rfl <| WL.nu rfl, fun _ _ => WL.move rfl <| WL.nu rfl, fun _ _ => WL.indexAddrP k2 ep3 ul67 ti61 rfl rfl rfl rfl <| WL.nu rfl, fun _ _ => WL.move rfl <| WL.nu rfl, fun _ _ => WL.move rfl <| WL.nu rfl, fun _ _ => WL.indexAddrP k1 ep4 ul22 ti63 rfl rfl rfl rfl <| WL.nu rfl, fun _ _ => WL.fieldAddr _ 0 _ fl63 rfl rfl rfl <| WL.nu rfl, fun _ _ => WL.pickT rfl rfl <| WL.nu rfl, trivial⟩
    ·exact ⟨fun _ hSw => WL.loadR1' ra2 hSw 0 rfl _ rfl ti61 rfl rfl rfl <| WL.nu rfl, fun _ hSw => WL.loadG1 hSw (Cells.drop 0 hc2) ti61 rfl rfl rfl <| WL.nu rfl, trivial⟩
    ·exact ⟨fun _ hSw => WL.callD [v4, v5] #[] hb88 rfl rfl rfl hSw (c_Same _ _ hSw.imm x1 xf.v _ hs3 _ hs4 ) (congrArg Value.bool h5.symm), trivial⟩
    refine WC.condF rfl <| WC.skip <| WC.seq <| WC.region rfl <| WL.move rfl ?_
    refine WL.buildSlice _ [(0, [.slice none 0 0])] [.slice none 0 0] hS7 sl67 rfl rfl rfl rfl (fun z hz => by match z, hz with | [z0], _ => rfl) (fun b1 w7 hn1 hS8 => ?_)
    refine WL.push (m := ([[]] : List (List Val))) sl67 rfl rfl rfl (hr1.mono hle2) hS8 1 rfl 0 _ _ _ _ _ rfl ⟨[.slice none 0 0], _, rfl, ⟨_, rfl, (Sl.nil ValE 32 G2)⟩, rfl⟩ rfl (by have hreach : reach = 140737488355328 := rfl; simp only [List.length_cons, List.length_nil]; omega) (by have hreach : reach = 140737488355328 := rfl; simp only [List.length_cons, List.length_nil]; omega) rfl rfl rfl (fun v6 o2 w8 hr6 hS9 => ?_)
    have hS10 := hS9.tail
    refine WL.assign rfl <| WL.nil <| WC.seq <| WC.seq <| WC.region rfl <| WL.move rfl ?_
    have bd4 := hr6.bound
    refine WL.lenRow hr6 ul67 rfl rfl ?_
    refine WL.decr ((vals (l.take k1) ++ [[]]).length) (by (simp only [List.length_append, List.length_cons, List.length_nil]; omega)) (by have hreach : reach = 140737488355328 := rfl; omega) rfl rfl rfl ?_
    refine WL.assign rfl <| WL.nil <| WC.block ?_
    refine WC.loop (γ := Nat) (fun m ρ1 w1 => ∃ (j : Nat), ∃ (M : VV), ∃ (o3 : OB), ∃ (G3 : GH), m = (0 + j) ∧ G2.le G3 ∧ St w [] G G3 [o3] w1 ∧ Row (ValE.slice 32) 24 61 G3 v6 M o3 ∧ ρ1 0 = vl ∧ ρ1 3 = v6 ∧ ρ1 4 = .int .i64 (k1 : Int) ∧ ρ1 5 = .int .i64 (k2 : Int) ∧ ρ1 6 = .int .i64 (j : Int) ∧ k2 ≤ j ∧ j ≤ (vals (l.take k1)).length ∧ Shift (vals (l.take k1)) M j) (fun m => m) _ ⟨(vals (l.take k1) ++ [[]]).length - 1, (vals (l.take k1) ++ [[]]), o2, G2, rfl, (G2.le_refl), hS10, hr6, rfl, rfl, rfl, rfl, rfl, (by simp only [List.length_append, List.length_cons, List.length_nil]; omega), (by simp), (by (have e9 : ((vals (l.take k1)) ++ [[]]).length - 1 = (vals (l.take k1)).length := by simp); rw [e9]; exact Shift.start)⟩ ?_
    rintro m ρ1 w9 ⟨j, M, o3, G3, rfl, hle3, hS11, hr7, e8, e9, e10, e11, e12, f4, f5, f6⟩
    refine WC.set (d := 0) e8 <| WC.set (d := 3) e9 <| WC.set (d := 4) e10 <| WC.set (d := 5) e11 <| WC.set (d := 6) e12 ?_
    have hsl9 := Shift.len (by assumption : Shift (vals (l.take k1)) M j)
    refine WC.seq <| WC.seq <| WC.region rfl <| WL.move rfl <| WL.move rfl ?_
    refine WL.gtrS (j : Int) (k2 : Int) rfl rfl rfl (fun h6 => ?_) (fun h6 => ?_)
    ·refine WL.nil <| WC.condT rfl <| WC.skip <| WC.seq <| WC.block <| WC.region rfl <| WL.move rfl <| WL.move rfl <| WL.move rfl <| WL.move rfl ?_
     refine WL.decr j (by omega) (by have hreach : reach = 140737488355328 := rfl; omega) rfl rfl rfl ?_
     refine WL.indexAddrRow hr7 (j - 1) (by omega) ul67 ti61 rfl rfl rfl rfl (fun p5 x5 ec3 hx5 hr8 ra3 => ?_)
     obtain ⟨v7, rfl, hs5⟩ := hr8
     refine WL.loadR1' ra3 hS11 0 rfl _ rfl ti61 rfl rfl rfl ?_
     refine WL.indexAddrRow hr7 j (by omega) ul67 ti61 rfl rfl rfl rfl (fun p6 x6 ec4 hx6 hr9 ra4 => ?_)
     obtain ⟨v8, rfl, hs6⟩ := hr9
     refine WL.storeR0 hr7 ra4 hS11 0 rfl (by omega) rfl 0 _ [v7] x5 [v7] hs5.cells1 ti61 rfl (Nat.le_of_ble_eq_true rfl) (by simp only [List.all_cons, List.all_nil, hs5.oneC, Bool.true_and] <;> rfl) rfl ⟨_, rfl, hs5⟩ rfl rfl rfl rfl (fun o4 w10 hr10 hS12 => ?_)
     refine WL.nil <| WC.region rfl <| WL.move rfl ?_
     refine WL.decr j (by omega) (by have hreach : reach = 140737488355328 := rfl; omega) rfl rfl rfl ?_
     refine WL.assign rfl <| WL.nil ?_
     exact ⟨_, ⟨j - 1, (M.set j x5), o4, G3, rfl, hle3, hS12, hr10, rfl, rfl, rfl, rfl, rfl, (by omega), (by omega), (by exact Shift.step (by assumption) (by omega) (by assumption))⟩, (show (0 + (j - 1)) < (0 + j) by omega)⟩
    refine WL.nil <| WC.condF rfl <| WC.exit ?_
    have hjk : j = k2 := by omega
    refine WC.region rfl <| WL.move rfl <| WL.move rfl <| WL.move rfl <| WL.move rfl ?_
    refine WL.indexAddr (hvl.mono ((hle1.trans hle2).trans hle3)) k1 (by omega) ul22 ti63 rfl rfl rfl rfl (fun p7 x7 hx7 he3 => ?_)
    obtain rfl : xf = x7 := Option.some.inj (hxf.symm.trans hx7)
    obtain ⟨cs3, hc3, hr11⟩ := he3
    obtain ⟨v9, rfl, hs7, hb8, hb9⟩ := FactE_open hr11
    refine WL.fieldAddr _ 0 _ fl63 rfl rfl rfl <| WL.loadG1 hS11 (Cells.drop 0 hc3) ti61 rfl rfl rfl ?_
    refine WL.indexAddrRow hr7 k2 (by omega) ul67 ti61 rfl rfl rfl rfl (fun p8 x8 ec5 hx8 hr12 ra5 => ?_)
    obtain ⟨v10, rfl, hs8⟩ := hr12
    refine WL.storeR0 hr7 ra5 hS11 0 rfl (by omega) rfl 0 _ [v9] xf.v [v9] hs7.cells1 ti61 rfl (Nat.le_of_ble_eq_true rfl) (by simp only [List.all_cons, List.all_nil, hs7.oneC, Bool.true_and] <;> rfl) rfl ⟨_, rfl, hs7⟩ rfl rfl rfl rfl (fun o5 w11 hr13 hS13 => ?_)
    refine WL.nil <| WC.region rfl <| WL.move rfl ?_
    refine WL.incr k1 (by have hreach : reach = 140737488355328 := rfl; omega) rfl rfl rfl ?_
    refine WL.assign rfl <| WL.nil ?_
    exact ⟨_, ⟨k1 + 1, v6, o5, G3, rfl, (hle1.trans (hle2.trans hle3)), hS13, (Row.cast hr13 (by (rw [vals_take hxf]; (rw [vals_put2 (out := vals (l.take k1)) (k := k2) (by assumption) (by assumption) (by assumption) (by assumption)]; exact Shift.done (by rw [← hjk]; assumption) (by omega))))), rfl, rfl, rfl, (by omega)⟩, (show l.length - (k1 + 1) < l.length - k1 by omega)⟩
   have h4 : (((vals (l.take k1)).length : Nat) : Int) ≤ (k2 : Int) := q3
   clear q3
   refine dr ⟨[0, 0, 2, 7, 15, 31, 31, 127, 255, 31, 31, 1567, 3615, 7711, 16383, 32767], [0, 1, 2, 3, 4, 5, 6, 7, 9, 10, 11, 12, 15], [8, 13], [14], []⟩ [(32, .int .i64 (k2 : Int)), (33, v1), (34, .int .i64 (((vals (l.take k1)).length : Nat) : Int)), (35, .bool false), (36, .bool false), (37, undef), (38, undef), (39, undef), (41, undef), (42, undef), (43, undef), (44, undef), (47, .bool false), (40, undef), (45, undef), (46, undef)] [o1] hS5 ?_ ?_ ?_ (fun w8 hS14 => ?_)
   ·exact ⟨fun _ _ => WL.move rfl <| WL.nu rfl, fun _ _ => WL.move rfl <| WL.nu rfl, fun _ _ => WL.lenRow (hr1.mono hle2) ul67 rfl rfl <| WL.nu rfl, fun _ _ => WL.cmpV .lss rfl .i64 (k2 : Int) (((vals (l.take k1)).length : Nat) : Int) _ hb5 rfl rfl rfl <| WL.nu rfl, fun _ _ => WL.move rfl <| WL.nu rfl, fun _ _ => WL.no rfl rfl <| WL.nu rfl, fun _ _ => WL.no rfl rfl <| WL.nu rfl, fun _ _ => WL.no rfl rfl <| WL.nu rfl, fun _ _ => WL.no rfl rfl <| WL.nu rfl, fun _ _ => WL.no rfl rfl <| WL.nu rfl, fun _ _ => WL.no rfl rfl <| WL.nu rfl, fun _ _ => WL.no rfl rfl <| WL.nu rfl, fun _ _ => WL.pickF rfl rfl <| WL.nu rfl, trivial⟩
   ·exact ⟨fun _ _ => WL.no rfl rfl <| WL.nu rfl, fun _ _ => WL.no rfl rfl <| WL.nu rfl, trivial⟩
   ·exact ⟨fun _ hSw => WL.no rfl rfl <| WL.nuS hSw rfl, trivial⟩
   refine WC.condF rfl <| WC.skip <| WC.seq <| WC.region rfl <| WL.move rfl ?_
   refine WL.buildSlice _ [(0, [.slice none 0 0])] [.slice none 0 0] hS14 sl67 rfl rfl rfl rfl (fun z hz => by match z, hz with | [z0], _ => rfl) (fun b2 w13 hn2 hS15 => ?_)
   refine WL.push (m := ([[]] : List (List Val))) sl67 rfl rfl rfl (hr1.mono hle2) hS15 1 rfl 0 _ _ _ _ _ rfl ⟨[.slice none 0 0], _, rfl, ⟨_, rfl, (Sl.nil ValE 32 G2)⟩, rfl⟩ rfl (by have hreach : reach = 140737488355328 := rfl; simp only [List.length_cons, List.length_nil]; omega) (by have hreach : reach = 140737488355328 := rfl; simp only [List.length_cons, List.length_nil]; omega) rfl rfl rfl (fun v11 o6 w14 hr14 hS16 => ?_)
   have hS17 := hS16.tail
   refine WL.assign rfl <| WL.nil <| WC.seq <| WC.seq <| WC.region rfl <| WL.move rfl ?_
   have bd5 := hr14.bound
   refine WL.lenRow hr14 ul67 rfl rfl ?_
   refine WL.decr ((vals (l.take k1) ++ [[]]).length) (by omega) (by have hreach : reach = 140737488355328 := rfl; omega) rfl rfl rfl ?_
   refine WL.assign rfl <| WL.nil <| WC.block ?_
   refine WC.loop (γ := Nat) (fun m ρ1 w1 => ∃ (j : Nat), ∃ (M : VV), ∃ (o7 : OB), ∃ (G4 : GH), m = (0 + j) ∧ G2.le G4 ∧ St w [] G G4 [o7] w1 ∧ Row (ValE.slice 32) 24 61 G4 v11 M o7 ∧ ρ1 0 = vl ∧ ρ1 3 = v11 ∧ ρ1 4 = .int .i64 (k1 : Int) ∧ ρ1 5 = .int .i64 (k2 : Int) ∧ ρ1 6 = .int .i64 (j : Int) ∧ k2 ≤ j ∧ j ≤ (vals (l.take k1)).length ∧ Shift (vals (l.take k1)) M j) (fun m => m) _ ⟨(vals (l.take k1) ++ [[]]).length - 1, (vals (l.take k1) ++ [[]]), o6, G2, rfl, (G2.le_refl), hS17, hr14, rfl, rfl, rfl, rfl, rfl, (by simp only [List.length_append, List.length_cons, List.length_nil]; omega), (by simp), (by (have e9 : ((vals (l.take k1)) ++ [[]]).length - 1 = (vals (l.take k1)).length := by simp); rw [e9]; exact Shift.start)⟩ ?_
   rintro m ρ1 w15 ⟨j, M, o7, G4, rfl, hle4, hS18, hr15, e13, e14, e15, e16, e17, f7, f8, f9⟩
   refine WC.set (d := 0) e13 <| WC.set (d := 3) e14 <| WC.set (d := 4) e15 <| WC.set (d := 5) e16 <| WC.set (d := 6) e17 ?_
   have hsl9 := Shift.len (by assumption : Shift (vals (l.take k1)) M j)
   refine WC.seq <| WC.seq <| WC.region rfl <| WL.move rfl <| WL.move rfl ?_
   refine WL.gtrS (j : Int) (k2 : Int) rfl rfl rfl (fun h7 => ?_) (fun h7 => ?_)
   ·refine WL.nil <| WC.condT rfl <| WC.skip <| WC.seq <| WC.block <| WC.region rfl <| WL.move rfl <| WL.move rfl <| WL.move rfl <| WL.move rfl ?_
    refine WL.decr j (by omega) (by have hreach : reach = 140737488355328 := rfl; omega) rfl rfl rfl ?_
    refine WL.indexAddrRow hr15 (j - 1) (by omega) ul67 ti61 rfl rfl rfl rfl (fun p9 x9 ec6 hx9 hr16 ra6 => ?_)
    obtain ⟨v12, rfl, hs9⟩ := hr16
    refine WL.loadR1' ra6 hS18 0 rfl _ rfl ti61 rfl rfl rfl ?_
    refine WL.indexAddrRow hr15 j (by omega) ul67 ti61 rfl rfl rfl rfl (fun p10 x10 ec7 hx10 hr17 ra7 => ?_)
    obtain ⟨v13, rfl, hs10⟩ := hr17
    refine WL.storeR0 hr15 ra7 hS18 0 rfl (by omega) rfl 0 _ [v12] x9 [v12] hs9.cells1 ti61 rfl (Nat.le_of_ble_eq_true rfl) (by simp only [List.all_cons, List.all_nil, hs9.oneC, Bool.true_and] <;> rfl) rfl ⟨_, rfl, hs9⟩ rfl rfl rfl rfl (fun o8 w16 hr18 hS19 => ?_)
    refine WL.nil <| WC.region rfl <| WL.move rfl ?_
    refine WL.decr j (by omega) (by have hreach : reach = 140737488355328 := rfl; omega) rfl rfl rfl ?_
    refine WL.assign rfl <| WL.nil ?_
    exact ⟨_, ⟨j - 1, (M.set j x9), o8, G4, rfl, hle4, hS19, hr18, rfl, rfl, rfl, rfl, rfl, (by omega), (by omega), (by exact Shift.step (by assumption) (by omega) (by assumption))⟩, (show (0 + (j - 1)) < (0 + j) by omega)⟩
   refine WL.nil <| WC.condF rfl <| WC.exit ?_
   have hjk : j = k2 := by omega
   refine WC.region rfl <| WL.move rfl <| WL.move rfl <| WL.move rfl <| WL.move rfl ?_
   refine WL.indexAddr (hvl.mono ((hle1.trans hle2).trans hle4)) k1 (by omega) ul22 ti63 rfl rfl rfl rfl (fun p11 x11 hx11 he4 => ?_)
   obtain rfl : xf = x11 := Option.some.inj (hxf.symm.trans hx11)
   obtain ⟨cs4, hc4, hr19⟩ := he4
   obtain ⟨v14, rfl, hs11, hb10, hb11⟩ := FactE_open hr19
   refine WL.fieldAddr _ 0 _ fl63 rfl rfl rfl <| WL.loadG1 hS18 (Cells.drop 0 hc4) ti61 rfl rfl rfl ?_
   refine WL.indexAddrRow hr15 k2 (by omega) ul67 ti61 rfl rfl rfl rfl (fun p12 x12 ec8 hx12 hr20 ra8 => ?_)
   obtain ⟨v15, rfl, hs12⟩ := hr20
   refine WL.storeR0 hr15 ra8 hS18 0 rfl (by omega) rfl 0 _ [v14] xf.v [v14] hs11.cells1 ti61 rfl (Nat.le_of_ble_eq_true rfl) (by simp only [List.all_cons, List.all_nil, hs11.oneC, Bool.true_and] <;> rfl) rfl ⟨_, rfl, hs11⟩ rfl rfl rfl rfl (fun o9 w17 hr21 hS20 => ?_)
   refine WL.nil <| WC.region rfl <| WL.move rfl ?_
   refine WL.incr k1 (by have hreach : reach = 140737488355328 := rfl; omega) rfl rfl rfl ?_
   refine WL.assign rfl <| WL.nil ?_
   exact ⟨_, ⟨k1 + 1, v11, o9, G4, rfl, (hle1.trans (hle2.trans hle4)), hS20, (Row.cast hr21 (by (rw [vals_take hxf]; (exfalso; omega)))), rfl, rfl, rfl, (by omega)⟩, (show l.length - (k1 + 1) < l.length - k1 by omega)⟩
  have h2 : (((vals (l.take k1)).length : Nat) : Int) ≤ (k2 : Int) := q1
  clear q1
  refine dr ⟨[0, 0, 2, 7, 15, 31, 31, 127, 255, 31, 31, 1567, 3615, 7711, 16383, 32767, 65535], [0, 1, 2, 3, 4, 5, 6, 7, 9, 10, 11, 12, 15, 16], [8, 13], [14], []⟩ [(13, .int .i64 (k2 : Int)), (14, v1), (15, .int .i64 (((vals (l.take k1)).length : Nat) : Int)), (16, .bool false), (17, .bool false), (18, undef), (19, undef), (20, undef), (22, undef), (23, undef), (24, undef), (25, undef), (28, undef), (29, .bool false), (21, undef), (26, undef), (27, undef)] [o1] hS3 ?_ ?_ ?_ (fun w8 hS21 => ?_)
  ·exact ⟨fun _ _ => WL.move rfl <| WL.nu rfl, fun _ _ => WL.move rfl <| WL.nu rfl, fun _ _ => WL.lenRow (hr1.mono hle2) ul67 rfl rfl <| WL.nu rfl, fun _ _ => WL.cmpV .lss rfl .i64 (k2 : Int) (((vals (l.take k1)).length : Nat) : Int) _ hb1 rfl rfl rfl <| WL.nu rfl, fun _ _ => WL.move rfl <| WL.nu rfl, fun _ _ => WL.no rfl rfl <| WL.nu rfl, fun _ _ => WL.no rfl rfl <| WL.nu rfl, fun _ _ => WL.no rfl rfl <| WL.nu rfl, fun _ _ => WL.no rfl rfl <| WL.nu rfl, fun _ _ => WL.no rfl rfl <| WL.nu rfl, fun _ _ => WL.no rfl rfl <| WL.nu rfl, fun _ _ => WL.no rfl rfl <| WL.nu rfl, fun _ _ => WL.no rfl rfl <| WL.nu rfl, fun _ _ => WL.pickF rfl rfl <| WL.nu rfl, trivial⟩
  ·exact ⟨fun _ _ => WL.no rfl rfl <| WL.nu rfl, fun _ _ => WL.no rfl rfl <| WL.nu rfl, trivial⟩
  ·exact ⟨fun _ hSw => WL.no rfl rfl <| WL.nuS hSw rfl, trivial⟩
  refine WC.condF rfl <| WC.exit <| WC.seq <| WC.seq ?_
  have bd6 := hr1.bound
  rcases Cmp.dec .lss (k2 : Int) (((vals (l.take k1)).length : Nat) : Int) with ⟨hb12, q4⟩ | ⟨hb12, q4⟩
  ·have h8 : (k2 : Int) < (((vals (l.take k1)).length : Nat) : Int) := q4
   clear q4
   obtain ⟨p13, x13, ec9, hx13, hr22, ra9, ep5⟩ := Row.atP (hr1.mono hle2) k2 (by omega)
   obtain ⟨v16, rfl, hs13⟩ := hr22
   obtain ⟨p14, x14, hx14, he5, ep6⟩ := Sl.at (hvl.mono (hle1.trans hle2)) k1 (by omega)
   obtain rfl : xf = x14 := Option.some.inj (hxf.symm.trans hx14)
   obtain ⟨cs5, hc5, hr23⟩ := he5
   obtain ⟨v17, rfl, hs14, hb13, hb14⟩ := FactE_open hr23
   rcases Bool.eq_false_or_eq_true (decide (x13 = xf.v)) with h9 | h9
   ·refine dr ⟨[0, 0, 2, 7, 15, 31, 31, 127, 255, 31, 31, 1567, 3615, 7711, 16383, 32767], [0, 1, 2, 3, 4, 5, 6, 7, 9, 10, 11, 12, 15], [8, 13], [14], []⟩ [(32, .int .i64 (k2 : Int)), (33, v1), (34, .int .i64 (((vals (l.take k1)).length : Nat) : Int)), (35, .bool true), (36, .bool true), (37, v1), (38, .int .i64 (k2 : Int)), (39, .pointer (some p13)), (41, vl), (42, .int .i64 (k1 : Int)), (43, .pointer (some p14)), (44, .pointer (some (p14.add 0))), (47, .bool true), (40, v16), (45, v17), (46, .bool true)] [o1] hS21 ?_ ?_ ?_ (fun w8 hS22 => ?_)
    ·exact ⟨fun _ _ => WL.move rfl <| WL.nu rfl, fun _ _ => WL.move rfl <| WL.nu rfl, fun _ _ => WL.lenRow (hr1.mono hle2) ul67 rfl rfl <| WL.nu rfl, fun _ _ => WL.cmpV .lss rfl .i64 (k2 : Int) (((vals (l.take k1)).length : Nat) : Int) _ hb12 rfl rfl rfl <| WL.nu rfl, fun _ _ => WL.move rfl <| WL.nu rfl, fun _ _ => WL.move rfl <| WL.nu rfl, fun _ _ => WL.move rfl <| WL.nu rfl, fun _ _ => WL.indexAddrP k2 ep5 ul67 ti61 rfl rfl rfl rfl <| WL.nu rfl, fun _ _ => WL.move rfl <| WL.nu rfl, fun _ _ => WL.move rfl <| WL.nu rfl, fun _ _ => WL.indexAddrP k1 ep6 ul22 ti63 rfl rfl rfl rfl <| WL.nu rfl, fun _ _ => WL.fieldAddr _ 0 _ fl63 rfl rfl rfl <| WL.nu rfl, fun _ _ => WL.pickT rfl rfl <| WL.nu rfl, trivial⟩
    ·exact ⟨fun _ hSw => WL.loadR1' ra9 hSw 0 rfl _ rfl ti61 rfl rfl rfl <| WL.nu rfl, fun _ hSw => WL.loadG1 hSw (Cells.drop 0 hc5) ti61 rfl rfl rfl <| WL.nu rfl, trivial⟩
    ·exact ⟨fun _ hSw => WL.callD [v16, v17] #[] hb88 rfl rfl rfl hSw (c_Same _ _ hSw.imm x13 xf.v _ hs13 _ hs14 ) (congrArg Value.bool h9.symm), trivial⟩
    refine WC.condT rfl <| WC.exit <| WC.region rfl <| WL.move rfl ?_
    refine WL.incr k1 (by have hreach : reach = 140737488355328 := rfl; omega) rfl rfl rfl ?_
    refine WL.assign rfl <| WL.nil ?_
    exact ⟨_, ⟨k1 + 1, v1, o1, G2, rfl, (hle1.trans hle2), hS22, (Row.cast (hr1.mono hle2) (by (rw [vals_take hxf]; (exfalso; omega)))), rfl, rfl, rfl, (by omega)⟩, (show l.length - (k1 + 1) < l.length - k1 by omega)⟩
   refine dr ⟨[0, 0, 2, 7, 15, 31, 31, 127, 255, 31, 31, 1567, 3615, 7711, 16383, 32767], [0, 1, 2, 3, 4, 5, 6, 7, 9, 10, 11, 12, 15], [8, 13], [14], []⟩ [(32, .int .i64 (k2 : Int)), (33, v1), (34, .int .i64 (((vals (l.take k1)).length : Nat) : Int)), (35, .bool true), (36, .bool true), (37, v1), (38, .int .i64 (k2 : Int)), (39, .pointer (some p13)), (41, vl), (42, .int .i64 (k1 : Int)), (43, .pointer (some p14)), (44, .pointer (some (p14.add 0))), (47, .bool false), (40, v16), (45, v17), (46, .bool false)] [o1] hS21 ?_ ?_ ?_ (fun w8 hS23 => ?_)
   ·exact ⟨fun _ _ => WL.move rfl <| WL.nu rfl, fun _ _ => WL.move rfl <| WL.nu rfl, fun _ _ => WL.lenRow (hr1.mono hle2) ul67 rfl rfl <| WL.nu rfl, fun _ _ => WL.cmpV .lss rfl .i64 (k2 : Int) (((vals (l.take k1)).length : Nat) : Int) _ hb12 rfl rfl rfl <| WL.nu rfl, fun _ _ => WL.move rfl <| WL.nu rfl, fun _ _ => WL.move rfl <| WL.nu rfl, fun _ _ => WL.move rfl <| WL.nu rfl, fun _ _ => WL.indexAddrP k2 ep5 ul67 ti61 rfl rfl rfl rfl <| WL.nu rfl, fun _ _ => WL.move rfl <| WL.nu rfl, fun _ _ => WL.move rfl <| WL.nu rfl, fun _ _ => WL.indexAddrP k1 ep6 ul22 ti63 rfl rfl rfl rfl <| WL.nu rfl, fun _ _ => WL.fieldAddr _ 0 _ fl63 rfl rfl rfl <| WL.nu rfl, fun _ _ => WL.pickT rfl rfl <| WL.nu rfl, trivial⟩
   ·exact ⟨fun _ hSw => WL.loadR1' ra9 hSw 0 rfl _ rfl ti61 rfl rfl rfl <| WL.nu rfl, fun _ hSw => WL.loadG1 hSw (Cells.drop 0 hc5) ti61 rfl rfl rfl <| WL.nu rfl, trivial⟩
   ·exact ⟨fun _ hSw => WL.callD [v16, v17] #[] hb88 rfl rfl rfl hSw (c_Same _ _ hSw.imm x13 xf.v _ hs13 _ hs14 ) (congrArg Value.bool h9.symm), trivial⟩
   refine WC.condF rfl <| WC.skip <| WC.seq <| WC.region rfl <| WL.move rfl ?_
   refine WL.buildSlice _ [(0, [.slice none 0 0])] [.slice none 0 0] hS23 sl67 rfl rfl rfl rfl (fun z hz => by match z, hz with | [z0], _ => rfl) (fun b3 w21 hn3 hS24 => ?_)
   refine WL.push (m := ([[]] : List (List Val))) sl67 rfl rfl rfl (hr1.mono hle2) hS24 1 rfl 0 _ _ _ _ _ rfl ⟨[.slice none 0 0], _, rfl, ⟨_, rfl, (Sl.nil ValE 32 G2)⟩, rfl⟩ rfl (by have hreach : reach = 140737488355328 := rfl; simp only [List.length_cons, List.length_nil]; omega) (by have hreach : reach = 140737488355328 := rfl; simp only [List.length_cons, List.length_nil]; omega) rfl rfl rfl (fun v18 o10 w22 hr24 hS25 => ?_)
   have hS26 := hS25.tail
   refine WL.assign rfl <| WL.nil <| WC.seq <| WC.seq <| WC.region rfl <| WL.move rfl ?_
   have bd7 := hr24.bound
   refine WL.lenRow hr24 ul67 rfl rfl ?_
   refine WL.decr ((vals (l.take k1) ++ [[]]).length) (by omega) (by have hreach : reach = 140737488355328 := rfl; omega) rfl rfl rfl ?_
   refine WL.assign rfl <| WL.nil <| WC.block ?_
   refine WC.loop (γ := Nat) (fun m ρ1 w1 => ∃ (j : Nat), ∃ (M : VV), ∃ (o11 : OB), ∃ (G5 : GH), m = (0 + j) ∧ G2.le G5 ∧ St w [] G G5 [o11] w1 ∧ Row (ValE.slice 32) 24 61 G5 v18 M o11 ∧ ρ1 0 = vl ∧ ρ1 3 = v18 ∧ ρ1 4 = .int .i64 (k1 : Int) ∧ ρ1 5 = .int .i64 (k2 : Int) ∧ ρ1 6 = .int .i64 (j : Int) ∧ k2 ≤ j ∧ j ≤ (vals (l.take k1)).length ∧ Shift (vals (l.take k1)) M j) (fun m => m) _ ⟨(vals (l.take k1) ++ [[]]).length - 1, (vals (l.take k1) ++ [[]]), o10, G2, rfl, (G2.le_refl), hS26, hr24, rfl, rfl, rfl, rfl, rfl, (by simp only [List.length_append, List.length_cons, List.length_nil]; omega), (by simp), (by (have e9 : ((vals (l.take k1)) ++ [[]]).length - 1 = (vals (l.take k1)).length := by simp); rw [e9]; exact Shift.start)⟩ ?_
   rintro m ρ1 w23 ⟨j, M, o11, G5, rfl, hle5, hS27, hr25, e18, e19, e20, e21, e22, f10, f11, f12⟩
   refine WC.set (d := 0) e18 <| WC.set (d := 3) e19 <| WC.set (d := 4) e20 <| WC.set (d := 5) e21 <| WC.set (d := 6) e22 ?_
   have hsl9 := Shift.len (by assumption : Shift (vals (l.take k1)) M j)
   refine WC.seq <| WC.seq <| WC.region rfl <| WL.move rfl <| WL.move rfl ?_
   refine WL.gtrS (j : Int) (k2 : Int) rfl rfl rfl (fun h10 => ?_) (fun h10 => ?_)
   ·refine WL.nil <| WC.condT rfl <| WC.skip <| WC.seq <| WC.block <| WC.region rfl <| WL.move rfl <| WL.move rfl <| WL.move rfl <| WL.move rfl ?_
    refine WL.decr j (by omega) (by have hreach : reach = 140737488355328 := rfl; omega) rfl rfl rfl ?_
    refine WL.indexAddrRow hr25 (j - 1) (by omega) ul67 ti61 rfl rfl rfl rfl (fun p15 x15 ec10 hx15 hr26 ra10 => ?_)
    obtain ⟨v19, rfl, hs15⟩ := hr26
    refine WL.loadR1' ra10 hS27 0 rfl _ rfl ti61 rfl rfl rfl ?_
    refine WL.indexAddrRow hr25 j (by omega) ul67 ti61 rfl rfl rfl rfl (fun p16 x16 ec11 hx16 hr27 ra11 => ?_)
    obtain ⟨v20, rfl, hs16⟩ := hr27
    refine WL.storeR0 hr25 ra11 hS27 0 rfl (by omega) rfl 0 _ [v19] x15 [v19] hs15.cells1 ti61 rfl (Nat.le_of_ble_eq_true rfl) (by simp only [List.all_cons, List.all_nil, hs15.oneC, Bool.true_and] <;> rfl) rfl ⟨_, rfl, hs15⟩ rfl rfl rfl rfl (fun o12 w24 hr28 hS28 => ?_)
    refine WL.nil <| WC.region rfl <| WL.move rfl ?_
    refine WL.decr j (by omega) (by have hreach : reach = 140737488355328 := rfl; omega) rfl rfl rfl ?_
    refine WL.assign rfl <| WL.nil ?_
    exact ⟨_, ⟨j - 1, (M.set j x15), o12, G5, rfl, hle5, hS28, hr28, rfl, rfl, rfl, rfl, rfl, (by omega), (by omega), (by exact Shift.step (by assumption) (by omega) (by assumption))⟩, (show (0 + (j - 1)) < (0 + j) by omega)⟩
   refine WL.nil <| WC.condF rfl <| WC.exit ?_
   have hjk : j = k2 := by omega
   refine WC.region rfl <| WL.move rfl <| WL.move rfl <| WL.move rfl <| WL.move rfl ?_
   refine WL.indexAddr (hvl.mono ((hle1.trans hle2).trans hle5)) k1 (by omega) ul22 ti63 rfl rfl rfl rfl (fun p17 x17 hx17 he6 => ?_)
   obtain rfl : xf = x17 := Option.some.inj (hxf.symm.trans hx17)
   obtain ⟨cs6, hc6, hr29⟩ := he6
   obtain ⟨v21, rfl, hs17, hb15, hb16⟩ := FactE_open hr29
   refine WL.fieldAddr _ 0 _ fl63 rfl rfl rfl <| WL.loadG1 hS27 (Cells.drop 0 hc6) ti61 rfl rfl rfl ?_
   refine WL.indexAddrRow hr25 k2 (by omega) ul67 ti61 rfl rfl rfl rfl (fun p18 x18 ec12 hx18 hr30 ra12 => ?_)
   obtain ⟨v22, rfl, hs18⟩ := hr30
   refine WL.storeR0 hr25 ra12 hS27 0 rfl (by omega) rfl 0 _ [v21] xf.v [v21] hs17.cells1 ti61 rfl (Nat.le_of_ble_eq_true rfl) (by simp only [List.all_cons, List.all_nil, hs17.oneC, Bool.true_and] <;> rfl) rfl ⟨_, rfl, hs17⟩ rfl rfl rfl rfl (fun o13 w25 hr31 hS29 => ?_)
   refine WL.nil <| WC.region rfl <| WL.move rfl ?_
   refine WL.incr k1 (by have hreach : reach = 140737488355328 := rfl; omega) rfl rfl rfl ?_
   refine WL.assign rfl <| WL.nil ?_
   exact ⟨_, ⟨k1 + 1, v18, o13, G5, rfl, (hle1.trans (hle2.trans hle5)), hS29, (Row.cast hr31 (by (rw [vals_take hxf]; (exfalso; omega)))), rfl, rfl, rfl, (by omega)⟩, (show l.length - (k1 + 1) < l.length - k1 by omega)⟩
  have h8 : (((vals (l.take k1)).length : Nat) : Int) ≤ (k2 : Int) := q4
  clear q4
  refine dr ⟨[0, 0, 2, 7, 15, 31, 31, 127, 255, 31, 31, 1567, 3615, 7711, 16383, 32767], [0, 1, 2, 3, 4, 5, 6, 7, 9, 10, 11, 12, 15], [8, 13], [14], []⟩ [(32, .int .i64 (k2 : Int)), (33, v1), (34, .int .i64 (((vals (l.take k1)).length : Nat) : Int)), (35, .bool false), (36, .bool false), (37, undef), (38, undef), (39, undef), (41, undef), (42, undef), (43, undef), (44, undef), (47, .bool false), (40, undef), (45, undef), (46, undef)] [o1] hS21 ?_ ?_ ?_ (fun w8 hS30 => ?_)
  ·exact ⟨fun _ _ => WL.move rfl <| WL.nu rfl, fun _ _ => WL.move rfl <| WL.nu rfl, fun _ _ => WL.lenRow (hr1.mono hle2) ul67 rfl rfl <| WL.nu rfl, fun _ _ => WL.cmpV .lss rfl .i64 (k2 : Int) (((vals (l.take k1)).length : Nat) : Int) _ hb12 rfl rfl rfl <| WL.nu rfl, fun _ _ => WL.move rfl <| WL.nu rfl, fun _ _ => WL.no rfl rfl <| WL.nu rfl, fun _ _ => WL.no rfl rfl <| WL.nu rfl, fun _ _ => WL.no rfl rfl <| WL.nu rfl, fun _ _ => WL.no rfl rfl <| WL.nu rfl, fun _ _ => WL.no rfl rfl <| WL.nu rfl, fun _ _ => WL.no rfl rfl <| WL.nu rfl, fun _ _ => WL.no rfl rfl <| WL.nu rfl, fun _ _ => WL.pickF rfl rfl <| WL.nu rfl, trivial⟩
  ·exact ⟨fun _ _ => WL.no rfl rfl <| WL.nu rfl, fun _ _ => WL.no rfl rfl <| WL.nu rfl, trivial⟩
  ·exact ⟨fun _ hSw => WL.no rfl rfl <| WL.nuS hSw rfl, trivial⟩
  refine WC.condF rfl <| WC.skip <| WC.seq <| WC.region rfl <| WL.move rfl ?_
  refine WL.buildSlice _ [(0, [.slice none 0 0])] [.slice none 0 0] hS30 sl67 rfl rfl rfl rfl (fun z hz => by match z, hz with | [z0], _ => rfl) (fun b4 w27 hn4 hS31 => ?_)
  refine WL.push (m := ([[]] : List (List Val))) sl67 rfl rfl rfl (hr1.mono hle2) hS31 1 rfl 0 _ _ _ _ _ rfl ⟨[.slice none 0 0], _, rfl, ⟨_, rfl, (Sl.nil ValE 32 G2)⟩, rfl⟩ rfl (by have hreach : reach = 140737488355328 := rfl; simp only [List.length_cons, List.length_nil]; omega) (by have hreach : reach = 140737488355328 := rfl; simp only [List.length_cons, List.length_nil]; omega) rfl rfl rfl (fun v23 o14 w28 hr32 hS32 => ?_)
  have hS33 := hS32.tail
  refine WL.assign rfl <| WL.nil <| WC.seq <| WC.seq <| WC.region rfl <| WL.move rfl ?_
  have bd8 := hr32.bound
  refine WL.lenRow hr32 ul67 rfl rfl ?_
  refine WL.decr ((vals (l.take k1) ++ [[]]).length) (by (simp only [List.length_append, List.length_cons, List.length_nil]; omega)) (by have hreach : reach = 140737488355328 := rfl; omega) rfl rfl rfl ?_
  refine WL.assign rfl <| WL.nil <| WC.block ?_
  refine WC.loop (γ := Nat) (fun m ρ1 w1 => ∃ (j : Nat), ∃ (M : VV), ∃ (o15 : OB), ∃ (G6 : GH), m = (0 + j) ∧ G2.le G6 ∧ St w [] G G6 [o15] w1 ∧ Row (ValE.slice 32) 24 61 G6 v23 M o15 ∧ ρ1 0 = vl ∧ ρ1 3 = v23 ∧ ρ1 4 = .int .i64 (k1 : Int) ∧ ρ1 5 = .int .i64 (k2 : Int) ∧ ρ1 6 = .int .i64 (j : Int) ∧ k2 ≤ j ∧ j ≤ (vals (l.take k1)).length ∧ Shift (vals (l.take k1)) M j) (fun m => m) _ ⟨(vals (l.take k1) ++ [[]]).length - 1, (vals (l.take k1) ++ [[]]), o14, G2, rfl, (G2.le_refl), hS33, hr32, rfl, rfl, rfl, rfl, rfl, (by simp only [List.length_append, List.length_cons, List.length_nil]; omega), (by simp), (by (have e9 : ((vals (l.take k1)) ++ [[]]).length - 1 = (vals (l.take k1)).length := by simp); rw [e9]; exact Shift.start)⟩ ?_
  rintro m ρ1 w29 ⟨j, M, o15, G6, rfl, hle6, hS34, hr33, e23, e24, e25, e26, e27, f13, f14, f15⟩
  refine WC.set (d := 0) e23 <| WC.set (d := 3) e24 <| WC.set (d := 4) e25 <| WC.set (d := 5) e26 <| WC.set (d := 6) e27 ?_
  have hsl9 := Shift.len (by assumption : Shift (vals (l.take k1)) M j)
  refine WC.seq <| WC.seq <| WC.region rfl <| WL.move rfl <| WL.move rfl ?_
  refine WL.gtrS (j : Int) (k2 : Int) rfl rfl rfl (fun h11 => ?_) (fun h11 => ?_)
  ·refine WL.nil <| WC.condT rfl <| WC.skip <| WC.seq <| WC.block <| WC.region rfl <| WL.move rfl <| WL.move rfl <| WL.move rfl <| WL.move rfl ?_
   refine WL.decr j (by omega) (by have hreach : reach = 140737488355328 := rfl; omega) rfl rfl rfl ?_
   refine WL.indexAddrRow hr33 (j - 1) (by omega) ul67 ti61 rfl rfl rfl rfl (fun p19 x19 ec13 hx19 hr34 ra13 => ?_)
   obtain ⟨v24, rfl, hs19⟩ := hr34
   refine WL.loadR1' ra13 hS34 0 rfl _ rfl ti61 rfl rfl rfl ?_
   refine WL.indexAddrRow hr33 j (by omega) ul67 ti61 rfl rfl rfl rfl (fun p20 x20 ec14 hx20 hr35 ra14 => ?_)
   obtain ⟨v25, rfl, hs20⟩ := hr35
   refine WL.storeR0 hr33 ra14 hS34 0 rfl (by omega) rfl 0 _ [v24] x19 [v24] hs19.cells1 ti61 rfl (Nat.le_of_ble_eq_true rfl) (by simp only [List.all_cons, List.all_nil, hs19.oneC, Bool.true_and] <;> rfl) rfl ⟨_, rfl, hs19⟩ rfl rfl rfl rfl (fun o16 w30 hr36 hS35 => ?_)
   refine WL.nil <| WC.region rfl <| WL.move rfl ?_
   refine WL.decr j (by omega) (by have hreach : reach = 140737488355328 := rfl; omega) rfl rfl rfl ?_
   refine WL.assign rfl <| WL.nil ?_
   exact ⟨_, ⟨j - 1, (M.set j x19), o16, G6, rfl, hle6, hS35, hr36, rfl, rfl, rfl, rfl, rfl, (by omega), (by omega), (by exact Shift.step (by assumption) (by omega) (by assumption))⟩, (show (0 + (j - 1)) < (0 + j) by omega)⟩
  refine WL.nil <| WC.condF rfl <| WC.exit ?_
  have hjk : j = k2 := by omega
  refine WC.region rfl <| WL.move rfl <| WL.move rfl <| WL.move rfl <| WL.move rfl ?_
  refine WL.indexAddr (hvl.mono ((hle1.trans hle2).trans hle6)) k1 (by omega) ul22 ti63 rfl rfl rfl rfl (fun p21 x21 hx21 he7 => ?_)
  obtain rfl : xf = x21 := Option.some.inj (hxf.symm.trans hx21)
  obtain ⟨cs7, hc7, hr37⟩ := he7
  obtain ⟨v26, rfl, hs21, hb17, hb18⟩ := FactE_open hr37
  refine WL.fieldAddr _ 0 _ fl63 rfl rfl rfl <| WL.loadG1 hS34 (Cells.drop 0 hc7) ti61 rfl rfl rfl ?_
  refine WL.indexAddrRow hr33 k2 (by omega) ul67 ti61 rfl rfl rfl rfl (fun p22 x22 ec15 hx22 hr38 ra15 => ?_)
  obtain ⟨v27, rfl, hs22⟩ := hr38
  refine WL.storeR0 hr33 ra15 hS34 0 rfl (by omega) rfl 0 _ [v26] xf.v [v26] hs21.cells1 ti61 rfl (Nat.le_of_ble_eq_true rfl) (by simp only [List.all_cons, List.all_nil, hs21.oneC, Bool.true_and] <;> rfl) rfl ⟨_, rfl, hs21⟩ rfl rfl rfl rfl (fun o17 w31 hr39 hS36 => ?_)
  refine WL.nil <| WC.region rfl <| WL.move rfl ?_
  refine WL.incr k1 (by have hreach : reach = 140737488355328 := rfl; omega) rfl rfl rfl ?_
  refine WL.assign rfl <| WL.nil ?_
  exact ⟨_, ⟨k1 + 1, v23, o17, G6, rfl, (hle1.trans (hle2.trans hle6)), hS36, (Row.cast hr39 (by (rw [vals_take hxf]; (rw [vals_put1 (out := vals (l.take k1)) (k := k2) (by omega) (by omega) (by assumption)]; exact Shift.done (by rw [← hjk]; assumption) (by omega))))), rfl, rfl, rfl, (by omega)⟩, (show l.length - (k1 + 1) < l.length - k1 by omega)⟩
 refine WL.nil <| WC.condF rfl <| WC.exit <| WC.seq <| WC.region rfl <| WL.move rfl <| WL.assign rfl <| WL.nil <| WC.ret ?_
 obtain ⟨G7, hle7, hs23, hS37⟩ := Row.freeze hr1 hS1 0 rfl
 exact ⟨_, rfl, _, _, rfl, hS37.res, (Sl.cast hs23 (by exact vals_all (by omega)))⟩

theorem c_times (G : GH) (w : World) (hG : G.In w) (l : List Fact) (v : List Val) (vl : Value) (hvl : Sl FactE 40 G vl l) (vv : Value) (hvv : Sl ValE 32 G vv v) (hg : Good l) (hl : l.length ≤ 1000) : Calls Tryz.prog (nat_lit 78) #[vl, vv] w fun e w' => ∃ r G', e = .returned r ∧ Res [] w G w' G' ∧ Sl SpanE 16 G' r (canon (timesOf l v)) := by
 refine calls_of_WC (N := 34) Tryz.func78 rfl rfl rfl ?_
 have hS := St.start (X := []) hG
 refine WC.seq <| WC.region rfl <| WL.assign rfl <| WL.nil <| WC.seq <| WC.region rfl <| WL.assign rfl <| WL.nil <| WC.seq <| WC.seq <| WC.region rfl <| WL.assign rfl <| WL.nil <| WC.block ?_
 have hS2 := hS.pad
 refine WC.loop (γ := Nat) (fun m ρ1 w1 => ∃ (k1 : Nat), ∃ (v1 : Value) (o1 : OB), ∃ (G1 : GH), m = l.length - k1 ∧ G.le G1 ∧ St w [] G G1 [o1] w1 ∧ Row SpanE 16 46 G1 v1 (timesOf (l.take k1) v) o1 ∧ ρ1 0 = vl ∧ ρ1 1 = vv ∧ ρ1 5 = v1 ∧ ρ1 6 = .int .i64 (k1 : Int) ∧ k1 ≤ l.length) (fun m => m) _ ⟨0, (.slice none 0 0), none, G, rfl, (G.le_refl), hS2, (Row.nil SpanE 16 46 G), rfl, rfl, rfl, rfl, (by omega)⟩ ?_
 rintro m ρ1 w1 ⟨k1, v1, o1, G1, rfl, hle1, hS1, hr1, e1, e2, e3, e4, f1⟩
 refine WC.set (d := 0) e1 <| WC.set (d := 1) e2 <| WC.set (d := 5) e3 <| WC.set (d := 6) e4 ?_
 have hT9 := timesOf_takeLen l k1 v
 refine WC.seq <| WC.seq <| WC.region rfl <| WL.move rfl <| WL.move rfl ?_
 have bd1 := hvl.bound
 refine WL.lenSl (hvl.mono hle1) ul22 rfl rfl ?_
 refine WL.lssS (k1 : Int) (l.length : Int) rfl rfl rfl (fun h1 => ?_) (fun h1 => ?_)
 ·refine WL.nil <| WC.condT rfl <| WC.skip <| WC.seq <| WC.block <| WC.seq <| WC.region rfl <| WL.move rfl <| WL.move rfl ?_
  refine WL.indexAddr (hvl.mono hle1) k1 (by omega) ul22 ti63 rfl rfl rfl rfl (fun p1 x1 hx1 he1 => ?_)
  obtain ⟨cs1, hc1, hr2⟩ := he1
  obtain ⟨v2, rfl, hs1, hb1, hb2⟩ := FactE_open hr2
  refine WL.fieldAddr _ 0 _ fl63 rfl rfl rfl <| WL.loadG1 hS1 (Cells.drop 0 hc1) ti61 rfl rfl rfl <| WL.move rfl ?_
  refine WL.callF [v2, vv] #[] hb88 rfl rfl rfl ((c_Same _ _ hS1.imm x1.v v _ hs1 _ (hvv.mono hle1) ).mono ?_)
  rintro e w2 ⟨r1, G2, rfl, hres1, hpost1⟩
  refine ⟨_, rfl, ?_⟩
  have hS3 := hS1.call hres1
  have hle2 := hres1.le
  subst hpost1
  refine WL.split (fun (h2 : (decide (x1.v = v)) = true) => ?_) (fun (h2 : (decide (x1.v = v)) = false) => ?_)
  ·refine WL.nil <| WC.condT rfl <| WC.region rfl <| WL.move rfl <| WL.move rfl <| WL.move rfl ?_
   refine WL.indexAddr (hvl.mono (hle1.trans hle2)) k1 (by omega) ul22 ti63 rfl rfl rfl rfl (fun p2 x2 hx2 he2 => ?_)
   obtain rfl : x1 = x2 := Option.some.inj (hx1.symm.trans hx2)
   obtain ⟨cs2, hc2, hr3⟩ := he2
   obtain ⟨v3, rfl, hs2, hb3, hb4⟩ := FactE_open hr3
   refine WL.fieldAddr _ 1 _ fl63 rfl rfl rfl <| WL.loadGAt hS3 (Cells.drop 1 hc2) [.int .i64 x1.t.a, .int .i64 x1.t.b] ti46 rfl rfl rfl rfl rfl ?_
   refine WL.buildSlice _ [(0, [.int .i64 x1.t.a, .int .i64 x1.t.b])] [.int .i64 x1.t.a, .int .i64 x1.t.b] hS3 sl111 rfl rfl rfl rfl (fun z hz => by match z, hz with | [z0, z1], _ => rfl) (fun b1 w3 hn1 hS4 => ?_)
   refine WL.push (m := ([x1.t] : List Span)) sl111 rfl rfl rfl (hr1.mono hle2) hS4 1 rfl 0 _ _ _ _ _ rfl ⟨[.int .i64 x1.t.a, .int .i64 x1.t.b], _, rfl, (SpanE_mk x1.t hb3 hb4), rfl⟩ rfl (by have hreach : reach = 140737488355328 := rfl; simp only [List.length_cons, List.length_nil]; omega) (by have hreach : reach = 140737488355328 := rfl; simp only [List.length_cons, List.length_nil]; omega) rfl rfl rfl (fun v4 o2 w4 hr4 hS5 => ?_)
   have hS6 := hS5.tail
   refine WL.assign rfl <| WL.nil <| WC.region rfl <| WL.move rfl ?_
   refine WL.incr k1 (by have hreach : reach = 140737488355328 := rfl; omega) rfl rfl rfl ?_
   refine WL.assign rfl <| WL.nil ?_
   exact ⟨_, ⟨k1 + 1, v4, o2, G2, rfl, (hle1.trans hle2), hS6, (Row.cast hr4 (by (exact (timesOf_yes (by assumption) (by assumption)).symm))), rfl, rfl, rfl, rfl, (by omega)⟩, (show l.length - (k1 + 1) < l.length - k1 by omega)⟩
  refine WL.nil <| WC.condF rfl <| WC.skip <| WC.region rfl <| WL.move rfl ?_
  refine WL.incr k1 (by have hreach : reach = 140737488355328 := rfl; omega) rfl rfl rfl ?_
  refine WL.assign rfl <| WL.nil ?_
  exact ⟨_, ⟨k1 + 1, v1, o1, G2, rfl, (hle1.trans hle2), hS3, (Row.cast (hr1.mono hle2) (by (exact (timesOf_no (by assumption) (by assumption)).symm))), rfl, rfl, rfl, rfl, (by omega)⟩, (show l.length - (k1 + 1) < l.length - k1 by omega)⟩
 refine WL.nil <| WC.condF rfl <| WC.exit <| WC.seq <| WC.region rfl <| WL.move rfl ?_
 obtain ⟨G3, hle3, hs3, hS7⟩ := Row.freeze hr1 hS1 0 rfl
 refine WL.callF [v1] #[] hb137 rfl rfl rfl ((c_Of _ _ hS7.imm (timesOf (l.take k1) v) _ hs3 (by rw [timesOf_all (by omega)]; exact timesOf_good hg v) (by omega)).mono ?_)
 rintro e w5 ⟨r2, G4, rfl, hres2, hpost2⟩
 refine ⟨_, rfl, ?_⟩
 have hS8 := hS7.call hres2
 have hle4 := hres2.le
 obtain ⟨r3, r4, rfl, hs4, rfl⟩ := hpost2
 refine WL.move rfl <| WL.extract _ _ rfl rfl rfl <| WL.extract _ _ rfl rfl rfl <| WL.assign rfl <| WL.nil <| WC.seq <| WC.region rfl <| WL.move rfl <| WL.assign rfl <| WL.nil <| WC.ret ?_
 exact ⟨_, rfl, _, _, rfl, hS8.res, (Sl.cast hs4 (by rw [timesOf_all (by omega)]))⟩

theorem c_rNormal (G : GH) (w : World) (hG : G.In w) (l : List Fact) (vl : Value) (hvl : Sl FactE 40 G vl l) (hg : Good l) (hl : l.length ≤ 1000) : Calls Tryz.prog (nat_lit 47) #[vl] w fun e w' => ∃ r G', e = .returned r ∧ Res [] w G w' G' ∧ Sl FactE 40 G' r (rnf l) := by
 refine calls_of_WC (N := 41) Tryz.func47 rfl rfl rfl ?_
 have hN9 := rnf_len hg
 have hS := St.start (X := []) hG
 refine WC.seq <| WC.region rfl <| WL.assign rfl <| WL.nil <| WC.seq <| WC.region rfl <| WL.move rfl ?_
 refine WL.callF [vl] #[] hb76 rfl rfl rfl ((c_values _ _ hS.imm l _ hvl (by omega)).mono ?_)
 rintro e w1 ⟨r1, G1, rfl, hres1, hpost1⟩
 refine ⟨_, rfl, ?_⟩
 have hS1 := hS.call hres1
 have hle1 := hres1.le
 refine WL.assign rfl <| WL.nil <| WC.seq <| WC.region rfl <| WL.assign rfl <| WL.nil <| WC.seq <| WC.seq <| WC.region rfl <| WL.assign rfl <| WL.nil <| WC.block ?_
 have hS3 := hS1.pad
 refine WC.loop (γ := Nat) (fun m ρ1 w1 => ∃ (k1 : Nat), ∃ (v1 : Value) (o1 : OB), ∃ (G2 : GH), m = (vals l).length - k1 ∧ G1.le G2 ∧ St w [] G G2 [o1] w1 ∧ Row FactE 40 63 G2 v1 (rnfN l ((vals l).take k1)) o1 ∧ ρ1 0 = vl ∧ ρ1 3 = r1 ∧ ρ1 4 = v1 ∧ ρ1 5 = .int .i64 (k1 : Int) ∧ k1 ≤ (vals l).length) (fun m => m) _ ⟨0, (.slice none 0 0), none, G1, rfl, (G1.le_refl), hS3, (Row.nil FactE 40 63 G1), rfl, rfl, rfl, rfl, (by omega)⟩ ?_
 rintro m ρ1 w2 ⟨k1, v1, o1, G2, rfl, hle2, hS2, hr1, e1, e2, e3, e4, f1⟩
 refine WC.set (d := 0) e1 <| WC.set (d := 3) e2 <| WC.set (d := 4) e3 <| WC.set (d := 5) e4 <| WC.seq <| WC.seq <| WC.region rfl <| WL.move rfl <| WL.move rfl ?_
 have bd1 := hpost1.bound
 refine WL.lenSl (hpost1.mono hle2) ul67 rfl rfl ?_
 refine WL.lssS (k1 : Int) (((vals l).length : Nat) : Int) rfl rfl rfl (fun h1 => ?_) (fun h1 => ?_)
 ·refine WL.nil <| WC.condT rfl <| WC.skip <| WC.seq <| WC.block <| WC.seq <| WC.region rfl <| WL.move rfl <| WL.move rfl <| WL.move rfl ?_
  refine WL.indexAddr (hpost1.mono hle2) k1 (by omega) ul67 ti61 rfl rfl rfl rfl (fun p1 x1 hx1 he1 => ?_)
  obtain ⟨cs1, hc1, hr2⟩ := he1
  obtain ⟨v2, rfl, hs1⟩ := hr2
  refine WL.loadG1 hS2 hc1 ti61 rfl rfl rfl ?_
  refine WL.callF [vl, v2] #[] hb78 rfl rfl rfl ((c_times _ _ hS2.imm l x1 _ (hvl.mono (hle1.trans hle2)) _ hs1 hg hl).mono ?_)
  rintro e w3 ⟨r2, G3, rfl, hres2, hpost2⟩
  refine ⟨_, rfl, ?_⟩
  have hS4 := hS2.call hres2
  have hle3 := hres2.le
  refine WL.assign rfl <| WL.nil <| WC.seq <| WC.region rfl <| WL.assign rfl <| WL.nil <| WC.block ?_
  refine WC.loop (γ := Nat) (fun m ρ1 w1 => ∃ (k2 : Nat), ∃ (v3 : Value) (o2 : OB), ∃ (G4 : GH), m = (canon (timesOf l x1)).length - k2 ∧ G3.le G4 ∧ St w [] G G4 [o2] w1 ∧ Row FactE 40 63 G4 v3 (rnfN l ((vals l).take k1) ++ ((canon (timesOf l x1)).take k2).map (Fact.mk x1)) o2 ∧ ρ1 0 = vl ∧ ρ1 3 = r1 ∧ ρ1 4 = v3 ∧ ρ1 5 = .int .i64 (k1 : Int) ∧ ρ1 6 = r2 ∧ ρ1 7 = .int .i64 (k2 : Int) ∧ k2 ≤ (canon (timesOf l x1)).length) (fun m => m) _ ⟨0, v1, o1, G3, rfl, (G3.le_refl), hS4, (Row.cast (hr1.mono hle3) (by simp)), rfl, rfl, rfl, rfl, rfl, rfl, (by omega)⟩ ?_
  rintro m ρ1 w4 ⟨k2, v3, o2, G4, rfl, hle4, hS5, hr3, e5, e6, e7, e8, e9, e10, f2⟩
  refine WC.set (d := 0) e5 <| WC.set (d := 3) e6 <| WC.set (d := 4) e7 <| WC.set (d := 5) e8 <| WC.set (d := 6) e9 <| WC.set (d := 7) e10 ?_
  have hP9 := rnf_part (l := l) (j := k2) hx1
  refine WC.seq <| WC.seq <| WC.region rfl <| WL.move rfl <| WL.move rfl ?_
  have bd2 := hpost2.bound
  refine WL.lenSl (hpost2.mono hle4) ul111 rfl rfl ?_
  refine WL.lssS (k2 : Int) (((canon (timesOf l x1)).length : Nat) : Int) rfl rfl rfl (fun h2 => ?_) (fun h2 => ?_)
  ·refine WL.nil <| WC.condT rfl <| WC.skip <| WC.seq <| WC.block ?_
   obtain ⟨p2, x2, hx2, he2, ep1⟩ := Sl.at (hpost1.mono ((hle2.trans hle3).trans hle4)) k1 (by omega)
   obtain rfl : x1 = x2 := Option.some.inj (hx1.symm.trans hx2)
   obtain ⟨cs2, hc2, hr4⟩ := he2
   obtain ⟨v4, rfl, hs2⟩ := hr4
   obtain ⟨p3, x3, hx3, he3, ep2⟩ := Sl.at (hpost2.mono hle4) k2 (by omega)
   obtain ⟨cs3, hc3, hr5⟩ := he3
   obtain ⟨rfl, hb1, hb2⟩ := SpanE_open hr5
   refine dr ⟨[0, 0, 0, 6, 14, 0, 0, 96, 224, 510, 1022, 2047, 4095], [0, 1, 2, 3, 5, 6, 7, 9], [4, 8], [], [10, 11, 12]⟩ [(28, v3), (29, r1), (30, .int .i64 (k1 : Int)), (31, .pointer (some p2)), (33, r2), (34, .int .i64 (k2 : Int)), (35, .pointer (some p3)), (37, .agg #[v4, .int .i64 x3.a, .int .i64 x3.b]), (32, v4), (36, .agg #[.int .i64 x3.a, .int .i64 x3.b])] [o2] hS5 ?_ ?_ trivial (fun w8 hS6 => ?_)
   ·exact ⟨fun _ _ => WL.move rfl <| WL.nu rfl, fun _ _ => WL.move rfl <| WL.nu rfl, fun _ _ => WL.move rfl <| WL.nu rfl, fun _ _ => WL.indexAddrP k1 ep1 ul67 ti61 rfl rfl rfl rfl <| WL.nu rfl, fun _ _ => WL.move rfl <| WL.nu rfl, fun _ _ => WL.move rfl <| WL.nu rfl, fun _ _ => WL.indexAddrP k2 ep2 ul111 ti46 rfl rfl rfl rfl <| WL.nu rfl, fun _ _ => WL.build _ [(0, [v4]), (1, [.int .i64 x3.a, .int .i64 x3.b])] [v4, .int .i64 x3.a, .int .i64 x3.b] ti63 rfl fl63 rfl rfl (by show [(0, (v4 : Value).cells.toList), (1, (.agg #[.int .i64 x3.a, .int .i64 x3.b] : Value).cells.toList)] = _; simp only [hs2.cells1] <;> rfl) rfl <| WL.nu rfl, trivial⟩
   ·exact ⟨fun _ hSw => WL.loadG1 hSw hc2 ti61 rfl rfl rfl <| WL.nu rfl, fun _ hSw => WL.loadGAt hSw hc3 [.int .i64 x3.a, .int .i64 x3.b] ti46 rfl rfl rfl rfl rfl <| WL.nu rfl, trivial⟩
   refine TL.step rfl ?_
   refine WL.buildSlice _ [(0, [v4, .int .i64 x3.a, .int .i64 x3.b])] [v4, .int .i64 x3.a, .int .i64 x3.b] hS6 sl22 rfl rfl rfl rfl (fun z hz => by match z, hz with | [z0, z1, z2], _ => rfl) (fun b1 w6 hn1 hS7 => ?_)
   refine WL.nil ⟨fun h => absurd h (by decide), ?_⟩
   refine TL.step rfl ?_
   refine WL.push (m := ([(Fact.mk x1 x3)] : List Fact)) sl22 rfl rfl rfl hr3 hS7 1 rfl 0 _ _ _ _ _ rfl ⟨[v4, .int .i64 x3.a, .int .i64 x3.b], _, rfl, (FactE_mk (Fact.mk x1 x3) hs2 hb1 hb2), rfl⟩ rfl (by have hreach : reach = 140737488355328 := rfl; simp only [List.length_append, List.length_cons, List.length_nil] at *; omega) (by have hreach : reach = 140737488355328 := rfl; simp only [List.length_append, List.length_cons, List.length_nil] at *; omega) rfl rfl rfl (fun v5 o3 w7 hr6 hS8 => ?_)
   have hS9 := hS8.tail
   refine WL.nil ⟨fun h => absurd h (by decide), ?_⟩
   refine TL.step rfl ?_
   refine WL.assign rfl ?_
   refine WL.nil ⟨fun h => absurd h (by decide), ?_⟩
   refine WC.region rfl <| WL.move rfl ?_
   refine WL.incr k2 (by have hreach : reach = 140737488355328 := rfl; omega) rfl rfl rfl ?_
   refine WL.assign rfl <| WL.nil ?_
   exact ⟨_, ⟨k2 + 1, v5, o3, G4, rfl, hle4, hS9, (Row.cast hr6 (by (rw [mapF_take (by assumption), List.append_assoc]))), rfl, rfl, rfl, rfl, rfl, rfl, (by omega)⟩, (show (canon (timesOf l x1)).length - (k2 + 1) < (canon (timesOf l x1)).length - k2 by omega)⟩
  refine WL.nil <| WC.condF rfl <| WC.exit <| WC.region rfl <| WL.move rfl ?_
  refine WL.incr k1 (by have hreach : reach = 140737488355328 := rfl; omega) rfl rfl rfl ?_
  refine WL.assign rfl <| WL.nil ?_
  exact ⟨_, ⟨k1 + 1, v3, o2, G4, rfl, (hle2.trans (hle3.trans hle4)), hS5, (Row.cast hr3 (by (rw [rnfN_take (by assumption), List.take_of_length_le (l := canon _) (by omega)]))), rfl, rfl, rfl, rfl, (by omega)⟩, (show (vals l).length - (k1 + 1) < (vals l).length - k1 by omega)⟩
 refine WL.nil <| WC.condF rfl <| WC.exit <| WC.seq <| WC.region rfl <| WL.move rfl <| WL.assign rfl <| WL.nil <| WC.ret ?_
 obtain ⟨G5, hle5, hs3, hS10⟩ := Row.freeze hr1 hS2 0 rfl
 exact ⟨_, rfl, _, _, rfl, hS10.res, (Sl.cast hs3 (by exact rnfN_all (by omega)))⟩
end Go.Civ
