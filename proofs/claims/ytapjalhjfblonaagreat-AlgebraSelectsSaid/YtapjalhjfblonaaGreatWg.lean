/- Walks, printed by specs38.py. -/
import Derived.Test.YtapjalhjfblonaaGreatProg
import Derived.KernelRfl
import Derived.WalkKit
import Derived.Test.YtapjalhjfblonaaGreatWn
import Derived.Test.YtapjalhjfblonaaGreatSq
import Derived.Test.YtapjalhjfblonaaGreatCiv16
set_option linter.unusedVariables false
set_option linter.unusedSimpArgs false
set_option maxRecDepth 100000
set_option maxHeartbeats 4000000
namespace Go.Civ
open Go.Proofs


theorem c_merged (G : GH) (w : World) (hG : G.In w) (l : List Span) (vl : Value) (hvl : Sl SpanE 16 G vl l) (hB : ∀ s ∈ l, spanB s = true) : Calls Tryz.prog (nat_lit 141) #[vl] w fun e w' => ∃ r G', e = .returned r ∧ Res [] w G w' G' ∧ Sl SpanE 16 G' r (canon l) := by
 refine calls_of_WC (N := 53) Tryz.func141 rfl rfl rfl ?_
 have hS := St.start (X := []) hG
 refine WC.seq <| WC.region rfl <| WL.assign rfl <| WL.nil <| WC.seq <| WC.region rfl <| WL.move rfl ?_
 refine WL.callF [vl] #[] hb169 rfl rfl rfl ((c_CloneS _ _ hS.imm l _ hvl ).mono ?_)
 rintro e w1 ⟨r1, G1, rfl, hres1, hpost1⟩
 refine ⟨_, rfl, ?_⟩
 have hS1 := hS.call hres1
 have hle1 := hres1.le
 obtain ⟨o1, hr1, hf1⟩ := hpost1
 have hS2 := hS.adoptO hres1 hf1
 refine WL.assign rfl <| WL.nil <| WC.seq <| WC.region rfl <| WL.move rfl ?_
 refine WL.callF [r1, .func (.func 171) #[] #[]] #[] hb170 rfl rfl rfl ((c_SortS _ _ hS2.imm l _ _ hr1 (hS2.lentAt 0 rfl) (fun s hs => spanB_from (hB s hs))).mono ?_)
 rintro e w2 ⟨r2, G2, rfl, hres2, hpost2⟩
 refine ⟨_, rfl, ?_⟩
 have hle2 := hres2.le
 obtain ⟨rfl, l1, o2, hr2, hf2, hq1⟩ := hpost2
 have hS4 := hS2.callRow 0 rfl hres2 hr1 hr2 hf2
 refine WL.nil <| WC.seq <| WC.region rfl <| WL.assign rfl <| WL.nil <| WC.seq <| WC.seq <| WC.region rfl <| WL.move rfl ?_
 have bd1 := hr2.bound
 refine WL.lenRow hr2 ul111 rfl rfl <| WL.move rfl <| WL.nil <| WC.block ?_
 have hS6 := hS4.pad
 refine WC.loop (γ := Nat) (fun m ρ1 w1 => ∃ (k1 : Nat), ∃ (v1 : Value) (o3 : OB), ∃ (G3 : GH), m = l1.length - k1 ∧ G2.le G3 ∧ St w [] G G3 [o3, o2] w1 ∧ Row SpanE 16 46 G3 v1 (mergeS (l1.take k1)) o3 ∧ ρ1 4 = v1 ∧ ρ1 12 = r1 ∧ ρ1 13 = .int .i64 (l1.length : Int) ∧ ρ1 14 = .int .i64 (k1 : Int) ∧ k1 ≤ l1.length) (fun m => m) _ ⟨0, (.slice none 0 0), none, G2, rfl, (G2.le_refl), hS6, (Row.nil SpanE 16 46 G2), rfl, rfl, rfl, rfl, (by omega)⟩ ?_
 rintro m ρ1 w3 ⟨k1, v1, o3, G3, rfl, hle3, hS5, hr3, e1, e2, e3, e4, f1⟩
 refine WC.set (d := 4) e1 <| WC.set (d := 12) e2 <| WC.set (d := 13) e3 <| WC.set (d := 14) e4 ?_
 have len1 := mergeS_len (l1.take k1)
 have lent := List.length_take_le k1 l1
 have lenp := hq1.1.length_eq
 refine WC.seq <| WC.region rfl ?_
 refine WL.lssS (k1 : Int) (l1.length : Int) rfl rfl rfl (fun h1 => ?_) (fun h1 => ?_)
 ·refine WL.nil <| WC.seq <| WC.condT rfl <| WC.skip <| WC.seq <| WC.block <| WC.seq <| WC.region rfl ?_
  refine WL.indexAddrRow (hr2.mono hle3) k1 (by omega) ul111 ti46 rfl rfl rfl rfl (fun p1 x1 ec1 hx1 hr4 ra1 => ?_)
  obtain ⟨rfl, hb1, hb2⟩ := SpanE_open hr4
  refine WL.loadRA ra1 hS5 1 rfl ti46 rfl rfl rfl rfl ?_
  refine WL.alloc hS5 ti46 rfl rfl (fun b1 w4 hn1 hS7 => ?_)
  refine WL.store hS7 0 _ _ _ 0 _ [.int .i64 x1.a, .int .i64 x1.b] [.int .i64 x1.a, .int .i64 x1.b] _ rfl rfl ti46 rfl (Nat.le_of_ble_eq_true rfl) rfl rfl rfl rfl rfl rfl (fun w5 hS8 => ?_)
  obtain ⟨G4, hle4, hc1, hS9⟩ := hS8.shutB hn1
  refine WL.nil <| WC.seq <| WC.seq <| WC.region rfl <| WL.move rfl ?_
  have bd2 := hr3.bound
  refine WL.lenRow (hr3.mono hle4) ul111 rfl rfl <| WL.assign rfl <| WL.nil <| WC.seq ?_
  rcases Cmp.dec .gtr (((mergeS (l1.take k1)).length : Nat) : Int) 0 with ⟨hb3, q1⟩ | ⟨hb3, q1⟩
  ·have h2 : 0 < (((mergeS (l1.take k1)).length : Nat) : Int) := q1
   clear q1
   obtain ⟨p2, x2, ec2, hx2, hr5, ra2, ep1⟩ := Row.atP (hr3.mono hle4) ((mergeS (l1.take k1)).length - 1) (by omega)
   obtain ⟨rfl, hb4, hb5⟩ := SpanE_open hr5
   rcases Cmp.dec .geq x2.b x1.a with ⟨hb6, q2⟩ | ⟨hb6, q2⟩
   ·have h3 : x1.a ≤ x2.b := q2
    clear q2
    refine dr ⟨[0, 1, 3, 7, 7, 23, 63, 127, 255, 7, 519, 2047, 4095], [0, 1, 2, 3, 4, 5, 6, 7, 9, 11, 12], [8, 10], [], []⟩ [(20, .int .i64 (((mergeS (l1.take k1)).length : Nat) : Int)), (21, .bool true), (22, .bool true), (23, v1), (24, .int .i64 (((mergeS (l1.take k1)).length : Nat) : Int)), (25, .int .i64 (((mergeS (l1.take k1)).length - 1 : Nat) : Int)), (26, .pointer (some p2)), (27, .pointer (some (p2.add 1))), (29, .pointer (some ((⟨b1, 0, none⟩ : Addr).add 0))), (31, .bool true), (32, .bool true), (28, .int .i64 x2.b), (30, .int .i64 x1.a)] [o3, o2] hS9 ?_ ?_ trivial (fun w8 hS10 => ?_)
    ·exact ⟨fun _ _ => WL.move rfl <| WL.nu rfl, fun _ _ => WL.cmpV .gtr rfl .i64 (((mergeS (l1.take k1)).length : Nat) : Int) 0 _ hb3 rfl rfl rfl <| WL.nu rfl, fun _ _ => WL.move rfl <| WL.nu rfl, fun _ _ => WL.move rfl <| WL.nu rfl, fun _ _ => WL.move rfl <| WL.nu rfl, fun _ _ => WL.decr ((mergeS (l1.take k1)).length) (by omega) (by have hreach : reach = 140737488355328 := rfl; omega) rfl rfl rfl <| WL.nu rfl, fun _ _ => WL.indexAddrP ((mergeS (l1.take k1)).length - 1) ep1 ul111 ti46 rfl rfl rfl rfl <| WL.nu rfl, fun _ _ => WL.fieldAddr _ 1 _ fl46 rfl rfl rfl <| WL.nu rfl, fun _ _ => WL.fieldAddr _ 0 _ fl46 rfl rfl rfl <| WL.nu rfl, fun _ _ => WL.cmpV .geq rfl .i64 x2.b x1.a _ hb6 rfl rfl rfl <| WL.nu rfl, fun _ _ => WL.pickT rfl rfl <| WL.nu rfl, trivial⟩
    ·exact ⟨fun _ hSw => WL.loadR1 ra2 hSw 0 rfl 1 _ rfl ti3 rfl rfl rfl <| WL.nu rfl, fun _ hSw => WL.loadG1 hSw (Cells.drop 0 hc1) ti3 rfl rfl rfl <| WL.nu rfl, trivial⟩
    refine WC.condT rfl <| WC.seq ?_
    obtain ⟨p3, x3, ec3, hx3, hr6, ra3, ep2⟩ := Row.atP (hr3.mono hle4) ((mergeS (l1.take k1)).length - 1) (by omega)
    obtain rfl : x2 = x3 := Option.some.inj (hx2.symm.trans hx3)
    obtain ⟨rfl, hb7, hb8⟩ := SpanE_open hr6
    obtain ⟨p4, x4, ec4, hx4, hr7, ra4, ep3⟩ := Row.atP (hr3.mono hle4) ((mergeS (l1.take k1)).length - 1) (by omega)
    obtain rfl : x2 = x4 := Option.some.inj (hx2.symm.trans hx4)
    obtain ⟨rfl, hb9, hb10⟩ := SpanE_open hr7
    refine dr ⟨[0, 0, 2, 0, 0, 16, 56, 120, 248, 0, 512, 2040, 4095, 8191, 16383], [0, 1, 2, 3, 4, 5, 6, 7, 9, 11, 12, 13], [8, 10], [], [14]⟩ [(33, v1), (34, .int .i64 (((mergeS (l1.take k1)).length : Nat) : Int)), (35, .int .i64 (((mergeS (l1.take k1)).length - 1 : Nat) : Int)), (36, v1), (37, .int .i64 (((mergeS (l1.take k1)).length : Nat) : Int)), (38, .int .i64 (((mergeS (l1.take k1)).length - 1 : Nat) : Int)), (39, .pointer (some p3)), (40, .pointer (some (p3.add 1))), (42, .pointer (some ((⟨b1, 0, none⟩ : Addr).add 1))), (44, .int .i64 (max x2.b x1.b)), (45, .pointer (some p4)), (46, .pointer (some (p4.add 1))), (41, .int .i64 x2.b), (43, .int .i64 x1.b)] [o3, o2] hS10 ?_ ?_ trivial (fun w8 hS11 => ?_)
    ·exact ⟨fun _ _ => WL.move rfl <| WL.nu rfl, fun _ _ => WL.move rfl <| WL.nu rfl, fun _ _ => WL.decr ((mergeS (l1.take k1)).length) (by omega) (by have hreach : reach = 140737488355328 := rfl; omega) rfl rfl rfl <| WL.nu rfl, fun _ _ => WL.move rfl <| WL.nu rfl, fun _ _ => WL.move rfl <| WL.nu rfl, fun _ _ => WL.decr ((mergeS (l1.take k1)).length) (by omega) (by have hreach : reach = 140737488355328 := rfl; omega) rfl rfl rfl <| WL.nu rfl, fun _ _ => WL.indexAddrP ((mergeS (l1.take k1)).length - 1) ep2 ul111 ti46 rfl rfl rfl rfl <| WL.nu rfl, fun _ _ => WL.fieldAddr _ 1 _ fl46 rfl rfl rfl <| WL.nu rfl, fun _ _ => WL.fieldAddr _ 1 _ fl46 rfl rfl rfl <| WL.nu rfl, fun _ _ => WL.maxI x2.b x1.b rfl rfl rfl <| WL.nu rfl, fun _ _ => WL.indexAddrP ((mergeS (l1.take k1)).length - 1) ep3 ul111 ti46 rfl rfl rfl rfl <| WL.nu rfl, fun _ _ => WL.fieldAddr _ 1 _ fl46 rfl rfl rfl <| WL.nu rfl, trivial⟩
    ·exact ⟨fun _ hSw => WL.loadR1 ra3 hSw 0 rfl 1 _ rfl ti3 rfl rfl rfl <| WL.nu rfl, fun _ hSw => WL.loadG1 hSw (Cells.drop 1 hc1) ti3 rfl rfl rfl <| WL.nu rfl, trivial⟩
    refine TL.step rfl ?_
    refine WL.storeR (hr3.mono hle4) ra4 hS11 0 rfl (by omega) rfl 1 _ [.int .i64 (max x2.b x1.b)] (Span.mk x2.a (max x2.b x1.b)) [.int .i64 x2.a, .int .i64 (max x2.b x1.b)] rfl ti3 rfl (Nat.le_of_ble_eq_true rfl) rfl rfl (SpanE_mk (Span.mk x2.a (max x2.b x1.b)) hb9 (I64_max hb8 hb2)) rfl rfl rfl (fun o4 w8 hr8 hS12 => ?_)
    refine WL.nil ⟨fun h => absurd h (by decide), ?_⟩
    refine WC.exit <| WC.region rfl ?_
    refine WL.incr k1 (by have hreach : reach = 140737488355328 := rfl; omega) rfl rfl rfl ?_
    refine WL.move rfl <| WL.nil ?_
    exact ⟨_, ⟨k1 + 1, v1, o4, G4, rfl, (hle3.trans hle4), hS12, (Row.cast hr8 (by (rw [mergeS_take (by assumption)]; exact (mstep_join (by assumption) (by omega)).symm))), rfl, rfl, rfl, rfl, (by omega)⟩, (show l1.length - (k1 + 1) < l1.length - k1 by omega)⟩
   have h3 : x2.b < x1.a := q2
   clear q2
   refine dr ⟨[0, 1, 3, 7, 7, 23, 63, 127, 255, 7, 519, 2047, 4095], [0, 1, 2, 3, 4, 5, 6, 7, 9, 11, 12], [8, 10], [], []⟩ [(20, .int .i64 (((mergeS (l1.take k1)).length : Nat) : Int)), (21, .bool true), (22, .bool true), (23, v1), (24, .int .i64 (((mergeS (l1.take k1)).length : Nat) : Int)), (25, .int .i64 (((mergeS (l1.take k1)).length - 1 : Nat) : Int)), (26, .pointer (some p2)), (27, .pointer (some (p2.add 1))), (29, .pointer (some ((⟨b1, 0, none⟩ : Addr).add 0))), (31, .bool false), (32, .bool false), (28, .int .i64 x2.b), (30, .int .i64 x1.a)] [o3, o2] hS9 ?_ ?_ trivial (fun w8 hS13 => ?_)
   ·exact ⟨fun _ _ => WL.move rfl <| WL.nu rfl, fun _ _ => WL.cmpV .gtr rfl .i64 (((mergeS (l1.take k1)).length : Nat) : Int) 0 _ hb3 rfl rfl rfl <| WL.nu rfl, fun _ _ => WL.move rfl <| WL.nu rfl, fun _ _ => WL.move rfl <| WL.nu rfl, fun _ _ => WL.move rfl <| WL.nu rfl, fun _ _ => WL.decr ((mergeS (l1.take k1)).length) (by omega) (by have hreach : reach = 140737488355328 := rfl; omega) rfl rfl rfl <| WL.nu rfl, fun _ _ => WL.indexAddrP ((mergeS (l1.take k1)).length - 1) ep1 ul111 ti46 rfl rfl rfl rfl <| WL.nu rfl, fun _ _ => WL.fieldAddr _ 1 _ fl46 rfl rfl rfl <| WL.nu rfl, fun _ _ => WL.fieldAddr _ 0 _ fl46 rfl rfl rfl <| WL.nu rfl, fun _ _ => WL.cmpV .geq rfl .i64 x2.b x1.a _ hb6 rfl rfl rfl <| WL.nu rfl, fun _ _ => WL.pickT rfl rfl <| WL.nu rfl, trivial⟩
   ·exact ⟨fun _ hSw => WL.loadR1 ra2 hSw 0 rfl 1 _ rfl ti3 rfl rfl rfl <| WL.nu rfl, fun _ hSw => WL.loadG1 hSw (Cells.drop 0 hc1) ti3 rfl rfl rfl <| WL.nu rfl, trivial⟩
   refine WC.condF rfl <| WC.skip <| WC.region rfl <| WL.move rfl <| WL.loadGAt hS13 hc1 [.int .i64 x1.a, .int .i64 x1.b] ti46 rfl rfl rfl rfl rfl ?_
   refine WL.buildSlice _ [(0, [.int .i64 x1.a, .int .i64 x1.b])] [.int .i64 x1.a, .int .i64 x1.b] hS13 sl111 rfl rfl rfl rfl (fun z hz => by match z, hz with | [z0, z1], _ => rfl) (fun b2 w10 hn2 hS14 => ?_)
   refine WL.push (m := ([x1] : List Span)) sl111 rfl rfl rfl (hr3.mono hle4) hS14 1 rfl 0 _ _ _ _ _ rfl ⟨[.int .i64 x1.a, .int .i64 x1.b], _, rfl, (SpanE_mk x1 hb1 hb2), rfl⟩ rfl (by have hreach : reach = 140737488355328 := rfl; have := hvl.bytes; simp only [List.length_cons, List.length_nil]; omega) (by have hreach : reach = 140737488355328 := rfl; have := hvl.bytes; simp only [List.length_cons, List.length_nil]; omega) rfl rfl rfl (fun v2 o5 w11 hr9 hS15 => ?_)
   have hS16 := hS15.tail
   refine WL.assign rfl <| WL.nil <| WC.region rfl ?_
   refine WL.incr k1 (by have hreach : reach = 140737488355328 := rfl; omega) rfl rfl rfl ?_
   refine WL.move rfl <| WL.nil ?_
   exact ⟨_, ⟨k1 + 1, v2, o5, G4, rfl, (hle3.trans hle4), hS16, (Row.cast hr9 (by (rw [mergeS_take (by assumption)]; exact (mstep_push' (by assumption) (by omega)).symm))), rfl, rfl, rfl, rfl, (by omega)⟩, (show l1.length - (k1 + 1) < l1.length - k1 by omega)⟩
  have h2 : (((mergeS (l1.take k1)).length : Nat) : Int) ≤ 0 := q1
  clear q1
  refine dr ⟨[0, 1, 3, 7, 7, 23, 63, 127, 255, 7, 519, 2047, 4095], [0, 1, 2, 3, 4, 5, 6, 7, 9, 11, 12], [8, 10], [], []⟩ [(20, .int .i64 (((mergeS (l1.take k1)).length : Nat) : Int)), (21, .bool false), (22, .bool false), (23, undef), (24, undef), (25, undef), (26, undef), (27, undef), (29, undef), (31, undef), (32, .bool false), (28, undef), (30, undef)] [o3, o2] hS9 ?_ ?_ trivial (fun w8 hS17 => ?_)
  ·exact ⟨fun _ _ => WL.move rfl <| WL.nu rfl, fun _ _ => WL.cmpV .gtr rfl .i64 (((mergeS (l1.take k1)).length : Nat) : Int) 0 _ hb3 rfl rfl rfl <| WL.nu rfl, fun _ _ => WL.move rfl <| WL.nu rfl, fun _ _ => WL.no rfl rfl <| WL.nu rfl, fun _ _ => WL.no rfl rfl <| WL.nu rfl, fun _ _ => WL.no rfl rfl <| WL.nu rfl, fun _ _ => WL.no rfl rfl <| WL.nu rfl, fun _ _ => WL.no rfl rfl <| WL.nu rfl, fun _ _ => WL.no rfl rfl <| WL.nu rfl, fun _ _ => WL.no rfl rfl <| WL.nu rfl, fun _ _ => WL.pickF rfl rfl <| WL.nu rfl, trivial⟩
  ·exact ⟨fun _ _ => WL.no rfl rfl <| WL.nu rfl, fun _ _ => WL.no rfl rfl <| WL.nu rfl, trivial⟩
  refine WC.condF rfl <| WC.skip <| WC.region rfl <| WL.move rfl <| WL.loadGAt hS17 hc1 [.int .i64 x1.a, .int .i64 x1.b] ti46 rfl rfl rfl rfl rfl ?_
  refine WL.buildSlice _ [(0, [.int .i64 x1.a, .int .i64 x1.b])] [.int .i64 x1.a, .int .i64 x1.b] hS17 sl111 rfl rfl rfl rfl (fun z hz => by match z, hz with | [z0, z1], _ => rfl) (fun b3 w13 hn3 hS18 => ?_)
  refine WL.push (m := ([x1] : List Span)) sl111 rfl rfl rfl (hr3.mono hle4) hS18 1 rfl 0 _ _ _ _ _ rfl ⟨[.int .i64 x1.a, .int .i64 x1.b], _, rfl, (SpanE_mk x1 hb1 hb2), rfl⟩ rfl (by have hreach : reach = 140737488355328 := rfl; have := hvl.bytes; simp only [List.length_cons, List.length_nil]; omega) (by have hreach : reach = 140737488355328 := rfl; have := hvl.bytes; simp only [List.length_cons, List.length_nil]; omega) rfl rfl rfl (fun v3 o6 w14 hr10 hS19 => ?_)
  have hS20 := hS19.tail
  refine WL.assign rfl <| WL.nil <| WC.region rfl ?_
  refine WL.incr k1 (by have hreach : reach = 140737488355328 := rfl; omega) rfl rfl rfl ?_
  refine WL.move rfl <| WL.nil ?_
  exact ⟨_, ⟨k1 + 1, v3, o6, G4, rfl, (hle3.trans hle4), hS20, (Row.cast hr10 (by (rw [mergeS_take (by assumption)]; exact (mstep_push (by omega)).symm))), rfl, rfl, rfl, rfl, (by omega)⟩, (show l1.length - (k1 + 1) < l1.length - k1 by omega)⟩
 refine WL.nil <| WC.seq <| WC.condF rfl <| WC.exit <| WC.seq <| WC.region rfl <| WL.move rfl <| WL.assign rfl <| WL.nil <| WC.ret ?_
 obtain ⟨G5, hle5, hs1, hS21⟩ := Row.freeze hr3 hS5 0 rfl
 exact ⟨_, rfl, _, _, rfl, hS21.res, (Sl.cast hs1 (by exact merged_ret (by assumption) hB (by omega)))⟩
end Go.Civ
