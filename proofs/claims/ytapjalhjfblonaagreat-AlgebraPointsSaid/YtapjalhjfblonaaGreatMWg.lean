/- Walks, printed by specs38.py. -/
import Derived.Test.YtapjalhjfblonaaGreatProg
import Derived.KernelRfl
import Derived.WalkKit
import Derived.Test.YtapjalhjfblonaaGreatMWn
import Derived.Test.YtapjalhjfblonaaGreatMSq
import Derived.Test.YtapjalhjfblonaaGreatMCiv16
set_option linter.unusedVariables false
set_option linter.unusedSimpArgs false
set_option maxRecDepth 100000
set_option maxHeartbeats 4000000
namespace Go.Civ
open Go.Proofs


theorem c_merged {G : GH} {w : World} (hG : G.In w) (l : List Span) (vl : Value) (hvl : Sl SpanE 16 G vl l) (hB : ∀ s ∈ l, spanB s = true) : CL Tryz.prog (nat_lit 141) #[vl] [] w G fun G' _ r => Sl SpanE 16 G' r (canon l) := by
  refine calls_of_go ft [] Tryz.func141 rfl rfl ?_
  have hS := St.start (X := []) hG
  refine WL.cR hb169 rfl rfl rfl (c_CloneS hS.imm l _ hvl ) (fun w1 G1 r1 hres1 hpost1 => ?_)
  have hS1 := hS.call hres1
  have hle1 := hres1.le
  obtain ⟨o1, hr1, hf1⟩ := hpost1
  have hS2 := hS.adoptO hres1 hf1
  refine WL.cR hb170 rfl rfl rfl (c_SortS hS2.imm l _ _ hr1 (hS2.lentAt 0 rfl) (fun s hs => spanB_from (hB s hs))) (fun w2 G2 r2 hres2 hpost2 => ?_)
  have hle2 := hres2.le
  obtain ⟨rfl, l1, o2, hr2, hf2, hq1⟩ := hpost2
  have hS4 := hS2.callRow 0 rfl hres2 hr1 hr2 hf2
  have bd1 := hr2.bound
  refine WL.lenRow hr2 ul111 rfl rfl ?_
  have hS6 := hS4.pad
  refine LP.go ft [] (fun m ρ1 w1 => ∃ (k1 : Nat), ∃ (v1 : Value) (o3 : OB), ∃ (G3 : GH), m = l1.length - k1 ∧ G2.le G3 ∧ St w [] G G3 [o3, o2] w1 ∧ Row SpanE 16 46 G3 v1 (mergeS (l1.take k1)) o3 ∧ FR ρ1 [(4, v1), (12, r1), (13, .int .i64 (l1.length : Int)), (14, .int .i64 (k1 : Int))] ∧ k1 ≤ l1.length) _ ⟨0, (.slice none 0 0), none, G2, rfl, (G2.le_refl), hS6, (Row.nil SpanE 16 46 G2), ⟨rfl, rfl, rfl, rfl, trivial⟩, (by omega)⟩ ?_
  rintro m ρ1 w3 ⟨k1, v1, o3, G3, rfl, hle3, hS5, hr3, hF9, f1⟩
  refine hF9.set ?_
  clear hF9
  have len1 := mergeS_len (l1.take k1)
  have lent := List.length_take_le k1 l1
  have lenp := hq1.1.length_eq
  refine WL.lssS (k1 : Int) (l1.length : Int) rfl rfl rfl (fun h1 => ?_) (fun h1 => ?_)
  · refine WL.indexAddrRow (hr2.mono hle3) k1 (by omega) ul111 ti46 rfl rfl rfl rfl (fun p1 x1 ec1 hx1 hr4 ra1 => ?_)
    obtain ⟨rfl, hb1, hb2⟩ := SpanE_open hr4
    refine WL.loadRA ra1 hS5 1 rfl ti46 rfl rfl rfl rfl ?_
    refine WL.alloc hS5 ti46 rfl rfl (fun b1 w4 hn1 hS7 => ?_)
    refine WL.store hS7 0 _ _ _ 0 _ [.int .i64 x1.a, .int .i64 x1.b] [.int .i64 x1.a, .int .i64 x1.b] _ rfl rfl ti46 rfl (Nat.le_of_ble_eq_true rfl) rfl rfl rfl rfl rfl rfl (fun w5 hS8 => ?_)
    obtain ⟨G4, hle4, hc1, hS9⟩ := hS8.shutB hn1
    have bd2 := hr3.bound
    refine WL.lenRow (hr3.mono hle4) ul111 rfl rfl ?_
    rcases Cmp.dec .gtr (((mergeS (l1.take k1)).length : Nat) : Int) 0 with ⟨hb3, q1⟩ | ⟨hb3, q1⟩
    · have h2 : 0 < (((mergeS (l1.take k1)).length : Nat) : Int) := q1
      clear q1
      obtain ⟨p2, x2, ec2, hx2, hr5, ra2, ep1⟩ := Row.atP (hr3.mono hle4) ((mergeS (l1.take k1)).length - 1) (by omega)
      obtain ⟨rfl, hb4, hb5⟩ := SpanE_open hr5
      rcases Cmp.dec .geq x2.b x1.a with ⟨hb6, q2⟩ | ⟨hb6, q2⟩
      · have h3 : x1.a ≤ x2.b := q2
        clear q2
        refine dr [] [(21, .bool true), (25, .int .i64 (((mergeS (l1.take k1)).length - 1 : Nat) : Int)), (26, .pointer (some p2)), (28, .int .i64 x2.b), (30, .int .i64 x1.a), (31, .bool true)] hS9 ⟨fun _ => WL.cmpV .gtr rfl .i64 (((mergeS (l1.take k1)).length : Nat) : Int) 0 _ hb3 rfl rfl rfl <| nu rfl rfl, fun _ => WL.decr ((mergeS (l1.take k1)).length) (by omega) (by have hreach : reach = 140737488355328 := rfl; omega) rfl rfl rfl <| nu rfl rfl, fun _ => WL.indexAddrP ((mergeS (l1.take k1)).length - 1) ep1 ul111 ti46 rfl rfl rfl rfl <| nu rfl rfl, fun _ hSw => WL.loadR1 ra2 hSw 0 rfl 1 _ rfl ti3 rfl rfl rfl <| nu rfl rfl, fun _ hSw => WL.loadG1 hSw (Cells.drop 0 hc1) ti3 rfl rfl rfl <| nu rfl rfl, fun _ => WL.cmpV .geq rfl .i64 x2.b x1.a _ hb6 rfl rfl rfl <| nu rfl rfl, trivial⟩ (fun w6 hS10 => ?_)
        obtain ⟨p3, x3, ec3, hx3, hr6, ra3, ep2⟩ := Row.atP (hr3.mono hle4) ((mergeS (l1.take k1)).length - 1) (by omega)
        obtain rfl : x2 = x3 := Option.some.inj (hx2.symm.trans hx3)
        obtain ⟨rfl, hb7, hb8⟩ := SpanE_open hr6
        obtain ⟨p4, x4, ec4, hx4, hr7, ra4, ep3⟩ := Row.atP (hr3.mono hle4) ((mergeS (l1.take k1)).length - 1) (by omega)
        obtain rfl : x2 = x4 := Option.some.inj (hx2.symm.trans hx4)
        obtain ⟨rfl, hb9, hb10⟩ := SpanE_open hr7
        refine dr [(14, false)] [(35, .int .i64 (((mergeS (l1.take k1)).length - 1 : Nat) : Int)), (38, .int .i64 (((mergeS (l1.take k1)).length - 1 : Nat) : Int)), (39, .pointer (some p3)), (41, .int .i64 x2.b), (43, .int .i64 x1.b), (44, .int .i64 (max x2.b x1.b)), (45, .pointer (some p4))] hS10 ⟨fun _ => WL.decr ((mergeS (l1.take k1)).length) (by omega) (by have hreach : reach = 140737488355328 := rfl; omega) rfl rfl rfl <| nu rfl rfl, fun _ => WL.decr ((mergeS (l1.take k1)).length) (by omega) (by have hreach : reach = 140737488355328 := rfl; omega) rfl rfl rfl <| nu rfl rfl, fun _ => WL.indexAddrP ((mergeS (l1.take k1)).length - 1) ep2 ul111 ti46 rfl rfl rfl rfl <| nu rfl rfl, fun _ hSw => WL.loadR1 ra3 hSw 0 rfl 1 _ rfl ti3 rfl rfl rfl <| nu rfl rfl, fun _ hSw => WL.loadG1 hSw (Cells.drop 1 hc1) ti3 rfl rfl rfl <| nu rfl rfl, fun _ => WL.maxI x2.b x1.b rfl rfl rfl <| nu rfl rfl, fun _ => WL.indexAddrP ((mergeS (l1.take k1)).length - 1) ep3 ul111 ti46 rfl rfl rfl rfl <| nu rfl rfl, trivial⟩ (fun w7 hS11 => ?_)
        refine WL.storeR (hr3.mono hle4) ra4 hS11 0 rfl (by omega) rfl 1 _ [.int .i64 (max x2.b x1.b)] (Span.mk x2.a (max x2.b x1.b)) [.int .i64 x2.a, .int .i64 (max x2.b x1.b)] rfl ti3 rfl (Nat.le_of_ble_eq_true rfl) rfl rfl (SpanE_mk (Span.mk x2.a (max x2.b x1.b)) hb9 (I64_max hb8 hb2)) rfl rfl rfl (fun o4 w8 hr8 hS12 => ?_)
        refine WL.incr k1 (by have hreach : reach = 140737488355328 := rfl; omega) rfl rfl rfl ?_
        exact BK.mk' _ ⟨k1 + 1, v1, o4, G4, rfl, (hle3.trans hle4), hS12, (Row.cast hr8 (by (rw [mergeS_take (by assumption)]; exact (mstep_join (by assumption) (by omega)).symm))), ⟨rfl, rfl, rfl, rfl, trivial⟩, (by omega)⟩ (show l1.length - (k1 + 1) < l1.length - k1 by omega)
      have h3 : x2.b < x1.a := q2
      clear q2
      refine dr [] [(21, .bool true), (25, .int .i64 (((mergeS (l1.take k1)).length - 1 : Nat) : Int)), (26, .pointer (some p2)), (28, .int .i64 x2.b), (30, .int .i64 x1.a), (31, .bool false)] hS9 ⟨fun _ => WL.cmpV .gtr rfl .i64 (((mergeS (l1.take k1)).length : Nat) : Int) 0 _ hb3 rfl rfl rfl <| nu rfl rfl, fun _ => WL.decr ((mergeS (l1.take k1)).length) (by omega) (by have hreach : reach = 140737488355328 := rfl; omega) rfl rfl rfl <| nu rfl rfl, fun _ => WL.indexAddrP ((mergeS (l1.take k1)).length - 1) ep1 ul111 ti46 rfl rfl rfl rfl <| nu rfl rfl, fun _ hSw => WL.loadR1 ra2 hSw 0 rfl 1 _ rfl ti3 rfl rfl rfl <| nu rfl rfl, fun _ hSw => WL.loadG1 hSw (Cells.drop 0 hc1) ti3 rfl rfl rfl <| nu rfl rfl, fun _ => WL.cmpV .geq rfl .i64 x2.b x1.a _ hb6 rfl rfl rfl <| nu rfl rfl, trivial⟩ (fun w9 hS13 => ?_)
      refine WL.loadGAt hS13 hc1 [.int .i64 x1.a, .int .i64 x1.b] ti46 rfl rfl rfl rfl rfl ?_
      refine WL.buildSlice _ [(0, [.int .i64 x1.a, .int .i64 x1.b])] [.int .i64 x1.a, .int .i64 x1.b] hS13 sl111 rfl rfl rfl rfl (fun z hz => by match z, hz with | [z0, z1], _ => rfl) (fun b2 w10 hn2 hS14 => ?_)
      refine WL.push (m := ([x1] : List Span)) sl111 rfl rfl rfl (hr3.mono hle4) hS14 1 rfl 0 _ _ _ _ _ rfl ⟨[.int .i64 x1.a, .int .i64 x1.b], _, rfl, (SpanE_mk x1 hb1 hb2), rfl⟩ rfl (by have hreach : reach = 140737488355328 := rfl; have := hvl.bytes; simp only [List.length_cons, List.length_nil]; omega) (by have hreach : reach = 140737488355328 := rfl; have := hvl.bytes; simp only [List.length_cons, List.length_nil]; omega) rfl rfl rfl (fun v2 o5 w11 hr9 hS15 => ?_)
      have hS16 := hS15.tail
      refine WL.incr k1 (by have hreach : reach = 140737488355328 := rfl; omega) rfl rfl rfl ?_
      exact BK.mk' _ ⟨k1 + 1, v2, o5, G4, rfl, (hle3.trans hle4), hS16, (Row.cast hr9 (by (rw [mergeS_take (by assumption)]; exact (mstep_push' (by assumption) (by omega)).symm))), ⟨rfl, rfl, rfl, rfl, trivial⟩, (by omega)⟩ (show l1.length - (k1 + 1) < l1.length - k1 by omega)
    have h2 : (((mergeS (l1.take k1)).length : Nat) : Int) ≤ 0 := q1
    clear q1
    refine dr [] [(21, .bool false)] hS9 ⟨fun _ => WL.cmpV .gtr rfl .i64 (((mergeS (l1.take k1)).length : Nat) : Int) 0 _ hb3 rfl rfl rfl <| nu rfl rfl, trivial⟩ (fun w12 hS17 => ?_)
    refine WL.loadGAt hS17 hc1 [.int .i64 x1.a, .int .i64 x1.b] ti46 rfl rfl rfl rfl rfl ?_
    refine WL.buildSlice _ [(0, [.int .i64 x1.a, .int .i64 x1.b])] [.int .i64 x1.a, .int .i64 x1.b] hS17 sl111 rfl rfl rfl rfl (fun z hz => by match z, hz with | [z0, z1], _ => rfl) (fun b3 w13 hn3 hS18 => ?_)
    refine WL.push (m := ([x1] : List Span)) sl111 rfl rfl rfl (hr3.mono hle4) hS18 1 rfl 0 _ _ _ _ _ rfl ⟨[.int .i64 x1.a, .int .i64 x1.b], _, rfl, (SpanE_mk x1 hb1 hb2), rfl⟩ rfl (by have hreach : reach = 140737488355328 := rfl; have := hvl.bytes; simp only [List.length_cons, List.length_nil]; omega) (by have hreach : reach = 140737488355328 := rfl; have := hvl.bytes; simp only [List.length_cons, List.length_nil]; omega) rfl rfl rfl (fun v3 o6 w14 hr10 hS19 => ?_)
    have hS20 := hS19.tail
    refine WL.incr k1 (by have hreach : reach = 140737488355328 := rfl; omega) rfl rfl rfl ?_
    exact BK.mk' _ ⟨k1 + 1, v3, o6, G4, rfl, (hle3.trans hle4), hS20, (Row.cast hr10 (by (rw [mergeS_take (by assumption)]; exact (mstep_push (by omega)).symm))), ⟨rfl, rfl, rfl, rfl, trivial⟩, (by omega)⟩ (show l1.length - (k1 + 1) < l1.length - k1 by omega)
  obtain ⟨G5, hle5, hs1, hS21⟩ := Row.freeze hr3 hS5 0 rfl
  exact RT hS21 rfl (Sl.cast hs1 (by exact merged_ret (by assumption) hB (by omega)))
end Go.Civ
