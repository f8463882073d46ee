/- Walks, printed by specs38.py. -/
import Derived.Test.YtapjalhjfblonaaGreatProg
import Derived.KernelRfl
import Derived.WalkKit
import Derived.Test.YtapjalhjfblonaaGreatMWg
import Derived.Test.YtapjalhjfblonaaGreatMCiv16
set_option linter.unusedVariables false
set_option linter.unusedSimpArgs false
set_option maxRecDepth 100000
set_option maxHeartbeats 4000000
namespace Go.Civ
open Go.Proofs


theorem c_grouped1 {G : GH} {w : World} (hG : G.In w) (x y : Fact) (cx : List Value) (hcx : FactE.rep G x cx) (cy : List Value) (hcy : FactE.rep G y cy)  : CL Tryz.prog (nat_lit 140) #[.agg cx.toArray, .agg cy.toArray] [] w G fun _ _ r => r = .int .i64 (ordV x.v y.v) := by
  refine calls_of_go ft [] Tryz.func140 rfl rfl ?_
  have hS := St.start (X := []) hG
  obtain ⟨v1, rfl, hs1, hb1, hb2⟩ := FactE_open hcx
  obtain ⟨v2, rfl, hs2, hb3, hb4⟩ := FactE_open hcy
  refine WL.boxG [v1, .int .i64 x.t.a, .int .i64 x.t.b] _ hS rfl rfl rfl (fun p1 w1 G1 hle1 hsp1 hc1 hS1 => ?_)
  refine WL.boxG [v2, .int .i64 y.t.a, .int .i64 y.t.b] _ hS1 rfl rfl rfl (fun p2 w2 G2 hle2 hsp2 hc2 hS2 => ?_)
  refine WL.loadG1 hS2 (Cells.drop 0 (hc1.mono hle2)) ti61 rfl rfl rfl ?_
  refine WL.loadG1 hS2 (Cells.drop 0 hc2) ti61 rfl rfl rfl ?_
  refine WL.cV hS2 hb35 rfl rfl rfl (c_Order hS2.imm x.v y.v _ (hs1.mono (hle1.trans hle2)) _ (hs2.mono (hle1.trans hle2)) ) (fun w3 G3 hS3 hle3 => ?_)
  exact RI hS3 rfl (by rfl)

theorem c_grouped {G : GH} {w : World} (hG : G.In w) (l : List Fact) (vl : Value) (hvl : Sl FactE 40 G vl l) (hgood : Good l) (h20 : l.length ≤ 1000000) : CL Tryz.prog (nat_lit 79) #[vl] [] w G fun G' w' r => ∃ o, Row GroupE 48 (nat_lit 117) G' r (grp l) o ∧ Fresh w w' G' o := by
  refine calls_of_go ft [] Tryz.func79 rfl rfl ?_
  have hS := St.start (X := []) hG
  refine WL.cR hb138 rfl rfl rfl (c_CloneF hS.imm l _ hvl ) (fun w1 G1 r1 hres1 hpost1 => ?_)
  have hS1 := hS.call hres1
  have hle1 := hres1.le
  obtain ⟨o1, hr1, hf1⟩ := hpost1
  have hS2 := hS.adoptO hres1 hf1
  refine WL.cR hb139 rfl rfl rfl (c_SortStableF hS2.imm l (fun x8 y8 => ordV x8.v y8.v) _ _ hr1 (hS2.lentAt 0 rfl) 140 #[] ⟨hb140, fun G8 w8 v8 u8 x8 y8 hle8 hG8 hon8 hA8 hB8 => by obtain ⟨cs_x8, rfl, hr_x8⟩ := hA8; obtain ⟨cs_y8, rfl, hr_y8⟩ := hB8; exact c_grouped1 hG8 x8 y8 cs_x8 hr_x8 cs_y8 hr_y8 ⟩ (ordV_A hgood) (ordV_T hgood)) (fun w2 G2 r2 hres2 hpost2 => ?_)
  have hle2 := hres2.le
  obtain ⟨rfl, l1, o2, hr2, hf2, hq1⟩ := hpost2
  have hS4 := hS2.callRow 0 rfl hres2 hr1 hr2 hf2
  have bd1 := hr2.bound
  refine WL.lenRow hr2 ul22 rfl rfl ?_
  have hS6 := hS4.pad
  have hS7 := hS6.pad
  refine LP.go ft [] (fun m ρ1 w1 => ∃ (k1 : Nat), ∃ (L : List (List Val × Value)), ∃ (T : List Span), ∃ (v1 : Value) (o3 : OB), ∃ (v2 : Value) (o4 : OB), ∃ (G3 : GH), m = l1.length - k1 ∧ G2.le G3 ∧ St w [] G G3 [o4, o3, o2] w1 ∧ Row GroupW 48 117 G3 v1 L o3 ∧ Row SpanE 16 46 G3 v2 T o4 ∧ FR ρ1 [(4, v1), (13, r1), (14, .int .i64 (l1.length : Int)), (15, .int .i64 (k1 : Int))] ∧ k1 ≤ l1.length ∧ GRel G3 (groupL (l1.take k1)) L v2 T ∧ T.length ≤ k1 ∧ L.length ≤ k1) _ ⟨0, [], [], (.slice none 0 0), none, (.slice none 0 0), none, G2, rfl, (G2.le_refl), hS7, (Row.nil GroupW 48 117 G2), (Row.nil SpanE 16 46 G2), ⟨rfl, rfl, rfl, rfl, trivial⟩, (by omega), (by exact GRel.nil), (Nat.le_refl _), (Nat.le_refl _)⟩ ?_
  rintro m ρ1 w3 ⟨k1, L, T, v1, o3, v2, o4, G3, rfl, hle3, hS5, hr3, hr4, hF9, f1, f2, f3, f4⟩
  refine hF9.set ?_
  clear hF9
  have lenp := hq1.perm.length_eq
  refine WL.lssS (k1 : Int) (l1.length : Int) rfl rfl rfl (fun h1 => ?_) (fun h1 => ?_)
  · refine WL.indexAddrRow (hr2.mono hle3) k1 (by omega) ul22 ti63 rfl rfl rfl rfl (fun p1 x1 ec1 hx1 hr5 ra1 => ?_)
    obtain ⟨v3, rfl, hs1, hb1, hb2⟩ := FactE_open hr5
    refine WL.loadRA ra1 hS5 2 rfl ti63 rfl rfl rfl rfl ?_
    refine WL.alloc hS5 ti63 rfl rfl (fun b1 w4 hn1 hS8 => ?_)
    refine WL.store hS8 0 _ _ _ 0 _ [v3, .int .i64 x1.t.a, .int .i64 x1.t.b] [v3, .int .i64 x1.t.a, .int .i64 x1.t.b] _ rfl rfl ti63 rfl (Nat.le_of_ble_eq_true rfl) (by simp only [List.all_cons, List.all_nil, hs1.oneC, Bool.true_and] <;> rfl) rfl rfl rfl rfl rfl (fun w5 hS9 => ?_)
    obtain ⟨G4, hle4, hc1, hS10⟩ := hS9.shutB hn1
    have bd2 := hr3.bound
    refine WL.lenRow (hr3.mono hle4) ul114 rfl rfl ?_
    rcases Cmp.dec .gtr (L.length : Int) 0 with ⟨hb3, q1⟩ | ⟨hb3, q1⟩
    · have h2 : 0 < (L.length : Int) := q1
      clear q1
      obtain ⟨p2, x2, ec2, hx2, hr6, ra2, ep1⟩ := Row.atP (hr3.mono hle4) (L.length - 1) (by omega)
      obtain ⟨v4, rfl, hs2, ho1⟩ := GroupW_open hr6
      rcases Cmp.dec .eql (ordV x2.1 x1.v) 0 with ⟨hb4, q2⟩ | ⟨hb4, q2⟩
      · have h3 : (ordV x2.1 x1.v) = 0 := q2
        clear q2
        refine dr [] [(22, .bool true), (26, .int .i64 ((L.length - 1 : Nat) : Int)), (27, .pointer (some p2)), (29, v4), (31, v3), (32, .int .i64 (ordV x2.1 x1.v)), (33, .bool true)] hS10 ⟨fun _ => WL.cmpV .gtr rfl .i64 (L.length : Int) 0 _ hb3 rfl rfl rfl <| nu rfl rfl, fun _ => WL.decr L.length (by omega) (by have hreach : reach = 140737488355328 := rfl; omega) rfl rfl rfl <| nu rfl rfl, fun _ => WL.indexAddrP (L.length - 1) ep1 ul114 ti117 rfl rfl rfl rfl <| nu rfl rfl, fun _ hSw => WL.loadR1 ra2 hSw 1 rfl 0 _ rfl ti61 rfl rfl rfl <| nu rfl rfl, fun _ hSw => WL.loadG1 hSw (Cells.drop 0 hc1) ti61 rfl rfl rfl <| nu rfl rfl, fun _ hSw => WL.callD hSw hb35 rfl rfl rfl (c_Order hSw.imm x2.1 x1.v _ hs2 _ (hs1.mono hle4) ) rfl, fun _ => WL.cmpV .eql rfl .i64 (ordV x2.1 x1.v) 0 _ hb4 rfl rfl rfl <| nu rfl rfl, trivial⟩ (fun w6 hS11 => ?_)
        obtain ⟨p3, x3, ec3, hx3, hr7, ra3, ep2⟩ := Row.atP (hr3.mono hle4) (L.length - 1) (by omega)
        obtain rfl : x2 = x3 := Option.some.inj (hx2.symm.trans hx3)
        obtain ⟨v5, rfl, hs3, ho2⟩ := GroupW_open hr7
        obtain ⟨p4, x4, ec4, hx4, hr8, ra4, ep3⟩ := Row.atP (hr3.mono hle4) (L.length - 1) (by omega)
        obtain rfl : x2 = x4 := Option.some.inj (hx2.symm.trans hx4)
        obtain ⟨v6, rfl, hs4, ho3⟩ := GroupW_open hr8
        refine dr [(11, true), (12, false), (15, false)] [(37, .int .i64 ((L.length - 1 : Nat) : Int)), (40, .int .i64 ((L.length - 1 : Nat) : Int)), (41, .pointer (some p3)), (43, x2.2), (45, .agg #[.int .i64 x1.t.a, .int .i64 x1.t.b]), (48, .pointer (some p4))] hS11 ⟨fun _ => WL.decr L.length (by omega) (by have hreach : reach = 140737488355328 := rfl; omega) rfl rfl rfl <| nu rfl rfl, fun _ => WL.decr L.length (by omega) (by have hreach : reach = 140737488355328 := rfl; omega) rfl rfl rfl <| nu rfl rfl, fun _ => WL.indexAddrP (L.length - 1) ep2 ul114 ti117 rfl rfl rfl rfl <| nu rfl rfl, fun _ hSw => WL.loadR1 ra3 hSw 1 rfl 1 _ rfl ti111 rfl rfl rfl <| nu rfl rfl, fun _ hSw => WL.loadGAt hSw (Cells.drop 1 hc1) [.int .i64 x1.t.a, .int .i64 x1.t.b] ti46 rfl rfl rfl rfl rfl <| nu rfl rfl, fun _ => WL.indexAddrP (L.length - 1) ep3 ul114 ti117 rfl rfl rfl rfl <| nu rfl rfl, trivial⟩ (fun w7 hS12 => ?_)
        refine WL.buildSlice _ [(0, [.int .i64 x1.t.a, .int .i64 x1.t.b])] [.int .i64 x1.t.a, .int .i64 x1.t.b] hS12 sl111 rfl rfl rfl rfl (fun z hz => by match z, hz with | [z0, z1], _ => rfl) (fun b2 w8 hn2 hS13 => ?_)
        refine ⟨hS13.tail.down hS12.le (G4.le_refl), ?_⟩
        obtain ⟨g9, hg9, hv9, hu9, ht9⟩ := GRel.at (by assumption) hx2
        refine WL.push (m := ([x1.t] : List Span)) sl111 rfl rfl rfl (hr4.mono hle4) hS13 1 rfl 0 _ _ _ _ _ rfl ⟨[.int .i64 x1.t.a, .int .i64 x1.t.b], _, rfl, (SpanE_mk x1.t hb1 hb2), rfl⟩ rfl (by have hreach : reach = 140737488355328 := rfl; simp only [List.length_cons, List.length_nil]; omega) (by have hreach : reach = 140737488355328 := rfl; simp only [List.length_cons, List.length_nil]; omega) rfl hu9 rfl (fun v7 o5 w9 hr9 hS14 => ?_)
        have hS15 := hS14.tail
        refine WL.storeR (hr3.mono hle4) ra4 hS15 1 rfl (by omega) rfl 1 _ [v7] (x2.1, v7) [v6, v7] hr9.cells1 ti111 rfl (Nat.le_of_ble_eq_true rfl) (by simp only [List.all_cons, List.all_nil, hr9.oneC, Bool.true_and] <;> rfl) rfl (GroupW_mk (x2.1, v7) hs4 hr9.oneC) rfl rfl rfl (fun o6 w10 hr10 hS16 => ?_)
        refine WL.incr k1 (by have hreach : reach = 140737488355328 := rfl; omega) rfl rfl rfl ?_
        exact BK.mk' _ ⟨k1 + 1, (L.set (L.length - 1) (x2.1, v7)), (T ++ [x1.t]), v1, o6, v7, o5, G4, rfl, (hle3.trans hle4), hS16, hr10, hr9, ⟨rfl, rfl, rfl, rfl, trivial⟩, (by omega), (by rw [groupL_take (by assumption)]; exact GRel.join (GRel.mono (by assumption) hle4) (by assumption) (by assumption)), (by simp only [List.length_append, List.length_cons, List.length_nil]; omega), (by simp only [List.length_append, List.length_set, List.length_cons, List.length_nil]; omega)⟩ (show l1.length - (k1 + 1) < l1.length - k1 by omega)
      have h3 : (ordV x2.1 x1.v) ≠ 0 := q2
      clear q2
      refine dr [] [(22, .bool true), (26, .int .i64 ((L.length - 1 : Nat) : Int)), (27, .pointer (some p2)), (29, v4), (31, v3), (32, .int .i64 (ordV x2.1 x1.v)), (33, .bool false)] hS10 ⟨fun _ => WL.cmpV .gtr rfl .i64 (L.length : Int) 0 _ hb3 rfl rfl rfl <| nu rfl rfl, fun _ => WL.decr L.length (by omega) (by have hreach : reach = 140737488355328 := rfl; omega) rfl rfl rfl <| nu rfl rfl, fun _ => WL.indexAddrP (L.length - 1) ep1 ul114 ti117 rfl rfl rfl rfl <| nu rfl rfl, fun _ hSw => WL.loadR1 ra2 hSw 1 rfl 0 _ rfl ti61 rfl rfl rfl <| nu rfl rfl, fun _ hSw => WL.loadG1 hSw (Cells.drop 0 hc1) ti61 rfl rfl rfl <| nu rfl rfl, fun _ hSw => WL.callD hSw hb35 rfl rfl rfl (c_Order hSw.imm x2.1 x1.v _ hs2 _ (hs1.mono hle4) ) rfl, fun _ => WL.cmpV .eql rfl .i64 (ordV x2.1 x1.v) 0 _ hb4 rfl rfl rfl <| nu rfl rfl, trivial⟩ (fun w11 hS17 => ?_)
      refine WL.loadG1 hS17 (Cells.drop 0 hc1) ti61 rfl rfl rfl ?_
      refine WL.loadGAt hS17 (Cells.drop 1 hc1) [.int .i64 x1.t.a, .int .i64 x1.t.b] ti46 rfl rfl rfl rfl rfl ?_
      refine WL.buildSlice _ [(0, [.int .i64 x1.t.a, .int .i64 x1.t.b])] [.int .i64 x1.t.a, .int .i64 x1.t.b] hS17 sl111 rfl rfl rfl rfl (fun z hz => by match z, hz with | [z0, z1], _ => rfl) (fun b3 w12 hn3 hS18 => ?_)
      refine WL.build _ [(0, [v3]), (1, [.slice (some ⟨b3, 0, none⟩) 1 1])] [v3, .slice (some ⟨b3, 0, none⟩) 1 1] ti117 rfl fl117 rfl rfl (by show [(0, (v3 : Value).cells.toList), (1, (.slice (some ⟨b3, 0, none⟩) 1 1 : Value).cells.toList)] = _; simp only [(hs1.mono hle4).cells1] <;> rfl) rfl ?_
      refine WL.buildSlice _ [(0, [v3, .slice (some ⟨b3, 0, none⟩) 1 1])] [v3, .slice (some ⟨b3, 0, none⟩) 1 1] hS18 sl114 rfl rfl rfl rfl (fun z hz => by match z, hz with | [z0, z1], _ => rfl) (fun b4 w13 hn4 hS19 => ?_)
      refine WL.push (m := ([(x1.v, .slice (some ⟨b3, 0, none⟩) 1 1)] : List (List Val × Value))) sl114 rfl rfl rfl (hr3.mono hle4) hS19 3 rfl 0 _ _ _ _ _ rfl ⟨[v3, .slice (some ⟨b3, 0, none⟩) 1 1], _, rfl, (GroupW_mk (x1.v, .slice (some ⟨b3, 0, none⟩) 1 1) (hs1.mono hle4) rfl), rfl⟩ rfl (by have hreach : reach = 140737488355328 := rfl; simp only [List.length_cons, List.length_nil]; omega) (by have hreach : reach = 140737488355328 := rfl; simp only [List.length_cons, List.length_nil]; omega) rfl rfl rfl (fun v8 o7 w14 hr11 hS20 => ?_)
      have hS21 := hS20.tail
      refine WL.incr k1 (by have hreach : reach = 140737488355328 := rfl; omega) rfl rfl rfl ?_
      obtain ⟨G5, hle5, hs5, hS22⟩ := Row.freeze (hr4.mono hle4) hS21 1 rfl
      have hr12 := Row.ofNew (E := SpanE) (by_ := 16) (e := 46) (G := G5) (b := b3) (cs := [.int .i64 x1.t.a, .int .i64 x1.t.b]) (l := [x1.t]) (n := 1) ⟨[.int .i64 x1.t.a, .int .i64 x1.t.b], _, rfl, (SpanE_mk x1.t hb1 hb2), rfl⟩ rfl (by simp [reach]) (by simp [reach])
      have hS23 := hS22.place 0
      exact BK.mk' _ ⟨k1 + 1, (L ++ [(x1.v, .slice (some ⟨b3, 0, none⟩) 1 1)]), [x1.t], v8, o7, (.slice (some ⟨b3, 0, none⟩) 1 1), (some (b3, 46, [.int .i64 x1.t.a, .int .i64 x1.t.b])), G5, rfl, (hle3.trans (hle4.trans hle5)), hS23, (hr11.mono hle5), hr12, ⟨rfl, rfl, rfl, rfl, trivial⟩, (by omega), (by rw [groupL_take (by assumption)]; exact GRel.push (GRel.mono (by assumption) (hle4.trans hle5)) hs5 (by exact .inr ⟨_, by assumption, by assumption⟩)), (by simp only [List.length_append, List.length_cons, List.length_nil]; omega), (by simp only [List.length_append, List.length_set, List.length_cons, List.length_nil]; omega)⟩ (show l1.length - (k1 + 1) < l1.length - k1 by omega)
    have h2 : (L.length : Int) ≤ 0 := q1
    clear q1
    refine dr [] [(22, .bool false)] hS10 ⟨fun _ => WL.cmpV .gtr rfl .i64 (L.length : Int) 0 _ hb3 rfl rfl rfl <| nu rfl rfl, trivial⟩ (fun w15 hS24 => ?_)
    refine WL.loadG1 hS24 (Cells.drop 0 hc1) ti61 rfl rfl rfl ?_
    refine WL.loadGAt hS24 (Cells.drop 1 hc1) [.int .i64 x1.t.a, .int .i64 x1.t.b] ti46 rfl rfl rfl rfl rfl ?_
    refine WL.buildSlice _ [(0, [.int .i64 x1.t.a, .int .i64 x1.t.b])] [.int .i64 x1.t.a, .int .i64 x1.t.b] hS24 sl111 rfl rfl rfl rfl (fun z hz => by match z, hz with | [z0, z1], _ => rfl) (fun b5 w16 hn5 hS25 => ?_)
    refine WL.build _ [(0, [v3]), (1, [.slice (some ⟨b5, 0, none⟩) 1 1])] [v3, .slice (some ⟨b5, 0, none⟩) 1 1] ti117 rfl fl117 rfl rfl (by show [(0, (v3 : Value).cells.toList), (1, (.slice (some ⟨b5, 0, none⟩) 1 1 : Value).cells.toList)] = _; simp only [(hs1.mono hle4).cells1] <;> rfl) rfl ?_
    refine WL.buildSlice _ [(0, [v3, .slice (some ⟨b5, 0, none⟩) 1 1])] [v3, .slice (some ⟨b5, 0, none⟩) 1 1] hS25 sl114 rfl rfl rfl rfl (fun z hz => by match z, hz with | [z0, z1], _ => rfl) (fun b6 w17 hn6 hS26 => ?_)
    refine WL.push (m := ([(x1.v, .slice (some ⟨b5, 0, none⟩) 1 1)] : List (List Val × Value))) sl114 rfl rfl rfl (hr3.mono hle4) hS26 3 rfl 0 _ _ _ _ _ rfl ⟨[v3, .slice (some ⟨b5, 0, none⟩) 1 1], _, rfl, (GroupW_mk (x1.v, .slice (some ⟨b5, 0, none⟩) 1 1) (hs1.mono hle4) rfl), rfl⟩ rfl (by have hreach : reach = 140737488355328 := rfl; simp only [List.length_cons, List.length_nil]; omega) (by have hreach : reach = 140737488355328 := rfl; simp only [List.length_cons, List.length_nil]; omega) rfl rfl rfl (fun v9 o8 w18 hr13 hS27 => ?_)
    have hS28 := hS27.tail
    refine WL.incr k1 (by have hreach : reach = 140737488355328 := rfl; omega) rfl rfl rfl ?_
    obtain ⟨G6, hle6, hs6, hS29⟩ := Row.freeze (hr4.mono hle4) hS28 1 rfl
    have hr14 := Row.ofNew (E := SpanE) (by_ := 16) (e := 46) (G := G6) (b := b5) (cs := [.int .i64 x1.t.a, .int .i64 x1.t.b]) (l := [x1.t]) (n := 1) ⟨[.int .i64 x1.t.a, .int .i64 x1.t.b], _, rfl, (SpanE_mk x1.t hb1 hb2), rfl⟩ rfl (by simp [reach]) (by simp [reach])
    have hS30 := hS29.place 0
    exact BK.mk' _ ⟨k1 + 1, (L ++ [(x1.v, .slice (some ⟨b5, 0, none⟩) 1 1)]), [x1.t], v9, o8, (.slice (some ⟨b5, 0, none⟩) 1 1), (some (b5, 46, [.int .i64 x1.t.a, .int .i64 x1.t.b])), G6, rfl, (hle3.trans (hle4.trans hle6)), hS30, (hr13.mono hle6), hr14, ⟨rfl, rfl, rfl, rfl, trivial⟩, (by omega), (by rw [groupL_take (by assumption)]; exact GRel.push (GRel.mono (by assumption) (hle4.trans hle6)) hs6 (by exact .inl (by omega))), (by simp only [List.length_append, List.length_cons, List.length_nil]; omega), (by simp only [List.length_append, List.length_set, List.length_cons, List.length_nil]; omega)⟩ (show l1.length - (k1 + 1) < l1.length - k1 by omega)
  obtain ⟨G7, hle7, hs7, hS31⟩ := Row.freeze hr4 hS5 0 rfl
  have hrow := Row.groups (hr3.mono hle7) (GRel.len (by assumption)) (GRel.done (GRel.mono (by assumption) hle7) hs7)
  have hgs : groupL (l1.take k1) = groupL l1 := by rw [List.take_of_length_le (by omega)]
  obtain ⟨gs, hgsd⟩ : ∃ gs, gs = groupL l1 := ⟨_, rfl⟩
  rw [hgs, ← hgsd] at hrow
  have hTm : ∀ g ∈ gs, ∀ t ∈ g.t, spanB t = true := by rw [hgsd]; exact groupL_times hgood hq1.perm (ins_asc hgood hq1 fun _ _ => rfl)
  have bd3 := hrow.bound
  refine WL.lenRow hrow ul114 rfl rfl ?_
  refine LP.go ft [] (fun m ρ1 w1 => ∃ (k2 : Nat), ∃ (v10 : Value) (o9 : OB), ∃ (G8 : GH), m = gs.length - k2 ∧ G7.le G8 ∧ St w [] G G8 [none, o9, o2] w1 ∧ Row GroupE 48 117 G8 v10 (cgs gs k2) o9 ∧ FR ρ1 [(4, v10), (61, .int .i64 (gs.length : Int)), (62, .int .i64 (k2 : Int))] ∧ k2 ≤ gs.length) _ ⟨0, v1, o3, G7, rfl, (G7.le_refl), hS31, hrow, ⟨rfl, rfl, rfl, trivial⟩, (by omega)⟩ ?_
  rintro m ρ1 w19 ⟨k2, v10, o9, G8, rfl, hle8, hS32, hr15, hF9, f5⟩
  refine hF9.set ?_
  clear hF9
  have lenc := cgs_len gs k2
  refine WL.lssS (k2 : Int) (gs.length : Int) rfl rfl rfl (fun h4 => ?_) (fun h4 => ?_)
  · refine WL.indexAddrRow hr15 k2 (by omega) ul114 ti117 rfl rfl rfl rfl (fun p5 x5 ec5 hx5 hr16 ra5 => ?_)
    obtain ⟨v11, v12, rfl, hs8, hs9⟩ := GroupE_open hr16
    refine WL.loadR1 ra5 hS32 1 rfl 1 _ rfl ti111 rfl rfl rfl ?_
    refine WL.cA hS32 hb141 rfl rfl rfl (c_merged hS32.imm x5.t _ hs9 (hTm _ (List.mem_of_getElem? (cgs_at (by assumption))))) (fun w20 G9 r3 hpost3 hS33 hle9 => ?_)
    refine WL.indexAddrRow (hr15.mono hle9) k2 (by omega) ul114 ti117 rfl rfl rfl rfl (fun p6 x6 ec6 hx6 hr17 ra6 => ?_)
    obtain rfl : x5 = x6 := Option.some.inj (hx5.symm.trans hx6)
    obtain ⟨v13, v14, rfl, hs10, hs11⟩ := GroupE_open hr17
    refine WL.storeR (hr15.mono hle9) ra6 hS33 1 rfl (by omega) rfl 1 _ [r3] (Group.mk x5.v (canon x5.t)) [v13, r3] hpost3.cells1 ti111 rfl (Nat.le_of_ble_eq_true rfl) (by simp only [List.all_cons, List.all_nil, hpost3.oneC, Bool.true_and] <;> rfl) rfl (GroupE_mk (Group.mk x5.v (canon x5.t)) hs10 hpost3) rfl rfl rfl (fun o10 w21 hr18 hS34 => ?_)
    refine WL.incr k2 (by have hreach : reach = 140737488355328 := rfl; omega) rfl rfl rfl ?_
    exact BK.mk' _ ⟨k2 + 1, v10, o10, G9, rfl, (hle8.trans hle9), hS34, (Row.cast hr18 (by exact cgs_step (by assumption))), ⟨rfl, rfl, rfl, trivial⟩, (by omega)⟩ (show gs.length - (k2 + 1) < gs.length - k2 by omega)
  exact RT hS32 rfl ⟨_, Row.cast hr15 (by rw [cgs_all (by omega), hgsd]; exact grp_of hgood hq1.perm (ins_asc hgood hq1 fun _ _ => rfl)), hS32.freshAt 1 rfl⟩
end Go.Civ
