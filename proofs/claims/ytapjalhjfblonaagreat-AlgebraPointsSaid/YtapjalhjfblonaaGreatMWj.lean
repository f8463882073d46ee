/- Walks, printed by specs38.py. -/
import Derived.Test.YtapjalhjfblonaaGreatProg
import Derived.KernelRfl
import Derived.WalkKit
import Derived.Test.YtapjalhjfblonaaGreatMWi
import Derived.Test.YtapjalhjfblonaaGreatMCiv22
import Derived.Test.YtapjalhjfblonaaGreatMCiv19
set_option linter.unusedVariables false
set_option linter.unusedSimpArgs false
set_option maxRecDepth 100000
set_option maxHeartbeats 4000000
namespace Go.Civ
open Go.Proofs


theorem c_rSame {G : GH} {w : World} (hG : G.In w) (a b : List Fact) (va : Value) (hva : Sl FactE 40 G va a) (vb : Value) (hvb : Sl FactE 40 G vb b)  : CL Tryz.prog (nat_lit 30) #[va, vb] [] w G fun _ _ r => r = .bool (decide (a = b)) := by
  refine calls_of_go ft [] Tryz.func30 rfl rfl ?_
  have hS := St.start (X := []) hG
  have bd1 := hva.bound
  refine WL.lenSl hva ul22 rfl rfl ?_
  have bd2 := hvb.bound
  refine WL.lenSl hvb ul22 rfl rfl ?_
  refine WL.neqS (a.length : Int) (b.length : Int) rfl rfl rfl (fun h1 => ?_) (fun h1 => ?_)
  · exact RB hS rfl (by rw [← eqF_eq]; exact (eqF_len (by omega)).symm)
  refine LP.go ft [] (fun m ρ1 w1 => ∃ (k1 : Nat), ∃ (G1 : GH), m = a.length - k1 ∧ G.le G1 ∧ St w [] G G1 [] w1 ∧ FR ρ1 [(0, va), (1, vb), (5, .int .i64 (k1 : Int))] ∧ k1 ≤ a.length ∧ ∀ j, j < k1 → ∀ x y, a[j]? = some x → b[j]? = some y → decide (x = y) = true) _ ⟨0, G, rfl, (G.le_refl), hS, ⟨rfl, rfl, rfl, trivial⟩, (by omega), (by intro j hj; omega)⟩ ?_
  rintro m ρ1 w1 ⟨k1, G1, rfl, hle1, hS1, hF9, f1, f2⟩
  refine hF9.set ?_
  clear hF9
  have bd3 := hva.bound
  refine WL.lenSl (hva.mono hle1) ul22 rfl rfl ?_
  refine WL.lssS (k1 : Int) (a.length : Int) rfl rfl rfl (fun h2 => ?_) (fun h2 => ?_)
  · obtain ⟨p1, x1, hx1, he1, ep1⟩ := Sl.at (hva.mono hle1) k1 (by omega)
    obtain ⟨cs1, hc1, hr1⟩ := he1
    obtain ⟨v1, rfl, hs1, hb1, hb2⟩ := FactE_open hr1
    obtain ⟨p2, x2, hx2, he2, ep2⟩ := Sl.at (hvb.mono hle1) k1 (by omega)
    obtain ⟨cs2, hc2, hr2⟩ := he2
    obtain ⟨v2, rfl, hs2, hb3, hb4⟩ := FactE_open hr2
    rcases Bool.eq_false_or_eq_true (decide (x1.v = x2.v)) with h3 | h3
    · obtain ⟨p3, x3, hx3, he3, ep3⟩ := Sl.at (hva.mono hle1) k1 (by omega)
      obtain rfl : x1 = x3 := Option.some.inj (hx1.symm.trans hx3)
      obtain ⟨cs3, hc3, hr3⟩ := he3
      obtain ⟨v3, rfl, hs3, hb5, hb6⟩ := FactE_open hr3
      obtain ⟨p4, x4, hx4, he4, ep4⟩ := Sl.at (hvb.mono hle1) k1 (by omega)
      obtain rfl : x2 = x4 := Option.some.inj (hx2.symm.trans hx4)
      obtain ⟨cs4, hc4, hr4⟩ := he4
      obtain ⟨v4, rfl, hs4, hb7, hb8⟩ := FactE_open hr4
      rcases Classical.em (x1.t = x2.t) with h4 | h4
      · refine dr [] [(19, .pointer (some p1)), (21, v1), (24, .pointer (some p2)), (26, v2), (27, .bool true), (32, .pointer (some p3)), (34, .agg #[.int .i64 x1.t.a, .int .i64 x1.t.b]), (37, .pointer (some p4)), (39, .agg #[.int .i64 x2.t.a, .int .i64 x2.t.b]), (40, .bool false)] hS1 ⟨fun _ => WL.indexAddrP k1 ep1 ul22 ti63 rfl rfl rfl rfl <| nu rfl rfl, fun _ hSw => WL.loadG1 hSw (Cells.drop 0 hc1) ti61 rfl rfl rfl <| nu rfl rfl, fun _ => WL.indexAddrP k1 ep2 ul22 ti63 rfl rfl rfl rfl <| nu rfl rfl, fun _ hSw => WL.loadG1 hSw (Cells.drop 0 hc2) ti61 rfl rfl rfl <| nu rfl rfl, fun _ hSw => WL.callD hSw hb88 rfl rfl rfl (c_Same hSw.imm x1.v x2.v _ hs1 _ hs2 ) (congrArg Value.bool h3.symm), fun _ => WL.indexAddrP k1 ep3 ul22 ti63 rfl rfl rfl rfl <| nu rfl rfl, fun _ hSw => WL.loadGAt hSw (Cells.drop 1 hc3) [.int .i64 x1.t.a, .int .i64 x1.t.b] ti46 rfl rfl rfl rfl rfl <| nu rfl rfl, fun _ => WL.indexAddrP k1 ep4 ul22 ti63 rfl rfl rfl rfl <| nu rfl rfl, fun _ hSw => WL.loadGAt hSw (Cells.drop 1 hc4) [.int .i64 x2.t.a, .int .i64 x2.t.b] ti46 rfl rfl rfl rfl rfl <| nu rfl rfl, fun _ => WL.aggEqNV false (SpanEq46 x1.t x2.t) eqg46 (by simp [h4]) rfl rfl rfl <| nu rfl rfl, trivial⟩ (fun w2 hS2 => ?_)
        refine WL.incr k1 (by have hreach : reach = 140737488355328 := rfl; omega) rfl rfl rfl ?_
        exact BK.mk' _ ⟨k1 + 1, G1, rfl, hle1, hS2, ⟨rfl, rfl, rfl, trivial⟩, (by omega), (by exact lt_step2 (by assumption) (by assumption) (by assumption) (decide_eq_true (fact_eq (by simp_all) (by simp_all))))⟩ (show a.length - (k1 + 1) < a.length - k1 by omega)
      refine dr [] [(19, .pointer (some p1)), (21, v1), (24, .pointer (some p2)), (26, v2), (27, .bool true), (32, .pointer (some p3)), (34, .agg #[.int .i64 x1.t.a, .int .i64 x1.t.b]), (37, .pointer (some p4)), (39, .agg #[.int .i64 x2.t.a, .int .i64 x2.t.b]), (40, .bool true)] hS1 ⟨fun _ => WL.indexAddrP k1 ep1 ul22 ti63 rfl rfl rfl rfl <| nu rfl rfl, fun _ hSw => WL.loadG1 hSw (Cells.drop 0 hc1) ti61 rfl rfl rfl <| nu rfl rfl, fun _ => WL.indexAddrP k1 ep2 ul22 ti63 rfl rfl rfl rfl <| nu rfl rfl, fun _ hSw => WL.loadG1 hSw (Cells.drop 0 hc2) ti61 rfl rfl rfl <| nu rfl rfl, fun _ hSw => WL.callD hSw hb88 rfl rfl rfl (c_Same hSw.imm x1.v x2.v _ hs1 _ hs2 ) (congrArg Value.bool h3.symm), fun _ => WL.indexAddrP k1 ep3 ul22 ti63 rfl rfl rfl rfl <| nu rfl rfl, fun _ hSw => WL.loadGAt hSw (Cells.drop 1 hc3) [.int .i64 x1.t.a, .int .i64 x1.t.b] ti46 rfl rfl rfl rfl rfl <| nu rfl rfl, fun _ => WL.indexAddrP k1 ep4 ul22 ti63 rfl rfl rfl rfl <| nu rfl rfl, fun _ hSw => WL.loadGAt hSw (Cells.drop 1 hc4) [.int .i64 x2.t.a, .int .i64 x2.t.b] ti46 rfl rfl rfl rfl rfl <| nu rfl rfl, fun _ => WL.aggEqNV true (SpanEq46 x1.t x2.t) eqg46 (by simp [h4]) rfl rfl rfl <| nu rfl rfl, trivial⟩ (fun w3 hS3 => ?_)
      exact RB hS3 rfl (by rw [← eqF_eq]; exact (eqF_no (f := fun (x y : Fact) => decide (x = y)) (by assumption) (by assumption) (decide_eq_false (fact_ne (by simp_all)))).symm)
    refine dr [] [(19, .pointer (some p1)), (21, v1), (24, .pointer (some p2)), (26, v2), (27, .bool false)] hS1 ⟨fun _ => WL.indexAddrP k1 ep1 ul22 ti63 rfl rfl rfl rfl <| nu rfl rfl, fun _ hSw => WL.loadG1 hSw (Cells.drop 0 hc1) ti61 rfl rfl rfl <| nu rfl rfl, fun _ => WL.indexAddrP k1 ep2 ul22 ti63 rfl rfl rfl rfl <| nu rfl rfl, fun _ hSw => WL.loadG1 hSw (Cells.drop 0 hc2) ti61 rfl rfl rfl <| nu rfl rfl, fun _ hSw => WL.callD hSw hb88 rfl rfl rfl (c_Same hSw.imm x1.v x2.v _ hs1 _ hs2 ) (congrArg Value.bool h3.symm), trivial⟩ (fun w4 hS4 => ?_)
    exact RB hS4 rfl (by rw [← eqF_eq]; exact (eqF_no (f := fun (x y : Fact) => decide (x = y)) (by assumption) (by assumption) (decide_eq_false (fact_ne (by simp_all)))).symm)
  exact RB hS1 rfl (by rw [← eqF_eq]; exact (eqF_yes (by omega) (by assumption) (by omega)).symm)

theorem c_fact {G : GH} {w : World} (hG : G.In w) (a b : Int) (l : List Int) (vl : Value) (hvl : Sl Enc.int 8 G vl l) (ha : I64 a) (hb : I64 b) (h9 : l.length ≤ 1000) : CL Tryz.prog (nat_lit 51) #[.int .i64 a, .int .i64 b, vl] [] w G fun G' _ r => Is FactE G' r (factL a b l) := by
  refine calls_of_goR ft [] Tryz.func51 rfl rfl ?_
  have hS := St.start (X := []) hG
  refine WL.alloc hS ti63 rfl rfl (fun b1 w1 hn1 hS1 => ?_)
  refine WL.build _ [(0, [.int .i64 a]), (1, [.int .i64 b])] [.int .i64 a, .int .i64 b] ti46 rfl fl46 rfl rfl rfl rfl ?_
  refine WL.build _ [(1, [.int .i64 a, .int .i64 b])] [.slice none 0 0, .int .i64 a, .int .i64 b] ti63 rfl fl63 rfl rfl rfl rfl ?_
  refine WL.alloc hS1 ti63 rfl rfl (fun b2 w2 hn2 hS2 => ?_)
  refine WL.store hS2 0 _ _ _ 0 _ [.slice none 0 0, .int .i64 a, .int .i64 b] [.slice none 0 0, .int .i64 a, .int .i64 b] _ rfl rfl ti63 rfl (Nat.le_of_ble_eq_true rfl) rfl rfl rfl rfl rfl rfl (fun w3 hS3 => ?_)
  have bd1 := hvl.bound
  refine WL.lenSl hvl ul38 rfl rfl ?_
  have hS5 := hS3.pad
  refine LP.go ft [] (fun m ρ1 w1 => ∃ (k1 : Nat), ∃ (v1 : Value) (o1 : OB), ∃ (G1 : GH), m = l.length - k1 ∧ G.le G1 ∧ St w [] G G1 [o1, some (b2, 63, [v1, .int .i64 a, .int .i64 b]), some (b1, 63, [.slice none 0 0, .int .i64 0, .int .i64 0])] w1 ∧ Row ValE 32 34 G1 v1 ((l.take k1).map (fun n => Val.mk 1 n [])) o1 ∧ FR ρ1 [(6, .pointer (some ⟨b1, 0, none⟩)), (7, .pointer (some ⟨b2, 0, none⟩)), (14, vl), (15, .int .i64 (l.length : Int)), (16, .int .i64 (k1 : Int))] ∧ k1 ≤ l.length) _ ⟨0, (.slice none 0 0), none, G, rfl, (G.le_refl), hS5, (Row.nil ValE 32 34 G), ⟨rfl, rfl, rfl, rfl, rfl, trivial⟩, (by omega)⟩ ?_
  rintro m ρ1 w4 ⟨k1, v1, o1, G1, rfl, hle1, hS4, hr1, hF9, f1⟩
  refine hF9.set ?_
  clear hF9
  have hkt := List.length_take_le k1 l
  refine WL.lssS (k1 : Int) (l.length : Int) rfl rfl rfl (fun h1 => ?_) (fun h1 => ?_)
  · refine WL.indexAddr (hvl.mono hle1) k1 (by omega) ul38 ti3 rfl rfl rfl rfl (fun p1 x1 hx1 he1 => ?_)
    obtain ⟨cs1, hc1, hr2⟩ := he1
    obtain ⟨rfl, hb1⟩ := hr2
    refine WL.loadG1 hS4 hc1 ti3 rfl rfl rfl ?_
    refine WL.loadO1 hS4 1 _ _ _ 0 _ rfl rfl ti61 rfl rfl rfl ?_
    refine WL.build _ [(0, [.int .i64 1]), (1, [.int .i64 x1])] [.int .i64 1, .int .i64 x1, strV []] ti34 rfl fl34 rfl rfl rfl rfl ?_
    refine WL.buildSlice _ [(0, [.int .i64 1, .int .i64 x1, strV []])] [.int .i64 1, .int .i64 x1, strV []] hS4 sl61 rfl rfl rfl rfl (fun z hz => by match z, hz with | [z0, z1, z2], _ => rfl) (fun b3 w5 hn3 hS6 => ?_)
    refine WL.push (m := ([(Val.mk 1 x1 [])] : List Val)) sl61 rfl rfl rfl hr1 hS6 1 rfl 0 _ _ _ _ _ rfl ⟨[.int .i64 1, .int .i64 x1, strV []], _, rfl, (ValE_mk (Val.mk 1 x1 []) (show I64 1 from by constructor <;> decide) hb1 (by simp [reach])), rfl⟩ rfl (by have hreach : reach = 140737488355328 := rfl; simp only [List.length_cons, List.length_nil, List.length_map]; omega) (by have hreach : reach = 140737488355328 := rfl; simp only [List.length_cons, List.length_nil, List.length_map]; omega) rfl rfl rfl (fun v2 o2 w6 hr3 hS7 => ?_)
    have hS8 := hS7.tail
    refine WL.store hS8 1 _ _ _ 0 _ [v2] [v2, .int .i64 a, .int .i64 b] _ rfl hr3.cells1 ti61 rfl (Nat.le_of_ble_eq_true rfl) (by simp only [List.all_cons, List.all_nil, hr3.oneC, Bool.true_and] <;> rfl) rfl rfl rfl rfl rfl (fun w7 hS9 => ?_)
    refine WL.incr k1 (by have hreach : reach = 140737488355328 := rfl; omega) rfl rfl rfl ?_
    exact BK.mk' _ ⟨k1 + 1, v2, o2, G1, rfl, hle1, hS9, (Row.cast hr3 (by (rw [List.take_add_one, List.map_append, (by assumption : l[k1]? = some _)]; rfl))), ⟨rfl, rfl, rfl, rfl, rfl, trivial⟩, (by omega)⟩ (show l.length - (k1 + 1) < l.length - k1 by omega)
  refine WL.loadOA hS4 1 _ _ _ 0 [v1, .int .i64 a, .int .i64 b] rfl rfl rfl ti63 rfl rfl rfl ?_
  refine WL.store hS4 2 _ _ _ 0 _ [v1, .int .i64 a, .int .i64 b] [v1, .int .i64 a, .int .i64 b] _ rfl rfl ti63 rfl (Nat.le_of_ble_eq_true rfl) (by simp only [List.all_cons, List.all_nil, hr1.oneC, Bool.true_and] <;> rfl) rfl rfl rfl rfl rfl (fun w8 hS10 => ?_)
  obtain ⟨G2, hle2, hc2, hS11⟩ := hS10.sealAt 2 rfl hn1
  obtain ⟨G3, hle3, hs1, hS12⟩ := Row.freeze (hr1.mono hle2) hS11 0 rfl
  exact RTR [.agg #[v1, .int .i64 a, .int .i64 b]] hS12 ⟨_, _, _, rfl, rfl, hS12.loadC (hc2.mono hle3) ti63 rfl rfl, rfl⟩ (Is.cast ⟨_, rfl, (FactE_mk (Fact.mk ((l.take k1).map (fun n => Val.mk 1 n [])) (Span.mk a b)) hs1 ha hb)⟩ (by unfold factL; rw [List.take_of_length_le (by omega)]))

theorem c_Meet {G : GH} {w : World} (hG : G.In w) (a b : Span) (ca : List Value) (hca : SpanE.rep G a ca) (cb : List Value) (hcb : SpanE.rep G b cb)  : CL Tryz.prog (nat_lit 85) #[.agg ca.toArray, .agg cb.toArray] [] w G fun G' _ r => ∃ r0 r1, r = .tuple #[r0, r1] ∧ Is SpanE G' r0 (meetS a b) ∧ r1 = .bool (meetB a b) := by
  refine calls_of_goR ft [] Tryz.func85 rfl rfl ?_
  have hS := St.start (X := []) hG
  obtain ⟨rfl, hb1, hb2⟩ := SpanE_open hca
  obtain ⟨rfl, hb3, hb4⟩ := SpanE_open hcb
  refine WL.boxG [.int .i64 a.a, .int .i64 a.b] _ hS rfl rfl rfl (fun p1 w1 G1 hle1 hsp1 hc1 hS1 => ?_)
  refine WL.boxG [.int .i64 b.a, .int .i64 b.b] _ hS1 rfl rfl rfl (fun p2 w2 G2 hle2 hsp2 hc2 hS2 => ?_)
  refine WL.alloc hS2 ti46 rfl rfl (fun b1 w3 hn1 hS3 => ?_)
  refine WL.loadG1 hS3 (Cells.drop 0 (hc1.mono hle2)) ti3 rfl rfl rfl ?_
  refine WL.loadG1 hS3 (Cells.drop 0 hc2) ti3 rfl rfl rfl ?_
  refine WL.maxI a.a b.a rfl rfl rfl ?_
  refine WL.loadG1 hS3 (Cells.drop 1 (hc1.mono hle2)) ti3 rfl rfl rfl ?_
  refine WL.loadG1 hS3 (Cells.drop 1 hc2) ti3 rfl rfl rfl ?_
  refine WL.minI a.b b.b rfl rfl rfl ?_
  refine WL.build _ [(0, [.int .i64 (max a.a b.a)]), (1, [.int .i64 (min a.b b.b)])] [.int .i64 (max a.a b.a), .int .i64 (min a.b b.b)] ti46 rfl fl46 rfl rfl rfl rfl ?_
  refine WL.alloc hS3 ti46 rfl rfl (fun b2 w4 hn2 hS4 => ?_)
  refine WL.store hS4 0 _ _ _ 0 _ [.int .i64 (max a.a b.a), .int .i64 (min a.b b.b)] [.int .i64 (max a.a b.a), .int .i64 (min a.b b.b)] _ rfl rfl ti46 rfl (Nat.le_of_ble_eq_true rfl) rfl rfl rfl rfl rfl rfl (fun w5 hS5 => ?_)
  obtain ⟨G3, hle3, hc3, hS6⟩ := hS5.shutB hn2
  refine WL.loadGAt hS6 (hc1.mono (hle2.trans hle3)) [.int .i64 a.a, .int .i64 a.b] ti46 rfl rfl rfl rfl rfl ?_
  refine WL.cV hS6 hb122 rfl rfl rfl (c_iValid hS6.imm a _ (SpanE_mk a hb1 hb2) ) (fun w6 G4 hS7 hle4 => ?_)
  refine WL.split (fun (h1 : (spanV a) = true) => ?_) (fun (h1 : (spanV a) = false) => ?_)
  · refine WL.loadGAt hS7 (hc2.mono (hle3.trans hle4)) [.int .i64 b.a, .int .i64 b.b] ti46 rfl rfl rfl rfl rfl ?_
    refine WL.cV hS7 hb122 rfl rfl rfl (c_iValid hS7.imm b _ (SpanE_mk b hb3 hb4) ) (fun w7 G5 hS8 hle5 => ?_)
    refine WL.split (fun (h2 : (spanV b) = true) => ?_) (fun (h2 : (spanV b) = false) => ?_)
    · refine WL.loadG1 hS8 (Cells.drop 0 (hc3.mono (hle4.trans hle5))) ti3 rfl rfl rfl ?_
      refine WL.loadG1 hS8 (Cells.drop 1 (hc3.mono (hle4.trans hle5))) ti3 rfl rfl rfl ?_
      refine WL.geqS (max a.a b.a) (min a.b b.b) rfl rfl rfl (fun h3 => ?_) (fun h3 => ?_)
      · refine WL.build _ [] [.int .i64 0, .int .i64 0] ti46 rfl fl46 rfl rfl rfl rfl ?_
        refine WL.store hS8 0 _ _ _ 0 _ [.int .i64 0, .int .i64 0] [.int .i64 0, .int .i64 0] _ rfl rfl ti46 rfl (Nat.le_of_ble_eq_true rfl) rfl rfl rfl rfl rfl rfl (fun w8 hS9 => ?_)
        exact RTR [.agg #[.int .i64 0, .int .i64 0], .bool false] hS9 ⟨_, _, _, rfl, rfl, hS9.loadA 0 _ _ _ 0 [.int .i64 0, .int .i64 0] rfl rfl rfl ti46 rfl, ⟨_, rfl, rfl⟩⟩ ⟨_, _, rfl, (Is.cast ⟨_, rfl, (SpanE_mk (Span.mk 0 0) I64_0 I64_0)⟩ (by exact (meetS_no (.inr (.inr (by assumption)))).symm)), (congrArg Value.bool (by exact (meetB_no (.inr (.inr (by assumption)))).symm))⟩
      refine WL.loadGAt hS8 (hc3.mono (hle4.trans hle5)) [.int .i64 (max a.a b.a), .int .i64 (min a.b b.b)] ti46 rfl rfl rfl rfl rfl ?_
      refine WL.store hS8 0 _ _ _ 0 _ [.int .i64 (max a.a b.a), .int .i64 (min a.b b.b)] [.int .i64 (max a.a b.a), .int .i64 (min a.b b.b)] _ rfl rfl ti46 rfl (Nat.le_of_ble_eq_true rfl) rfl rfl rfl rfl rfl rfl (fun w9 hS10 => ?_)
      exact RTR [.agg #[.int .i64 (max a.a b.a), .int .i64 (min a.b b.b)], .bool true] hS10 ⟨_, _, _, rfl, rfl, hS10.loadA 0 _ _ _ 0 [.int .i64 (max a.a b.a), .int .i64 (min a.b b.b)] rfl rfl rfl ti46 rfl, ⟨_, rfl, rfl⟩⟩ ⟨_, _, rfl, (Is.cast ⟨_, rfl, (SpanE_mk (Span.mk (max a.a b.a) (min a.b b.b)) (I64_max hb1 hb3) (I64_min hb2 hb4))⟩ (by exact (meetS_yes h1 h2 (by assumption)).symm)), (congrArg Value.bool (by exact (meetB_yes h1 h2 (by assumption)).symm))⟩
    refine WL.build _ [] [.int .i64 0, .int .i64 0] ti46 rfl fl46 rfl rfl rfl rfl ?_
    refine WL.store hS8 0 _ _ _ 0 _ [.int .i64 0, .int .i64 0] [.int .i64 0, .int .i64 0] _ rfl rfl ti46 rfl (Nat.le_of_ble_eq_true rfl) rfl rfl rfl rfl rfl rfl (fun w10 hS11 => ?_)
    exact RTR [.agg #[.int .i64 0, .int .i64 0], .bool false] hS11 ⟨_, _, _, rfl, rfl, hS11.loadA 0 _ _ _ 0 [.int .i64 0, .int .i64 0] rfl rfl rfl ti46 rfl, ⟨_, rfl, rfl⟩⟩ ⟨_, _, rfl, (Is.cast ⟨_, rfl, (SpanE_mk (Span.mk 0 0) I64_0 I64_0)⟩ (by exact (meetS_no (.inr (.inl h2))).symm)), (congrArg Value.bool (by exact (meetB_no (.inr (.inl h2))).symm))⟩
  refine WL.build _ [] [.int .i64 0, .int .i64 0] ti46 rfl fl46 rfl rfl rfl rfl ?_
  refine WL.store hS7 0 _ _ _ 0 _ [.int .i64 0, .int .i64 0] [.int .i64 0, .int .i64 0] _ rfl rfl ti46 rfl (Nat.le_of_ble_eq_true rfl) rfl rfl rfl rfl rfl rfl (fun w11 hS12 => ?_)
  exact RTR [.agg #[.int .i64 0, .int .i64 0], .bool false] hS12 ⟨_, _, _, rfl, rfl, hS12.loadA 0 _ _ _ 0 [.int .i64 0, .int .i64 0] rfl rfl rfl ti46 rfl, ⟨_, rfl, rfl⟩⟩ ⟨_, _, rfl, (Is.cast ⟨_, rfl, (SpanE_mk (Span.mk 0 0) I64_0 I64_0)⟩ (by exact (meetS_no (.inl h1)).symm)), (congrArg Value.bool (by exact (meetB_no (.inl h1)).symm))⟩

theorem c_CompareVal {G : GH} {w : World} (hG : G.In w) (x y : Val) (cx : List Value) (hcx : ValE.rep G x cx) (cy : List Value) (hcy : ValE.rep G y cy)  : CL Tryz.prog (nat_lit 110) #[.agg cx.toArray, .agg cy.toArray] [] w G fun _ _ r => r = .int .i64 (cmpC x y) := by
  refine calls_of_go ft [] Tryz.func110 rfl rfl ?_
  have hS := St.start (X := []) hG
  obtain ⟨rfl, hb1, hb2, hb3⟩ := ValE_open hcx
  obtain ⟨rfl, hb4, hb5, hb6⟩ := ValE_open hcy
  refine WL.boxG [.int .i64 x.k, .int .i64 x.n, strV x.s] _ hS rfl rfl rfl (fun p1 w1 G1 hle1 hsp1 hc1 hS1 => ?_)
  refine WL.boxG [.int .i64 y.k, .int .i64 y.n, strV y.s] _ hS1 rfl rfl rfl (fun p2 w2 G2 hle2 hsp2 hc2 hS2 => ?_)
  refine WL.loadGAt hS2 (hc1.mono hle2) [.int .i64 x.k, .int .i64 x.n, strV x.s] ti34 rfl rfl rfl rfl rfl ?_
  refine WL.cV hS2 hb119 rfl rfl rfl (c_vValid hS2.imm x _ (ValE_mk x hb1 hb2 hb3) ) (fun w3 G3 hS3 hle3 => ?_)
  refine WL.split (fun (h1 : (valB x) = true) => ?_) (fun (h1 : (valB x) = false) => ?_)
  · refine WL.loadGAt hS3 (hc2.mono hle3) [.int .i64 y.k, .int .i64 y.n, strV y.s] ti34 rfl rfl rfl rfl rfl ?_
    refine WL.cV hS3 hb119 rfl rfl rfl (c_vValid hS3.imm y _ (ValE_mk y hb4 hb5 hb6) ) (fun w4 G4 hS4 hle4 => ?_)
    refine WL.split (fun (h2 : (valB y) = true) => ?_) (fun (h2 : (valB y) = false) => ?_)
    · refine WL.loadGAt hS4 (hc1.mono ((hle2.trans hle3).trans hle4)) [.int .i64 x.k, .int .i64 x.n, strV x.s] ti34 rfl rfl rfl rfl rfl ?_
      refine WL.loadGAt hS4 (hc2.mono (hle3.trans hle4)) [.int .i64 y.k, .int .i64 y.n, strV y.s] ti34 rfl rfl rfl rfl rfl ?_
      refine WL.cV hS4 hb95 rfl rfl rfl (c_order hS4.imm x y _ (ValE_mk x hb1 hb2 hb3) _ (ValE_mk y hb4 hb5 hb6) ) (fun w5 G5 hS5 hle5 => ?_)
      exact RI hS5 rfl (by unfold cmpC; simp_all)
    exact RI hS4 rfl (by unfold cmpC; simp_all)
  exact RI hS3 rfl (by unfold cmpC; simp_all)

theorem c_join1 {G : GH} {w : World} (hG : G.In w) (p : Int × Int) (j : Int) (cp : List Value) (hcp : PairE.rep G p cp) (pj : Addr) (hpj : Cells G pj [.int .i64 j])  : CL Tryz.prog (nat_lit 108) #[.agg cp.toArray, .pointer (some pj)] [] w G fun _ _ r => r = .bool (decide (p.2 = j)) := by
  refine calls_of_go ft [] Tryz.func108 rfl rfl ?_
  have hS := St.start (X := []) hG
  obtain ⟨rfl, hb1, hb2⟩ := PairE_open hcp
  refine WL.boxG [.int .i64 p.1, .int .i64 p.2] _ hS rfl rfl rfl (fun p1 w1 G1 hle1 hsp1 hc1 hS1 => ?_)
  refine WL.indexAddrA _ 2 1 rfl ul87 ti3 rfl rfl rfl ?_
  refine WL.loadG1 hS1 (Cells.drop 1 hc1) ti3 rfl rfl rfl ?_
  refine WL.loadG1 hS1 (hpj.mono hle1) ti3 rfl rfl rfl ?_
  refine WL.cmp .eql rfl .i64 p.2 j rfl rfl rfl ?_
  exact RB hS1 rfl (by rfl)

theorem c_join3 {G : GH} {w : World} (hG : G.In w) (p : Int × Int) (j : Int) (cp : List Value) (hcp : PairE.rep G p cp) (pj : Addr) (hpj : Cells G pj [.int .i64 j])  : CL Tryz.prog (nat_lit 112) #[.agg cp.toArray, .pointer (some pj)] [] w G fun _ _ r => r = .bool (decide (p.2 = j)) := by
  refine calls_of_go ft [] Tryz.func112 rfl rfl ?_
  have hS := St.start (X := []) hG
  obtain ⟨rfl, hb1, hb2⟩ := PairE_open hcp
  refine WL.boxG [.int .i64 p.1, .int .i64 p.2] _ hS rfl rfl rfl (fun p1 w1 G1 hle1 hsp1 hc1 hS1 => ?_)
  refine WL.indexAddrA _ 2 1 rfl ul87 ti3 rfl rfl rfl ?_
  refine WL.loadG1 hS1 (Cells.drop 1 hc1) ti3 rfl rfl rfl ?_
  refine WL.loadG1 hS1 (hpj.mono hle1) ti3 rfl rfl rfl ?_
  refine WL.cmp .eql rfl .i64 p.2 j rfl rfl rfl ?_
  exact RB hS1 rfl (by rfl)

theorem c_join2 {G : GH} {w : World} (hG : G.In w) (p : Int × Int) (fv : List Val) (fa fb : Int) (gv : List Val) (ga gb : Int) (cp : List Value) (hcp : PairE.rep G p cp) (vf : Value) (hvf : Sl ValE 32 G vf fv) (pf : Addr) (hpf : Cells G pf [vf, .int .i64 fa, .int .i64 fb]) (vg : Value) (hvg : Sl ValE 32 G vg gv) (pg : Addr) (hpg : Cells G pg [vg, .int .i64 ga, .int .i64 gb]) (hp1 : 0 ≤ p.1 ∧ p.1 < fv.length) (hp2 : 0 ≤ p.2 ∧ p.2 < gv.length) : CL Tryz.prog (nat_lit 109) #[.agg cp.toArray, .pointer (some pf), .pointer (some pg)] [] w G fun _ _ r => r = .bool (joinNe fv gv p) := by
  refine calls_of_go ft [] Tryz.func109 rfl rfl ?_
  have hS := St.start (X := []) hG
  obtain ⟨rfl, hb1, hb2⟩ := PairE_open hcp
  refine WL.boxG [.int .i64 p.1, .int .i64 p.2] _ hS rfl rfl rfl (fun p1 w1 G1 hle1 hsp1 hc1 hS1 => ?_)
  obtain ⟨p2, x1, hx1, he1, ep1⟩ := Sl.at (hvf.mono hle1) ((p.1).toNat) (by omega)
  obtain ⟨cs1, hc2, hr1⟩ := he1
  obtain ⟨rfl, hb3, hb4, hb5⟩ := ValE_open hr1
  obtain ⟨p3, x2, hx2, he2, ep2⟩ := Sl.at (hvg.mono hle1) ((p.2).toNat) (by omega)
  obtain ⟨cs2, hc3, hr2⟩ := he2
  obtain ⟨rfl, hb6, hb7, hb8⟩ := ValE_open hr2
  refine dr [(14, false)] [(6, vf), (7, .pointer (some (p1.add 0))), (8, .int .i64 p.1), (9, .pointer (some p2)), (10, .agg #[.int .i64 x1.k, .int .i64 x1.n, strV x1.s]), (12, vg), (13, .pointer (some (p1.add 1))), (14, .int .i64 p.2), (15, .pointer (some p3)), (16, .agg #[.int .i64 x2.k, .int .i64 x2.n, strV x2.s]), (17, .int .i64 (cmpC x1 x2)), (18, .bool (Cmp.b .neq (cmpC x1 x2) 0))] hS1 ⟨fun _ hSw => WL.loadG1 hSw (Cells.drop 0 (hpf.mono hle1)) ti61 rfl rfl rfl <| nu rfl rfl, fun _ => WL.indexAddrA _ 2 0 rfl ul87 ti3 rfl rfl rfl <| nu rfl rfl, fun _ hSw => WL.loadG1 hSw (Cells.drop 0 hc1) ti3 rfl rfl rfl <| nu rfl rfl, fun _ => WL.indexAddrP ((p.1).toNat) ep1 ul61 ti34 rfl rfl rfl (congrArg (Value.int .i64) (Int.toNat_of_nonneg (by omega)).symm) <| nu rfl rfl, fun _ hSw => WL.loadGAt hSw hc2 [.int .i64 x1.k, .int .i64 x1.n, strV x1.s] ti34 rfl rfl rfl rfl rfl <| nu rfl rfl, fun _ hSw => WL.loadG1 hSw (Cells.drop 0 (hpg.mono hle1)) ti61 rfl rfl rfl <| nu rfl rfl, fun _ => WL.indexAddrA _ 2 1 rfl ul87 ti3 rfl rfl rfl <| nu rfl rfl, fun _ hSw => WL.loadG1 hSw (Cells.drop 1 hc1) ti3 rfl rfl rfl <| nu rfl rfl, fun _ => WL.indexAddrP ((p.2).toNat) ep2 ul61 ti34 rfl rfl rfl (congrArg (Value.int .i64) (Int.toNat_of_nonneg (by omega)).symm) <| nu rfl rfl, fun _ hSw => WL.loadGAt hSw hc3 [.int .i64 x2.k, .int .i64 x2.n, strV x2.s] ti34 rfl rfl rfl rfl rfl <| nu rfl rfl, fun _ hSw => WL.callD hSw hb110 rfl rfl rfl (c_CompareVal hSw.imm x1 x2 _ (ValE_mk x1 hb3 hb4 hb5) _ (ValE_mk x2 hb6 hb7 hb8) ) rfl, fun _ => WL.cmp .neq rfl .i64 (cmpC x1 x2) 0 rfl rfl rfl <| nu rfl rfl, trivial⟩ (fun w2 hS2 => ?_)
  exact RB hS2 rfl (by rw [joinNe_at (by assumption) (by assumption)]; exact cmp_neq _ _)

theorem c_Join {G : GH} {w : World} (hG : G.In w) (a b : List Fact) (on : List (Int × Int)) (va : Value) (hva : Sl FactE 40 G va a) (vb : Value) (hvb : Sl FactE 40 G vb b) (vo : Value) (hvo : Sl PairE 16 G vo on)  : CL Tryz.prog (nat_lit 52) #[va, vb, vo] [] w G fun G' _ r => ∃ r0 r1, r = .tuple #[r0, r1] ∧ Sl FactE 40 G' r0 (joinL a b on) ∧ r1 = .int .i64 (joinE a b on) := by
  refine calls_of_go ft [] Tryz.func52 rfl rfl ?_
  have hS := St.start (X := []) hG
  refine WL.cV hS hb57 rfl rfl rfl (c_valid hS.imm a _ hva ) (fun w1 G1 hS1 hle1 => ?_)
  refine WL.split (fun (h1 : (validB a) = true) => ?_) (fun (h1 : (validB a) = false) => ?_)
  · refine WL.cV hS1 hb57 rfl rfl rfl (c_valid hS1.imm b _ (hvb.mono hle1) ) (fun w2 G2 hS2 hle2 => ?_)
    refine WL.split (fun (h2 : (validB b) = true) => ?_) (fun (h2 : (validB b) = false) => ?_)
    · have bd1 := hva.bound
      refine WL.lenSl (hva.mono (hle1.trans hle2)) ul22 rfl rfl ?_
      refine WL.eqlS (a.length : Int) 0 rfl rfl rfl (fun h3 => ?_) (fun h3 => ?_)
      · exact RT hS2 rfl ⟨_, _, rfl, (Sl.cast (Sl.nil FactE 40 G2) (by first | exact (join_invalid (.inl h1)).1.symm | exact (join_invalid (.inl h1)).2.symm | exact (join_invalid (.inr h2)).1.symm | exact (join_invalid (.inr h2)).2.symm | exact (join_empty h1 h2 (by omega)).1.symm | exact (join_empty h1 h2 (by omega)).2.symm | exact (join_range h1 h2 (by omega) (by omega) (by assumption) (okP_no (by omega))).1.symm | exact (join_range h1 h2 (by omega) (by omega) (by assumption) (okP_no (by omega))).2.symm | exact (join_kind h1 h2 (by omega) (by omega) hallB (by assumption) (by rw [hA, hB]; exact kindP_no (by assumption) (by assumption) (by assumption))).1.symm | exact (join_kind h1 h2 (by omega) (by omega) hallB (by assumption) (by rw [hA, hB]; exact kindP_no (by assumption) (by assumption) (by assumption))).2.symm | exact (join_wide h1 h2 (by omega) (by omega) hallB hallK (by omega)).1.symm | exact (join_wide h1 h2 (by omega) (by omega) hallB hallK (by omega)).2.symm | (rw [joinF_all (by omega)]; exact (join_go h1 h2 (by omega) (by omega) hallB hallK (by omega)).1.symm) | (rw [joinF_all (by omega)]; exact (join_go h1 h2 (by omega) (by omega) hallB hallK (by omega)).2.symm))), (congrArg (Value.int .i64) (by first | exact (join_invalid (.inl h1)).1.symm | exact (join_invalid (.inl h1)).2.symm | exact (join_invalid (.inr h2)).1.symm | exact (join_invalid (.inr h2)).2.symm | exact (join_empty h1 h2 (by omega)).1.symm | exact (join_empty h1 h2 (by omega)).2.symm | exact (join_range h1 h2 (by omega) (by omega) (by assumption) (okP_no (by omega))).1.symm | exact (join_range h1 h2 (by omega) (by omega) (by assumption) (okP_no (by omega))).2.symm | exact (join_kind h1 h2 (by omega) (by omega) hallB (by assumption) (by rw [hA, hB]; exact kindP_no (by assumption) (by assumption) (by assumption))).1.symm | exact (join_kind h1 h2 (by omega) (by omega) hallB (by assumption) (by rw [hA, hB]; exact kindP_no (by assumption) (by assumption) (by assumption))).2.symm | exact (join_wide h1 h2 (by omega) (by omega) hallB hallK (by omega)).1.symm | exact (join_wide h1 h2 (by omega) (by omega) hallB hallK (by omega)).2.symm | (rw [joinF_all (by omega)]; exact (join_go h1 h2 (by omega) (by omega) hallB hallK (by omega)).1.symm) | (rw [joinF_all (by omega)]; exact (join_go h1 h2 (by omega) (by omega) hallB hallK (by omega)).2.symm)))⟩
      have bd2 := hvb.bound
      refine WL.lenSl (hvb.mono (hle1.trans hle2)) ul22 rfl rfl ?_
      refine WL.eqlS (b.length : Int) 0 rfl rfl rfl (fun h4 => ?_) (fun h4 => ?_)
      · exact RT hS2 rfl ⟨_, _, rfl, (Sl.cast (Sl.nil FactE 40 G2) (by first | exact (join_invalid (.inl h1)).1.symm | exact (join_invalid (.inl h1)).2.symm | exact (join_invalid (.inr h2)).1.symm | exact (join_invalid (.inr h2)).2.symm | exact (join_empty h1 h2 (by omega)).1.symm | exact (join_empty h1 h2 (by omega)).2.symm | exact (join_range h1 h2 (by omega) (by omega) (by assumption) (okP_no (by omega))).1.symm | exact (join_range h1 h2 (by omega) (by omega) (by assumption) (okP_no (by omega))).2.symm | exact (join_kind h1 h2 (by omega) (by omega) hallB (by assumption) (by rw [hA, hB]; exact kindP_no (by assumption) (by assumption) (by assumption))).1.symm | exact (join_kind h1 h2 (by omega) (by omega) hallB (by assumption) (by rw [hA, hB]; exact kindP_no (by assumption) (by assumption) (by assumption))).2.symm | exact (join_wide h1 h2 (by omega) (by omega) hallB hallK (by omega)).1.symm | exact (join_wide h1 h2 (by omega) (by omega) hallB hallK (by omega)).2.symm | (rw [joinF_all (by omega)]; exact (join_go h1 h2 (by omega) (by omega) hallB hallK (by omega)).1.symm) | (rw [joinF_all (by omega)]; exact (join_go h1 h2 (by omega) (by omega) hallB hallK (by omega)).2.symm))), (congrArg (Value.int .i64) (by first | exact (join_invalid (.inl h1)).1.symm | exact (join_invalid (.inl h1)).2.symm | exact (join_invalid (.inr h2)).1.symm | exact (join_invalid (.inr h2)).2.symm | exact (join_empty h1 h2 (by omega)).1.symm | exact (join_empty h1 h2 (by omega)).2.symm | exact (join_range h1 h2 (by omega) (by omega) (by assumption) (okP_no (by omega))).1.symm | exact (join_range h1 h2 (by omega) (by omega) (by assumption) (okP_no (by omega))).2.symm | exact (join_kind h1 h2 (by omega) (by omega) hallB (by assumption) (by rw [hA, hB]; exact kindP_no (by assumption) (by assumption) (by assumption))).1.symm | exact (join_kind h1 h2 (by omega) (by omega) hallB (by assumption) (by rw [hA, hB]; exact kindP_no (by assumption) (by assumption) (by assumption))).2.symm | exact (join_wide h1 h2 (by omega) (by omega) hallB hallK (by omega)).1.symm | exact (join_wide h1 h2 (by omega) (by omega) hallB hallK (by omega)).2.symm | (rw [joinF_all (by omega)]; exact (join_go h1 h2 (by omega) (by omega) hallB hallK (by omega)).1.symm) | (rw [joinF_all (by omega)]; exact (join_go h1 h2 (by omega) (by omega) hallB hallK (by omega)).2.symm)))⟩
      obtain ⟨p1, x1, hx1, he1, ep1⟩ := Sl.at (hva.mono (hle1.trans hle2)) 0 (by omega)
      obtain ⟨cs1, hc1, hr1⟩ := he1
      obtain ⟨v1, rfl, hs1, hb1, hb2⟩ := FactE_open hr1
      have bd3 := hs1.bound
      obtain ⟨p2, x2, hx2, he2, ep2⟩ := Sl.at (hvb.mono (hle1.trans hle2)) 0 (by omega)
      obtain ⟨cs2, hc2, hr2⟩ := he2
      obtain ⟨v2, rfl, hs2, hb3, hb4⟩ := FactE_open hr2
      have bd4 := hs2.bound
      refine dr [(10, true), (11, false)] [(47, .pointer (some p1)), (49, v1), (50, .int .i64 (x1.v.length : Int)), (52, .pointer (some p2)), (54, v2), (55, .int .i64 (x2.v.length : Int))] hS2 ⟨fun _ => WL.indexAddrP 0 ep1 ul22 ti63 rfl rfl rfl rfl <| nu rfl rfl, fun _ hSw => WL.loadG1 hSw (Cells.drop 0 hc1) ti61 rfl rfl rfl <| nu rfl rfl, fun _ => WL.lenSl hs1 ul61 rfl rfl <| nu rfl rfl, fun _ => WL.indexAddrP 0 ep2 ul22 ti63 rfl rfl rfl rfl <| nu rfl rfl, fun _ hSw => WL.loadG1 hSw (Cells.drop 0 hc2) ti61 rfl rfl rfl <| nu rfl rfl, fun _ => WL.lenSl hs2 ul61 rfl rfl <| nu rfl rfl, trivial⟩ (fun w3 hS3 => ?_)
      refine WL.assign rfl ?_
      refine ⟨hS3.down hS3.le (G2.le_refl), ?_⟩
      have hA : headV a = x1.v := headV_of hx1
      have hB : headV b = x2.v := headV_of hx2
      have hal := valid_le h1
      have hbl := valid_le h2
      have hAl : (headV a).length = x1.v.length := by rw [hA]
      have hBl : (headV b).length = x2.v.length := by rw [hB]
      have bd5 := hvo.bound
      refine WL.lenSl (hvo.mono (hle1.trans hle2)) ul88 rfl rfl ?_
      refine LP.go ft [] (fun m ρ1 w1 => ∃ (k1 : Nat), ∃ (G3 : GH), m = on.length - k1 ∧ G2.le G3 ∧ St w [] G G3 [] w1 ∧ FR ρ1 [(0, va), (1, vb), (2, vo), (8, .int .i64 (x1.v.length : Int)), (9, .int .i64 (x2.v.length : Int)), (56, vo), (57, .int .i64 (on.length : Int)), (58, .int .i64 (k1 : Int))] ∧ k1 ≤ on.length ∧ ∀ j, j < k1 → ∀ p, on[j]? = some p → okP (headV a).length (headV b).length p = true) _ ⟨0, G2, rfl, (G2.le_refl), hS3, ⟨rfl, rfl, rfl, rfl, rfl, rfl, rfl, rfl, trivial⟩, (by omega), (by intro j hj; omega)⟩ ?_
      rintro m ρ1 w4 ⟨k1, G3, rfl, hle3, hS4, hF9, f1, f2⟩
      refine hF9.set ?_
      clear hF9
      refine WL.lssS (k1 : Int) (on.length : Int) rfl rfl rfl (fun h5 => ?_) (fun h5 => ?_)
      · refine WL.indexAddr (hvo.mono ((hle1.trans hle2).trans hle3)) k1 (by omega) ul88 ti87 rfl rfl rfl rfl (fun p3 x3 hx3 he3 => ?_)
        obtain ⟨cs3, hc3, hr3⟩ := he3
        obtain ⟨rfl, hb5, hb6⟩ := PairE_open hr3
        refine WL.loadGAt hS4 hc3 [.int .i64 x3.1, .int .i64 x3.2] ti87 rfl rfl rfl rfl rfl ?_
        refine WL.alloc hS4 ti87 rfl rfl (fun b1 w5 hn1 hS5 => ?_)
        refine WL.store hS5 0 _ _ _ 0 _ [.int .i64 x3.1, .int .i64 x3.2] [.int .i64 x3.1, .int .i64 x3.2] _ rfl rfl ti87 rfl (Nat.le_of_ble_eq_true rfl) rfl rfl rfl rfl rfl rfl (fun w6 hS6 => ?_)
        obtain ⟨G4, hle4, hc4, hS7⟩ := hS6.shutB hn1
        refine WL.indexAddrA _ 2 0 rfl ul87 ti3 rfl rfl rfl ?_
        refine WL.loadG1 hS7 (Cells.drop 0 hc4) ti3 rfl rfl rfl ?_
        refine WL.lssS x3.1 0 rfl rfl rfl (fun h6 => ?_) (fun h6 => ?_)
        · exact RT hS7 rfl ⟨_, _, rfl, (Sl.cast (Sl.nil FactE 40 G4) (by first | exact (join_invalid (.inl h1)).1.symm | exact (join_invalid (.inl h1)).2.symm | exact (join_invalid (.inr h2)).1.symm | exact (join_invalid (.inr h2)).2.symm | exact (join_empty h1 h2 (by omega)).1.symm | exact (join_empty h1 h2 (by omega)).2.symm | exact (join_range h1 h2 (by omega) (by omega) (by assumption) (okP_no (by omega))).1.symm | exact (join_range h1 h2 (by omega) (by omega) (by assumption) (okP_no (by omega))).2.symm | exact (join_kind h1 h2 (by omega) (by omega) hallB (by assumption) (by rw [hA, hB]; exact kindP_no (by assumption) (by assumption) (by assumption))).1.symm | exact (join_kind h1 h2 (by omega) (by omega) hallB (by assumption) (by rw [hA, hB]; exact kindP_no (by assumption) (by assumption) (by assumption))).2.symm | exact (join_wide h1 h2 (by omega) (by omega) hallB hallK (by omega)).1.symm | exact (join_wide h1 h2 (by omega) (by omega) hallB hallK (by omega)).2.symm | (rw [joinF_all (by omega)]; exact (join_go h1 h2 (by omega) (by omega) hallB hallK (by omega)).1.symm) | (rw [joinF_all (by omega)]; exact (join_go h1 h2 (by omega) (by omega) hallB hallK (by omega)).2.symm))), (congrArg (Value.int .i64) (by first | exact (join_invalid (.inl h1)).1.symm | exact (join_invalid (.inl h1)).2.symm | exact (join_invalid (.inr h2)).1.symm | exact (join_invalid (.inr h2)).2.symm | exact (join_empty h1 h2 (by omega)).1.symm | exact (join_empty h1 h2 (by omega)).2.symm | exact (join_range h1 h2 (by omega) (by omega) (by assumption) (okP_no (by omega))).1.symm | exact (join_range h1 h2 (by omega) (by omega) (by assumption) (okP_no (by omega))).2.symm | exact (join_kind h1 h2 (by omega) (by omega) hallB (by assumption) (by rw [hA, hB]; exact kindP_no (by assumption) (by assumption) (by assumption))).1.symm | exact (join_kind h1 h2 (by omega) (by omega) hallB (by assumption) (by rw [hA, hB]; exact kindP_no (by assumption) (by assumption) (by assumption))).2.symm | exact (join_wide h1 h2 (by omega) (by omega) hallB hallK (by omega)).1.symm | exact (join_wide h1 h2 (by omega) (by omega) hallB hallK (by omega)).2.symm | (rw [joinF_all (by omega)]; exact (join_go h1 h2 (by omega) (by omega) hallB hallK (by omega)).1.symm) | (rw [joinF_all (by omega)]; exact (join_go h1 h2 (by omega) (by omega) hallB hallK (by omega)).2.symm)))⟩
        refine WL.indexAddrA _ 2 0 rfl ul87 ti3 rfl rfl rfl ?_
        refine WL.loadG1 hS7 (Cells.drop 0 hc4) ti3 rfl rfl rfl ?_
        refine WL.geqS x3.1 (x1.v.length : Int) rfl rfl rfl (fun h7 => ?_) (fun h7 => ?_)
        · exact RT hS7 rfl ⟨_, _, rfl, (Sl.cast (Sl.nil FactE 40 G4) (by first | exact (join_invalid (.inl h1)).1.symm | exact (join_invalid (.inl h1)).2.symm | exact (join_invalid (.inr h2)).1.symm | exact (join_invalid (.inr h2)).2.symm | exact (join_empty h1 h2 (by omega)).1.symm | exact (join_empty h1 h2 (by omega)).2.symm | exact (join_range h1 h2 (by omega) (by omega) (by assumption) (okP_no (by omega))).1.symm | exact (join_range h1 h2 (by omega) (by omega) (by assumption) (okP_no (by omega))).2.symm | exact (join_kind h1 h2 (by omega) (by omega) hallB (by assumption) (by rw [hA, hB]; exact kindP_no (by assumption) (by assumption) (by assumption))).1.symm | exact (join_kind h1 h2 (by omega) (by omega) hallB (by assumption) (by rw [hA, hB]; exact kindP_no (by assumption) (by assumption) (by assumption))).2.symm | exact (join_wide h1 h2 (by omega) (by omega) hallB hallK (by omega)).1.symm | exact (join_wide h1 h2 (by omega) (by omega) hallB hallK (by omega)).2.symm | (rw [joinF_all (by omega)]; exact (join_go h1 h2 (by omega) (by omega) hallB hallK (by omega)).1.symm) | (rw [joinF_all (by omega)]; exact (join_go h1 h2 (by omega) (by omega) hallB hallK (by omega)).2.symm))), (congrArg (Value.int .i64) (by first | exact (join_invalid (.inl h1)).1.symm | exact (join_invalid (.inl h1)).2.symm | exact (join_invalid (.inr h2)).1.symm | exact (join_invalid (.inr h2)).2.symm | exact (join_empty h1 h2 (by omega)).1.symm | exact (join_empty h1 h2 (by omega)).2.symm | exact (join_range h1 h2 (by omega) (by omega) (by assumption) (okP_no (by omega))).1.symm | exact (join_range h1 h2 (by omega) (by omega) (by assumption) (okP_no (by omega))).2.symm | exact (join_kind h1 h2 (by omega) (by omega) hallB (by assumption) (by rw [hA, hB]; exact kindP_no (by assumption) (by assumption) (by assumption))).1.symm | exact (join_kind h1 h2 (by omega) (by omega) hallB (by assumption) (by rw [hA, hB]; exact kindP_no (by assumption) (by assumption) (by assumption))).2.symm | exact (join_wide h1 h2 (by omega) (by omega) hallB hallK (by omega)).1.symm | exact (join_wide h1 h2 (by omega) (by omega) hallB hallK (by omega)).2.symm | (rw [joinF_all (by omega)]; exact (join_go h1 h2 (by omega) (by omega) hallB hallK (by omega)).1.symm) | (rw [joinF_all (by omega)]; exact (join_go h1 h2 (by omega) (by omega) hallB hallK (by omega)).2.symm)))⟩
        refine WL.indexAddrA _ 2 1 rfl ul87 ti3 rfl rfl rfl ?_
        refine WL.loadG1 hS7 (Cells.drop 1 hc4) ti3 rfl rfl rfl ?_
        refine WL.lssS x3.2 0 rfl rfl rfl (fun h8 => ?_) (fun h8 => ?_)
        · exact RT hS7 rfl ⟨_, _, rfl, (Sl.cast (Sl.nil FactE 40 G4) (by first | exact (join_invalid (.inl h1)).1.symm | exact (join_invalid (.inl h1)).2.symm | exact (join_invalid (.inr h2)).1.symm | exact (join_invalid (.inr h2)).2.symm | exact (join_empty h1 h2 (by omega)).1.symm | exact (join_empty h1 h2 (by omega)).2.symm | exact (join_range h1 h2 (by omega) (by omega) (by assumption) (okP_no (by omega))).1.symm | exact (join_range h1 h2 (by omega) (by omega) (by assumption) (okP_no (by omega))).2.symm | exact (join_kind h1 h2 (by omega) (by omega) hallB (by assumption) (by rw [hA, hB]; exact kindP_no (by assumption) (by assumption) (by assumption))).1.symm | exact (join_kind h1 h2 (by omega) (by omega) hallB (by assumption) (by rw [hA, hB]; exact kindP_no (by assumption) (by assumption) (by assumption))).2.symm | exact (join_wide h1 h2 (by omega) (by omega) hallB hallK (by omega)).1.symm | exact (join_wide h1 h2 (by omega) (by omega) hallB hallK (by omega)).2.symm | (rw [joinF_all (by omega)]; exact (join_go h1 h2 (by omega) (by omega) hallB hallK (by omega)).1.symm) | (rw [joinF_all (by omega)]; exact (join_go h1 h2 (by omega) (by omega) hallB hallK (by omega)).2.symm))), (congrArg (Value.int .i64) (by first | exact (join_invalid (.inl h1)).1.symm | exact (join_invalid (.inl h1)).2.symm | exact (join_invalid (.inr h2)).1.symm | exact (join_invalid (.inr h2)).2.symm | exact (join_empty h1 h2 (by omega)).1.symm | exact (join_empty h1 h2 (by omega)).2.symm | exact (join_range h1 h2 (by omega) (by omega) (by assumption) (okP_no (by omega))).1.symm | exact (join_range h1 h2 (by omega) (by omega) (by assumption) (okP_no (by omega))).2.symm | exact (join_kind h1 h2 (by omega) (by omega) hallB (by assumption) (by rw [hA, hB]; exact kindP_no (by assumption) (by assumption) (by assumption))).1.symm | exact (join_kind h1 h2 (by omega) (by omega) hallB (by assumption) (by rw [hA, hB]; exact kindP_no (by assumption) (by assumption) (by assumption))).2.symm | exact (join_wide h1 h2 (by omega) (by omega) hallB hallK (by omega)).1.symm | exact (join_wide h1 h2 (by omega) (by omega) hallB hallK (by omega)).2.symm | (rw [joinF_all (by omega)]; exact (join_go h1 h2 (by omega) (by omega) hallB hallK (by omega)).1.symm) | (rw [joinF_all (by omega)]; exact (join_go h1 h2 (by omega) (by omega) hallB hallK (by omega)).2.symm)))⟩
        refine WL.indexAddrA _ 2 1 rfl ul87 ti3 rfl rfl rfl ?_
        refine WL.loadG1 hS7 (Cells.drop 1 hc4) ti3 rfl rfl rfl ?_
        refine WL.geqS x3.2 (x2.v.length : Int) rfl rfl rfl (fun h9 => ?_) (fun h9 => ?_)
        · exact RT hS7 rfl ⟨_, _, rfl, (Sl.cast (Sl.nil FactE 40 G4) (by first | exact (join_invalid (.inl h1)).1.symm | exact (join_invalid (.inl h1)).2.symm | exact (join_invalid (.inr h2)).1.symm | exact (join_invalid (.inr h2)).2.symm | exact (join_empty h1 h2 (by omega)).1.symm | exact (join_empty h1 h2 (by omega)).2.symm | exact (join_range h1 h2 (by omega) (by omega) (by assumption) (okP_no (by omega))).1.symm | exact (join_range h1 h2 (by omega) (by omega) (by assumption) (okP_no (by omega))).2.symm | exact (join_kind h1 h2 (by omega) (by omega) hallB (by assumption) (by rw [hA, hB]; exact kindP_no (by assumption) (by assumption) (by assumption))).1.symm | exact (join_kind h1 h2 (by omega) (by omega) hallB (by assumption) (by rw [hA, hB]; exact kindP_no (by assumption) (by assumption) (by assumption))).2.symm | exact (join_wide h1 h2 (by omega) (by omega) hallB hallK (by omega)).1.symm | exact (join_wide h1 h2 (by omega) (by omega) hallB hallK (by omega)).2.symm | (rw [joinF_all (by omega)]; exact (join_go h1 h2 (by omega) (by omega) hallB hallK (by omega)).1.symm) | (rw [joinF_all (by omega)]; exact (join_go h1 h2 (by omega) (by omega) hallB hallK (by omega)).2.symm))), (congrArg (Value.int .i64) (by first | exact (join_invalid (.inl h1)).1.symm | exact (join_invalid (.inl h1)).2.symm | exact (join_invalid (.inr h2)).1.symm | exact (join_invalid (.inr h2)).2.symm | exact (join_empty h1 h2 (by omega)).1.symm | exact (join_empty h1 h2 (by omega)).2.symm | exact (join_range h1 h2 (by omega) (by omega) (by assumption) (okP_no (by omega))).1.symm | exact (join_range h1 h2 (by omega) (by omega) (by assumption) (okP_no (by omega))).2.symm | exact (join_kind h1 h2 (by omega) (by omega) hallB (by assumption) (by rw [hA, hB]; exact kindP_no (by assumption) (by assumption) (by assumption))).1.symm | exact (join_kind h1 h2 (by omega) (by omega) hallB (by assumption) (by rw [hA, hB]; exact kindP_no (by assumption) (by assumption) (by assumption))).2.symm | exact (join_wide h1 h2 (by omega) (by omega) hallB hallK (by omega)).1.symm | exact (join_wide h1 h2 (by omega) (by omega) hallB hallK (by omega)).2.symm | (rw [joinF_all (by omega)]; exact (join_go h1 h2 (by omega) (by omega) hallB hallK (by omega)).1.symm) | (rw [joinF_all (by omega)]; exact (join_go h1 h2 (by omega) (by omega) hallB hallK (by omega)).2.symm)))⟩
        refine WL.incr k1 (by have hreach : reach = 140737488355328 := rfl; omega) rfl rfl rfl ?_
        exact BK.mk' _ ⟨k1 + 1, G4, rfl, (hle3.trans hle4), hS7, ⟨rfl, rfl, rfl, rfl, rfl, rfl, rfl, rfl, trivial⟩, (by omega), (by exact lt_step (by assumption) (by assumption) (okP_yes (by omega) (by omega) (by omega) (by omega)))⟩ (show on.length - (k1 + 1) < on.length - k1 by omega)
      have hall : ∀ p ∈ on, okP (headV a).length (headV b).length p = true := lt_all (by assumption) (by omega)
      have hallB : on.all (okP (headV a).length (headV b).length) = true := List.all_eq_true.2 hall
      refine LP.go ft [] (fun m ρ1 w1 => ∃ (k2 : Nat), ∃ (c : Nat), ∃ (G5 : GH), m = x2.v.length - k2 ∧ G3.le G5 ∧ St w [] G G5 [] w1 ∧ FR ρ1 [(0, va), (1, vb), (2, vo), (8, .int .i64 (x1.v.length : Int)), (12, .int .i64 (c : Int)), (84, .int .i64 (x2.v.length : Int)), (85, .int .i64 (k2 : Int))] ∧ k2 ≤ x2.v.length ∧ c + onN on k2 = (headV b).length) _ ⟨0, x2.v.length, G3, rfl, (G3.le_refl), hS4, ⟨rfl, rfl, rfl, rfl, rfl, rfl, rfl, trivial⟩, (by omega), (by simp [onN]; omega)⟩ ?_
      rintro m ρ1 w7 ⟨k2, c, G5, rfl, hle5, hS8, hF9, f3, f4⟩
      refine hF9.set ?_
      clear hF9
      have hcn := onN_le on k2
      refine WL.lssS (k2 : Int) (x2.v.length : Int) rfl rfl rfl (fun h10 => ?_) (fun h10 => ?_)
      · refine WL.alloc hS8 ti3 rfl rfl (fun b2 w8 hn2 hS9 => ?_)
        refine WL.store hS9 0 _ _ _ 0 _ [.int .i64 (k2 : Int)] [.int .i64 (k2 : Int)] _ rfl rfl ti3 rfl (Nat.le_of_ble_eq_true rfl) rfl rfl rfl rfl rfl rfl (fun w9 hS10 => ?_)
        obtain ⟨G6, hle6, hc5, hS11⟩ := hS10.shutB hn2
        refine WL.cV hS11 hb107 rfl rfl rfl (c_ContainsP hS11.imm on (fun x8 => decide (x8.2 = (k2 : Int))) _ (hvo.mono ((((hle1.trans hle2).trans hle3).trans hle5).trans hle6)) 108 #[.pointer (some (⟨b2, 0, none⟩ : Addr))] ⟨hb108, fun G8 w8 v8 x8 hle8 hG8 hon8 hA8 => by obtain ⟨cs_x8, rfl, hr_x8⟩ := hA8; exact c_join1 hG8 x8 (k2 : Int) cs_x8 hr_x8  (⟨b2, 0, none⟩ : Addr) (hc5.mono hle8) ⟩ ) (fun w10 G7 hS12 hle7 => ?_)
        refine WL.split (fun (h11 : (on.any (fun x8 => decide (x8.2 = (k2 : Int)))) = true) => ?_) (fun (h11 : (on.any (fun x8 => decide (x8.2 = (k2 : Int)))) = false) => ?_)
        · refine WL.decr c (by omega) (by have hreach : reach = 140737488355328 := rfl; omega) rfl rfl rfl ?_
          refine WL.incr k2 (by have hreach : reach = 140737488355328 := rfl; omega) rfl rfl rfl ?_
          exact BK.mk' _ ⟨k2 + 1, c - 1, G7, rfl, (hle5.trans (hle6.trans hle7)), hS12, ⟨rfl, rfl, rfl, rfl, rfl, rfl, rfl, trivial⟩, (by omega), (by have hq := onN_step (on := on) (k := k2); unfold onB at hq; first | (rw [if_pos (by assumption)] at hq; omega) | (rw [if_neg (Bool.eq_false_iff.1 (by assumption))] at hq; omega))⟩ (show x2.v.length - (k2 + 1) < x2.v.length - k2 by omega)
        refine WL.incr k2 (by have hreach : reach = 140737488355328 := rfl; omega) rfl rfl rfl ?_
        exact BK.mk' _ ⟨k2 + 1, c, G7, rfl, (hle5.trans (hle6.trans hle7)), hS12, ⟨rfl, rfl, rfl, rfl, rfl, rfl, rfl, trivial⟩, (by omega), (by have hq := onN_step (on := on) (k := k2); unfold onB at hq; first | (rw [if_pos (by assumption)] at hq; omega) | (rw [if_neg (Bool.eq_false_iff.1 (by assumption))] at hq; omega))⟩ (show x2.v.length - (k2 + 1) < x2.v.length - k2 by omega)
      have e8 : k2 = (headV b).length := by omega
      have hcc : c + onN on (headV b).length = (headV b).length := by rw [← e8]; omega
      have bd6 := hvo.bound
      refine WL.lenSl (hvo.mono (((hle1.trans hle2).trans hle3).trans hle5)) ul88 rfl rfl ?_
      refine LP.go ft [] (fun m ρ1 w1 => ∃ (k3 : Nat), ∃ (G8 : GH), m = on.length - k3 ∧ G5.le G8 ∧ St w [] G G8 [] w1 ∧ FR ρ1 [(0, va), (1, vb), (2, vo), (8, .int .i64 (x1.v.length : Int)), (12, .int .i64 (c : Int)), (94, vo), (95, .int .i64 (on.length : Int)), (96, .int .i64 (k3 : Int))] ∧ k3 ≤ on.length ∧ ∀ j, j < k3 → ∀ p, on[j]? = some p → kindP (headV a) (headV b) p = true) _ ⟨0, G5, rfl, (G5.le_refl), hS8, ⟨rfl, rfl, rfl, rfl, rfl, rfl, rfl, rfl, trivial⟩, (by omega), (by intro j hj; omega)⟩ ?_
      rintro m ρ1 w11 ⟨k3, G8, rfl, hle8, hS13, hF9, f5, f6⟩
      refine hF9.set ?_
      clear hF9
      refine WL.lssS (k3 : Int) (on.length : Int) rfl rfl rfl (fun h12 => ?_) (fun h12 => ?_)
      · refine WL.indexAddr (hvo.mono ((((hle1.trans hle2).trans hle3).trans hle5).trans hle8)) k3 (by omega) ul88 ti87 rfl rfl rfl rfl (fun p4 x4 hx4 he4 => ?_)
        obtain ⟨cs4, hc6, hr4⟩ := he4
        obtain ⟨rfl, hb7, hb8⟩ := PairE_open hr4
        refine WL.loadGAt hS13 hc6 [.int .i64 x4.1, .int .i64 x4.2] ti87 rfl rfl rfl rfl rfl ?_
        refine WL.alloc hS13 ti87 rfl rfl (fun b3 w12 hn3 hS14 => ?_)
        refine WL.store hS14 0 _ _ _ 0 _ [.int .i64 x4.1, .int .i64 x4.2] [.int .i64 x4.1, .int .i64 x4.2] _ rfl rfl ti87 rfl (Nat.le_of_ble_eq_true rfl) rfl rfl rfl rfl rfl rfl (fun w13 hS15 => ?_)
        obtain ⟨G9, hle9, hc7, hS16⟩ := hS15.shutB hn3
        have hok := okP_iff.1 (hall x4 (List.mem_of_getElem? hx4))
        obtain ⟨p5, x5, hx5, he5, ep3⟩ := Sl.at (hva.mono (((((hle1.trans hle2).trans hle3).trans hle5).trans hle8).trans hle9)) 0 (by omega)
        obtain rfl : x1 = x5 := Option.some.inj (hx1.symm.trans hx5)
        obtain ⟨cs5, hc8, hr5⟩ := he5
        obtain ⟨v3, rfl, hs3, hb9, hb10⟩ := FactE_open hr5
        obtain ⟨p6, x6, hx6, he6, ep4⟩ := Sl.at hs3 ((x4.1).toNat) (by omega)
        obtain ⟨cs6, hc9, hr6⟩ := he6
        obtain ⟨rfl, hb11, hb12, hb13⟩ := ValE_open hr6
        obtain ⟨p7, x7, hx7, he7, ep5⟩ := Sl.at (hvb.mono (((((hle1.trans hle2).trans hle3).trans hle5).trans hle8).trans hle9)) 0 (by omega)
        obtain rfl : x2 = x7 := Option.some.inj (hx2.symm.trans hx7)
        obtain ⟨cs7, hc10, hr7⟩ := he7
        obtain ⟨v4, rfl, hs4, hb14, hb15⟩ := FactE_open hr7
        obtain ⟨p8, x8, hx8, he8, ep6⟩ := Sl.at hs4 ((x4.2).toNat) (by omega)
        obtain ⟨cs8, hc11, hr8⟩ := he8
        obtain ⟨rfl, hb16, hb17, hb18⟩ := ValE_open hr8
        rcases Cmp.dec .neq x6.k x8.k with ⟨hb19, q1⟩ | ⟨hb19, q1⟩
        · have h13 : x6.k ≠ x8.k := q1
          clear q1
          refine dr [] [(101, .pointer (some p5)), (103, v3), (104, .pointer (some ((⟨b3, 0, none⟩ : Addr).add 0))), (105, .int .i64 x4.1), (106, .pointer (some p6)), (108, .int .i64 x6.k), (110, .pointer (some p7)), (112, v4), (113, .pointer (some ((⟨b3, 0, none⟩ : Addr).add 1))), (114, .int .i64 x4.2), (115, .pointer (some p8)), (117, .int .i64 x8.k), (118, .bool true)] hS16 ⟨fun _ => WL.indexAddrP 0 ep3 ul22 ti63 rfl rfl rfl rfl <| nu rfl rfl, fun _ hSw => WL.loadG1 hSw (Cells.drop 0 hc8) ti61 rfl rfl rfl <| nu rfl rfl, fun _ => WL.indexAddrA _ 2 0 rfl ul87 ti3 rfl rfl rfl <| nu rfl rfl, fun _ hSw => WL.loadG1 hSw (Cells.drop 0 hc7) ti3 rfl rfl rfl <| nu rfl rfl, fun _ => WL.indexAddrP ((x4.1).toNat) ep4 ul61 ti34 rfl rfl rfl (congrArg (Value.int .i64) (Int.toNat_of_nonneg (by omega)).symm) <| nu rfl rfl, fun _ hSw => WL.loadG1 hSw (Cells.drop 0 hc9) ti3 rfl rfl rfl <| nu rfl rfl, fun _ => WL.indexAddrP 0 ep5 ul22 ti63 rfl rfl rfl rfl <| nu rfl rfl, fun _ hSw => WL.loadG1 hSw (Cells.drop 0 hc10) ti61 rfl rfl rfl <| nu rfl rfl, fun _ => WL.indexAddrA _ 2 1 rfl ul87 ti3 rfl rfl rfl <| nu rfl rfl, fun _ hSw => WL.loadG1 hSw (Cells.drop 1 hc7) ti3 rfl rfl rfl <| nu rfl rfl, fun _ => WL.indexAddrP ((x4.2).toNat) ep6 ul61 ti34 rfl rfl rfl (congrArg (Value.int .i64) (Int.toNat_of_nonneg (by omega)).symm) <| nu rfl rfl, fun _ hSw => WL.loadG1 hSw (Cells.drop 0 hc11) ti3 rfl rfl rfl <| nu rfl rfl, fun _ => WL.cmpV .neq rfl .i64 x6.k x8.k _ hb19 rfl rfl rfl <| nu rfl rfl, trivial⟩ (fun w14 hS17 => ?_)
          exact RT hS17 rfl ⟨_, _, rfl, (Sl.cast (Sl.nil FactE 40 G9) (by first | exact (join_invalid (.inl h1)).1.symm | exact (join_invalid (.inl h1)).2.symm | exact (join_invalid (.inr h2)).1.symm | exact (join_invalid (.inr h2)).2.symm | exact (join_empty h1 h2 (by omega)).1.symm | exact (join_empty h1 h2 (by omega)).2.symm | exact (join_range h1 h2 (by omega) (by omega) (by assumption) (okP_no (by omega))).1.symm | exact (join_range h1 h2 (by omega) (by omega) (by assumption) (okP_no (by omega))).2.symm | exact (join_kind h1 h2 (by omega) (by omega) hallB (by assumption) (by rw [hA, hB]; exact kindP_no (by assumption) (by assumption) (by assumption))).1.symm | exact (join_kind h1 h2 (by omega) (by omega) hallB (by assumption) (by rw [hA, hB]; exact kindP_no (by assumption) (by assumption) (by assumption))).2.symm | exact (join_wide h1 h2 (by omega) (by omega) hallB hallK (by omega)).1.symm | exact (join_wide h1 h2 (by omega) (by omega) hallB hallK (by omega)).2.symm | (rw [joinF_all (by omega)]; exact (join_go h1 h2 (by omega) (by omega) hallB hallK (by omega)).1.symm) | (rw [joinF_all (by omega)]; exact (join_go h1 h2 (by omega) (by omega) hallB hallK (by omega)).2.symm))), (congrArg (Value.int .i64) (by first | exact (join_invalid (.inl h1)).1.symm | exact (join_invalid (.inl h1)).2.symm | exact (join_invalid (.inr h2)).1.symm | exact (join_invalid (.inr h2)).2.symm | exact (join_empty h1 h2 (by omega)).1.symm | exact (join_empty h1 h2 (by omega)).2.symm | exact (join_range h1 h2 (by omega) (by omega) (by assumption) (okP_no (by omega))).1.symm | exact (join_range h1 h2 (by omega) (by omega) (by assumption) (okP_no (by omega))).2.symm | exact (join_kind h1 h2 (by omega) (by omega) hallB (by assumption) (by rw [hA, hB]; exact kindP_no (by assumption) (by assumption) (by assumption))).1.symm | exact (join_kind h1 h2 (by omega) (by omega) hallB (by assumption) (by rw [hA, hB]; exact kindP_no (by assumption) (by assumption) (by assumption))).2.symm | exact (join_wide h1 h2 (by omega) (by omega) hallB hallK (by omega)).1.symm | exact (join_wide h1 h2 (by omega) (by omega) hallB hallK (by omega)).2.symm | (rw [joinF_all (by omega)]; exact (join_go h1 h2 (by omega) (by omega) hallB hallK (by omega)).1.symm) | (rw [joinF_all (by omega)]; exact (join_go h1 h2 (by omega) (by omega) hallB hallK (by omega)).2.symm)))⟩
        have h13 : x6.k = x8.k := q1
        clear q1
        refine dr [] [(101, .pointer (some p5)), (103, v3), (104, .pointer (some ((⟨b3, 0, none⟩ : Addr).add 0))), (105, .int .i64 x4.1), (106, .pointer (some p6)), (108, .int .i64 x6.k), (110, .pointer (some p7)), (112, v4), (113, .pointer (some ((⟨b3, 0, none⟩ : Addr).add 1))), (114, .int .i64 x4.2), (115, .pointer (some p8)), (117, .int .i64 x8.k), (118, .bool false)] hS16 ⟨fun _ => WL.indexAddrP 0 ep3 ul22 ti63 rfl rfl rfl rfl <| nu rfl rfl, fun _ hSw => WL.loadG1 hSw (Cells.drop 0 hc8) ti61 rfl rfl rfl <| nu rfl rfl, fun _ => WL.indexAddrA _ 2 0 rfl ul87 ti3 rfl rfl rfl <| nu rfl rfl, fun _ hSw => WL.loadG1 hSw (Cells.drop 0 hc7) ti3 rfl rfl rfl <| nu rfl rfl, fun _ => WL.indexAddrP ((x4.1).toNat) ep4 ul61 ti34 rfl rfl rfl (congrArg (Value.int .i64) (Int.toNat_of_nonneg (by omega)).symm) <| nu rfl rfl, fun _ hSw => WL.loadG1 hSw (Cells.drop 0 hc9) ti3 rfl rfl rfl <| nu rfl rfl, fun _ => WL.indexAddrP 0 ep5 ul22 ti63 rfl rfl rfl rfl <| nu rfl rfl, fun _ hSw => WL.loadG1 hSw (Cells.drop 0 hc10) ti61 rfl rfl rfl <| nu rfl rfl, fun _ => WL.indexAddrA _ 2 1 rfl ul87 ti3 rfl rfl rfl <| nu rfl rfl, fun _ hSw => WL.loadG1 hSw (Cells.drop 1 hc7) ti3 rfl rfl rfl <| nu rfl rfl, fun _ => WL.indexAddrP ((x4.2).toNat) ep6 ul61 ti34 rfl rfl rfl (congrArg (Value.int .i64) (Int.toNat_of_nonneg (by omega)).symm) <| nu rfl rfl, fun _ hSw => WL.loadG1 hSw (Cells.drop 0 hc11) ti3 rfl rfl rfl <| nu rfl rfl, fun _ => WL.cmpV .neq rfl .i64 x6.k x8.k _ hb19 rfl rfl rfl <| nu rfl rfl, trivial⟩ (fun w15 hS18 => ?_)
        refine WL.incr k3 (by have hreach : reach = 140737488355328 := rfl; omega) rfl rfl rfl ?_
        exact BK.mk' _ ⟨k3 + 1, G9, rfl, (hle8.trans hle9), hS18, ⟨rfl, rfl, rfl, rfl, rfl, rfl, rfl, rfl, trivial⟩, (by omega), (by exact lt_step (by assumption) (by assumption) (by rw [hA, hB]; exact kindP_yes (by assumption) (by assumption) (by assumption)))⟩ (show on.length - (k3 + 1) < on.length - k3 by omega)
      have hallK : on.all (kindP (headV a) (headV b)) = true := List.all_eq_true.2 (lt_all (by assumption) (by omega))
      refine WL.addN x1.v.length c (by have hreach : reach = 140737488355328 := rfl; omega) rfl rfl rfl ?_
      refine WL.gtrS ((x1.v.length + c : Nat) : Int) 8 rfl rfl rfl (fun h14 => ?_) (fun h14 => ?_)
      · exact RT hS13 rfl ⟨_, _, rfl, (Sl.cast (Sl.nil FactE 40 G8) (by first | exact (join_invalid (.inl h1)).1.symm | exact (join_invalid (.inl h1)).2.symm | exact (join_invalid (.inr h2)).1.symm | exact (join_invalid (.inr h2)).2.symm | exact (join_empty h1 h2 (by omega)).1.symm | exact (join_empty h1 h2 (by omega)).2.symm | exact (join_range h1 h2 (by omega) (by omega) (by assumption) (okP_no (by omega))).1.symm | exact (join_range h1 h2 (by omega) (by omega) (by assumption) (okP_no (by omega))).2.symm | exact (join_kind h1 h2 (by omega) (by omega) hallB (by assumption) (by rw [hA, hB]; exact kindP_no (by assumption) (by assumption) (by assumption))).1.symm | exact (join_kind h1 h2 (by omega) (by omega) hallB (by assumption) (by rw [hA, hB]; exact kindP_no (by assumption) (by assumption) (by assumption))).2.symm | exact (join_wide h1 h2 (by omega) (by omega) hallB hallK (by omega)).1.symm | exact (join_wide h1 h2 (by omega) (by omega) hallB hallK (by omega)).2.symm | (rw [joinF_all (by omega)]; exact (join_go h1 h2 (by omega) (by omega) hallB hallK (by omega)).1.symm) | (rw [joinF_all (by omega)]; exact (join_go h1 h2 (by omega) (by omega) hallB hallK (by omega)).2.symm))), (congrArg (Value.int .i64) (by first | exact (join_invalid (.inl h1)).1.symm | exact (join_invalid (.inl h1)).2.symm | exact (join_invalid (.inr h2)).1.symm | exact (join_invalid (.inr h2)).2.symm | exact (join_empty h1 h2 (by omega)).1.symm | exact (join_empty h1 h2 (by omega)).2.symm | exact (join_range h1 h2 (by omega) (by omega) (by assumption) (okP_no (by omega))).1.symm | exact (join_range h1 h2 (by omega) (by omega) (by assumption) (okP_no (by omega))).2.symm | exact (join_kind h1 h2 (by omega) (by omega) hallB (by assumption) (by rw [hA, hB]; exact kindP_no (by assumption) (by assumption) (by assumption))).1.symm | exact (join_kind h1 h2 (by omega) (by omega) hallB (by assumption) (by rw [hA, hB]; exact kindP_no (by assumption) (by assumption) (by assumption))).2.symm | exact (join_wide h1 h2 (by omega) (by omega) hallB hallK (by omega)).1.symm | exact (join_wide h1 h2 (by omega) (by omega) hallB hallK (by omega)).2.symm | (rw [joinF_all (by omega)]; exact (join_go h1 h2 (by omega) (by omega) hallB hallK (by omega)).1.symm) | (rw [joinF_all (by omega)]; exact (join_go h1 h2 (by omega) (by omega) hallB hallK (by omega)).2.symm)))⟩
      refine WL.cA hS13 hb32 rfl rfl rfl (c_Normal hS13.imm a _ (hva.mono ((((hle1.trans hle2).trans hle3).trans hle5).trans hle8)) ) ?_
      rintro w16 G10 _ ⟨r2, _, rfl, hs5, rfl⟩ hS19 hle10
      refine WL.cA hS19 hb32 rfl rfl rfl (c_Normal hS19.imm b _ (hvb.mono (((((hle1.trans hle2).trans hle3).trans hle5).trans hle8).trans hle10)) ) ?_
      rintro w17 G11 _ ⟨r5, _, rfl, hs6, rfl⟩ hS20 hle11
      have bd7 := hs5.bound
      refine WL.lenSl (hs5.mono hle11) ul22 rfl rfl ?_
      have hS22 := hS20.pad
      refine LP.go ft [] (fun m ρ1 w1 => ∃ (k4 : Nat), ∃ (v5 : Value) (o1 : OB), ∃ (G12 : GH), m = (normL a).length - k4 ∧ G11.le G12 ∧ St w [] G G12 [o1] w1 ∧ Row FactE 40 63 G12 v5 (joinF on ((normL a).take k4) (normL b)) o1 ∧ FR ρ1 [(2, vo), (18, r5), (20, v5), (134, r2), (135, .int .i64 (((normL a).length : Nat) : Int)), (136, .int .i64 (k4 : Int))] ∧ k4 ≤ (normL a).length) _ ⟨0, (.slice none 0 0), none, G11, rfl, (G11.le_refl), hS22, (Row.nil FactE 40 63 G11), ⟨rfl, rfl, rfl, rfl, rfl, rfl, trivial⟩, (by omega)⟩ ?_
      rintro m ρ1 w18 ⟨k4, v5, o1, G12, rfl, hle12, hS21, hr9, hF9, f7⟩
      refine hF9.set ?_
      clear hF9
      refine WL.lssS (k4 : Int) (((normL a).length : Nat) : Int) rfl rfl rfl (fun h15 => ?_) (fun h15 => ?_)
      · refine WL.indexAddr (hs5.mono (hle11.trans hle12)) k4 (by omega) ul22 ti63 rfl rfl rfl rfl (fun p9 x9 hx9 he9 => ?_)
        obtain ⟨cs9, hc12, hr10⟩ := he9
        obtain ⟨v6, rfl, hs7, hb20, hb21⟩ := FactE_open hr10
        refine WL.loadGAt hS21 hc12 [v6, .int .i64 x9.t.a, .int .i64 x9.t.b] ti63 rfl rfl rfl rfl rfl ?_
        refine WL.alloc hS21 ti63 rfl rfl (fun b4 w19 hn4 hS23 => ?_)
        refine WL.store hS23 0 _ _ _ 0 _ [v6, .int .i64 x9.t.a, .int .i64 x9.t.b] [v6, .int .i64 x9.t.a, .int .i64 x9.t.b] _ rfl rfl ti63 rfl (Nat.le_of_ble_eq_true rfl) (by simp only [List.all_cons, List.all_nil, hs7.oneC, Bool.true_and] <;> rfl) rfl rfl rfl rfl rfl (fun w20 hS24 => ?_)
        obtain ⟨G13, hle13, hc13, hS25⟩ := hS24.shutB hn4
        have bd8 := hs6.bound
        refine WL.lenSl (hs6.mono (hle12.trans hle13)) ul22 rfl rfl ?_
        refine LP.go ft [] (fun m ρ1 w1 => ∃ (k5 : Nat), ∃ (v7 : Value) (o2 : OB), ∃ (G14 : GH), m = (normL b).length - k5 ∧ G13.le G14 ∧ St w [] G G14 [o2] w1 ∧ Row FactE 40 63 G14 v7 (joinF on ((normL a).take k4) (normL b) ++ joinG on x9 ((normL b).take k5)) o2 ∧ FR ρ1 [(2, vo), (18, r5), (20, v7), (22, .pointer (some (⟨b4, 0, none⟩ : Addr))), (134, r2), (135, .int .i64 (((normL a).length : Nat) : Int)), (136, .int .i64 (k4 : Int)), (140, r5), (141, .int .i64 (((normL b).length : Nat) : Int)), (142, .int .i64 (k5 : Int))] ∧ k5 ≤ (normL b).length) _ ⟨0, v5, o1, G13, rfl, (G13.le_refl), hS25, (Row.cast (hr9.mono hle13) (by simp [joinG])), ⟨rfl, rfl, rfl, rfl, rfl, rfl, rfl, rfl, rfl, rfl, trivial⟩, (by omega)⟩ ?_
        rintro m ρ1 w21 ⟨k5, v7, o2, G14, rfl, hle14, hS26, hr11, hF9, f8⟩
        refine hF9.set ?_
        clear hF9
        have hnb := normL_len b
        have hjl := joinF_len (on := on) ((normL a).take k4) (normL b)
        have hjg := joinG_len (on := on) x9 ((normL b).take k5)
        have hjt := List.length_take_le' k4 (normL a)
        have hjt2 := List.length_take_le' k5 (normL b)
        have hjb := Nat.mul_le_mul (Nat.le_trans hjt (Nat.le_trans (normL_len a) hal)) (Nat.le_trans (normL_len b) hbl)
        refine WL.lssS (k5 : Int) (((normL b).length : Nat) : Int) rfl rfl rfl (fun h16 => ?_) (fun h16 => ?_)
        · refine WL.indexAddr (hs6.mono ((hle12.trans hle13).trans hle14)) k5 (by omega) ul22 ti63 rfl rfl rfl rfl (fun p10 x10 hx10 he10 => ?_)
          obtain ⟨cs10, hc14, hr12⟩ := he10
          obtain ⟨v8, rfl, hs8, hb22, hb23⟩ := FactE_open hr12
          refine WL.loadGAt hS26 hc14 [v8, .int .i64 x10.t.a, .int .i64 x10.t.b] ti63 rfl rfl rfl rfl rfl ?_
          refine WL.alloc hS26 ti63 rfl rfl (fun b5 w22 hn5 hS27 => ?_)
          refine WL.store hS27 0 _ _ _ 0 _ [v8, .int .i64 x10.t.a, .int .i64 x10.t.b] [v8, .int .i64 x10.t.a, .int .i64 x10.t.b] _ rfl rfl ti63 rfl (Nat.le_of_ble_eq_true rfl) (by simp only [List.all_cons, List.all_nil, hs8.oneC, Bool.true_and] <;> rfl) rfl rfl rfl rfl rfl (fun w23 hS28 => ?_)
          obtain ⟨G15, hle15, hc15, hS29⟩ := hS28.shutB hn5
          have hf1 := normL_vlen (a := a) h1 (List.mem_of_getElem? hx9)
          have hg1 := normL_vlen (a := b) h2 (List.mem_of_getElem? hx10)
          refine WL.loadGAt hS29 (Cells.drop 1 (hc13.mono (hle14.trans hle15))) [.int .i64 x9.t.a, .int .i64 x9.t.b] ti46 rfl rfl rfl rfl rfl ?_
          refine WL.loadGAt hS29 (Cells.drop 1 hc15) [.int .i64 x10.t.a, .int .i64 x10.t.b] ti46 rfl rfl rfl rfl rfl ?_
          refine WL.cA hS29 hb85 rfl rfl rfl (c_Meet hS29.imm x9.t x10.t _ (SpanE_mk x9.t hb20 hb21) _ (SpanE_mk x10.t hb22 hb23) ) ?_
          rintro w24 G16 _ ⟨r8, _, rfl, hs9, rfl⟩ hS30 hle16
          obtain ⟨cs11, rfl, hr13⟩ := hs9
          obtain ⟨rfl, hb24, hb25⟩ := SpanE_open hr13
          refine WL.alloc hS30 ti46 rfl rfl (fun b6 w25 hn6 hS31 => ?_)
          refine WL.store hS31 0 _ _ _ 0 _ [.int .i64 ((meetS x9.t x10.t).a), .int .i64 ((meetS x9.t x10.t).b)] [.int .i64 ((meetS x9.t x10.t).a), .int .i64 ((meetS x9.t x10.t).b)] _ rfl rfl ti46 rfl (Nat.le_of_ble_eq_true rfl) rfl rfl rfl rfl rfl rfl (fun w26 hS32 => ?_)
          obtain ⟨G17, hle17, hc16, hS33⟩ := hS32.shutB hn6
          refine setB (d := 153) rfl (fun (h17 : (meetB x9.t x10.t) = true) => ?_) (fun (h17 : (meetB x9.t x10.t) = false) => ?_)
          · refine WL.cV hS33 hb107 rfl rfl rfl (c_ContainsP hS33.imm on (fun x8 => joinNe x9.v x10.v x8) _ (hvo.mono ((((((((((((hle1.trans hle2).trans hle3).trans hle5).trans hle8).trans hle10).trans hle11).trans hle12).trans hle13).trans hle14).trans hle15).trans hle16).trans hle17)) 109 #[.pointer (some (⟨b4, 0, none⟩ : Addr)), .pointer (some (⟨b5, 0, none⟩ : Addr))] ⟨hb109, fun G8 w8 v8 x8 hle8 hG8 hon8 hA8 => by obtain ⟨cs_x8, rfl, hr_x8⟩ := hA8; exact c_join2 hG8 x8 x9.v x9.t.a x9.t.b x10.v x10.t.a x10.t.b cs_x8 hr_x8 v6 ((hs7.mono ((((hle13.trans hle14).trans hle15).trans hle16).trans hle17)).mono hle8) (⟨b4, 0, none⟩ : Addr) ((hc13.mono (((hle14.trans hle15).trans hle16).trans hle17)).mono hle8) v8 ((hs8.mono ((hle15.trans hle16).trans hle17)).mono hle8) (⟨b5, 0, none⟩ : Addr) ((hc15.mono (hle16.trans hle17)).mono hle8) (by have hq8 := okP_iff.1 (hall _ hon8); omega) (by have hq8 := okP_iff.1 (hall _ hon8); omega)⟩ ) (fun w27 G18 hS34 hle18 => ?_)
            refine WL.split (fun (h18 : (on.any (fun x8 => joinNe x9.v x10.v x8)) = true) => ?_) (fun (h18 : (on.any (fun x8 => joinNe x9.v x10.v x8)) = false) => ?_)
            · refine WL.incr k5 (by have hreach : reach = 140737488355328 := rfl; omega) rfl rfl rfl ?_
              exact BK.mk' _ ⟨k5 + 1, v7, o2, G18, rfl, (hle14.trans (((hle15.trans hle16).trans hle17).trans hle18)), hS34, (Row.cast (hr11.mono (((hle15.trans hle16).trans hle17).trans hle18)) (by (first | rw [joinG_no1 (by assumption) (by assumption)] | rw [joinG_no2 (by assumption) (by assumption)] | rw [joinG_yes (by assumption) (by assumption) (by assumption), restV_all (by omega), List.append_assoc]))), ⟨rfl, rfl, rfl, rfl, rfl, rfl, rfl, rfl, rfl, rfl, trivial⟩, (by omega)⟩ (show (normL b).length - (k5 + 1) < (normL b).length - k5 by omega)
            refine WL.loadG1 hS34 (Cells.drop 0 (hc13.mono ((((hle14.trans hle15).trans hle16).trans hle17).trans hle18))) ti61 rfl rfl rfl ?_
            refine WL.cR hb111 rfl rfl rfl (c_CloneV hS34.imm x9.v _ (hs7.mono (((((hle13.trans hle14).trans hle15).trans hle16).trans hle17).trans hle18)) ) (fun w28 G19 r10 hres1 hpost4 => ?_)
            have hS35 := hS34.call hres1
            have hle19 := hres1.le
            obtain ⟨o3, hr14, hf1⟩ := hpost4
            have hS36 := hS34.adoptO hres1 hf1
            refine WL.loadG1 hS36 (Cells.drop 0 (hc15.mono (((hle16.trans hle17).trans hle18).trans hle19))) ti61 rfl rfl rfl ?_
            have bd9 := hs8.bound
            refine WL.lenSl (hs8.mono ((((hle15.trans hle16).trans hle17).trans hle18).trans hle19)) ul61 rfl rfl ?_
            refine LP.go ft [] (fun m ρ1 w1 => ∃ (k6 : Nat), ∃ (v9 : Value) (o4 : OB), ∃ (G20 : GH), m = x10.v.length - k6 ∧ G19.le G20 ∧ St w [] G G20 [o4, o2] w1 ∧ Row ValE 32 34 G20 v9 (x9.v ++ restV on (x10.v.take k6)) o4 ∧ FR ρ1 [(2, vo), (18, r5), (20, v7), (22, .pointer (some (⟨b4, 0, none⟩ : Addr))), (25, .pointer (some (⟨b6, 0, none⟩ : Addr))), (27, v9), (134, r2), (135, .int .i64 (((normL a).length : Nat) : Int)), (136, .int .i64 (k4 : Int)), (140, r5), (141, .int .i64 (((normL b).length : Nat) : Int)), (142, .int .i64 (k5 : Int)), (165, v8), (166, .int .i64 (x10.v.length : Int)), (167, .int .i64 (k6 : Int))] ∧ k6 ≤ x10.v.length) _ ⟨0, r10, o3, G19, rfl, (G19.le_refl), hS36, (Row.cast hr14 (by simp [restV])), ⟨rfl, rfl, rfl, rfl, rfl, rfl, rfl, rfl, rfl, rfl, rfl, rfl, rfl, rfl, rfl, trivial⟩, (by omega)⟩ ?_
            rintro m ρ1 w29 ⟨k6, v9, o4, G20, rfl, hle20, hS37, hr15, hF9, f9⟩
            refine hF9.set ?_
            clear hF9
            have hrl := restV_len on (x10.v.take k6)
            have hrt := List.length_take_le k6 x10.v
            refine WL.lssS (k6 : Int) (x10.v.length : Int) rfl rfl rfl (fun h19 => ?_) (fun h19 => ?_)
            · refine WL.indexAddr (hs8.mono (((((hle15.trans hle16).trans hle17).trans hle18).trans hle19).trans hle20)) k6 (by omega) ul61 ti34 rfl rfl rfl rfl (fun p11 x11 hx11 he11 => ?_)
              obtain ⟨cs12, hc17, hr16⟩ := he11
              obtain ⟨rfl, hb26, hb27, hb28⟩ := ValE_open hr16
              refine WL.loadGAt hS37 hc17 [.int .i64 x11.k, .int .i64 x11.n, strV x11.s] ti34 rfl rfl rfl rfl rfl ?_
              refine WL.alloc hS37 ti3 rfl rfl (fun b7 w30 hn7 hS38 => ?_)
              refine WL.alloc hS38 ti34 rfl rfl (fun b8 w31 hn8 hS39 => ?_)
              refine WL.store hS39 1 _ _ _ 0 _ [.int .i64 (k6 : Int)] [.int .i64 (k6 : Int)] _ rfl rfl ti3 rfl (Nat.le_of_ble_eq_true rfl) rfl rfl rfl rfl rfl rfl (fun w32 hS40 => ?_)
              obtain ⟨G21, hle21, hc18, hS41⟩ := hS40.sealAt 1 rfl hn7
              refine WL.store hS41 0 _ _ _ 0 _ [.int .i64 x11.k, .int .i64 x11.n, strV x11.s] [.int .i64 x11.k, .int .i64 x11.n, strV x11.s] _ rfl rfl ti34 rfl (Nat.le_of_ble_eq_true rfl) rfl rfl rfl rfl rfl rfl (fun w33 hS42 => ?_)
              obtain ⟨G22, hle22, hc19, hS43⟩ := hS42.shutB hn8
              refine WL.cV hS43 hb107 rfl rfl rfl (c_ContainsP hS43.imm on (fun x8 => decide (x8.2 = (k6 : Int))) _ (hvo.mono (((((((((((((((((hle1.trans hle2).trans hle3).trans hle5).trans hle8).trans hle10).trans hle11).trans hle12).trans hle13).trans hle14).trans hle15).trans hle16).trans hle17).trans hle18).trans hle19).trans hle20).trans hle21).trans hle22)) 112 #[.pointer (some (⟨b7, 0, none⟩ : Addr))] ⟨hb112, fun G8 w8 v8 x8 hle8 hG8 hon8 hA8 => by obtain ⟨cs_x8, rfl, hr_x8⟩ := hA8; exact c_join3 hG8 x8 (k6 : Int) cs_x8 hr_x8  (⟨b7, 0, none⟩ : Addr) ((hc18.mono hle22).mono hle8) ⟩ ) (fun w34 G23 hS44 hle23 => ?_)
              refine WL.split (fun (h20 : (on.any (fun x8 => decide (x8.2 = (k6 : Int)))) = true) => ?_) (fun (h20 : (on.any (fun x8 => decide (x8.2 = (k6 : Int)))) = false) => ?_)
              · refine WL.incr k6 (by have hreach : reach = 140737488355328 := rfl; omega) rfl rfl rfl ?_
                have hS45 := hS44.tail
                exact BK.mk' _ ⟨k6 + 1, v9, o4, G23, rfl, (hle20.trans ((hle21.trans hle22).trans hle23)), hS45, (Row.cast (hr15.mono ((hle21.trans hle22).trans hle23)) (by (first | rw [restV_no (by assumption) (by assumption)] | rw [restV_yes (by assumption) (by assumption), List.append_assoc]))), ⟨rfl, rfl, rfl, rfl, rfl, rfl, rfl, rfl, rfl, rfl, rfl, rfl, rfl, rfl, rfl, trivial⟩, (by omega)⟩ (show x10.v.length - (k6 + 1) < x10.v.length - k6 by omega)
              refine WL.loadGAt hS44 (hc19.mono hle23) [.int .i64 x11.k, .int .i64 x11.n, strV x11.s] ti34 rfl rfl rfl rfl rfl ?_
              refine WL.buildSlice _ [(0, [.int .i64 x11.k, .int .i64 x11.n, strV x11.s])] [.int .i64 x11.k, .int .i64 x11.n, strV x11.s] hS44 sl61 rfl rfl rfl rfl (fun z hz => by match z, hz with | [z0, z1, z2], _ => rfl) (fun b9 w35 hn9 hS46 => ?_)
              refine WL.push (m := ([x11] : List Val)) sl61 rfl rfl rfl (hr15.mono ((hle21.trans hle22).trans hle23)) hS46 2 rfl 0 _ _ _ _ _ rfl ⟨[.int .i64 x11.k, .int .i64 x11.n, strV x11.s], _, rfl, (ValE_mk x11 hb26 hb27 hb28), rfl⟩ rfl (by have hreach : reach = 140737488355328 := rfl; simp only [List.length_append, List.length_cons, List.length_nil]; omega) (by have hreach : reach = 140737488355328 := rfl; simp only [List.length_append, List.length_cons, List.length_nil]; omega) rfl rfl rfl (fun v10 o5 w36 hr17 hS47 => ?_)
              have hS48 := hS47.tail
              refine WL.incr k6 (by have hreach : reach = 140737488355328 := rfl; omega) rfl rfl rfl ?_
              have hS49 := hS48.tail
              exact BK.mk' _ ⟨k6 + 1, v10, o5, G23, rfl, (hle20.trans ((hle21.trans hle22).trans hle23)), hS49, (Row.cast hr17 (by (first | rw [restV_no (by assumption) (by assumption)] | rw [restV_yes (by assumption) (by assumption), List.append_assoc]))), ⟨rfl, rfl, rfl, rfl, rfl, rfl, rfl, rfl, rfl, rfl, rfl, rfl, rfl, rfl, rfl, trivial⟩, (by omega)⟩ (show x10.v.length - (k6 + 1) < x10.v.length - k6 by omega)
            obtain ⟨G24, hle24, hs10, hS50⟩ := Row.freeze hr15 hS37 0 rfl
            refine WL.loadGAt hS50 (hc16.mono (((hle18.trans hle19).trans hle20).trans hle24)) [.int .i64 ((meetS x9.t x10.t).a), .int .i64 ((meetS x9.t x10.t).b)] ti46 rfl rfl rfl rfl rfl ?_
            refine WL.build _ [(0, [v9]), (1, [.int .i64 ((meetS x9.t x10.t).a), .int .i64 ((meetS x9.t x10.t).b)])] [v9, .int .i64 ((meetS x9.t x10.t).a), .int .i64 ((meetS x9.t x10.t).b)] ti63 rfl fl63 rfl rfl (by show [(0, (v9 : Value).cells.toList), (1, (.agg #[.int .i64 ((meetS x9.t x10.t).a), .int .i64 ((meetS x9.t x10.t).b)] : Value).cells.toList)] = _; simp only [hs10.cells1] <;> rfl) rfl ?_
            refine WL.buildSlice _ [(0, [v9, .int .i64 ((meetS x9.t x10.t).a), .int .i64 ((meetS x9.t x10.t).b)])] [v9, .int .i64 ((meetS x9.t x10.t).a), .int .i64 ((meetS x9.t x10.t).b)] hS50 sl22 rfl rfl rfl rfl (fun z hz => by match z, hz with | [z0, z1, z2], _ => rfl) (fun b10 w37 hn10 hS51 => ?_)
            refine WL.push (m := ([(Fact.mk (x9.v ++ restV on (x10.v.take k6)) (Span.mk ((meetS x9.t x10.t).a) ((meetS x9.t x10.t).b)))] : List Fact)) sl22 rfl rfl rfl (hr11.mono ((((((hle15.trans hle16).trans hle17).trans hle18).trans hle19).trans hle20).trans hle24)) hS51 2 rfl 0 _ _ _ _ _ rfl ⟨[v9, .int .i64 ((meetS x9.t x10.t).a), .int .i64 ((meetS x9.t x10.t).b)], _, rfl, (FactE_mk (Fact.mk (x9.v ++ restV on (x10.v.take k6)) (Span.mk ((meetS x9.t x10.t).a) ((meetS x9.t x10.t).b))) hs10 hb24 hb25), rfl⟩ rfl (by have hreach : reach = 140737488355328 := rfl; simp only [List.length_append, List.length_cons, List.length_nil]; omega) (by have hreach : reach = 140737488355328 := rfl; simp only [List.length_append, List.length_cons, List.length_nil]; omega) rfl rfl rfl (fun v11 o6 w38 hr18 hS52 => ?_)
            have hS53 := hS52.tail
            refine WL.incr k5 (by have hreach : reach = 140737488355328 := rfl; omega) rfl rfl rfl ?_
            have hS54 := hS53.tail
            exact BK.mk' _ ⟨k5 + 1, v11, o6, G24, rfl, (hle14.trans ((((((hle15.trans hle16).trans hle17).trans hle18).trans hle19).trans hle20).trans hle24)), hS54, (Row.cast hr18 (by (first | rw [joinG_no1 (by assumption) (by assumption)] | rw [joinG_no2 (by assumption) (by assumption)] | rw [joinG_yes (by assumption) (by assumption) (by assumption), restV_all (by omega), List.append_assoc]))), ⟨rfl, rfl, rfl, rfl, rfl, rfl, rfl, rfl, rfl, rfl, trivial⟩, (by omega)⟩ (show (normL b).length - (k5 + 1) < (normL b).length - k5 by omega)
          refine WL.incr k5 (by have hreach : reach = 140737488355328 := rfl; omega) rfl rfl rfl ?_
          exact BK.mk' _ ⟨k5 + 1, v7, o2, G17, rfl, (hle14.trans ((hle15.trans hle16).trans hle17)), hS33, (Row.cast (hr11.mono ((hle15.trans hle16).trans hle17)) (by (first | rw [joinG_no1 (by assumption) (by assumption)] | rw [joinG_no2 (by assumption) (by assumption)] | rw [joinG_yes (by assumption) (by assumption) (by assumption), restV_all (by omega), List.append_assoc]))), ⟨rfl, rfl, rfl, rfl, rfl, rfl, rfl, rfl, rfl, rfl, trivial⟩, (by omega)⟩ (show (normL b).length - (k5 + 1) < (normL b).length - k5 by omega)
        refine WL.incr k4 (by have hreach : reach = 140737488355328 := rfl; omega) rfl rfl rfl ?_
        exact BK.mk' _ ⟨k4 + 1, v7, o2, G14, rfl, (hle12.trans (hle13.trans hle14)), hS26, (Row.cast hr11 (by (rw [joinG_all (by omega), ← joinF_take (by assumption)]))), ⟨rfl, rfl, rfl, rfl, rfl, rfl, trivial⟩, (by omega)⟩ (show (normL a).length - (k4 + 1) < (normL a).length - k4 by omega)
      obtain ⟨G25, hle25, hs11, hS55⟩ := Row.freeze hr9 hS21 0 rfl
      refine WL.cA hS55 hb61 rfl rfl rfl (c_finished hS55.imm (joinF on ((normL a).take k4) (normL b)) _ hs11 (by rw [joinF_all (by omega)]; exact joinF_good normL_good normL_good) (by rw [joinF_all (by omega)]; exact Nat.le_trans (joinF_len _ _) (Nat.mul_le_mul (normL_le a) (normL_le b)))) ?_
      rintro w39 G26 _ ⟨r12, _, rfl, hs12, rfl⟩ hS56 hle26
      exact RT hS56 rfl ⟨_, _, rfl, (Sl.cast hs12 (by first | exact (join_invalid (.inl h1)).1.symm | exact (join_invalid (.inl h1)).2.symm | exact (join_invalid (.inr h2)).1.symm | exact (join_invalid (.inr h2)).2.symm | exact (join_empty h1 h2 (by omega)).1.symm | exact (join_empty h1 h2 (by omega)).2.symm | exact (join_range h1 h2 (by omega) (by omega) (by assumption) (okP_no (by omega))).1.symm | exact (join_range h1 h2 (by omega) (by omega) (by assumption) (okP_no (by omega))).2.symm | exact (join_kind h1 h2 (by omega) (by omega) hallB (by assumption) (by rw [hA, hB]; exact kindP_no (by assumption) (by assumption) (by assumption))).1.symm | exact (join_kind h1 h2 (by omega) (by omega) hallB (by assumption) (by rw [hA, hB]; exact kindP_no (by assumption) (by assumption) (by assumption))).2.symm | exact (join_wide h1 h2 (by omega) (by omega) hallB hallK (by omega)).1.symm | exact (join_wide h1 h2 (by omega) (by omega) hallB hallK (by omega)).2.symm | (rw [joinF_all (by omega)]; exact (join_go h1 h2 (by omega) (by omega) hallB hallK (by omega)).1.symm) | (rw [joinF_all (by omega)]; exact (join_go h1 h2 (by omega) (by omega) hallB hallK (by omega)).2.symm))), (congrArg (Value.int .i64) (by first | exact (join_invalid (.inl h1)).1.symm | exact (join_invalid (.inl h1)).2.symm | exact (join_invalid (.inr h2)).1.symm | exact (join_invalid (.inr h2)).2.symm | exact (join_empty h1 h2 (by omega)).1.symm | exact (join_empty h1 h2 (by omega)).2.symm | exact (join_range h1 h2 (by omega) (by omega) (by assumption) (okP_no (by omega))).1.symm | exact (join_range h1 h2 (by omega) (by omega) (by assumption) (okP_no (by omega))).2.symm | exact (join_kind h1 h2 (by omega) (by omega) hallB (by assumption) (by rw [hA, hB]; exact kindP_no (by assumption) (by assumption) (by assumption))).1.symm | exact (join_kind h1 h2 (by omega) (by omega) hallB (by assumption) (by rw [hA, hB]; exact kindP_no (by assumption) (by assumption) (by assumption))).2.symm | exact (join_wide h1 h2 (by omega) (by omega) hallB hallK (by omega)).1.symm | exact (join_wide h1 h2 (by omega) (by omega) hallB hallK (by omega)).2.symm | (rw [joinF_all (by omega)]; exact (join_go h1 h2 (by omega) (by omega) hallB hallK (by omega)).1.symm) | (rw [joinF_all (by omega)]; exact (join_go h1 h2 (by omega) (by omega) hallB hallK (by omega)).2.symm)))⟩
    exact RT hS2 rfl ⟨_, _, rfl, (Sl.cast (Sl.nil FactE 40 G2) (by first | exact (join_invalid (.inl h1)).1.symm | exact (join_invalid (.inl h1)).2.symm | exact (join_invalid (.inr h2)).1.symm | exact (join_invalid (.inr h2)).2.symm | exact (join_empty h1 h2 (by omega)).1.symm | exact (join_empty h1 h2 (by omega)).2.symm | exact (join_range h1 h2 (by omega) (by omega) (by assumption) (okP_no (by omega))).1.symm | exact (join_range h1 h2 (by omega) (by omega) (by assumption) (okP_no (by omega))).2.symm | exact (join_kind h1 h2 (by omega) (by omega) hallB (by assumption) (by rw [hA, hB]; exact kindP_no (by assumption) (by assumption) (by assumption))).1.symm | exact (join_kind h1 h2 (by omega) (by omega) hallB (by assumption) (by rw [hA, hB]; exact kindP_no (by assumption) (by assumption) (by assumption))).2.symm | exact (join_wide h1 h2 (by omega) (by omega) hallB hallK (by omega)).1.symm | exact (join_wide h1 h2 (by omega) (by omega) hallB hallK (by omega)).2.symm | (rw [joinF_all (by omega)]; exact (join_go h1 h2 (by omega) (by omega) hallB hallK (by omega)).1.symm) | (rw [joinF_all (by omega)]; exact (join_go h1 h2 (by omega) (by omega) hallB hallK (by omega)).2.symm))), (congrArg (Value.int .i64) (by first | exact (join_invalid (.inl h1)).1.symm | exact (join_invalid (.inl h1)).2.symm | exact (join_invalid (.inr h2)).1.symm | exact (join_invalid (.inr h2)).2.symm | exact (join_empty h1 h2 (by omega)).1.symm | exact (join_empty h1 h2 (by omega)).2.symm | exact (join_range h1 h2 (by omega) (by omega) (by assumption) (okP_no (by omega))).1.symm | exact (join_range h1 h2 (by omega) (by omega) (by assumption) (okP_no (by omega))).2.symm | exact (join_kind h1 h2 (by omega) (by omega) hallB (by assumption) (by rw [hA, hB]; exact kindP_no (by assumption) (by assumption) (by assumption))).1.symm | exact (join_kind h1 h2 (by omega) (by omega) hallB (by assumption) (by rw [hA, hB]; exact kindP_no (by assumption) (by assumption) (by assumption))).2.symm | exact (join_wide h1 h2 (by omega) (by omega) hallB hallK (by omega)).1.symm | exact (join_wide h1 h2 (by omega) (by omega) hallB hallK (by omega)).2.symm | (rw [joinF_all (by omega)]; exact (join_go h1 h2 (by omega) (by omega) hallB hallK (by omega)).1.symm) | (rw [joinF_all (by omega)]; exact (join_go h1 h2 (by omega) (by omega) hallB hallK (by omega)).2.symm)))⟩
  exact RT hS1 rfl ⟨_, _, rfl, (Sl.cast (Sl.nil FactE 40 G1) (by first | exact (join_invalid (.inl h1)).1.symm | exact (join_invalid (.inl h1)).2.symm | exact (join_invalid (.inr h2)).1.symm | exact (join_invalid (.inr h2)).2.symm | exact (join_empty h1 h2 (by omega)).1.symm | exact (join_empty h1 h2 (by omega)).2.symm | exact (join_range h1 h2 (by omega) (by omega) (by assumption) (okP_no (by omega))).1.symm | exact (join_range h1 h2 (by omega) (by omega) (by assumption) (okP_no (by omega))).2.symm | exact (join_kind h1 h2 (by omega) (by omega) hallB (by assumption) (by rw [hA, hB]; exact kindP_no (by assumption) (by assumption) (by assumption))).1.symm | exact (join_kind h1 h2 (by omega) (by omega) hallB (by assumption) (by rw [hA, hB]; exact kindP_no (by assumption) (by assumption) (by assumption))).2.symm | exact (join_wide h1 h2 (by omega) (by omega) hallB hallK (by omega)).1.symm | exact (join_wide h1 h2 (by omega) (by omega) hallB hallK (by omega)).2.symm | (rw [joinF_all (by omega)]; exact (join_go h1 h2 (by omega) (by omega) hallB hallK (by omega)).1.symm) | (rw [joinF_all (by omega)]; exact (join_go h1 h2 (by omega) (by omega) hallB hallK (by omega)).2.symm))), (congrArg (Value.int .i64) (by first | exact (join_invalid (.inl h1)).1.symm | exact (join_invalid (.inl h1)).2.symm | exact (join_invalid (.inr h2)).1.symm | exact (join_invalid (.inr h2)).2.symm | exact (join_empty h1 h2 (by omega)).1.symm | exact (join_empty h1 h2 (by omega)).2.symm | exact (join_range h1 h2 (by omega) (by omega) (by assumption) (okP_no (by omega))).1.symm | exact (join_range h1 h2 (by omega) (by omega) (by assumption) (okP_no (by omega))).2.symm | exact (join_kind h1 h2 (by omega) (by omega) hallB (by assumption) (by rw [hA, hB]; exact kindP_no (by assumption) (by assumption) (by assumption))).1.symm | exact (join_kind h1 h2 (by omega) (by omega) hallB (by assumption) (by rw [hA, hB]; exact kindP_no (by assumption) (by assumption) (by assumption))).2.symm | exact (join_wide h1 h2 (by omega) (by omega) hallB hallK (by omega)).1.symm | exact (join_wide h1 h2 (by omega) (by omega) hallB hallK (by omega)).2.symm | (rw [joinF_all (by omega)]; exact (join_go h1 h2 (by omega) (by omega) hallB hallK (by omega)).1.symm) | (rw [joinF_all (by omega)]; exact (join_go h1 h2 (by omega) (by omega) hallB hallK (by omega)).2.symm)))⟩
end Go.Civ
