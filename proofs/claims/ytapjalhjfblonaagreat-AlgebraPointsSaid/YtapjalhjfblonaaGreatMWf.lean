/- Walks, printed by specs38.py. -/
import Derived.Test.YtapjalhjfblonaaGreatProg
import Derived.KernelRfl
import Derived.WalkKit
import Derived.Test.YtapjalhjfblonaaGreatMWd
import Derived.Test.YtapjalhjfblonaaGreatMCiv12
set_option linter.unusedVariables false
set_option linter.unusedSimpArgs false
set_option maxRecDepth 100000
set_option maxHeartbeats 4000000
namespace Go.Civ
open Go.Proofs


theorem c_CloneF {G : GH} {w : World} (hG : G.In w) (l : List Fact) (vl : Value) (hvl : Sl FactE 40 G vl l)  : CL Tryz.prog (nat_lit 138) #[vl] [] w G fun G' w' r => ∃ o, Row FactE 40 (nat_lit 63) G' r l o ∧ Fresh w w' G' o := by
  refine calls_of_go ft [] Tryz.func138 rfl rfl ?_
  have hS := St.start (X := []) hG
  refine WL.nilEq hvl ul22 rfl rfl rfl (fun h1 => ?_) ?_
  · exact RT hS rfl ⟨none, Row.cast (Row.nil _ _ _ _) (by exact Eq.symm (by assumption)), fun _ h => by cases h⟩
  refine WL.buildSlice _ [] [] hS sl22 rfl rfl rfl rfl (fun z hz => by match z, hz with | [], _ => rfl) (fun b1 w1 hn1 hS1 => ?_)
  have hr1 := Row.empty FactE 40 63 G b1
  refine WL.pushSl sl22 rfl rfl rfl hr1 hS1 0 rfl hvl (by have hreach : reach = 140737488355328 := rfl; have := hvl.bytes; have := hvl.bound; simp only [List.length_nil, Nat.zero_add]; omega) (by have hreach : reach = 140737488355328 := rfl; have := hvl.bytes; have := hvl.bound; simp only [List.length_nil, Nat.zero_add]; omega) rfl rfl rfl (fun v1 o1 w2 hr2 hS2 => ?_)
  exact RT hS2 rfl ⟨_, Row.cast hr2 (by rfl), hS2.freshAt 0 rfl⟩

theorem c_CloneS {G : GH} {w : World} (hG : G.In w) (l : List Span) (vl : Value) (hvl : Sl SpanE 16 G vl l)  : CL Tryz.prog (nat_lit 169) #[vl] [] w G fun G' w' r => ∃ o, Row SpanE 16 (nat_lit 46) G' r l o ∧ Fresh w w' G' o := by
  refine calls_of_go ft [] Tryz.func169 rfl rfl ?_
  have hS := St.start (X := []) hG
  refine WL.nilEq hvl ul111 rfl rfl rfl (fun h1 => ?_) ?_
  · exact RT hS rfl ⟨none, Row.cast (Row.nil _ _ _ _) (by exact Eq.symm (by assumption)), fun _ h => by cases h⟩
  refine WL.buildSlice _ [] [] hS sl111 rfl rfl rfl rfl (fun z hz => by match z, hz with | [], _ => rfl) (fun b1 w1 hn1 hS1 => ?_)
  have hr1 := Row.empty SpanE 16 46 G b1
  refine WL.pushSl sl111 rfl rfl rfl hr1 hS1 0 rfl hvl (by have hreach : reach = 140737488355328 := rfl; have := hvl.bytes; have := hvl.bound; simp only [List.length_nil, Nat.zero_add]; omega) (by have hreach : reach = 140737488355328 := rfl; have := hvl.bytes; have := hvl.bound; simp only [List.length_nil, Nat.zero_add]; omega) rfl rfl rfl (fun v1 o1 w2 hr2 hS2 => ?_)
  exact RT hS2 rfl ⟨_, Row.cast hr2 (by rfl), hS2.freshAt 0 rfl⟩

theorem c_CloneV {G : GH} {w : World} (hG : G.In w) (l : List Val) (vl : Value) (hvl : Sl ValE 32 G vl l)  : CL Tryz.prog (nat_lit 111) #[vl] [] w G fun G' w' r => ∃ o, Row ValE 32 (nat_lit 34) G' r l o ∧ Fresh w w' G' o := by
  refine calls_of_go ft [] Tryz.func111 rfl rfl ?_
  have hS := St.start (X := []) hG
  refine WL.nilEq hvl ul61 rfl rfl rfl (fun h1 => ?_) ?_
  · exact RT hS rfl ⟨none, Row.cast (Row.nil _ _ _ _) (by exact Eq.symm (by assumption)), fun _ h => by cases h⟩
  refine WL.buildSlice _ [] [] hS sl61 rfl rfl rfl rfl (fun z hz => by match z, hz with | [], _ => rfl) (fun b1 w1 hn1 hS1 => ?_)
  have hr1 := Row.empty ValE 32 34 G b1
  refine WL.pushSl sl61 rfl rfl rfl hr1 hS1 0 rfl hvl (by have hreach : reach = 140737488355328 := rfl; have := hvl.bytes; have := hvl.bound; simp only [List.length_nil, Nat.zero_add]; omega) (by have hreach : reach = 140737488355328 := rfl; have := hvl.bytes; have := hvl.bound; simp only [List.length_nil, Nat.zero_add]; omega) rfl rfl rfl (fun v1 o1 w2 hr2 hS2 => ?_)
  exact RT hS2 rfl ⟨_, Row.cast hr2 (by rfl), hS2.freshAt 0 rfl⟩
end Go.Civ
set_option linter.unusedVariables false
set_option linter.unusedSimpArgs false
set_option maxRecDepth 100000
set_option maxHeartbeats 4000000
namespace Go.Civ
open Go.Proofs


theorem c_insertF {G : GH} {w : World} (hG : G.In w) (l : List Fact) (a b : Nat) (pf : Fact → Fact → Int) (vd : Value) (od : OB) (hvd : Row FactE 40 (nat_lit 63) G vd l od) (hod : Lent w G od) (fid : Nat) (fcap : Array Value) (hf : FnI2 Tryz.prog (Is FactE) (Is FactE) fid fcap G (fun _ _ => True) pf) (hab : a ≤ b) (hbl : b ≤ l.length) (hA : ∀ x ∈ l, ∀ y ∈ l, pf x y < 0 → ¬ pf y x < 0) (hT : ∀ x ∈ l, ∀ y ∈ l, ∀ z ∈ l, ¬ pf y x < 0 → ¬ pf z y < 0 → ¬ pf z x < 0) : CL Tryz.prog (nat_lit 191) #[vd, .int .i64 (a : Int), .int .i64 (b : Int), .func (.func fid) #[] fcap] (blk od) w G fun G' w' r => r = .tuple #[] ∧ ∃ (l' : List Fact) (o' : OB), Row FactE 40 (nat_lit 63) G' vd l' o' ∧ Lent w' G' o' ∧ Ins pf l l' a b b := by
  refine calls_of_go ft [] Tryz.func191 rfl rfl ?_
  have bdl := hvd.bound
  have hS := St.lentO hG hod
  refine WL.incr a (by have hreach : reach = 140737488355328 := rfl; omega) rfl rfl rfl ?_
  refine LP.go ft [] (fun m ρ1 w1 => ∃ (k1 : Nat), ∃ (L : List Fact), ∃ (o1 : OB), ∃ (G1 : GH), m = (b + 1) - k1 ∧ G.le G1 ∧ St w (blk od) G G1 [o1] w1 ∧ Row FactE 40 63 G1 vd L o1 ∧ FR ρ1 [(0, vd), (1, .int .i64 (a : Int)), (2, .int .i64 (b : Int)), (3, .func (.func fid) #[] fcap), (8, .int .i64 (k1 : Int))] ∧ k1 ≤ (b + 1) ∧ a < k1 ∧ Ins pf l L a b k1) _ ⟨a + 1, l, od, G, rfl, (G.le_refl), hS, hvd, ⟨rfl, rfl, rfl, rfl, rfl, trivial⟩, (by omega), (by omega), (Ins.start)⟩ ?_
  rintro m ρ1 w1 ⟨k1, L, o1, G1, rfl, hle1, hS1, hr1, hF9, f1, f2, f3⟩
  refine hF9.set ?_
  clear hF9
  have lenL := Ins.len (by assumption)
  refine WL.lssS (k1 : Int) (b : Int) rfl rfl rfl (fun h1 => ?_) (fun h1 => ?_)
  · refine LP.go ft [] (fun m ρ1 w1 => ∃ (j : Nat), ∃ (L2 : List Fact), ∃ (o2 : OB), ∃ (G2 : GH), m = (0 + j) ∧ G1.le G2 ∧ St w (blk od) G G2 [o2] w1 ∧ Row FactE 40 63 G2 vd L2 o2 ∧ FR ρ1 [(0, vd), (1, .int .i64 (a : Int)), (2, .int .i64 (b : Int)), (3, .func (.func fid) #[] fcap), (8, .int .i64 (k1 : Int)), (9, .int .i64 (j : Int))] ∧ a ≤ j ∧ j ≤ k1 ∧ Ins2 pf l L2 a b k1 j) _ ⟨k1, L, o1, G1, rfl, (G1.le_refl), hS1, hr1, ⟨rfl, rfl, rfl, rfl, rfl, rfl, trivial⟩, (by omega), (by omega), (Ins.enter (by assumption))⟩ ?_
    rintro m ρ1 w2 ⟨j, L2, o2, G2, rfl, hle2, hS2, hr2, hF9, f4, f5, f6⟩
    refine hF9.set ?_
    clear hF9
    have lenL2 := Ins2.len (by assumption)
    rcases Cmp.dec .gtr (j : Int) (a : Int) with ⟨hb1, q1⟩ | ⟨hb1, q1⟩
    · have h2 : (a : Int) < (j : Int) := q1
      clear q1
      obtain ⟨p1, x1, ec1, hx1, hr3, ra1, ep1⟩ := Row.atP hr2 j (by omega)
      obtain ⟨v1, rfl, hs1, hb2, hb3⟩ := FactE_open hr3
      obtain ⟨p2, x2, ec2, hx2, hr4, ra2, ep2⟩ := Row.atP hr2 (j - 1) (by omega)
      obtain ⟨v2, rfl, hs2, hb4, hb5⟩ := FactE_open hr4
      rcases Cmp.dec .lss (pf x1 x2) 0 with ⟨hb6, q2⟩ | ⟨hb6, q2⟩
      · have h3 : (pf x1 x2) < 0 := q2
        clear q2
        refine dr [] [(20, .bool true), (25, .pointer (some p1)), (26, .agg #[v1, .int .i64 x1.t.a, .int .i64 x1.t.b]), (29, .int .i64 ((j - 1 : Nat) : Int)), (30, .pointer (some p2)), (31, .agg #[v2, .int .i64 x2.t.a, .int .i64 x2.t.b]), (32, .int .i64 (pf x1 x2)), (33, .bool true)] hS2 ⟨fun _ => WL.cmpV .gtr rfl .i64 (j : Int) (a : Int) _ hb1 rfl rfl rfl <| nu rfl rfl, fun _ => WL.indexAddrP j ep1 ul22 ti63 rfl rfl rfl rfl <| nu rfl rfl, fun _ hSw => WL.loadRA ra1 hSw 0 rfl ti63 rfl rfl rfl rfl <| nu rfl rfl, fun _ => WL.decr j (by omega) (by have hreach : reach = 140737488355328 := rfl; omega) rfl rfl rfl <| nu rfl rfl, fun _ => WL.indexAddrP (j - 1) ep2 ul22 ti63 rfl rfl rfl rfl <| nu rfl rfl, fun _ hSw => WL.loadRA ra2 hSw 0 rfl ti63 rfl rfl rfl rfl <| nu rfl rfl, fun _ hSw => WL.callD hSw hf.body rfl rfl rfl (hf.call _ _ (.agg #[v1, .int .i64 x1.t.a, .int .i64 x1.t.b]) (.agg #[v2, .int .i64 x2.t.a, .int .i64 x2.t.b]) x1 x2 (hle1.trans hle2) hSw.imm trivial ⟨_, rfl, (FactE_mk x1 hs1 hb2 hb3)⟩ ⟨_, rfl, (FactE_mk x2 hs2 hb4 hb5)⟩) rfl, fun _ => WL.cmpV .lss rfl .i64 (pf x1 x2) 0 _ hb6 rfl rfl rfl <| nu rfl rfl, trivial⟩ (fun w3 hS3 => ?_)
        obtain ⟨p3, x3, ec3, hx3, hr5, ra3, ep3⟩ := Row.atP hr2 (j - 1) (by omega)
        obtain rfl : x2 = x3 := Option.some.inj (hx2.symm.trans hx3)
        obtain ⟨v3, rfl, hs3, hb7, hb8⟩ := FactE_open hr5
        obtain ⟨p4, x4, ec4, hx4, hr6, ra4, ep4⟩ := Row.atP hr2 j (by omega)
        obtain rfl : x1 = x4 := Option.some.inj (hx1.symm.trans hx4)
        obtain ⟨v4, rfl, hs4, hb9, hb10⟩ := FactE_open hr6
        obtain ⟨p5, x5, ec5, hx5, hr7, ra5, ep5⟩ := Row.atP hr2 j (by omega)
        obtain rfl : x1 = x5 := Option.some.inj (hx1.symm.trans hx5)
        obtain ⟨v5, rfl, hs5, hb11, hb12⟩ := FactE_open hr7
        obtain ⟨p6, x6, ec6, hx6, hr8, ra6, ep6⟩ := Row.atP hr2 (j - 1) (by omega)
        obtain rfl : x2 = x6 := Option.some.inj (hx2.symm.trans hx6)
        obtain ⟨v6, rfl, hs6, hb13, hb14⟩ := FactE_open hr8
        refine dr [(15, false), (17, false)] [(41, .int .i64 ((j - 1 : Nat) : Int)), (44, .int .i64 ((j - 1 : Nat) : Int)), (45, .pointer (some p3)), (46, .agg #[v3, .int .i64 x2.t.a, .int .i64 x2.t.b]), (49, .pointer (some p4)), (50, .agg #[v4, .int .i64 x1.t.a, .int .i64 x1.t.b]), (51, .pointer (some p5)), (52, .pointer (some p6))] hS3 ⟨fun _ => WL.decr j (by omega) (by have hreach : reach = 140737488355328 := rfl; omega) rfl rfl rfl <| nu rfl rfl, fun _ => WL.decr j (by omega) (by have hreach : reach = 140737488355328 := rfl; omega) rfl rfl rfl <| nu rfl rfl, fun _ => WL.indexAddrP (j - 1) ep3 ul22 ti63 rfl rfl rfl rfl <| nu rfl rfl, fun _ hSw => WL.loadRA ra3 hSw 0 rfl ti63 rfl rfl rfl rfl <| nu rfl rfl, fun _ => WL.indexAddrP j ep4 ul22 ti63 rfl rfl rfl rfl <| nu rfl rfl, fun _ hSw => WL.loadRA ra4 hSw 0 rfl ti63 rfl rfl rfl rfl <| nu rfl rfl, fun _ => WL.indexAddrP j ep5 ul22 ti63 rfl rfl rfl rfl <| nu rfl rfl, fun _ => WL.indexAddrP (j - 1) ep6 ul22 ti63 rfl rfl rfl rfl <| nu rfl rfl, trivial⟩ (fun w4 hS4 => ?_)
        refine WL.storeR0 hr2 ra5 hS4 0 rfl (by omega) rfl 0 _ [v3, .int .i64 x2.t.a, .int .i64 x2.t.b] x2 [v3, .int .i64 x2.t.a, .int .i64 x2.t.b] rfl ti63 rfl (Nat.le_of_ble_eq_true rfl) (by simp only [List.all_cons, List.all_nil, hs3.oneC, Bool.true_and] <;> rfl) rfl (FactE_mk x2 hs3 hb7 hb8) rfl rfl rfl rfl (fun o3 w5 hr9 hS5 => ?_)
        obtain ⟨p7, x7, ec7, hx7, hr10, ra7, ep7⟩ := Row.atP hr9 (j - 1) (by simp only [List.length_set]; omega)
        obtain rfl : p6 = p7 := ElPtr.inj ep6 ep7
        obtain ⟨v7, rfl, hs7, hb15, hb16⟩ := FactE_open hr10
        refine WL.storeR0 hr9 ra7 hS5 0 rfl (by (simp only [List.length_set]; omega)) rfl 0 _ [v4, .int .i64 x1.t.a, .int .i64 x1.t.b] x1 [v4, .int .i64 x1.t.a, .int .i64 x1.t.b] rfl ti63 rfl (Nat.le_of_ble_eq_true rfl) (by simp only [List.all_cons, List.all_nil, hs4.oneC, Bool.true_and] <;> rfl) rfl (FactE_mk x1 hs4 hb9 hb10) rfl rfl rfl rfl (fun o4 w6 hr11 hS6 => ?_)
        refine WL.decr j (by omega) (by have hreach : reach = 140737488355328 := rfl; omega) rfl rfl rfl ?_
        exact BK.mk' _ ⟨j - 1, ((L2.set j x2).set (j - 1) x1), o4, G2, rfl, hle2, hS6, hr11, ⟨rfl, rfl, rfl, rfl, rfl, rfl, trivial⟩, (by omega), (by omega), (Ins2.step (by assumption) hA (by omega) (by omega) (by omega) (by assumption) (by assumption) (by assumption))⟩ (show (0 + (j - 1)) < (0 + j) by omega)
      have h3 : 0 ≤ (pf x1 x2) := q2
      clear q2
      refine dr [] [(20, .bool true), (25, .pointer (some p1)), (26, .agg #[v1, .int .i64 x1.t.a, .int .i64 x1.t.b]), (29, .int .i64 ((j - 1 : Nat) : Int)), (30, .pointer (some p2)), (31, .agg #[v2, .int .i64 x2.t.a, .int .i64 x2.t.b]), (32, .int .i64 (pf x1 x2)), (33, .bool false)] hS2 ⟨fun _ => WL.cmpV .gtr rfl .i64 (j : Int) (a : Int) _ hb1 rfl rfl rfl <| nu rfl rfl, fun _ => WL.indexAddrP j ep1 ul22 ti63 rfl rfl rfl rfl <| nu rfl rfl, fun _ hSw => WL.loadRA ra1 hSw 0 rfl ti63 rfl rfl rfl rfl <| nu rfl rfl, fun _ => WL.decr j (by omega) (by have hreach : reach = 140737488355328 := rfl; omega) rfl rfl rfl <| nu rfl rfl, fun _ => WL.indexAddrP (j - 1) ep2 ul22 ti63 rfl rfl rfl rfl <| nu rfl rfl, fun _ hSw => WL.loadRA ra2 hSw 0 rfl ti63 rfl rfl rfl rfl <| nu rfl rfl, fun _ hSw => WL.callD hSw hf.body rfl rfl rfl (hf.call _ _ (.agg #[v1, .int .i64 x1.t.a, .int .i64 x1.t.b]) (.agg #[v2, .int .i64 x2.t.a, .int .i64 x2.t.b]) x1 x2 (hle1.trans hle2) hSw.imm trivial ⟨_, rfl, (FactE_mk x1 hs1 hb2 hb3)⟩ ⟨_, rfl, (FactE_mk x2 hs2 hb4 hb5)⟩) rfl, fun _ => WL.cmpV .lss rfl .i64 (pf x1 x2) 0 _ hb6 rfl rfl rfl <| nu rfl rfl, trivial⟩ (fun w7 hS7 => ?_)
      refine WL.incr k1 (by have hreach : reach = 140737488355328 := rfl; omega) rfl rfl rfl ?_
      exact BK.mk' _ ⟨k1 + 1, L2, o2, G2, rfl, (hle1.trans hle2), hS7, hr2, ⟨rfl, rfl, rfl, rfl, rfl, trivial⟩, (by omega), (by omega), (by exact Ins2.stop (by assumption) hT (by omega) (by omega) (by assumption) (by assumption) (by omega))⟩ (show (b + 1) - (k1 + 1) < (b + 1) - k1 by omega)
    have h2 : (j : Int) ≤ (a : Int) := q1
    clear q1
    refine dr [] [(20, .bool false)] hS2 ⟨fun _ => WL.cmpV .gtr rfl .i64 (j : Int) (a : Int) _ hb1 rfl rfl rfl <| nu rfl rfl, trivial⟩ (fun w8 hS8 => ?_)
    refine WL.incr k1 (by have hreach : reach = 140737488355328 := rfl; omega) rfl rfl rfl ?_
    exact BK.mk' _ ⟨k1 + 1, L2, o2, G2, rfl, (hle1.trans hle2), hS8, hr2, ⟨rfl, rfl, rfl, rfl, rfl, trivial⟩, (by omega), (by omega), (by exact Ins2.first (by assumption) (by omega))⟩ (show (b + 1) - (k1 + 1) < (b + 1) - k1 by omega)
  exact RT hS1 rfl ⟨rfl, L, _, hr1, hS1.lentAt 0 rfl, (by exact Ins.upTo (by assumption) (by omega))⟩
end Go.Civ
