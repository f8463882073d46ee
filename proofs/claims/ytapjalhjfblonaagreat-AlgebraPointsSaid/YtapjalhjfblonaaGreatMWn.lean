/- Walks, printed by specs38.py. -/
import Derived.Test.YtapjalhjfblonaaGreatProg
import Derived.KernelRfl
import Derived.WalkKit
import Derived.Test.YtapjalhjfblonaaGreatMWf
import Derived.Test.YtapjalhjfblonaaGreatMCiv26
set_option linter.unusedVariables false
set_option linter.unusedSimpArgs false
set_option maxRecDepth 100000
set_option maxHeartbeats 4000000
namespace Go.Civ
open Go.Proofs


theorem c_swapF {G : GH} {w : World} (hG : G.In w) (l : List Fact) (a b n : Nat) (pf : Fact → Fact → Int) (vd : Value) (od : OB) (hvd : Row FactE 40 (nat_lit 63) G vd l od) (hod : Lent w G od) (fid : Nat) (fcap : Array Value) (hf : FnI2 Tryz.prog (Is FactE) (Is FactE) fid fcap G (fun _ _ => True) pf) (hab : a + n ≤ b) (hbl : b + n ≤ l.length) : CL Tryz.prog (nat_lit 211) #[vd, .int .i64 (a : Int), .int .i64 (b : Int), .int .i64 (n : Int), .func (.func fid) #[] fcap] (blk od) w G fun G' w' r => r = .tuple #[] ∧ ∃ (l' : List Fact) (o' : OB), Row FactE 40 (nat_lit 63) G' vd l' o' ∧ Lent w' G' o' ∧ Moved l l' (swpIx a b n) := by
  refine calls_of_go ft [] Tryz.func211 rfl rfl ?_
  have bdl := hvd.bound
  have hS := St.lentO hG hod
  refine LP.go ft [] (fun m ρ1 w1 => ∃ (k1 : Nat), ∃ (M : List Fact), ∃ (o1 : OB), ∃ (G1 : GH), m = n - k1 ∧ G.le G1 ∧ St w (blk od) G G1 [o1] w1 ∧ Row FactE 40 63 G1 vd M o1 ∧ FR ρ1 [(0, vd), (1, .int .i64 (a : Int)), (2, .int .i64 (b : Int)), (3, .int .i64 (n : Int)), (10, .int .i64 (k1 : Int))] ∧ k1 ≤ n ∧ Moved l M (swpIx a b k1)) _ ⟨0, l, od, G, rfl, (G.le_refl), hS, hvd, ⟨rfl, rfl, rfl, rfl, rfl, trivial⟩, (by omega), (Moved.swp0)⟩ ?_
  rintro m ρ1 w1 ⟨k1, M, o1, G1, rfl, hle1, hS1, hr1, hF9, f1, f2⟩
  refine hF9.set ?_
  clear hF9
  have lenM := Moved.len (by assumption : Moved l M (swpIx a b k1))
  refine WL.lssS (k1 : Int) (n : Int) rfl rfl rfl (fun h1 => ?_) (fun h1 => ?_)
  · obtain ⟨p1, x1, ec1, hx1, hr2, ra1, ep1⟩ := Row.atP hr1 (b + k1) (by omega)
    obtain ⟨v1, rfl, hs1, hb1, hb2⟩ := FactE_open hr2
    obtain ⟨p2, x2, ec2, hx2, hr3, ra2, ep2⟩ := Row.atP hr1 (a + k1) (by omega)
    obtain ⟨v2, rfl, hs2, hb3, hb4⟩ := FactE_open hr3
    obtain ⟨p3, x3, ec3, hx3, hr4, ra3, ep3⟩ := Row.atP hr1 (a + k1) (by omega)
    obtain rfl : x2 = x3 := Option.some.inj (hx2.symm.trans hx3)
    obtain ⟨v3, rfl, hs3, hb5, hb6⟩ := FactE_open hr4
    obtain ⟨p4, x4, ec4, hx4, hr5, ra4, ep4⟩ := Row.atP hr1 (b + k1) (by omega)
    obtain rfl : x1 = x4 := Option.some.inj (hx1.symm.trans hx4)
    obtain ⟨v4, rfl, hs4, hb7, hb8⟩ := FactE_open hr5
    refine dr [(21, false), (23, false)] [(19, .int .i64 ((a + k1 : Nat) : Int)), (23, .int .i64 ((b + k1 : Nat) : Int)), (27, .int .i64 ((b + k1 : Nat) : Int)), (28, .pointer (some p1)), (29, .agg #[v1, .int .i64 x1.t.a, .int .i64 x1.t.b]), (33, .int .i64 ((a + k1 : Nat) : Int)), (34, .pointer (some p2)), (35, .agg #[v2, .int .i64 x2.t.a, .int .i64 x2.t.b]), (36, .pointer (some p3)), (37, .pointer (some p4))] hS1 ⟨fun _ => WL.addN a k1 (by have hreach : reach = 140737488355328 := rfl; omega) rfl rfl rfl <| nu rfl rfl, fun _ => WL.addN b k1 (by have hreach : reach = 140737488355328 := rfl; omega) rfl rfl rfl <| nu rfl rfl, fun _ => WL.addN b k1 (by have hreach : reach = 140737488355328 := rfl; omega) rfl rfl rfl <| nu rfl rfl, fun _ => WL.indexAddrP (b + k1) ep1 ul22 ti63 rfl rfl rfl rfl <| nu rfl rfl, fun _ hSw => WL.loadRA ra1 hSw 0 rfl ti63 rfl rfl rfl rfl <| nu rfl rfl, fun _ => WL.addN a k1 (by have hreach : reach = 140737488355328 := rfl; omega) rfl rfl rfl <| nu rfl rfl, fun _ => WL.indexAddrP (a + k1) ep2 ul22 ti63 rfl rfl rfl rfl <| nu rfl rfl, fun _ hSw => WL.loadRA ra2 hSw 0 rfl ti63 rfl rfl rfl rfl <| nu rfl rfl, fun _ => WL.indexAddrP (a + k1) ep3 ul22 ti63 rfl rfl rfl rfl <| nu rfl rfl, fun _ => WL.indexAddrP (b + k1) ep4 ul22 ti63 rfl rfl rfl rfl <| nu rfl rfl, trivial⟩ (fun w2 hS2 => ?_)
    refine WL.storeR0 hr1 ra3 hS2 0 rfl (by omega) rfl 0 _ [v1, .int .i64 x1.t.a, .int .i64 x1.t.b] x1 [v1, .int .i64 x1.t.a, .int .i64 x1.t.b] rfl ti63 rfl (Nat.le_of_ble_eq_true rfl) (by simp only [List.all_cons, List.all_nil, hs1.oneC, Bool.true_and] <;> rfl) rfl (FactE_mk x1 hs1 hb1 hb2) rfl rfl rfl rfl (fun o2 w3 hr6 hS3 => ?_)
    obtain ⟨p5, x5, ec5, hx5, hr7, ra5, ep5⟩ := Row.atP hr6 (b + k1) (by simp only [List.length_set]; omega)
    obtain rfl : p4 = p5 := ElPtr.inj ep4 ep5
    obtain ⟨v5, rfl, hs5, hb9, hb10⟩ := FactE_open hr7
    refine WL.storeR0 hr6 ra5 hS3 0 rfl (by (simp only [List.length_set]; omega)) rfl 0 _ [v2, .int .i64 x2.t.a, .int .i64 x2.t.b] x2 [v2, .int .i64 x2.t.a, .int .i64 x2.t.b] rfl ti63 rfl (Nat.le_of_ble_eq_true rfl) (by simp only [List.all_cons, List.all_nil, hs2.oneC, Bool.true_and] <;> rfl) rfl (FactE_mk x2 hs2 hb3 hb4) rfl rfl rfl rfl (fun o3 w4 hr8 hS4 => ?_)
    refine WL.incr k1 (by have hreach : reach = 140737488355328 := rfl; omega) rfl rfl rfl ?_
    exact BK.mk' _ ⟨k1 + 1, ((M.set (a + k1) x1).set (b + k1) x2), o3, G1, rfl, hle1, hS4, hr8, ⟨rfl, rfl, rfl, rfl, rfl, trivial⟩, (by omega), (by exact Moved.swpStep (by assumption) (by omega) (by assumption) (by assumption))⟩ (show n - (k1 + 1) < n - k1 by omega)
  exact RT hS1 rfl ⟨rfl, M, _, hr1, hS1.lentAt 0 rfl, (by (have e9 : k1 = n := by omega); rw [← e9]; assumption)⟩

theorem c_rotF {G : GH} {w : World} (hG : G.In w) (l : List Fact) (a m b : Nat) (pf : Fact → Fact → Int) (vd : Value) (od : OB) (hvd : Row FactE 40 (nat_lit 63) G vd l od) (hod : Lent w G od) (fid : Nat) (fcap : Array Value) (hf : FnI2 Tryz.prog (Is FactE) (Is FactE) fid fcap G (fun _ _ => True) pf) (ham : a < m) (hmb : m < b) (hbl : b ≤ l.length) : CL Tryz.prog (nat_lit 201) #[vd, .int .i64 (a : Int), .int .i64 (m : Int), .int .i64 (b : Int), .func (.func fid) #[] fcap] (blk od) w G fun G' w' r => r = .tuple #[] ∧ ∃ (l' : List Fact) (o' : OB), Row FactE 40 (nat_lit 63) G' vd l' o' ∧ Lent w' G' o' ∧ Moved l l' (rotIx a m b) := by
  refine calls_of_go ft [] Tryz.func201 rfl rfl ?_
  have bdl := hvd.bound
  have hS := St.lentO hG hod
  refine WL.subN m a (by omega) (by have hreach : reach = 140737488355328 := rfl; omega) rfl rfl rfl ?_
  refine WL.subN b m (by omega) (by have hreach : reach = 140737488355328 := rfl; omega) rfl rfl rfl ?_
  refine LP.go ft [] (fun mz ρ1 w1 => ∃ (i : Nat), ∃ (j : Nat), ∃ (M : List Fact), ∃ (o1 : OB), ∃ (G1 : GH), mz = (i + j) ∧ G.le G1 ∧ St w (blk od) G G1 [o1] w1 ∧ Row FactE 40 63 G1 vd M o1 ∧ FR ρ1 [(0, vd), (2, .int .i64 (m : Int)), (4, .func (.func fid) #[] fcap), (10, .int .i64 (i : Int)), (11, .int .i64 (j : Int))] ∧ 1 ≤ i ∧ 1 ≤ j ∧ a + i ≤ m ∧ m + j ≤ b ∧ RotInv l M a m b i j) _ ⟨m - a, b - m, l, od, G, rfl, (G.le_refl), hS, hvd, ⟨rfl, rfl, rfl, rfl, rfl, trivial⟩, (by omega), (by omega), (by omega), (by omega), (RotInv.start (by omega) (by omega))⟩ ?_
  rintro mz ρ1 w1 ⟨i, j, M, o1, G1, rfl, hle1, hS1, hr1, hF9, f1, f2, f3, f4, f5⟩
  refine hF9.set ?_
  clear hF9
  have lenM := RotInv.len (by assumption : RotInv l M a m b i j)
  refine WL.neqS (i : Int) (j : Int) rfl rfl rfl (fun h1 => ?_) (fun h1 => ?_)
  · refine WL.gtrS (i : Int) (j : Int) rfl rfl rfl (fun h2 => ?_) (fun h2 => ?_)
    · refine WL.subN m i (by omega) (by have hreach : reach = 140737488355328 := rfl; omega) rfl rfl rfl ?_
      refine WL.cR hb211 rfl rfl rfl (c_swapF hS1.imm M (m - i) m j pf _ _ hr1 (hS1.lentAt 0 rfl) fid fcap (hf.up hle1) (by omega) (by omega)) (fun w2 G2 r1 hres1 hpost1 => ?_)
      have hle2 := hres1.le
      obtain ⟨rfl, l1, o2, hr2, hf1, hq1⟩ := hpost1
      have hS3 := hS1.callRow 0 rfl hres1 hr1 hr2 hf1
      refine WL.subN i j (by omega) (by have hreach : reach = 140737488355328 := rfl; omega) rfl rfl rfl ?_
      exact BK.mk' _ ⟨i - j, j, l1, o2, G2, rfl, (hle1.trans hle2), hS3, hr2, ⟨rfl, rfl, rfl, rfl, rfl, trivial⟩, (by omega), (by omega), (by omega), (by omega), (by exact RotInv.left (by assumption) (by assumption) (by omega) (by omega) (by omega))⟩ (show ((i - j) + j) < (i + j) by omega)
    refine WL.subN m i (by omega) (by have hreach : reach = 140737488355328 := rfl; omega) rfl rfl rfl ?_
    refine WL.addN m j (by have hreach : reach = 140737488355328 := rfl; omega) rfl rfl rfl ?_
    refine WL.subN (m + j) i (by omega) (by have hreach : reach = 140737488355328 := rfl; omega) rfl rfl rfl ?_
    refine WL.cR hb211 rfl rfl rfl (c_swapF hS1.imm M (m - i) ((m + j) - i) i pf _ _ hr1 (hS1.lentAt 0 rfl) fid fcap (hf.up hle1) (by omega) (by omega)) (fun w3 G3 r2 hres2 hpost2 => ?_)
    have hle3 := hres2.le
    obtain ⟨rfl, l2, o3, hr3, hf2, hq2⟩ := hpost2
    have hS5 := hS1.callRow 0 rfl hres2 hr1 hr3 hf2
    refine WL.subN j i (by omega) (by have hreach : reach = 140737488355328 := rfl; omega) rfl rfl rfl ?_
    exact BK.mk' _ ⟨i, j - i, l2, o3, G3, rfl, (hle1.trans hle3), hS5, hr3, ⟨rfl, rfl, rfl, rfl, rfl, trivial⟩, (by omega), (by omega), (by omega), (by omega), (by exact RotInv.right (by assumption) (by assumption) (by omega) (by omega) (by omega))⟩ (show (i + (j - i)) < (i + j) by omega)
  refine WL.subN m i (by omega) (by have hreach : reach = 140737488355328 := rfl; omega) rfl rfl rfl ?_
  refine WL.cR hb211 rfl rfl rfl (c_swapF hS1.imm M (m - i) m i pf _ _ hr1 (hS1.lentAt 0 rfl) fid fcap (hf.up hle1) (by omega) (by omega)) (fun w4 G4 r3 hres3 hpost3 => ?_)
  have hle4 := hres3.le
  obtain ⟨rfl, l3, o4, hr4, hf3, hq3⟩ := hpost3
  have hS7 := hS1.callRow 0 rfl hres3 hr1 hr4 hf3
  exact RT hS7 rfl ⟨rfl, l3, _, hr4, hS7.lentAt 0 rfl, (by exact RotInv.done (by assumption) (by assumption) (by omega) (by omega) (by omega))⟩

def SymSpec (K : Nat) : Prop := ∀  (G : GH) (w : World) (hG : G.In w) (l : List Fact) (a m b : Nat) (pf : Fact → Fact → Int) (vd : Value) (od : OB) (hvd : Row FactE 40 (nat_lit 63) G vd l od) (hod : Lent w G od) (fid : Nat) (fcap : Array Value) (hf : FnI2 Tryz.prog (Is FactE) (Is FactE) fid fcap G (fun _ _ => True) pf) (ham : a < m) (hmb : m < b) (hbl : b ≤ l.length) (as1 : Asc pf l a m) (as2 : Asc pf l m b) (hA : ∀ x ∈ l, ∀ y ∈ l, pf x y < 0 → ¬ pf y x < 0) (hT : ∀ x ∈ l, ∀ y ∈ l, ∀ z ∈ l, ¬ pf y x < 0 → ¬ pf z y < 0 → ¬ pf z x < 0) (hK : b - a < K), CL Tryz.prog (nat_lit 192) #[vd, .int .i64 (a : Int), .int .i64 (m : Int), .int .i64 (b : Int), .func (.func fid) #[] fcap] (blk od) w G fun G' w' r => r = .tuple #[] ∧ ∃ (l' : List Fact) (o' : OB), Row FactE 40 (nat_lit 63) G' vd l' o' ∧ Lent w' G' o' ∧ Ins pf l l' a b b

theorem c_symF {G : GH} {w : World} (hG : G.In w) (l : List Fact) (a m b : Nat) (pf : Fact → Fact → Int) (vd : Value) (od : OB) (hvd : Row FactE 40 (nat_lit 63) G vd l od) (hod : Lent w G od) (fid : Nat) (fcap : Array Value) (hf : FnI2 Tryz.prog (Is FactE) (Is FactE) fid fcap G (fun _ _ => True) pf) (ham : a < m) (hmb : m < b) (hbl : b ≤ l.length) (as1 : Asc pf l a m) (as2 : Asc pf l m b) (hA : ∀ x ∈ l, ∀ y ∈ l, pf x y < 0 → ¬ pf y x < 0) (hT : ∀ x ∈ l, ∀ y ∈ l, ∀ z ∈ l, ¬ pf y x < 0 → ¬ pf z y < 0 → ¬ pf z x < 0) (IH : SymSpec (b - a)) : CL Tryz.prog (nat_lit 192) #[vd, .int .i64 (a : Int), .int .i64 (m : Int), .int .i64 (b : Int), .func (.func fid) #[] fcap] (blk od) w G fun G' w' r => r = .tuple #[] ∧ ∃ (l' : List Fact) (o' : OB), Row FactE 40 (nat_lit 63) G' vd l' o' ∧ Lent w' G' o' ∧ Ins pf l l' a b b := by
  refine calls_of_go ft [] Tryz.func192 rfl rfl ?_
  have bdl := hvd.bound
  have hS := St.lentO hG hod
  refine WL.subN m a (by omega) (by have hreach : reach = 140737488355328 := rfl; omega) rfl rfl rfl ?_
  refine WL.eqlS ((m - a : Nat) : Int) 1 rfl rfl rfl (fun h1 => ?_) (fun h1 => ?_)
  · obtain ⟨xa, hxa⟩ := some_at (l := l) (k := a) (by omega)
    refine LP.go ft [] (fun mz ρ1 w1 => ∃ (i : Nat), ∃ (j : Nat), ∃ (G1 : GH), mz = (j - i) ∧ G.le G1 ∧ St w (blk od) G G1 [od] w1 ∧ FR ρ1 [(0, vd), (1, .int .i64 (a : Int)), (4, .func (.func fid) #[] fcap), (10, .int .i64 (i : Int)), (11, .int .i64 (j : Int))] ∧ (a + 1) ≤ i ∧ i ≤ j ∧ j ≤ b ∧ LoF l i (a + 1) (fun y => pf y xa < 0) ∧ HiF l j b (fun y => ¬ pf y xa < 0)) _ ⟨m, b, G, rfl, (G.le_refl), hS, ⟨rfl, rfl, rfl, rfl, rfl, trivial⟩, (by omega), (by omega), (by omega), (LoF.start (by omega)), (HiF.start (by omega))⟩ ?_
    rintro mz ρ1 w1 ⟨i, j, G1, rfl, hle1, hS1, hF9, f1, f2, f3, f4, f5⟩
    refine hF9.set ?_
    clear hF9
    refine WL.lssS (i : Int) (j : Int) rfl rfl rfl (fun h2 => ?_) (fun h2 => ?_)
    · refine WL.addN i j (by have hreach : reach = 140737488355328 := rfl; omega) rfl rfl rfl ?_
      refine WL.toU (i + j) ul3 ul98 (by have hreach : reach = 140737488355328 := rfl; omega) rfl rfl ?_
      refine WL.half (i + j) rfl rfl rfl ?_
      refine WL.ofU ((i + j) / 2) ul98 ul3 (by have hreach : reach = 140737488355328 := rfl; omega) rfl rfl ?_
      obtain ⟨p1, x1, ec1, hx1, hr1, ra1, ep1⟩ := Row.atP (hvd.mono hle1) ((i + j) / 2) (by omega)
      obtain ⟨v1, rfl, hs1, hb1, hb2⟩ := FactE_open hr1
      obtain ⟨p2, x2, ec2, hx2, hr2, ra2, ep2⟩ := Row.atP (hvd.mono hle1) a (by omega)
      obtain rfl : xa = x2 := Option.some.inj (hxa.symm.trans hx2)
      obtain ⟨v2, rfl, hs2, hb3, hb4⟩ := FactE_open hr2
      rcases Cmp.dec .lss (pf x1 xa) 0 with ⟨hb5, q1⟩ | ⟨hb5, q1⟩
      · have h3 : (pf x1 xa) < 0 := q1
        clear q1
        refine dr [] [(43, .pointer (some p1)), (44, .agg #[v1, .int .i64 x1.t.a, .int .i64 x1.t.b]), (47, .pointer (some p2)), (48, .agg #[v2, .int .i64 xa.t.a, .int .i64 xa.t.b]), (49, .int .i64 (pf x1 xa)), (50, .bool true)] hS1 ⟨fun _ => WL.indexAddrP ((i + j) / 2) ep1 ul22 ti63 rfl rfl rfl rfl <| nu rfl rfl, fun _ hSw => WL.loadRA ra1 hSw 0 rfl ti63 rfl rfl rfl rfl <| nu rfl rfl, fun _ => WL.indexAddrP a ep2 ul22 ti63 rfl rfl rfl rfl <| nu rfl rfl, fun _ hSw => WL.loadRA ra2 hSw 0 rfl ti63 rfl rfl rfl rfl <| nu rfl rfl, fun _ hSw => WL.callD hSw hf.body rfl rfl rfl (hf.call _ _ (.agg #[v1, .int .i64 x1.t.a, .int .i64 x1.t.b]) (.agg #[v2, .int .i64 xa.t.a, .int .i64 xa.t.b]) x1 xa hle1 hSw.imm trivial ⟨_, rfl, (FactE_mk x1 hs1 hb1 hb2)⟩ ⟨_, rfl, (FactE_mk xa hs2 hb3 hb4)⟩) rfl, fun _ => WL.cmpV .lss rfl .i64 (pf x1 xa) 0 _ hb5 rfl rfl rfl <| nu rfl rfl, trivial⟩ (fun w2 hS2 => ?_)
        refine WL.incr ((i + j) / 2) (by have hreach : reach = 140737488355328 := rfl; omega) rfl rfl rfl ?_
        exact BK.mk' _ ⟨(i + j) / 2 + 1, j, G1, rfl, hle1, hS2, ⟨rfl, rfl, rfl, rfl, rfl, trivial⟩, (by omega), (by omega), (by omega), (by exact LoF.step (by assumption) (by show _ ; first | assumption | omega)), (by assumption)⟩ (show (j - ((i + j) / 2 + 1)) < (j - i) by omega)
      have h3 : 0 ≤ (pf x1 xa) := q1
      clear q1
      refine dr [] [(43, .pointer (some p1)), (44, .agg #[v1, .int .i64 x1.t.a, .int .i64 x1.t.b]), (47, .pointer (some p2)), (48, .agg #[v2, .int .i64 xa.t.a, .int .i64 xa.t.b]), (49, .int .i64 (pf x1 xa)), (50, .bool false)] hS1 ⟨fun _ => WL.indexAddrP ((i + j) / 2) ep1 ul22 ti63 rfl rfl rfl rfl <| nu rfl rfl, fun _ hSw => WL.loadRA ra1 hSw 0 rfl ti63 rfl rfl rfl rfl <| nu rfl rfl, fun _ => WL.indexAddrP a ep2 ul22 ti63 rfl rfl rfl rfl <| nu rfl rfl, fun _ hSw => WL.loadRA ra2 hSw 0 rfl ti63 rfl rfl rfl rfl <| nu rfl rfl, fun _ hSw => WL.callD hSw hf.body rfl rfl rfl (hf.call _ _ (.agg #[v1, .int .i64 x1.t.a, .int .i64 x1.t.b]) (.agg #[v2, .int .i64 xa.t.a, .int .i64 xa.t.b]) x1 xa hle1 hSw.imm trivial ⟨_, rfl, (FactE_mk x1 hs1 hb1 hb2)⟩ ⟨_, rfl, (FactE_mk xa hs2 hb3 hb4)⟩) rfl, fun _ => WL.cmpV .lss rfl .i64 (pf x1 xa) 0 _ hb5 rfl rfl rfl <| nu rfl rfl, trivial⟩ (fun w3 hS3 => ?_)
      exact BK.mk' _ ⟨i, (i + j) / 2, G1, rfl, hle1, hS3, ⟨rfl, rfl, rfl, rfl, rfl, trivial⟩, (by omega), (by omega), (by omega), (by assumption), (by exact HiF.step (by assumption) (by show _ ; first | assumption | omega))⟩ (show (((i + j) / 2) - i) < (j - i) by omega)
    refine LP.go ft [] (fun mz ρ1 w1 => ∃ (k : Nat), ∃ (M : List Fact), ∃ (o1 : OB), ∃ (G2 : GH), mz = (i - k) ∧ G1.le G2 ∧ St w (blk od) G G2 [o1] w1 ∧ Row FactE 40 63 G2 vd M o1 ∧ FR ρ1 [(0, vd), (10, .int .i64 (i : Int)), (13, .int .i64 (k : Int))] ∧ a ≤ k ∧ k + 1 ≤ i ∧ Moved l M (rotIx a (a + 1) (k + 1))) _ ⟨a, l, od, G1, rfl, (G1.le_refl), hS1, (hvd.mono hle1), ⟨rfl, rfl, rfl, trivial⟩, (by omega), (by omega), (Moved.rot0)⟩ ?_
    rintro mz ρ1 w4 ⟨k, M, o1, G2, rfl, hle2, hS4, hr3, hF9, f6, f7, f8⟩
    refine hF9.set ?_
    clear hF9
    have lenM := Moved.len (by assumption : Moved l M (rotIx a (a + 1) (k + 1)))
    refine WL.subN i 1 (by omega) (by have hreach : reach = 140737488355328 := rfl; omega) rfl rfl rfl ?_
    refine WL.lssS (k : Int) ((i - 1 : Nat) : Int) rfl rfl rfl (fun h4 => ?_) (fun h4 => ?_)
    · obtain ⟨p3, x3, ec3, hx3, hr4, ra3, ep3⟩ := Row.atP hr3 (k + 1) (by omega)
      obtain ⟨v3, rfl, hs3, hb6, hb7⟩ := FactE_open hr4
      obtain ⟨p4, x4, ec4, hx4, hr5, ra4, ep4⟩ := Row.atP hr3 k (by omega)
      obtain ⟨v4, rfl, hs4, hb8, hb9⟩ := FactE_open hr5
      obtain ⟨p5, x5, ec5, hx5, hr6, ra5, ep5⟩ := Row.atP hr3 k (by omega)
      obtain rfl : x4 = x5 := Option.some.inj (hx4.symm.trans hx5)
      obtain ⟨v5, rfl, hs5, hb10, hb11⟩ := FactE_open hr6
      obtain ⟨p6, x6, ec6, hx6, hr7, ra6, ep6⟩ := Row.atP hr3 (k + 1) (by omega)
      obtain rfl : x3 = x6 := Option.some.inj (hx3.symm.trans hx6)
      obtain ⟨v6, rfl, hs6, hb12, hb13⟩ := FactE_open hr7
      refine dr [(15, false), (17, false)] [(65, .int .i64 ((k + 1 : Nat) : Int)), (68, .int .i64 ((k + 1 : Nat) : Int)), (69, .pointer (some p3)), (70, .agg #[v3, .int .i64 x3.t.a, .int .i64 x3.t.b]), (73, .pointer (some p4)), (74, .agg #[v4, .int .i64 x4.t.a, .int .i64 x4.t.b]), (75, .pointer (some p5)), (76, .pointer (some p6))] hS4 ⟨fun _ => WL.incr k (by have hreach : reach = 140737488355328 := rfl; omega) rfl rfl rfl <| nu rfl rfl, fun _ => WL.incr k (by have hreach : reach = 140737488355328 := rfl; omega) rfl rfl rfl <| nu rfl rfl, fun _ => WL.indexAddrP (k + 1) ep3 ul22 ti63 rfl rfl rfl rfl <| nu rfl rfl, fun _ hSw => WL.loadRA ra3 hSw 0 rfl ti63 rfl rfl rfl rfl <| nu rfl rfl, fun _ => WL.indexAddrP k ep4 ul22 ti63 rfl rfl rfl rfl <| nu rfl rfl, fun _ hSw => WL.loadRA ra4 hSw 0 rfl ti63 rfl rfl rfl rfl <| nu rfl rfl, fun _ => WL.indexAddrP k ep5 ul22 ti63 rfl rfl rfl rfl <| nu rfl rfl, fun _ => WL.indexAddrP (k + 1) ep6 ul22 ti63 rfl rfl rfl rfl <| nu rfl rfl, trivial⟩ (fun w5 hS5 => ?_)
      refine WL.storeR0 hr3 ra5 hS5 0 rfl (by omega) rfl 0 _ [v3, .int .i64 x3.t.a, .int .i64 x3.t.b] x3 [v3, .int .i64 x3.t.a, .int .i64 x3.t.b] rfl ti63 rfl (Nat.le_of_ble_eq_true rfl) (by simp only [List.all_cons, List.all_nil, hs3.oneC, Bool.true_and] <;> rfl) rfl (FactE_mk x3 hs3 hb6 hb7) rfl rfl rfl rfl (fun o2 w6 hr8 hS6 => ?_)
      obtain ⟨p7, x7, ec7, hx7, hr9, ra7, ep7⟩ := Row.atP hr8 (k + 1) (by simp only [List.length_set]; omega)
      obtain rfl : p6 = p7 := ElPtr.inj ep6 ep7
      obtain ⟨v7, rfl, hs7, hb14, hb15⟩ := FactE_open hr9
      refine WL.storeR0 hr8 ra7 hS6 0 rfl (by (simp only [List.length_set]; omega)) rfl 0 _ [v4, .int .i64 x4.t.a, .int .i64 x4.t.b] x4 [v4, .int .i64 x4.t.a, .int .i64 x4.t.b] rfl ti63 rfl (Nat.le_of_ble_eq_true rfl) (by simp only [List.all_cons, List.all_nil, hs4.oneC, Bool.true_and] <;> rfl) rfl (FactE_mk x4 hs4 hb8 hb9) rfl rfl rfl rfl (fun o3 w7 hr10 hS7 => ?_)
      refine WL.incr k (by have hreach : reach = 140737488355328 := rfl; omega) rfl rfl rfl ?_
      exact BK.mk' _ ⟨k + 1, ((M.set k x3).set (k + 1) x4), o3, G2, rfl, hle2, hS7, hr10, ⟨rfl, rfl, rfl, trivial⟩, (by omega), (by omega), (by exact Moved.rotUp (by assumption) (by omega) (by assumption) (by assumption))⟩ (show (i - (k + 1)) < (i - k) by omega)
    exact RT hS4 rfl ⟨rfl, M, _, hr3, hS4.lentAt 0 rfl, (by exact merge_upF (i := i) (j := j) (k := k) hA hT hxa (by rw [show a + 1 = m by omega]; exact as2) (by omega) (by omega) hbl (by assumption) (by assumption) (by omega) (by omega) (by assumption))⟩
  refine WL.subN b m (by omega) (by have hreach : reach = 140737488355328 := rfl; omega) rfl rfl rfl ?_
  refine WL.eqlS ((b - m : Nat) : Int) 1 rfl rfl rfl (fun h5 => ?_) (fun h5 => ?_)
  · obtain ⟨xm, hxm⟩ := some_at (l := l) (k := m) (by omega)
    refine LP.go ft [] (fun mz ρ1 w1 => ∃ (i : Nat), ∃ (j : Nat), ∃ (G3 : GH), mz = (j - i) ∧ G.le G3 ∧ St w (blk od) G G3 [od] w1 ∧ FR ρ1 [(0, vd), (2, .int .i64 (m : Int)), (4, .func (.func fid) #[] fcap), (14, .int .i64 (i : Int)), (15, .int .i64 (j : Int))] ∧ a ≤ i ∧ i ≤ j ∧ j ≤ m ∧ LoF l i a (fun y => ¬ pf xm y < 0) ∧ HiF l j m (fun y => pf xm y < 0)) _ ⟨a, m, G, rfl, (G.le_refl), hS, ⟨rfl, rfl, rfl, rfl, rfl, trivial⟩, (by omega), (by omega), (by omega), (LoF.start (by omega)), (HiF.start (by omega))⟩ ?_
    rintro mz ρ1 w8 ⟨i, j, G3, rfl, hle3, hS8, hF9, f9, f10, f11, f12, f13⟩
    refine hF9.set ?_
    clear hF9
    refine WL.lssS (i : Int) (j : Int) rfl rfl rfl (fun h6 => ?_) (fun h6 => ?_)
    · refine WL.addN i j (by have hreach : reach = 140737488355328 := rfl; omega) rfl rfl rfl ?_
      refine WL.toU (i + j) ul3 ul98 (by have hreach : reach = 140737488355328 := rfl; omega) rfl rfl ?_
      refine WL.half (i + j) rfl rfl rfl ?_
      refine WL.ofU ((i + j) / 2) ul98 ul3 (by have hreach : reach = 140737488355328 := rfl; omega) rfl rfl ?_
      obtain ⟨p8, x8, ec8, hx8, hr11, ra8, ep8⟩ := Row.atP (hvd.mono hle3) m (by omega)
      obtain rfl : xm = x8 := Option.some.inj (hxm.symm.trans hx8)
      obtain ⟨v8, rfl, hs8, hb16, hb17⟩ := FactE_open hr11
      obtain ⟨p9, x9, ec9, hx9, hr12, ra9, ep9⟩ := Row.atP (hvd.mono hle3) ((i + j) / 2) (by omega)
      obtain ⟨v9, rfl, hs9, hb18, hb19⟩ := FactE_open hr12
      rcases Cmp.dec .lss (pf xm x9) 0 with ⟨hb20, q2⟩ | ⟨hb20, q2⟩
      · have h7 : (pf xm x9) < 0 := q2
        clear q2
        refine dr [] [(95, .pointer (some p8)), (96, .agg #[v8, .int .i64 xm.t.a, .int .i64 xm.t.b]), (99, .pointer (some p9)), (100, .agg #[v9, .int .i64 x9.t.a, .int .i64 x9.t.b]), (101, .int .i64 (pf xm x9)), (102, .bool true)] hS8 ⟨fun _ => WL.indexAddrP m ep8 ul22 ti63 rfl rfl rfl rfl <| nu rfl rfl, fun _ hSw => WL.loadRA ra8 hSw 0 rfl ti63 rfl rfl rfl rfl <| nu rfl rfl, fun _ => WL.indexAddrP ((i + j) / 2) ep9 ul22 ti63 rfl rfl rfl rfl <| nu rfl rfl, fun _ hSw => WL.loadRA ra9 hSw 0 rfl ti63 rfl rfl rfl rfl <| nu rfl rfl, fun _ hSw => WL.callD hSw hf.body rfl rfl rfl (hf.call _ _ (.agg #[v8, .int .i64 xm.t.a, .int .i64 xm.t.b]) (.agg #[v9, .int .i64 x9.t.a, .int .i64 x9.t.b]) xm x9 hle3 hSw.imm trivial ⟨_, rfl, (FactE_mk xm hs8 hb16 hb17)⟩ ⟨_, rfl, (FactE_mk x9 hs9 hb18 hb19)⟩) rfl, fun _ => WL.cmpV .lss rfl .i64 (pf xm x9) 0 _ hb20 rfl rfl rfl <| nu rfl rfl, trivial⟩ (fun w9 hS9 => ?_)
        exact BK.mk' _ ⟨i, (i + j) / 2, G3, rfl, hle3, hS9, ⟨rfl, rfl, rfl, rfl, rfl, trivial⟩, (by omega), (by omega), (by omega), (by assumption), (by exact HiF.step (by assumption) (by show _ ; first | assumption | omega))⟩ (show (((i + j) / 2) - i) < (j - i) by omega)
      have h7 : 0 ≤ (pf xm x9) := q2
      clear q2
      refine dr [] [(95, .pointer (some p8)), (96, .agg #[v8, .int .i64 xm.t.a, .int .i64 xm.t.b]), (99, .pointer (some p9)), (100, .agg #[v9, .int .i64 x9.t.a, .int .i64 x9.t.b]), (101, .int .i64 (pf xm x9)), (102, .bool false)] hS8 ⟨fun _ => WL.indexAddrP m ep8 ul22 ti63 rfl rfl rfl rfl <| nu rfl rfl, fun _ hSw => WL.loadRA ra8 hSw 0 rfl ti63 rfl rfl rfl rfl <| nu rfl rfl, fun _ => WL.indexAddrP ((i + j) / 2) ep9 ul22 ti63 rfl rfl rfl rfl <| nu rfl rfl, fun _ hSw => WL.loadRA ra9 hSw 0 rfl ti63 rfl rfl rfl rfl <| nu rfl rfl, fun _ hSw => WL.callD hSw hf.body rfl rfl rfl (hf.call _ _ (.agg #[v8, .int .i64 xm.t.a, .int .i64 xm.t.b]) (.agg #[v9, .int .i64 x9.t.a, .int .i64 x9.t.b]) xm x9 hle3 hSw.imm trivial ⟨_, rfl, (FactE_mk xm hs8 hb16 hb17)⟩ ⟨_, rfl, (FactE_mk x9 hs9 hb18 hb19)⟩) rfl, fun _ => WL.cmpV .lss rfl .i64 (pf xm x9) 0 _ hb20 rfl rfl rfl <| nu rfl rfl, trivial⟩ (fun w10 hS10 => ?_)
      refine WL.incr ((i + j) / 2) (by have hreach : reach = 140737488355328 := rfl; omega) rfl rfl rfl ?_
      exact BK.mk' _ ⟨(i + j) / 2 + 1, j, G3, rfl, hle3, hS10, ⟨rfl, rfl, rfl, rfl, rfl, trivial⟩, (by omega), (by omega), (by omega), (by exact LoF.step (by assumption) (by show _ ; first | assumption | omega)), (by assumption)⟩ (show (j - ((i + j) / 2 + 1)) < (j - i) by omega)
    refine LP.go ft [] (fun mz ρ1 w1 => ∃ (k : Nat), ∃ (M : List Fact), ∃ (o4 : OB), ∃ (G4 : GH), mz = (0 + k) ∧ G3.le G4 ∧ St w (blk od) G G4 [o4] w1 ∧ Row FactE 40 63 G4 vd M o4 ∧ FR ρ1 [(0, vd), (14, .int .i64 (i : Int)), (17, .int .i64 (k : Int))] ∧ i ≤ k ∧ k ≤ m ∧ Moved l M (rotIx k m (m + 1))) _ ⟨m, l, od, G3, rfl, (G3.le_refl), hS8, (hvd.mono hle3), ⟨rfl, rfl, rfl, trivial⟩, (by omega), (by omega), (Moved.rotM)⟩ ?_
    rintro mz ρ1 w11 ⟨k, M, o4, G4, rfl, hle4, hS11, hr13, hF9, f14, f15, f16⟩
    refine hF9.set ?_
    clear hF9
    have lenM := Moved.len (by assumption : Moved l M (rotIx k m (m + 1)))
    refine WL.gtrS (k : Int) (i : Int) rfl rfl rfl (fun h8 => ?_) (fun h8 => ?_)
    · obtain ⟨p10, x10, ec10, hx10, hr14, ra10, ep10⟩ := Row.atP hr13 (k - 1) (by omega)
      obtain ⟨v10, rfl, hs10, hb21, hb22⟩ := FactE_open hr14
      obtain ⟨p11, x11, ec11, hx11, hr15, ra11, ep11⟩ := Row.atP hr13 k (by omega)
      obtain ⟨v11, rfl, hs11, hb23, hb24⟩ := FactE_open hr15
      obtain ⟨p12, x12, ec12, hx12, hr16, ra12, ep12⟩ := Row.atP hr13 k (by omega)
      obtain rfl : x11 = x12 := Option.some.inj (hx11.symm.trans hx12)
      obtain ⟨v12, rfl, hs12, hb25, hb26⟩ := FactE_open hr16
      obtain ⟨p13, x13, ec13, hx13, hr17, ra13, ep13⟩ := Row.atP hr13 (k - 1) (by omega)
      obtain rfl : x10 = x13 := Option.some.inj (hx10.symm.trans hx13)
      obtain ⟨v13, rfl, hs13, hb27, hb28⟩ := FactE_open hr17
      refine dr [(15, false), (17, false)] [(117, .int .i64 ((k - 1 : Nat) : Int)), (120, .int .i64 ((k - 1 : Nat) : Int)), (121, .pointer (some p10)), (122, .agg #[v10, .int .i64 x10.t.a, .int .i64 x10.t.b]), (125, .pointer (some p11)), (126, .agg #[v11, .int .i64 x11.t.a, .int .i64 x11.t.b]), (127, .pointer (some p12)), (128, .pointer (some p13))] hS11 ⟨fun _ => WL.subN k 1 (by omega) (by have hreach : reach = 140737488355328 := rfl; omega) rfl rfl rfl <| nu rfl rfl, fun _ => WL.subN k 1 (by omega) (by have hreach : reach = 140737488355328 := rfl; omega) rfl rfl rfl <| nu rfl rfl, fun _ => WL.indexAddrP (k - 1) ep10 ul22 ti63 rfl rfl rfl rfl <| nu rfl rfl, fun _ hSw => WL.loadRA ra10 hSw 0 rfl ti63 rfl rfl rfl rfl <| nu rfl rfl, fun _ => WL.indexAddrP k ep11 ul22 ti63 rfl rfl rfl rfl <| nu rfl rfl, fun _ hSw => WL.loadRA ra11 hSw 0 rfl ti63 rfl rfl rfl rfl <| nu rfl rfl, fun _ => WL.indexAddrP k ep12 ul22 ti63 rfl rfl rfl rfl <| nu rfl rfl, fun _ => WL.indexAddrP (k - 1) ep13 ul22 ti63 rfl rfl rfl rfl <| nu rfl rfl, trivial⟩ (fun w12 hS12 => ?_)
      refine WL.storeR0 hr13 ra12 hS12 0 rfl (by omega) rfl 0 _ [v10, .int .i64 x10.t.a, .int .i64 x10.t.b] x10 [v10, .int .i64 x10.t.a, .int .i64 x10.t.b] rfl ti63 rfl (Nat.le_of_ble_eq_true rfl) (by simp only [List.all_cons, List.all_nil, hs10.oneC, Bool.true_and] <;> rfl) rfl (FactE_mk x10 hs10 hb21 hb22) rfl rfl rfl rfl (fun o5 w13 hr18 hS13 => ?_)
      obtain ⟨p14, x14, ec14, hx14, hr19, ra14, ep14⟩ := Row.atP hr18 (k - 1) (by simp only [List.length_set]; omega)
      obtain rfl : p13 = p14 := ElPtr.inj ep13 ep14
      obtain ⟨v14, rfl, hs14, hb29, hb30⟩ := FactE_open hr19
      refine WL.storeR0 hr18 ra14 hS13 0 rfl (by (simp only [List.length_set]; omega)) rfl 0 _ [v11, .int .i64 x11.t.a, .int .i64 x11.t.b] x11 [v11, .int .i64 x11.t.a, .int .i64 x11.t.b] rfl ti63 rfl (Nat.le_of_ble_eq_true rfl) (by simp only [List.all_cons, List.all_nil, hs11.oneC, Bool.true_and] <;> rfl) rfl (FactE_mk x11 hs11 hb23 hb24) rfl rfl rfl rfl (fun o6 w14 hr20 hS14 => ?_)
      refine WL.subN k 1 (by omega) (by have hreach : reach = 140737488355328 := rfl; omega) rfl rfl rfl ?_
      exact BK.mk' _ ⟨k - 1, ((M.set k x10).set (k - 1) x11), o6, G4, rfl, hle4, hS14, hr20, ⟨rfl, rfl, rfl, trivial⟩, (by omega), (by omega), (by exact Moved.rotDown (by assumption) (by omega) (by omega) (by assumption) (by assumption))⟩ (show (0 + (k - 1)) < (0 + k) by omega)
    exact RT hS11 rfl ⟨rfl, M, _, hr13, hS11.lentAt 0 rfl, (by exact merge_downF (i := i) (j := j) (k := k) hA hT hxm as1 (by omega) (by omega) (by assumption) (by assumption) (by omega) (by omega) (by omega) (by assumption))⟩
  refine WL.addN a b (by have hreach : reach = 140737488355328 := rfl; omega) rfl rfl rfl ?_
  refine WL.toU (a + b) ul3 ul98 (by have hreach : reach = 140737488355328 := rfl; omega) rfl rfl ?_
  refine WL.half (a + b) rfl rfl rfl ?_
  refine WL.ofU ((a + b) / 2) ul98 ul3 (by have hreach : reach = 140737488355328 := rfl; omega) rfl rfl ?_
  refine WL.addN ((a + b) / 2) m (by have hreach : reach = 140737488355328 := rfl; omega) rfl rfl rfl ?_
  refine WL.gtrS (m : Int) (((a + b) / 2 : Nat) : Int) rfl rfl rfl (fun h9 => ?_) (fun h9 => ?_)
  · refine WL.subN (((a + b) / 2) + m) b (by omega) (by have hreach : reach = 140737488355328 := rfl; omega) rfl rfl rfl ?_
    refine WL.subN (((a + b) / 2) + m) 1 (by omega) (by have hreach : reach = 140737488355328 := rfl; omega) rfl rfl rfl ?_
    refine LP.go ft [] (fun mz ρ1 w1 => ∃ (s : Nat), ∃ (r : Nat), ∃ (G5 : GH), mz = (r - s) ∧ G.le G5 ∧ St w (blk od) G G5 [od] w1 ∧ FR ρ1 [(0, vd), (1, .int .i64 (a : Int)), (2, .int .i64 (m : Int)), (3, .int .i64 (b : Int)), (4, .func (.func fid) #[] fcap), (18, .int .i64 (((a + b) / 2 : Nat) : Int)), (19, .int .i64 ((((a + b) / 2) + m : Nat) : Int)), (20, .int .i64 (s : Int)), (21, .int .i64 (r : Int)), (22, .int .i64 (((((a + b) / 2) + m) - 1 : Nat) : Int))] ∧ (((a + b) / 2) + m) - b ≤ s ∧ s ≤ r ∧ r ≤ (a + b) / 2 ∧ C1F pf l s ((((a + b) / 2) + m) - b) ((a + b) / 2 + m) ∧ C2F pf l r ((a + b) / 2) ((a + b) / 2 + m)) _ ⟨(((a + b) / 2) + m) - b, (a + b) / 2, G, rfl, (G.le_refl), hS, ⟨rfl, rfl, rfl, rfl, rfl, rfl, rfl, rfl, rfl, rfl, trivial⟩, (by omega), (by omega), (by omega), (C1F.start), (C2F.start)⟩ ?_
    rintro mz ρ1 w15 ⟨s, r, G5, rfl, hle5, hS15, hF9, f17, f18, f19, f20, f21⟩
    refine hF9.set ?_
    clear hF9
    refine WL.lssS (s : Int) (r : Int) rfl rfl rfl (fun h10 => ?_) (fun h10 => ?_)
    · refine WL.addN s r (by have hreach : reach = 140737488355328 := rfl; omega) rfl rfl rfl ?_
      refine WL.toU (s + r) ul3 ul98 (by have hreach : reach = 140737488355328 := rfl; omega) rfl rfl ?_
      refine WL.half (s + r) rfl rfl rfl ?_
      refine WL.ofU ((s + r) / 2) ul98 ul3 (by have hreach : reach = 140737488355328 := rfl; omega) rfl rfl ?_
      obtain ⟨p15, x15, ec15, hx15, hr21, ra15, ep15⟩ := Row.atP (hvd.mono hle5) (((((a + b) / 2) + m) - 1) - ((s + r) / 2)) (by omega)
      obtain ⟨v15, rfl, hs15, hb31, hb32⟩ := FactE_open hr21
      obtain ⟨p16, x16, ec16, hx16, hr22, ra16, ep16⟩ := Row.atP (hvd.mono hle5) ((s + r) / 2) (by omega)
      obtain ⟨v16, rfl, hs16, hb33, hb34⟩ := FactE_open hr22
      rcases Cmp.dec .lss (pf x15 x16) 0 with ⟨hb35, q3⟩ | ⟨hb35, q3⟩
      · have h11 : (pf x15 x16) < 0 := q3
        clear q3
        refine dr [] [(162, .int .i64 ((((((a + b) / 2) + m) - 1) - ((s + r) / 2) : Nat) : Int)), (163, .pointer (some p15)), (164, .agg #[v15, .int .i64 x15.t.a, .int .i64 x15.t.b]), (167, .pointer (some p16)), (168, .agg #[v16, .int .i64 x16.t.a, .int .i64 x16.t.b]), (169, .int .i64 (pf x15 x16)), (170, .bool true)] hS15 ⟨fun _ => WL.subN ((((a + b) / 2) + m) - 1) ((s + r) / 2) (by omega) (by have hreach : reach = 140737488355328 := rfl; omega) rfl rfl rfl <| nu rfl rfl, fun _ => WL.indexAddrP (((((a + b) / 2) + m) - 1) - ((s + r) / 2)) ep15 ul22 ti63 rfl rfl rfl rfl <| nu rfl rfl, fun _ hSw => WL.loadRA ra15 hSw 0 rfl ti63 rfl rfl rfl rfl <| nu rfl rfl, fun _ => WL.indexAddrP ((s + r) / 2) ep16 ul22 ti63 rfl rfl rfl rfl <| nu rfl rfl, fun _ hSw => WL.loadRA ra16 hSw 0 rfl ti63 rfl rfl rfl rfl <| nu rfl rfl, fun _ hSw => WL.callD hSw hf.body rfl rfl rfl (hf.call _ _ (.agg #[v15, .int .i64 x15.t.a, .int .i64 x15.t.b]) (.agg #[v16, .int .i64 x16.t.a, .int .i64 x16.t.b]) x15 x16 hle5 hSw.imm trivial ⟨_, rfl, (FactE_mk x15 hs15 hb31 hb32)⟩ ⟨_, rfl, (FactE_mk x16 hs16 hb33 hb34)⟩) rfl, fun _ => WL.cmpV .lss rfl .i64 (pf x15 x16) 0 _ hb35 rfl rfl rfl <| nu rfl rfl, trivial⟩ (fun w16 hS16 => ?_)
        exact BK.mk' _ ⟨s, (s + r) / 2, G5, rfl, hle5, hS16, ⟨rfl, rfl, rfl, rfl, rfl, rfl, rfl, rfl, rfl, rfl, trivial⟩, (by omega), (by omega), (by omega), (by assumption), (by exact C2F.step (by assumption) (by assumption) (by assumption))⟩ (show (((s + r) / 2) - s) < (r - s) by omega)
      have h11 : 0 ≤ (pf x15 x16) := q3
      clear q3
      refine dr [] [(162, .int .i64 ((((((a + b) / 2) + m) - 1) - ((s + r) / 2) : Nat) : Int)), (163, .pointer (some p15)), (164, .agg #[v15, .int .i64 x15.t.a, .int .i64 x15.t.b]), (167, .pointer (some p16)), (168, .agg #[v16, .int .i64 x16.t.a, .int .i64 x16.t.b]), (169, .int .i64 (pf x15 x16)), (170, .bool false)] hS15 ⟨fun _ => WL.subN ((((a + b) / 2) + m) - 1) ((s + r) / 2) (by omega) (by have hreach : reach = 140737488355328 := rfl; omega) rfl rfl rfl <| nu rfl rfl, fun _ => WL.indexAddrP (((((a + b) / 2) + m) - 1) - ((s + r) / 2)) ep15 ul22 ti63 rfl rfl rfl rfl <| nu rfl rfl, fun _ hSw => WL.loadRA ra15 hSw 0 rfl ti63 rfl rfl rfl rfl <| nu rfl rfl, fun _ => WL.indexAddrP ((s + r) / 2) ep16 ul22 ti63 rfl rfl rfl rfl <| nu rfl rfl, fun _ hSw => WL.loadRA ra16 hSw 0 rfl ti63 rfl rfl rfl rfl <| nu rfl rfl, fun _ hSw => WL.callD hSw hf.body rfl rfl rfl (hf.call _ _ (.agg #[v15, .int .i64 x15.t.a, .int .i64 x15.t.b]) (.agg #[v16, .int .i64 x16.t.a, .int .i64 x16.t.b]) x15 x16 hle5 hSw.imm trivial ⟨_, rfl, (FactE_mk x15 hs15 hb31 hb32)⟩ ⟨_, rfl, (FactE_mk x16 hs16 hb33 hb34)⟩) rfl, fun _ => WL.cmpV .lss rfl .i64 (pf x15 x16) 0 _ hb35 rfl rfl rfl <| nu rfl rfl, trivial⟩ (fun w17 hS17 => ?_)
      refine WL.incr ((s + r) / 2) (by have hreach : reach = 140737488355328 := rfl; omega) rfl rfl rfl ?_
      exact BK.mk' _ ⟨(s + r) / 2 + 1, r, G5, rfl, hle5, hS17, ⟨rfl, rfl, rfl, rfl, rfl, rfl, rfl, rfl, rfl, rfl, trivial⟩, (by omega), (by omega), (by omega), (by exact C1F.step (by assumption) (by assumption) (by assumption)), (by assumption)⟩ (show (r - ((s + r) / 2 + 1)) < (r - s) by omega)
    refine WL.subN (((a + b) / 2) + m) s (by omega) (by have hreach : reach = 140737488355328 := rfl; omega) rfl rfl rfl ?_
    refine WL.lssS (s : Int) (m : Int) rfl rfl rfl (fun h12 => ?_) (fun h12 => ?_)
    · refine WL.lssS (m : Int) (((((a + b) / 2) + m) - s : Nat) : Int) rfl rfl rfl (fun h13 => ?_) (fun h13 => ?_)
      · refine WL.cR hb201 rfl rfl rfl (c_rotF hS15.imm l s m ((((a + b) / 2) + m) - s) pf _ _ (hvd.mono hle5) (hS15.lentAt 0 rfl) fid fcap (hf.up hle5) (by omega) (by omega) (by omega)) (fun w18 G6 r1 hres1 hpost1 => ?_)
        have hle6 := hres1.le
        obtain ⟨rfl, l1, o7, hr23, hf1, hq1⟩ := hpost1
        have hS19 := hS15.callRow 0 rfl hres1 (hvd.mono hle5) hr23 hf1
        have hH : Halves pf l l1 a s ((a + b) / 2) ((a + b) / 2 + m - s) b := halvesF (r := r) (n := (a + b) / 2 + m) hA hT as1 as2 (by omega) (by omega) (by omega) (by omega) hbl (by omega) rfl (by omega) (by assumption) (fun q9 => by omega) (by assumption) (fun q9 => by omega) (by assumption)
        have hHl := hH.perm.length_eq
        have hHA := OrdA.perm hA hH.perm
        have hHT := OrdT.perm hT hH.perm
        refine WL.lssS (a : Int) (s : Int) rfl rfl rfl (fun h14 => ?_) (fun h14 => ?_)
        · refine WL.lssS (s : Int) (((a + b) / 2 : Nat) : Int) rfl rfl rfl (fun h15 => ?_) (fun h15 => ?_)
          · refine WL.cR hb192 rfl rfl rfl ((IH _ _) hS19.imm l1 a s ((a + b) / 2) pf _ _ hr23 (hS19.lentAt 0 rfl) fid fcap (hf.up (hle5.trans hle6)) (by omega) (by omega) (by omega) (by exact hH.s1) (by exact hH.s2) (by exact hHA) (by exact hHT) (by omega)) (fun w19 G7 r2 hres2 hpost2 => ?_)
            have hle7 := hres2.le
            obtain ⟨rfl, l2, o8, hr24, hf2, hq2⟩ := hpost2
            have hS21 := hS19.callRow 0 rfl hres2 hr23 hr24 hf2
            have hI1 : Ins pf l1 l2 a ((a + b) / 2) ((a + b) / 2) := by assumption
            have hI1l := hI1.perm.length_eq
            have hIA := OrdA.perm hHA hI1.perm
            have hIT := OrdT.perm hHT hI1.perm
            have hI3 := Asc.frame hH.s3 fun p9 h9 _ => hI1.frame p9 (by omega)
            have hI4 := Asc.frame hH.s4 fun p9 h9 _ => hI1.frame p9 (by omega)
            refine WL.lssS (((a + b) / 2 : Nat) : Int) (((((a + b) / 2) + m) - s : Nat) : Int) rfl rfl rfl (fun h16 => ?_) (fun h16 => ?_)
            · refine WL.lssS (((((a + b) / 2) + m) - s : Nat) : Int) (b : Int) rfl rfl rfl (fun h17 => ?_) (fun h17 => ?_)
              · refine WL.cR hb192 rfl rfl rfl ((IH _ _) hS21.imm l2 ((a + b) / 2) ((((a + b) / 2) + m) - s) b pf _ _ hr24 (hS21.lentAt 0 rfl) fid fcap (hf.up ((hle5.trans hle6).trans hle7)) (by omega) (by omega) (by omega) (by exact hI3) (by exact hI4) (by exact hIA) (by exact hIT) (by omega)) (fun w20 G8 r3 hres3 hpost3 => ?_)
                have hle8 := hres3.le
                obtain ⟨rfl, l3, o9, hr25, hf3, hq3⟩ := hpost3
                have hS23 := hS21.callRow 0 rfl hres3 hr24 hr25 hf3
                exact RT hS23 rfl ⟨rfl, l3, _, hr25, hS23.lentAt 0 rfl, (by exact Halves.done hH hI1 (by first | assumption | exact Ins.same (Asc.join hI3 hI4 (by omega))) (by omega) (by omega))⟩
              exact RT hS21 rfl ⟨rfl, l2, _, hr24, hS21.lentAt 0 rfl, (by exact Halves.done hH hI1 (by first | assumption | exact Ins.same (Asc.join hI3 hI4 (by omega))) (by omega) (by omega))⟩
            exact RT hS21 rfl ⟨rfl, l2, _, hr24, hS21.lentAt 0 rfl, (by exact Halves.done hH hI1 (by first | assumption | exact Ins.same (Asc.join hI3 hI4 (by omega))) (by omega) (by omega))⟩
          have hI1 : Ins pf l1 l1 a ((a + b) / 2) ((a + b) / 2) := by exact Ins.same (Asc.join hH.s1 hH.s2 (by omega))
          have hI1l := hI1.perm.length_eq
          have hIA := OrdA.perm hHA hI1.perm
          have hIT := OrdT.perm hHT hI1.perm
          have hI3 := Asc.frame hH.s3 fun p9 h9 _ => hI1.frame p9 (by omega)
          have hI4 := Asc.frame hH.s4 fun p9 h9 _ => hI1.frame p9 (by omega)
          refine WL.lssS (((a + b) / 2 : Nat) : Int) (((((a + b) / 2) + m) - s : Nat) : Int) rfl rfl rfl (fun h18 => ?_) (fun h18 => ?_)
          · refine WL.lssS (((((a + b) / 2) + m) - s : Nat) : Int) (b : Int) rfl rfl rfl (fun h19 => ?_) (fun h19 => ?_)
            · refine WL.cR hb192 rfl rfl rfl ((IH _ _) hS19.imm l1 ((a + b) / 2) ((((a + b) / 2) + m) - s) b pf _ _ hr23 (hS19.lentAt 0 rfl) fid fcap (hf.up (hle5.trans hle6)) (by omega) (by omega) (by omega) (by exact hI3) (by exact hI4) (by exact hIA) (by exact hIT) (by omega)) (fun w21 G9 r4 hres4 hpost4 => ?_)
              have hle9 := hres4.le
              obtain ⟨rfl, l4, o10, hr26, hf4, hq4⟩ := hpost4
              have hS25 := hS19.callRow 0 rfl hres4 hr23 hr26 hf4
              exact RT hS25 rfl ⟨rfl, l4, _, hr26, hS25.lentAt 0 rfl, (by exact Halves.done hH hI1 (by first | assumption | exact Ins.same (Asc.join hI3 hI4 (by omega))) (by omega) (by omega))⟩
            exact RT hS19 rfl ⟨rfl, l1, _, hr23, hS19.lentAt 0 rfl, (by exact Halves.done hH hI1 (by first | assumption | exact Ins.same (Asc.join hI3 hI4 (by omega))) (by omega) (by omega))⟩
          exact RT hS19 rfl ⟨rfl, l1, _, hr23, hS19.lentAt 0 rfl, (by exact Halves.done hH hI1 (by first | assumption | exact Ins.same (Asc.join hI3 hI4 (by omega))) (by omega) (by omega))⟩
        have hI1 : Ins pf l1 l1 a ((a + b) / 2) ((a + b) / 2) := by exact Ins.same (Asc.join hH.s1 hH.s2 (by omega))
        have hI1l := hI1.perm.length_eq
        have hIA := OrdA.perm hHA hI1.perm
        have hIT := OrdT.perm hHT hI1.perm
        have hI3 := Asc.frame hH.s3 fun p9 h9 _ => hI1.frame p9 (by omega)
        have hI4 := Asc.frame hH.s4 fun p9 h9 _ => hI1.frame p9 (by omega)
        refine WL.lssS (((a + b) / 2 : Nat) : Int) (((((a + b) / 2) + m) - s : Nat) : Int) rfl rfl rfl (fun h20 => ?_) (fun h20 => ?_)
        · refine WL.lssS (((((a + b) / 2) + m) - s : Nat) : Int) (b : Int) rfl rfl rfl (fun h21 => ?_) (fun h21 => ?_)
          · refine WL.cR hb192 rfl rfl rfl ((IH _ _) hS19.imm l1 ((a + b) / 2) ((((a + b) / 2) + m) - s) b pf _ _ hr23 (hS19.lentAt 0 rfl) fid fcap (hf.up (hle5.trans hle6)) (by omega) (by omega) (by omega) (by exact hI3) (by exact hI4) (by exact hIA) (by exact hIT) (by omega)) (fun w22 G10 r5 hres5 hpost5 => ?_)
            have hle10 := hres5.le
            obtain ⟨rfl, l5, o11, hr27, hf5, hq5⟩ := hpost5
            have hS27 := hS19.callRow 0 rfl hres5 hr23 hr27 hf5
            exact RT hS27 rfl ⟨rfl, l5, _, hr27, hS27.lentAt 0 rfl, (by exact Halves.done hH hI1 (by first | assumption | exact Ins.same (Asc.join hI3 hI4 (by omega))) (by omega) (by omega))⟩
          exact RT hS19 rfl ⟨rfl, l1, _, hr23, hS19.lentAt 0 rfl, (by exact Halves.done hH hI1 (by first | assumption | exact Ins.same (Asc.join hI3 hI4 (by omega))) (by omega) (by omega))⟩
        exact RT hS19 rfl ⟨rfl, l1, _, hr23, hS19.lentAt 0 rfl, (by exact Halves.done hH hI1 (by first | assumption | exact Ins.same (Asc.join hI3 hI4 (by omega))) (by omega) (by omega))⟩
      have hH : Halves pf l l a s ((a + b) / 2) ((a + b) / 2 + m - s) b := halvesF (r := r) (n := (a + b) / 2 + m) hA hT as1 as2 (by omega) (by omega) (by omega) (by omega) hbl (by omega) rfl (by omega) (by assumption) (fun q9 => by omega) (by assumption) (fun q9 => by omega) (by exact Moved.idR (by omega))
      have hHl := hH.perm.length_eq
      have hHA := OrdA.perm hA hH.perm
      have hHT := OrdT.perm hT hH.perm
      refine WL.lssS (a : Int) (s : Int) rfl rfl rfl (fun h22 => ?_) (fun h22 => ?_)
      · refine WL.lssS (s : Int) (((a + b) / 2 : Nat) : Int) rfl rfl rfl (fun h23 => ?_) (fun h23 => ?_)
        · refine WL.cR hb192 rfl rfl rfl ((IH _ _) hS15.imm l a s ((a + b) / 2) pf _ _ (hvd.mono hle5) (hS15.lentAt 0 rfl) fid fcap (hf.up hle5) (by omega) (by omega) (by omega) (by exact hH.s1) (by exact hH.s2) (by exact hHA) (by exact hHT) (by omega)) (fun w23 G11 r6 hres6 hpost6 => ?_)
          have hle11 := hres6.le
          obtain ⟨rfl, l6, o12, hr28, hf6, hq6⟩ := hpost6
          have hS29 := hS15.callRow 0 rfl hres6 (hvd.mono hle5) hr28 hf6
          have hI1 : Ins pf l l6 a ((a + b) / 2) ((a + b) / 2) := by assumption
          have hI1l := hI1.perm.length_eq
          have hIA := OrdA.perm hHA hI1.perm
          have hIT := OrdT.perm hHT hI1.perm
          have hI3 := Asc.frame hH.s3 fun p9 h9 _ => hI1.frame p9 (by omega)
          have hI4 := Asc.frame hH.s4 fun p9 h9 _ => hI1.frame p9 (by omega)
          refine WL.lssS (((a + b) / 2 : Nat) : Int) (((((a + b) / 2) + m) - s : Nat) : Int) rfl rfl rfl (fun h24 => ?_) (fun h24 => ?_)
          · refine WL.lssS (((((a + b) / 2) + m) - s : Nat) : Int) (b : Int) rfl rfl rfl (fun h25 => ?_) (fun h25 => ?_)
            · refine WL.cR hb192 rfl rfl rfl ((IH _ _) hS29.imm l6 ((a + b) / 2) ((((a + b) / 2) + m) - s) b pf _ _ hr28 (hS29.lentAt 0 rfl) fid fcap (hf.up (hle5.trans hle11)) (by omega) (by omega) (by omega) (by exact hI3) (by exact hI4) (by exact hIA) (by exact hIT) (by omega)) (fun w24 G12 r7 hres7 hpost7 => ?_)
              have hle12 := hres7.le
              obtain ⟨rfl, l7, o13, hr29, hf7, hq7⟩ := hpost7
              have hS31 := hS29.callRow 0 rfl hres7 hr28 hr29 hf7
              exact RT hS31 rfl ⟨rfl, l7, _, hr29, hS31.lentAt 0 rfl, (by exact Halves.done hH hI1 (by first | assumption | exact Ins.same (Asc.join hI3 hI4 (by omega))) (by omega) (by omega))⟩
            exact RT hS29 rfl ⟨rfl, l6, _, hr28, hS29.lentAt 0 rfl, (by exact Halves.done hH hI1 (by first | assumption | exact Ins.same (Asc.join hI3 hI4 (by omega))) (by omega) (by omega))⟩
          exact RT hS29 rfl ⟨rfl, l6, _, hr28, hS29.lentAt 0 rfl, (by exact Halves.done hH hI1 (by first | assumption | exact Ins.same (Asc.join hI3 hI4 (by omega))) (by omega) (by omega))⟩
        have hI1 : Ins pf l l a ((a + b) / 2) ((a + b) / 2) := by exact Ins.same (Asc.join hH.s1 hH.s2 (by omega))
        have hI1l := hI1.perm.length_eq
        have hIA := OrdA.perm hHA hI1.perm
        have hIT := OrdT.perm hHT hI1.perm
        have hI3 := Asc.frame hH.s3 fun p9 h9 _ => hI1.frame p9 (by omega)
        have hI4 := Asc.frame hH.s4 fun p9 h9 _ => hI1.frame p9 (by omega)
        refine WL.lssS (((a + b) / 2 : Nat) : Int) (((((a + b) / 2) + m) - s : Nat) : Int) rfl rfl rfl (fun h26 => ?_) (fun h26 => ?_)
        · refine WL.lssS (((((a + b) / 2) + m) - s : Nat) : Int) (b : Int) rfl rfl rfl (fun h27 => ?_) (fun h27 => ?_)
          · refine WL.cR hb192 rfl rfl rfl ((IH _ _) hS15.imm l ((a + b) / 2) ((((a + b) / 2) + m) - s) b pf _ _ (hvd.mono hle5) (hS15.lentAt 0 rfl) fid fcap (hf.up hle5) (by omega) (by omega) (by omega) (by exact hI3) (by exact hI4) (by exact hIA) (by exact hIT) (by omega)) (fun w25 G13 r8 hres8 hpost8 => ?_)
            have hle13 := hres8.le
            obtain ⟨rfl, l8, o14, hr30, hf8, hq8⟩ := hpost8
            have hS33 := hS15.callRow 0 rfl hres8 (hvd.mono hle5) hr30 hf8
            exact RT hS33 rfl ⟨rfl, l8, _, hr30, hS33.lentAt 0 rfl, (by exact Halves.done hH hI1 (by first | assumption | exact Ins.same (Asc.join hI3 hI4 (by omega))) (by omega) (by omega))⟩
          exact RT hS15 rfl ⟨rfl, l, _, (hvd.mono hle5), hS15.lentAt 0 rfl, (by exact Halves.done hH hI1 (by first | assumption | exact Ins.same (Asc.join hI3 hI4 (by omega))) (by omega) (by omega))⟩
        exact RT hS15 rfl ⟨rfl, l, _, (hvd.mono hle5), hS15.lentAt 0 rfl, (by exact Halves.done hH hI1 (by first | assumption | exact Ins.same (Asc.join hI3 hI4 (by omega))) (by omega) (by omega))⟩
      have hI1 : Ins pf l l a ((a + b) / 2) ((a + b) / 2) := by exact Ins.same (Asc.join hH.s1 hH.s2 (by omega))
      have hI1l := hI1.perm.length_eq
      have hIA := OrdA.perm hHA hI1.perm
      have hIT := OrdT.perm hHT hI1.perm
      have hI3 := Asc.frame hH.s3 fun p9 h9 _ => hI1.frame p9 (by omega)
      have hI4 := Asc.frame hH.s4 fun p9 h9 _ => hI1.frame p9 (by omega)
      refine WL.lssS (((a + b) / 2 : Nat) : Int) (((((a + b) / 2) + m) - s : Nat) : Int) rfl rfl rfl (fun h28 => ?_) (fun h28 => ?_)
      · refine WL.lssS (((((a + b) / 2) + m) - s : Nat) : Int) (b : Int) rfl rfl rfl (fun h29 => ?_) (fun h29 => ?_)
        · refine WL.cR hb192 rfl rfl rfl ((IH _ _) hS15.imm l ((a + b) / 2) ((((a + b) / 2) + m) - s) b pf _ _ (hvd.mono hle5) (hS15.lentAt 0 rfl) fid fcap (hf.up hle5) (by omega) (by omega) (by omega) (by exact hI3) (by exact hI4) (by exact hIA) (by exact hIT) (by omega)) (fun w26 G14 r9 hres9 hpost9 => ?_)
          have hle14 := hres9.le
          obtain ⟨rfl, l9, o15, hr31, hf9, hq9⟩ := hpost9
          have hS35 := hS15.callRow 0 rfl hres9 (hvd.mono hle5) hr31 hf9
          exact RT hS35 rfl ⟨rfl, l9, _, hr31, hS35.lentAt 0 rfl, (by exact Halves.done hH hI1 (by first | assumption | exact Ins.same (Asc.join hI3 hI4 (by omega))) (by omega) (by omega))⟩
        exact RT hS15 rfl ⟨rfl, l, _, (hvd.mono hle5), hS15.lentAt 0 rfl, (by exact Halves.done hH hI1 (by first | assumption | exact Ins.same (Asc.join hI3 hI4 (by omega))) (by omega) (by omega))⟩
      exact RT hS15 rfl ⟨rfl, l, _, (hvd.mono hle5), hS15.lentAt 0 rfl, (by exact Halves.done hH hI1 (by first | assumption | exact Ins.same (Asc.join hI3 hI4 (by omega))) (by omega) (by omega))⟩
    have hH : Halves pf l l a s ((a + b) / 2) ((a + b) / 2 + m - s) b := halvesF (r := r) (n := (a + b) / 2 + m) hA hT as1 as2 (by omega) (by omega) (by omega) (by omega) hbl (by omega) rfl (by omega) (by assumption) (fun q9 => by omega) (by assumption) (fun q9 => by omega) (by exact Moved.idR (by omega))
    have hHl := hH.perm.length_eq
    have hHA := OrdA.perm hA hH.perm
    have hHT := OrdT.perm hT hH.perm
    refine WL.lssS (a : Int) (s : Int) rfl rfl rfl (fun h30 => ?_) (fun h30 => ?_)
    · refine WL.lssS (s : Int) (((a + b) / 2 : Nat) : Int) rfl rfl rfl (fun h31 => ?_) (fun h31 => ?_)
      · refine WL.cR hb192 rfl rfl rfl ((IH _ _) hS15.imm l a s ((a + b) / 2) pf _ _ (hvd.mono hle5) (hS15.lentAt 0 rfl) fid fcap (hf.up hle5) (by omega) (by omega) (by omega) (by exact hH.s1) (by exact hH.s2) (by exact hHA) (by exact hHT) (by omega)) (fun w27 G15 r10 hres10 hpost10 => ?_)
        have hle15 := hres10.le
        obtain ⟨rfl, l10, o16, hr32, hf10, hq10⟩ := hpost10
        have hS37 := hS15.callRow 0 rfl hres10 (hvd.mono hle5) hr32 hf10
        have hI1 : Ins pf l l10 a ((a + b) / 2) ((a + b) / 2) := by assumption
        have hI1l := hI1.perm.length_eq
        have hIA := OrdA.perm hHA hI1.perm
        have hIT := OrdT.perm hHT hI1.perm
        have hI3 := Asc.frame hH.s3 fun p9 h9 _ => hI1.frame p9 (by omega)
        have hI4 := Asc.frame hH.s4 fun p9 h9 _ => hI1.frame p9 (by omega)
        refine WL.lssS (((a + b) / 2 : Nat) : Int) (((((a + b) / 2) + m) - s : Nat) : Int) rfl rfl rfl (fun h32 => ?_) (fun h32 => ?_)
        · refine WL.lssS (((((a + b) / 2) + m) - s : Nat) : Int) (b : Int) rfl rfl rfl (fun h33 => ?_) (fun h33 => ?_)
          · refine WL.cR hb192 rfl rfl rfl ((IH _ _) hS37.imm l10 ((a + b) / 2) ((((a + b) / 2) + m) - s) b pf _ _ hr32 (hS37.lentAt 0 rfl) fid fcap (hf.up (hle5.trans hle15)) (by omega) (by omega) (by omega) (by exact hI3) (by exact hI4) (by exact hIA) (by exact hIT) (by omega)) (fun w28 G16 r11 hres11 hpost11 => ?_)
            have hle16 := hres11.le
            obtain ⟨rfl, l11, o17, hr33, hf11, hq11⟩ := hpost11
            have hS39 := hS37.callRow 0 rfl hres11 hr32 hr33 hf11
            exact RT hS39 rfl ⟨rfl, l11, _, hr33, hS39.lentAt 0 rfl, (by exact Halves.done hH hI1 (by first | assumption | exact Ins.same (Asc.join hI3 hI4 (by omega))) (by omega) (by omega))⟩
          exact RT hS37 rfl ⟨rfl, l10, _, hr32, hS37.lentAt 0 rfl, (by exact Halves.done hH hI1 (by first | assumption | exact Ins.same (Asc.join hI3 hI4 (by omega))) (by omega) (by omega))⟩
        exact RT hS37 rfl ⟨rfl, l10, _, hr32, hS37.lentAt 0 rfl, (by exact Halves.done hH hI1 (by first | assumption | exact Ins.same (Asc.join hI3 hI4 (by omega))) (by omega) (by omega))⟩
      have hI1 : Ins pf l l a ((a + b) / 2) ((a + b) / 2) := by exact Ins.same (Asc.join hH.s1 hH.s2 (by omega))
      have hI1l := hI1.perm.length_eq
      have hIA := OrdA.perm hHA hI1.perm
      have hIT := OrdT.perm hHT hI1.perm
      have hI3 := Asc.frame hH.s3 fun p9 h9 _ => hI1.frame p9 (by omega)
      have hI4 := Asc.frame hH.s4 fun p9 h9 _ => hI1.frame p9 (by omega)
      refine WL.lssS (((a + b) / 2 : Nat) : Int) (((((a + b) / 2) + m) - s : Nat) : Int) rfl rfl rfl (fun h34 => ?_) (fun h34 => ?_)
      · refine WL.lssS (((((a + b) / 2) + m) - s : Nat) : Int) (b : Int) rfl rfl rfl (fun h35 => ?_) (fun h35 => ?_)
        · refine WL.cR hb192 rfl rfl rfl ((IH _ _) hS15.imm l ((a + b) / 2) ((((a + b) / 2) + m) - s) b pf _ _ (hvd.mono hle5) (hS15.lentAt 0 rfl) fid fcap (hf.up hle5) (by omega) (by omega) (by omega) (by exact hI3) (by exact hI4) (by exact hIA) (by exact hIT) (by omega)) (fun w29 G17 r12 hres12 hpost12 => ?_)
          have hle17 := hres12.le
          obtain ⟨rfl, l12, o18, hr34, hf12, hq12⟩ := hpost12
          have hS41 := hS15.callRow 0 rfl hres12 (hvd.mono hle5) hr34 hf12
          exact RT hS41 rfl ⟨rfl, l12, _, hr34, hS41.lentAt 0 rfl, (by exact Halves.done hH hI1 (by first | assumption | exact Ins.same (Asc.join hI3 hI4 (by omega))) (by omega) (by omega))⟩
        exact RT hS15 rfl ⟨rfl, l, _, (hvd.mono hle5), hS15.lentAt 0 rfl, (by exact Halves.done hH hI1 (by first | assumption | exact Ins.same (Asc.join hI3 hI4 (by omega))) (by omega) (by omega))⟩
      exact RT hS15 rfl ⟨rfl, l, _, (hvd.mono hle5), hS15.lentAt 0 rfl, (by exact Halves.done hH hI1 (by first | assumption | exact Ins.same (Asc.join hI3 hI4 (by omega))) (by omega) (by omega))⟩
    have hI1 : Ins pf l l a ((a + b) / 2) ((a + b) / 2) := by exact Ins.same (Asc.join hH.s1 hH.s2 (by omega))
    have hI1l := hI1.perm.length_eq
    have hIA := OrdA.perm hHA hI1.perm
    have hIT := OrdT.perm hHT hI1.perm
    have hI3 := Asc.frame hH.s3 fun p9 h9 _ => hI1.frame p9 (by omega)
    have hI4 := Asc.frame hH.s4 fun p9 h9 _ => hI1.frame p9 (by omega)
    refine WL.lssS (((a + b) / 2 : Nat) : Int) (((((a + b) / 2) + m) - s : Nat) : Int) rfl rfl rfl (fun h36 => ?_) (fun h36 => ?_)
    · refine WL.lssS (((((a + b) / 2) + m) - s : Nat) : Int) (b : Int) rfl rfl rfl (fun h37 => ?_) (fun h37 => ?_)
      · refine WL.cR hb192 rfl rfl rfl ((IH _ _) hS15.imm l ((a + b) / 2) ((((a + b) / 2) + m) - s) b pf _ _ (hvd.mono hle5) (hS15.lentAt 0 rfl) fid fcap (hf.up hle5) (by omega) (by omega) (by omega) (by exact hI3) (by exact hI4) (by exact hIA) (by exact hIT) (by omega)) (fun w30 G18 r13 hres13 hpost13 => ?_)
        have hle18 := hres13.le
        obtain ⟨rfl, l13, o19, hr35, hf13, hq13⟩ := hpost13
        have hS43 := hS15.callRow 0 rfl hres13 (hvd.mono hle5) hr35 hf13
        exact RT hS43 rfl ⟨rfl, l13, _, hr35, hS43.lentAt 0 rfl, (by exact Halves.done hH hI1 (by first | assumption | exact Ins.same (Asc.join hI3 hI4 (by omega))) (by omega) (by omega))⟩
      exact RT hS15 rfl ⟨rfl, l, _, (hvd.mono hle5), hS15.lentAt 0 rfl, (by exact Halves.done hH hI1 (by first | assumption | exact Ins.same (Asc.join hI3 hI4 (by omega))) (by omega) (by omega))⟩
    exact RT hS15 rfl ⟨rfl, l, _, (hvd.mono hle5), hS15.lentAt 0 rfl, (by exact Halves.done hH hI1 (by first | assumption | exact Ins.same (Asc.join hI3 hI4 (by omega))) (by omega) (by omega))⟩
  refine WL.subN (((a + b) / 2) + m) 1 (by omega) (by have hreach : reach = 140737488355328 := rfl; omega) rfl rfl rfl ?_
  refine LP.go ft [] (fun mz ρ1 w1 => ∃ (s : Nat), ∃ (r : Nat), ∃ (G19 : GH), mz = (r - s) ∧ G.le G19 ∧ St w (blk od) G G19 [od] w1 ∧ FR ρ1 [(0, vd), (1, .int .i64 (a : Int)), (2, .int .i64 (m : Int)), (3, .int .i64 (b : Int)), (4, .func (.func fid) #[] fcap), (18, .int .i64 (((a + b) / 2 : Nat) : Int)), (19, .int .i64 ((((a + b) / 2) + m : Nat) : Int)), (20, .int .i64 (s : Int)), (21, .int .i64 (r : Int)), (22, .int .i64 (((((a + b) / 2) + m) - 1 : Nat) : Int))] ∧ a ≤ s ∧ s ≤ r ∧ r ≤ m ∧ C1F pf l s a ((a + b) / 2 + m) ∧ C2F pf l r m ((a + b) / 2 + m)) _ ⟨a, m, G, rfl, (G.le_refl), hS, ⟨rfl, rfl, rfl, rfl, rfl, rfl, rfl, rfl, rfl, rfl, trivial⟩, (by omega), (by omega), (by omega), (C1F.start), (C2F.start)⟩ ?_
  rintro mz ρ1 w31 ⟨s, r, G19, rfl, hle19, hS44, hF9, f22, f23, f24, f25, f26⟩
  refine hF9.set ?_
  clear hF9
  refine WL.lssS (s : Int) (r : Int) rfl rfl rfl (fun h38 => ?_) (fun h38 => ?_)
  · refine WL.addN s r (by have hreach : reach = 140737488355328 := rfl; omega) rfl rfl rfl ?_
    refine WL.toU (s + r) ul3 ul98 (by have hreach : reach = 140737488355328 := rfl; omega) rfl rfl ?_
    refine WL.half (s + r) rfl rfl rfl ?_
    refine WL.ofU ((s + r) / 2) ul98 ul3 (by have hreach : reach = 140737488355328 := rfl; omega) rfl rfl ?_
    obtain ⟨p17, x17, ec17, hx17, hr36, ra17, ep17⟩ := Row.atP (hvd.mono hle19) (((((a + b) / 2) + m) - 1) - ((s + r) / 2)) (by omega)
    obtain ⟨v17, rfl, hs17, hb36, hb37⟩ := FactE_open hr36
    obtain ⟨p18, x18, ec18, hx18, hr37, ra18, ep18⟩ := Row.atP (hvd.mono hle19) ((s + r) / 2) (by omega)
    obtain ⟨v18, rfl, hs18, hb38, hb39⟩ := FactE_open hr37
    rcases Cmp.dec .lss (pf x17 x18) 0 with ⟨hb40, q4⟩ | ⟨hb40, q4⟩
    · have h39 : (pf x17 x18) < 0 := q4
      clear q4
      refine dr [] [(162, .int .i64 ((((((a + b) / 2) + m) - 1) - ((s + r) / 2) : Nat) : Int)), (163, .pointer (some p17)), (164, .agg #[v17, .int .i64 x17.t.a, .int .i64 x17.t.b]), (167, .pointer (some p18)), (168, .agg #[v18, .int .i64 x18.t.a, .int .i64 x18.t.b]), (169, .int .i64 (pf x17 x18)), (170, .bool true)] hS44 ⟨fun _ => WL.subN ((((a + b) / 2) + m) - 1) ((s + r) / 2) (by omega) (by have hreach : reach = 140737488355328 := rfl; omega) rfl rfl rfl <| nu rfl rfl, fun _ => WL.indexAddrP (((((a + b) / 2) + m) - 1) - ((s + r) / 2)) ep17 ul22 ti63 rfl rfl rfl rfl <| nu rfl rfl, fun _ hSw => WL.loadRA ra17 hSw 0 rfl ti63 rfl rfl rfl rfl <| nu rfl rfl, fun _ => WL.indexAddrP ((s + r) / 2) ep18 ul22 ti63 rfl rfl rfl rfl <| nu rfl rfl, fun _ hSw => WL.loadRA ra18 hSw 0 rfl ti63 rfl rfl rfl rfl <| nu rfl rfl, fun _ hSw => WL.callD hSw hf.body rfl rfl rfl (hf.call _ _ (.agg #[v17, .int .i64 x17.t.a, .int .i64 x17.t.b]) (.agg #[v18, .int .i64 x18.t.a, .int .i64 x18.t.b]) x17 x18 hle19 hSw.imm trivial ⟨_, rfl, (FactE_mk x17 hs17 hb36 hb37)⟩ ⟨_, rfl, (FactE_mk x18 hs18 hb38 hb39)⟩) rfl, fun _ => WL.cmpV .lss rfl .i64 (pf x17 x18) 0 _ hb40 rfl rfl rfl <| nu rfl rfl, trivial⟩ (fun w32 hS45 => ?_)
      exact BK.mk' _ ⟨s, (s + r) / 2, G19, rfl, hle19, hS45, ⟨rfl, rfl, rfl, rfl, rfl, rfl, rfl, rfl, rfl, rfl, trivial⟩, (by omega), (by omega), (by omega), (by assumption), (by exact C2F.step (by assumption) (by assumption) (by assumption))⟩ (show (((s + r) / 2) - s) < (r - s) by omega)
    have h39 : 0 ≤ (pf x17 x18) := q4
    clear q4
    refine dr [] [(162, .int .i64 ((((((a + b) / 2) + m) - 1) - ((s + r) / 2) : Nat) : Int)), (163, .pointer (some p17)), (164, .agg #[v17, .int .i64 x17.t.a, .int .i64 x17.t.b]), (167, .pointer (some p18)), (168, .agg #[v18, .int .i64 x18.t.a, .int .i64 x18.t.b]), (169, .int .i64 (pf x17 x18)), (170, .bool false)] hS44 ⟨fun _ => WL.subN ((((a + b) / 2) + m) - 1) ((s + r) / 2) (by omega) (by have hreach : reach = 140737488355328 := rfl; omega) rfl rfl rfl <| nu rfl rfl, fun _ => WL.indexAddrP (((((a + b) / 2) + m) - 1) - ((s + r) / 2)) ep17 ul22 ti63 rfl rfl rfl rfl <| nu rfl rfl, fun _ hSw => WL.loadRA ra17 hSw 0 rfl ti63 rfl rfl rfl rfl <| nu rfl rfl, fun _ => WL.indexAddrP ((s + r) / 2) ep18 ul22 ti63 rfl rfl rfl rfl <| nu rfl rfl, fun _ hSw => WL.loadRA ra18 hSw 0 rfl ti63 rfl rfl rfl rfl <| nu rfl rfl, fun _ hSw => WL.callD hSw hf.body rfl rfl rfl (hf.call _ _ (.agg #[v17, .int .i64 x17.t.a, .int .i64 x17.t.b]) (.agg #[v18, .int .i64 x18.t.a, .int .i64 x18.t.b]) x17 x18 hle19 hSw.imm trivial ⟨_, rfl, (FactE_mk x17 hs17 hb36 hb37)⟩ ⟨_, rfl, (FactE_mk x18 hs18 hb38 hb39)⟩) rfl, fun _ => WL.cmpV .lss rfl .i64 (pf x17 x18) 0 _ hb40 rfl rfl rfl <| nu rfl rfl, trivial⟩ (fun w33 hS46 => ?_)
    refine WL.incr ((s + r) / 2) (by have hreach : reach = 140737488355328 := rfl; omega) rfl rfl rfl ?_
    exact BK.mk' _ ⟨(s + r) / 2 + 1, r, G19, rfl, hle19, hS46, ⟨rfl, rfl, rfl, rfl, rfl, rfl, rfl, rfl, rfl, rfl, trivial⟩, (by omega), (by omega), (by omega), (by exact C1F.step (by assumption) (by assumption) (by assumption)), (by assumption)⟩ (show (r - ((s + r) / 2 + 1)) < (r - s) by omega)
  refine WL.subN (((a + b) / 2) + m) s (by omega) (by have hreach : reach = 140737488355328 := rfl; omega) rfl rfl rfl ?_
  refine WL.lssS (s : Int) (m : Int) rfl rfl rfl (fun h40 => ?_) (fun h40 => ?_)
  · refine WL.lssS (m : Int) (((((a + b) / 2) + m) - s : Nat) : Int) rfl rfl rfl (fun h41 => ?_) (fun h41 => ?_)
    · refine WL.cR hb201 rfl rfl rfl (c_rotF hS44.imm l s m ((((a + b) / 2) + m) - s) pf _ _ (hvd.mono hle19) (hS44.lentAt 0 rfl) fid fcap (hf.up hle19) (by omega) (by omega) (by omega)) (fun w34 G20 r14 hres14 hpost14 => ?_)
      have hle20 := hres14.le
      obtain ⟨rfl, l14, o20, hr38, hf14, hq14⟩ := hpost14
      have hS48 := hS44.callRow 0 rfl hres14 (hvd.mono hle19) hr38 hf14
      have hH : Halves pf l l14 a s ((a + b) / 2) ((a + b) / 2 + m - s) b := halvesF (r := r) (n := (a + b) / 2 + m) hA hT as1 as2 (by omega) (by omega) (by omega) (by omega) hbl (by omega) rfl (by omega) (by assumption) (fun q9 => by omega) (by assumption) (fun q9 => by omega) (by assumption)
      have hHl := hH.perm.length_eq
      have hHA := OrdA.perm hA hH.perm
      have hHT := OrdT.perm hT hH.perm
      refine WL.lssS (a : Int) (s : Int) rfl rfl rfl (fun h42 => ?_) (fun h42 => ?_)
      · refine WL.lssS (s : Int) (((a + b) / 2 : Nat) : Int) rfl rfl rfl (fun h43 => ?_) (fun h43 => ?_)
        · refine WL.cR hb192 rfl rfl rfl ((IH _ _) hS48.imm l14 a s ((a + b) / 2) pf _ _ hr38 (hS48.lentAt 0 rfl) fid fcap (hf.up (hle19.trans hle20)) (by omega) (by omega) (by omega) (by exact hH.s1) (by exact hH.s2) (by exact hHA) (by exact hHT) (by omega)) (fun w35 G21 r15 hres15 hpost15 => ?_)
          have hle21 := hres15.le
          obtain ⟨rfl, l15, o21, hr39, hf15, hq15⟩ := hpost15
          have hS50 := hS48.callRow 0 rfl hres15 hr38 hr39 hf15
          have hI1 : Ins pf l14 l15 a ((a + b) / 2) ((a + b) / 2) := by assumption
          have hI1l := hI1.perm.length_eq
          have hIA := OrdA.perm hHA hI1.perm
          have hIT := OrdT.perm hHT hI1.perm
          have hI3 := Asc.frame hH.s3 fun p9 h9 _ => hI1.frame p9 (by omega)
          have hI4 := Asc.frame hH.s4 fun p9 h9 _ => hI1.frame p9 (by omega)
          refine WL.lssS (((a + b) / 2 : Nat) : Int) (((((a + b) / 2) + m) - s : Nat) : Int) rfl rfl rfl (fun h44 => ?_) (fun h44 => ?_)
          · refine WL.lssS (((((a + b) / 2) + m) - s : Nat) : Int) (b : Int) rfl rfl rfl (fun h45 => ?_) (fun h45 => ?_)
            · refine WL.cR hb192 rfl rfl rfl ((IH _ _) hS50.imm l15 ((a + b) / 2) ((((a + b) / 2) + m) - s) b pf _ _ hr39 (hS50.lentAt 0 rfl) fid fcap (hf.up ((hle19.trans hle20).trans hle21)) (by omega) (by omega) (by omega) (by exact hI3) (by exact hI4) (by exact hIA) (by exact hIT) (by omega)) (fun w36 G22 r16 hres16 hpost16 => ?_)
              have hle22 := hres16.le
              obtain ⟨rfl, l16, o22, hr40, hf16, hq16⟩ := hpost16
              have hS52 := hS50.callRow 0 rfl hres16 hr39 hr40 hf16
              exact RT hS52 rfl ⟨rfl, l16, _, hr40, hS52.lentAt 0 rfl, (by exact Halves.done hH hI1 (by first | assumption | exact Ins.same (Asc.join hI3 hI4 (by omega))) (by omega) (by omega))⟩
            exact RT hS50 rfl ⟨rfl, l15, _, hr39, hS50.lentAt 0 rfl, (by exact Halves.done hH hI1 (by first | assumption | exact Ins.same (Asc.join hI3 hI4 (by omega))) (by omega) (by omega))⟩
          exact RT hS50 rfl ⟨rfl, l15, _, hr39, hS50.lentAt 0 rfl, (by exact Halves.done hH hI1 (by first | assumption | exact Ins.same (Asc.join hI3 hI4 (by omega))) (by omega) (by omega))⟩
        have hI1 : Ins pf l14 l14 a ((a + b) / 2) ((a + b) / 2) := by exact Ins.same (Asc.join hH.s1 hH.s2 (by omega))
        have hI1l := hI1.perm.length_eq
        have hIA := OrdA.perm hHA hI1.perm
        have hIT := OrdT.perm hHT hI1.perm
        have hI3 := Asc.frame hH.s3 fun p9 h9 _ => hI1.frame p9 (by omega)
        have hI4 := Asc.frame hH.s4 fun p9 h9 _ => hI1.frame p9 (by omega)
        refine WL.lssS (((a + b) / 2 : Nat) : Int) (((((a + b) / 2) + m) - s : Nat) : Int) rfl rfl rfl (fun h46 => ?_) (fun h46 => ?_)
        · refine WL.lssS (((((a + b) / 2) + m) - s : Nat) : Int) (b : Int) rfl rfl rfl (fun h47 => ?_) (fun h47 => ?_)
          · refine WL.cR hb192 rfl rfl rfl ((IH _ _) hS48.imm l14 ((a + b) / 2) ((((a + b) / 2) + m) - s) b pf _ _ hr38 (hS48.lentAt 0 rfl) fid fcap (hf.up (hle19.trans hle20)) (by omega) (by omega) (by omega) (by exact hI3) (by exact hI4) (by exact hIA) (by exact hIT) (by omega)) (fun w37 G23 r17 hres17 hpost17 => ?_)
            have hle23 := hres17.le
            obtain ⟨rfl, l17, o23, hr41, hf17, hq17⟩ := hpost17
            have hS54 := hS48.callRow 0 rfl hres17 hr38 hr41 hf17
            exact RT hS54 rfl ⟨rfl, l17, _, hr41, hS54.lentAt 0 rfl, (by exact Halves.done hH hI1 (by first | assumption | exact Ins.same (Asc.join hI3 hI4 (by omega))) (by omega) (by omega))⟩
          exact RT hS48 rfl ⟨rfl, l14, _, hr38, hS48.lentAt 0 rfl, (by exact Halves.done hH hI1 (by first | assumption | exact Ins.same (Asc.join hI3 hI4 (by omega))) (by omega) (by omega))⟩
        exact RT hS48 rfl ⟨rfl, l14, _, hr38, hS48.lentAt 0 rfl, (by exact Halves.done hH hI1 (by first | assumption | exact Ins.same (Asc.join hI3 hI4 (by omega))) (by omega) (by omega))⟩
      have hI1 : Ins pf l14 l14 a ((a + b) / 2) ((a + b) / 2) := by exact Ins.same (Asc.join hH.s1 hH.s2 (by omega))
      have hI1l := hI1.perm.length_eq
      have hIA := OrdA.perm hHA hI1.perm
      have hIT := OrdT.perm hHT hI1.perm
      have hI3 := Asc.frame hH.s3 fun p9 h9 _ => hI1.frame p9 (by omega)
      have hI4 := Asc.frame hH.s4 fun p9 h9 _ => hI1.frame p9 (by omega)
      refine WL.lssS (((a + b) / 2 : Nat) : Int) (((((a + b) / 2) + m) - s : Nat) : Int) rfl rfl rfl (fun h48 => ?_) (fun h48 => ?_)
      · refine WL.lssS (((((a + b) / 2) + m) - s : Nat) : Int) (b : Int) rfl rfl rfl (fun h49 => ?_) (fun h49 => ?_)
        · refine WL.cR hb192 rfl rfl rfl ((IH _ _) hS48.imm l14 ((a + b) / 2) ((((a + b) / 2) + m) - s) b pf _ _ hr38 (hS48.lentAt 0 rfl) fid fcap (hf.up (hle19.trans hle20)) (by omega) (by omega) (by omega) (by exact hI3) (by exact hI4) (by exact hIA) (by exact hIT) (by omega)) (fun w38 G24 r18 hres18 hpost18 => ?_)
          have hle24 := hres18.le
          obtain ⟨rfl, l18, o24, hr42, hf18, hq18⟩ := hpost18
          have hS56 := hS48.callRow 0 rfl hres18 hr38 hr42 hf18
          exact RT hS56 rfl ⟨rfl, l18, _, hr42, hS56.lentAt 0 rfl, (by exact Halves.done hH hI1 (by first | assumption | exact Ins.same (Asc.join hI3 hI4 (by omega))) (by omega) (by omega))⟩
        exact RT hS48 rfl ⟨rfl, l14, _, hr38, hS48.lentAt 0 rfl, (by exact Halves.done hH hI1 (by first | assumption | exact Ins.same (Asc.join hI3 hI4 (by omega))) (by omega) (by omega))⟩
      exact RT hS48 rfl ⟨rfl, l14, _, hr38, hS48.lentAt 0 rfl, (by exact Halves.done hH hI1 (by first | assumption | exact Ins.same (Asc.join hI3 hI4 (by omega))) (by omega) (by omega))⟩
    have hH : Halves pf l l a s ((a + b) / 2) ((a + b) / 2 + m - s) b := halvesF (r := r) (n := (a + b) / 2 + m) hA hT as1 as2 (by omega) (by omega) (by omega) (by omega) hbl (by omega) rfl (by omega) (by assumption) (fun q9 => by omega) (by assumption) (fun q9 => by omega) (by exact Moved.idR (by omega))
    have hHl := hH.perm.length_eq
    have hHA := OrdA.perm hA hH.perm
    have hHT := OrdT.perm hT hH.perm
    refine WL.lssS (a : Int) (s : Int) rfl rfl rfl (fun h50 => ?_) (fun h50 => ?_)
    · refine WL.lssS (s : Int) (((a + b) / 2 : Nat) : Int) rfl rfl rfl (fun h51 => ?_) (fun h51 => ?_)
      · refine WL.cR hb192 rfl rfl rfl ((IH _ _) hS44.imm l a s ((a + b) / 2) pf _ _ (hvd.mono hle19) (hS44.lentAt 0 rfl) fid fcap (hf.up hle19) (by omega) (by omega) (by omega) (by exact hH.s1) (by exact hH.s2) (by exact hHA) (by exact hHT) (by omega)) (fun w39 G25 r19 hres19 hpost19 => ?_)
        have hle25 := hres19.le
        obtain ⟨rfl, l19, o25, hr43, hf19, hq19⟩ := hpost19
        have hS58 := hS44.callRow 0 rfl hres19 (hvd.mono hle19) hr43 hf19
        have hI1 : Ins pf l l19 a ((a + b) / 2) ((a + b) / 2) := by assumption
        have hI1l := hI1.perm.length_eq
        have hIA := OrdA.perm hHA hI1.perm
        have hIT := OrdT.perm hHT hI1.perm
        have hI3 := Asc.frame hH.s3 fun p9 h9 _ => hI1.frame p9 (by omega)
        have hI4 := Asc.frame hH.s4 fun p9 h9 _ => hI1.frame p9 (by omega)
        refine WL.lssS (((a + b) / 2 : Nat) : Int) (((((a + b) / 2) + m) - s : Nat) : Int) rfl rfl rfl (fun h52 => ?_) (fun h52 => ?_)
        · refine WL.lssS (((((a + b) / 2) + m) - s : Nat) : Int) (b : Int) rfl rfl rfl (fun h53 => ?_) (fun h53 => ?_)
          · refine WL.cR hb192 rfl rfl rfl ((IH _ _) hS58.imm l19 ((a + b) / 2) ((((a + b) / 2) + m) - s) b pf _ _ hr43 (hS58.lentAt 0 rfl) fid fcap (hf.up (hle19.trans hle25)) (by omega) (by omega) (by omega) (by exact hI3) (by exact hI4) (by exact hIA) (by exact hIT) (by omega)) (fun w40 G26 r20 hres20 hpost20 => ?_)
            have hle26 := hres20.le
            obtain ⟨rfl, l20, o26, hr44, hf20, hq20⟩ := hpost20
            have hS60 := hS58.callRow 0 rfl hres20 hr43 hr44 hf20
            exact RT hS60 rfl ⟨rfl, l20, _, hr44, hS60.lentAt 0 rfl, (by exact Halves.done hH hI1 (by first | assumption | exact Ins.same (Asc.join hI3 hI4 (by omega))) (by omega) (by omega))⟩
          exact RT hS58 rfl ⟨rfl, l19, _, hr43, hS58.lentAt 0 rfl, (by exact Halves.done hH hI1 (by first | assumption | exact Ins.same (Asc.join hI3 hI4 (by omega))) (by omega) (by omega))⟩
        exact RT hS58 rfl ⟨rfl, l19, _, hr43, hS58.lentAt 0 rfl, (by exact Halves.done hH hI1 (by first | assumption | exact Ins.same (Asc.join hI3 hI4 (by omega))) (by omega) (by omega))⟩
      have hI1 : Ins pf l l a ((a + b) / 2) ((a + b) / 2) := by exact Ins.same (Asc.join hH.s1 hH.s2 (by omega))
      have hI1l := hI1.perm.length_eq
      have hIA := OrdA.perm hHA hI1.perm
      have hIT := OrdT.perm hHT hI1.perm
      have hI3 := Asc.frame hH.s3 fun p9 h9 _ => hI1.frame p9 (by omega)
      have hI4 := Asc.frame hH.s4 fun p9 h9 _ => hI1.frame p9 (by omega)
      refine WL.lssS (((a + b) / 2 : Nat) : Int) (((((a + b) / 2) + m) - s : Nat) : Int) rfl rfl rfl (fun h54 => ?_) (fun h54 => ?_)
      · refine WL.lssS (((((a + b) / 2) + m) - s : Nat) : Int) (b : Int) rfl rfl rfl (fun h55 => ?_) (fun h55 => ?_)
        · refine WL.cR hb192 rfl rfl rfl ((IH _ _) hS44.imm l ((a + b) / 2) ((((a + b) / 2) + m) - s) b pf _ _ (hvd.mono hle19) (hS44.lentAt 0 rfl) fid fcap (hf.up hle19) (by omega) (by omega) (by omega) (by exact hI3) (by exact hI4) (by exact hIA) (by exact hIT) (by omega)) (fun w41 G27 r21 hres21 hpost21 => ?_)
          have hle27 := hres21.le
          obtain ⟨rfl, l21, o27, hr45, hf21, hq21⟩ := hpost21
          have hS62 := hS44.callRow 0 rfl hres21 (hvd.mono hle19) hr45 hf21
          exact RT hS62 rfl ⟨rfl, l21, _, hr45, hS62.lentAt 0 rfl, (by exact Halves.done hH hI1 (by first | assumption | exact Ins.same (Asc.join hI3 hI4 (by omega))) (by omega) (by omega))⟩
        exact RT hS44 rfl ⟨rfl, l, _, (hvd.mono hle19), hS44.lentAt 0 rfl, (by exact Halves.done hH hI1 (by first | assumption | exact Ins.same (Asc.join hI3 hI4 (by omega))) (by omega) (by omega))⟩
      exact RT hS44 rfl ⟨rfl, l, _, (hvd.mono hle19), hS44.lentAt 0 rfl, (by exact Halves.done hH hI1 (by first | assumption | exact Ins.same (Asc.join hI3 hI4 (by omega))) (by omega) (by omega))⟩
    have hI1 : Ins pf l l a ((a + b) / 2) ((a + b) / 2) := by exact Ins.same (Asc.join hH.s1 hH.s2 (by omega))
    have hI1l := hI1.perm.length_eq
    have hIA := OrdA.perm hHA hI1.perm
    have hIT := OrdT.perm hHT hI1.perm
    have hI3 := Asc.frame hH.s3 fun p9 h9 _ => hI1.frame p9 (by omega)
    have hI4 := Asc.frame hH.s4 fun p9 h9 _ => hI1.frame p9 (by omega)
    refine WL.lssS (((a + b) / 2 : Nat) : Int) (((((a + b) / 2) + m) - s : Nat) : Int) rfl rfl rfl (fun h56 => ?_) (fun h56 => ?_)
    · refine WL.lssS (((((a + b) / 2) + m) - s : Nat) : Int) (b : Int) rfl rfl rfl (fun h57 => ?_) (fun h57 => ?_)
      · refine WL.cR hb192 rfl rfl rfl ((IH _ _) hS44.imm l ((a + b) / 2) ((((a + b) / 2) + m) - s) b pf _ _ (hvd.mono hle19) (hS44.lentAt 0 rfl) fid fcap (hf.up hle19) (by omega) (by omega) (by omega) (by exact hI3) (by exact hI4) (by exact hIA) (by exact hIT) (by omega)) (fun w42 G28 r22 hres22 hpost22 => ?_)
        have hle28 := hres22.le
        obtain ⟨rfl, l22, o28, hr46, hf22, hq22⟩ := hpost22
        have hS64 := hS44.callRow 0 rfl hres22 (hvd.mono hle19) hr46 hf22
        exact RT hS64 rfl ⟨rfl, l22, _, hr46, hS64.lentAt 0 rfl, (by exact Halves.done hH hI1 (by first | assumption | exact Ins.same (Asc.join hI3 hI4 (by omega))) (by omega) (by omega))⟩
      exact RT hS44 rfl ⟨rfl, l, _, (hvd.mono hle19), hS44.lentAt 0 rfl, (by exact Halves.done hH hI1 (by first | assumption | exact Ins.same (Asc.join hI3 hI4 (by omega))) (by omega) (by omega))⟩
    exact RT hS44 rfl ⟨rfl, l, _, (hvd.mono hle19), hS44.lentAt 0 rfl, (by exact Halves.done hH hI1 (by first | assumption | exact Ins.same (Asc.join hI3 hI4 (by omega))) (by omega) (by omega))⟩
  have hH : Halves pf l l a s ((a + b) / 2) ((a + b) / 2 + m - s) b := halvesF (r := r) (n := (a + b) / 2 + m) hA hT as1 as2 (by omega) (by omega) (by omega) (by omega) hbl (by omega) rfl (by omega) (by assumption) (fun q9 => by omega) (by assumption) (fun q9 => by omega) (by exact Moved.idR (by omega))
  have hHl := hH.perm.length_eq
  have hHA := OrdA.perm hA hH.perm
  have hHT := OrdT.perm hT hH.perm
  refine WL.lssS (a : Int) (s : Int) rfl rfl rfl (fun h58 => ?_) (fun h58 => ?_)
  · refine WL.lssS (s : Int) (((a + b) / 2 : Nat) : Int) rfl rfl rfl (fun h59 => ?_) (fun h59 => ?_)
    · refine WL.cR hb192 rfl rfl rfl ((IH _ _) hS44.imm l a s ((a + b) / 2) pf _ _ (hvd.mono hle19) (hS44.lentAt 0 rfl) fid fcap (hf.up hle19) (by omega) (by omega) (by omega) (by exact hH.s1) (by exact hH.s2) (by exact hHA) (by exact hHT) (by omega)) (fun w43 G29 r23 hres23 hpost23 => ?_)
      have hle29 := hres23.le
      obtain ⟨rfl, l23, o29, hr47, hf23, hq23⟩ := hpost23
      have hS66 := hS44.callRow 0 rfl hres23 (hvd.mono hle19) hr47 hf23
      have hI1 : Ins pf l l23 a ((a + b) / 2) ((a + b) / 2) := by assumption
      have hI1l := hI1.perm.length_eq
      have hIA := OrdA.perm hHA hI1.perm
      have hIT := OrdT.perm hHT hI1.perm
      have hI3 := Asc.frame hH.s3 fun p9 h9 _ => hI1.frame p9 (by omega)
      have hI4 := Asc.frame hH.s4 fun p9 h9 _ => hI1.frame p9 (by omega)
      refine WL.lssS (((a + b) / 2 : Nat) : Int) (((((a + b) / 2) + m) - s : Nat) : Int) rfl rfl rfl (fun h60 => ?_) (fun h60 => ?_)
      · refine WL.lssS (((((a + b) / 2) + m) - s : Nat) : Int) (b : Int) rfl rfl rfl (fun h61 => ?_) (fun h61 => ?_)
        · refine WL.cR hb192 rfl rfl rfl ((IH _ _) hS66.imm l23 ((a + b) / 2) ((((a + b) / 2) + m) - s) b pf _ _ hr47 (hS66.lentAt 0 rfl) fid fcap (hf.up (hle19.trans hle29)) (by omega) (by omega) (by omega) (by exact hI3) (by exact hI4) (by exact hIA) (by exact hIT) (by omega)) (fun w44 G30 r24 hres24 hpost24 => ?_)
          have hle30 := hres24.le
          obtain ⟨rfl, l24, o30, hr48, hf24, hq24⟩ := hpost24
          have hS68 := hS66.callRow 0 rfl hres24 hr47 hr48 hf24
          exact RT hS68 rfl ⟨rfl, l24, _, hr48, hS68.lentAt 0 rfl, (by exact Halves.done hH hI1 (by first | assumption | exact Ins.same (Asc.join hI3 hI4 (by omega))) (by omega) (by omega))⟩
        exact RT hS66 rfl ⟨rfl, l23, _, hr47, hS66.lentAt 0 rfl, (by exact Halves.done hH hI1 (by first | assumption | exact Ins.same (Asc.join hI3 hI4 (by omega))) (by omega) (by omega))⟩
      exact RT hS66 rfl ⟨rfl, l23, _, hr47, hS66.lentAt 0 rfl, (by exact Halves.done hH hI1 (by first | assumption | exact Ins.same (Asc.join hI3 hI4 (by omega))) (by omega) (by omega))⟩
    have hI1 : Ins pf l l a ((a + b) / 2) ((a + b) / 2) := by exact Ins.same (Asc.join hH.s1 hH.s2 (by omega))
    have hI1l := hI1.perm.length_eq
    have hIA := OrdA.perm hHA hI1.perm
    have hIT := OrdT.perm hHT hI1.perm
    have hI3 := Asc.frame hH.s3 fun p9 h9 _ => hI1.frame p9 (by omega)
    have hI4 := Asc.frame hH.s4 fun p9 h9 _ => hI1.frame p9 (by omega)
    refine WL.lssS (((a + b) / 2 : Nat) : Int) (((((a + b) / 2) + m) - s : Nat) : Int) rfl rfl rfl (fun h62 => ?_) (fun h62 => ?_)
    · refine WL.lssS (((((a + b) / 2) + m) - s : Nat) : Int) (b : Int) rfl rfl rfl (fun h63 => ?_) (fun h63 => ?_)
      · refine WL.cR hb192 rfl rfl rfl ((IH _ _) hS44.imm l ((a + b) / 2) ((((a + b) / 2) + m) - s) b pf _ _ (hvd.mono hle19) (hS44.lentAt 0 rfl) fid fcap (hf.up hle19) (by omega) (by omega) (by omega) (by exact hI3) (by exact hI4) (by exact hIA) (by exact hIT) (by omega)) (fun w45 G31 r25 hres25 hpost25 => ?_)
        have hle31 := hres25.le
        obtain ⟨rfl, l25, o31, hr49, hf25, hq25⟩ := hpost25
        have hS70 := hS44.callRow 0 rfl hres25 (hvd.mono hle19) hr49 hf25
        exact RT hS70 rfl ⟨rfl, l25, _, hr49, hS70.lentAt 0 rfl, (by exact Halves.done hH hI1 (by first | assumption | exact Ins.same (Asc.join hI3 hI4 (by omega))) (by omega) (by omega))⟩
      exact RT hS44 rfl ⟨rfl, l, _, (hvd.mono hle19), hS44.lentAt 0 rfl, (by exact Halves.done hH hI1 (by first | assumption | exact Ins.same (Asc.join hI3 hI4 (by omega))) (by omega) (by omega))⟩
    exact RT hS44 rfl ⟨rfl, l, _, (hvd.mono hle19), hS44.lentAt 0 rfl, (by exact Halves.done hH hI1 (by first | assumption | exact Ins.same (Asc.join hI3 hI4 (by omega))) (by omega) (by omega))⟩
  have hI1 : Ins pf l l a ((a + b) / 2) ((a + b) / 2) := by exact Ins.same (Asc.join hH.s1 hH.s2 (by omega))
  have hI1l := hI1.perm.length_eq
  have hIA := OrdA.perm hHA hI1.perm
  have hIT := OrdT.perm hHT hI1.perm
  have hI3 := Asc.frame hH.s3 fun p9 h9 _ => hI1.frame p9 (by omega)
  have hI4 := Asc.frame hH.s4 fun p9 h9 _ => hI1.frame p9 (by omega)
  refine WL.lssS (((a + b) / 2 : Nat) : Int) (((((a + b) / 2) + m) - s : Nat) : Int) rfl rfl rfl (fun h64 => ?_) (fun h64 => ?_)
  · refine WL.lssS (((((a + b) / 2) + m) - s : Nat) : Int) (b : Int) rfl rfl rfl (fun h65 => ?_) (fun h65 => ?_)
    · refine WL.cR hb192 rfl rfl rfl ((IH _ _) hS44.imm l ((a + b) / 2) ((((a + b) / 2) + m) - s) b pf _ _ (hvd.mono hle19) (hS44.lentAt 0 rfl) fid fcap (hf.up hle19) (by omega) (by omega) (by omega) (by exact hI3) (by exact hI4) (by exact hIA) (by exact hIT) (by omega)) (fun w46 G32 r26 hres26 hpost26 => ?_)
      have hle32 := hres26.le
      obtain ⟨rfl, l26, o32, hr50, hf26, hq26⟩ := hpost26
      have hS72 := hS44.callRow 0 rfl hres26 (hvd.mono hle19) hr50 hf26
      exact RT hS72 rfl ⟨rfl, l26, _, hr50, hS72.lentAt 0 rfl, (by exact Halves.done hH hI1 (by first | assumption | exact Ins.same (Asc.join hI3 hI4 (by omega))) (by omega) (by omega))⟩
    exact RT hS44 rfl ⟨rfl, l, _, (hvd.mono hle19), hS44.lentAt 0 rfl, (by exact Halves.done hH hI1 (by first | assumption | exact Ins.same (Asc.join hI3 hI4 (by omega))) (by omega) (by omega))⟩
  exact RT hS44 rfl ⟨rfl, l, _, (hvd.mono hle19), hS44.lentAt 0 rfl, (by exact Halves.done hH hI1 (by first | assumption | exact Ins.same (Asc.join hI3 hI4 (by omega))) (by omega) (by omega))⟩

theorem c_symAll (K : Nat) : SymSpec K := Nat.strongRecOn K fun K ih G w hG l a m b pf vd od hvd hod fid fcap hf h1 h2 h3 h4 h5 h6 h7 hK =>
  c_symF hG l a m b pf vd od hvd hod fid fcap hf h1 h2 h3 h4 h5 h6 h7 (ih (b - a) hK)

theorem c_symM  {G : GH} {w : World} (hG : G.In w) (l : List Fact) (a m b : Nat) (pf : Fact → Fact → Int) (vd : Value) (od : OB) (hvd : Row FactE 40 (nat_lit 63) G vd l od) (hod : Lent w G od) (fid : Nat) (fcap : Array Value) (hf : FnI2 Tryz.prog (Is FactE) (Is FactE) fid fcap G (fun _ _ => True) pf) (ham : a < m) (hmb : m < b) (hbl : b ≤ l.length) (as1 : Asc pf l a m) (as2 : Asc pf l m b) (hA : ∀ x ∈ l, ∀ y ∈ l, pf x y < 0 → ¬ pf y x < 0) (hT : ∀ x ∈ l, ∀ y ∈ l, ∀ z ∈ l, ¬ pf y x < 0 → ¬ pf z y < 0 → ¬ pf z x < 0) : CL Tryz.prog (nat_lit 192) #[vd, .int .i64 (a : Int), .int .i64 (m : Int), .int .i64 (b : Int), .func (.func fid) #[] fcap] (blk od) w G fun G' w' r => r = .tuple #[] ∧ ∃ (l' : List Fact) (o' : OB), Row FactE 40 (nat_lit 63) G' vd l' o' ∧ Lent w' G' o' ∧ Ins pf l l' a b b :=
  c_symAll (b - a + 1) G w hG l a m b pf vd od hvd hod fid fcap hf ham hmb hbl as1 as2 hA hT (by omega)

theorem c_stableF {G : GH} {w : World} (hG : G.In w) (l : List Fact) (n : Nat) (pf : Fact → Fact → Int) (vd : Value) (od : OB) (hvd : Row FactE 40 (nat_lit 63) G vd l od) (hod : Lent w G od) (fid : Nat) (fcap : Array Value) (hf : FnI2 Tryz.prog (Is FactE) (Is FactE) fid fcap G (fun _ _ => True) pf) (hnl : n = l.length) (hA : ∀ x ∈ l, ∀ y ∈ l, pf x y < 0 → ¬ pf y x < 0) (hT : ∀ x ∈ l, ∀ y ∈ l, ∀ z ∈ l, ¬ pf y x < 0 → ¬ pf z y < 0 → ¬ pf z x < 0) : CL Tryz.prog (nat_lit 168) #[vd, .int .i64 (n : Int), .func (.func fid) #[] fcap] (blk od) w G fun G' w' r => r = .tuple #[] ∧ ∃ (l' : List Fact) (o' : OB), Row FactE 40 (nat_lit 63) G' vd l' o' ∧ Lent w' G' o' ∧ Ins pf l l' 0 n n := by
  refine calls_of_go ft [] Tryz.func168 rfl rfl ?_
  have bdl := hvd.bound
  have hS := St.lentO hG hod
  refine LP.go ft [] (fun m ρ1 w1 => ∃ (a : Nat), ∃ (L : List Fact), ∃ (o1 : OB), ∃ (G1 : GH), m = (n - a) ∧ G.le G1 ∧ St w (blk od) G G1 [o1] w1 ∧ Row FactE 40 63 G1 vd L o1 ∧ FR ρ1 [(0, vd), (1, .int .i64 (n : Int)), (2, .func (.func fid) #[] fcap), (6, .int .i64 20), (7, .int .i64 (a : Int)), (8, .int .i64 ((a + 20 : Nat) : Int))] ∧ a ≤ n ∧ L.Perm l ∧ Done pf L 20 a) _ ⟨0, l, od, G, rfl, (G.le_refl), hS, hvd, ⟨rfl, rfl, rfl, rfl, rfl, rfl, trivial⟩, (by omega), (List.Perm.refl _), (Done.zero)⟩ ?_
  rintro m ρ1 w1 ⟨a, L, o1, G1, rfl, hle1, hS1, hr1, hF9, f1, f2, f3⟩
  refine hF9.set ?_
  clear hF9
  have hLp : L.Perm l := by assumption
  have lenL := hLp.length_eq
  refine WL.leqS ((a + 20 : Nat) : Int) (n : Int) rfl rfl rfl (fun h1 => ?_) (fun h1 => ?_)
  · refine WL.cR hb191 rfl rfl rfl (c_insertF hS1.imm L a (a + 20) pf _ _ hr1 (hS1.lentAt 0 rfl) fid fcap (hf.up hle1) (by omega) (by omega) (OrdA.perm hA hLp) (OrdT.perm hT hLp)) (fun w2 G2 r1 hres1 hpost1 => ?_)
    have hle2 := hres1.le
    obtain ⟨rfl, l1, o2, hr2, hf1, hq1⟩ := hpost1
    have hS3 := hS1.callRow 0 rfl hres1 hr1 hr2 hf1
    refine WL.addN (a + 20) 20 (by have hreach : reach = 140737488355328 := rfl; omega) rfl rfl rfl ?_
    exact BK.mk' _ ⟨a + 20, l1, o2, G2, rfl, (hle1.trans hle2), hS3, hr2, ⟨rfl, rfl, rfl, rfl, rfl, rfl, trivial⟩, (by omega), (by exact (Ins.perm (by assumption)).trans hLp), (by exact Done.ins (by assumption) (by assumption))⟩ (show (n - (a + 20)) < (n - a) by omega)
  refine WL.cR hb191 rfl rfl rfl (c_insertF hS1.imm L a n pf _ _ hr1 (hS1.lentAt 0 rfl) fid fcap (hf.up hle1) (by omega) (by omega) (OrdA.perm hA hLp) (OrdT.perm hT hLp)) (fun w3 G3 r2 hres2 hpost2 => ?_)
  have hle3 := hres2.le
  obtain ⟨rfl, l2, o3, hr3, hf2, hq2⟩ := hpost2
  have hS5 := hS1.callRow 0 rfl hres2 hr1 hr3 hf2
  refine LP.go ft [] (fun m ρ1 w1 => ∃ (bs : Nat), ∃ (L3 : List Fact), ∃ (o4 : OB), ∃ (G4 : GH), m = (n - bs) ∧ G3.le G4 ∧ St w (blk od) G G4 [o4] w1 ∧ Row FactE 40 63 G4 vd L3 o4 ∧ FR ρ1 [(0, vd), (1, .int .i64 (n : Int)), (2, .func (.func fid) #[] fcap), (6, .int .i64 (bs : Int))] ∧ 1 ≤ bs ∧ L3.Perm l ∧ Blks pf L3 bs n 0) _ ⟨20, l2, o3, G3, rfl, (G3.le_refl), hS5, hr3, ⟨rfl, rfl, rfl, rfl, trivial⟩, (by omega), ((Ins.perm (by assumption)).trans hLp), (by exact Done.last (by assumption) (by assumption) (by omega) (by omega))⟩ ?_
  rintro m ρ1 w4 ⟨bs, L3, o4, G4, rfl, hle4, hS6, hr4, hF9, f4, f5, f6⟩
  refine hF9.set ?_
  clear hF9
  have hLp3 : L3.Perm l := by assumption
  have lenL3 := hLp3.length_eq
  refine WL.lssS (bs : Int) (n : Int) rfl rfl rfl (fun h2 => ?_) (fun h2 => ?_)
  · refine WL.mulN 2 bs (by have hreach : reach = 140737488355328 := rfl; omega) rfl rfl rfl ?_
    refine LP.go ft [] (fun m ρ1 w1 => ∃ (a : Nat), ∃ (b8 : Nat), ∃ (L4 : List Fact), ∃ (o5 : OB), ∃ (G5 : GH), m = (n - a) ∧ G4.le G5 ∧ St w (blk od) G G5 [o5] w1 ∧ Row FactE 40 63 G5 vd L4 o5 ∧ FR ρ1 [(0, vd), (1, .int .i64 (n : Int)), (2, .func (.func fid) #[] fcap), (6, .int .i64 (bs : Int)), (7, .int .i64 (a : Int)), (8, .int .i64 (b8 : Int))] ∧ a ≤ n ∧ b8 = a + 2 * bs ∧ L4.Perm l ∧ Done pf L4 (2 * bs) a ∧ Blks pf L4 bs n a) _ ⟨0, 2 * bs, L3, o4, G4, rfl, (G4.le_refl), hS6, hr4, ⟨rfl, rfl, rfl, rfl, rfl, rfl, trivial⟩, (by omega), (by omega), (by assumption), (Done.zero), (by assumption)⟩ ?_
    rintro m ρ1 w5 ⟨a, b8, L4, o5, G5, rfl, hle5, hS7, hr5, hF9, f7, f8, f9, f10, f11⟩
    refine hF9.set ?_
    clear hF9
    have hLp4 : L4.Perm l := by assumption
    have lenL4 := hLp4.length_eq
    have e8 : b8 = a + 2 * bs := by assumption
    refine WL.leqS (b8 : Int) (n : Int) rfl rfl rfl (fun h3 => ?_) (fun h3 => ?_)
    · refine WL.addN a bs (by have hreach : reach = 140737488355328 := rfl; omega) rfl rfl rfl ?_
      refine WL.cR hb192 rfl rfl rfl (c_symM hS7.imm L4 a (a + bs) b8 pf _ _ hr5 (hS7.lentAt 0 rfl) fid fcap (hf.up (((hle1.trans hle3).trans hle4).trans hle5)) (by omega) (by omega) (by omega) (by exact (Blks.two (by assumption) (by omega) (by omega)).1) (by (rw [e8]; exact (Blks.two (by assumption) (by omega) (by omega)).2.1)) (OrdA.perm hA hLp4) (OrdT.perm hT hLp4)) (fun w6 G6 r3 hres3 hpost3 => ?_)
      have hle6 := hres3.le
      obtain ⟨rfl, l3, o6, hr6, hf3, hq3⟩ := hpost3
      have hS9 := hS7.callRow 0 rfl hres3 hr5 hr6 hf3
      refine WL.mulN 2 bs (by have hreach : reach = 140737488355328 := rfl; omega) rfl rfl rfl ?_
      refine WL.addN b8 (2 * bs) (by have hreach : reach = 140737488355328 := rfl; omega) rfl rfl rfl ?_
      exact BK.mk' _ ⟨b8, b8 + (2 * bs), l3, o6, G6, rfl, (hle5.trans hle6), hS9, hr6, ⟨rfl, rfl, rfl, rfl, rfl, rfl, trivial⟩, (by omega), (by omega), (by exact (Ins.perm (by assumption)).trans hLp4), (by rw [e8]; exact Done.merged (by assumption) (by rw [← e8]; assumption)), (by rw [e8]; exact Blks.merged (by assumption) (by omega) (by omega) (by rw [← e8]; assumption))⟩ (show (n - b8) < (n - a) by omega)
    refine WL.addN a bs (by have hreach : reach = 140737488355328 := rfl; omega) rfl rfl rfl ?_
    refine WL.lssS ((a + bs : Nat) : Int) (n : Int) rfl rfl rfl (fun h4 => ?_) (fun h4 => ?_)
    · refine WL.cR hb192 rfl rfl rfl (c_symM hS7.imm L4 a (a + bs) n pf _ _ hr5 (hS7.lentAt 0 rfl) fid fcap (hf.up (((hle1.trans hle3).trans hle4).trans hle5)) (by omega) (by omega) (by omega) (by exact (Blks.rest (by assumption) (by omega) (by omega)).1) (by exact (Blks.rest (by assumption) (by omega) (by omega)).2) (OrdA.perm hA hLp4) (OrdT.perm hT hLp4)) (fun w7 G7 r4 hres4 hpost4 => ?_)
      have hle7 := hres4.le
      obtain ⟨rfl, l4, o7, hr7, hf4, hq4⟩ := hpost4
      have hS11 := hS7.callRow 0 rfl hres4 hr5 hr7 hf4
      refine WL.mulN bs 2 (by have hreach : reach = 140737488355328 := rfl; omega) rfl rfl rfl ?_
      exact BK.mk' _ ⟨bs * 2, l4, o7, G7, rfl, (hle4.trans (hle5.trans hle7)), hS11, hr7, ⟨rfl, rfl, rfl, rfl, trivial⟩, (by omega), (by exact (Ins.perm (by assumption)).trans hLp4), (by rw [Nat.mul_comm]; exact Done.last (by assumption) (by assumption) (by omega) (by omega))⟩ (show (n - (bs * 2)) < (n - bs) by omega)
    refine WL.mulN bs 2 (by have hreach : reach = 140737488355328 := rfl; omega) rfl rfl rfl ?_
    exact BK.mk' _ ⟨bs * 2, L4, o5, G5, rfl, (hle4.trans hle5), hS7, hr5, ⟨rfl, rfl, rfl, rfl, trivial⟩, (by omega), (by exact hLp4), (by rw [Nat.mul_comm]; exact Done.stay (by assumption) (Blks.one (by assumption : Blks pf L4 bs n a) (by omega)) (by omega) (by omega))⟩ (show (n - (bs * 2)) < (n - bs) by omega)
  exact RT hS6 rfl ⟨rfl, L3, _, hr4, hS6.lentAt 0 rfl, (by exact blks_ins (by assumption) (by assumption) (by omega) hnl)⟩

theorem c_SortStableF {G : GH} {w : World} (hG : G.In w) (l : List Fact) (pf : Fact → Fact → Int) (vd : Value) (od : OB) (hvd : Row FactE 40 (nat_lit 63) G vd l od) (hod : Lent w G od) (fid : Nat) (fcap : Array Value) (hf : FnI2 Tryz.prog (Is FactE) (Is FactE) fid fcap G (fun _ _ => True) pf) (hA : ∀ x ∈ l, ∀ y ∈ l, pf x y < 0 → ¬ pf y x < 0) (hT : ∀ x ∈ l, ∀ y ∈ l, ∀ z ∈ l, ¬ pf y x < 0 → ¬ pf z y < 0 → ¬ pf z x < 0) : CL Tryz.prog (nat_lit 139) #[vd, .func (.func fid) #[] fcap] (blk od) w G fun G' w' r => r = .tuple #[] ∧ ∃ (l' : List Fact) (o' : OB), Row FactE 40 (nat_lit 63) G' vd l' o' ∧ Lent w' G' o' ∧ Ins pf l l' 0 l.length l.length := by
  refine calls_of_go ft [] Tryz.func139 rfl rfl ?_
  have hS := St.lentO hG hod
  have bd1 := hvd.bound
  refine WL.lenRow hvd ul22 rfl rfl ?_
  refine WL.cR hb168 rfl rfl rfl (c_stableF hS.imm l l.length pf _ _ hvd (hS.lentAt 0 rfl) fid fcap (hf.up (G.le_refl)) rfl hA hT) (fun w1 G1 r1 hres1 hpost1 => ?_)
  have hle1 := hres1.le
  obtain ⟨rfl, l1, o1, hr1, hf1, hq1⟩ := hpost1
  have hS2 := hS.callRow 0 rfl hres1 hvd hr1 hf1
  exact RT hS2 rfl ⟨rfl, l1, _, hr1, hS2.lentAt 0 rfl, (by assumption)⟩
end Go.Civ
