/- Walks, printed by specs38.py. -/
import Derived.Test.YtapjalhjfblonaaGreatProg
import Derived.KernelRfl
import Derived.WalkKit
import Derived.Test.YtapjalhjfblonaaGreatMWh
import Derived.Test.YtapjalhjfblonaaGreatMCiv16
set_option linter.unusedVariables false
set_option linter.unusedSimpArgs false
set_option maxRecDepth 100000
set_option maxHeartbeats 4000000
namespace Go.Civ
open Go.Proofs


theorem c_CloneVs {G : GH} {w : World} (hG : G.In w) (l : List Val) (vl : Value) (hvl : Sl ValE 32 G vl l)  : CL Tryz.prog (nat_lit 111) #[vl] [] w G fun G' _ r => Sl ValE 32 G' r l := by
  refine calls_of_go ft [] Tryz.func111 rfl rfl ?_
  have hS := St.start (X := []) hG
  refine WL.nilEq hvl ul61 rfl rfl rfl (fun h1 => ?_) ?_
  · exact RT hS rfl (Sl.cast (Sl.nil ValE 32 G) (by exact Eq.symm (by assumption)))
  refine WL.buildSlice _ [] [] hS sl61 rfl rfl rfl rfl (fun z hz => by match z, hz with | [], _ => rfl) (fun b1 w1 hn1 hS1 => ?_)
  have hr1 := Row.empty ValE 32 34 G b1
  refine WL.pushSl sl61 rfl rfl rfl hr1 hS1 0 rfl hvl (by have hreach : reach = 140737488355328 := rfl; have := hvl.bytes; have := hvl.bound; simp only [List.length_nil, Nat.zero_add]; omega) (by have hreach : reach = 140737488355328 := rfl; have := hvl.bytes; have := hvl.bound; simp only [List.length_nil, Nat.zero_add]; omega) rfl rfl rfl (fun v1 o1 w2 hr2 hS2 => ?_)
  obtain ⟨G1, hle1, hs1, hS3⟩ := Row.freeze hr2 hS2 0 rfl
  exact RT hS3 rfl (Sl.cast hs1 (by rfl))

theorem c_listed {G : GH} {w : World} (hG : G.In w) (gs : List Group) (vl : Value) (hvl : Sl GroupE 48 G vl gs) (hlen : (listedL gs).length ≤ 1000000) : CL Tryz.prog (nat_lit 83) #[vl] [] w G fun G' _ r => ∃ r0 r1, r = .tuple #[r0, r1] ∧ Sl FactE 40 G' r0 (listedL gs) ∧ r1 = .bool (fitB (listedL gs)) := by
  refine calls_of_go ft [] Tryz.func83 rfl rfl ?_
  have hl0 : ∀ x, (listedL gs)[0]? = some x → (listedL gs).head?.elim [] Fact.v = x.v := fun x hx => by rw [List.head?_eq_getElem?, hx]; rfl
  have hS := St.start (X := []) hG
  have bd1 := hvl.bound
  refine WL.lenSl hvl ul114 rfl rfl ?_
  have hS2 := hS.pad
  refine LP.go ft [] (fun m ρ1 w1 => ∃ (k1 : Nat), ∃ (v1 : Value) (o1 : OB), ∃ (G1 : GH), m = gs.length - k1 ∧ G.le G1 ∧ St w [] G G1 [o1] w1 ∧ Row FactE 40 63 G1 v1 (listedL (gs.take k1)) o1 ∧ FR ρ1 [(4, v1), (9, vl), (10, .int .i64 (gs.length : Int)), (11, .int .i64 (k1 : Int))] ∧ k1 ≤ gs.length) _ ⟨0, (.slice none 0 0), none, G, rfl, (G.le_refl), hS2, (Row.nil FactE 40 63 G), ⟨rfl, rfl, rfl, rfl, trivial⟩, (by omega)⟩ ?_
  rintro m ρ1 w1 ⟨k1, v1, o1, G1, rfl, hle1, hS1, hr1, hF9, f1⟩
  refine hF9.set ?_
  clear hF9
  refine WL.lssS (k1 : Int) (gs.length : Int) rfl rfl rfl (fun h1 => ?_) (fun h1 => ?_)
  · refine WL.indexAddr (hvl.mono hle1) k1 (by omega) ul114 ti117 rfl rfl rfl rfl (fun p1 x1 hx1 he1 => ?_)
    obtain ⟨cs1, hc1, hr2⟩ := he1
    obtain ⟨v2, v3, rfl, hs1, hs2⟩ := GroupE_open hr2
    refine WL.loadGAt hS1 hc1 [v2, v3] ti117 rfl rfl rfl rfl rfl ?_
    refine WL.alloc hS1 ti117 rfl rfl (fun b1 w2 hn1 hS3 => ?_)
    refine WL.store hS3 0 _ _ _ 0 _ [v2, v3] [v2, v3] _ rfl rfl ti117 rfl (Nat.le_of_ble_eq_true rfl) (by simp only [List.all_cons, List.all_nil, hs1.oneC, hs2.oneC, Bool.true_and] <;> rfl) rfl rfl rfl rfl rfl (fun w3 hS4 => ?_)
    obtain ⟨G2, hle2, hc2, hS5⟩ := hS4.shutB hn1
    refine WL.loadG1 hS5 (Cells.drop 1 hc2) ti111 rfl rfl rfl ?_
    have bd2 := hs2.bound
    refine WL.lenSl (hs2.mono hle2) ul111 rfl rfl ?_
    refine LP.go ft [] (fun m ρ1 w1 => ∃ (k2 : Nat), ∃ (v4 : Value) (o2 : OB), ∃ (G3 : GH), m = x1.t.length - k2 ∧ G2.le G3 ∧ St w [] G G3 [o2] w1 ∧ Row FactE 40 63 G3 v4 (listedL (gs.take k1) ++ (x1.t.take k2).map (Fact.mk x1.v)) o2 ∧ FR ρ1 [(4, v4), (6, .pointer (some (⟨b1, 0, none⟩ : Addr))), (9, vl), (10, .int .i64 (gs.length : Int)), (11, .int .i64 (k1 : Int)), (16, v3), (17, .int .i64 (x1.t.length : Int)), (18, .int .i64 (k2 : Int))] ∧ k2 ≤ x1.t.length) _ ⟨0, v1, o1, G2, rfl, (G2.le_refl), hS5, (Row.cast (hr1.mono hle2) (by simp)), ⟨rfl, rfl, rfl, rfl, rfl, rfl, rfl, rfl, trivial⟩, (by omega)⟩ ?_
    rintro m ρ1 w4 ⟨k2, v4, o2, G3, rfl, hle3, hS6, hr3, hF9, f2⟩
    refine hF9.set ?_
    clear hF9
    have lenI := listed_part (g := x1) (j := k2) hx1 (by omega)
    refine WL.lssS (k2 : Int) (x1.t.length : Int) rfl rfl rfl (fun h2 => ?_) (fun h2 => ?_)
    · refine WL.indexAddr (hs2.mono (hle2.trans hle3)) k2 (by omega) ul111 ti46 rfl rfl rfl rfl (fun p2 x2 hx2 he2 => ?_)
      obtain ⟨cs2, hc3, hr4⟩ := he2
      obtain ⟨rfl, hb1, hb2⟩ := SpanE_open hr4
      refine WL.loadGAt hS6 hc3 [.int .i64 x2.a, .int .i64 x2.b] ti46 rfl rfl rfl rfl rfl ?_
      refine WL.alloc hS6 ti46 rfl rfl (fun b2 w5 hn2 hS7 => ?_)
      refine WL.store hS7 0 _ _ _ 0 _ [.int .i64 x2.a, .int .i64 x2.b] [.int .i64 x2.a, .int .i64 x2.b] _ rfl rfl ti46 rfl (Nat.le_of_ble_eq_true rfl) rfl rfl rfl rfl rfl rfl (fun w6 hS8 => ?_)
      obtain ⟨G4, hle4, hc4, hS9⟩ := hS8.shutB hn2
      refine dr [(3, true), (5, false), (6, false), (7, false), (8, false)] [(24, v2), (26, .agg #[.int .i64 x2.a, .int .i64 x2.b])] hS9 ⟨fun _ hSw => WL.loadG1 hSw (Cells.drop 0 (hc2.mono (hle3.trans hle4))) ti61 rfl rfl rfl <| nu rfl rfl, fun _ hSw => WL.loadGAt hSw hc4 [.int .i64 x2.a, .int .i64 x2.b] ti46 rfl rfl rfl rfl rfl <| nu rfl rfl, trivial⟩ (fun w7 hS10 => ?_)
      refine WL.cA hS10 hb111 rfl rfl rfl (c_CloneVs hS10.imm x1.v _ (hs1.mono ((hle2.trans hle3).trans hle4)) ) (fun w8 G5 r1 hpost1 hS11 hle5 => ?_)
      refine ⟨hS11.down hS10.le hle5, ?_⟩
      refine WL.build _ [(0, [r1]), (1, [.int .i64 x2.a, .int .i64 x2.b])] [r1, .int .i64 x2.a, .int .i64 x2.b] ti63 rfl fl63 rfl rfl (by show [(0, (r1 : Value).cells.toList), (1, (.agg #[.int .i64 x2.a, .int .i64 x2.b] : Value).cells.toList)] = _; simp only [hpost1.cells1] <;> rfl) rfl ?_
      refine WL.buildSlice _ [(0, [r1, .int .i64 x2.a, .int .i64 x2.b])] [r1, .int .i64 x2.a, .int .i64 x2.b] hS11 sl22 rfl rfl rfl rfl (fun z hz => by match z, hz with | [z0, z1, z2], _ => rfl) (fun b3 w9 hn3 hS12 => ?_)
      refine WL.push (m := ([(Fact.mk x1.v x2)] : List Fact)) sl22 rfl rfl rfl (hr3.mono (hle4.trans hle5)) hS12 1 rfl 0 _ _ _ _ _ rfl ⟨[r1, .int .i64 x2.a, .int .i64 x2.b], _, rfl, (FactE_mk (Fact.mk x1.v x2) hpost1 hb1 hb2), rfl⟩ rfl (by have hreach : reach = 140737488355328 := rfl; simp only [List.length_cons, List.length_nil]; omega) (by have hreach : reach = 140737488355328 := rfl; simp only [List.length_cons, List.length_nil]; omega) rfl rfl rfl (fun v5 o3 w10 hr5 hS13 => ?_)
      have hS14 := hS13.tail
      refine WL.incr k2 (by have hreach : reach = 140737488355328 := rfl; omega) rfl rfl rfl ?_
      exact BK.mk' _ ⟨k2 + 1, v5, o3, G5, rfl, (hle3.trans (hle4.trans hle5)), hS14, (Row.cast hr5 (by (rw [map_take (by assumption), List.append_assoc]))), ⟨rfl, rfl, rfl, rfl, rfl, rfl, rfl, rfl, trivial⟩, (by omega)⟩ (show x1.t.length - (k2 + 1) < x1.t.length - k2 by omega)
    refine WL.incr k1 (by have hreach : reach = 140737488355328 := rfl; omega) rfl rfl rfl ?_
    exact BK.mk' _ ⟨k1 + 1, v4, o2, G3, rfl, (hle1.trans (hle2.trans hle3)), hS6, (Row.cast hr3 (by exact listedL_step hx1 (by omega))), ⟨rfl, rfl, rfl, rfl, trivial⟩, (by omega)⟩ (show gs.length - (k1 + 1) < gs.length - k1 by omega)
  have bd3 := hr1.bound
  rcases Cmp.dec .leq (((listedL (gs.take k1)).length : Nat) : Int) 1000 with ⟨hb3, q1⟩ | ⟨hb3, q1⟩
  · have h3 : (((listedL (gs.take k1)).length : Nat) : Int) ≤ 1000 := q1
    clear q1
    have bd4 := hr1.bound
    rcases Cmp.dec .eql (((listedL (gs.take k1)).length : Nat) : Int) 0 with ⟨hb4, q2⟩ | ⟨hb4, q2⟩
    · have h4 : (((listedL (gs.take k1)).length : Nat) : Int) = 0 := q2
      clear q2
      refine dr [(17, true), (18, false)] [(34, .int .i64 (((listedL (gs.take k1)).length : Nat) : Int)), (35, .bool true), (38, .int .i64 (((listedL (gs.take k1)).length : Nat) : Int)), (39, .bool true)] hS1 ⟨fun _ => WL.lenRow hr1 ul22 rfl rfl <| nu rfl rfl, fun _ => WL.cmpV .leq rfl .i64 (((listedL (gs.take k1)).length : Nat) : Int) 1000 _ hb3 rfl rfl rfl <| nu rfl rfl, fun _ => WL.lenRow hr1 ul22 rfl rfl <| nu rfl rfl, fun _ => WL.cmpV .eql rfl .i64 (((listedL (gs.take k1)).length : Nat) : Int) 0 _ hb4 rfl rfl rfl <| nu rfl rfl, trivial⟩ (fun w11 hS15 => ?_)
      refine WL.assign rfl ?_
      refine ⟨hS15.down hS15.le (G1.le_refl), ?_⟩
      obtain ⟨G6, hle6, hs3, hS16⟩ := Row.freeze hr1 hS15 0 rfl
      exact RT hS16 rfl ⟨_, _, rfl, (Sl.cast hs3 (by exact listed_all (by omega))), (congrArg Value.bool (by (rw [show listedL gs = listedL (gs.take k1) from (listed_all (by omega)).symm]; first | (unfold fitB; rw [decide_eq_false (by omega)]; rfl) | (rw [fitB_false (by omega) (by assumption)]; unfold Cmp.b; exact decide_eq_decide.2 (by omega)) | (unfold fitB; rw [decide_eq_true (by omega), decide_eq_true (by omega)]; rfl))))⟩
    have h4 : (((listedL (gs.take k1)).length : Nat) : Int) ≠ 0 := q2
    clear q2
    obtain ⟨p3, x3, ec1, hx3, hr6, ra1, ep1⟩ := Row.atP hr1 0 (by omega)
    obtain ⟨v6, rfl, hs4, hb5, hb6⟩ := FactE_open hr6
    have bd5 := hs4.bound
    refine dr [(17, true), (18, false)] [(34, .int .i64 (((listedL (gs.take k1)).length : Nat) : Int)), (35, .bool true), (38, .int .i64 (((listedL (gs.take k1)).length : Nat) : Int)), (39, .bool false), (42, .pointer (some p3)), (44, v6), (45, .int .i64 (x3.v.length : Int)), (46, .bool (Cmp.b .leq (x3.v.length : Int) 8))] hS1 ⟨fun _ => WL.lenRow hr1 ul22 rfl rfl <| nu rfl rfl, fun _ => WL.cmpV .leq rfl .i64 (((listedL (gs.take k1)).length : Nat) : Int) 1000 _ hb3 rfl rfl rfl <| nu rfl rfl, fun _ => WL.lenRow hr1 ul22 rfl rfl <| nu rfl rfl, fun _ => WL.cmpV .eql rfl .i64 (((listedL (gs.take k1)).length : Nat) : Int) 0 _ hb4 rfl rfl rfl <| nu rfl rfl, fun _ => WL.indexAddrP 0 ep1 ul22 ti63 rfl rfl rfl rfl <| nu rfl rfl, fun _ hSw => WL.loadR1 ra1 hSw 0 rfl 0 _ rfl ti61 rfl rfl rfl <| nu rfl rfl, fun _ => WL.lenSl hs4 ul61 rfl rfl <| nu rfl rfl, fun _ => WL.cmp .leq rfl .i64 (x3.v.length : Int) 8 rfl rfl rfl <| nu rfl rfl, trivial⟩ (fun w12 hS17 => ?_)
    refine WL.assign rfl ?_
    refine ⟨hS17.down hS17.le (G1.le_refl), ?_⟩
    obtain ⟨G7, hle7, hs5, hS18⟩ := Row.freeze hr1 hS17 0 rfl
    exact RT hS18 rfl ⟨_, _, rfl, (Sl.cast hs5 (by exact listed_all (by omega))), (congrArg Value.bool (by (rw [show listedL gs = listedL (gs.take k1) from (listed_all (by omega)).symm]; first | (unfold fitB; rw [decide_eq_false (by omega)]; rfl) | (rw [fitB_false (by omega) (by assumption)]; unfold Cmp.b; exact decide_eq_decide.2 (by omega)) | (unfold fitB; rw [decide_eq_true (by omega), decide_eq_true (by omega)]; rfl))))⟩
  have h3 : 1000 < (((listedL (gs.take k1)).length : Nat) : Int) := q1
  clear q1
  refine dr [(17, true), (18, false)] [(34, .int .i64 (((listedL (gs.take k1)).length : Nat) : Int)), (35, .bool false)] hS1 ⟨fun _ => WL.lenRow hr1 ul22 rfl rfl <| nu rfl rfl, fun _ => WL.cmpV .leq rfl .i64 (((listedL (gs.take k1)).length : Nat) : Int) 1000 _ hb3 rfl rfl rfl <| nu rfl rfl, trivial⟩ (fun w13 hS19 => ?_)
  refine WL.assign rfl ?_
  refine ⟨hS19.down hS19.le (G1.le_refl), ?_⟩
  obtain ⟨G8, hle8, hs6, hS20⟩ := Row.freeze hr1 hS19 0 rfl
  exact RT hS20 rfl ⟨_, _, rfl, (Sl.cast hs6 (by exact listed_all (by omega))), (congrArg Value.bool (by (rw [show listedL gs = listedL (gs.take k1) from (listed_all (by omega)).symm]; first | (unfold fitB; rw [decide_eq_false (by omega)]; rfl) | (rw [fitB_false (by omega) (by assumption)]; unfold Cmp.b; exact decide_eq_decide.2 (by omega)) | (unfold fitB; rw [decide_eq_true (by omega), decide_eq_true (by omega)]; rfl))))⟩

theorem c_finished {G : GH} {w : World} (hG : G.In w) (l : List Fact) (vl : Value) (hvl : Sl FactE 40 G vl l) (hgood : Good l) (h20 : l.length ≤ 1000000) : CL Tryz.prog (nat_lit 61) #[vl] [] w G fun G' _ r => ∃ r0 r1, r = .tuple #[r0, r1] ∧ Sl FactE 40 G' r0 (finL l) ∧ r1 = .int .i64 (finE l) := by
  refine calls_of_go ft [] Tryz.func61 rfl rfl ?_
  have hS := St.start (X := []) hG
  refine WL.cR hb79 rfl rfl rfl (c_grouped hS.imm l _ hvl hgood h20) (fun w1 G1 r1 hres1 hpost1 => ?_)
  have hS1 := hS.call hres1
  have hle1 := hres1.le
  obtain ⟨o1, hr1, hf1⟩ := hpost1
  have hS2 := hS.adoptO hres1 hf1
  obtain ⟨G2, hle2, hs1, hS3⟩ := Row.freeze hr1 hS2 0 rfl
  refine WL.cA hS3 hb83 rfl rfl rfl (c_listed hS3.imm (grp l) _ hs1 (Nat.le_trans (nf_len l) h20)) ?_
  rintro w2 G3 _ ⟨r3, _, rfl, hs2, rfl⟩ hS4 hle3
  refine splitB (fun (h1 : (fitB (listedL (grp l))) = true) => ?_) (fun (h1 : (fitB (listedL (grp l))) = false) => ?_)
  · refine set1 (d := 9) (congrArg (fun b9 => Value.tuple #[r3, .bool b9]) h1) ?_
    exact RT hS4 rfl ⟨_, _, rfl, (Sl.cast hs2 (by (unfold finL nf; simp_all; done))), (congrArg (Value.int .i64) (by (unfold finE nf; simp_all; done)))⟩
  refine set1 (d := 9) (congrArg (fun b9 => Value.tuple #[r3, .bool b9]) h1) ?_
  exact RT hS4 rfl ⟨_, _, rfl, (Sl.cast (Sl.nil FactE 40 G3) (by (unfold finL nf; simp_all; done))), (congrArg (Value.int .i64) (by (unfold finE nf; simp_all; done)))⟩

theorem c_Normal {G : GH} {w : World} (hG : G.In w) (l : List Fact) (vl : Value) (hvl : Sl FactE 40 G vl l)  : CL Tryz.prog (nat_lit 32) #[vl] [] w G fun G' _ r => ∃ r0 r1, r = .tuple #[r0, r1] ∧ Sl FactE 40 G' r0 (normL l) ∧ r1 = .int .i64 (normE l) := by
  refine calls_of_go ft [] Tryz.func32 rfl rfl ?_
  have hS := St.start (X := []) hG
  refine WL.cV hS hb57 rfl rfl rfl (c_valid hS.imm l _ hvl ) (fun w1 G1 hS1 hle1 => ?_)
  refine WL.split (fun (h1 : (validB l) = true) => ?_) (fun (h1 : (validB l) = false) => ?_)
  · refine WL.cA hS1 hb61 rfl rfl rfl (c_finished hS1.imm l _ (hvl.mono hle1) (good_of_valid (by simpa using (by assumption))) (Nat.le_trans (valid_le (by simpa using (by assumption))) (by decide))) ?_
    rintro w2 G2 _ ⟨r2, _, rfl, hs1, rfl⟩ hS2 hle2
    exact RT hS2 rfl ⟨_, _, rfl, (Sl.cast hs1 (by (unfold normL; simp_all; done))), (congrArg (Value.int .i64) (by (unfold normE; simp_all; done)))⟩
  exact RT hS1 rfl ⟨_, _, rfl, (Sl.cast (Sl.nil FactE 40 G1) (by (unfold normL; simp_all; done))), (congrArg (Value.int .i64) (by (unfold normE; simp_all; done)))⟩

theorem c_At {G : GH} {w : World} (hG : G.In w) (l : List Fact) (t : Int) (vl : Value) (hvl : Sl FactE 40 G vl l)  : CL Tryz.prog (nat_lit 36) #[vl, .int .i64 t] [] w G fun G' _ r => Sl (ValE.slice 32) 24 G' r (atL l t) := by
  refine calls_of_go ft [] Tryz.func36 rfl rfl ?_
  have hS := St.start (X := []) hG
  refine WL.cA hS hb32 rfl rfl rfl (c_Normal hS.imm l _ hvl ) ?_
  rintro w1 G1 _ ⟨r2, _, rfl, hs1, rfl⟩ hS1 hle1
  have bd1 := hs1.bound
  refine WL.lenSl hs1 ul22 rfl rfl ?_
  have hS3 := hS1.pad
  refine LP.go ft [] (fun m ρ1 w1 => ∃ (k1 : Nat), ∃ (v1 : Value) (o1 : OB), ∃ (G2 : GH), m = (normL l).length - k1 ∧ G1.le G2 ∧ St w [] G G2 [o1] w1 ∧ Row (ValE.slice 32) 24 61 G2 v1 (atN ((normL l).take k1) t) o1 ∧ FR ρ1 [(1, .int .i64 t), (7, v1), (15, r2), (16, .int .i64 (((normL l).length : Nat) : Int)), (17, .int .i64 (k1 : Int))] ∧ k1 ≤ (normL l).length) _ ⟨0, (.slice none 0 0), none, G1, rfl, (G1.le_refl), hS3, (Row.nil (ValE.slice 32) 24 61 G1), ⟨rfl, rfl, rfl, rfl, rfl, trivial⟩, (by omega)⟩ ?_
  rintro m ρ1 w2 ⟨k1, v1, o1, G2, rfl, hle2, hS2, hr1, hF9, f1⟩
  refine hF9.set ?_
  clear hF9
  have lenA := atN_len (normL l) k1 t
  have lenB := normL_le l
  refine WL.lssS (k1 : Int) (((normL l).length : Nat) : Int) rfl rfl rfl (fun h1 => ?_) (fun h1 => ?_)
  · refine WL.indexAddr (hs1.mono hle2) k1 (by omega) ul22 ti63 rfl rfl rfl rfl (fun p1 x1 hx1 he1 => ?_)
    obtain ⟨cs1, hc1, hr2⟩ := he1
    obtain ⟨v2, rfl, hs2, hb1, hb2⟩ := FactE_open hr2
    refine WL.loadGAt hS2 hc1 [v2, .int .i64 x1.t.a, .int .i64 x1.t.b] ti63 rfl rfl rfl rfl rfl ?_
    refine WL.alloc hS2 ti63 rfl rfl (fun b1 w3 hn1 hS4 => ?_)
    refine WL.store hS4 0 _ _ _ 0 _ [v2, .int .i64 x1.t.a, .int .i64 x1.t.b] [v2, .int .i64 x1.t.a, .int .i64 x1.t.b] _ rfl rfl ti63 rfl (Nat.le_of_ble_eq_true rfl) (by simp only [List.all_cons, List.all_nil, hs2.oneC, Bool.true_and] <;> rfl) rfl rfl rfl rfl rfl (fun w4 hS5 => ?_)
    obtain ⟨G3, hle3, hc2, hS6⟩ := hS5.shutB hn1
    refine WL.loadGAt hS6 (Cells.drop 1 hc2) [.int .i64 x1.t.a, .int .i64 x1.t.b] ti46 rfl rfl rfl rfl rfl ?_
    refine WL.cV hS6 hb96 rfl rfl rfl (c_Has hS6.imm x1.t t _ (SpanE_mk x1.t hb1 hb2) ) (fun w5 G4 hS7 hle4 => ?_)
    refine WL.split (fun (h2 : (spanHas x1.t t) = true) => ?_) (fun (h2 : (spanHas x1.t t) = false) => ?_)
    · refine WL.loadG1 hS7 (Cells.drop 0 (hc2.mono hle4)) ti61 rfl rfl rfl ?_
      refine WL.buildSlice _ [(0, [v2])] [v2] hS7 sl67 rfl rfl rfl (by show [(0, (v2 : Value).cells.toList)] = _; simp only [(hs2.mono (hle3.trans hle4)).cells1] <;> rfl) (fun z hz => by match z, hz with | [z0], _ => rfl) (fun b2 w6 hn2 hS8 => ?_)
      refine WL.push (m := ([x1.v] : List (List Val))) sl67 rfl rfl rfl (hr1.mono (hle3.trans hle4)) hS8 1 rfl 0 _ _ _ _ _ rfl ⟨[v2], _, rfl, ⟨_, rfl, (hs2.mono (hle3.trans hle4))⟩, rfl⟩ rfl (by have hreach : reach = 140737488355328 := rfl; simp only [List.length_cons, List.length_nil]; omega) (by have hreach : reach = 140737488355328 := rfl; simp only [List.length_cons, List.length_nil]; omega) rfl rfl rfl (fun v3 o2 w7 hr3 hS9 => ?_)
      have hS10 := hS9.tail
      refine WL.incr k1 (by have hreach : reach = 140737488355328 := rfl; omega) rfl rfl rfl ?_
      exact BK.mk' _ ⟨k1 + 1, v3, o2, G4, rfl, (hle2.trans (hle3.trans hle4)), hS10, (Row.cast hr3 (by (rw [atN_take (by assumption)]; simp_all))), ⟨rfl, rfl, rfl, rfl, rfl, trivial⟩, (by omega)⟩ (show (normL l).length - (k1 + 1) < (normL l).length - k1 by omega)
    refine WL.incr k1 (by have hreach : reach = 140737488355328 := rfl; omega) rfl rfl rfl ?_
    exact BK.mk' _ ⟨k1 + 1, v1, o1, G4, rfl, (hle2.trans (hle3.trans hle4)), hS7, (Row.cast (hr1.mono (hle3.trans hle4)) (by (rw [atN_take (by assumption)]; simp_all))), ⟨rfl, rfl, rfl, rfl, rfl, trivial⟩, (by omega)⟩ (show (normL l).length - (k1 + 1) < (normL l).length - k1 by omega)
  obtain ⟨G5, hle5, hs3, hS11⟩ := Row.freeze hr1 hS2 0 rfl
  exact RT hS11 rfl (Sl.cast hs3 (by exact atN_all (by omega)))
end Go.Civ
