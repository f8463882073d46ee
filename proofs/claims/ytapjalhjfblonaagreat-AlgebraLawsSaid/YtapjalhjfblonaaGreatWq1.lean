/- Walks, printed by specs38.py. -/
import Derived.Test.YtapjalhjfblonaaGreatProg
import Derived.KernelRfl
import Derived.WalkKit
import Derived.Test.YtapjalhjfblonaaGreatWq0
import Derived.Test.YtapjalhjfblonaaGreatWi
import Derived.Test.YtapjalhjfblonaaGreatCiv28
set_option linter.unusedVariables false
set_option linter.unusedSimpArgs false
set_option maxRecDepth 100000
set_option maxHeartbeats 4000000
namespace Go.Civ
open Go.Proofs


theorem c_pair (G : GH) (w : World) (hG : G.In w) (a b : List Fact) (va : Value) (hva : Sl FactE 40 G va a) (vb : Value) (hvb : Sl FactE 40 G vb b)  : Calls Tryz.prog (nat_lit 73) #[va, vb] w fun e w' => ∃ r G', e = .returned r ∧ Res [] w G w' G' ∧ r = .int .i64 (pairE a b) := by
  refine calls_of_WC (N := 35) Tryz.func73 rfl rfl rfl ?_
  have hS := St.start (X := []) hG
  refine WC.seq <| WC.region rfl <| WL.assign rfl <| WL.nil <| WC.seq <| WC.block <| WC.seq <| WC.region rfl <| WL.move rfl ?_
  refine WL.callF [va] #[] hb57 rfl rfl rfl ((c_valid _ _ hS.imm a _ hva ).mono ?_)
  rintro e w1 ⟨r1, G1, rfl, hres1, hpost1⟩
  refine ⟨_, rfl, ?_⟩
  have hS1 := hS.call hres1
  have hle1 := hres1.le
  subst hpost1
  refine WL.split (fun (h1 : (validB a) = true) => ?_) (fun (h1 : (validB a) = false) => ?_)
  · refine WL.not true rfl rfl ?_
    refine WL.move rfl <| WL.move rfl ?_
    refine WL.callF [vb] #[] hb57 rfl rfl rfl ((c_valid _ _ hS1.imm b _ (hvb.mono hle1) ).mono ?_)
    rintro e w2 ⟨r2, G2, rfl, hres2, hpost2⟩
    refine ⟨_, rfl, ?_⟩
    have hS2 := hS1.call hres2
    have hle2 := hres2.le
    subst hpost2
    refine WL.split (fun (h2 : (validB b) = true) => ?_) (fun (h2 : (validB b) = false) => ?_)
    · refine WL.not true rfl rfl ?_
      refine WL.pickF rfl rfl <| WL.assign rfl <| WL.nil <| WC.condF rfl <| WC.seq ?_
      have bd1 := hva.bound
      rcases Cmp.dec .gtr (a.length : Int) 0 with ⟨hb1, q1⟩ | ⟨hb1, q1⟩
      · have h3 : 0 < (a.length : Int) := q1
        clear q1
        have bd2 := hvb.bound
        rcases Cmp.dec .gtr (b.length : Int) 0 with ⟨hb2, q2⟩ | ⟨hb2, q2⟩
        · have h4 : 0 < (b.length : Int) := q2
          clear q2
          obtain ⟨p1, x1, hx1, he1, ep1⟩ := Sl.at (hva.mono (hle1.trans hle2)) 0 (by omega)
          obtain ⟨cs1, hc1, hr1⟩ := he1
          obtain ⟨v1, rfl, hs1, hb3, hb4⟩ := FactE_open hr1
          obtain ⟨p2, x2, hx2, he2, ep2⟩ := Sl.at (hvb.mono (hle1.trans hle2)) 0 (by omega)
          obtain ⟨cs2, hc2, hr2⟩ := he2
          obtain ⟨v2, rfl, hs2, hb5, hb6⟩ := FactE_open hr2
          rcases Bool.eq_false_or_eq_true (kindsB x1.v x2.v) with h5 | h5
          · refine dr ⟨[0, 1, 3, 7, 15, 31, 63, 127, 255, 511, 1023, 2047, 4095, 511, 8703, 25087, 57855, 131071, 262143, 524287, 1048575], [0, 1, 2, 3, 4, 5, 6, 7, 8, 9, 10, 11, 13, 14, 15, 18, 19], [12, 16], [17], [20]⟩ [(15, va), (16, .int .i64 (a.length : Int)), (17, .bool true), (18, .bool true), (19, vb), (20, .int .i64 (b.length : Int)), (21, .bool true), (22, .bool true), (23, .bool true), (24, va), (25, .pointer (some p1)), (26, .pointer (some (p1.add 0))), (28, vb), (29, .pointer (some p2)), (30, .pointer (some (p2.add 0))), (33, .bool false), (34, .bool false), (27, v1), (31, v2), (32, .bool true)] [] hS2 ?_ ?_ ?_ (fun w8 hS3 => ?_)
            · exact ⟨fun _ _ => WL.move rfl <| WL.nu rfl, fun _ _ => WL.lenSl (hva.mono (hle1.trans hle2)) ul22 rfl rfl <| WL.nu rfl, fun _ _ => WL.cmpV .gtr rfl .i64 (a.length : Int) 0 _ hb1 rfl rfl rfl <| WL.nu rfl, fun _ _ => WL.move rfl <| WL.nu rfl, fun _ _ => WL.move rfl <| WL.nu rfl, fun _ _ => WL.lenSl (hvb.mono (hle1.trans hle2)) ul22 rfl rfl <| WL.nu rfl, fun _ _ => WL.cmpV .gtr rfl .i64 (b.length : Int) 0 _ hb2 rfl rfl rfl <| WL.nu rfl, fun _ _ => WL.pickT rfl rfl <| WL.nu rfl, fun _ _ => WL.move rfl <| WL.nu rfl, fun _ _ => WL.move rfl <| WL.nu rfl, fun _ _ => WL.indexAddrP 0 ep1 ul22 ti63 rfl rfl rfl rfl <| WL.nu rfl, fun _ _ => WL.fieldAddr _ 0 _ fl63 rfl rfl rfl <| WL.nu rfl, fun _ _ => WL.move rfl <| WL.nu rfl, fun _ _ => WL.indexAddrP 0 ep2 ul22 ti63 rfl rfl rfl rfl <| WL.nu rfl, fun _ _ => WL.fieldAddr _ 0 _ fl63 rfl rfl rfl <| WL.nu rfl, fun _ _ => WL.not true rfl rfl <| WL.nu rfl, fun _ _ => WL.pickT rfl rfl <| WL.nu rfl, trivial⟩
            · exact ⟨fun _ hSw => WL.loadG1 hSw (Cells.drop 0 hc1) ti61 rfl rfl rfl <| WL.nu rfl, fun _ hSw => WL.loadG1 hSw (Cells.drop 0 hc2) ti61 rfl rfl rfl <| WL.nu rfl, trivial⟩
            · exact ⟨fun _ hSw => WL.callD [v1, v2] #[] hb116 rfl rfl rfl hSw (c_kinds _ _ hSw.imm x1.v x2.v _ hs1 _ hs2 ) (congrArg Value.bool h5.symm), trivial⟩
            refine TL.step rfl ?_
            refine WL.assign rfl ?_
            refine WL.nil ⟨fun h => absurd h (by decide), ?_⟩
            refine WC.condF rfl <| WC.skip <| WC.seq <| WC.region rfl <| WL.assign rfl <| WL.nil ?_
            refine WC.ret ?_
            exact ⟨.int .i64 0, rfl, .int .i64 0, _, rfl, hS3.res, (congrArg (Value.int .i64) (by exact (pairE_0 h1 h2 (by assumption) (by assumption) (by assumption)).symm))⟩
          refine dr ⟨[0, 1, 3, 7, 15, 31, 63, 127, 255, 511, 1023, 2047, 4095, 511, 8703, 25087, 57855, 131071, 262143, 524287, 1048575], [0, 1, 2, 3, 4, 5, 6, 7, 8, 9, 10, 11, 13, 14, 15, 18, 19], [12, 16], [17], [20]⟩ [(15, va), (16, .int .i64 (a.length : Int)), (17, .bool true), (18, .bool true), (19, vb), (20, .int .i64 (b.length : Int)), (21, .bool true), (22, .bool true), (23, .bool true), (24, va), (25, .pointer (some p1)), (26, .pointer (some (p1.add 0))), (28, vb), (29, .pointer (some p2)), (30, .pointer (some (p2.add 0))), (33, .bool true), (34, .bool true), (27, v1), (31, v2), (32, .bool false)] [] hS2 ?_ ?_ ?_ (fun w8 hS4 => ?_)
          · exact ⟨fun _ _ => WL.move rfl <| WL.nu rfl, fun _ _ => WL.lenSl (hva.mono (hle1.trans hle2)) ul22 rfl rfl <| WL.nu rfl, fun _ _ => WL.cmpV .gtr rfl .i64 (a.length : Int) 0 _ hb1 rfl rfl rfl <| WL.nu rfl, fun _ _ => WL.move rfl <| WL.nu rfl, fun _ _ => WL.move rfl <| WL.nu rfl, fun _ _ => WL.lenSl (hvb.mono (hle1.trans hle2)) ul22 rfl rfl <| WL.nu rfl, fun _ _ => WL.cmpV .gtr rfl .i64 (b.length : Int) 0 _ hb2 rfl rfl rfl <| WL.nu rfl, fun _ _ => WL.pickT rfl rfl <| WL.nu rfl, fun _ _ => WL.move rfl <| WL.nu rfl, fun _ _ => WL.move rfl <| WL.nu rfl, fun _ _ => WL.indexAddrP 0 ep1 ul22 ti63 rfl rfl rfl rfl <| WL.nu rfl, fun _ _ => WL.fieldAddr _ 0 _ fl63 rfl rfl rfl <| WL.nu rfl, fun _ _ => WL.move rfl <| WL.nu rfl, fun _ _ => WL.indexAddrP 0 ep2 ul22 ti63 rfl rfl rfl rfl <| WL.nu rfl, fun _ _ => WL.fieldAddr _ 0 _ fl63 rfl rfl rfl <| WL.nu rfl, fun _ _ => WL.not false rfl rfl <| WL.nu rfl, fun _ _ => WL.pickT rfl rfl <| WL.nu rfl, trivial⟩
          · exact ⟨fun _ hSw => WL.loadG1 hSw (Cells.drop 0 hc1) ti61 rfl rfl rfl <| WL.nu rfl, fun _ hSw => WL.loadG1 hSw (Cells.drop 0 hc2) ti61 rfl rfl rfl <| WL.nu rfl, trivial⟩
          · exact ⟨fun _ hSw => WL.callD [v1, v2] #[] hb116 rfl rfl rfl hSw (c_kinds _ _ hSw.imm x1.v x2.v _ hs1 _ hs2 ) (congrArg Value.bool h5.symm), trivial⟩
          refine TL.step rfl ?_
          refine WL.assign rfl ?_
          refine WL.nil ⟨fun h => absurd h (by decide), ?_⟩
          refine WC.condT rfl <| WC.seq <| WC.region rfl <| WL.assign rfl <| WL.nil ?_
          refine WC.ret ?_
          exact ⟨.int .i64 13, rfl, .int .i64 13, _, rfl, hS4.res, (congrArg (Value.int .i64) (by exact (pairE_13 h1 h2 (by assumption) (by assumption) (by assumption)).symm))⟩
        have h4 : (b.length : Int) ≤ 0 := q2
        clear q2
        refine dr ⟨[0, 1, 3, 7, 15, 31, 63, 127, 255, 511, 1023, 2047, 4095, 511, 8703, 25087, 57855, 131071, 262143, 524287, 1048575], [0, 1, 2, 3, 4, 5, 6, 7, 8, 9, 10, 11, 13, 14, 15, 18, 19], [12, 16], [17], [20]⟩ [(15, va), (16, .int .i64 (a.length : Int)), (17, .bool true), (18, .bool true), (19, vb), (20, .int .i64 (b.length : Int)), (21, .bool false), (22, .bool false), (23, .bool false), (24, undef), (25, undef), (26, undef), (28, undef), (29, undef), (30, undef), (33, undef), (34, .bool false), (27, undef), (31, undef), (32, undef)] [] hS2 ?_ ?_ ?_ (fun w8 hS5 => ?_)
        · exact ⟨fun _ _ => WL.move rfl <| WL.nu rfl, fun _ _ => WL.lenSl (hva.mono (hle1.trans hle2)) ul22 rfl rfl <| WL.nu rfl, fun _ _ => WL.cmpV .gtr rfl .i64 (a.length : Int) 0 _ hb1 rfl rfl rfl <| WL.nu rfl, fun _ _ => WL.move rfl <| WL.nu rfl, fun _ _ => WL.move rfl <| WL.nu rfl, fun _ _ => WL.lenSl (hvb.mono (hle1.trans hle2)) ul22 rfl rfl <| WL.nu rfl, fun _ _ => WL.cmpV .gtr rfl .i64 (b.length : Int) 0 _ hb2 rfl rfl rfl <| WL.nu rfl, fun _ _ => WL.pickT rfl rfl <| WL.nu rfl, fun _ _ => WL.move rfl <| WL.nu rfl, fun _ _ => WL.no rfl rfl <| WL.nu rfl, fun _ _ => WL.no rfl rfl <| WL.nu rfl, fun _ _ => WL.no rfl rfl <| WL.nu rfl, fun _ _ => WL.no rfl rfl <| WL.nu rfl, fun _ _ => WL.no rfl rfl <| WL.nu rfl, fun _ _ => WL.no rfl rfl <| WL.nu rfl, fun _ _ => WL.no rfl rfl <| WL.nu rfl, fun _ _ => WL.pickF rfl rfl <| WL.nu rfl, trivial⟩
        · exact ⟨fun _ _ => WL.no rfl rfl <| WL.nu rfl, fun _ _ => WL.no rfl rfl <| WL.nu rfl, trivial⟩
        · exact ⟨fun _ hSw => WL.no rfl rfl <| WL.nuS hSw rfl, trivial⟩
        refine TL.step rfl ?_
        refine WL.assign rfl ?_
        refine WL.nil ⟨fun h => absurd h (by decide), ?_⟩
        refine WC.condF rfl <| WC.skip <| WC.seq <| WC.region rfl <| WL.assign rfl <| WL.nil ?_
        refine WC.ret ?_
        exact ⟨.int .i64 0, rfl, .int .i64 0, _, rfl, hS5.res, (congrArg (Value.int .i64) (by exact (pairE_0' h1 h2 (by omega)).symm))⟩
      have h3 : (a.length : Int) ≤ 0 := q1
      clear q1
      refine dr ⟨[0, 1, 3, 7, 15, 31, 63, 127, 255, 511, 1023, 2047, 4095, 511, 8703, 25087, 57855, 131071, 262143, 524287, 1048575], [0, 1, 2, 3, 4, 5, 6, 7, 8, 9, 10, 11, 13, 14, 15, 18, 19], [12, 16], [17], [20]⟩ [(15, va), (16, .int .i64 (a.length : Int)), (17, .bool false), (18, .bool false), (19, undef), (20, undef), (21, undef), (22, .bool false), (23, .bool false), (24, undef), (25, undef), (26, undef), (28, undef), (29, undef), (30, undef), (33, undef), (34, .bool false), (27, undef), (31, undef), (32, undef)] [] hS2 ?_ ?_ ?_ (fun w8 hS6 => ?_)
      · exact ⟨fun _ _ => WL.move rfl <| WL.nu rfl, fun _ _ => WL.lenSl (hva.mono (hle1.trans hle2)) ul22 rfl rfl <| WL.nu rfl, fun _ _ => WL.cmpV .gtr rfl .i64 (a.length : Int) 0 _ hb1 rfl rfl rfl <| WL.nu rfl, fun _ _ => WL.move rfl <| WL.nu rfl, fun _ _ => WL.no rfl rfl <| WL.nu rfl, fun _ _ => WL.no rfl rfl <| WL.nu rfl, fun _ _ => WL.no rfl rfl <| WL.nu rfl, fun _ _ => WL.pickF rfl rfl <| WL.nu rfl, fun _ _ => WL.move rfl <| WL.nu rfl, fun _ _ => WL.no rfl rfl <| WL.nu rfl, fun _ _ => WL.no rfl rfl <| WL.nu rfl, fun _ _ => WL.no rfl rfl <| WL.nu rfl, fun _ _ => WL.no rfl rfl <| WL.nu rfl, fun _ _ => WL.no rfl rfl <| WL.nu rfl, fun _ _ => WL.no rfl rfl <| WL.nu rfl, fun _ _ => WL.no rfl rfl <| WL.nu rfl, fun _ _ => WL.pickF rfl rfl <| WL.nu rfl, trivial⟩
      · exact ⟨fun _ _ => WL.no rfl rfl <| WL.nu rfl, fun _ _ => WL.no rfl rfl <| WL.nu rfl, trivial⟩
      · exact ⟨fun _ hSw => WL.no rfl rfl <| WL.nuS hSw rfl, trivial⟩
      refine TL.step rfl ?_
      refine WL.assign rfl ?_
      refine WL.nil ⟨fun h => absurd h (by decide), ?_⟩
      refine WC.condF rfl <| WC.skip <| WC.seq <| WC.region rfl <| WL.assign rfl <| WL.nil ?_
      refine WC.ret ?_
      exact ⟨.int .i64 0, rfl, .int .i64 0, _, rfl, hS6.res, (congrArg (Value.int .i64) (by exact (pairE_0' h1 h2 (by omega)).symm))⟩
    refine WL.not false rfl rfl ?_
    refine WL.pickF rfl rfl <| WL.assign rfl <| WL.nil <| WC.condT rfl <| WC.seq <| WC.region rfl <| WL.assign rfl <| WL.nil ?_
    refine WC.ret ?_
    exact ⟨.int .i64 1, rfl, .int .i64 1, _, rfl, hS2.res, (congrArg (Value.int .i64) (by exact (pairE_1 (.inr (by assumption))).symm))⟩
  refine WL.not false rfl rfl ?_
  refine WL.move rfl <| WL.no rfl rfl <| WL.no rfl rfl <| WL.no rfl rfl <| WL.pickT rfl rfl <| WL.assign rfl <| WL.nil <| WC.condT rfl <| WC.seq <| WC.region rfl <| WL.assign rfl <| WL.nil ?_
  refine WC.ret ?_
  exact ⟨.int .i64 1, rfl, .int .i64 1, _, rfl, hS1.res, (congrArg (Value.int .i64) (by exact (pairE_1 (.inl (by assumption))).symm))⟩

theorem c_Except (G : GH) (w : World) (hG : G.In w) (a b : List Fact) (va : Value) (hva : Sl FactE 40 G va a) (vb : Value) (hvb : Sl FactE 40 G vb b)  : Calls Tryz.prog (nat_lit 23) #[va, vb] w fun e w' => ∃ r G', e = .returned r ∧ Res [] w G w' G' ∧ ∃ r0 r1, r = .tuple #[r0, r1] ∧ Sl FactE 40 G' r0 (excL a b) ∧ r1 = .int .i64 (excE a b) := by
  refine calls_of_WC (N := 64) Tryz.func23 rfl rfl rfl ?_
  have hS := St.start (X := []) hG
  refine WC.seq <| WC.region rfl <| WL.assign rfl <| WL.assign rfl <| WL.nil <| WC.seq <| WC.seq <| WC.region rfl <| WL.move rfl <| WL.move rfl ?_
  refine WL.callF [va, vb] #[] hb73 rfl rfl rfl ((c_pair _ _ hS.imm a b _ hva _ hvb ).mono ?_)
  rintro e w1 ⟨r1, G1, rfl, hres1, hpost1⟩
  refine ⟨_, rfl, ?_⟩
  have hS1 := hS.call hres1
  have hle1 := hres1.le
  subst hpost1
  refine WL.assign rfl <| WL.nil <| WC.seq <| WC.region rfl <| WL.move rfl ?_
  refine WL.neqS (pairE a b) 0 rfl rfl rfl (fun h1 => ?_) (fun h1 => ?_)
  · refine WL.nil <| WC.condT rfl <| WC.seq <| WC.region rfl <| WL.move rfl <| WL.assign rfl <| WL.assign rfl <| WL.nil ?_
    refine WC.ret ?_
    exact ⟨.tuple #[.slice none 0 0, .int .i64 (pairE a b)], rfl, .tuple #[.slice none 0 0, .int .i64 (pairE a b)], _, rfl, hS1.res, (.slice none 0 0), (.int .i64 (pairE a b)), rfl, (Sl.cast (Sl.nil FactE 40 G1) (by exact (exc_1 (by assumption)).1.symm)), (congrArg (Value.int .i64) (by exact (exc_1 (by assumption)).2.symm))⟩
  refine WL.nil <| WC.condF rfl <| WC.skip <| WC.seq ?_
  have hv9 := pairE_valid (by assumption : pairE a b = 0)
  have hgl9 := grp_len hv9.1
  have hgk9 := grp_len hv9.2
  have hal9 := valid_le hv9.1
  have hbl9 := valid_le hv9.2
  refine WC.region rfl <| WL.move rfl ?_
  refine WL.callF [vb] #[] hb79 rfl rfl rfl ((c_grouped _ _ hS1.imm b _ (hvb.mono hle1) (good_of_valid (by exact hv9.2)) (by omega)).mono ?_)
  rintro e w2 ⟨r2, G2, rfl, hres2, hpost2⟩
  refine ⟨_, rfl, ?_⟩
  have hS2 := hS1.call hres2
  have hle2 := hres2.le
  obtain ⟨o1, hr1, hf1⟩ := hpost2
  have hS3 := hS1.adoptO hres2 hf1
  refine WL.assign rfl <| WL.nil <| WC.seq <| WC.region rfl <| WL.move rfl ?_
  refine WL.callF [va] #[] hb79 rfl rfl rfl ((c_grouped _ _ hS3.imm a _ (hva.mono (hle1.trans hle2)) (good_of_valid (by exact hv9.1)) (by omega)).mono ?_)
  rintro e w3 ⟨r3, G3, rfl, hres3, hpost3⟩
  refine ⟨_, rfl, ?_⟩
  have hS4 := hS3.call hres3
  have hle3 := hres3.le
  obtain ⟨o2, hr2, hf2⟩ := hpost3
  have hS5 := hS3.adoptO hres3 hf2
  refine WL.assign rfl <| WL.nil <| WC.seq <| WC.seq ?_
  obtain ⟨G4, hle4, hs1, hS6⟩ := Row.freeze (hr1.mono hle3) hS5 1 rfl
  refine WC.region rfl <| WL.move rfl ?_
  have bd1 := hr2.bound
  refine WL.lenRow (hr2.mono hle4) ul114 rfl rfl ?_
  refine WL.move rfl <| WL.nil <| WC.block ?_
  refine WC.loop (γ := Nat) (fun m ρ1 w1 => ∃ (k1 : Nat), ∃ (o3 : OB), ∃ (G5 : GH), m = (grp a).length - k1 ∧ G4.le G5 ∧ St w [] G G5 [o3, none] w1 ∧ Row GroupE 48 117 G5 r3 (exN (grp b) (grp a) k1) o3 ∧ ρ1 7 = r2 ∧ ρ1 8 = r3 ∧ ρ1 25 = r3 ∧ ρ1 26 = .int .i64 (((grp a).length : Nat) : Int) ∧ ρ1 27 = .int .i64 (k1 : Int) ∧ k1 ≤ (grp a).length) (fun m => m) _ ⟨0, o2, G4, rfl, (G4.le_refl), hS6, (Row.cast (hr2.mono hle4) (by exact (exN_zero _ _).symm)), rfl, rfl, rfl, rfl, rfl, (by omega)⟩ ?_
  rintro m ρ1 w4 ⟨k1, o3, G5, rfl, hle5, hS7, hr3, e1, e2, e3, e4, e5, f1⟩
  refine WC.set (d := 7) e1 ?_
  refine WC.set (d := 8) e2 ?_
  refine WC.set (d := 25) e3 ?_
  refine WC.set (d := 26) e4 ?_
  refine WC.set (d := 27) e5 ?_
  have lenx := exN_len (grp b) (grp a) k1
  refine WC.seq <| WC.region rfl ?_
  refine WL.lssS (k1 : Int) (((grp a).length : Nat) : Int) rfl rfl rfl (fun h2 => ?_) (fun h2 => ?_)
  · refine WL.nil <| WC.seq <| WC.condT rfl <| WC.skip <| WC.seq <| WC.block <| WC.seq <| WC.region rfl <| WL.move rfl ?_
    refine WL.indexAddrRow hr3 k1 (by omega) ul114 ti117 rfl rfl rfl rfl (fun p1 x1 ec1 hx1 hr4 ra1 => ?_)
    obtain ⟨v1, v2, rfl, hs2, hs3⟩ := GroupE_open hr4
    refine WL.loadRA ra1 hS7 0 rfl ti117 rfl rfl rfl rfl ?_
    refine WL.alloc hS7 ti117 rfl rfl (fun b1 w5 hn1 hS8 => ?_)
    refine WL.assign rfl ?_
    refine WL.store hS8 0 _ _ _ 0 _ [v1, v2] [v1, v2] _ rfl rfl ti117 rfl (Nat.le_of_ble_eq_true rfl) (by simp only [List.all_cons, List.all_nil, hs2.oneC, hs3.oneC, Bool.true_and] <;> rfl) rfl rfl rfl rfl rfl (fun w6 hS9 => ?_)
    obtain ⟨G6, hle6, hc1, hS10⟩ := hS9.shutB hn1
    refine WL.nil <| WC.seq ?_
    have hg9 := grp_ok hv9.1 (exN_at hx1)
    refine WC.region rfl <| WL.move rfl ?_
    refine WL.fieldAddr _ 0 _ fl117 rfl rfl rfl ?_
    refine WL.loadG1 hS10 (Cells.drop 0 hc1) ti61 rfl rfl rfl ?_
    refine WL.callF [r2, v1, .func (.func 81) #[] #[]] #[] hb80 rfl rfl rfl ((c_BinG _ _ hS10.imm (grp b) x1.v _ (hs1.mono (hle5.trans hle6)) _ (hs2.mono hle6) (grp_mono (good_of_valid hv9.2) hg9.2.2.2) (by omega)).mono ?_)
    rintro e w7 ⟨r4, G7, rfl, hres4, hpost4⟩
    refine ⟨_, rfl, ?_⟩
    have hS11 := hS10.call hres4
    have hle7 := hres4.le
    obtain ⟨r5, r6, rfl, rfl, rfl⟩ := hpost4
    refine WL.move rfl ?_
    refine WL.extract _ _ rfl rfl rfl ?_
    refine WL.extract _ _ rfl rfl rfl ?_
    refine WL.assign rfl <| WL.assign rfl ?_
    refine WL.split (fun (h3 : (foundG (grp b) x1.v) = true) => ?_) (fun (h3 : (foundG (grp b) x1.v) = false) => ?_)
    · refine WL.nil <| WC.seq <| WC.region rfl <| WL.move rfl <| WL.nil <| WC.condT rfl ?_
      have hfl9 := found_lt (by assumption)
      obtain ⟨p2, x2, hx2, he1, ep1⟩ := Sl.at (hs1.mono ((hle5.trans hle6).trans hle7)) (posG (grp b) x1.v) (by omega)
      obtain ⟨cs1, hc2, hr5⟩ := he1
      obtain ⟨v3, v4, rfl, hs4, hs5⟩ := GroupE_open hr5
      obtain ⟨p3, x3, ec2, hx3, hr6, ra2, ep2⟩ := Row.atP (hr3.mono (hle6.trans hle7)) k1 (by omega)
      obtain rfl : x1 = x3 := Option.some.inj (hx1.symm.trans hx3)
      obtain ⟨v5, v6, rfl, hs6, hs7⟩ := GroupE_open hr6
      refine drT ⟨[0, 0, 0, 4, 0, 0, 48, 112, 240, 508, 1020, 2044, 2044, 4095, 12287, 28671], [0, 1, 2, 4, 5, 6, 7, 13, 14], [3, 8], [], [9, 10, 11, 12, 15]⟩ [(41, r3), (42, .int .i64 (k1 : Int)), (43, .pointer (some ((⟨b1, 0, none⟩ : Addr).add 1))), (45, r2), (46, .int .i64 (((posG (grp b) x1.v) : Nat) : Int)), (47, .pointer (some p2)), (48, .pointer (some (p2.add 1))), (53, .pointer (some p3)), (54, .pointer (some (p3.add 1))), (44, v2), (49, v4)] [o3, none] hS11 ?_ ?_ trivial (fun w8 hS12 => ?_)
      · exact ⟨fun _ _ => WL.move rfl <| WL.nu rfl, fun _ _ => WL.move rfl <| WL.nu rfl, fun _ _ => WL.fieldAddr _ 1 _ fl117 rfl rfl rfl <| WL.nu rfl, fun _ _ => WL.move rfl <| WL.nu rfl, fun _ _ => WL.move rfl <| WL.nu rfl, fun _ _ => WL.indexAddrP (posG (grp b) x1.v) ep1 ul114 ti117 rfl rfl rfl rfl <| WL.nu rfl, fun _ _ => WL.fieldAddr _ 1 _ fl117 rfl rfl rfl <| WL.nu rfl, fun _ _ => WL.indexAddrP k1 ep2 ul114 ti117 rfl rfl rfl rfl <| WL.nu rfl, fun _ _ => WL.fieldAddr _ 1 _ fl117 rfl rfl rfl <| WL.nu rfl, trivial⟩
      · exact ⟨fun _ hSw => WL.loadG1 hSw (Cells.drop 1 (hc1.mono hle7)) ti111 rfl rfl rfl <| WL.nu rfl, fun _ hSw => WL.loadG1 hSw (Cells.drop 1 hc2) ti111 rfl rfl rfl <| WL.nu rfl, trivial⟩
      refine TG.fork 4 [9, 10, 11, 12, 15] [9] rfl rfl (by decide) (by decide) (TA.cons rfl ?_ TA.nil)
      refine WL.callF [v2, v4] #[] hb82 rfl rfl rfl ((c_Minus _ _ hS12.imm x1.t x2.t _ (hs3.mono (hle6.trans hle7)) _ hs5 hg9.1 (grp_ok hv9.2 (by assumption)).1 hg9.2.1 (grp_ok hv9.2 (by assumption)).2.1 hg9.2.2.1 (grp_ok hv9.2 (by assumption)).2.2.1).mono ?_)
      rintro e w9 ⟨r7, G8, rfl, hres5, hpost5⟩
      refine ⟨_, rfl, ?_⟩
      have hS13 := hS12.call hres5
      have hle8 := hres5.le
      obtain ⟨r8, r9, rfl, hs8, rfl⟩ := hpost5
      refine WL.nil ⟨fun h => absurd h (by decide), ?_⟩
      refine TG.fork 3 [10, 11, 12, 15] [10] rfl rfl (by decide) (by decide) (TA.cons rfl ?_ TA.nil)
      refine WL.move rfl ?_
      refine WL.nil ⟨fun h => absurd h (by decide), ?_⟩
      refine TG.fork 2 [11, 12, 15] [11, 12] rfl rfl (by decide) (by decide) (TA.cons rfl ?_ (TA.cons rfl ?_ TA.nil))
      · refine WL.extract _ _ rfl rfl rfl ?_
        refine WL.nil ⟨fun h => absurd h (by decide), ?_⟩
        refine TG.fork 1 [12, 15] [12, 15] rfl rfl (by decide) (by decide) (TA.cons rfl ?_ (TA.cons rfl ?_ TA.nil))
        · refine WL.extract _ _ rfl rfl rfl ?_
          refine WL.nil ⟨fun h => absurd h (by decide), ?_⟩
          refine TG.fork 0 [15] [15] rfl rfl (by decide) (by decide) (TA.cons rfl ?_ TA.nil)
          refine WL.storeR (hr3.mono ((hle6.trans hle7).trans hle8)) ra2 hS13 0 rfl (by omega) rfl 1 _ [r8] (Group.mk x1.v (combR 3 x1.t x2.t)) [v5, r8] hs8.cells1 ti111 rfl (Nat.le_of_ble_eq_true rfl) (by simp only [List.all_cons, List.all_nil, hs8.oneC, Bool.true_and] <;> rfl) rfl (GroupE_mk (Group.mk x1.v (combR 3 x1.t x2.t)) (hs6.mono hle8) hs8) rfl rfl rfl (fun o4 w10 hr7 hS14 => ?_)
          refine WL.nil ⟨fun h => absurd h (by decide), ?_⟩
          refine TG.fin rfl ?_
          refine WC.region rfl ?_
          refine WL.incr k1 (by have hreach : reach = 140737488355328 := rfl; omega) rfl rfl rfl ?_
          refine WL.move rfl <| WL.nil ?_
          exact ⟨_, ⟨k1 + 1, o4, G8, rfl, (hle5.trans ((hle6.trans hle7).trans hle8)), hS14, (Row.cast hr7 (by (exact exN_step (by assumption) (exStep_yes (by assumption) (by assumption)).symm))), rfl, rfl, rfl, rfl, rfl, (by omega)⟩, (show (grp a).length - (k1 + 1) < (grp a).length - k1 by omega)⟩
        refine WL.storeR (hr3.mono ((hle6.trans hle7).trans hle8)) ra2 hS13 0 rfl (by omega) rfl 1 _ [r8] (Group.mk x1.v (combR 3 x1.t x2.t)) [v5, r8] hs8.cells1 ti111 rfl (Nat.le_of_ble_eq_true rfl) (by simp only [List.all_cons, List.all_nil, hs8.oneC, Bool.true_and] <;> rfl) rfl (GroupE_mk (Group.mk x1.v (combR 3 x1.t x2.t)) (hs6.mono hle8) hs8) rfl rfl rfl (fun o5 w11 hr8 hS15 => ?_)
        refine WL.nil ⟨fun h => absurd h (by decide), ?_⟩
        refine TG.fork 0 [12] [12] rfl rfl (by decide) (by decide) (TA.cons rfl ?_ TA.nil)
        refine WL.extract _ _ rfl rfl rfl ?_
        refine WL.nil ⟨fun h => absurd h (by decide), ?_⟩
        refine TG.fin rfl ?_
        refine WC.region rfl ?_
        refine WL.incr k1 (by have hreach : reach = 140737488355328 := rfl; omega) rfl rfl rfl ?_
        refine WL.move rfl <| WL.nil ?_
        exact ⟨_, ⟨k1 + 1, o5, G8, rfl, (hle5.trans ((hle6.trans hle7).trans hle8)), hS15, (Row.cast hr8 (by (exact exN_step (by assumption) (exStep_yes (by assumption) (by assumption)).symm))), rfl, rfl, rfl, rfl, rfl, (by omega)⟩, (show (grp a).length - (k1 + 1) < (grp a).length - k1 by omega)⟩
      refine WL.extract _ _ rfl rfl rfl ?_
      refine WL.nil ⟨fun h => absurd h (by decide), ?_⟩
      refine TG.fork 1 [11, 15] [11] rfl rfl (by decide) (by decide) (TA.cons rfl ?_ TA.nil)
      refine WL.extract _ _ rfl rfl rfl ?_
      refine WL.nil ⟨fun h => absurd h (by decide), ?_⟩
      refine TG.fork 0 [15] [15] rfl rfl (by decide) (by decide) (TA.cons rfl ?_ TA.nil)
      refine WL.storeR (hr3.mono ((hle6.trans hle7).trans hle8)) ra2 hS13 0 rfl (by omega) rfl 1 _ [r8] (Group.mk x1.v (combR 3 x1.t x2.t)) [v5, r8] hs8.cells1 ti111 rfl (Nat.le_of_ble_eq_true rfl) (by simp only [List.all_cons, List.all_nil, hs8.oneC, Bool.true_and] <;> rfl) rfl (GroupE_mk (Group.mk x1.v (combR 3 x1.t x2.t)) (hs6.mono hle8) hs8) rfl rfl rfl (fun o6 w12 hr9 hS16 => ?_)
      refine WL.nil ⟨fun h => absurd h (by decide), ?_⟩
      refine TG.fin rfl ?_
      refine WC.region rfl ?_
      refine WL.incr k1 (by have hreach : reach = 140737488355328 := rfl; omega) rfl rfl rfl ?_
      refine WL.move rfl <| WL.nil ?_
      exact ⟨_, ⟨k1 + 1, o6, G8, rfl, (hle5.trans ((hle6.trans hle7).trans hle8)), hS16, (Row.cast hr9 (by (exact exN_step (by assumption) (exStep_yes (by assumption) (by assumption)).symm))), rfl, rfl, rfl, rfl, rfl, (by omega)⟩, (show (grp a).length - (k1 + 1) < (grp a).length - k1 by omega)⟩
    refine WL.nil <| WC.seq <| WC.region rfl <| WL.move rfl <| WL.nil <| WC.condF rfl <| WC.skip <| WC.region rfl ?_
    refine WL.incr k1 (by have hreach : reach = 140737488355328 := rfl; omega) rfl rfl rfl ?_
    refine WL.move rfl <| WL.nil ?_
    exact ⟨_, ⟨k1 + 1, o3, G7, rfl, (hle5.trans (hle6.trans hle7)), hS11, (Row.cast (hr3.mono (hle6.trans hle7)) (by (exact exN_skip (by assumption) (exStep_no (by assumption))))), rfl, rfl, rfl, rfl, rfl, (by omega)⟩, (show (grp a).length - (k1 + 1) < (grp a).length - k1 by omega)⟩
  refine WL.nil <| WC.seq <| WC.condF rfl <| WC.exit <| WC.seq <| WC.region rfl <| WL.move rfl ?_
  obtain ⟨G9, hle9, hs9, hS17⟩ := Row.freeze hr3 hS7 0 rfl
  refine WL.callF [r3] #[] hb83 rfl rfl rfl ((c_listed _ _ hS17.imm (exN (grp b) (grp a) k1) _ hs9 (by rw [exN_all (by omega)]; exact Nat.le_trans (exc_len hv9.1 hv9.2) (by decide))).mono ?_)
  rintro e w13 ⟨r10, G10, rfl, hres6, hpost6⟩
  refine ⟨_, rfl, ?_⟩
  have hS18 := hS17.call hres6
  have hle10 := hres6.le
  obtain ⟨r11, r12, rfl, hs10, rfl⟩ := hpost6
  refine WL.move rfl ?_
  refine WL.extract _ _ rfl rfl rfl ?_
  refine WL.extract _ _ rfl rfl rfl ?_
  refine WL.assign rfl <| WL.assign rfl ?_
  refine WL.split (fun (h4 : (fitB (listedL (exN (grp b) (grp a) k1))) = true) => ?_) (fun (h4 : (fitB (listedL (exN (grp b) (grp a) k1))) = false) => ?_)
  · refine WL.nil <| WC.seq <| WC.seq <| WC.region rfl <| WL.move rfl ?_
    refine WL.not true rfl rfl ?_
    refine WL.nil <| WC.condF rfl <| WC.skip <| WC.seq <| WC.region rfl <| WL.move rfl <| WL.assign rfl <| WL.assign rfl <| WL.nil ?_
    refine WC.ret ?_
    exact ⟨.tuple #[r11, .int .i64 0], rfl, .tuple #[r11, .int .i64 0], _, rfl, hS18.res, r11, (.int .i64 0), rfl, (Sl.cast hs10 (by exact (exc_3 (k := k1) (by assumption) (by omega) (by assumption)).1.symm)), (congrArg (Value.int .i64) (by exact (exc_3 (k := k1) (by assumption) (by omega) (by assumption)).2.symm))⟩
  refine WL.nil <| WC.seq <| WC.seq <| WC.region rfl <| WL.move rfl ?_
  refine WL.not false rfl rfl ?_
  refine WL.nil <| WC.condT rfl <| WC.seq <| WC.region rfl <| WL.assign rfl <| WL.assign rfl <| WL.nil ?_
  refine WC.ret ?_
  exact ⟨.tuple #[.slice none 0 0, .int .i64 5], rfl, .tuple #[.slice none 0 0, .int .i64 5], _, rfl, hS18.res, (.slice none 0 0), (.int .i64 5), rfl, (Sl.cast (Sl.nil FactE 40 G10) (by exact (exc_2 (k := k1) (by assumption) (by omega) (by assumption)).1.symm)), (congrArg (Value.int .i64) (by exact (exc_2 (k := k1) (by assumption) (by omega) (by assumption)).2.symm))⟩
end Go.Civ
