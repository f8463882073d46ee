/- Walks, printed by specs38.py. -/
import Derived.Test.YtapjalhjfblonaaGreatProg
import Derived.KernelRfl
import Derived.WalkKit
import Derived.Test.YtapjalhjfblonaaGreatWo
import Derived.Test.YtapjalhjfblonaaGreatWd
import Derived.Test.YtapjalhjfblonaaGreatCiv27
set_option linter.unusedVariables false
set_option linter.unusedSimpArgs false
set_option maxRecDepth 100000
set_option maxHeartbeats 4000000
namespace Go.Civ
open Go.Proofs


theorem c_iSign (G : GH) (w : World) (hG : G.In w) (a b : Int)  : Calls Tryz.prog (nat_lit 161) #[.int .i64 a, .int .i64 b] w fun e w' => ∃ r G', e = .returned r ∧ Res [] w G w' G' ∧ r = .int .i64 (sgn a b) := by
  refine calls_of_WC (N := 13) Tryz.func161 rfl rfl rfl ?_
  have hS := St.start (X := []) hG
  refine WC.seq <| WC.region rfl <| WL.assign rfl <| WL.nil <| WC.seq <| WC.block <| WC.seq <| WC.region rfl <| WL.move rfl <| WL.move rfl ?_
  refine WL.lssS a b rfl rfl rfl (fun h1 => ?_) (fun h1 => ?_)
  · refine WL.assign rfl <| WL.nil <| WC.condT rfl <| WC.seq <| WC.region rfl <| WL.assign rfl <| WL.nil ?_
    refine WC.ret ?_
    exact ⟨.int .i64 (-1), rfl, .int .i64 (-1), _, rfl, hS.res, (congrArg (Value.int .i64) (by unfold sgn; split <;> (try split) <;> rfl))⟩
  refine WL.assign rfl <| WL.nil <| WC.condF rfl <| WC.seq <| WC.region rfl <| WL.move rfl <| WL.move rfl ?_
  refine WL.gtrS a b rfl rfl rfl (fun h2 => ?_) (fun h2 => ?_)
  · refine WL.assign rfl <| WL.nil <| WC.condT rfl <| WC.seq <| WC.region rfl <| WL.assign rfl <| WL.nil ?_
    refine WC.ret ?_
    exact ⟨.int .i64 1, rfl, .int .i64 1, _, rfl, hS.res, (congrArg (Value.int .i64) (by unfold sgn; split <;> (try split) <;> omega))⟩
  refine WL.assign rfl <| WL.nil <| WC.condF rfl <| WC.skip <| WC.seq <| WC.region rfl <| WL.assign rfl <| WL.nil ?_
  refine WC.ret ?_
  exact ⟨.int .i64 0, rfl, .int .i64 0, _, rfl, hS.res, (congrArg (Value.int .i64) (by unfold sgn; split <;> (try split) <;> omega))⟩

theorem c_r11IsSet (G : GH) (w : World) (hG : G.In w) (x : Int)  : Calls Tryz.prog (nat_lit 62) #[.int .i64 x] w fun e w' => ∃ r G', e = .returned r ∧ Res [] w G w' G' ∧ r = .bool (isSetB x) := by
  refine calls_of_WC (N := 9) Tryz.func62 rfl rfl rfl ?_
  have hS := St.start (X := []) hG
  refine WC.seq <| WC.region rfl <| WL.assign rfl <| WL.nil <| WC.seq <| WC.region rfl <| WL.move rfl ?_
  refine WL.geqS x 0 rfl rfl rfl (fun h1 => ?_) (fun h1 => ?_)
  · refine WL.move rfl <| WL.move rfl ?_
    refine WL.cmp .leq rfl .i64 x 8191 rfl rfl rfl ?_
    refine WL.pickT rfl rfl <| WL.assign rfl <| WL.nil ?_
    refine WC.ret ?_
    exact ⟨.bool (Cmp.b .leq x 8191), rfl, .bool (Cmp.b .leq x 8191), _, rfl, hS.res, (congrArg Value.bool (by unfold isSetB; simp [Cmp.b] <;> omega))⟩
  refine WL.move rfl <| WL.no rfl rfl <| WL.no rfl rfl <| WL.pickF rfl rfl <| WL.assign rfl <| WL.nil ?_
  refine WC.ret ?_
  exact ⟨.bool false, rfl, .bool false, _, rfl, hS.res, (congrArg Value.bool (by unfold isSetB; simp [Cmp.b] <;> omega))⟩

theorem c_isSet (G : GH) (w : World) (hG : G.In w) (x : Int)  : Calls Tryz.prog (nat_lit 121) #[.int .i64 x] w fun e w' => ∃ r G', e = .returned r ∧ Res [] w G w' G' ∧ r = .bool (isSetB x) := by
  refine calls_of_WC (N := 9) Tryz.func121 rfl rfl rfl ?_
  have hS := St.start (X := []) hG
  refine WC.seq <| WC.region rfl <| WL.assign rfl <| WL.nil <| WC.seq <| WC.region rfl <| WL.move rfl ?_
  refine WL.geqS x 0 rfl rfl rfl (fun h1 => ?_) (fun h1 => ?_)
  · refine WL.move rfl <| WL.move rfl ?_
    refine WL.cmp .leq rfl .i64 x 8191 rfl rfl rfl ?_
    refine WL.pickT rfl rfl <| WL.assign rfl <| WL.nil ?_
    refine WC.ret ?_
    exact ⟨.bool (Cmp.b .leq x 8191), rfl, .bool (Cmp.b .leq x 8191), _, rfl, hS.res, (congrArg Value.bool (by unfold isSetB; simp [Cmp.b] <;> omega))⟩
  refine WL.move rfl <| WL.no rfl rfl <| WL.no rfl rfl <| WL.pickF rfl rfl <| WL.assign rfl <| WL.nil ?_
  refine WC.ret ?_
  exact ⟨.bool false, rfl, .bool false, _, rfl, hS.res, (congrArg Value.bool (by unfold isSetB; simp [Cmp.b] <;> omega))⟩

theorem c_Full (G : GH) (w : World) (hG : G.In w)   : Calls Tryz.prog (nat_lit 58) #[] w fun e w' => ∃ r G', e = .returned r ∧ Res [] w G w' G' ∧ r = .int .i64 8191 := by
  refine calls_of_WC (N := 1) Tryz.func58 rfl rfl rfl ?_
  have hS := St.start (X := []) hG
  refine WC.seq <| WC.region rfl <| WL.assign rfl <| WL.nil <| WC.seq <| WC.region rfl <| WL.assign rfl <| WL.nil ?_
  refine WC.ret ?_
  exact ⟨.int .i64 8191, rfl, .int .i64 8191, _, rfl, hS.res, (congrArg (Value.int .i64) (by rfl))⟩

theorem c_iOf (G : GH) (w : World) (hG : G.In w) (a b : Span) (ca : List Value) (hca : SpanE.rep G a ca) (cb : List Value) (hcb : SpanE.rep G b cb)  : Calls Tryz.prog (nat_lit 120) #[.agg ca.toArray, .agg cb.toArray] w fun e w' => ∃ r G', e = .returned r ∧ Res [] w G w' G' ∧ r = .int .i64 (relS a b) := by
  refine calls_of_WC (N := 53) Tryz.func120 rfl rfl rfl ?_
  have hS := St.start (X := []) hG
  obtain ⟨rfl, hb1, hb2⟩ := SpanE_open hca
  obtain ⟨rfl, hb3, hb4⟩ := SpanE_open hcb
  refine WC.seq <| WC.region rfl ?_
  refine WL.boxG [.int .i64 a.a, .int .i64 a.b] _ hS rfl rfl rfl (fun p1 w1 G1 hle1 hsp1 hc1 hS1 => ?_)
  refine WL.boxG [.int .i64 b.a, .int .i64 b.b] _ hS1 rfl rfl rfl (fun p2 w2 G2 hle2 hsp2 hc2 hS2 => ?_)
  refine WL.assign rfl <| WL.nil <| WC.seq <| WC.seq <| WC.region rfl ?_
  refine WL.loadGAt hS2 (hc1.mono hle2) [.int .i64 a.a, .int .i64 a.b] ti46 rfl rfl rfl rfl rfl ?_
  refine WL.callF [.agg #[.int .i64 a.a, .int .i64 a.b]] #[] hb122 rfl rfl rfl ((c_iValid _ _ hS2.imm a _ (SpanE_mk a hb1 hb2) ).mono ?_)
  rintro e w3 ⟨r1, G3, rfl, hres1, hpost1⟩
  refine ⟨_, rfl, ?_⟩
  have hS3 := hS2.call hres1
  have hle3 := hres1.le
  subst hpost1
  refine WL.split (fun (h1 : (spanV a) = true) => ?_) (fun (h1 : (spanV a) = false) => ?_)
  · refine WL.not true rfl rfl ?_
    refine WL.move rfl ?_
    refine WL.loadGAt hS3 (hc2.mono hle3) [.int .i64 b.a, .int .i64 b.b] ti46 rfl rfl rfl rfl rfl ?_
    refine WL.callF [.agg #[.int .i64 b.a, .int .i64 b.b]] #[] hb122 rfl rfl rfl ((c_iValid _ _ hS3.imm b _ (SpanE_mk b hb3 hb4) ).mono ?_)
    rintro e w4 ⟨r2, G4, rfl, hres2, hpost2⟩
    refine ⟨_, rfl, ?_⟩
    have hS4 := hS3.call hres2
    have hle4 := hres2.le
    subst hpost2
    refine WL.split (fun (h2 : (spanV b) = true) => ?_) (fun (h2 : (spanV b) = false) => ?_)
    · refine WL.not true rfl rfl ?_
      refine WL.pickF rfl rfl <| WL.nil <| WC.condF rfl <| WC.skip <| WC.seq <| WC.seq <| WC.region rfl ?_
      refine WL.fieldAddr _ 1 _ fl46 rfl rfl rfl ?_
      refine WL.loadG1 hS4 (Cells.drop 1 (hc1.mono ((hle2.trans hle3).trans hle4))) ti3 rfl rfl rfl ?_
      refine WL.fieldAddr _ 0 _ fl46 rfl rfl rfl ?_
      refine WL.loadG1 hS4 (Cells.drop 0 (hc2.mono (hle3.trans hle4))) ti3 rfl rfl rfl ?_
      refine WL.callF [.int .i64 a.b, .int .i64 b.a] #[] hb161 rfl rfl rfl ((c_iSign _ _ hS4.imm a.b b.a  ).mono ?_)
      rintro e w5 ⟨r3, G5, rfl, hres3, hpost3⟩
      refine ⟨_, rfl, ?_⟩
      have hS5 := hS4.call hres3
      have hle5 := hres3.le
      subst hpost3
      refine WL.assign rfl <| WL.nil <| WC.seq <| WC.region rfl <| WL.move rfl ?_
      refine WL.leqS (sgn a.b b.a) 0 rfl rfl rfl (fun h3 => ?_) (fun h3 => ?_)
      · refine WL.nil <| WC.condT rfl <| WC.seq <| WC.region rfl <| WL.move rfl ?_
        have hi1 : I64 ((sgn a.b b.a) + 1) := by have hs1 := sgn3 a.b b.a; have hs2 := sgn3 a.a b.b; have := (I64_sgn a.b b.a).1; have := (I64_sgn a.b b.a).2; constructor <;> omega
        refine WL.ar .add rfl (sgn a.b b.a) 1 rfl rfl rfl hi1 ?_
        refine WL.assign rfl <| WL.nil ?_
        refine WC.ret ?_
        exact ⟨.int .i64 ((sgn a.b b.a) + 1), rfl, .int .i64 ((sgn a.b b.a) + 1), _, rfl, hS5.res, (congrArg (Value.int .i64) (by exact relS_lo h1 h2 (by assumption)))⟩
      refine WL.nil <| WC.condF rfl <| WC.skip <| WC.seq <| WC.seq <| WC.region rfl ?_
      refine WL.fieldAddr _ 0 _ fl46 rfl rfl rfl ?_
      refine WL.loadG1 hS5 (Cells.drop 0 (hc1.mono (((hle2.trans hle3).trans hle4).trans hle5))) ti3 rfl rfl rfl ?_
      refine WL.fieldAddr _ 1 _ fl46 rfl rfl rfl ?_
      refine WL.loadG1 hS5 (Cells.drop 1 (hc2.mono ((hle3.trans hle4).trans hle5))) ti3 rfl rfl rfl ?_
      refine WL.callF [.int .i64 a.a, .int .i64 b.b] #[] hb161 rfl rfl rfl ((c_iSign _ _ hS5.imm a.a b.b  ).mono ?_)
      rintro e w6 ⟨r4, G6, rfl, hres4, hpost4⟩
      refine ⟨_, rfl, ?_⟩
      have hS6 := hS5.call hres4
      have hle6 := hres4.le
      subst hpost4
      refine WL.assign rfl <| WL.nil <| WC.seq <| WC.region rfl <| WL.move rfl ?_
      refine WL.geqS (sgn a.a b.b) 0 rfl rfl rfl (fun h4 => ?_) (fun h4 => ?_)
      · refine WL.nil <| WC.condT rfl <| WC.seq <| WC.region rfl <| WL.move rfl ?_
        have hi2 : I64 (11 + (sgn a.a b.b)) := by have hs1 := sgn3 a.b b.a; have hs2 := sgn3 a.a b.b; have := (I64_sgn a.a b.b).1; have := (I64_sgn a.a b.b).2; constructor <;> omega
        refine WL.ar .add rfl 11 (sgn a.a b.b) rfl rfl rfl hi2 ?_
        refine WL.assign rfl <| WL.nil ?_
        refine WC.ret ?_
        exact ⟨.int .i64 (11 + (sgn a.a b.b)), rfl, .int .i64 (11 + (sgn a.a b.b)), _, rfl, hS6.res, (congrArg (Value.int .i64) (by exact relS_hi h1 h2 (by assumption) (by assumption)))⟩
      refine WL.nil <| WC.condF rfl <| WC.skip <| WC.seq <| WC.region rfl ?_
      refine WL.buildArr _ [(0, [.int .i64 2]), (1, [.int .i64 7]), (2, [.int .i64 8])] [.int .i64 2, .int .i64 7, .int .i64 8] ti176 ul176 ti3 rfl rfl rfl rfl ?_
      refine WL.buildArr _ [(0, [.int .i64 3]), (1, [.int .i64 6]), (2, [.int .i64 9])] [.int .i64 3, .int .i64 6, .int .i64 9] ti176 ul176 ti3 rfl rfl rfl rfl ?_
      refine WL.buildArr _ [(0, [.int .i64 4]), (1, [.int .i64 5]), (2, [.int .i64 10])] [.int .i64 4, .int .i64 5, .int .i64 10] ti176 ul176 ti3 rfl rfl rfl rfl ?_
      refine WL.buildArr _ [(0, [.int .i64 2, .int .i64 7, .int .i64 8]), (1, [.int .i64 3, .int .i64 6, .int .i64 9]), (2, [.int .i64 4, .int .i64 5, .int .i64 10])] [.int .i64 2, .int .i64 7, .int .i64 8, .int .i64 3, .int .i64 6, .int .i64 9, .int .i64 4, .int .i64 5, .int .i64 10] ti177 ul177 ti176 rfl rfl rfl rfl ?_
      refine WL.alloc hS6 ti177 rfl rfl (fun b1 w7 hn1 hS7 => ?_)
      refine WL.store hS7 0 _ _ _ 0 _ [.int .i64 2, .int .i64 7, .int .i64 8, .int .i64 3, .int .i64 6, .int .i64 9, .int .i64 4, .int .i64 5, .int .i64 10] [.int .i64 2, .int .i64 7, .int .i64 8, .int .i64 3, .int .i64 6, .int .i64 9, .int .i64 4, .int .i64 5, .int .i64 10] _ rfl rfl ti177 rfl (Nat.le_of_ble_eq_true rfl) rfl rfl rfl rfl rfl rfl (fun w8 hS8 => ?_)
      obtain ⟨G7, hle7, hc3, hS9⟩ := hS8.shutB hn1
      refine WL.nil <| WC.seq ?_
      rcases sgn3 a.a b.a with ⟨hd1, he1⟩ | ⟨hd1, he1⟩ | ⟨hd1, he1⟩
      · rcases sgn3 a.b b.b with ⟨hd2, he2⟩ | ⟨hd2, he2⟩ | ⟨hd2, he2⟩
        · refine dr ⟨[0, 1, 0, 4, 15, 31, 0, 64, 0, 256, 991, 2015, 63, 8191, 16383, 32767], [0, 2, 5, 6, 8, 11, 12, 13], [1, 3, 7, 9, 14], [4, 10], [15]⟩ [(38, .pointer (some (p1.add 0))), (40, .pointer (some (p2.add 0))), (43, .int .i64 0), (44, .pointer (some (p1.add 1))), (46, .pointer (some (p2.add 1))), (49, .int .i64 0), (50, .pointer (some ((⟨b1, 0, none⟩ : Addr).add 0))), (51, .pointer (some (((⟨b1, 0, none⟩ : Addr).add 0).add 0))), (39, .int .i64 a.a), (41, .int .i64 b.a), (45, .int .i64 a.b), (47, .int .i64 b.b), (52, .int .i64 2), (42, .int .i64 (-1)), (48, .int .i64 (-1))] [] hS9 ?_ ?_ ?_ (fun w8 hS10 => ?_)
          · exact ⟨fun _ _ => WL.fieldAddr _ 0 _ fl46 rfl rfl rfl <| WL.nu rfl, fun _ _ => WL.fieldAddr _ 0 _ fl46 rfl rfl rfl <| WL.nu rfl, fun _ _ => WL.ar .add rfl (-1) 1 rfl rfl rfl (by constructor <;> decide) <| WL.nu rfl, fun _ _ => WL.fieldAddr _ 1 _ fl46 rfl rfl rfl <| WL.nu rfl, fun _ _ => WL.fieldAddr _ 1 _ fl46 rfl rfl rfl <| WL.nu rfl, fun _ _ => WL.ar .add rfl (-1) 1 rfl rfl rfl (by constructor <;> decide) <| WL.nu rfl, fun _ _ => WL.indexAddrA _ 3 0 rfl ul177 ti176 rfl rfl rfl <| WL.nu rfl, fun _ _ => WL.indexAddrA _ 3 0 rfl ul176 ti3 rfl rfl rfl <| WL.nu rfl, trivial⟩
          · exact ⟨fun _ hSw => WL.loadG1 hSw (Cells.drop 0 (hc1.mono (((((hle2.trans hle3).trans hle4).trans hle5).trans hle6).trans hle7))) ti3 rfl rfl rfl <| WL.nu rfl, fun _ hSw => WL.loadG1 hSw (Cells.drop 0 (hc2.mono ((((hle3.trans hle4).trans hle5).trans hle6).trans hle7))) ti3 rfl rfl rfl <| WL.nu rfl, fun _ hSw => WL.loadG1 hSw (Cells.drop 1 (hc1.mono (((((hle2.trans hle3).trans hle4).trans hle5).trans hle6).trans hle7))) ti3 rfl rfl rfl <| WL.nu rfl, fun _ hSw => WL.loadG1 hSw (Cells.drop 1 (hc2.mono ((((hle3.trans hle4).trans hle5).trans hle6).trans hle7))) ti3 rfl rfl rfl <| WL.nu rfl, fun _ hSw => WL.loadG1 hSw (Cells.drop 0 (Cells.drop 0 hc3)) ti3 rfl rfl rfl <| WL.nu rfl, trivial⟩
          · exact ⟨fun _ hSw => WL.callD [.int .i64 a.a, .int .i64 b.a] #[] hb161 rfl rfl rfl hSw (c_iSign _ _ hSw.imm a.a b.a  ) (congrArg (Value.int .i64) he1.symm), fun _ hSw => WL.callD [.int .i64 a.b, .int .i64 b.b] #[] hb161 rfl rfl rfl hSw (c_iSign _ _ hSw.imm a.b b.b  ) (congrArg (Value.int .i64) he2.symm), trivial⟩
          refine TL.step rfl ?_
          refine WL.assign rfl ?_
          refine WL.nil ⟨fun h => absurd h (by decide), ?_⟩
          refine WC.ret ?_
          exact ⟨.int .i64 2, rfl, .int .i64 2, _, rfl, hS10.res, (congrArg (Value.int .i64) (by exact relS_mid h1 h2 (by assumption) (by assumption) (by (repeat' split) <;> omega)))⟩
        · refine dr ⟨[0, 1, 0, 4, 15, 31, 0, 64, 0, 256, 991, 2015, 63, 8191, 16383, 32767], [0, 2, 5, 6, 8, 11, 12, 13], [1, 3, 7, 9, 14], [4, 10], [15]⟩ [(38, .pointer (some (p1.add 0))), (40, .pointer (some (p2.add 0))), (43, .int .i64 0), (44, .pointer (some (p1.add 1))), (46, .pointer (some (p2.add 1))), (49, .int .i64 1), (50, .pointer (some ((⟨b1, 0, none⟩ : Addr).add 0))), (51, .pointer (some (((⟨b1, 0, none⟩ : Addr).add 0).add 1))), (39, .int .i64 a.a), (41, .int .i64 b.a), (45, .int .i64 a.b), (47, .int .i64 b.b), (52, .int .i64 7), (42, .int .i64 (-1)), (48, .int .i64 0)] [] hS9 ?_ ?_ ?_ (fun w8 hS11 => ?_)
          · exact ⟨fun _ _ => WL.fieldAddr _ 0 _ fl46 rfl rfl rfl <| WL.nu rfl, fun _ _ => WL.fieldAddr _ 0 _ fl46 rfl rfl rfl <| WL.nu rfl, fun _ _ => WL.ar .add rfl (-1) 1 rfl rfl rfl (by constructor <;> decide) <| WL.nu rfl, fun _ _ => WL.fieldAddr _ 1 _ fl46 rfl rfl rfl <| WL.nu rfl, fun _ _ => WL.fieldAddr _ 1 _ fl46 rfl rfl rfl <| WL.nu rfl, fun _ _ => WL.ar .add rfl 0 1 rfl rfl rfl (by constructor <;> decide) <| WL.nu rfl, fun _ _ => WL.indexAddrA _ 3 0 rfl ul177 ti176 rfl rfl rfl <| WL.nu rfl, fun _ _ => WL.indexAddrA _ 3 1 rfl ul176 ti3 rfl rfl rfl <| WL.nu rfl, trivial⟩
          · exact ⟨fun _ hSw => WL.loadG1 hSw (Cells.drop 0 (hc1.mono (((((hle2.trans hle3).trans hle4).trans hle5).trans hle6).trans hle7))) ti3 rfl rfl rfl <| WL.nu rfl, fun _ hSw => WL.loadG1 hSw (Cells.drop 0 (hc2.mono ((((hle3.trans hle4).trans hle5).trans hle6).trans hle7))) ti3 rfl rfl rfl <| WL.nu rfl, fun _ hSw => WL.loadG1 hSw (Cells.drop 1 (hc1.mono (((((hle2.trans hle3).trans hle4).trans hle5).trans hle6).trans hle7))) ti3 rfl rfl rfl <| WL.nu rfl, fun _ hSw => WL.loadG1 hSw (Cells.drop 1 (hc2.mono ((((hle3.trans hle4).trans hle5).trans hle6).trans hle7))) ti3 rfl rfl rfl <| WL.nu rfl, fun _ hSw => WL.loadG1 hSw (Cells.drop 1 (Cells.drop 0 hc3)) ti3 rfl rfl rfl <| WL.nu rfl, trivial⟩
          · exact ⟨fun _ hSw => WL.callD [.int .i64 a.a, .int .i64 b.a] #[] hb161 rfl rfl rfl hSw (c_iSign _ _ hSw.imm a.a b.a  ) (congrArg (Value.int .i64) he1.symm), fun _ hSw => WL.callD [.int .i64 a.b, .int .i64 b.b] #[] hb161 rfl rfl rfl hSw (c_iSign _ _ hSw.imm a.b b.b  ) (congrArg (Value.int .i64) he2.symm), trivial⟩
          refine TL.step rfl ?_
          refine WL.assign rfl ?_
          refine WL.nil ⟨fun h => absurd h (by decide), ?_⟩
          refine WC.ret ?_
          exact ⟨.int .i64 7, rfl, .int .i64 7, _, rfl, hS11.res, (congrArg (Value.int .i64) (by exact relS_mid h1 h2 (by assumption) (by assumption) (by (repeat' split) <;> omega)))⟩
        refine dr ⟨[0, 1, 0, 4, 15, 31, 0, 64, 0, 256, 991, 2015, 63, 8191, 16383, 32767], [0, 2, 5, 6, 8, 11, 12, 13], [1, 3, 7, 9, 14], [4, 10], [15]⟩ [(38, .pointer (some (p1.add 0))), (40, .pointer (some (p2.add 0))), (43, .int .i64 0), (44, .pointer (some (p1.add 1))), (46, .pointer (some (p2.add 1))), (49, .int .i64 2), (50, .pointer (some ((⟨b1, 0, none⟩ : Addr).add 0))), (51, .pointer (some (((⟨b1, 0, none⟩ : Addr).add 0).add 2))), (39, .int .i64 a.a), (41, .int .i64 b.a), (45, .int .i64 a.b), (47, .int .i64 b.b), (52, .int .i64 8), (42, .int .i64 (-1)), (48, .int .i64 1)] [] hS9 ?_ ?_ ?_ (fun w8 hS12 => ?_)
        · exact ⟨fun _ _ => WL.fieldAddr _ 0 _ fl46 rfl rfl rfl <| WL.nu rfl, fun _ _ => WL.fieldAddr _ 0 _ fl46 rfl rfl rfl <| WL.nu rfl, fun _ _ => WL.ar .add rfl (-1) 1 rfl rfl rfl (by constructor <;> decide) <| WL.nu rfl, fun _ _ => WL.fieldAddr _ 1 _ fl46 rfl rfl rfl <| WL.nu rfl, fun _ _ => WL.fieldAddr _ 1 _ fl46 rfl rfl rfl <| WL.nu rfl, fun _ _ => WL.ar .add rfl 1 1 rfl rfl rfl (by constructor <;> decide) <| WL.nu rfl, fun _ _ => WL.indexAddrA _ 3 0 rfl ul177 ti176 rfl rfl rfl <| WL.nu rfl, fun _ _ => WL.indexAddrA _ 3 2 rfl ul176 ti3 rfl rfl rfl <| WL.nu rfl, trivial⟩
        · exact ⟨fun _ hSw => WL.loadG1 hSw (Cells.drop 0 (hc1.mono (((((hle2.trans hle3).trans hle4).trans hle5).trans hle6).trans hle7))) ti3 rfl rfl rfl <| WL.nu rfl, fun _ hSw => WL.loadG1 hSw (Cells.drop 0 (hc2.mono ((((hle3.trans hle4).trans hle5).trans hle6).trans hle7))) ti3 rfl rfl rfl <| WL.nu rfl, fun _ hSw => WL.loadG1 hSw (Cells.drop 1 (hc1.mono (((((hle2.trans hle3).trans hle4).trans hle5).trans hle6).trans hle7))) ti3 rfl rfl rfl <| WL.nu rfl, fun _ hSw => WL.loadG1 hSw (Cells.drop 1 (hc2.mono ((((hle3.trans hle4).trans hle5).trans hle6).trans hle7))) ti3 rfl rfl rfl <| WL.nu rfl, fun _ hSw => WL.loadG1 hSw (Cells.drop 2 (Cells.drop 0 hc3)) ti3 rfl rfl rfl <| WL.nu rfl, trivial⟩
        · exact ⟨fun _ hSw => WL.callD [.int .i64 a.a, .int .i64 b.a] #[] hb161 rfl rfl rfl hSw (c_iSign _ _ hSw.imm a.a b.a  ) (congrArg (Value.int .i64) he1.symm), fun _ hSw => WL.callD [.int .i64 a.b, .int .i64 b.b] #[] hb161 rfl rfl rfl hSw (c_iSign _ _ hSw.imm a.b b.b  ) (congrArg (Value.int .i64) he2.symm), trivial⟩
        refine TL.step rfl ?_
        refine WL.assign rfl ?_
        refine WL.nil ⟨fun h => absurd h (by decide), ?_⟩
        refine WC.ret ?_
        exact ⟨.int .i64 8, rfl, .int .i64 8, _, rfl, hS12.res, (congrArg (Value.int .i64) (by exact relS_mid h1 h2 (by assumption) (by assumption) (by (repeat' split) <;> omega)))⟩
      · rcases sgn3 a.b b.b with ⟨hd3, he3⟩ | ⟨hd3, he3⟩ | ⟨hd3, he3⟩
        · refine dr ⟨[0, 1, 0, 4, 15, 31, 0, 64, 0, 256, 991, 2015, 63, 8191, 16383, 32767], [0, 2, 5, 6, 8, 11, 12, 13], [1, 3, 7, 9, 14], [4, 10], [15]⟩ [(38, .pointer (some (p1.add 0))), (40, .pointer (some (p2.add 0))), (43, .int .i64 1), (44, .pointer (some (p1.add 1))), (46, .pointer (some (p2.add 1))), (49, .int .i64 0), (50, .pointer (some ((⟨b1, 0, none⟩ : Addr).add 3))), (51, .pointer (some (((⟨b1, 0, none⟩ : Addr).add 3).add 0))), (39, .int .i64 a.a), (41, .int .i64 b.a), (45, .int .i64 a.b), (47, .int .i64 b.b), (52, .int .i64 3), (42, .int .i64 0), (48, .int .i64 (-1))] [] hS9 ?_ ?_ ?_ (fun w8 hS13 => ?_)
          · exact ⟨fun _ _ => WL.fieldAddr _ 0 _ fl46 rfl rfl rfl <| WL.nu rfl, fun _ _ => WL.fieldAddr _ 0 _ fl46 rfl rfl rfl <| WL.nu rfl, fun _ _ => WL.ar .add rfl 0 1 rfl rfl rfl (by constructor <;> decide) <| WL.nu rfl, fun _ _ => WL.fieldAddr _ 1 _ fl46 rfl rfl rfl <| WL.nu rfl, fun _ _ => WL.fieldAddr _ 1 _ fl46 rfl rfl rfl <| WL.nu rfl, fun _ _ => WL.ar .add rfl (-1) 1 rfl rfl rfl (by constructor <;> decide) <| WL.nu rfl, fun _ _ => WL.indexAddrA _ 3 1 rfl ul177 ti176 rfl rfl rfl <| WL.nu rfl, fun _ _ => WL.indexAddrA _ 3 0 rfl ul176 ti3 rfl rfl rfl <| WL.nu rfl, trivial⟩
          · exact ⟨fun _ hSw => WL.loadG1 hSw (Cells.drop 0 (hc1.mono (((((hle2.trans hle3).trans hle4).trans hle5).trans hle6).trans hle7))) ti3 rfl rfl rfl <| WL.nu rfl, fun _ hSw => WL.loadG1 hSw (Cells.drop 0 (hc2.mono ((((hle3.trans hle4).trans hle5).trans hle6).trans hle7))) ti3 rfl rfl rfl <| WL.nu rfl, fun _ hSw => WL.loadG1 hSw (Cells.drop 1 (hc1.mono (((((hle2.trans hle3).trans hle4).trans hle5).trans hle6).trans hle7))) ti3 rfl rfl rfl <| WL.nu rfl, fun _ hSw => WL.loadG1 hSw (Cells.drop 1 (hc2.mono ((((hle3.trans hle4).trans hle5).trans hle6).trans hle7))) ti3 rfl rfl rfl <| WL.nu rfl, fun _ hSw => WL.loadG1 hSw (Cells.drop 0 (Cells.drop 3 hc3)) ti3 rfl rfl rfl <| WL.nu rfl, trivial⟩
          · exact ⟨fun _ hSw => WL.callD [.int .i64 a.a, .int .i64 b.a] #[] hb161 rfl rfl rfl hSw (c_iSign _ _ hSw.imm a.a b.a  ) (congrArg (Value.int .i64) he1.symm), fun _ hSw => WL.callD [.int .i64 a.b, .int .i64 b.b] #[] hb161 rfl rfl rfl hSw (c_iSign _ _ hSw.imm a.b b.b  ) (congrArg (Value.int .i64) he3.symm), trivial⟩
          refine TL.step rfl ?_
          refine WL.assign rfl ?_
          refine WL.nil ⟨fun h => absurd h (by decide), ?_⟩
          refine WC.ret ?_
          exact ⟨.int .i64 3, rfl, .int .i64 3, _, rfl, hS13.res, (congrArg (Value.int .i64) (by exact relS_mid h1 h2 (by assumption) (by assumption) (by (repeat' split) <;> omega)))⟩
        · refine dr ⟨[0, 1, 0, 4, 15, 31, 0, 64, 0, 256, 991, 2015, 63, 8191, 16383, 32767], [0, 2, 5, 6, 8, 11, 12, 13], [1, 3, 7, 9, 14], [4, 10], [15]⟩ [(38, .pointer (some (p1.add 0))), (40, .pointer (some (p2.add 0))), (43, .int .i64 1), (44, .pointer (some (p1.add 1))), (46, .pointer (some (p2.add 1))), (49, .int .i64 1), (50, .pointer (some ((⟨b1, 0, none⟩ : Addr).add 3))), (51, .pointer (some (((⟨b1, 0, none⟩ : Addr).add 3).add 1))), (39, .int .i64 a.a), (41, .int .i64 b.a), (45, .int .i64 a.b), (47, .int .i64 b.b), (52, .int .i64 6), (42, .int .i64 0), (48, .int .i64 0)] [] hS9 ?_ ?_ ?_ (fun w8 hS14 => ?_)
          · exact ⟨fun _ _ => WL.fieldAddr _ 0 _ fl46 rfl rfl rfl <| WL.nu rfl, fun _ _ => WL.fieldAddr _ 0 _ fl46 rfl rfl rfl <| WL.nu rfl, fun _ _ => WL.ar .add rfl 0 1 rfl rfl rfl (by constructor <;> decide) <| WL.nu rfl, fun _ _ => WL.fieldAddr _ 1 _ fl46 rfl rfl rfl <| WL.nu rfl, fun _ _ => WL.fieldAddr _ 1 _ fl46 rfl rfl rfl <| WL.nu rfl, fun _ _ => WL.ar .add rfl 0 1 rfl rfl rfl (by constructor <;> decide) <| WL.nu rfl, fun _ _ => WL.indexAddrA _ 3 1 rfl ul177 ti176 rfl rfl rfl <| WL.nu rfl, fun _ _ => WL.indexAddrA _ 3 1 rfl ul176 ti3 rfl rfl rfl <| WL.nu rfl, trivial⟩
          · exact ⟨fun _ hSw => WL.loadG1 hSw (Cells.drop 0 (hc1.mono (((((hle2.trans hle3).trans hle4).trans hle5).trans hle6).trans hle7))) ti3 rfl rfl rfl <| WL.nu rfl, fun _ hSw => WL.loadG1 hSw (Cells.drop 0 (hc2.mono ((((hle3.trans hle4).trans hle5).trans hle6).trans hle7))) ti3 rfl rfl rfl <| WL.nu rfl, fun _ hSw => WL.loadG1 hSw (Cells.drop 1 (hc1.mono (((((hle2.trans hle3).trans hle4).trans hle5).trans hle6).trans hle7))) ti3 rfl rfl rfl <| WL.nu rfl, fun _ hSw => WL.loadG1 hSw (Cells.drop 1 (hc2.mono ((((hle3.trans hle4).trans hle5).trans hle6).trans hle7))) ti3 rfl rfl rfl <| WL.nu rfl, fun _ hSw => WL.loadG1 hSw (Cells.drop 1 (Cells.drop 3 hc3)) ti3 rfl rfl rfl <| WL.nu rfl, trivial⟩
          · exact ⟨fun _ hSw => WL.callD [.int .i64 a.a, .int .i64 b.a] #[] hb161 rfl rfl rfl hSw (c_iSign _ _ hSw.imm a.a b.a  ) (congrArg (Value.int .i64) he1.symm), fun _ hSw => WL.callD [.int .i64 a.b, .int .i64 b.b] #[] hb161 rfl rfl rfl hSw (c_iSign _ _ hSw.imm a.b b.b  ) (congrArg (Value.int .i64) he3.symm), trivial⟩
          refine TL.step rfl ?_
          refine WL.assign rfl ?_
          refine WL.nil ⟨fun h => absurd h (by decide), ?_⟩
          refine WC.ret ?_
          exact ⟨.int .i64 6, rfl, .int .i64 6, _, rfl, hS14.res, (congrArg (Value.int .i64) (by exact relS_mid h1 h2 (by assumption) (by assumption) (by (repeat' split) <;> omega)))⟩
        refine dr ⟨[0, 1, 0, 4, 15, 31, 0, 64, 0, 256, 991, 2015, 63, 8191, 16383, 32767], [0, 2, 5, 6, 8, 11, 12, 13], [1, 3, 7, 9, 14], [4, 10], [15]⟩ [(38, .pointer (some (p1.add 0))), (40, .pointer (some (p2.add 0))), (43, .int .i64 1), (44, .pointer (some (p1.add 1))), (46, .pointer (some (p2.add 1))), (49, .int .i64 2), (50, .pointer (some ((⟨b1, 0, none⟩ : Addr).add 3))), (51, .pointer (some (((⟨b1, 0, none⟩ : Addr).add 3).add 2))), (39, .int .i64 a.a), (41, .int .i64 b.a), (45, .int .i64 a.b), (47, .int .i64 b.b), (52, .int .i64 9), (42, .int .i64 0), (48, .int .i64 1)] [] hS9 ?_ ?_ ?_ (fun w8 hS15 => ?_)
        · exact ⟨fun _ _ => WL.fieldAddr _ 0 _ fl46 rfl rfl rfl <| WL.nu rfl, fun _ _ => WL.fieldAddr _ 0 _ fl46 rfl rfl rfl <| WL.nu rfl, fun _ _ => WL.ar .add rfl 0 1 rfl rfl rfl (by constructor <;> decide) <| WL.nu rfl, fun _ _ => WL.fieldAddr _ 1 _ fl46 rfl rfl rfl <| WL.nu rfl, fun _ _ => WL.fieldAddr _ 1 _ fl46 rfl rfl rfl <| WL.nu rfl, fun _ _ => WL.ar .add rfl 1 1 rfl rfl rfl (by constructor <;> decide) <| WL.nu rfl, fun _ _ => WL.indexAddrA _ 3 1 rfl ul177 ti176 rfl rfl rfl <| WL.nu rfl, fun _ _ => WL.indexAddrA _ 3 2 rfl ul176 ti3 rfl rfl rfl <| WL.nu rfl, trivial⟩
        · exact ⟨fun _ hSw => WL.loadG1 hSw (Cells.drop 0 (hc1.mono (((((hle2.trans hle3).trans hle4).trans hle5).trans hle6).trans hle7))) ti3 rfl rfl rfl <| WL.nu rfl, fun _ hSw => WL.loadG1 hSw (Cells.drop 0 (hc2.mono ((((hle3.trans hle4).trans hle5).trans hle6).trans hle7))) ti3 rfl rfl rfl <| WL.nu rfl, fun _ hSw => WL.loadG1 hSw (Cells.drop 1 (hc1.mono (((((hle2.trans hle3).trans hle4).trans hle5).trans hle6).trans hle7))) ti3 rfl rfl rfl <| WL.nu rfl, fun _ hSw => WL.loadG1 hSw (Cells.drop 1 (hc2.mono ((((hle3.trans hle4).trans hle5).trans hle6).trans hle7))) ti3 rfl rfl rfl <| WL.nu rfl, fun _ hSw => WL.loadG1 hSw (Cells.drop 2 (Cells.drop 3 hc3)) ti3 rfl rfl rfl <| WL.nu rfl, trivial⟩
        · exact ⟨fun _ hSw => WL.callD [.int .i64 a.a, .int .i64 b.a] #[] hb161 rfl rfl rfl hSw (c_iSign _ _ hSw.imm a.a b.a  ) (congrArg (Value.int .i64) he1.symm), fun _ hSw => WL.callD [.int .i64 a.b, .int .i64 b.b] #[] hb161 rfl rfl rfl hSw (c_iSign _ _ hSw.imm a.b b.b  ) (congrArg (Value.int .i64) he3.symm), trivial⟩
        refine TL.step rfl ?_
        refine WL.assign rfl ?_
        refine WL.nil ⟨fun h => absurd h (by decide), ?_⟩
        refine WC.ret ?_
        exact ⟨.int .i64 9, rfl, .int .i64 9, _, rfl, hS15.res, (congrArg (Value.int .i64) (by exact relS_mid h1 h2 (by assumption) (by assumption) (by (repeat' split) <;> omega)))⟩
      rcases sgn3 a.b b.b with ⟨hd4, he4⟩ | ⟨hd4, he4⟩ | ⟨hd4, he4⟩
      · refine dr ⟨[0, 1, 0, 4, 15, 31, 0, 64, 0, 256, 991, 2015, 63, 8191, 16383, 32767], [0, 2, 5, 6, 8, 11, 12, 13], [1, 3, 7, 9, 14], [4, 10], [15]⟩ [(38, .pointer (some (p1.add 0))), (40, .pointer (some (p2.add 0))), (43, .int .i64 2), (44, .pointer (some (p1.add 1))), (46, .pointer (some (p2.add 1))), (49, .int .i64 0), (50, .pointer (some ((⟨b1, 0, none⟩ : Addr).add 6))), (51, .pointer (some (((⟨b1, 0, none⟩ : Addr).add 6).add 0))), (39, .int .i64 a.a), (41, .int .i64 b.a), (45, .int .i64 a.b), (47, .int .i64 b.b), (52, .int .i64 4), (42, .int .i64 1), (48, .int .i64 (-1))] [] hS9 ?_ ?_ ?_ (fun w8 hS16 => ?_)
        · exact ⟨fun _ _ => WL.fieldAddr _ 0 _ fl46 rfl rfl rfl <| WL.nu rfl, fun _ _ => WL.fieldAddr _ 0 _ fl46 rfl rfl rfl <| WL.nu rfl, fun _ _ => WL.ar .add rfl 1 1 rfl rfl rfl (by constructor <;> decide) <| WL.nu rfl, fun _ _ => WL.fieldAddr _ 1 _ fl46 rfl rfl rfl <| WL.nu rfl, fun _ _ => WL.fieldAddr _ 1 _ fl46 rfl rfl rfl <| WL.nu rfl, fun _ _ => WL.ar .add rfl (-1) 1 rfl rfl rfl (by constructor <;> decide) <| WL.nu rfl, fun _ _ => WL.indexAddrA _ 3 2 rfl ul177 ti176 rfl rfl rfl <| WL.nu rfl, fun _ _ => WL.indexAddrA _ 3 0 rfl ul176 ti3 rfl rfl rfl <| WL.nu rfl, trivial⟩
        · exact ⟨fun _ hSw => WL.loadG1 hSw (Cells.drop 0 (hc1.mono (((((hle2.trans hle3).trans hle4).trans hle5).trans hle6).trans hle7))) ti3 rfl rfl rfl <| WL.nu rfl, fun _ hSw => WL.loadG1 hSw (Cells.drop 0 (hc2.mono ((((hle3.trans hle4).trans hle5).trans hle6).trans hle7))) ti3 rfl rfl rfl <| WL.nu rfl, fun _ hSw => WL.loadG1 hSw (Cells.drop 1 (hc1.mono (((((hle2.trans hle3).trans hle4).trans hle5).trans hle6).trans hle7))) ti3 rfl rfl rfl <| WL.nu rfl, fun _ hSw => WL.loadG1 hSw (Cells.drop 1 (hc2.mono ((((hle3.trans hle4).trans hle5).trans hle6).trans hle7))) ti3 rfl rfl rfl <| WL.nu rfl, fun _ hSw => WL.loadG1 hSw (Cells.drop 0 (Cells.drop 6 hc3)) ti3 rfl rfl rfl <| WL.nu rfl, trivial⟩
        · exact ⟨fun _ hSw => WL.callD [.int .i64 a.a, .int .i64 b.a] #[] hb161 rfl rfl rfl hSw (c_iSign _ _ hSw.imm a.a b.a  ) (congrArg (Value.int .i64) he1.symm), fun _ hSw => WL.callD [.int .i64 a.b, .int .i64 b.b] #[] hb161 rfl rfl rfl hSw (c_iSign _ _ hSw.imm a.b b.b  ) (congrArg (Value.int .i64) he4.symm), trivial⟩
        refine TL.step rfl ?_
        refine WL.assign rfl ?_
        refine WL.nil ⟨fun h => absurd h (by decide), ?_⟩
        refine WC.ret ?_
        exact ⟨.int .i64 4, rfl, .int .i64 4, _, rfl, hS16.res, (congrArg (Value.int .i64) (by exact relS_mid h1 h2 (by assumption) (by assumption) (by (repeat' split) <;> omega)))⟩
      · refine dr ⟨[0, 1, 0, 4, 15, 31, 0, 64, 0, 256, 991, 2015, 63, 8191, 16383, 32767], [0, 2, 5, 6, 8, 11, 12, 13], [1, 3, 7, 9, 14], [4, 10], [15]⟩ [(38, .pointer (some (p1.add 0))), (40, .pointer (some (p2.add 0))), (43, .int .i64 2), (44, .pointer (some (p1.add 1))), (46, .pointer (some (p2.add 1))), (49, .int .i64 1), (50, .pointer (some ((⟨b1, 0, none⟩ : Addr).add 6))), (51, .pointer (some (((⟨b1, 0, none⟩ : Addr).add 6).add 1))), (39, .int .i64 a.a), (41, .int .i64 b.a), (45, .int .i64 a.b), (47, .int .i64 b.b), (52, .int .i64 5), (42, .int .i64 1), (48, .int .i64 0)] [] hS9 ?_ ?_ ?_ (fun w8 hS17 => ?_)
        · exact ⟨fun _ _ => WL.fieldAddr _ 0 _ fl46 rfl rfl rfl <| WL.nu rfl, fun _ _ => WL.fieldAddr _ 0 _ fl46 rfl rfl rfl <| WL.nu rfl, fun _ _ => WL.ar .add rfl 1 1 rfl rfl rfl (by constructor <;> decide) <| WL.nu rfl, fun _ _ => WL.fieldAddr _ 1 _ fl46 rfl rfl rfl <| WL.nu rfl, fun _ _ => WL.fieldAddr _ 1 _ fl46 rfl rfl rfl <| WL.nu rfl, fun _ _ => WL.ar .add rfl 0 1 rfl rfl rfl (by constructor <;> decide) <| WL.nu rfl, fun _ _ => WL.indexAddrA _ 3 2 rfl ul177 ti176 rfl rfl rfl <| WL.nu rfl, fun _ _ => WL.indexAddrA _ 3 1 rfl ul176 ti3 rfl rfl rfl <| WL.nu rfl, trivial⟩
        · exact ⟨fun _ hSw => WL.loadG1 hSw (Cells.drop 0 (hc1.mono (((((hle2.trans hle3).trans hle4).trans hle5).trans hle6).trans hle7))) ti3 rfl rfl rfl <| WL.nu rfl, fun _ hSw => WL.loadG1 hSw (Cells.drop 0 (hc2.mono ((((hle3.trans hle4).trans hle5).trans hle6).trans hle7))) ti3 rfl rfl rfl <| WL.nu rfl, fun _ hSw => WL.loadG1 hSw (Cells.drop 1 (hc1.mono (((((hle2.trans hle3).trans hle4).trans hle5).trans hle6).trans hle7))) ti3 rfl rfl rfl <| WL.nu rfl, fun _ hSw => WL.loadG1 hSw (Cells.drop 1 (hc2.mono ((((hle3.trans hle4).trans hle5).trans hle6).trans hle7))) ti3 rfl rfl rfl <| WL.nu rfl, fun _ hSw => WL.loadG1 hSw (Cells.drop 1 (Cells.drop 6 hc3)) ti3 rfl rfl rfl <| WL.nu rfl, trivial⟩
        · exact ⟨fun _ hSw => WL.callD [.int .i64 a.a, .int .i64 b.a] #[] hb161 rfl rfl rfl hSw (c_iSign _ _ hSw.imm a.a b.a  ) (congrArg (Value.int .i64) he1.symm), fun _ hSw => WL.callD [.int .i64 a.b, .int .i64 b.b] #[] hb161 rfl rfl rfl hSw (c_iSign _ _ hSw.imm a.b b.b  ) (congrArg (Value.int .i64) he4.symm), trivial⟩
        refine TL.step rfl ?_
        refine WL.assign rfl ?_
        refine WL.nil ⟨fun h => absurd h (by decide), ?_⟩
        refine WC.ret ?_
        exact ⟨.int .i64 5, rfl, .int .i64 5, _, rfl, hS17.res, (congrArg (Value.int .i64) (by exact relS_mid h1 h2 (by assumption) (by assumption) (by (repeat' split) <;> omega)))⟩
      refine dr ⟨[0, 1, 0, 4, 15, 31, 0, 64, 0, 256, 991, 2015, 63, 8191, 16383, 32767], [0, 2, 5, 6, 8, 11, 12, 13], [1, 3, 7, 9, 14], [4, 10], [15]⟩ [(38, .pointer (some (p1.add 0))), (40, .pointer (some (p2.add 0))), (43, .int .i64 2), (44, .pointer (some (p1.add 1))), (46, .pointer (some (p2.add 1))), (49, .int .i64 2), (50, .pointer (some ((⟨b1, 0, none⟩ : Addr).add 6))), (51, .pointer (some (((⟨b1, 0, none⟩ : Addr).add 6).add 2))), (39, .int .i64 a.a), (41, .int .i64 b.a), (45, .int .i64 a.b), (47, .int .i64 b.b), (52, .int .i64 10), (42, .int .i64 1), (48, .int .i64 1)] [] hS9 ?_ ?_ ?_ (fun w8 hS18 => ?_)
      · exact ⟨fun _ _ => WL.fieldAddr _ 0 _ fl46 rfl rfl rfl <| WL.nu rfl, fun _ _ => WL.fieldAddr _ 0 _ fl46 rfl rfl rfl <| WL.nu rfl, fun _ _ => WL.ar .add rfl 1 1 rfl rfl rfl (by constructor <;> decide) <| WL.nu rfl, fun _ _ => WL.fieldAddr _ 1 _ fl46 rfl rfl rfl <| WL.nu rfl, fun _ _ => WL.fieldAddr _ 1 _ fl46 rfl rfl rfl <| WL.nu rfl, fun _ _ => WL.ar .add rfl 1 1 rfl rfl rfl (by constructor <;> decide) <| WL.nu rfl, fun _ _ => WL.indexAddrA _ 3 2 rfl ul177 ti176 rfl rfl rfl <| WL.nu rfl, fun _ _ => WL.indexAddrA _ 3 2 rfl ul176 ti3 rfl rfl rfl <| WL.nu rfl, trivial⟩
      · exact ⟨fun _ hSw => WL.loadG1 hSw (Cells.drop 0 (hc1.mono (((((hle2.trans hle3).trans hle4).trans hle5).trans hle6).trans hle7))) ti3 rfl rfl rfl <| WL.nu rfl, fun _ hSw => WL.loadG1 hSw (Cells.drop 0 (hc2.mono ((((hle3.trans hle4).trans hle5).trans hle6).trans hle7))) ti3 rfl rfl rfl <| WL.nu rfl, fun _ hSw => WL.loadG1 hSw (Cells.drop 1 (hc1.mono (((((hle2.trans hle3).trans hle4).trans hle5).trans hle6).trans hle7))) ti3 rfl rfl rfl <| WL.nu rfl, fun _ hSw => WL.loadG1 hSw (Cells.drop 1 (hc2.mono ((((hle3.trans hle4).trans hle5).trans hle6).trans hle7))) ti3 rfl rfl rfl <| WL.nu rfl, fun _ hSw => WL.loadG1 hSw (Cells.drop 2 (Cells.drop 6 hc3)) ti3 rfl rfl rfl <| WL.nu rfl, trivial⟩
      · exact ⟨fun _ hSw => WL.callD [.int .i64 a.a, .int .i64 b.a] #[] hb161 rfl rfl rfl hSw (c_iSign _ _ hSw.imm a.a b.a  ) (congrArg (Value.int .i64) he1.symm), fun _ hSw => WL.callD [.int .i64 a.b, .int .i64 b.b] #[] hb161 rfl rfl rfl hSw (c_iSign _ _ hSw.imm a.b b.b  ) (congrArg (Value.int .i64) he4.symm), trivial⟩
      refine TL.step rfl ?_
      refine WL.assign rfl ?_
      refine WL.nil ⟨fun h => absurd h (by decide), ?_⟩
      refine WC.ret ?_
      exact ⟨.int .i64 10, rfl, .int .i64 10, _, rfl, hS18.res, (congrArg (Value.int .i64) (by exact relS_mid h1 h2 (by assumption) (by assumption) (by (repeat' split) <;> omega)))⟩
    refine WL.not false rfl rfl ?_
    refine WL.pickF rfl rfl <| WL.nil <| WC.condT rfl <| WC.seq <| WC.region rfl <| WL.assign rfl <| WL.nil ?_
    refine WC.ret ?_
    exact ⟨.int .i64 (-1), rfl, .int .i64 (-1), _, rfl, hS4.res, (congrArg (Value.int .i64) (by exact (relS_no (.inr h2)).symm))⟩
  refine WL.not false rfl rfl ?_
  refine WL.move rfl <| WL.no rfl rfl <| WL.no rfl rfl <| WL.no rfl rfl <| WL.pickT rfl rfl <| WL.nil <| WC.condT rfl <| WC.seq <| WC.region rfl <| WL.assign rfl <| WL.nil ?_
  refine WC.ret ?_
  exact ⟨.int .i64 (-1), rfl, .int .i64 (-1), _, rfl, hS3.res, (congrArg (Value.int .i64) (by exact (relS_no (.inl h1)).symm))⟩

theorem c_r10Of (G : GH) (w : World) (hG : G.In w) (a b : Span) (ca : List Value) (hca : SpanE.rep G a ca) (cb : List Value) (hcb : SpanE.rep G b cb)  : Calls Tryz.prog (nat_lit 63) #[.agg ca.toArray, .agg cb.toArray] w fun e w' => ∃ r G', e = .returned r ∧ Res [] w G w' G' ∧ r = .int .i64 (relS a b) := by
  refine calls_of_WC (N := 73) Tryz.func63 rfl rfl rfl ?_
  have hS := St.start (X := []) hG
  obtain ⟨rfl, hb1, hb2⟩ := SpanE_open hca
  obtain ⟨rfl, hb3, hb4⟩ := SpanE_open hcb
  refine WC.seq <| WC.region rfl ?_
  refine WL.boxG [.int .i64 a.a, .int .i64 a.b] _ hS rfl rfl rfl (fun p1 w1 G1 hle1 hsp1 hc1 hS1 => ?_)
  refine WL.boxG [.int .i64 b.a, .int .i64 b.b] _ hS1 rfl rfl rfl (fun p2 w2 G2 hle2 hsp2 hc2 hS2 => ?_)
  refine WL.assign rfl <| WL.nil <| WC.seq <| WC.seq <| WC.region rfl ?_
  refine WL.loadGAt hS2 (hc1.mono hle2) [.int .i64 a.a, .int .i64 a.b] ti46 rfl rfl rfl rfl rfl ?_
  refine WL.callF [.agg #[.int .i64 a.a, .int .i64 a.b]] #[] hb124 rfl rfl rfl ((c_r10Valid _ _ hS2.imm a _ (SpanE_mk a hb1 hb2) ).mono ?_)
  rintro e w3 ⟨r1, G3, rfl, hres1, hpost1⟩
  refine ⟨_, rfl, ?_⟩
  have hS3 := hS2.call hres1
  have hle3 := hres1.le
  subst hpost1
  refine WL.split (fun (h1 : (spanV a) = true) => ?_) (fun (h1 : (spanV a) = false) => ?_)
  · refine WL.not true rfl rfl ?_
    refine WL.move rfl ?_
    refine WL.loadGAt hS3 (hc2.mono hle3) [.int .i64 b.a, .int .i64 b.b] ti46 rfl rfl rfl rfl rfl ?_
    refine WL.callF [.agg #[.int .i64 b.a, .int .i64 b.b]] #[] hb124 rfl rfl rfl ((c_r10Valid _ _ hS3.imm b _ (SpanE_mk b hb3 hb4) ).mono ?_)
    rintro e w4 ⟨r2, G4, rfl, hres2, hpost2⟩
    refine ⟨_, rfl, ?_⟩
    have hS4 := hS3.call hres2
    have hle4 := hres2.le
    subst hpost2
    refine WL.split (fun (h2 : (spanV b) = true) => ?_) (fun (h2 : (spanV b) = false) => ?_)
    · refine WL.not true rfl rfl ?_
      refine WL.pickF rfl rfl <| WL.nil <| WC.condF rfl <| WC.skip <| WC.seq <| WC.seq <| WC.region rfl ?_
      refine WL.fieldAddr _ 1 _ fl46 rfl rfl rfl ?_
      refine WL.loadG1 hS4 (Cells.drop 1 (hc1.mono ((hle2.trans hle3).trans hle4))) ti3 rfl rfl rfl ?_
      refine WL.fieldAddr _ 0 _ fl46 rfl rfl rfl ?_
      refine WL.loadG1 hS4 (Cells.drop 0 (hc2.mono (hle3.trans hle4))) ti3 rfl rfl rfl ?_
      refine WL.lssS a.b b.a rfl rfl rfl (fun h3 => ?_) (fun h3 => ?_)
      · refine WL.nil <| WC.condT rfl <| WC.seq <| WC.region rfl <| WL.assign rfl <| WL.nil ?_
        refine WC.ret ?_
        exact ⟨.int .i64 0, rfl, .int .i64 0, _, rfl, hS4.res, (congrArg (Value.int .i64) (by (rw [relS_yes h1 h2]; (repeat' split) <;> omega)))⟩
      refine WL.nil <| WC.condF rfl <| WC.skip <| WC.seq <| WC.seq <| WC.region rfl ?_
      refine WL.fieldAddr _ 1 _ fl46 rfl rfl rfl ?_
      refine WL.loadG1 hS4 (Cells.drop 1 (hc1.mono ((hle2.trans hle3).trans hle4))) ti3 rfl rfl rfl ?_
      refine WL.fieldAddr _ 0 _ fl46 rfl rfl rfl ?_
      refine WL.loadG1 hS4 (Cells.drop 0 (hc2.mono (hle3.trans hle4))) ti3 rfl rfl rfl ?_
      refine WL.eqlS a.b b.a rfl rfl rfl (fun h4 => ?_) (fun h4 => ?_)
      · refine WL.nil <| WC.condT rfl <| WC.seq <| WC.region rfl <| WL.assign rfl <| WL.nil ?_
        refine WC.ret ?_
        exact ⟨.int .i64 1, rfl, .int .i64 1, _, rfl, hS4.res, (congrArg (Value.int .i64) (by (rw [relS_yes h1 h2]; (repeat' split) <;> omega)))⟩
      refine WL.nil <| WC.condF rfl <| WC.skip <| WC.seq <| WC.seq <| WC.region rfl ?_
      refine WL.fieldAddr _ 1 _ fl46 rfl rfl rfl ?_
      refine WL.loadG1 hS4 (Cells.drop 1 (hc2.mono (hle3.trans hle4))) ti3 rfl rfl rfl ?_
      refine WL.fieldAddr _ 0 _ fl46 rfl rfl rfl ?_
      refine WL.loadG1 hS4 (Cells.drop 0 (hc1.mono ((hle2.trans hle3).trans hle4))) ti3 rfl rfl rfl ?_
      refine WL.lssS b.b a.a rfl rfl rfl (fun h5 => ?_) (fun h5 => ?_)
      · refine WL.nil <| WC.condT rfl <| WC.seq <| WC.region rfl <| WL.assign rfl <| WL.nil ?_
        refine WC.ret ?_
        exact ⟨.int .i64 12, rfl, .int .i64 12, _, rfl, hS4.res, (congrArg (Value.int .i64) (by (rw [relS_yes h1 h2]; (repeat' split) <;> omega)))⟩
      refine WL.nil <| WC.condF rfl <| WC.skip <| WC.seq <| WC.seq <| WC.region rfl ?_
      refine WL.fieldAddr _ 1 _ fl46 rfl rfl rfl ?_
      refine WL.loadG1 hS4 (Cells.drop 1 (hc2.mono (hle3.trans hle4))) ti3 rfl rfl rfl ?_
      refine WL.fieldAddr _ 0 _ fl46 rfl rfl rfl ?_
      refine WL.loadG1 hS4 (Cells.drop 0 (hc1.mono ((hle2.trans hle3).trans hle4))) ti3 rfl rfl rfl ?_
      refine WL.eqlS b.b a.a rfl rfl rfl (fun h6 => ?_) (fun h6 => ?_)
      · refine WL.nil <| WC.condT rfl <| WC.seq <| WC.region rfl <| WL.assign rfl <| WL.nil ?_
        refine WC.ret ?_
        exact ⟨.int .i64 11, rfl, .int .i64 11, _, rfl, hS4.res, (congrArg (Value.int .i64) (by (rw [relS_yes h1 h2]; (repeat' split) <;> omega)))⟩
      refine WL.nil <| WC.condF rfl <| WC.skip <| WC.seq <| WC.seq <| WC.region rfl ?_
      refine WL.fieldAddr _ 0 _ fl46 rfl rfl rfl ?_
      refine WL.loadG1 hS4 (Cells.drop 0 (hc1.mono ((hle2.trans hle3).trans hle4))) ti3 rfl rfl rfl ?_
      refine WL.fieldAddr _ 0 _ fl46 rfl rfl rfl ?_
      refine WL.loadG1 hS4 (Cells.drop 0 (hc2.mono (hle3.trans hle4))) ti3 rfl rfl rfl ?_
      refine WL.lssS a.a b.a rfl rfl rfl (fun h7 => ?_) (fun h7 => ?_)
      · refine WL.nil <| WC.condT rfl <| WC.seq <| WC.seq <| WC.region rfl ?_
        refine WL.fieldAddr _ 1 _ fl46 rfl rfl rfl ?_
        refine WL.loadG1 hS4 (Cells.drop 1 (hc1.mono ((hle2.trans hle3).trans hle4))) ti3 rfl rfl rfl ?_
        refine WL.fieldAddr _ 1 _ fl46 rfl rfl rfl ?_
        refine WL.loadG1 hS4 (Cells.drop 1 (hc2.mono (hle3.trans hle4))) ti3 rfl rfl rfl ?_
        refine WL.lssS a.b b.b rfl rfl rfl (fun h8 => ?_) (fun h8 => ?_)
        · refine WL.nil <| WC.condT rfl <| WC.seq <| WC.region rfl <| WL.assign rfl <| WL.nil ?_
          refine WC.ret ?_
          exact ⟨.int .i64 2, rfl, .int .i64 2, _, rfl, hS4.res, (congrArg (Value.int .i64) (by (rw [relS_yes h1 h2]; (repeat' split) <;> omega)))⟩
        refine WL.nil <| WC.condF rfl <| WC.skip <| WC.seq <| WC.seq <| WC.region rfl ?_
        refine WL.fieldAddr _ 1 _ fl46 rfl rfl rfl ?_
        refine WL.loadG1 hS4 (Cells.drop 1 (hc1.mono ((hle2.trans hle3).trans hle4))) ti3 rfl rfl rfl ?_
        refine WL.fieldAddr _ 1 _ fl46 rfl rfl rfl ?_
        refine WL.loadG1 hS4 (Cells.drop 1 (hc2.mono (hle3.trans hle4))) ti3 rfl rfl rfl ?_
        refine WL.eqlS a.b b.b rfl rfl rfl (fun h9 => ?_) (fun h9 => ?_)
        · refine WL.nil <| WC.condT rfl <| WC.seq <| WC.region rfl <| WL.assign rfl <| WL.nil ?_
          refine WC.ret ?_
          exact ⟨.int .i64 7, rfl, .int .i64 7, _, rfl, hS4.res, (congrArg (Value.int .i64) (by (rw [relS_yes h1 h2]; (repeat' split) <;> omega)))⟩
        refine WL.nil <| WC.condF rfl <| WC.skip <| WC.seq <| WC.region rfl <| WL.assign rfl <| WL.nil ?_
        refine WC.ret ?_
        exact ⟨.int .i64 8, rfl, .int .i64 8, _, rfl, hS4.res, (congrArg (Value.int .i64) (by (rw [relS_yes h1 h2]; (repeat' split) <;> omega)))⟩
      refine WL.nil <| WC.condF rfl <| WC.skip <| WC.seq <| WC.seq <| WC.region rfl ?_
      refine WL.fieldAddr _ 0 _ fl46 rfl rfl rfl ?_
      refine WL.loadG1 hS4 (Cells.drop 0 (hc1.mono ((hle2.trans hle3).trans hle4))) ti3 rfl rfl rfl ?_
      refine WL.fieldAddr _ 0 _ fl46 rfl rfl rfl ?_
      refine WL.loadG1 hS4 (Cells.drop 0 (hc2.mono (hle3.trans hle4))) ti3 rfl rfl rfl ?_
      refine WL.eqlS a.a b.a rfl rfl rfl (fun h10 => ?_) (fun h10 => ?_)
      · refine WL.nil <| WC.condT rfl <| WC.seq <| WC.seq <| WC.region rfl ?_
        refine WL.fieldAddr _ 1 _ fl46 rfl rfl rfl ?_
        refine WL.loadG1 hS4 (Cells.drop 1 (hc1.mono ((hle2.trans hle3).trans hle4))) ti3 rfl rfl rfl ?_
        refine WL.fieldAddr _ 1 _ fl46 rfl rfl rfl ?_
        refine WL.loadG1 hS4 (Cells.drop 1 (hc2.mono (hle3.trans hle4))) ti3 rfl rfl rfl ?_
        refine WL.lssS a.b b.b rfl rfl rfl (fun h11 => ?_) (fun h11 => ?_)
        · refine WL.nil <| WC.condT rfl <| WC.seq <| WC.region rfl <| WL.assign rfl <| WL.nil ?_
          refine WC.ret ?_
          exact ⟨.int .i64 3, rfl, .int .i64 3, _, rfl, hS4.res, (congrArg (Value.int .i64) (by (rw [relS_yes h1 h2]; (repeat' split) <;> omega)))⟩
        refine WL.nil <| WC.condF rfl <| WC.skip <| WC.seq <| WC.seq <| WC.region rfl ?_
        refine WL.fieldAddr _ 1 _ fl46 rfl rfl rfl ?_
        refine WL.loadG1 hS4 (Cells.drop 1 (hc1.mono ((hle2.trans hle3).trans hle4))) ti3 rfl rfl rfl ?_
        refine WL.fieldAddr _ 1 _ fl46 rfl rfl rfl ?_
        refine WL.loadG1 hS4 (Cells.drop 1 (hc2.mono (hle3.trans hle4))) ti3 rfl rfl rfl ?_
        refine WL.eqlS a.b b.b rfl rfl rfl (fun h12 => ?_) (fun h12 => ?_)
        · refine WL.nil <| WC.condT rfl <| WC.seq <| WC.region rfl <| WL.assign rfl <| WL.nil ?_
          refine WC.ret ?_
          exact ⟨.int .i64 6, rfl, .int .i64 6, _, rfl, hS4.res, (congrArg (Value.int .i64) (by (rw [relS_yes h1 h2]; (repeat' split) <;> omega)))⟩
        refine WL.nil <| WC.condF rfl <| WC.skip <| WC.seq <| WC.region rfl <| WL.assign rfl <| WL.nil ?_
        refine WC.ret ?_
        exact ⟨.int .i64 9, rfl, .int .i64 9, _, rfl, hS4.res, (congrArg (Value.int .i64) (by (rw [relS_yes h1 h2]; (repeat' split) <;> omega)))⟩
      refine WL.nil <| WC.condF rfl <| WC.skip <| WC.seq <| WC.seq <| WC.region rfl ?_
      refine WL.fieldAddr _ 1 _ fl46 rfl rfl rfl ?_
      refine WL.loadG1 hS4 (Cells.drop 1 (hc1.mono ((hle2.trans hle3).trans hle4))) ti3 rfl rfl rfl ?_
      refine WL.fieldAddr _ 1 _ fl46 rfl rfl rfl ?_
      refine WL.loadG1 hS4 (Cells.drop 1 (hc2.mono (hle3.trans hle4))) ti3 rfl rfl rfl ?_
      refine WL.lssS a.b b.b rfl rfl rfl (fun h13 => ?_) (fun h13 => ?_)
      · refine WL.nil <| WC.condT rfl <| WC.seq <| WC.region rfl <| WL.assign rfl <| WL.nil ?_
        refine WC.ret ?_
        exact ⟨.int .i64 4, rfl, .int .i64 4, _, rfl, hS4.res, (congrArg (Value.int .i64) (by (rw [relS_yes h1 h2]; (repeat' split) <;> omega)))⟩
      refine WL.nil <| WC.condF rfl <| WC.skip <| WC.seq <| WC.seq <| WC.region rfl ?_
      refine WL.fieldAddr _ 1 _ fl46 rfl rfl rfl ?_
      refine WL.loadG1 hS4 (Cells.drop 1 (hc1.mono ((hle2.trans hle3).trans hle4))) ti3 rfl rfl rfl ?_
      refine WL.fieldAddr _ 1 _ fl46 rfl rfl rfl ?_
      refine WL.loadG1 hS4 (Cells.drop 1 (hc2.mono (hle3.trans hle4))) ti3 rfl rfl rfl ?_
      refine WL.eqlS a.b b.b rfl rfl rfl (fun h14 => ?_) (fun h14 => ?_)
      · refine WL.nil <| WC.condT rfl <| WC.seq <| WC.region rfl <| WL.assign rfl <| WL.nil ?_
        refine WC.ret ?_
        exact ⟨.int .i64 5, rfl, .int .i64 5, _, rfl, hS4.res, (congrArg (Value.int .i64) (by (rw [relS_yes h1 h2]; (repeat' split) <;> omega)))⟩
      refine WL.nil <| WC.condF rfl <| WC.skip <| WC.seq <| WC.region rfl <| WL.assign rfl <| WL.nil ?_
      refine WC.ret ?_
      exact ⟨.int .i64 10, rfl, .int .i64 10, _, rfl, hS4.res, (congrArg (Value.int .i64) (by (rw [relS_yes h1 h2]; (repeat' split) <;> omega)))⟩
    refine WL.not false rfl rfl ?_
    refine WL.pickF rfl rfl <| WL.nil <| WC.condT rfl <| WC.seq <| WC.region rfl <| WL.assign rfl <| WL.nil ?_
    refine WC.ret ?_
    exact ⟨.int .i64 (-1), rfl, .int .i64 (-1), _, rfl, hS4.res, (congrArg (Value.int .i64) (by exact (relS_no (.inr h2)).symm))⟩
  refine WL.not false rfl rfl ?_
  refine WL.move rfl <| WL.no rfl rfl <| WL.no rfl rfl <| WL.no rfl rfl <| WL.pickT rfl rfl <| WL.nil <| WC.condT rfl <| WC.seq <| WC.region rfl <| WL.assign rfl <| WL.nil ?_
  refine WC.ret ?_
  exact ⟨.int .i64 (-1), rfl, .int .i64 (-1), _, rfl, hS3.res, (congrArg (Value.int .i64) (by exact (relS_no (.inl h1)).symm))⟩

theorem c_Holds (G : GH) (w : World) (hG : G.In w) (s : Int) (a b : Span) (ca : List Value) (hca : SpanE.rep G a ca) (cb : List Value) (hcb : SpanE.rep G b cb)  : Calls Tryz.prog (nat_lit 59) #[.int .i64 s, .agg ca.toArray, .agg cb.toArray] w fun e w' => ∃ r G', e = .returned r ∧ Res [] w G w' G' ∧ r = .bool (holdsB s a b) := by
  refine calls_of_WC (N := 32) Tryz.func59 rfl rfl rfl ?_
  have hS := St.start (X := []) hG
  obtain ⟨rfl, hb1, hb2⟩ := SpanE_open hca
  obtain ⟨rfl, hb3, hb4⟩ := SpanE_open hcb
  refine WC.seq <| WC.region rfl ?_
  refine WL.boxG [.int .i64 a.a, .int .i64 a.b] _ hS rfl rfl rfl (fun p1 w1 G1 hle1 hsp1 hc1 hS1 => ?_)
  refine WL.boxG [.int .i64 b.a, .int .i64 b.b] _ hS1 rfl rfl rfl (fun p2 w2 G2 hle2 hsp2 hc2 hS2 => ?_)
  refine WL.assign rfl <| WL.nil <| WC.seq <| WC.region rfl ?_
  refine WL.loadGAt hS2 (hc1.mono hle2) [.int .i64 a.a, .int .i64 a.b] ti46 rfl rfl rfl rfl rfl ?_
  refine WL.loadGAt hS2 hc2 [.int .i64 b.a, .int .i64 b.b] ti46 rfl rfl rfl rfl rfl ?_
  refine WL.callF [.agg #[.int .i64 a.a, .int .i64 a.b], .agg #[.int .i64 b.a, .int .i64 b.b]] #[] hb120 rfl rfl rfl ((c_iOf _ _ hS2.imm a b _ (SpanE_mk a hb1 hb2) _ (SpanE_mk b hb3 hb4) ).mono ?_)
  rintro e w3 ⟨r1, G3, rfl, hres1, hpost1⟩
  refine ⟨_, rfl, ?_⟩
  have hS3 := hS2.call hres1
  have hle3 := hres1.le
  subst hpost1
  refine WL.assign rfl <| WL.nil <| WC.seq <| WC.region rfl <| WL.move rfl ?_
  refine WL.callF [.int .i64 s] #[] hb121 rfl rfl rfl ((c_isSet _ _ hS3.imm s  ).mono ?_)
  rintro e w4 ⟨r2, G4, rfl, hres2, hpost2⟩
  refine ⟨_, rfl, ?_⟩
  have hS4 := hS3.call hres2
  have hle4 := hres2.le
  subst hpost2
  refine WL.split (fun (h1 : (isSetB s) = true) => ?_) (fun (h1 : (isSetB s) = false) => ?_)
  · refine WL.move rfl ?_
    refine WL.loadGAt hS4 (hc1.mono ((hle2.trans hle3).trans hle4)) [.int .i64 a.a, .int .i64 a.b] ti46 rfl rfl rfl rfl rfl ?_
    refine WL.callF [.agg #[.int .i64 a.a, .int .i64 a.b]] #[] hb122 rfl rfl rfl ((c_iValid _ _ hS4.imm a _ (SpanE_mk a hb1 hb2) ).mono ?_)
    rintro e w5 ⟨r3, G5, rfl, hres3, hpost3⟩
    refine ⟨_, rfl, ?_⟩
    have hS5 := hS4.call hres3
    have hle5 := hres3.le
    subst hpost3
    refine WL.split (fun (h2 : (spanV a) = true) => ?_) (fun (h2 : (spanV a) = false) => ?_)
    · refine WL.pickT rfl rfl <| WL.move rfl ?_
      refine WL.loadGAt hS5 (hc2.mono ((hle3.trans hle4).trans hle5)) [.int .i64 b.a, .int .i64 b.b] ti46 rfl rfl rfl rfl rfl ?_
      refine WL.callF [.agg #[.int .i64 b.a, .int .i64 b.b]] #[] hb122 rfl rfl rfl ((c_iValid _ _ hS5.imm b _ (SpanE_mk b hb3 hb4) ).mono ?_)
      rintro e w6 ⟨r4, G6, rfl, hres4, hpost4⟩
      refine ⟨_, rfl, ?_⟩
      have hS6 := hS5.call hres4
      have hle6 := hres4.le
      subst hpost4
      refine WL.split (fun (h3 : (spanV b) = true) => ?_) (fun (h3 : (spanV b) = false) => ?_)
      · refine WL.pickT rfl rfl <| WL.move rfl <| WL.move rfl ?_
        refine WL.geqS (relS a b) 0 rfl rfl rfl (fun h4 => ?_) (fun h4 => ?_)
        · refine WL.pickT rfl rfl <| WL.move rfl <| WL.move rfl <| WL.move rfl ?_
          refine WL.shrI s (relS a b) (by have hr9 := relS_range (by assumption : spanV a = true) (by assumption : spanV b = true); omega) (by have hr9 := relS_range (by assumption : spanV a = true) (by assumption : spanV b = true); omega) rfl rfl rfl ?_
          refine WL.andI (s / 2 ^ (relS a b).toNat) 1 rfl rfl rfl ?_
          refine WL.cmp .eql rfl .i64 (Go.bits .and .i64 (s / 2 ^ (relS a b).toNat) 1) 1 rfl rfl rfl ?_
          refine WL.pickT rfl rfl <| WL.assign rfl <| WL.nil ?_
          refine WC.ret ?_
          exact ⟨.bool (Cmp.b .eql (Go.bits .and .i64 (s / 2 ^ (relS a b).toNat) 1) 1), rfl, .bool (Cmp.b .eql (Go.bits .and .i64 (s / 2 ^ (relS a b).toNat) 1) 1), _, rfl, hS6.res, (congrArg Value.bool (by (rw [holds_bit (by assumption) (by assumption) (by assumption)]; first | rfl | exact (decide_eq_true (by assumption)).symm | exact (decide_eq_false (by assumption)).symm)))⟩
        refine WL.pickT rfl rfl <| WL.move rfl <| WL.no rfl rfl <| WL.no rfl rfl <| WL.no rfl rfl <| WL.no rfl rfl <| WL.no rfl rfl <| WL.pickF rfl rfl <| WL.assign rfl <| WL.nil ?_
        refine WC.ret ?_
        exact ⟨.bool false, rfl, .bool false, _, rfl, hS6.res, (congrArg Value.bool (by (have hr9 := relS_range (by assumption : spanV a = true) (by assumption : spanV b = true); exfalso; omega)))⟩
      refine WL.pickT rfl rfl <| WL.move rfl <| WL.no rfl rfl <| WL.no rfl rfl <| WL.pickF rfl rfl <| WL.move rfl <| WL.no rfl rfl <| WL.no rfl rfl <| WL.no rfl rfl <| WL.no rfl rfl <| WL.no rfl rfl <| WL.pickF rfl rfl <| WL.assign rfl <| WL.nil ?_
      refine WC.ret ?_
      exact ⟨.bool false, rfl, .bool false, _, rfl, hS6.res, (congrArg Value.bool (by exact (holds_1 (.inr (.inr (by assumption)))).symm))⟩
    refine WL.pickT rfl rfl <| WL.move rfl <| WL.no rfl rfl <| WL.no rfl rfl <| WL.pickF rfl rfl <| WL.move rfl <| WL.no rfl rfl <| WL.no rfl rfl <| WL.pickF rfl rfl <| WL.move rfl <| WL.no rfl rfl <| WL.no rfl rfl <| WL.no rfl rfl <| WL.no rfl rfl <| WL.no rfl rfl <| WL.pickF rfl rfl <| WL.assign rfl <| WL.nil ?_
    refine WC.ret ?_
    exact ⟨.bool false, rfl, .bool false, _, rfl, hS5.res, (congrArg Value.bool (by exact (holds_1 (.inr (.inl (by assumption)))).symm))⟩
  refine WL.move rfl <| WL.no rfl rfl <| WL.no rfl rfl <| WL.pickF rfl rfl <| WL.move rfl <| WL.no rfl rfl <| WL.no rfl rfl <| WL.pickF rfl rfl <| WL.move rfl <| WL.no rfl rfl <| WL.no rfl rfl <| WL.pickF rfl rfl <| WL.move rfl <| WL.no rfl rfl <| WL.no rfl rfl <| WL.no rfl rfl <| WL.no rfl rfl <| WL.no rfl rfl <| WL.pickF rfl rfl <| WL.assign rfl <| WL.nil ?_
  refine WC.ret ?_
  exact ⟨.bool false, rfl, .bool false, _, rfl, hS4.res, (congrArg Value.bool (by exact (holds_1 (.inl (by assumption))).symm))⟩
end Go.Civ
