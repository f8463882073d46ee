/- Walks, printed by specs38.py. -/
import Derived.Test.YtapjalhjfblonaaGreatProg
import Derived.KernelRfl
import Derived.WalkKit
import Derived.Test.YtapjalhjfblonaaGreatWq
import Derived.Test.YtapjalhjfblonaaGreatWp0
import Derived.Test.YtapjalhjfblonaaGreatWo
import Derived.Test.YtapjalhjfblonaaGreatWk
import Derived.Test.YtapjalhjfblonaaGreatWl
set_option linter.unusedVariables false
set_option linter.unusedSimpArgs false
set_option maxRecDepth 100000
set_option maxHeartbeats 4000000
namespace Go.Civ
open Go.Proofs


theorem c_r10Meet (G : GH) (w : World) (hG : G.In w) (a b : Span) (ca : List Value) (hca : SpanE.rep G a ca) (cb : List Value) (hcb : SpanE.rep G b cb)  : Calls Tryz.prog (nat_lit 87) #[.agg ca.toArray, .agg cb.toArray] w fun e w' => ∃ r G', e = .returned r ∧ Res [] w G w' G' ∧ ∃ r0 r1, r = .tuple #[r0, r1] ∧ Is SpanE G' r0 (meetS a b) ∧ r1 = .bool (meetB a b) := by
  refine calls_of_WCR (N := 35) Tryz.func87 rfl rfl rfl ?_
  have hS := St.start (X := []) hG
  obtain ⟨rfl, hb1, hb2⟩ := SpanE_open hca
  obtain ⟨rfl, hb3, hb4⟩ := SpanE_open hcb
  refine WC.seq <| WC.region rfl ?_
  refine WL.boxG [.int .i64 a.a, .int .i64 a.b] _ hS rfl rfl rfl (fun p1 w1 G1 hle1 hsp1 hc1 hS1 => ?_)
  refine WL.boxG [.int .i64 b.a, .int .i64 b.b] _ hS1 rfl rfl rfl (fun p2 w2 G2 hle2 hsp2 hc2 hS2 => ?_)
  refine WL.alloc hS2 ti46 rfl rfl (fun b1 w3 hn1 hS3 => ?_)
  refine WL.assign rfl <| WL.nil <| WC.seq <| WC.region rfl ?_
  refine WL.fieldAddr _ 0 _ fl46 rfl rfl rfl ?_
  refine WL.loadG1 hS3 (Cells.drop 0 (hc1.mono hle2)) ti3 rfl rfl rfl ?_
  refine WL.fieldAddr _ 0 _ fl46 rfl rfl rfl ?_
  refine WL.loadG1 hS3 (Cells.drop 0 hc2) ti3 rfl rfl rfl ?_
  refine WL.maxI a.a b.a rfl rfl rfl ?_
  refine WL.fieldAddr _ 1 _ fl46 rfl rfl rfl ?_
  refine WL.loadG1 hS3 (Cells.drop 1 (hc1.mono hle2)) ti3 rfl rfl rfl ?_
  refine WL.fieldAddr _ 1 _ fl46 rfl rfl rfl ?_
  refine WL.loadG1 hS3 (Cells.drop 1 hc2) ti3 rfl rfl rfl ?_
  refine WL.minI a.b b.b rfl rfl rfl ?_
  refine WL.build _ [(0, [.int .i64 (max a.a b.a)]), (1, [.int .i64 (min a.b b.b)])] [.int .i64 (max a.a b.a), .int .i64 (min a.b b.b)] ti46 rfl fl46 rfl rfl rfl rfl ?_
  refine WL.alloc hS3 ti46 rfl rfl (fun b2 w4 hn2 hS4 => ?_)
  refine WL.store hS4 0 _ _ _ 0 _ [.int .i64 (max a.a b.a), .int .i64 (min a.b b.b)] [.int .i64 (max a.a b.a), .int .i64 (min a.b b.b)] _ rfl rfl ti46 rfl (Nat.le_of_ble_eq_true rfl) rfl rfl rfl rfl rfl rfl (fun w5 hS5 => ?_)
  obtain ⟨G3, hle3, hc3, hS6⟩ := hS5.shutB hn2
  refine WL.nil <| WC.seq <| WC.seq <| WC.region rfl ?_
  refine WL.loadGAt hS6 (hc1.mono (hle2.trans hle3)) [.int .i64 a.a, .int .i64 a.b] ti46 rfl rfl rfl rfl rfl ?_
  refine WL.callF [.agg #[.int .i64 a.a, .int .i64 a.b]] #[] hb124 rfl rfl rfl ((c_r10Valid _ _ hS6.imm a _ (SpanE_mk a hb1 hb2) ).mono ?_)
  rintro e w6 ⟨r1, G4, rfl, hres1, hpost1⟩
  refine ⟨_, rfl, ?_⟩
  have hS7 := hS6.call hres1
  have hle4 := hres1.le
  subst hpost1
  refine WL.split (fun (h1 : (spanV a) = true) => ?_) (fun (h1 : (spanV a) = false) => ?_)
  · refine WL.not true rfl rfl ?_
    refine WL.move rfl ?_
    refine WL.loadGAt hS7 (hc2.mono (hle3.trans hle4)) [.int .i64 b.a, .int .i64 b.b] ti46 rfl rfl rfl rfl rfl ?_
    refine WL.callF [.agg #[.int .i64 b.a, .int .i64 b.b]] #[] hb124 rfl rfl rfl ((c_r10Valid _ _ hS7.imm b _ (SpanE_mk b hb3 hb4) ).mono ?_)
    rintro e w7 ⟨r2, G5, rfl, hres2, hpost2⟩
    refine ⟨_, rfl, ?_⟩
    have hS8 := hS7.call hres2
    have hle5 := hres2.le
    subst hpost2
    refine WL.split (fun (h2 : (spanV b) = true) => ?_) (fun (h2 : (spanV b) = false) => ?_)
    · refine WL.not true rfl rfl ?_
      refine WL.pickF rfl rfl <| WL.move rfl ?_
      refine WL.fieldAddr _ 0 _ fl46 rfl rfl rfl ?_
      refine WL.loadG1 hS8 (Cells.drop 0 (hc3.mono (hle4.trans hle5))) ti3 rfl rfl rfl ?_
      refine WL.fieldAddr _ 1 _ fl46 rfl rfl rfl ?_
      refine WL.loadG1 hS8 (Cells.drop 1 (hc3.mono (hle4.trans hle5))) ti3 rfl rfl rfl ?_
      refine WL.geqS (max a.a b.a) (min a.b b.b) rfl rfl rfl (fun h3 => ?_) (fun h3 => ?_)
      · refine WL.pickF rfl rfl <| WL.nil <| WC.condT rfl <| WC.seq <| WC.region rfl ?_
        refine WL.build _ [] [.int .i64 0, .int .i64 0] ti46 rfl fl46 rfl rfl rfl rfl ?_
        refine WL.store hS8 0 _ _ _ 0 _ [.int .i64 0, .int .i64 0] [.int .i64 0, .int .i64 0] _ rfl rfl ti46 rfl (Nat.le_of_ble_eq_true rfl) rfl rfl rfl rfl rfl rfl (fun w8 hS9 => ?_)
        refine WL.assign rfl <| WL.nil ?_
        refine WC.ret ?_
        exact ⟨[.agg #[.int .i64 0, .int .i64 0], .bool false], ⟨_, _, _, rfl, rfl, hS9.loadA 0 _ _ _ 0 [.int .i64 0, .int .i64 0] rfl rfl rfl ti46 rfl, ⟨_, rfl, rfl⟩⟩, .tuple #[.agg #[.int .i64 0, .int .i64 0], .bool false], _, rfl, hS9.res, (.agg #[.int .i64 0, .int .i64 0]), (.bool false), rfl, (Is.cast ⟨_, rfl, (SpanE_mk (Span.mk 0 0) I64_0 I64_0)⟩ (by exact (meetS_no (.inr (.inr (by assumption)))).symm)), (congrArg Value.bool (by exact (meetB_no (.inr (.inr (by assumption)))).symm))⟩
      refine WL.pickF rfl rfl <| WL.nil <| WC.condF rfl <| WC.skip <| WC.seq <| WC.region rfl ?_
      refine WL.loadGAt hS8 (hc3.mono (hle4.trans hle5)) [.int .i64 (max a.a b.a), .int .i64 (min a.b b.b)] ti46 rfl rfl rfl rfl rfl ?_
      refine WL.store hS8 0 _ _ _ 0 _ [.int .i64 (max a.a b.a), .int .i64 (min a.b b.b)] [.int .i64 (max a.a b.a), .int .i64 (min a.b b.b)] _ rfl rfl ti46 rfl (Nat.le_of_ble_eq_true rfl) rfl rfl rfl rfl rfl rfl (fun w9 hS10 => ?_)
      refine WL.assign rfl <| WL.nil ?_
      refine WC.ret ?_
      exact ⟨[.agg #[.int .i64 (max a.a b.a), .int .i64 (min a.b b.b)], .bool true], ⟨_, _, _, rfl, rfl, hS10.loadA 0 _ _ _ 0 [.int .i64 (max a.a b.a), .int .i64 (min a.b b.b)] rfl rfl rfl ti46 rfl, ⟨_, rfl, rfl⟩⟩, .tuple #[.agg #[.int .i64 (max a.a b.a), .int .i64 (min a.b b.b)], .bool true], _, rfl, hS10.res, (.agg #[.int .i64 (max a.a b.a), .int .i64 (min a.b b.b)]), (.bool true), rfl, (Is.cast ⟨_, rfl, (SpanE_mk (Span.mk (max a.a b.a) (min a.b b.b)) (I64_max hb1 hb3) (I64_min hb2 hb4))⟩ (by exact (meetS_yes h1 h2 (by assumption)).symm)), (congrArg Value.bool (by exact (meetB_yes h1 h2 (by assumption)).symm))⟩
    refine WL.not false rfl rfl ?_
    refine WL.pickF rfl rfl <| WL.move rfl <| WL.no rfl rfl <| WL.no rfl rfl <| WL.no rfl rfl <| WL.no rfl rfl <| WL.no rfl rfl <| WL.pickT rfl rfl <| WL.nil <| WC.condT rfl <| WC.seq <| WC.region rfl ?_
    refine WL.build _ [] [.int .i64 0, .int .i64 0] ti46 rfl fl46 rfl rfl rfl rfl ?_
    refine WL.store hS8 0 _ _ _ 0 _ [.int .i64 0, .int .i64 0] [.int .i64 0, .int .i64 0] _ rfl rfl ti46 rfl (Nat.le_of_ble_eq_true rfl) rfl rfl rfl rfl rfl rfl (fun w10 hS11 => ?_)
    refine WL.assign rfl <| WL.nil ?_
    refine WC.ret ?_
    exact ⟨[.agg #[.int .i64 0, .int .i64 0], .bool false], ⟨_, _, _, rfl, rfl, hS11.loadA 0 _ _ _ 0 [.int .i64 0, .int .i64 0] rfl rfl rfl ti46 rfl, ⟨_, rfl, rfl⟩⟩, .tuple #[.agg #[.int .i64 0, .int .i64 0], .bool false], _, rfl, hS11.res, (.agg #[.int .i64 0, .int .i64 0]), (.bool false), rfl, (Is.cast ⟨_, rfl, (SpanE_mk (Span.mk 0 0) I64_0 I64_0)⟩ (by exact (meetS_no (.inr (.inl h2))).symm)), (congrArg Value.bool (by exact (meetB_no (.inr (.inl h2))).symm))⟩
  refine WL.not false rfl rfl ?_
  refine WL.move rfl <| WL.no rfl rfl <| WL.no rfl rfl <| WL.no rfl rfl <| WL.pickT rfl rfl <| WL.move rfl <| WL.no rfl rfl <| WL.no rfl rfl <| WL.no rfl rfl <| WL.no rfl rfl <| WL.no rfl rfl <| WL.pickT rfl rfl <| WL.nil <| WC.condT rfl <| WC.seq <| WC.region rfl ?_
  refine WL.build _ [] [.int .i64 0, .int .i64 0] ti46 rfl fl46 rfl rfl rfl rfl ?_
  refine WL.store hS7 0 _ _ _ 0 _ [.int .i64 0, .int .i64 0] [.int .i64 0, .int .i64 0] _ rfl rfl ti46 rfl (Nat.le_of_ble_eq_true rfl) rfl rfl rfl rfl rfl rfl (fun w11 hS12 => ?_)
  refine WL.assign rfl <| WL.nil ?_
  refine WC.ret ?_
  exact ⟨[.agg #[.int .i64 0, .int .i64 0], .bool false], ⟨_, _, _, rfl, rfl, hS12.loadA 0 _ _ _ 0 [.int .i64 0, .int .i64 0] rfl rfl rfl ti46 rfl, ⟨_, rfl, rfl⟩⟩, .tuple #[.agg #[.int .i64 0, .int .i64 0], .bool false], _, rfl, hS12.res, (.agg #[.int .i64 0, .int .i64 0]), (.bool false), rfl, (Is.cast ⟨_, rfl, (SpanE_mk (Span.mk 0 0) I64_0 I64_0)⟩ (by exact (meetS_no (.inl h1)).symm)), (congrArg Value.bool (by exact (meetB_no (.inl h1)).symm))⟩

theorem c_rDuring (G : GH) (w : World) (hG : G.In w) (l : List Fact) (s : Span) (vl : Value) (hvl : Sl FactE 40 G vl l) (cs : List Value) (hcs : SpanE.rep G s cs)  : Calls Tryz.prog (nat_lit 25) #[vl, .agg cs.toArray] w fun e w' => ∃ r G', e = .returned r ∧ Res [] w G w' G' ∧ ∃ r0 r1, r = .tuple #[r0, r1] ∧ Sl FactE 40 G' r0 (rdurL l s) ∧ r1 = .int .i64 (rdurE l s) := by
  refine calls_of_WC (N := 49) Tryz.func25 rfl rfl rfl ?_
  have hS := St.start (X := []) hG
  obtain ⟨rfl, hb1, hb2⟩ := SpanE_open hcs
  refine WC.seq <| WC.region rfl ?_
  refine WL.boxG [.int .i64 s.a, .int .i64 s.b] _ hS rfl rfl rfl (fun p1 w1 G1 hle1 hsp1 hc1 hS1 => ?_)
  refine WL.assign rfl <| WL.assign rfl <| WL.nil <| WC.seq <| WC.seq <| WC.region rfl <| WL.move rfl ?_
  refine WL.callF [vl] #[] hb33 rfl rfl rfl ((c_rfValid _ _ hS1.imm l _ (hvl.mono hle1) ).mono ?_)
  rintro e w2 ⟨r1, G2, rfl, hres1, hpost1⟩
  refine ⟨_, rfl, ?_⟩
  have hS2 := hS1.call hres1
  have hle2 := hres1.le
  subst hpost1
  refine WL.split (fun (h1 : (rvalidB l) = true) => ?_) (fun (h1 : (rvalidB l) = false) => ?_)
  · refine WL.not true rfl rfl ?_
    refine WL.move rfl ?_
    refine WL.loadGAt hS2 (hc1.mono hle2) [.int .i64 s.a, .int .i64 s.b] ti46 rfl rfl rfl rfl rfl ?_
    refine WL.callF [.agg #[.int .i64 s.a, .int .i64 s.b]] #[] hb86 rfl rfl rfl ((c_rSpan _ _ hS2.imm s _ (SpanE_mk s hb1 hb2) ).mono ?_)
    rintro e w3 ⟨r2, G3, rfl, hres2, hpost2⟩
    refine ⟨_, rfl, ?_⟩
    have hS3 := hS2.call hres2
    have hle3 := hres2.le
    subst hpost2
    refine WL.split (fun (h2 : (spanB s) = true) => ?_) (fun (h2 : (spanB s) = false) => ?_)
    · refine WL.not true rfl rfl ?_
      refine WL.pickF rfl rfl <| WL.nil <| WC.condF rfl <| WC.skip <| WC.seq ?_
      have hva9 : validB l = true := by rw [← rvalid_valid]; exact h1
      have hll9 := valid_le hva9
      refine WC.region rfl <| WL.assign rfl <| WL.nil <| WC.seq <| WC.seq <| WC.region rfl <| WL.assign rfl <| WL.nil <| WC.block ?_
      have hS5 := hS3.pad
      refine WC.loop (γ := Nat) (fun m ρ1 w1 => ∃ (k1 : Nat), ∃ (v1 : Value) (o1 : OB), ∃ (G4 : GH), m = l.length - k1 ∧ G3.le G4 ∧ St w [] G G4 [o1] w1 ∧ Row FactE 40 63 G4 v1 (duringF (l.take k1) s) o1 ∧ ρ1 0 = vl ∧ ρ1 3 = .pointer (some p1) ∧ ρ1 6 = v1 ∧ ρ1 7 = .int .i64 (k1 : Int) ∧ k1 ≤ l.length) (fun m => m) _ ⟨0, (.slice none 0 0), none, G3, rfl, (G3.le_refl), hS5, (Row.cast (Row.nil FactE 40 63 G3) (by simp [duringF])), rfl, rfl, rfl, rfl, (by omega)⟩ ?_
      rintro m ρ1 w4 ⟨k1, v1, o1, G4, rfl, hle4, hS4, hr1, e1, e2, e3, e4, f1⟩
      refine WC.set (d := 0) e1 ?_
      refine WC.set (d := 3) e2 ?_
      refine WC.set (d := 6) e3 ?_
      refine WC.set (d := 7) e4 ?_
      have hdl := duringF_takeLen l s k1
      refine WC.seq <| WC.seq <| WC.region rfl <| WL.move rfl <| WL.move rfl ?_
      have bd1 := hvl.bound
      refine WL.lenSl (hvl.mono (((hle1.trans hle2).trans hle3).trans hle4)) ul22 rfl rfl ?_
      refine WL.lssS (k1 : Int) (l.length : Int) rfl rfl rfl (fun h3 => ?_) (fun h3 => ?_)
      · refine WL.nil <| WC.condT rfl <| WC.skip <| WC.seq <| WC.block <| WC.seq ?_
        obtain ⟨p2, x1, hx1, he1, ep1⟩ := Sl.at (hvl.mono (((hle1.trans hle2).trans hle3).trans hle4)) k1 (by omega)
        obtain ⟨cs1, hc2, hr2⟩ := he1
        obtain ⟨v2, rfl, hs1, hb3, hb4⟩ := FactE_open hr2
        refine drT ⟨[0, 0, 3, 7, 15, 0, 63, 127, 255, 255, 0, 1535, 4095], [0, 1, 2, 3], [4, 5], [], [6, 7, 8, 9, 10, 11, 12]⟩ [(25, vl), (26, .int .i64 (k1 : Int)), (27, .pointer (some p2)), (28, .pointer (some (p2.add 1))), (29, .agg #[.int .i64 x1.t.a, .int .i64 x1.t.b]), (30, .agg #[.int .i64 s.a, .int .i64 s.b])] [o1] hS4 ?_ ?_ trivial (fun w8 hS6 => ?_)
        · exact ⟨fun _ _ => WL.move rfl <| WL.nu rfl, fun _ _ => WL.move rfl <| WL.nu rfl, fun _ _ => WL.indexAddrP k1 ep1 ul22 ti63 rfl rfl rfl rfl <| WL.nu rfl, fun _ _ => WL.fieldAddr _ 1 _ fl63 rfl rfl rfl <| WL.nu rfl, trivial⟩
        · exact ⟨fun _ hSw => WL.loadGAt hSw (Cells.drop 1 hc2) [.int .i64 x1.t.a, .int .i64 x1.t.b] ti46 rfl rfl rfl rfl rfl <| WL.nu rfl, fun _ hSw => WL.loadGAt hSw (hc1.mono ((hle2.trans hle3).trans hle4)) [.int .i64 s.a, .int .i64 s.b] ti46 rfl rfl rfl rfl rfl <| WL.nu rfl, trivial⟩
        refine TG.fork 6 [6, 7, 8, 9, 10, 11, 12] [6, 10] rfl rfl (by decide) (by decide) (TA.cons rfl ?_ (TA.cons rfl ?_ TA.nil))
        · refine WL.callF [.agg #[.int .i64 x1.t.a, .int .i64 x1.t.b], .agg #[.int .i64 s.a, .int .i64 s.b]] #[] hb87 rfl rfl rfl ((c_r10Meet _ _ hS6.imm x1.t s _ (SpanE_mk x1.t hb3 hb4) _ (SpanE_mk s hb1 hb2) ).mono ?_)
          rintro e w6 ⟨r3, G5, rfl, hres3, hpost3⟩
          refine ⟨_, rfl, ?_⟩
          have hS7 := hS6.call hres3
          have hle5 := hres3.le
          obtain ⟨r4, r5, rfl, hs2, rfl⟩ := hpost3
          obtain ⟨cs2, rfl, hr3⟩ := hs2
          obtain ⟨rfl, hb5, hb6⟩ := SpanE_open hr3
          refine WL.nil ⟨fun h => absurd h (by decide), ?_⟩
          refine TG.fork 5 [7, 8, 9, 10, 11, 12] [7, 10] rfl rfl (by decide) (by decide) (TA.cons rfl ?_ (TA.cons rfl ?_ TA.nil))
          · refine WL.move rfl ?_
            refine WL.nil ⟨fun h => absurd h (by decide), ?_⟩
            refine TG.fork 4 [8, 9, 10, 11, 12] [8, 9, 10] rfl rfl (by decide) (by decide) (TA.cons rfl ?_ (TA.cons rfl ?_ (TA.cons rfl ?_ TA.nil)))
            · refine WL.extract _ _ rfl rfl rfl ?_
              refine WL.nil ⟨fun h => absurd h (by decide), ?_⟩
              refine TG.fork 3 [9, 10, 11, 12] [9, 10] rfl rfl (by decide) (by decide) (TA.cons rfl ?_ (TA.cons rfl ?_ TA.nil))
              · refine WL.extract _ _ rfl rfl rfl ?_
                refine WL.nil ⟨fun h => absurd h (by decide), ?_⟩
                refine TG.fork 2 [10, 11, 12] [10] rfl rfl (by decide) (by decide) (TA.cons rfl ?_ TA.nil)
                refine WL.alloc hS7 ti46 rfl rfl (fun b1 w7 hn1 hS8 => ?_)
                refine WL.nil ⟨fun _ => hS8.tail.down hS6.le hle5, ?_⟩
                refine TG.fork 1 [11, 12] [11] rfl rfl (by decide) (by decide) (TA.cons rfl ?_ TA.nil)
                refine WL.store hS8 0 _ _ _ 0 _ [.int .i64 ((meetS x1.t s).a), .int .i64 ((meetS x1.t s).b)] [.int .i64 ((meetS x1.t s).a), .int .i64 ((meetS x1.t s).b)] _ rfl rfl ti46 rfl (Nat.le_of_ble_eq_true rfl) rfl rfl rfl rfl rfl rfl (fun w8 hS9 => ?_)
                obtain ⟨G6, hle6, hc3, hS10⟩ := hS9.shutB hn1
                refine WL.nil ⟨fun h => absurd h (by decide), ?_⟩
                refine TG.fork 0 [12] [12] rfl rfl (by decide) (by decide) (TA.cons rfl ?_ TA.nil)
                refine WL.assign rfl ?_
                refine WL.split (fun (h4 : (meetB x1.t s) = true) => ?_) (fun (h4 : (meetB x1.t s) = false) => ?_)
                · refine WL.nil ⟨fun h => absurd h (by decide), ?_⟩
                  refine TG.fin rfl ?_
                  refine WC.seq <| WC.region rfl <| WL.move rfl <| WL.nil <| WC.condT rfl ?_
                  obtain ⟨p3, x2, hx2, he2, ep2⟩ := Sl.at (hvl.mono (((((hle1.trans hle2).trans hle3).trans hle4).trans hle5).trans hle6)) k1 (by omega)
                  obtain rfl : x1 = x2 := Option.some.inj (hx1.symm.trans hx2)
                  obtain ⟨cs3, hc4, hr4⟩ := he2
                  obtain ⟨v3, rfl, hs3, hb7, hb8⟩ := FactE_open hr4
                  refine dr ⟨[0, 0, 0, 6, 14, 30, 0, 126, 254, 511, 1023], [0, 1, 2, 3, 4, 7], [5, 6], [], [8, 9, 10]⟩ [(35, v1), (36, vl), (37, .int .i64 (k1 : Int)), (38, .pointer (some p3)), (39, .pointer (some (p3.add 0))), (42, .agg #[v3, .int .i64 ((meetS x1.t s).a), .int .i64 ((meetS x1.t s).b)]), (40, v3), (41, .agg #[.int .i64 ((meetS x1.t s).a), .int .i64 ((meetS x1.t s).b)])] [o1] hS10 ?_ ?_ trivial (fun w8 hS11 => ?_)
                  · exact ⟨fun _ _ => WL.move rfl <| WL.nu rfl, fun _ _ => WL.move rfl <| WL.nu rfl, fun _ _ => WL.move rfl <| WL.nu rfl, fun _ _ => WL.indexAddrP k1 ep2 ul22 ti63 rfl rfl rfl rfl <| WL.nu rfl, fun _ _ => WL.fieldAddr _ 0 _ fl63 rfl rfl rfl <| WL.nu rfl, fun _ _ => WL.build _ [(0, [v3]), (1, [.int .i64 ((meetS x1.t s).a), .int .i64 ((meetS x1.t s).b)])] [v3, .int .i64 ((meetS x1.t s).a), .int .i64 ((meetS x1.t s).b)] ti63 rfl fl63 rfl rfl (by show [(0, (v3 : Value).cells.toList), (1, (.agg #[.int .i64 ((meetS x1.t s).a), .int .i64 ((meetS x1.t s).b)] : Value).cells.toList)] = _; simp only [hs3.cells1] <;> rfl) rfl <| WL.nu rfl, trivial⟩
                  · exact ⟨fun _ hSw => WL.loadG1 hSw (Cells.drop 0 hc4) ti61 rfl rfl rfl <| WL.nu rfl, fun _ hSw => WL.loadGAt hSw hc3 [.int .i64 ((meetS x1.t s).a), .int .i64 ((meetS x1.t s).b)] ti46 rfl rfl rfl rfl rfl <| WL.nu rfl, trivial⟩
                  refine TL.step rfl ?_
                  refine WL.buildSlice _ [(0, [v3, .int .i64 ((meetS x1.t s).a), .int .i64 ((meetS x1.t s).b)])] [v3, .int .i64 ((meetS x1.t s).a), .int .i64 ((meetS x1.t s).b)] hS11 sl22 rfl rfl rfl rfl (fun z hz => by match z, hz with | [z0, z1, z2], _ => rfl) (fun b2 w10 hn2 hS12 => ?_)
                  refine WL.nil ⟨fun h => absurd h (by decide), ?_⟩
                  refine TL.step rfl ?_
                  refine WL.push (m := ([(Fact.mk x1.v (Span.mk ((meetS x1.t s).a) ((meetS x1.t s).b)))] : List Fact)) sl22 rfl rfl rfl (hr1.mono (hle5.trans hle6)) hS12 1 rfl 0 _ _ _ _ _ rfl ⟨[v3, .int .i64 ((meetS x1.t s).a), .int .i64 ((meetS x1.t s).b)], _, rfl, (FactE_mk (Fact.mk x1.v (Span.mk ((meetS x1.t s).a) ((meetS x1.t s).b))) hs3 hb5 hb6), rfl⟩ rfl (by have hreach : reach = 140737488355328 := rfl; simp only [List.length_cons, List.length_nil]; omega) (by have hreach : reach = 140737488355328 := rfl; simp only [List.length_cons, List.length_nil]; omega) rfl rfl rfl (fun v4 o2 w11 hr5 hS13 => ?_)
                  have hS14 := hS13.tail
                  refine WL.nil ⟨fun h => absurd h (by decide), ?_⟩
                  refine TL.step rfl ?_
                  refine WL.assign rfl ?_
                  refine WL.nil ⟨fun h => absurd h (by decide), ?_⟩
                  refine WC.region rfl <| WL.move rfl ?_
                  refine WL.incr k1 (by have hreach : reach = 140737488355328 := rfl; omega) rfl rfl rfl ?_
                  refine WL.assign rfl <| WL.nil ?_
                  exact ⟨_, ⟨k1 + 1, v4, o2, G6, rfl, (hle4.trans (hle5.trans hle6)), hS14, (Row.cast hr5 (by (exact (duringF_yes (by assumption) (by assumption)).symm))), rfl, rfl, rfl, rfl, (by omega)⟩, (show l.length - (k1 + 1) < l.length - k1 by omega)⟩
                refine WL.nil ⟨fun h => absurd h (by decide), ?_⟩
                refine TG.fin rfl ?_
                refine WC.seq <| WC.region rfl <| WL.move rfl <| WL.nil <| WC.condF rfl <| WC.skip <| WC.region rfl <| WL.move rfl ?_
                refine WL.incr k1 (by have hreach : reach = 140737488355328 := rfl; omega) rfl rfl rfl ?_
                refine WL.assign rfl <| WL.nil ?_
                exact ⟨_, ⟨k1 + 1, v1, o1, G6, rfl, (hle4.trans (hle5.trans hle6)), hS10, (Row.cast (hr1.mono (hle5.trans hle6)) (by (exact (duringF_no (by assumption) (by assumption)).symm))), rfl, rfl, rfl, rfl, (by omega)⟩, (show l.length - (k1 + 1) < l.length - k1 by omega)⟩
              refine WL.alloc hS7 ti46 rfl rfl (fun b3 w12 hn3 hS15 => ?_)
              refine WL.nil ⟨fun _ => hS15.tail.down hS6.le hle5, ?_⟩
              refine TG.fork 2 [9, 11, 12] [9, 11] rfl rfl (by decide) (by decide) (TA.cons rfl ?_ (TA.cons rfl ?_ TA.nil))
              · refine WL.extract _ _ rfl rfl rfl ?_
                refine WL.nil ⟨fun h => absurd h (by decide), ?_⟩
                refine TG.fork 1 [11, 12] [11] rfl rfl (by decide) (by decide) (TA.cons rfl ?_ TA.nil)
                refine WL.store hS15 0 _ _ _ 0 _ [.int .i64 ((meetS x1.t s).a), .int .i64 ((meetS x1.t s).b)] [.int .i64 ((meetS x1.t s).a), .int .i64 ((meetS x1.t s).b)] _ rfl rfl ti46 rfl (Nat.le_of_ble_eq_true rfl) rfl rfl rfl rfl rfl rfl (fun w13 hS16 => ?_)
                obtain ⟨G7, hle7, hc5, hS17⟩ := hS16.shutB hn3
                refine WL.nil ⟨fun h => absurd h (by decide), ?_⟩
                refine TG.fork 0 [12] [12] rfl rfl (by decide) (by decide) (TA.cons rfl ?_ TA.nil)
                refine WL.assign rfl ?_
                refine WL.split (fun (h5 : (meetB x1.t s) = true) => ?_) (fun (h5 : (meetB x1.t s) = false) => ?_)
                · refine WL.nil ⟨fun h => absurd h (by decide), ?_⟩
                  refine TG.fin rfl ?_
                  refine WC.seq <| WC.region rfl <| WL.move rfl <| WL.nil <| WC.condT rfl ?_
                  obtain ⟨p4, x3, hx3, he3, ep3⟩ := Sl.at (hvl.mono (((((hle1.trans hle2).trans hle3).trans hle4).trans hle5).trans hle7)) k1 (by omega)
                  obtain rfl : x1 = x3 := Option.some.inj (hx1.symm.trans hx3)
                  obtain ⟨cs4, hc6, hr6⟩ := he3
                  obtain ⟨v5, rfl, hs4, hb9, hb10⟩ := FactE_open hr6
                  refine dr ⟨[0, 0, 0, 6, 14, 30, 0, 126, 254, 511, 1023], [0, 1, 2, 3, 4, 7], [5, 6], [], [8, 9, 10]⟩ [(35, v1), (36, vl), (37, .int .i64 (k1 : Int)), (38, .pointer (some p4)), (39, .pointer (some (p4.add 0))), (42, .agg #[v5, .int .i64 ((meetS x1.t s).a), .int .i64 ((meetS x1.t s).b)]), (40, v5), (41, .agg #[.int .i64 ((meetS x1.t s).a), .int .i64 ((meetS x1.t s).b)])] [o1] hS17 ?_ ?_ trivial (fun w8 hS18 => ?_)
                  · exact ⟨fun _ _ => WL.move rfl <| WL.nu rfl, fun _ _ => WL.move rfl <| WL.nu rfl, fun _ _ => WL.move rfl <| WL.nu rfl, fun _ _ => WL.indexAddrP k1 ep3 ul22 ti63 rfl rfl rfl rfl <| WL.nu rfl, fun _ _ => WL.fieldAddr _ 0 _ fl63 rfl rfl rfl <| WL.nu rfl, fun _ _ => WL.build _ [(0, [v5]), (1, [.int .i64 ((meetS x1.t s).a), .int .i64 ((meetS x1.t s).b)])] [v5, .int .i64 ((meetS x1.t s).a), .int .i64 ((meetS x1.t s).b)] ti63 rfl fl63 rfl rfl (by show [(0, (v5 : Value).cells.toList), (1, (.agg #[.int .i64 ((meetS x1.t s).a), .int .i64 ((meetS x1.t s).b)] : Value).cells.toList)] = _; simp only [hs4.cells1] <;> rfl) rfl <| WL.nu rfl, trivial⟩
                  · exact ⟨fun _ hSw => WL.loadG1 hSw (Cells.drop 0 hc6) ti61 rfl rfl rfl <| WL.nu rfl, fun _ hSw => WL.loadGAt hSw hc5 [.int .i64 ((meetS x1.t s).a), .int .i64 ((meetS x1.t s).b)] ti46 rfl rfl rfl rfl rfl <| WL.nu rfl, trivial⟩
                  refine TL.step rfl ?_
                  refine WL.buildSlice _ [(0, [v5, .int .i64 ((meetS x1.t s).a), .int .i64 ((meetS x1.t s).b)])] [v5, .int .i64 ((meetS x1.t s).a), .int .i64 ((meetS x1.t s).b)] hS18 sl22 rfl rfl rfl rfl (fun z hz => by match z, hz with | [z0, z1, z2], _ => rfl) (fun b4 w15 hn4 hS19 => ?_)
                  refine WL.nil ⟨fun h => absurd h (by decide), ?_⟩
                  refine TL.step rfl ?_
                  refine WL.push (m := ([(Fact.mk x1.v (Span.mk ((meetS x1.t s).a) ((meetS x1.t s).b)))] : List Fact)) sl22 rfl rfl rfl (hr1.mono (hle5.trans hle7)) hS19 1 rfl 0 _ _ _ _ _ rfl ⟨[v5, .int .i64 ((meetS x1.t s).a), .int .i64 ((meetS x1.t s).b)], _, rfl, (FactE_mk (Fact.mk x1.v (Span.mk ((meetS x1.t s).a) ((meetS x1.t s).b))) hs4 hb5 hb6), rfl⟩ rfl (by have hreach : reach = 140737488355328 := rfl; simp only [List.length_cons, List.length_nil]; omega) (by have hreach : reach = 140737488355328 := rfl; simp only [List.length_cons, List.length_nil]; omega) rfl rfl rfl (fun v6 o3 w16 hr7 hS20 => ?_)
                  have hS21 := hS20.tail
                  refine WL.nil ⟨fun h => absurd h (by decide), ?_⟩
                  refine TL.step rfl ?_
                  refine WL.assign rfl ?_
                  refine WL.nil ⟨fun h => absurd h (by decide), ?_⟩
                  refine WC.region rfl <| WL.move rfl ?_
                  refine WL.incr k1 (by have hreach : reach = 140737488355328 := rfl; omega) rfl rfl rfl ?_
                  refine WL.assign rfl <| WL.nil ?_
                  exact ⟨_, ⟨k1 + 1, v6, o3, G7, rfl, (hle4.trans (hle5.trans hle7)), hS21, (Row.cast hr7 (by (exact (duringF_yes (by assumption) (by assumption)).symm))), rfl, rfl, rfl, rfl, (by omega)⟩, (show l.length - (k1 + 1) < l.length - k1 by omega)⟩
                refine WL.nil ⟨fun h => absurd h (by decide), ?_⟩
                refine TG.fin rfl ?_
                refine WC.seq <| WC.region rfl <| WL.move rfl <| WL.nil <| WC.condF rfl <| WC.skip <| WC.region rfl <| WL.move rfl ?_
                refine WL.incr k1 (by have hreach : reach = 140737488355328 := rfl; omega) rfl rfl rfl ?_
                refine WL.assign rfl <| WL.nil ?_
                exact ⟨_, ⟨k1 + 1, v1, o1, G7, rfl, (hle4.trans (hle5.trans hle7)), hS17, (Row.cast (hr1.mono (hle5.trans hle7)) (by (exact (duringF_no (by assumption) (by assumption)).symm))), rfl, rfl, rfl, rfl, (by omega)⟩, (show l.length - (k1 + 1) < l.length - k1 by omega)⟩
              refine WL.store hS15 0 _ _ _ 0 _ [.int .i64 ((meetS x1.t s).a), .int .i64 ((meetS x1.t s).b)] [.int .i64 ((meetS x1.t s).a), .int .i64 ((meetS x1.t s).b)] _ rfl rfl ti46 rfl (Nat.le_of_ble_eq_true rfl) rfl rfl rfl rfl rfl rfl (fun w17 hS22 => ?_)
              obtain ⟨G8, hle8, hc7, hS23⟩ := hS22.shutB hn3
              refine WL.nil ⟨fun h => absurd h (by decide), ?_⟩
              refine TG.fork 1 [9, 12] [9] rfl rfl (by decide) (by decide) (TA.cons rfl ?_ TA.nil)
              refine WL.extract _ _ rfl rfl rfl ?_
              refine WL.nil ⟨fun h => absurd h (by decide), ?_⟩
              refine TG.fork 0 [12] [12] rfl rfl (by decide) (by decide) (TA.cons rfl ?_ TA.nil)
              refine WL.assign rfl ?_
              refine WL.split (fun (h6 : (meetB x1.t s) = true) => ?_) (fun (h6 : (meetB x1.t s) = false) => ?_)
              · refine WL.nil ⟨fun h => absurd h (by decide), ?_⟩
                refine TG.fin rfl ?_
                refine WC.seq <| WC.region rfl <| WL.move rfl <| WL.nil <| WC.condT rfl ?_
                obtain ⟨p5, x4, hx4, he4, ep4⟩ := Sl.at (hvl.mono (((((hle1.trans hle2).trans hle3).trans hle4).trans hle5).trans hle8)) k1 (by omega)
                obtain rfl : x1 = x4 := Option.some.inj (hx1.symm.trans hx4)
                obtain ⟨cs5, hc8, hr8⟩ := he4
                obtain ⟨v7, rfl, hs5, hb11, hb12⟩ := FactE_open hr8
                refine dr ⟨[0, 0, 0, 6, 14, 30, 0, 126, 254, 511, 1023], [0, 1, 2, 3, 4, 7], [5, 6], [], [8, 9, 10]⟩ [(35, v1), (36, vl), (37, .int .i64 (k1 : Int)), (38, .pointer (some p5)), (39, .pointer (some (p5.add 0))), (42, .agg #[v7, .int .i64 ((meetS x1.t s).a), .int .i64 ((meetS x1.t s).b)]), (40, v7), (41, .agg #[.int .i64 ((meetS x1.t s).a), .int .i64 ((meetS x1.t s).b)])] [o1] hS23 ?_ ?_ trivial (fun w8 hS24 => ?_)
                · exact ⟨fun _ _ => WL.move rfl <| WL.nu rfl, fun _ _ => WL.move rfl <| WL.nu rfl, fun _ _ => WL.move rfl <| WL.nu rfl, fun _ _ => WL.indexAddrP k1 ep4 ul22 ti63 rfl rfl rfl rfl <| WL.nu rfl, fun _ _ => WL.fieldAddr _ 0 _ fl63 rfl rfl rfl <| WL.nu rfl, fun _ _ => WL.build _ [(0, [v7]), (1, [.int .i64 ((meetS x1.t s).a), .int .i64 ((meetS x1.t s).b)])] [v7, .int .i64 ((meetS x1.t s).a), .int .i64 ((meetS x1.t s).b)] ti63 rfl fl63 rfl rfl (by show [(0, (v7 : Value).cells.toList), (1, (.agg #[.int .i64 ((meetS x1.t s).a), .int .i64 ((meetS x1.t s).b)] : Value).cells.toList)] = _; simp only [hs5.cells1] <;> rfl) rfl <| WL.nu rfl, trivial⟩
                · exact ⟨fun _ hSw => WL.loadG1 hSw (Cells.drop 0 hc8) ti61 rfl rfl rfl <| WL.nu rfl, fun _ hSw => WL.loadGAt hSw hc7 [.int .i64 ((meetS x1.t s).a), .int .i64 ((meetS x1.t s).b)] ti46 rfl rfl rfl rfl rfl <| WL.nu rfl, trivial⟩
                refine TL.step rfl ?_
                refine WL.buildSlice _ [(0, [v7, .int .i64 ((meetS x1.t s).a), .int .i64 ((meetS x1.t s).b)])] [v7, .int .i64 ((meetS x1.t s).a), .int .i64 ((meetS x1.t s).b)] hS24 sl22 rfl rfl rfl rfl (fun z hz => by match z, hz with | [z0, z1, z2], _ => rfl) (fun b5 w19 hn5 hS25 => ?_)
                refine WL.nil ⟨fun h => absurd h (by decide), ?_⟩
                refine TL.step rfl ?_
                refine WL.push (m := ([(Fact.mk x1.v (Span.mk ((meetS x1.t s).a) ((meetS x1.t s).b)))] : List Fact)) sl22 rfl rfl rfl (hr1.mono (hle5.trans hle8)) hS25 1 rfl 0 _ _ _ _ _ rfl ⟨[v7, .int .i64 ((meetS x1.t s).a), .int .i64 ((meetS x1.t s).b)], _, rfl, (FactE_mk (Fact.mk x1.v (Span.mk ((meetS x1.t s).a) ((meetS x1.t s).b))) hs5 hb5 hb6), rfl⟩ rfl (by have hreach : reach = 140737488355328 := rfl; simp only [List.length_cons, List.length_nil]; omega) (by have hreach : reach = 140737488355328 := rfl; simp only [List.length_cons, List.length_nil]; omega) rfl rfl rfl (fun v8 o4 w20 hr9 hS26 => ?_)
                have hS27 := hS26.tail
                refine WL.nil ⟨fun h => absurd h (by decide), ?_⟩
                refine TL.step rfl ?_
                refine WL.assign rfl ?_
                refine WL.nil ⟨fun h => absurd h (by decide), ?_⟩
                refine WC.region rfl <| WL.move rfl ?_
                refine WL.incr k1 (by have hreach : reach = 140737488355328 := rfl; omega) rfl rfl rfl ?_
                refine WL.assign rfl <| WL.nil ?_
                exact ⟨_, ⟨k1 + 1, v8, o4, G8, rfl, (hle4.trans (hle5.trans hle8)), hS27, (Row.cast hr9 (by (exact (duringF_yes (by assumption) (by assumption)).symm))), rfl, rfl, rfl, rfl, (by omega)⟩, (show l.length - (k1 + 1) < l.length - k1 by omega)⟩
              refine WL.nil ⟨fun h => absurd h (by decide), ?_⟩
              refine TG.fin rfl ?_
              refine WC.seq <| WC.region rfl <| WL.move rfl <| WL.nil <| WC.condF rfl <| WC.skip <| WC.region rfl <| WL.move rfl ?_
              refine WL.incr k1 (by have hreach : reach = 140737488355328 := rfl; omega) rfl rfl rfl ?_
              refine WL.assign rfl <| WL.nil ?_
              exact ⟨_, ⟨k1 + 1, v1, o1, G8, rfl, (hle4.trans (hle5.trans hle8)), hS23, (Row.cast (hr1.mono (hle5.trans hle8)) (by (exact (duringF_no (by assumption) (by assumption)).symm))), rfl, rfl, rfl, rfl, (by omega)⟩, (show l.length - (k1 + 1) < l.length - k1 by omega)⟩
            · refine WL.extract _ _ rfl rfl rfl ?_
              refine WL.nil ⟨fun h => absurd h (by decide), ?_⟩
              refine TG.fork 3 [8, 10, 11, 12] [8, 10] rfl rfl (by decide) (by decide) (TA.cons rfl ?_ (TA.cons rfl ?_ TA.nil))
              · refine WL.extract _ _ rfl rfl rfl ?_
                refine WL.nil ⟨fun h => absurd h (by decide), ?_⟩
                refine TG.fork 2 [10, 11, 12] [10] rfl rfl (by decide) (by decide) (TA.cons rfl ?_ TA.nil)
                refine WL.alloc hS7 ti46 rfl rfl (fun b6 w21 hn6 hS28 => ?_)
                refine WL.nil ⟨fun _ => hS28.tail.down hS6.le hle5, ?_⟩
                refine TG.fork 1 [11, 12] [11] rfl rfl (by decide) (by decide) (TA.cons rfl ?_ TA.nil)
                refine WL.store hS28 0 _ _ _ 0 _ [.int .i64 ((meetS x1.t s).a), .int .i64 ((meetS x1.t s).b)] [.int .i64 ((meetS x1.t s).a), .int .i64 ((meetS x1.t s).b)] _ rfl rfl ti46 rfl (Nat.le_of_ble_eq_true rfl) rfl rfl rfl rfl rfl rfl (fun w22 hS29 => ?_)
                obtain ⟨G9, hle9, hc9, hS30⟩ := hS29.shutB hn6
                refine WL.nil ⟨fun h => absurd h (by decide), ?_⟩
                refine TG.fork 0 [12] [12] rfl rfl (by decide) (by decide) (TA.cons rfl ?_ TA.nil)
                refine WL.assign rfl ?_
                refine WL.split (fun (h7 : (meetB x1.t s) = true) => ?_) (fun (h7 : (meetB x1.t s) = false) => ?_)
                · refine WL.nil ⟨fun h => absurd h (by decide), ?_⟩
                  refine TG.fin rfl ?_
                  refine WC.seq <| WC.region rfl <| WL.move rfl <| WL.nil <| WC.condT rfl ?_
                  obtain ⟨p6, x5, hx5, he5, ep5⟩ := Sl.at (hvl.mono (((((hle1.trans hle2).trans hle3).trans hle4).trans hle5).trans hle9)) k1 (by omega)
                  obtain rfl : x1 = x5 := Option.some.inj (hx1.symm.trans hx5)
                  obtain ⟨cs6, hc10, hr10⟩ := he5
                  obtain ⟨v9, rfl, hs6, hb13, hb14⟩ := FactE_open hr10
                  refine dr ⟨[0, 0, 0, 6, 14, 30, 0, 126, 254, 511, 1023], [0, 1, 2, 3, 4, 7], [5, 6], [], [8, 9, 10]⟩ [(35, v1), (36, vl), (37, .int .i64 (k1 : Int)), (38, .pointer (some p6)), (39, .pointer (some (p6.add 0))), (42, .agg #[v9, .int .i64 ((meetS x1.t s).a), .int .i64 ((meetS x1.t s).b)]), (40, v9), (41, .agg #[.int .i64 ((meetS x1.t s).a), .int .i64 ((meetS x1.t s).b)])] [o1] hS30 ?_ ?_ trivial (fun w8 hS31 => ?_)
                  · exact ⟨fun _ _ => WL.move rfl <| WL.nu rfl, fun _ _ => WL.move rfl <| WL.nu rfl, fun _ _ => WL.move rfl <| WL.nu rfl, fun _ _ => WL.indexAddrP k1 ep5 ul22 ti63 rfl rfl rfl rfl <| WL.nu rfl, fun _ _ => WL.fieldAddr _ 0 _ fl63 rfl rfl rfl <| WL.nu rfl, fun _ _ => WL.build _ [(0, [v9]), (1, [.int .i64 ((meetS x1.t s).a), .int .i64 ((meetS x1.t s).b)])] [v9, .int .i64 ((meetS x1.t s).a), .int .i64 ((meetS x1.t s).b)] ti63 rfl fl63 rfl rfl (by show [(0, (v9 : Value).cells.toList), (1, (.agg #[.int .i64 ((meetS x1.t s).a), .int .i64 ((meetS x1.t s).b)] : Value).cells.toList)] = _; simp only [hs6.cells1] <;> rfl) rfl <| WL.nu rfl, trivial⟩
                  · exact ⟨fun _ hSw => WL.loadG1 hSw (Cells.drop 0 hc10) ti61 rfl rfl rfl <| WL.nu rfl, fun _ hSw => WL.loadGAt hSw hc9 [.int .i64 ((meetS x1.t s).a), .int .i64 ((meetS x1.t s).b)] ti46 rfl rfl rfl rfl rfl <| WL.nu rfl, trivial⟩
                  refine TL.step rfl ?_
                  refine WL.buildSlice _ [(0, [v9, .int .i64 ((meetS x1.t s).a), .int .i64 ((meetS x1.t s).b)])] [v9, .int .i64 ((meetS x1.t s).a), .int .i64 ((meetS x1.t s).b)] hS31 sl22 rfl rfl rfl rfl (fun z hz => by match z, hz with | [z0, z1, z2], _ => rfl) (fun b7 w24 hn7 hS32 => ?_)
                  refine WL.nil ⟨fun h => absurd h (by decide), ?_⟩
                  refine TL.step rfl ?_
                  refine WL.push (m := ([(Fact.mk x1.v (Span.mk ((meetS x1.t s).a) ((meetS x1.t s).b)))] : List Fact)) sl22 rfl rfl rfl (hr1.mono (hle5.trans hle9)) hS32 1 rfl 0 _ _ _ _ _ rfl ⟨[v9, .int .i64 ((meetS x1.t s).a), .int .i64 ((meetS x1.t s).b)], _, rfl, (FactE_mk (Fact.mk x1.v (Span.mk ((meetS x1.t s).a) ((meetS x1.t s).b))) hs6 hb5 hb6), rfl⟩ rfl (by have hreach : reach = 140737488355328 := rfl; simp only [List.length_cons, List.length_nil]; omega) (by have hreach : reach = 140737488355328 := rfl; simp only [List.length_cons, List.length_nil]; omega) rfl rfl rfl (fun v10 o5 w25 hr11 hS33 => ?_)
                  have hS34 := hS33.tail
                  refine WL.nil ⟨fun h => absurd h (by decide), ?_⟩
                  refine TL.step rfl ?_
                  refine WL.assign rfl ?_
                  refine WL.nil ⟨fun h => absurd h (by decide), ?_⟩
                  refine WC.region rfl <| WL.move rfl ?_
                  refine WL.incr k1 (by have hreach : reach = 140737488355328 := rfl; omega) rfl rfl rfl ?_
                  refine WL.assign rfl <| WL.nil ?_
                  exact ⟨_, ⟨k1 + 1, v10, o5, G9, rfl, (hle4.trans (hle5.trans hle9)), hS34, (Row.cast hr11 (by (exact (duringF_yes (by assumption) (by assumption)).symm))), rfl, rfl, rfl, rfl, (by omega)⟩, (show l.length - (k1 + 1) < l.length - k1 by omega)⟩
                refine WL.nil ⟨fun h => absurd h (by decide), ?_⟩
                refine TG.fin rfl ?_
                refine WC.seq <| WC.region rfl <| WL.move rfl <| WL.nil <| WC.condF rfl <| WC.skip <| WC.region rfl <| WL.move rfl ?_
                refine WL.incr k1 (by have hreach : reach = 140737488355328 := rfl; omega) rfl rfl rfl ?_
                refine WL.assign rfl <| WL.nil ?_
                exact ⟨_, ⟨k1 + 1, v1, o1, G9, rfl, (hle4.trans (hle5.trans hle9)), hS30, (Row.cast (hr1.mono (hle5.trans hle9)) (by (exact (duringF_no (by assumption) (by assumption)).symm))), rfl, rfl, rfl, rfl, (by omega)⟩, (show l.length - (k1 + 1) < l.length - k1 by omega)⟩
              refine WL.alloc hS7 ti46 rfl rfl (fun b8 w26 hn8 hS35 => ?_)
              refine WL.nil ⟨fun _ => hS35.tail.down hS6.le hle5, ?_⟩
              refine TG.fork 2 [8, 11, 12] [8] rfl rfl (by decide) (by decide) (TA.cons rfl ?_ TA.nil)
              refine WL.extract _ _ rfl rfl rfl ?_
              refine WL.nil ⟨fun h => absurd h (by decide), ?_⟩
              refine TG.fork 1 [11, 12] [11] rfl rfl (by decide) (by decide) (TA.cons rfl ?_ TA.nil)
              refine WL.store hS35 0 _ _ _ 0 _ [.int .i64 ((meetS x1.t s).a), .int .i64 ((meetS x1.t s).b)] [.int .i64 ((meetS x1.t s).a), .int .i64 ((meetS x1.t s).b)] _ rfl rfl ti46 rfl (Nat.le_of_ble_eq_true rfl) rfl rfl rfl rfl rfl rfl (fun w27 hS36 => ?_)
              obtain ⟨G10, hle10, hc11, hS37⟩ := hS36.shutB hn8
              refine WL.nil ⟨fun h => absurd h (by decide), ?_⟩
              refine TG.fork 0 [12] [12] rfl rfl (by decide) (by decide) (TA.cons rfl ?_ TA.nil)
              refine WL.assign rfl ?_
              refine WL.split (fun (h8 : (meetB x1.t s) = true) => ?_) (fun (h8 : (meetB x1.t s) = false) => ?_)
              · refine WL.nil ⟨fun h => absurd h (by decide), ?_⟩
                refine TG.fin rfl ?_
                refine WC.seq <| WC.region rfl <| WL.move rfl <| WL.nil <| WC.condT rfl ?_
                obtain ⟨p7, x6, hx6, he6, ep6⟩ := Sl.at (hvl.mono (((((hle1.trans hle2).trans hle3).trans hle4).trans hle5).trans hle10)) k1 (by omega)
                obtain rfl : x1 = x6 := Option.some.inj (hx1.symm.trans hx6)
                obtain ⟨cs7, hc12, hr12⟩ := he6
                obtain ⟨v11, rfl, hs7, hb15, hb16⟩ := FactE_open hr12
                refine dr ⟨[0, 0, 0, 6, 14, 30, 0, 126, 254, 511, 1023], [0, 1, 2, 3, 4, 7], [5, 6], [], [8, 9, 10]⟩ [(35, v1), (36, vl), (37, .int .i64 (k1 : Int)), (38, .pointer (some p7)), (39, .pointer (some (p7.add 0))), (42, .agg #[v11, .int .i64 ((meetS x1.t s).a), .int .i64 ((meetS x1.t s).b)]), (40, v11), (41, .agg #[.int .i64 ((meetS x1.t s).a), .int .i64 ((meetS x1.t s).b)])] [o1] hS37 ?_ ?_ trivial (fun w8 hS38 => ?_)
                · exact ⟨fun _ _ => WL.move rfl <| WL.nu rfl, fun _ _ => WL.move rfl <| WL.nu rfl, fun _ _ => WL.move rfl <| WL.nu rfl, fun _ _ => WL.indexAddrP k1 ep6 ul22 ti63 rfl rfl rfl rfl <| WL.nu rfl, fun _ _ => WL.fieldAddr _ 0 _ fl63 rfl rfl rfl <| WL.nu rfl, fun _ _ => WL.build _ [(0, [v11]), (1, [.int .i64 ((meetS x1.t s).a), .int .i64 ((meetS x1.t s).b)])] [v11, .int .i64 ((meetS x1.t s).a), .int .i64 ((meetS x1.t s).b)] ti63 rfl fl63 rfl rfl (by show [(0, (v11 : Value).cells.toList), (1, (.agg #[.int .i64 ((meetS x1.t s).a), .int .i64 ((meetS x1.t s).b)] : Value).cells.toList)] = _; simp only [hs7.cells1] <;> rfl) rfl <| WL.nu rfl, trivial⟩
                · exact ⟨fun _ hSw => WL.loadG1 hSw (Cells.drop 0 hc12) ti61 rfl rfl rfl <| WL.nu rfl, fun _ hSw => WL.loadGAt hSw hc11 [.int .i64 ((meetS x1.t s).a), .int .i64 ((meetS x1.t s).b)] ti46 rfl rfl rfl rfl rfl <| WL.nu rfl, trivial⟩
                refine TL.step rfl ?_
                refine WL.buildSlice _ [(0, [v11, .int .i64 ((meetS x1.t s).a), .int .i64 ((meetS x1.t s).b)])] [v11, .int .i64 ((meetS x1.t s).a), .int .i64 ((meetS x1.t s).b)] hS38 sl22 rfl rfl rfl rfl (fun z hz => by match z, hz with | [z0, z1, z2], _ => rfl) (fun b9 w29 hn9 hS39 => ?_)
                refine WL.nil ⟨fun h => absurd h (by decide), ?_⟩
                refine TL.step rfl ?_
                refine WL.push (m := ([(Fact.mk x1.v (Span.mk ((meetS x1.t s).a) ((meetS x1.t s).b)))] : List Fact)) sl22 rfl rfl rfl (hr1.mono (hle5.trans hle10)) hS39 1 rfl 0 _ _ _ _ _ rfl ⟨[v11, .int .i64 ((meetS x1.t s).a), .int .i64 ((meetS x1.t s).b)], _, rfl, (FactE_mk (Fact.mk x1.v (Span.mk ((meetS x1.t s).a) ((meetS x1.t s).b))) hs7 hb5 hb6), rfl⟩ rfl (by have hreach : reach = 140737488355328 := rfl; simp only [List.length_cons, List.length_nil]; omega) (by have hreach : reach = 140737488355328 := rfl; simp only [List.length_cons, List.length_nil]; omega) rfl rfl rfl (fun v12 o6 w30 hr13 hS40 => ?_)
                have hS41 := hS40.tail
                refine WL.nil ⟨fun h => absurd h (by decide), ?_⟩
                refine TL.step rfl ?_
                refine WL.assign rfl ?_
                refine WL.nil ⟨fun h => absurd h (by decide), ?_⟩
                refine WC.region rfl <| WL.move rfl ?_
                refine WL.incr k1 (by have hreach : reach = 140737488355328 := rfl; omega) rfl rfl rfl ?_
                refine WL.assign rfl <| WL.nil ?_
                exact ⟨_, ⟨k1 + 1, v12, o6, G10, rfl, (hle4.trans (hle5.trans hle10)), hS41, (Row.cast hr13 (by (exact (duringF_yes (by assumption) (by assumption)).symm))), rfl, rfl, rfl, rfl, (by omega)⟩, (show l.length - (k1 + 1) < l.length - k1 by omega)⟩
              refine WL.nil ⟨fun h => absurd h (by decide), ?_⟩
              refine TG.fin rfl ?_
              refine WC.seq <| WC.region rfl <| WL.move rfl <| WL.nil <| WC.condF rfl <| WC.skip <| WC.region rfl <| WL.move rfl ?_
              refine WL.incr k1 (by have hreach : reach = 140737488355328 := rfl; omega) rfl rfl rfl ?_
              refine WL.assign rfl <| WL.nil ?_
              exact ⟨_, ⟨k1 + 1, v1, o1, G10, rfl, (hle4.trans (hle5.trans hle10)), hS37, (Row.cast (hr1.mono (hle5.trans hle10)) (by (exact (duringF_no (by assumption) (by assumption)).symm))), rfl, rfl, rfl, rfl, (by omega)⟩, (show l.length - (k1 + 1) < l.length - k1 by omega)⟩
            refine WL.alloc hS7 ti46 rfl rfl (fun b10 w31 hn10 hS42 => ?_)
            refine WL.nil ⟨fun _ => hS42.tail.down hS6.le hle5, ?_⟩
            refine TG.fork 3 [8, 9, 11, 12] [8, 9] rfl rfl (by decide) (by decide) (TA.cons rfl ?_ (TA.cons rfl ?_ TA.nil))
            · refine WL.extract _ _ rfl rfl rfl ?_
              refine WL.nil ⟨fun h => absurd h (by decide), ?_⟩
              refine TG.fork 2 [9, 11, 12] [9, 11] rfl rfl (by decide) (by decide) (TA.cons rfl ?_ (TA.cons rfl ?_ TA.nil))
              · refine WL.extract _ _ rfl rfl rfl ?_
                refine WL.nil ⟨fun h => absurd h (by decide), ?_⟩
                refine TG.fork 1 [11, 12] [11] rfl rfl (by decide) (by decide) (TA.cons rfl ?_ TA.nil)
                refine WL.store hS42 0 _ _ _ 0 _ [.int .i64 ((meetS x1.t s).a), .int .i64 ((meetS x1.t s).b)] [.int .i64 ((meetS x1.t s).a), .int .i64 ((meetS x1.t s).b)] _ rfl rfl ti46 rfl (Nat.le_of_ble_eq_true rfl) rfl rfl rfl rfl rfl rfl (fun w32 hS43 => ?_)
                obtain ⟨G11, hle11, hc13, hS44⟩ := hS43.shutB hn10
                refine WL.nil ⟨fun h => absurd h (by decide), ?_⟩
                refine TG.fork 0 [12] [12] rfl rfl (by decide) (by decide) (TA.cons rfl ?_ TA.nil)
                refine WL.assign rfl ?_
                refine WL.split (fun (h9 : (meetB x1.t s) = true) => ?_) (fun (h9 : (meetB x1.t s) = false) => ?_)
                · refine WL.nil ⟨fun h => absurd h (by decide), ?_⟩
                  refine TG.fin rfl ?_
                  refine WC.seq <| WC.region rfl <| WL.move rfl <| WL.nil <| WC.condT rfl ?_
                  obtain ⟨p8, x7, hx7, he7, ep7⟩ := Sl.at (hvl.mono (((((hle1.trans hle2).trans hle3).trans hle4).trans hle5).trans hle11)) k1 (by omega)
                  obtain rfl : x1 = x7 := Option.some.inj (hx1.symm.trans hx7)
                  obtain ⟨cs8, hc14, hr14⟩ := he7
                  obtain ⟨v13, rfl, hs8, hb17, hb18⟩ := FactE_open hr14
                  refine dr ⟨[0, 0, 0, 6, 14, 30, 0, 126, 254, 511, 1023], [0, 1, 2, 3, 4, 7], [5, 6], [], [8, 9, 10]⟩ [(35, v1), (36, vl), (37, .int .i64 (k1 : Int)), (38, .pointer (some p8)), (39, .pointer (some (p8.add 0))), (42, .agg #[v13, .int .i64 ((meetS x1.t s).a), .int .i64 ((meetS x1.t s).b)]), (40, v13), (41, .agg #[.int .i64 ((meetS x1.t s).a), .int .i64 ((meetS x1.t s).b)])] [o1] hS44 ?_ ?_ trivial (fun w8 hS45 => ?_)
                  · exact ⟨fun _ _ => WL.move rfl <| WL.nu rfl, fun _ _ => WL.move rfl <| WL.nu rfl, fun _ _ => WL.move rfl <| WL.nu rfl, fun _ _ => WL.indexAddrP k1 ep7 ul22 ti63 rfl rfl rfl rfl <| WL.nu rfl, fun _ _ => WL.fieldAddr _ 0 _ fl63 rfl rfl rfl <| WL.nu rfl, fun _ _ => WL.build _ [(0, [v13]), (1, [.int .i64 ((meetS x1.t s).a), .int .i64 ((meetS x1.t s).b)])] [v13, .int .i64 ((meetS x1.t s).a), .int .i64 ((meetS x1.t s).b)] ti63 rfl fl63 rfl rfl (by show [(0, (v13 : Value).cells.toList), (1, (.agg #[.int .i64 ((meetS x1.t s).a), .int .i64 ((meetS x1.t s).b)] : Value).cells.toList)] = _; simp only [hs8.cells1] <;> rfl) rfl <| WL.nu rfl, trivial⟩
                  · exact ⟨fun _ hSw => WL.loadG1 hSw (Cells.drop 0 hc14) ti61 rfl rfl rfl <| WL.nu rfl, fun _ hSw => WL.loadGAt hSw hc13 [.int .i64 ((meetS x1.t s).a), .int .i64 ((meetS x1.t s).b)] ti46 rfl rfl rfl rfl rfl <| WL.nu rfl, trivial⟩
                  refine TL.step rfl ?_
                  refine WL.buildSlice _ [(0, [v13, .int .i64 ((meetS x1.t s).a), .int .i64 ((meetS x1.t s).b)])] [v13, .int .i64 ((meetS x1.t s).a), .int .i64 ((meetS x1.t s).b)] hS45 sl22 rfl rfl rfl rfl (fun z hz => by match z, hz with | [z0, z1, z2], _ => rfl) (fun b11 w34 hn11 hS46 => ?_)
                  refine WL.nil ⟨fun h => absurd h (by decide), ?_⟩
                  refine TL.step rfl ?_
                  refine WL.push (m := ([(Fact.mk x1.v (Span.mk ((meetS x1.t s).a) ((meetS x1.t s).b)))] : List Fact)) sl22 rfl rfl rfl (hr1.mono (hle5.trans hle11)) hS46 1 rfl 0 _ _ _ _ _ rfl ⟨[v13, .int .i64 ((meetS x1.t s).a), .int .i64 ((meetS x1.t s).b)], _, rfl, (FactE_mk (Fact.mk x1.v (Span.mk ((meetS x1.t s).a) ((meetS x1.t s).b))) hs8 hb5 hb6), rfl⟩ rfl (by have hreach : reach = 140737488355328 := rfl; simp only [List.length_cons, List.length_nil]; omega) (by have hreach : reach = 140737488355328 := rfl; simp only [List.length_cons, List.length_nil]; omega) rfl rfl rfl (fun v14 o7 w35 hr15 hS47 => ?_)
                  have hS48 := hS47.tail
                  refine WL.nil ⟨fun h => absurd h (by decide), ?_⟩
                  refine TL.step rfl ?_
                  refine WL.assign rfl ?_
                  refine WL.nil ⟨fun h => absurd h (by decide), ?_⟩
                  refine WC.region rfl <| WL.move rfl ?_
                  refine WL.incr k1 (by have hreach : reach = 140737488355328 := rfl; omega) rfl rfl rfl ?_
                  refine WL.assign rfl <| WL.nil ?_
                  exact ⟨_, ⟨k1 + 1, v14, o7, G11, rfl, (hle4.trans (hle5.trans hle11)), hS48, (Row.cast hr15 (by (exact (duringF_yes (by assumption) (by assumption)).symm))), rfl, rfl, rfl, rfl, (by omega)⟩, (show l.length - (k1 + 1) < l.length - k1 by omega)⟩
                refine WL.nil ⟨fun h => absurd h (by decide), ?_⟩
                refine TG.fin rfl ?_
                refine WC.seq <| WC.region rfl <| WL.move rfl <| WL.nil <| WC.condF rfl <| WC.skip <| WC.region rfl <| WL.move rfl ?_
                refine WL.incr k1 (by have hreach : reach = 140737488355328 := rfl; omega) rfl rfl rfl ?_
                refine WL.assign rfl <| WL.nil ?_
                exact ⟨_, ⟨k1 + 1, v1, o1, G11, rfl, (hle4.trans (hle5.trans hle11)), hS44, (Row.cast (hr1.mono (hle5.trans hle11)) (by (exact (duringF_no (by assumption) (by assumption)).symm))), rfl, rfl, rfl, rfl, (by omega)⟩, (show l.length - (k1 + 1) < l.length - k1 by omega)⟩
              refine WL.store hS42 0 _ _ _ 0 _ [.int .i64 ((meetS x1.t s).a), .int .i64 ((meetS x1.t s).b)] [.int .i64 ((meetS x1.t s).a), .int .i64 ((meetS x1.t s).b)] _ rfl rfl ti46 rfl (Nat.le_of_ble_eq_true rfl) rfl rfl rfl rfl rfl rfl (fun w36 hS49 => ?_)
              obtain ⟨G12, hle12, hc15, hS50⟩ := hS49.shutB hn10
              refine WL.nil ⟨fun h => absurd h (by decide), ?_⟩
              refine TG.fork 1 [9, 12] [9] rfl rfl (by decide) (by decide) (TA.cons rfl ?_ TA.nil)
              refine WL.extract _ _ rfl rfl rfl ?_
              refine WL.nil ⟨fun h => absurd h (by decide), ?_⟩
              refine TG.fork 0 [12] [12] rfl rfl (by decide) (by decide) (TA.cons rfl ?_ TA.nil)
              refine WL.assign rfl ?_
              refine WL.split (fun (h10 : (meetB x1.t s) = true) => ?_) (fun (h10 : (meetB x1.t s) = false) => ?_)
              · refine WL.nil ⟨fun h => absurd h (by decide), ?_⟩
                refine TG.fin rfl ?_
                refine WC.seq <| WC.region rfl <| WL.move rfl <| WL.nil <| WC.condT rfl ?_
                obtain ⟨p9, x8, hx8, he8, ep8⟩ := Sl.at (hvl.mono (((((hle1.trans hle2).trans hle3).trans hle4).trans hle5).trans hle12)) k1 (by omega)
                obtain rfl : x1 = x8 := Option.some.inj (hx1.symm.trans hx8)
                obtain ⟨cs9, hc16, hr16⟩ := he8
                obtain ⟨v15, rfl, hs9, hb19, hb20⟩ := FactE_open hr16
                refine dr ⟨[0, 0, 0, 6, 14, 30, 0, 126, 254, 511, 1023], [0, 1, 2, 3, 4, 7], [5, 6], [], [8, 9, 10]⟩ [(35, v1), (36, vl), (37, .int .i64 (k1 : Int)), (38, .pointer (some p9)), (39, .pointer (some (p9.add 0))), (42, .agg #[v15, .int .i64 ((meetS x1.t s).a), .int .i64 ((meetS x1.t s).b)]), (40, v15), (41, .agg #[.int .i64 ((meetS x1.t s).a), .int .i64 ((meetS x1.t s).b)])] [o1] hS50 ?_ ?_ trivial (fun w8 hS51 => ?_)
                · exact ⟨fun _ _ => WL.move rfl <| WL.nu rfl, fun _ _ => WL.move rfl <| WL.nu rfl, fun _ _ => WL.move rfl <| WL.nu rfl, fun _ _ => WL.indexAddrP k1 ep8 ul22 ti63 rfl rfl rfl rfl <| WL.nu rfl, fun _ _ => WL.fieldAddr _ 0 _ fl63 rfl rfl rfl <| WL.nu rfl, fun _ _ => WL.build _ [(0, [v15]), (1, [.int .i64 ((meetS x1.t s).a), .int .i64 ((meetS x1.t s).b)])] [v15, .int .i64 ((meetS x1.t s).a), .int .i64 ((meetS x1.t s).b)] ti63 rfl fl63 rfl rfl (by show [(0, (v15 : Value).cells.toList), (1, (.agg #[.int .i64 ((meetS x1.t s).a), .int .i64 ((meetS x1.t s).b)] : Value).cells.toList)] = _; simp only [hs9.cells1] <;> rfl) rfl <| WL.nu rfl, trivial⟩
                · exact ⟨fun _ hSw => WL.loadG1 hSw (Cells.drop 0 hc16) ti61 rfl rfl rfl <| WL.nu rfl, fun _ hSw => WL.loadGAt hSw hc15 [.int .i64 ((meetS x1.t s).a), .int .i64 ((meetS x1.t s).b)] ti46 rfl rfl rfl rfl rfl <| WL.nu rfl, trivial⟩
                refine TL.step rfl ?_
                refine WL.buildSlice _ [(0, [v15, .int .i64 ((meetS x1.t s).a), .int .i64 ((meetS x1.t s).b)])] [v15, .int .i64 ((meetS x1.t s).a), .int .i64 ((meetS x1.t s).b)] hS51 sl22 rfl rfl rfl rfl (fun z hz => by match z, hz with | [z0, z1, z2], _ => rfl) (fun b12 w38 hn12 hS52 => ?_)
                refine WL.nil ⟨fun h => absurd h (by decide), ?_⟩
                refine TL.step rfl ?_
                refine WL.push (m := ([(Fact.mk x1.v (Span.mk ((meetS x1.t s).a) ((meetS x1.t s).b)))] : List Fact)) sl22 rfl rfl rfl (hr1.mono (hle5.trans hle12)) hS52 1 rfl 0 _ _ _ _ _ rfl ⟨[v15, .int .i64 ((meetS x1.t s).a), .int .i64 ((meetS x1.t s).b)], _, rfl, (FactE_mk (Fact.mk x1.v (Span.mk ((meetS x1.t s).a) ((meetS x1.t s).b))) hs9 hb5 hb6), rfl⟩ rfl (by have hreach : reach = 140737488355328 := rfl; simp only [List.length_cons, List.length_nil]; omega) (by have hreach : reach = 140737488355328 := rfl; simp only [List.length_cons, List.length_nil]; omega) rfl rfl rfl (fun v16 o8 w39 hr17 hS53 => ?_)
                have hS54 := hS53.tail
                refine WL.nil ⟨fun h => absurd h (by decide), ?_⟩
                refine TL.step rfl ?_
                refine WL.assign rfl ?_
                refine WL.nil ⟨fun h => absurd h (by decide), ?_⟩
                refine WC.region rfl <| WL.move rfl ?_
                refine WL.incr k1 (by have hreach : reach = 140737488355328 := rfl; omega) rfl rfl rfl ?_
                refine WL.assign rfl <| WL.nil ?_
                exact ⟨_, ⟨k1 + 1, v16, o8, G12, rfl, (hle4.trans (hle5.trans hle12)), hS54, (Row.cast hr17 (by (exact (duringF_yes (by assumption) (by assumption)).symm))), rfl, rfl, rfl, rfl, (by omega)⟩, (show l.length - (k1 + 1) < l.length - k1 by omega)⟩
              refine WL.nil ⟨fun h => absurd h (by decide), ?_⟩
              refine TG.fin rfl ?_
              refine WC.seq <| WC.region rfl <| WL.move rfl <| WL.nil <| WC.condF rfl <| WC.skip <| WC.region rfl <| WL.move rfl ?_
              refine WL.incr k1 (by have hreach : reach = 140737488355328 := rfl; omega) rfl rfl rfl ?_
              refine WL.assign rfl <| WL.nil ?_
              exact ⟨_, ⟨k1 + 1, v1, o1, G12, rfl, (hle4.trans (hle5.trans hle12)), hS50, (Row.cast (hr1.mono (hle5.trans hle12)) (by (exact (duringF_no (by assumption) (by assumption)).symm))), rfl, rfl, rfl, rfl, (by omega)⟩, (show l.length - (k1 + 1) < l.length - k1 by omega)⟩
            refine WL.extract _ _ rfl rfl rfl ?_
            refine WL.nil ⟨fun h => absurd h (by decide), ?_⟩
            refine TG.fork 2 [8, 11, 12] [8] rfl rfl (by decide) (by decide) (TA.cons rfl ?_ TA.nil)
            refine WL.extract _ _ rfl rfl rfl ?_
            refine WL.nil ⟨fun h => absurd h (by decide), ?_⟩
            refine TG.fork 1 [11, 12] [11] rfl rfl (by decide) (by decide) (TA.cons rfl ?_ TA.nil)
            refine WL.store hS42 0 _ _ _ 0 _ [.int .i64 ((meetS x1.t s).a), .int .i64 ((meetS x1.t s).b)] [.int .i64 ((meetS x1.t s).a), .int .i64 ((meetS x1.t s).b)] _ rfl rfl ti46 rfl (Nat.le_of_ble_eq_true rfl) rfl rfl rfl rfl rfl rfl (fun w40 hS55 => ?_)
            obtain ⟨G13, hle13, hc17, hS56⟩ := hS55.shutB hn10
            refine WL.nil ⟨fun h => absurd h (by decide), ?_⟩
            refine TG.fork 0 [12] [12] rfl rfl (by decide) (by decide) (TA.cons rfl ?_ TA.nil)
            refine WL.assign rfl ?_
            refine WL.split (fun (h11 : (meetB x1.t s) = true) => ?_) (fun (h11 : (meetB x1.t s) = false) => ?_)
            · refine WL.nil ⟨fun h => absurd h (by decide), ?_⟩
              refine TG.fin rfl ?_
              refine WC.seq <| WC.region rfl <| WL.move rfl <| WL.nil <| WC.condT rfl ?_
              obtain ⟨p10, x9, hx9, he9, ep9⟩ := Sl.at (hvl.mono (((((hle1.trans hle2).trans hle3).trans hle4).trans hle5).trans hle13)) k1 (by omega)
              obtain rfl : x1 = x9 := Option.some.inj (hx1.symm.trans hx9)
              obtain ⟨cs10, hc18, hr18⟩ := he9
              obtain ⟨v17, rfl, hs10, hb21, hb22⟩ := FactE_open hr18
              refine dr ⟨[0, 0, 0, 6, 14, 30, 0, 126, 254, 511, 1023], [0, 1, 2, 3, 4, 7], [5, 6], [], [8, 9, 10]⟩ [(35, v1), (36, vl), (37, .int .i64 (k1 : Int)), (38, .pointer (some p10)), (39, .pointer (some (p10.add 0))), (42, .agg #[v17, .int .i64 ((meetS x1.t s).a), .int .i64 ((meetS x1.t s).b)]), (40, v17), (41, .agg #[.int .i64 ((meetS x1.t s).a), .int .i64 ((meetS x1.t s).b)])] [o1] hS56 ?_ ?_ trivial (fun w8 hS57 => ?_)
              · exact ⟨fun _ _ => WL.move rfl <| WL.nu rfl, fun _ _ => WL.move rfl <| WL.nu rfl, fun _ _ => WL.move rfl <| WL.nu rfl, fun _ _ => WL.indexAddrP k1 ep9 ul22 ti63 rfl rfl rfl rfl <| WL.nu rfl, fun _ _ => WL.fieldAddr _ 0 _ fl63 rfl rfl rfl <| WL.nu rfl, fun _ _ => WL.build _ [(0, [v17]), (1, [.int .i64 ((meetS x1.t s).a), .int .i64 ((meetS x1.t s).b)])] [v17, .int .i64 ((meetS x1.t s).a), .int .i64 ((meetS x1.t s).b)] ti63 rfl fl63 rfl rfl (by show [(0, (v17 : Value).cells.toList), (1, (.agg #[.int .i64 ((meetS x1.t s).a), .int .i64 ((meetS x1.t s).b)] : Value).cells.toList)] = _; simp only [hs10.cells1] <;> rfl) rfl <| WL.nu rfl, trivial⟩
              · exact ⟨fun _ hSw => WL.loadG1 hSw (Cells.drop 0 hc18) ti61 rfl rfl rfl <| WL.nu rfl, fun _ hSw => WL.loadGAt hSw hc17 [.int .i64 ((meetS x1.t s).a), .int .i64 ((meetS x1.t s).b)] ti46 rfl rfl rfl rfl rfl <| WL.nu rfl, trivial⟩
              refine TL.step rfl ?_
              refine WL.buildSlice _ [(0, [v17, .int .i64 ((meetS x1.t s).a), .int .i64 ((meetS x1.t s).b)])] [v17, .int .i64 ((meetS x1.t s).a), .int .i64 ((meetS x1.t s).b)] hS57 sl22 rfl rfl rfl rfl (fun z hz => by match z, hz with | [z0, z1, z2], _ => rfl) (fun b13 w42 hn13 hS58 => ?_)
              refine WL.nil ⟨fun h => absurd h (by decide), ?_⟩
              refine TL.step rfl ?_
              refine WL.push (m := ([(Fact.mk x1.v (Span.mk ((meetS x1.t s).a) ((meetS x1.t s).b)))] : List Fact)) sl22 rfl rfl rfl (hr1.mono (hle5.trans hle13)) hS58 1 rfl 0 _ _ _ _ _ rfl ⟨[v17, .int .i64 ((meetS x1.t s).a), .int .i64 ((meetS x1.t s).b)], _, rfl, (FactE_mk (Fact.mk x1.v (Span.mk ((meetS x1.t s).a) ((meetS x1.t s).b))) hs10 hb5 hb6), rfl⟩ rfl (by have hreach : reach = 140737488355328 := rfl; simp only [List.length_cons, List.length_nil]; omega) (by have hreach : reach = 140737488355328 := rfl; simp only [List.length_cons, List.length_nil]; omega) rfl rfl rfl (fun v18 o9 w43 hr19 hS59 => ?_)
              have hS60 := hS59.tail
              refine WL.nil ⟨fun h => absurd h (by decide), ?_⟩
              refine TL.step rfl ?_
              refine WL.assign rfl ?_
              refine WL.nil ⟨fun h => absurd h (by decide), ?_⟩
              refine WC.region rfl <| WL.move rfl ?_
              refine WL.incr k1 (by have hreach : reach = 140737488355328 := rfl; omega) rfl rfl rfl ?_
              refine WL.assign rfl <| WL.nil ?_
              exact ⟨_, ⟨k1 + 1, v18, o9, G13, rfl, (hle4.trans (hle5.trans hle13)), hS60, (Row.cast hr19 (by (exact (duringF_yes (by assumption) (by assumption)).symm))), rfl, rfl, rfl, rfl, (by omega)⟩, (show l.length - (k1 + 1) < l.length - k1 by omega)⟩
            refine WL.nil ⟨fun h => absurd h (by decide), ?_⟩
            refine TG.fin rfl ?_
            refine WC.seq <| WC.region rfl <| WL.move rfl <| WL.nil <| WC.condF rfl <| WC.skip <| WC.region rfl <| WL.move rfl ?_
            refine WL.incr k1 (by have hreach : reach = 140737488355328 := rfl; omega) rfl rfl rfl ?_
            refine WL.assign rfl <| WL.nil ?_
            exact ⟨_, ⟨k1 + 1, v1, o1, G13, rfl, (hle4.trans (hle5.trans hle13)), hS56, (Row.cast (hr1.mono (hle5.trans hle13)) (by (exact (duringF_no (by assumption) (by assumption)).symm))), rfl, rfl, rfl, rfl, (by omega)⟩, (show l.length - (k1 + 1) < l.length - k1 by omega)⟩
          refine WL.alloc hS7 ti46 rfl rfl (fun b14 w44 hn14 hS61 => ?_)
          refine WL.nil ⟨fun _ => hS61.tail.down hS6.le hle5, ?_⟩
          refine TG.fork 4 [7, 8, 9, 11, 12] [7] rfl rfl (by decide) (by decide) (TA.cons rfl ?_ TA.nil)
          refine WL.move rfl ?_
          refine WL.nil ⟨fun h => absurd h (by decide), ?_⟩
          refine TG.fork 3 [8, 9, 11, 12] [8, 9] rfl rfl (by decide) (by decide) (TA.cons rfl ?_ (TA.cons rfl ?_ TA.nil))
          · refine WL.extract _ _ rfl rfl rfl ?_
            refine WL.nil ⟨fun h => absurd h (by decide), ?_⟩
            refine TG.fork 2 [9, 11, 12] [9, 11] rfl rfl (by decide) (by decide) (TA.cons rfl ?_ (TA.cons rfl ?_ TA.nil))
            · refine WL.extract _ _ rfl rfl rfl ?_
              refine WL.nil ⟨fun h => absurd h (by decide), ?_⟩
              refine TG.fork 1 [11, 12] [11] rfl rfl (by decide) (by decide) (TA.cons rfl ?_ TA.nil)
              refine WL.store hS61 0 _ _ _ 0 _ [.int .i64 ((meetS x1.t s).a), .int .i64 ((meetS x1.t s).b)] [.int .i64 ((meetS x1.t s).a), .int .i64 ((meetS x1.t s).b)] _ rfl rfl ti46 rfl (Nat.le_of_ble_eq_true rfl) rfl rfl rfl rfl rfl rfl (fun w45 hS62 => ?_)
              obtain ⟨G14, hle14, hc19, hS63⟩ := hS62.shutB hn14
              refine WL.nil ⟨fun h => absurd h (by decide), ?_⟩
              refine TG.fork 0 [12] [12] rfl rfl (by decide) (by decide) (TA.cons rfl ?_ TA.nil)
              refine WL.assign rfl ?_
              refine WL.split (fun (h12 : (meetB x1.t s) = true) => ?_) (fun (h12 : (meetB x1.t s) = false) => ?_)
              · refine WL.nil ⟨fun h => absurd h (by decide), ?_⟩
                refine TG.fin rfl ?_
                refine WC.seq <| WC.region rfl <| WL.move rfl <| WL.nil <| WC.condT rfl ?_
                obtain ⟨p11, x10, hx10, he10, ep10⟩ := Sl.at (hvl.mono (((((hle1.trans hle2).trans hle3).trans hle4).trans hle5).trans hle14)) k1 (by omega)
                obtain rfl : x1 = x10 := Option.some.inj (hx1.symm.trans hx10)
                obtain ⟨cs11, hc20, hr20⟩ := he10
                obtain ⟨v19, rfl, hs11, hb23, hb24⟩ := FactE_open hr20
                refine dr ⟨[0, 0, 0, 6, 14, 30, 0, 126, 254, 511, 1023], [0, 1, 2, 3, 4, 7], [5, 6], [], [8, 9, 10]⟩ [(35, v1), (36, vl), (37, .int .i64 (k1 : Int)), (38, .pointer (some p11)), (39, .pointer (some (p11.add 0))), (42, .agg #[v19, .int .i64 ((meetS x1.t s).a), .int .i64 ((meetS x1.t s).b)]), (40, v19), (41, .agg #[.int .i64 ((meetS x1.t s).a), .int .i64 ((meetS x1.t s).b)])] [o1] hS63 ?_ ?_ trivial (fun w8 hS64 => ?_)
                · exact ⟨fun _ _ => WL.move rfl <| WL.nu rfl, fun _ _ => WL.move rfl <| WL.nu rfl, fun _ _ => WL.move rfl <| WL.nu rfl, fun _ _ => WL.indexAddrP k1 ep10 ul22 ti63 rfl rfl rfl rfl <| WL.nu rfl, fun _ _ => WL.fieldAddr _ 0 _ fl63 rfl rfl rfl <| WL.nu rfl, fun _ _ => WL.build _ [(0, [v19]), (1, [.int .i64 ((meetS x1.t s).a), .int .i64 ((meetS x1.t s).b)])] [v19, .int .i64 ((meetS x1.t s).a), .int .i64 ((meetS x1.t s).b)] ti63 rfl fl63 rfl rfl (by show [(0, (v19 : Value).cells.toList), (1, (.agg #[.int .i64 ((meetS x1.t s).a), .int .i64 ((meetS x1.t s).b)] : Value).cells.toList)] = _; simp only [hs11.cells1] <;> rfl) rfl <| WL.nu rfl, trivial⟩
                · exact ⟨fun _ hSw => WL.loadG1 hSw (Cells.drop 0 hc20) ti61 rfl rfl rfl <| WL.nu rfl, fun _ hSw => WL.loadGAt hSw hc19 [.int .i64 ((meetS x1.t s).a), .int .i64 ((meetS x1.t s).b)] ti46 rfl rfl rfl rfl rfl <| WL.nu rfl, trivial⟩
                refine TL.step rfl ?_
                refine WL.buildSlice _ [(0, [v19, .int .i64 ((meetS x1.t s).a), .int .i64 ((meetS x1.t s).b)])] [v19, .int .i64 ((meetS x1.t s).a), .int .i64 ((meetS x1.t s).b)] hS64 sl22 rfl rfl rfl rfl (fun z hz => by match z, hz with | [z0, z1, z2], _ => rfl) (fun b15 w47 hn15 hS65 => ?_)
                refine WL.nil ⟨fun h => absurd h (by decide), ?_⟩
                refine TL.step rfl ?_
                refine WL.push (m := ([(Fact.mk x1.v (Span.mk ((meetS x1.t s).a) ((meetS x1.t s).b)))] : List Fact)) sl22 rfl rfl rfl (hr1.mono (hle5.trans hle14)) hS65 1 rfl 0 _ _ _ _ _ rfl ⟨[v19, .int .i64 ((meetS x1.t s).a), .int .i64 ((meetS x1.t s).b)], _, rfl, (FactE_mk (Fact.mk x1.v (Span.mk ((meetS x1.t s).a) ((meetS x1.t s).b))) hs11 hb5 hb6), rfl⟩ rfl (by have hreach : reach = 140737488355328 := rfl; simp only [List.length_cons, List.length_nil]; omega) (by have hreach : reach = 140737488355328 := rfl; simp only [List.length_cons, List.length_nil]; omega) rfl rfl rfl (fun v20 o10 w48 hr21 hS66 => ?_)
                have hS67 := hS66.tail
                refine WL.nil ⟨fun h => absurd h (by decide), ?_⟩
                refine TL.step rfl ?_
                refine WL.assign rfl ?_
                refine WL.nil ⟨fun h => absurd h (by decide), ?_⟩
                refine WC.region rfl <| WL.move rfl ?_
                refine WL.incr k1 (by have hreach : reach = 140737488355328 := rfl; omega) rfl rfl rfl ?_
                refine WL.assign rfl <| WL.nil ?_
                exact ⟨_, ⟨k1 + 1, v20, o10, G14, rfl, (hle4.trans (hle5.trans hle14)), hS67, (Row.cast hr21 (by (exact (duringF_yes (by assumption) (by assumption)).symm))), rfl, rfl, rfl, rfl, (by omega)⟩, (show l.length - (k1 + 1) < l.length - k1 by omega)⟩
              refine WL.nil ⟨fun h => absurd h (by decide), ?_⟩
              refine TG.fin rfl ?_
              refine WC.seq <| WC.region rfl <| WL.move rfl <| WL.nil <| WC.condF rfl <| WC.skip <| WC.region rfl <| WL.move rfl ?_
              refine WL.incr k1 (by have hreach : reach = 140737488355328 := rfl; omega) rfl rfl rfl ?_
              refine WL.assign rfl <| WL.nil ?_
              exact ⟨_, ⟨k1 + 1, v1, o1, G14, rfl, (hle4.trans (hle5.trans hle14)), hS63, (Row.cast (hr1.mono (hle5.trans hle14)) (by (exact (duringF_no (by assumption) (by assumption)).symm))), rfl, rfl, rfl, rfl, (by omega)⟩, (show l.length - (k1 + 1) < l.length - k1 by omega)⟩
            refine WL.store hS61 0 _ _ _ 0 _ [.int .i64 ((meetS x1.t s).a), .int .i64 ((meetS x1.t s).b)] [.int .i64 ((meetS x1.t s).a), .int .i64 ((meetS x1.t s).b)] _ rfl rfl ti46 rfl (Nat.le_of_ble_eq_true rfl) rfl rfl rfl rfl rfl rfl (fun w49 hS68 => ?_)
            obtain ⟨G15, hle15, hc21, hS69⟩ := hS68.shutB hn14
            refine WL.nil ⟨fun h => absurd h (by decide), ?_⟩
            refine TG.fork 1 [9, 12] [9] rfl rfl (by decide) (by decide) (TA.cons rfl ?_ TA.nil)
            refine WL.extract _ _ rfl rfl rfl ?_
            refine WL.nil ⟨fun h => absurd h (by decide), ?_⟩
            refine TG.fork 0 [12] [12] rfl rfl (by decide) (by decide) (TA.cons rfl ?_ TA.nil)
            refine WL.assign rfl ?_
            refine WL.split (fun (h13 : (meetB x1.t s) = true) => ?_) (fun (h13 : (meetB x1.t s) = false) => ?_)
            · refine WL.nil ⟨fun h => absurd h (by decide), ?_⟩
              refine TG.fin rfl ?_
              refine WC.seq <| WC.region rfl <| WL.move rfl <| WL.nil <| WC.condT rfl ?_
              obtain ⟨p12, x11, hx11, he11, ep11⟩ := Sl.at (hvl.mono (((((hle1.trans hle2).trans hle3).trans hle4).trans hle5).trans hle15)) k1 (by omega)
              obtain rfl : x1 = x11 := Option.some.inj (hx1.symm.trans hx11)
              obtain ⟨cs12, hc22, hr22⟩ := he11
              obtain ⟨v21, rfl, hs12, hb25, hb26⟩ := FactE_open hr22
              refine dr ⟨[0, 0, 0, 6, 14, 30, 0, 126, 254, 511, 1023], [0, 1, 2, 3, 4, 7], [5, 6], [], [8, 9, 10]⟩ [(35, v1), (36, vl), (37, .int .i64 (k1 : Int)), (38, .pointer (some p12)), (39, .pointer (some (p12.add 0))), (42, .agg #[v21, .int .i64 ((meetS x1.t s).a), .int .i64 ((meetS x1.t s).b)]), (40, v21), (41, .agg #[.int .i64 ((meetS x1.t s).a), .int .i64 ((meetS x1.t s).b)])] [o1] hS69 ?_ ?_ trivial (fun w8 hS70 => ?_)
              · exact ⟨fun _ _ => WL.move rfl <| WL.nu rfl, fun _ _ => WL.move rfl <| WL.nu rfl, fun _ _ => WL.move rfl <| WL.nu rfl, fun _ _ => WL.indexAddrP k1 ep11 ul22 ti63 rfl rfl rfl rfl <| WL.nu rfl, fun _ _ => WL.fieldAddr _ 0 _ fl63 rfl rfl rfl <| WL.nu rfl, fun _ _ => WL.build _ [(0, [v21]), (1, [.int .i64 ((meetS x1.t s).a), .int .i64 ((meetS x1.t s).b)])] [v21, .int .i64 ((meetS x1.t s).a), .int .i64 ((meetS x1.t s).b)] ti63 rfl fl63 rfl rfl (by show [(0, (v21 : Value).cells.toList), (1, (.agg #[.int .i64 ((meetS x1.t s).a), .int .i64 ((meetS x1.t s).b)] : Value).cells.toList)] = _; simp only [hs12.cells1] <;> rfl) rfl <| WL.nu rfl, trivial⟩
              · exact ⟨fun _ hSw => WL.loadG1 hSw (Cells.drop 0 hc22) ti61 rfl rfl rfl <| WL.nu rfl, fun _ hSw => WL.loadGAt hSw hc21 [.int .i64 ((meetS x1.t s).a), .int .i64 ((meetS x1.t s).b)] ti46 rfl rfl rfl rfl rfl <| WL.nu rfl, trivial⟩
              refine TL.step rfl ?_
              refine WL.buildSlice _ [(0, [v21, .int .i64 ((meetS x1.t s).a), .int .i64 ((meetS x1.t s).b)])] [v21, .int .i64 ((meetS x1.t s).a), .int .i64 ((meetS x1.t s).b)] hS70 sl22 rfl rfl rfl rfl (fun z hz => by match z, hz with | [z0, z1, z2], _ => rfl) (fun b16 w51 hn16 hS71 => ?_)
              refine WL.nil ⟨fun h => absurd h (by decide), ?_⟩
              refine TL.step rfl ?_
              refine WL.push (m := ([(Fact.mk x1.v (Span.mk ((meetS x1.t s).a) ((meetS x1.t s).b)))] : List Fact)) sl22 rfl rfl rfl (hr1.mono (hle5.trans hle15)) hS71 1 rfl 0 _ _ _ _ _ rfl ⟨[v21, .int .i64 ((meetS x1.t s).a), .int .i64 ((meetS x1.t s).b)], _, rfl, (FactE_mk (Fact.mk x1.v (Span.mk ((meetS x1.t s).a) ((meetS x1.t s).b))) hs12 hb5 hb6), rfl⟩ rfl (by have hreach : reach = 140737488355328 := rfl; simp only [List.length_cons, List.length_nil]; omega) (by have hreach : reach = 140737488355328 := rfl; simp only [List.length_cons, List.length_nil]; omega) rfl rfl rfl (fun v22 o11 w52 hr23 hS72 => ?_)
              have hS73 := hS72.tail
              refine WL.nil ⟨fun h => absurd h (by decide), ?_⟩
              refine TL.step rfl ?_
              refine WL.assign rfl ?_
              refine WL.nil ⟨fun h => absurd h (by decide), ?_⟩
              refine WC.region rfl <| WL.move rfl ?_
              refine WL.incr k1 (by have hreach : reach = 140737488355328 := rfl; omega) rfl rfl rfl ?_
              refine WL.assign rfl <| WL.nil ?_
              exact ⟨_, ⟨k1 + 1, v22, o11, G15, rfl, (hle4.trans (hle5.trans hle15)), hS73, (Row.cast hr23 (by (exact (duringF_yes (by assumption) (by assumption)).symm))), rfl, rfl, rfl, rfl, (by omega)⟩, (show l.length - (k1 + 1) < l.length - k1 by omega)⟩
            refine WL.nil ⟨fun h => absurd h (by decide), ?_⟩
            refine TG.fin rfl ?_
            refine WC.seq <| WC.region rfl <| WL.move rfl <| WL.nil <| WC.condF rfl <| WC.skip <| WC.region rfl <| WL.move rfl ?_
            refine WL.incr k1 (by have hreach : reach = 140737488355328 := rfl; omega) rfl rfl rfl ?_
            refine WL.assign rfl <| WL.nil ?_
            exact ⟨_, ⟨k1 + 1, v1, o1, G15, rfl, (hle4.trans (hle5.trans hle15)), hS69, (Row.cast (hr1.mono (hle5.trans hle15)) (by (exact (duringF_no (by assumption) (by assumption)).symm))), rfl, rfl, rfl, rfl, (by omega)⟩, (show l.length - (k1 + 1) < l.length - k1 by omega)⟩
          refine WL.extract _ _ rfl rfl rfl ?_
          refine WL.nil ⟨fun h => absurd h (by decide), ?_⟩
          refine TG.fork 2 [8, 11, 12] [8] rfl rfl (by decide) (by decide) (TA.cons rfl ?_ TA.nil)
          refine WL.extract _ _ rfl rfl rfl ?_
          refine WL.nil ⟨fun h => absurd h (by decide), ?_⟩
          refine TG.fork 1 [11, 12] [11] rfl rfl (by decide) (by decide) (TA.cons rfl ?_ TA.nil)
          refine WL.store hS61 0 _ _ _ 0 _ [.int .i64 ((meetS x1.t s).a), .int .i64 ((meetS x1.t s).b)] [.int .i64 ((meetS x1.t s).a), .int .i64 ((meetS x1.t s).b)] _ rfl rfl ti46 rfl (Nat.le_of_ble_eq_true rfl) rfl rfl rfl rfl rfl rfl (fun w53 hS74 => ?_)
          obtain ⟨G16, hle16, hc23, hS75⟩ := hS74.shutB hn14
          refine WL.nil ⟨fun h => absurd h (by decide), ?_⟩
          refine TG.fork 0 [12] [12] rfl rfl (by decide) (by decide) (TA.cons rfl ?_ TA.nil)
          refine WL.assign rfl ?_
          refine WL.split (fun (h14 : (meetB x1.t s) = true) => ?_) (fun (h14 : (meetB x1.t s) = false) => ?_)
          · refine WL.nil ⟨fun h => absurd h (by decide), ?_⟩
            refine TG.fin rfl ?_
            refine WC.seq <| WC.region rfl <| WL.move rfl <| WL.nil <| WC.condT rfl ?_
            obtain ⟨p13, x12, hx12, he12, ep12⟩ := Sl.at (hvl.mono (((((hle1.trans hle2).trans hle3).trans hle4).trans hle5).trans hle16)) k1 (by omega)
            obtain rfl : x1 = x12 := Option.some.inj (hx1.symm.trans hx12)
            obtain ⟨cs13, hc24, hr24⟩ := he12
            obtain ⟨v23, rfl, hs13, hb27, hb28⟩ := FactE_open hr24
            refine dr ⟨[0, 0, 0, 6, 14, 30, 0, 126, 254, 511, 1023], [0, 1, 2, 3, 4, 7], [5, 6], [], [8, 9, 10]⟩ [(35, v1), (36, vl), (37, .int .i64 (k1 : Int)), (38, .pointer (some p13)), (39, .pointer (some (p13.add 0))), (42, .agg #[v23, .int .i64 ((meetS x1.t s).a), .int .i64 ((meetS x1.t s).b)]), (40, v23), (41, .agg #[.int .i64 ((meetS x1.t s).a), .int .i64 ((meetS x1.t s).b)])] [o1] hS75 ?_ ?_ trivial (fun w8 hS76 => ?_)
            · exact ⟨fun _ _ => WL.move rfl <| WL.nu rfl, fun _ _ => WL.move rfl <| WL.nu rfl, fun _ _ => WL.move rfl <| WL.nu rfl, fun _ _ => WL.indexAddrP k1 ep12 ul22 ti63 rfl rfl rfl rfl <| WL.nu rfl, fun _ _ => WL.fieldAddr _ 0 _ fl63 rfl rfl rfl <| WL.nu rfl, fun _ _ => WL.build _ [(0, [v23]), (1, [.int .i64 ((meetS x1.t s).a), .int .i64 ((meetS x1.t s).b)])] [v23, .int .i64 ((meetS x1.t s).a), .int .i64 ((meetS x1.t s).b)] ti63 rfl fl63 rfl rfl (by show [(0, (v23 : Value).cells.toList), (1, (.agg #[.int .i64 ((meetS x1.t s).a), .int .i64 ((meetS x1.t s).b)] : Value).cells.toList)] = _; simp only [hs13.cells1] <;> rfl) rfl <| WL.nu rfl, trivial⟩
            · exact ⟨fun _ hSw => WL.loadG1 hSw (Cells.drop 0 hc24) ti61 rfl rfl rfl <| WL.nu rfl, fun _ hSw => WL.loadGAt hSw hc23 [.int .i64 ((meetS x1.t s).a), .int .i64 ((meetS x1.t s).b)] ti46 rfl rfl rfl rfl rfl <| WL.nu rfl, trivial⟩
            refine TL.step rfl ?_
            refine WL.buildSlice _ [(0, [v23, .int .i64 ((meetS x1.t s).a), .int .i64 ((meetS x1.t s).b)])] [v23, .int .i64 ((meetS x1.t s).a), .int .i64 ((meetS x1.t s).b)] hS76 sl22 rfl rfl rfl rfl (fun z hz => by match z, hz with | [z0, z1, z2], _ => rfl) (fun b17 w55 hn17 hS77 => ?_)
            refine WL.nil ⟨fun h => absurd h (by decide), ?_⟩
            refine TL.step rfl ?_
            refine WL.push (m := ([(Fact.mk x1.v (Span.mk ((meetS x1.t s).a) ((meetS x1.t s).b)))] : List Fact)) sl22 rfl rfl rfl (hr1.mono (hle5.trans hle16)) hS77 1 rfl 0 _ _ _ _ _ rfl ⟨[v23, .int .i64 ((meetS x1.t s).a), .int .i64 ((meetS x1.t s).b)], _, rfl, (FactE_mk (Fact.mk x1.v (Span.mk ((meetS x1.t s).a) ((meetS x1.t s).b))) hs13 hb5 hb6), rfl⟩ rfl (by have hreach : reach = 140737488355328 := rfl; simp only [List.length_cons, List.length_nil]; omega) (by have hreach : reach = 140737488355328 := rfl; simp only [List.length_cons, List.length_nil]; omega) rfl rfl rfl (fun v24 o12 w56 hr25 hS78 => ?_)
            have hS79 := hS78.tail
            refine WL.nil ⟨fun h => absurd h (by decide), ?_⟩
            refine TL.step rfl ?_
            refine WL.assign rfl ?_
            refine WL.nil ⟨fun h => absurd h (by decide), ?_⟩
            refine WC.region rfl <| WL.move rfl ?_
            refine WL.incr k1 (by have hreach : reach = 140737488355328 := rfl; omega) rfl rfl rfl ?_
            refine WL.assign rfl <| WL.nil ?_
            exact ⟨_, ⟨k1 + 1, v24, o12, G16, rfl, (hle4.trans (hle5.trans hle16)), hS79, (Row.cast hr25 (by (exact (duringF_yes (by assumption) (by assumption)).symm))), rfl, rfl, rfl, rfl, (by omega)⟩, (show l.length - (k1 + 1) < l.length - k1 by omega)⟩
          refine WL.nil ⟨fun h => absurd h (by decide), ?_⟩
          refine TG.fin rfl ?_
          refine WC.seq <| WC.region rfl <| WL.move rfl <| WL.nil <| WC.condF rfl <| WC.skip <| WC.region rfl <| WL.move rfl ?_
          refine WL.incr k1 (by have hreach : reach = 140737488355328 := rfl; omega) rfl rfl rfl ?_
          refine WL.assign rfl <| WL.nil ?_
          exact ⟨_, ⟨k1 + 1, v1, o1, G16, rfl, (hle4.trans (hle5.trans hle16)), hS75, (Row.cast (hr1.mono (hle5.trans hle16)) (by (exact (duringF_no (by assumption) (by assumption)).symm))), rfl, rfl, rfl, rfl, (by omega)⟩, (show l.length - (k1 + 1) < l.length - k1 by omega)⟩
        refine WL.alloc hS6 ti46 rfl rfl (fun b18 w57 hn18 hS80 => ?_)
        refine WL.nil ⟨fun _ => hS80.tail.down hS6.le (G4.le_refl), ?_⟩
        refine TG.fork 5 [6, 7, 8, 9, 11, 12] [6] rfl rfl (by decide) (by decide) (TA.cons rfl ?_ TA.nil)
        refine WL.callF [.agg #[.int .i64 x1.t.a, .int .i64 x1.t.b], .agg #[.int .i64 s.a, .int .i64 s.b]] #[] hb87 rfl rfl rfl ((c_r10Meet _ _ hS80.imm x1.t s _ (SpanE_mk x1.t hb3 hb4) _ (SpanE_mk s hb1 hb2) ).mono ?_)
        rintro e w58 ⟨r6, G17, rfl, hres4, hpost4⟩
        refine ⟨_, rfl, ?_⟩
        have hS81 := hS80.call hres4
        have hle17 := hres4.le
        obtain ⟨r7, r8, rfl, hs14, rfl⟩ := hpost4
        obtain ⟨cs14, rfl, hr26⟩ := hs14
        obtain ⟨rfl, hb29, hb30⟩ := SpanE_open hr26
        refine WL.nil ⟨fun h => absurd h (by decide), ?_⟩
        refine TG.fork 4 [7, 8, 9, 11, 12] [7] rfl rfl (by decide) (by decide) (TA.cons rfl ?_ TA.nil)
        refine WL.move rfl ?_
        refine WL.nil ⟨fun h => absurd h (by decide), ?_⟩
        refine TG.fork 3 [8, 9, 11, 12] [8, 9] rfl rfl (by decide) (by decide) (TA.cons rfl ?_ (TA.cons rfl ?_ TA.nil))
        · refine WL.extract _ _ rfl rfl rfl ?_
          refine WL.nil ⟨fun h => absurd h (by decide), ?_⟩
          refine TG.fork 2 [9, 11, 12] [9, 11] rfl rfl (by decide) (by decide) (TA.cons rfl ?_ (TA.cons rfl ?_ TA.nil))
          · refine WL.extract _ _ rfl rfl rfl ?_
            refine WL.nil ⟨fun h => absurd h (by decide), ?_⟩
            refine TG.fork 1 [11, 12] [11] rfl rfl (by decide) (by decide) (TA.cons rfl ?_ TA.nil)
            refine WL.store hS81 0 _ _ _ 0 _ [.int .i64 ((meetS x1.t s).a), .int .i64 ((meetS x1.t s).b)] [.int .i64 ((meetS x1.t s).a), .int .i64 ((meetS x1.t s).b)] _ rfl rfl ti46 rfl (Nat.le_of_ble_eq_true rfl) rfl rfl rfl rfl rfl rfl (fun w59 hS82 => ?_)
            obtain ⟨G18, hle18, hc25, hS83⟩ := hS82.shutB hn18
            refine WL.nil ⟨fun h => absurd h (by decide), ?_⟩
            refine TG.fork 0 [12] [12] rfl rfl (by decide) (by decide) (TA.cons rfl ?_ TA.nil)
            refine WL.assign rfl ?_
            refine WL.split (fun (h15 : (meetB x1.t s) = true) => ?_) (fun (h15 : (meetB x1.t s) = false) => ?_)
            · refine WL.nil ⟨fun h => absurd h (by decide), ?_⟩
              refine TG.fin rfl ?_
              refine WC.seq <| WC.region rfl <| WL.move rfl <| WL.nil <| WC.condT rfl ?_
              obtain ⟨p14, x13, hx13, he13, ep13⟩ := Sl.at (hvl.mono (((((hle1.trans hle2).trans hle3).trans hle4).trans hle17).trans hle18)) k1 (by omega)
              obtain rfl : x1 = x13 := Option.some.inj (hx1.symm.trans hx13)
              obtain ⟨cs15, hc26, hr27⟩ := he13
              obtain ⟨v25, rfl, hs15, hb31, hb32⟩ := FactE_open hr27
              refine dr ⟨[0, 0, 0, 6, 14, 30, 0, 126, 254, 511, 1023], [0, 1, 2, 3, 4, 7], [5, 6], [], [8, 9, 10]⟩ [(35, v1), (36, vl), (37, .int .i64 (k1 : Int)), (38, .pointer (some p14)), (39, .pointer (some (p14.add 0))), (42, .agg #[v25, .int .i64 ((meetS x1.t s).a), .int .i64 ((meetS x1.t s).b)]), (40, v25), (41, .agg #[.int .i64 ((meetS x1.t s).a), .int .i64 ((meetS x1.t s).b)])] [o1] hS83 ?_ ?_ trivial (fun w8 hS84 => ?_)
              · exact ⟨fun _ _ => WL.move rfl <| WL.nu rfl, fun _ _ => WL.move rfl <| WL.nu rfl, fun _ _ => WL.move rfl <| WL.nu rfl, fun _ _ => WL.indexAddrP k1 ep13 ul22 ti63 rfl rfl rfl rfl <| WL.nu rfl, fun _ _ => WL.fieldAddr _ 0 _ fl63 rfl rfl rfl <| WL.nu rfl, fun _ _ => WL.build _ [(0, [v25]), (1, [.int .i64 ((meetS x1.t s).a), .int .i64 ((meetS x1.t s).b)])] [v25, .int .i64 ((meetS x1.t s).a), .int .i64 ((meetS x1.t s).b)] ti63 rfl fl63 rfl rfl (by show [(0, (v25 : Value).cells.toList), (1, (.agg #[.int .i64 ((meetS x1.t s).a), .int .i64 ((meetS x1.t s).b)] : Value).cells.toList)] = _; simp only [hs15.cells1] <;> rfl) rfl <| WL.nu rfl, trivial⟩
              · exact ⟨fun _ hSw => WL.loadG1 hSw (Cells.drop 0 hc26) ti61 rfl rfl rfl <| WL.nu rfl, fun _ hSw => WL.loadGAt hSw hc25 [.int .i64 ((meetS x1.t s).a), .int .i64 ((meetS x1.t s).b)] ti46 rfl rfl rfl rfl rfl <| WL.nu rfl, trivial⟩
              refine TL.step rfl ?_
              refine WL.buildSlice _ [(0, [v25, .int .i64 ((meetS x1.t s).a), .int .i64 ((meetS x1.t s).b)])] [v25, .int .i64 ((meetS x1.t s).a), .int .i64 ((meetS x1.t s).b)] hS84 sl22 rfl rfl rfl rfl (fun z hz => by match z, hz with | [z0, z1, z2], _ => rfl) (fun b19 w61 hn19 hS85 => ?_)
              refine WL.nil ⟨fun h => absurd h (by decide), ?_⟩
              refine TL.step rfl ?_
              refine WL.push (m := ([(Fact.mk x1.v (Span.mk ((meetS x1.t s).a) ((meetS x1.t s).b)))] : List Fact)) sl22 rfl rfl rfl (hr1.mono (hle17.trans hle18)) hS85 1 rfl 0 _ _ _ _ _ rfl ⟨[v25, .int .i64 ((meetS x1.t s).a), .int .i64 ((meetS x1.t s).b)], _, rfl, (FactE_mk (Fact.mk x1.v (Span.mk ((meetS x1.t s).a) ((meetS x1.t s).b))) hs15 hb29 hb30), rfl⟩ rfl (by have hreach : reach = 140737488355328 := rfl; simp only [List.length_cons, List.length_nil]; omega) (by have hreach : reach = 140737488355328 := rfl; simp only [List.length_cons, List.length_nil]; omega) rfl rfl rfl (fun v26 o13 w62 hr28 hS86 => ?_)
              have hS87 := hS86.tail
              refine WL.nil ⟨fun h => absurd h (by decide), ?_⟩
              refine TL.step rfl ?_
              refine WL.assign rfl ?_
              refine WL.nil ⟨fun h => absurd h (by decide), ?_⟩
              refine WC.region rfl <| WL.move rfl ?_
              refine WL.incr k1 (by have hreach : reach = 140737488355328 := rfl; omega) rfl rfl rfl ?_
              refine WL.assign rfl <| WL.nil ?_
              exact ⟨_, ⟨k1 + 1, v26, o13, G18, rfl, (hle4.trans (hle17.trans hle18)), hS87, (Row.cast hr28 (by (exact (duringF_yes (by assumption) (by assumption)).symm))), rfl, rfl, rfl, rfl, (by omega)⟩, (show l.length - (k1 + 1) < l.length - k1 by omega)⟩
            refine WL.nil ⟨fun h => absurd h (by decide), ?_⟩
            refine TG.fin rfl ?_
            refine WC.seq <| WC.region rfl <| WL.move rfl <| WL.nil <| WC.condF rfl <| WC.skip <| WC.region rfl <| WL.move rfl ?_
            refine WL.incr k1 (by have hreach : reach = 140737488355328 := rfl; omega) rfl rfl rfl ?_
            refine WL.assign rfl <| WL.nil ?_
            exact ⟨_, ⟨k1 + 1, v1, o1, G18, rfl, (hle4.trans (hle17.trans hle18)), hS83, (Row.cast (hr1.mono (hle17.trans hle18)) (by (exact (duringF_no (by assumption) (by assumption)).symm))), rfl, rfl, rfl, rfl, (by omega)⟩, (show l.length - (k1 + 1) < l.length - k1 by omega)⟩
          refine WL.store hS81 0 _ _ _ 0 _ [.int .i64 ((meetS x1.t s).a), .int .i64 ((meetS x1.t s).b)] [.int .i64 ((meetS x1.t s).a), .int .i64 ((meetS x1.t s).b)] _ rfl rfl ti46 rfl (Nat.le_of_ble_eq_true rfl) rfl rfl rfl rfl rfl rfl (fun w63 hS88 => ?_)
          obtain ⟨G19, hle19, hc27, hS89⟩ := hS88.shutB hn18
          refine WL.nil ⟨fun h => absurd h (by decide), ?_⟩
          refine TG.fork 1 [9, 12] [9] rfl rfl (by decide) (by decide) (TA.cons rfl ?_ TA.nil)
          refine WL.extract _ _ rfl rfl rfl ?_
          refine WL.nil ⟨fun h => absurd h (by decide), ?_⟩
          refine TG.fork 0 [12] [12] rfl rfl (by decide) (by decide) (TA.cons rfl ?_ TA.nil)
          refine WL.assign rfl ?_
          refine WL.split (fun (h16 : (meetB x1.t s) = true) => ?_) (fun (h16 : (meetB x1.t s) = false) => ?_)
          · refine WL.nil ⟨fun h => absurd h (by decide), ?_⟩
            refine TG.fin rfl ?_
            refine WC.seq <| WC.region rfl <| WL.move rfl <| WL.nil <| WC.condT rfl ?_
            obtain ⟨p15, x14, hx14, he14, ep14⟩ := Sl.at (hvl.mono (((((hle1.trans hle2).trans hle3).trans hle4).trans hle17).trans hle19)) k1 (by omega)
            obtain rfl : x1 = x14 := Option.some.inj (hx1.symm.trans hx14)
            obtain ⟨cs16, hc28, hr29⟩ := he14
            obtain ⟨v27, rfl, hs16, hb33, hb34⟩ := FactE_open hr29
            refine dr ⟨[0, 0, 0, 6, 14, 30, 0, 126, 254, 511, 1023], [0, 1, 2, 3, 4, 7], [5, 6], [], [8, 9, 10]⟩ [(35, v1), (36, vl), (37, .int .i64 (k1 : Int)), (38, .pointer (some p15)), (39, .pointer (some (p15.add 0))), (42, .agg #[v27, .int .i64 ((meetS x1.t s).a), .int .i64 ((meetS x1.t s).b)]), (40, v27), (41, .agg #[.int .i64 ((meetS x1.t s).a), .int .i64 ((meetS x1.t s).b)])] [o1] hS89 ?_ ?_ trivial (fun w8 hS90 => ?_)
            · exact ⟨fun _ _ => WL.move rfl <| WL.nu rfl, fun _ _ => WL.move rfl <| WL.nu rfl, fun _ _ => WL.move rfl <| WL.nu rfl, fun _ _ => WL.indexAddrP k1 ep14 ul22 ti63 rfl rfl rfl rfl <| WL.nu rfl, fun _ _ => WL.fieldAddr _ 0 _ fl63 rfl rfl rfl <| WL.nu rfl, fun _ _ => WL.build _ [(0, [v27]), (1, [.int .i64 ((meetS x1.t s).a), .int .i64 ((meetS x1.t s).b)])] [v27, .int .i64 ((meetS x1.t s).a), .int .i64 ((meetS x1.t s).b)] ti63 rfl fl63 rfl rfl (by show [(0, (v27 : Value).cells.toList), (1, (.agg #[.int .i64 ((meetS x1.t s).a), .int .i64 ((meetS x1.t s).b)] : Value).cells.toList)] = _; simp only [hs16.cells1] <;> rfl) rfl <| WL.nu rfl, trivial⟩
            · exact ⟨fun _ hSw => WL.loadG1 hSw (Cells.drop 0 hc28) ti61 rfl rfl rfl <| WL.nu rfl, fun _ hSw => WL.loadGAt hSw hc27 [.int .i64 ((meetS x1.t s).a), .int .i64 ((meetS x1.t s).b)] ti46 rfl rfl rfl rfl rfl <| WL.nu rfl, trivial⟩
            refine TL.step rfl ?_
            refine WL.buildSlice _ [(0, [v27, .int .i64 ((meetS x1.t s).a), .int .i64 ((meetS x1.t s).b)])] [v27, .int .i64 ((meetS x1.t s).a), .int .i64 ((meetS x1.t s).b)] hS90 sl22 rfl rfl rfl rfl (fun z hz => by match z, hz with | [z0, z1, z2], _ => rfl) (fun b20 w65 hn20 hS91 => ?_)
            refine WL.nil ⟨fun h => absurd h (by decide), ?_⟩
            refine TL.step rfl ?_
            refine WL.push (m := ([(Fact.mk x1.v (Span.mk ((meetS x1.t s).a) ((meetS x1.t s).b)))] : List Fact)) sl22 rfl rfl rfl (hr1.mono (hle17.trans hle19)) hS91 1 rfl 0 _ _ _ _ _ rfl ⟨[v27, .int .i64 ((meetS x1.t s).a), .int .i64 ((meetS x1.t s).b)], _, rfl, (FactE_mk (Fact.mk x1.v (Span.mk ((meetS x1.t s).a) ((meetS x1.t s).b))) hs16 hb29 hb30), rfl⟩ rfl (by have hreach : reach = 140737488355328 := rfl; simp only [List.length_cons, List.length_nil]; omega) (by have hreach : reach = 140737488355328 := rfl; simp only [List.length_cons, List.length_nil]; omega) rfl rfl rfl (fun v28 o14 w66 hr30 hS92 => ?_)
            have hS93 := hS92.tail
            refine WL.nil ⟨fun h => absurd h (by decide), ?_⟩
            refine TL.step rfl ?_
            refine WL.assign rfl ?_
            refine WL.nil ⟨fun h => absurd h (by decide), ?_⟩
            refine WC.region rfl <| WL.move rfl ?_
            refine WL.incr k1 (by have hreach : reach = 140737488355328 := rfl; omega) rfl rfl rfl ?_
            refine WL.assign rfl <| WL.nil ?_
            exact ⟨_, ⟨k1 + 1, v28, o14, G19, rfl, (hle4.trans (hle17.trans hle19)), hS93, (Row.cast hr30 (by (exact (duringF_yes (by assumption) (by assumption)).symm))), rfl, rfl, rfl, rfl, (by omega)⟩, (show l.length - (k1 + 1) < l.length - k1 by omega)⟩
          refine WL.nil ⟨fun h => absurd h (by decide), ?_⟩
          refine TG.fin rfl ?_
          refine WC.seq <| WC.region rfl <| WL.move rfl <| WL.nil <| WC.condF rfl <| WC.skip <| WC.region rfl <| WL.move rfl ?_
          refine WL.incr k1 (by have hreach : reach = 140737488355328 := rfl; omega) rfl rfl rfl ?_
          refine WL.assign rfl <| WL.nil ?_
          exact ⟨_, ⟨k1 + 1, v1, o1, G19, rfl, (hle4.trans (hle17.trans hle19)), hS89, (Row.cast (hr1.mono (hle17.trans hle19)) (by (exact (duringF_no (by assumption) (by assumption)).symm))), rfl, rfl, rfl, rfl, (by omega)⟩, (show l.length - (k1 + 1) < l.length - k1 by omega)⟩
        refine WL.extract _ _ rfl rfl rfl ?_
        refine WL.nil ⟨fun h => absurd h (by decide), ?_⟩
        refine TG.fork 2 [8, 11, 12] [8] rfl rfl (by decide) (by decide) (TA.cons rfl ?_ TA.nil)
        refine WL.extract _ _ rfl rfl rfl ?_
        refine WL.nil ⟨fun h => absurd h (by decide), ?_⟩
        refine TG.fork 1 [11, 12] [11] rfl rfl (by decide) (by decide) (TA.cons rfl ?_ TA.nil)
        refine WL.store hS81 0 _ _ _ 0 _ [.int .i64 ((meetS x1.t s).a), .int .i64 ((meetS x1.t s).b)] [.int .i64 ((meetS x1.t s).a), .int .i64 ((meetS x1.t s).b)] _ rfl rfl ti46 rfl (Nat.le_of_ble_eq_true rfl) rfl rfl rfl rfl rfl rfl (fun w67 hS94 => ?_)
        obtain ⟨G20, hle20, hc29, hS95⟩ := hS94.shutB hn18
        refine WL.nil ⟨fun h => absurd h (by decide), ?_⟩
        refine TG.fork 0 [12] [12] rfl rfl (by decide) (by decide) (TA.cons rfl ?_ TA.nil)
        refine WL.assign rfl ?_
        refine WL.split (fun (h17 : (meetB x1.t s) = true) => ?_) (fun (h17 : (meetB x1.t s) = false) => ?_)
        · refine WL.nil ⟨fun h => absurd h (by decide), ?_⟩
          refine TG.fin rfl ?_
          refine WC.seq <| WC.region rfl <| WL.move rfl <| WL.nil <| WC.condT rfl ?_
          obtain ⟨p16, x15, hx15, he15, ep15⟩ := Sl.at (hvl.mono (((((hle1.trans hle2).trans hle3).trans hle4).trans hle17).trans hle20)) k1 (by omega)
          obtain rfl : x1 = x15 := Option.some.inj (hx1.symm.trans hx15)
          obtain ⟨cs17, hc30, hr31⟩ := he15
          obtain ⟨v29, rfl, hs17, hb35, hb36⟩ := FactE_open hr31
          refine dr ⟨[0, 0, 0, 6, 14, 30, 0, 126, 254, 511, 1023], [0, 1, 2, 3, 4, 7], [5, 6], [], [8, 9, 10]⟩ [(35, v1), (36, vl), (37, .int .i64 (k1 : Int)), (38, .pointer (some p16)), (39, .pointer (some (p16.add 0))), (42, .agg #[v29, .int .i64 ((meetS x1.t s).a), .int .i64 ((meetS x1.t s).b)]), (40, v29), (41, .agg #[.int .i64 ((meetS x1.t s).a), .int .i64 ((meetS x1.t s).b)])] [o1] hS95 ?_ ?_ trivial (fun w8 hS96 => ?_)
          · exact ⟨fun _ _ => WL.move rfl <| WL.nu rfl, fun _ _ => WL.move rfl <| WL.nu rfl, fun _ _ => WL.move rfl <| WL.nu rfl, fun _ _ => WL.indexAddrP k1 ep15 ul22 ti63 rfl rfl rfl rfl <| WL.nu rfl, fun _ _ => WL.fieldAddr _ 0 _ fl63 rfl rfl rfl <| WL.nu rfl, fun _ _ => WL.build _ [(0, [v29]), (1, [.int .i64 ((meetS x1.t s).a), .int .i64 ((meetS x1.t s).b)])] [v29, .int .i64 ((meetS x1.t s).a), .int .i64 ((meetS x1.t s).b)] ti63 rfl fl63 rfl rfl (by show [(0, (v29 : Value).cells.toList), (1, (.agg #[.int .i64 ((meetS x1.t s).a), .int .i64 ((meetS x1.t s).b)] : Value).cells.toList)] = _; simp only [hs17.cells1] <;> rfl) rfl <| WL.nu rfl, trivial⟩
          · exact ⟨fun _ hSw => WL.loadG1 hSw (Cells.drop 0 hc30) ti61 rfl rfl rfl <| WL.nu rfl, fun _ hSw => WL.loadGAt hSw hc29 [.int .i64 ((meetS x1.t s).a), .int .i64 ((meetS x1.t s).b)] ti46 rfl rfl rfl rfl rfl <| WL.nu rfl, trivial⟩
          refine TL.step rfl ?_
          refine WL.buildSlice _ [(0, [v29, .int .i64 ((meetS x1.t s).a), .int .i64 ((meetS x1.t s).b)])] [v29, .int .i64 ((meetS x1.t s).a), .int .i64 ((meetS x1.t s).b)] hS96 sl22 rfl rfl rfl rfl (fun z hz => by match z, hz with | [z0, z1, z2], _ => rfl) (fun b21 w69 hn21 hS97 => ?_)
          refine WL.nil ⟨fun h => absurd h (by decide), ?_⟩
          refine TL.step rfl ?_
          refine WL.push (m := ([(Fact.mk x1.v (Span.mk ((meetS x1.t s).a) ((meetS x1.t s).b)))] : List Fact)) sl22 rfl rfl rfl (hr1.mono (hle17.trans hle20)) hS97 1 rfl 0 _ _ _ _ _ rfl ⟨[v29, .int .i64 ((meetS x1.t s).a), .int .i64 ((meetS x1.t s).b)], _, rfl, (FactE_mk (Fact.mk x1.v (Span.mk ((meetS x1.t s).a) ((meetS x1.t s).b))) hs17 hb29 hb30), rfl⟩ rfl (by have hreach : reach = 140737488355328 := rfl; simp only [List.length_cons, List.length_nil]; omega) (by have hreach : reach = 140737488355328 := rfl; simp only [List.length_cons, List.length_nil]; omega) rfl rfl rfl (fun v30 o15 w70 hr32 hS98 => ?_)
          have hS99 := hS98.tail
          refine WL.nil ⟨fun h => absurd h (by decide), ?_⟩
          refine TL.step rfl ?_
          refine WL.assign rfl ?_
          refine WL.nil ⟨fun h => absurd h (by decide), ?_⟩
          refine WC.region rfl <| WL.move rfl ?_
          refine WL.incr k1 (by have hreach : reach = 140737488355328 := rfl; omega) rfl rfl rfl ?_
          refine WL.assign rfl <| WL.nil ?_
          exact ⟨_, ⟨k1 + 1, v30, o15, G20, rfl, (hle4.trans (hle17.trans hle20)), hS99, (Row.cast hr32 (by (exact (duringF_yes (by assumption) (by assumption)).symm))), rfl, rfl, rfl, rfl, (by omega)⟩, (show l.length - (k1 + 1) < l.length - k1 by omega)⟩
        refine WL.nil ⟨fun h => absurd h (by decide), ?_⟩
        refine TG.fin rfl ?_
        refine WC.seq <| WC.region rfl <| WL.move rfl <| WL.nil <| WC.condF rfl <| WC.skip <| WC.region rfl <| WL.move rfl ?_
        refine WL.incr k1 (by have hreach : reach = 140737488355328 := rfl; omega) rfl rfl rfl ?_
        refine WL.assign rfl <| WL.nil ?_
        exact ⟨_, ⟨k1 + 1, v1, o1, G20, rfl, (hle4.trans (hle17.trans hle20)), hS95, (Row.cast (hr1.mono (hle17.trans hle20)) (by (exact (duringF_no (by assumption) (by assumption)).symm))), rfl, rfl, rfl, rfl, (by omega)⟩, (show l.length - (k1 + 1) < l.length - k1 by omega)⟩
      refine WL.nil <| WC.condF rfl <| WC.exit <| WC.seq <| WC.region rfl <| WL.move rfl ?_
      obtain ⟨G21, hle21, hs18, hS100⟩ := Row.freeze hr1 hS4 0 rfl
      refine WL.callF [v1] #[] hb64 rfl rfl rfl ((c_rdone _ _ hS100.imm (duringF (l.take k1) s) _ hs18 (by rw [duringF_all (by omega)]; exact duringF_good (good_of_valid hva9)) (by omega)).mono ?_)
      rintro e w71 ⟨r9, G22, rfl, hres5, hpost5⟩
      refine ⟨_, rfl, ?_⟩
      have hS101 := hS100.call hres5
      have hle22 := hres5.le
      obtain ⟨r10, r11, rfl, hs19, rfl⟩ := hpost5
      refine WL.extract _ _ rfl rfl rfl ?_
      refine WL.extract _ _ rfl rfl rfl ?_
      refine WL.assign rfl <| WL.assign rfl <| WL.nil ?_
      refine WC.ret ?_
      exact ⟨.tuple #[r10, .int .i64 (doneE (duringF (l.take k1) s))], rfl, .tuple #[r10, .int .i64 (doneE (duringF (l.take k1) s))], _, rfl, hS101.res, r10, (.int .i64 (doneE (duringF (l.take k1) s))), rfl, (Sl.cast hs19 (by (rw [duringF_all (by omega)]; exact (dur_yes hva9 h2).2.1.symm))), (congrArg (Value.int .i64) (by (rw [duringF_all (by omega)]; exact (dur_yes hva9 h2).2.2.symm)))⟩
    refine WL.not false rfl rfl ?_
    refine WL.pickF rfl rfl <| WL.nil <| WC.condT rfl <| WC.seq <| WC.region rfl <| WL.assign rfl <| WL.assign rfl <| WL.nil ?_
    refine WC.ret ?_
    exact ⟨.tuple #[.slice none 0 0, .int .i64 1], rfl, .tuple #[.slice none 0 0, .int .i64 1], _, rfl, hS3.res, (.slice none 0 0), (.int .i64 1), rfl, (Sl.cast (Sl.nil FactE 40 G3) (by exact (dur_no (.inr (by assumption))).2.1.symm)), (congrArg (Value.int .i64) (by exact (dur_no (.inr (by assumption))).2.2.symm))⟩
  refine WL.not false rfl rfl ?_
  refine WL.move rfl <| WL.no rfl rfl <| WL.no rfl rfl <| WL.no rfl rfl <| WL.pickT rfl rfl <| WL.nil <| WC.condT rfl <| WC.seq <| WC.region rfl <| WL.assign rfl <| WL.assign rfl <| WL.nil ?_
  refine WC.ret ?_
  exact ⟨.tuple #[.slice none 0 0, .int .i64 1], rfl, .tuple #[.slice none 0 0, .int .i64 1], _, rfl, hS2.res, (.slice none 0 0), (.int .i64 1), rfl, (Sl.cast (Sl.nil FactE 40 G2) (by exact (dur_no (.inl (by rw [← rvalid_valid]; exact h1))).2.1.symm)), (congrArg (Value.int .i64) (by exact (dur_no (.inl (by rw [← rvalid_valid]; exact h1))).2.2.symm))⟩

theorem c_rBoth (G : GH) (w : World) (hG : G.In w) (a b : List Fact) (mi : Bool) (va : Value) (hva : Sl FactE 40 G va a) (vb : Value) (hvb : Sl FactE 40 G vb b) (hal : a.length ≤ 20) (hbl : b.length ≤ 20) : Calls Tryz.prog (nat_lit 22) #[va, vb, .bool mi] w fun e w' => ∃ r G', e = .returned r ∧ Res [] w G w' G' ∧ ∃ r0 r1, r = .tuple #[r0, r1] ∧ Sl FactE 40 G' r0 (bothL mi a b) ∧ r1 = .int .i64 (bothE mi a b) := by
  refine calls_of_WC (N := 94) Tryz.func22 rfl rfl rfl ?_
  have hS := St.start (X := []) hG
  refine WC.seq <| WC.region rfl <| WL.assign rfl <| WL.assign rfl <| WL.nil <| WC.seq <| WC.seq <| WC.region rfl <| WL.move rfl ?_
  refine WL.callF [va] #[] hb33 rfl rfl rfl ((c_rfValid _ _ hS.imm a _ hva ).mono ?_)
  rintro e w1 ⟨r1, G1, rfl, hres1, hpost1⟩
  refine ⟨_, rfl, ?_⟩
  have hS1 := hS.call hres1
  have hle1 := hres1.le
  subst hpost1
  refine WL.split (fun (h1 : (rvalidB a) = true) => ?_) (fun (h1 : (rvalidB a) = false) => ?_)
  · refine WL.not true rfl rfl ?_
    refine WL.move rfl <| WL.move rfl ?_
    refine WL.callF [vb] #[] hb33 rfl rfl rfl ((c_rfValid _ _ hS1.imm b _ (hvb.mono hle1) ).mono ?_)
    rintro e w2 ⟨r2, G2, rfl, hres2, hpost2⟩
    refine ⟨_, rfl, ?_⟩
    have hS2 := hS1.call hres2
    have hle2 := hres2.le
    subst hpost2
    refine WL.split (fun (h2 : (rvalidB b) = true) => ?_) (fun (h2 : (rvalidB b) = false) => ?_)
    · refine WL.not true rfl rfl ?_
      refine WL.pickF rfl rfl <| WL.nil <| WC.condF rfl <| WC.skip <| WC.seq <| WC.seq ?_
      have hva9 : validB a = true := by rw [← rvalid_valid]; exact h1
      have hvb9 : validB b = true := by rw [← rvalid_valid]; exact h2
      have hga9 := good_of_valid hva9
      have hgb9 := good_of_valid hvb9
      have bd1 := hva.bound
      rcases Cmp.dec .gtr (a.length : Int) 0 with ⟨hb1, q1⟩ | ⟨hb1, q1⟩
      · have h3 : 0 < (a.length : Int) := q1
        clear q1
        have bd2 := hvb.bound
        rcases Cmp.dec .gtr (b.length : Int) 0 with ⟨hb2, q2⟩ | ⟨hb2, q2⟩
        · have h4 : 0 < (b.length : Int) := q2
          clear q2
          obtain ⟨p1, x1, hx1, he1, ep1⟩ := Sl.at (hva.mono (hle1.trans hle2)) 0 (by omega)
          obtain ⟨cs1, hc1, hr1⟩ := he1
          obtain ⟨v1, rfl, hs1, hb3, hb4⟩ := FactE_open hr1
          obtain ⟨p2, x2, hx2, he2, ep2⟩ := Sl.at (hvb.mono (hle1.trans hle2)) 0 (by omega)
          obtain ⟨cs2, hc2, hr2⟩ := he2
          obtain ⟨v2, rfl, hs2, hb5, hb6⟩ := FactE_open hr2
          rcases Bool.eq_false_or_eq_true (kindsB x1.v x2.v) with h5 | h5
          · refine dr ⟨[0, 1, 3, 7, 15, 31, 63, 127, 255, 511, 1023, 2047, 4095, 511, 8703, 25087, 57855, 131071, 262143, 524287], [0, 1, 2, 3, 4, 5, 6, 7, 8, 9, 10, 11, 13, 14, 15, 18, 19], [12, 16], [17], []⟩ [(21, va), (22, .int .i64 (a.length : Int)), (23, .bool true), (24, .bool true), (25, vb), (26, .int .i64 (b.length : Int)), (27, .bool true), (28, .bool true), (29, .bool true), (30, va), (31, .pointer (some p1)), (32, .pointer (some (p1.add 0))), (34, vb), (35, .pointer (some p2)), (36, .pointer (some (p2.add 0))), (39, .bool false), (40, .bool false), (33, v1), (37, v2), (38, .bool true)] [] hS2 ?_ ?_ ?_ (fun w8 hS3 => ?_)
            · exact ⟨fun _ _ => WL.move rfl <| WL.nu rfl, fun _ _ => WL.lenSl (hva.mono (hle1.trans hle2)) ul22 rfl rfl <| WL.nu rfl, fun _ _ => WL.cmpV .gtr rfl .i64 (a.length : Int) 0 _ hb1 rfl rfl rfl <| WL.nu rfl, fun _ _ => WL.move rfl <| WL.nu rfl, fun _ _ => WL.move rfl <| WL.nu rfl, fun _ _ => WL.lenSl (hvb.mono (hle1.trans hle2)) ul22 rfl rfl <| WL.nu rfl, fun _ _ => WL.cmpV .gtr rfl .i64 (b.length : Int) 0 _ hb2 rfl rfl rfl <| WL.nu rfl, fun _ _ => WL.pickT rfl rfl <| WL.nu rfl, fun _ _ => WL.move rfl <| WL.nu rfl, fun _ _ => WL.move rfl <| WL.nu rfl, fun _ _ => WL.indexAddrP 0 ep1 ul22 ti63 rfl rfl rfl rfl <| WL.nu rfl, fun _ _ => WL.fieldAddr _ 0 _ fl63 rfl rfl rfl <| WL.nu rfl, fun _ _ => WL.move rfl <| WL.nu rfl, fun _ _ => WL.indexAddrP 0 ep2 ul22 ti63 rfl rfl rfl rfl <| WL.nu rfl, fun _ _ => WL.fieldAddr _ 0 _ fl63 rfl rfl rfl <| WL.nu rfl, fun _ _ => WL.not true rfl rfl <| WL.nu rfl, fun _ _ => WL.pickT rfl rfl <| WL.nu rfl, trivial⟩
            · exact ⟨fun _ hSw => WL.loadG1 hSw (Cells.drop 0 hc1) ti61 rfl rfl rfl <| WL.nu rfl, fun _ hSw => WL.loadG1 hSw (Cells.drop 0 hc2) ti61 rfl rfl rfl <| WL.nu rfl, trivial⟩
            · exact ⟨fun _ hSw => WL.callD [v1, v2] #[] hb75 rfl rfl rfl hSw (c_rkinds _ _ hSw.imm x1.v x2.v _ hs1 _ hs2 ) (congrArg Value.bool h5.symm), trivial⟩
            refine WC.condF rfl <| WC.skip <| WC.seq <| WC.seq ?_
            have hp9 : pairE a b = 0 := by exact pairE_0 hva9 hvb9 (by assumption) (by assumption) (by assumption)
            refine WC.region rfl <| WL.move rfl ?_
            refine WL.split (fun (h6 : mi = true) => ?_) (fun (h6 : mi = false) => ?_)
            · refine WL.not true rfl rfl ?_
              refine WL.nil <| WC.condF rfl <| WC.skip <| WC.seq <| WC.region rfl <| WL.move rfl ?_
              refine WL.callF [va] #[] hb76 rfl rfl rfl ((c_values _ _ hS3.imm a _ (hva.mono (hle1.trans hle2)) (by omega)).mono ?_)
              rintro e w4 ⟨r3, G3, rfl, hres3, hpost3⟩
              refine ⟨_, rfl, ?_⟩
              have hS4 := hS3.call hres3
              have hle3 := hres3.le
              refine WL.assign rfl <| WL.nil <| WC.seq ?_
              have hvl9 := vals_len a
              refine WC.region rfl <| WL.assign rfl <| WL.nil <| WC.seq <| WC.seq <| WC.region rfl <| WL.assign rfl <| WL.nil <| WC.block ?_
              have hS6 := hS4.pad
              refine WC.loop (γ := Nat) (fun m ρ1 w1 => ∃ (k1 : Nat), ∃ (v3 : Value) (o1 : OB), ∃ (G4 : GH), m = (vals a).length - k1 ∧ G3.le G4 ∧ St w [] G G4 [o1] w1 ∧ Row FactE 40 63 G4 v3 (rexN a b ((vals a).take k1)) o1 ∧ ρ1 0 = va ∧ ρ1 1 = vb ∧ ρ1 8 = r3 ∧ ρ1 9 = v3 ∧ ρ1 10 = .int .i64 (k1 : Int) ∧ k1 ≤ (vals a).length) (fun m => m) _ ⟨0, (.slice none 0 0), none, G3, rfl, (G3.le_refl), hS6, (Row.cast (Row.nil FactE 40 63 G3) (by simp [rexN])), rfl, rfl, rfl, rfl, rfl, (by omega)⟩ ?_
              rintro m ρ1 w5 ⟨k1, v3, o1, G4, rfl, hle4, hS5, hr3, e1, e2, e3, e4, e5, f1⟩
              refine WC.set (d := 0) e1 ?_
              refine WC.set (d := 1) e2 ?_
              refine WC.set (d := 8) e3 ?_
              refine WC.set (d := 9) e4 ?_
              refine WC.set (d := 10) e5 ?_
              have hrx := rexN_takeLen a b k1
              refine WC.seq <| WC.seq <| WC.region rfl <| WL.move rfl <| WL.move rfl ?_
              have bd3 := hpost3.bound
              refine WL.lenSl (hpost3.mono hle4) ul67 rfl rfl ?_
              refine WL.lssS (k1 : Int) (((vals a).length : Nat) : Int) rfl rfl rfl (fun h7 => ?_) (fun h7 => ?_)
              · refine WL.nil <| WC.condT rfl <| WC.skip <| WC.seq <| WC.block <| WC.seq ?_
                obtain ⟨v9, hv9⟩ : ∃ v, (vals a)[k1]? = some v := ⟨_, List.getElem?_eq_getElem (by omega)⟩
                have hc1 := canon_len (l := timesOf a v9); have hc2 := timesOf_len a v9; have hc3 := canon_len (l := timesOf b v9); have hc4 := timesOf_len b v9
                obtain ⟨p3, x3, hx3, he3, ep3⟩ := Sl.at (hpost3.mono hle4) k1 (by omega)
                obtain rfl : v9 = x3 := Option.some.inj (hv9.symm.trans hx3)
                obtain ⟨cs3, hc3, hr4⟩ := he3
                obtain ⟨v4, rfl, hs3⟩ := hr4
                obtain ⟨p4, x4, hx4, he4, ep4⟩ := Sl.at (hpost3.mono hle4) k1 (by omega)
                obtain rfl : v9 = x4 := Option.some.inj (hv9.symm.trans hx4)
                obtain ⟨cs4, hc4, hr5⟩ := he4
                obtain ⟨v5, rfl, hs4⟩ := hr5
                refine dr ⟨[0, 0, 0, 6, 14, 31, 0, 0, 0, 384, 896, 2047, 4095, 8191], [0, 1, 2, 3, 6, 7, 8, 9], [4, 10], [], [5, 11, 12, 13]⟩ [(59, va), (60, r3), (61, .int .i64 (k1 : Int)), (62, .pointer (some p3)), (65, vb), (66, r3), (67, .int .i64 (k1 : Int)), (68, .pointer (some p4)), (63, v4), (69, v5)] [o1] hS5 ?_ ?_ trivial (fun w8 hS7 => ?_)
                · exact ⟨fun _ _ => WL.move rfl <| WL.nu rfl, fun _ _ => WL.move rfl <| WL.nu rfl, fun _ _ => WL.move rfl <| WL.nu rfl, fun _ _ => WL.indexAddrP k1 ep3 ul67 ti61 rfl rfl rfl rfl <| WL.nu rfl, fun _ _ => WL.move rfl <| WL.nu rfl, fun _ _ => WL.move rfl <| WL.nu rfl, fun _ _ => WL.move rfl <| WL.nu rfl, fun _ _ => WL.indexAddrP k1 ep4 ul67 ti61 rfl rfl rfl rfl <| WL.nu rfl, trivial⟩
                · exact ⟨fun _ hSw => WL.loadG1 hSw hc3 ti61 rfl rfl rfl <| WL.nu rfl, fun _ hSw => WL.loadG1 hSw hc4 ti61 rfl rfl rfl <| WL.nu rfl, trivial⟩
                refine TL.step rfl ?_
                refine WL.callF [va, v4] #[] hb78 rfl rfl rfl ((c_times _ _ hS7.imm a v9 _ (hva.mono (((hle1.trans hle2).trans hle3).trans hle4)) _ hs3 (by exact hga9) (by omega)).mono ?_)
                rintro e w7 ⟨r4, G5, rfl, hres4, hpost4⟩
                refine ⟨_, rfl, ?_⟩
                have hS8 := hS7.call hres4
                have hle5 := hres4.le
                refine WL.nil ⟨fun _ => hS8.down hS7.le hle5, ?_⟩
                refine TL.step rfl ?_
                refine WL.callF [vb, v5] #[] hb78 rfl rfl rfl ((c_times _ _ hS8.imm b v9 _ (hvb.mono ((((hle1.trans hle2).trans hle3).trans hle4).trans hle5)) _ (hs4.mono hle5) (by exact hgb9) (by omega)).mono ?_)
                rintro e w8 ⟨r5, G6, rfl, hres5, hpost5⟩
                refine ⟨_, rfl, ?_⟩
                have hS9 := hS8.call hres5
                have hle6 := hres5.le
                refine WL.nil ⟨fun h => absurd h (by decide), ?_⟩
                refine TL.step rfl ?_
                refine WL.callF [.int .i64 3, r4, r5] #[] hb77 rfl rfl rfl ((c_Combine _ _ hS9.imm 3 (canon (timesOf a v9)) (canon (timesOf b v9)) _ (hpost4.mono hle6) _ hpost5 (by omega) (by omega)).mono ?_)
                rintro e w9 ⟨r6, G7, rfl, hres6, hpost6⟩
                refine ⟨_, rfl, ?_⟩
                have hS10 := hS9.call hres6
                have hle7 := hres6.le
                refine WL.nil ⟨fun h => absurd h (by decide), ?_⟩
                refine TL.step rfl ?_
                refine WL.assign rfl ?_
                refine WL.nil ⟨fun h => absurd h (by decide), ?_⟩
                refine WC.seq <| WC.region rfl <| WL.assign rfl <| WL.nil <| WC.block ?_
                refine WC.loop (γ := Nat) (fun m ρ1 w1 => ∃ (k2 : Nat), ∃ (v6 : Value) (o2 : OB), ∃ (G8 : GH), m = (combR 3 (canon (timesOf a v9)) (canon (timesOf b v9))).length - k2 ∧ G7.le G8 ∧ St w [] G G8 [o2] w1 ∧ Row FactE 40 63 G8 v6 (rexN a b ((vals a).take k1) ++ ((combR 3 (canon (timesOf a v9)) (canon (timesOf b v9))).take k2).map (Fact.mk v9)) o2 ∧ ρ1 0 = va ∧ ρ1 1 = vb ∧ ρ1 8 = r3 ∧ ρ1 9 = v6 ∧ ρ1 10 = .int .i64 (k1 : Int) ∧ ρ1 11 = r6 ∧ ρ1 12 = .int .i64 (k2 : Int) ∧ k2 ≤ (combR 3 (canon (timesOf a v9)) (canon (timesOf b v9))).length) (fun m => m) _ ⟨0, v3, o1, G7, rfl, (G7.le_refl), hS10, (Row.cast (hr3.mono ((hle5.trans hle6).trans hle7)) (by simp)), rfl, rfl, rfl, rfl, rfl, rfl, rfl, (by omega)⟩ ?_
                rintro m ρ1 w10 ⟨k2, v6, o2, G8, rfl, hle8, hS11, hr6, e6, e7, e8, e9, e10, e11, e12, f2⟩
                refine WC.set (d := 0) e6 ?_
                refine WC.set (d := 1) e7 ?_
                refine WC.set (d := 8) e8 ?_
                refine WC.set (d := 9) e9 ?_
                refine WC.set (d := 10) e10 ?_
                refine WC.set (d := 11) e11 ?_
                refine WC.set (d := 12) e12 ?_
                have hP9 := rex_partLen (b := b) (j := k2) hv9
                refine WC.seq <| WC.seq <| WC.region rfl <| WL.move rfl <| WL.move rfl ?_
                have bd4 := hpost6.bound
                refine WL.lenSl (hpost6.mono hle8) ul111 rfl rfl ?_
                refine WL.lssS (k2 : Int) (((combR 3 (canon (timesOf a v9)) (canon (timesOf b v9))).length : Nat) : Int) rfl rfl rfl (fun h8 => ?_) (fun h8 => ?_)
                · refine WL.nil <| WC.condT rfl <| WC.skip <| WC.seq <| WC.block ?_
                  obtain ⟨p5, x5, hx5, he5, ep5⟩ := Sl.at (hpost3.mono ((((hle4.trans hle5).trans hle6).trans hle7).trans hle8)) k1 (by omega)
                  obtain rfl : v9 = x5 := Option.some.inj (hv9.symm.trans hx5)
                  obtain ⟨cs5, hc5, hr7⟩ := he5
                  obtain ⟨v7, rfl, hs5⟩ := hr7
                  obtain ⟨p6, x6, hx6, he6, ep6⟩ := Sl.at (hpost6.mono hle8) k2 (by omega)
                  obtain ⟨cs6, hc6, hr8⟩ := he6
                  obtain ⟨rfl, hb7, hb8⟩ := SpanE_open hr8
                  refine dr ⟨[0, 0, 0, 6, 14, 0, 0, 96, 224, 510, 1022, 2047, 4095], [0, 1, 2, 3, 5, 6, 7, 9], [4, 8], [], [10, 11, 12]⟩ [(78, v6), (79, r3), (80, .int .i64 (k1 : Int)), (81, .pointer (some p5)), (83, r6), (84, .int .i64 (k2 : Int)), (85, .pointer (some p6)), (87, .agg #[v7, .int .i64 x6.a, .int .i64 x6.b]), (82, v7), (86, .agg #[.int .i64 x6.a, .int .i64 x6.b])] [o2] hS11 ?_ ?_ trivial (fun w8 hS12 => ?_)
                  · exact ⟨fun _ _ => WL.move rfl <| WL.nu rfl, fun _ _ => WL.move rfl <| WL.nu rfl, fun _ _ => WL.move rfl <| WL.nu rfl, fun _ _ => WL.indexAddrP k1 ep5 ul67 ti61 rfl rfl rfl rfl <| WL.nu rfl, fun _ _ => WL.move rfl <| WL.nu rfl, fun _ _ => WL.move rfl <| WL.nu rfl, fun _ _ => WL.indexAddrP k2 ep6 ul111 ti46 rfl rfl rfl rfl <| WL.nu rfl, fun _ _ => WL.build _ [(0, [v7]), (1, [.int .i64 x6.a, .int .i64 x6.b])] [v7, .int .i64 x6.a, .int .i64 x6.b] ti63 rfl fl63 rfl rfl (by show [(0, (v7 : Value).cells.toList), (1, (.agg #[.int .i64 x6.a, .int .i64 x6.b] : Value).cells.toList)] = _; simp only [hs5.cells1] <;> rfl) rfl <| WL.nu rfl, trivial⟩
                  · exact ⟨fun _ hSw => WL.loadG1 hSw hc5 ti61 rfl rfl rfl <| WL.nu rfl, fun _ hSw => WL.loadGAt hSw hc6 [.int .i64 x6.a, .int .i64 x6.b] ti46 rfl rfl rfl rfl rfl <| WL.nu rfl, trivial⟩
                  refine TL.step rfl ?_
                  refine WL.buildSlice _ [(0, [v7, .int .i64 x6.a, .int .i64 x6.b])] [v7, .int .i64 x6.a, .int .i64 x6.b] hS12 sl22 rfl rfl rfl rfl (fun z hz => by match z, hz with | [z0, z1, z2], _ => rfl) (fun b1 w12 hn1 hS13 => ?_)
                  refine WL.nil ⟨fun h => absurd h (by decide), ?_⟩
                  refine TL.step rfl ?_
                  refine WL.push (m := ([(Fact.mk v9 x6)] : List Fact)) sl22 rfl rfl rfl hr6 hS13 1 rfl 0 _ _ _ _ _ rfl ⟨[v7, .int .i64 x6.a, .int .i64 x6.b], _, rfl, (FactE_mk (Fact.mk v9 x6) hs5 hb7 hb8), rfl⟩ rfl (by have hreach : reach = 140737488355328 := rfl; (simp only [List.length_append, List.length_cons, List.length_nil] at *; omega)) (by have hreach : reach = 140737488355328 := rfl; (simp only [List.length_append, List.length_cons, List.length_nil] at *; omega)) rfl rfl rfl (fun v8 o3 w13 hr9 hS14 => ?_)
                  have hS15 := hS14.tail
                  refine WL.nil ⟨fun h => absurd h (by decide), ?_⟩
                  refine TL.step rfl ?_
                  refine WL.assign rfl ?_
                  refine WL.nil ⟨fun h => absurd h (by decide), ?_⟩
                  refine WC.region rfl <| WL.move rfl ?_
                  refine WL.incr k2 (by have hreach : reach = 140737488355328 := rfl; omega) rfl rfl rfl ?_
                  refine WL.assign rfl <| WL.nil ?_
                  exact ⟨_, ⟨k2 + 1, v8, o3, G8, rfl, hle8, hS15, (Row.cast hr9 (by (rw [mapF_take (by assumption), List.append_assoc]))), rfl, rfl, rfl, rfl, rfl, rfl, rfl, (by omega)⟩, (show (combR 3 (canon (timesOf a v9)) (canon (timesOf b v9))).length - (k2 + 1) < (combR 3 (canon (timesOf a v9)) (canon (timesOf b v9))).length - k2 by omega)⟩
                refine WL.nil <| WC.condF rfl <| WC.exit <| WC.region rfl <| WL.move rfl ?_
                refine WL.incr k1 (by have hreach : reach = 140737488355328 := rfl; omega) rfl rfl rfl ?_
                refine WL.assign rfl <| WL.nil ?_
                exact ⟨_, ⟨k1 + 1, v6, o2, G8, rfl, (hle4.trans (((hle5.trans hle6).trans hle7).trans hle8)), hS11, (Row.cast hr6 (by (rw [rexN_take hv9, List.take_of_length_le (l := combR 3 _ _) (by omega)]))), rfl, rfl, rfl, rfl, rfl, (by omega)⟩, (show (vals a).length - (k1 + 1) < (vals a).length - k1 by omega)⟩
              refine WL.nil <| WC.condF rfl <| WC.exit <| WC.seq <| WC.region rfl <| WL.move rfl ?_
              obtain ⟨G9, hle9, hs6, hS16⟩ := Row.freeze hr3 hS5 0 rfl
              refine WL.callF [v3] #[] hb64 rfl rfl rfl ((c_rdone _ _ hS16.imm (rexN a b ((vals a).take k1)) _ hs6 (by (rw [rexN_all (by omega)]; exact rexF_good hga9 hgb9)) (by (rw [rexN_all (by omega)]; have := rexF_len a b; omega))).mono ?_)
              rintro e w14 ⟨r7, G10, rfl, hres7, hpost7⟩
              refine ⟨_, rfl, ?_⟩
              have hS17 := hS16.call hres7
              have hle10 := hres7.le
              obtain ⟨r8, r9, rfl, hs7, rfl⟩ := hpost7
              refine WL.extract _ _ rfl rfl rfl ?_
              refine WL.extract _ _ rfl rfl rfl ?_
              refine WL.assign rfl <| WL.assign rfl <| WL.nil ?_
              refine WC.ret ?_
              exact ⟨.tuple #[r8, .int .i64 (doneE (rexN a b ((vals a).take k1)))], rfl, .tuple #[r8, .int .i64 (doneE (rexN a b ((vals a).take k1)))], _, rfl, hS17.res, r8, (.int .i64 (doneE (rexN a b ((vals a).take k1)))), rfl, (Sl.cast hs7 (by (rw [rexN_all (by omega)]; exact (both_x hp9 (by assumption)).1.symm))), (congrArg (Value.int .i64) (by (rw [rexN_all (by omega)]; exact (both_x hp9 (by assumption)).2.symm)))⟩
            refine WL.not false rfl rfl ?_
            refine WL.nil <| WC.condT rfl <| WC.seq <| WC.region rfl ?_
            refine WL.buildSlice _ [] [] hS3 sl22 rfl rfl rfl rfl (fun z hz => by match z, hz with | [], _ => rfl) (fun b2 w15 hn2 hS18 => ?_)
            refine WL.move rfl ?_
            have hr10 := Row.empty FactE 40 63 G2 b2
            refine WL.pushSl sl22 rfl rfl rfl hr10 hS18 0 rfl (hva.mono (hle1.trans hle2)) (by have hreach : reach = 140737488355328 := rfl; (simp only [List.length_append, List.length_cons, List.length_nil] at *; omega)) (by have hreach : reach = 140737488355328 := rfl; (simp only [List.length_append, List.length_cons, List.length_nil] at *; omega)) rfl rfl rfl (fun v9 o4 w16 hr11 hS19 => ?_)
            refine WL.move rfl ?_
            refine WL.pushSl sl22 rfl rfl rfl hr11 hS19 0 rfl (hvb.mono (hle1.trans hle2)) (by have hreach : reach = 140737488355328 := rfl; (simp only [List.length_append, List.length_cons, List.length_nil] at *; omega)) (by have hreach : reach = 140737488355328 := rfl; (simp only [List.length_append, List.length_cons, List.length_nil] at *; omega)) rfl rfl rfl (fun v10 o5 w17 hr12 hS20 => ?_)
            obtain ⟨G11, hle11, hs8, hS21⟩ := Row.freeze hr12 hS20 0 rfl
            refine WL.callF [v10] #[] hb64 rfl rfl rfl ((c_rdone _ _ hS21.imm (([] ++ a) ++ b) _ hs8 (by exact good_append hga9 hgb9) (by (simp only [List.length_append, List.length_nil]; omega))).mono ?_)
            rintro e w18 ⟨r10, G12, rfl, hres8, hpost8⟩
            refine ⟨_, rfl, ?_⟩
            have hS22 := hS21.call hres8
            have hle12 := hres8.le
            obtain ⟨r11, r12, rfl, hs9, rfl⟩ := hpost8
            refine WL.extract _ _ rfl rfl rfl ?_
            refine WL.extract _ _ rfl rfl rfl ?_
            refine WL.assign rfl <| WL.assign rfl <| WL.nil ?_
            refine WC.ret ?_
            exact ⟨.tuple #[r11, .int .i64 (doneE (([] ++ a) ++ b))], rfl, .tuple #[r11, .int .i64 (doneE (([] ++ a) ++ b))], _, rfl, hS22.res, r11, (.int .i64 (doneE (([] ++ a) ++ b))), rfl, (Sl.cast hs9 (by exact (both_u hp9 (by assumption)).1.symm)), (congrArg (Value.int .i64) (by exact (both_u hp9 (by assumption)).2.symm))⟩
          refine dr ⟨[0, 1, 3, 7, 15, 31, 63, 127, 255, 511, 1023, 2047, 4095, 511, 8703, 25087, 57855, 131071, 262143, 524287], [0, 1, 2, 3, 4, 5, 6, 7, 8, 9, 10, 11, 13, 14, 15, 18, 19], [12, 16], [17], []⟩ [(21, va), (22, .int .i64 (a.length : Int)), (23, .bool true), (24, .bool true), (25, vb), (26, .int .i64 (b.length : Int)), (27, .bool true), (28, .bool true), (29, .bool true), (30, va), (31, .pointer (some p1)), (32, .pointer (some (p1.add 0))), (34, vb), (35, .pointer (some p2)), (36, .pointer (some (p2.add 0))), (39, .bool true), (40, .bool true), (33, v1), (37, v2), (38, .bool false)] [] hS2 ?_ ?_ ?_ (fun w8 hS23 => ?_)
          · exact ⟨fun _ _ => WL.move rfl <| WL.nu rfl, fun _ _ => WL.lenSl (hva.mono (hle1.trans hle2)) ul22 rfl rfl <| WL.nu rfl, fun _ _ => WL.cmpV .gtr rfl .i64 (a.length : Int) 0 _ hb1 rfl rfl rfl <| WL.nu rfl, fun _ _ => WL.move rfl <| WL.nu rfl, fun _ _ => WL.move rfl <| WL.nu rfl, fun _ _ => WL.lenSl (hvb.mono (hle1.trans hle2)) ul22 rfl rfl <| WL.nu rfl, fun _ _ => WL.cmpV .gtr rfl .i64 (b.length : Int) 0 _ hb2 rfl rfl rfl <| WL.nu rfl, fun _ _ => WL.pickT rfl rfl <| WL.nu rfl, fun _ _ => WL.move rfl <| WL.nu rfl, fun _ _ => WL.move rfl <| WL.nu rfl, fun _ _ => WL.indexAddrP 0 ep1 ul22 ti63 rfl rfl rfl rfl <| WL.nu rfl, fun _ _ => WL.fieldAddr _ 0 _ fl63 rfl rfl rfl <| WL.nu rfl, fun _ _ => WL.move rfl <| WL.nu rfl, fun _ _ => WL.indexAddrP 0 ep2 ul22 ti63 rfl rfl rfl rfl <| WL.nu rfl, fun _ _ => WL.fieldAddr _ 0 _ fl63 rfl rfl rfl <| WL.nu rfl, fun _ _ => WL.not false rfl rfl <| WL.nu rfl, fun _ _ => WL.pickT rfl rfl <| WL.nu rfl, trivial⟩
          · exact ⟨fun _ hSw => WL.loadG1 hSw (Cells.drop 0 hc1) ti61 rfl rfl rfl <| WL.nu rfl, fun _ hSw => WL.loadG1 hSw (Cells.drop 0 hc2) ti61 rfl rfl rfl <| WL.nu rfl, trivial⟩
          · exact ⟨fun _ hSw => WL.callD [v1, v2] #[] hb75 rfl rfl rfl hSw (c_rkinds _ _ hSw.imm x1.v x2.v _ hs1 _ hs2 ) (congrArg Value.bool h5.symm), trivial⟩
          refine WC.condT rfl <| WC.seq <| WC.region rfl <| WL.assign rfl <| WL.assign rfl <| WL.nil ?_
          refine WC.ret ?_
          exact ⟨.tuple #[.slice none 0 0, .int .i64 13], rfl, .tuple #[.slice none 0 0, .int .i64 13], _, rfl, hS23.res, (.slice none 0 0), (.int .i64 13), rfl, (Sl.cast (Sl.nil FactE 40 G2) (by exact (both_no (pairE_13 hva9 hvb9 (by assumption) (by assumption) (by assumption)) (by decide)).1.symm)), (congrArg (Value.int .i64) (by exact (both_no (pairE_13 hva9 hvb9 (by assumption) (by assumption) (by assumption)) (by decide)).2.symm))⟩
        have h4 : (b.length : Int) ≤ 0 := q2
        clear q2
        refine dr ⟨[0, 1, 3, 7, 15, 31, 63, 127, 255, 511, 1023, 2047, 4095, 511, 8703, 25087, 57855, 131071, 262143, 524287], [0, 1, 2, 3, 4, 5, 6, 7, 8, 9, 10, 11, 13, 14, 15, 18, 19], [12, 16], [17], []⟩ [(21, va), (22, .int .i64 (a.length : Int)), (23, .bool true), (24, .bool true), (25, vb), (26, .int .i64 (b.length : Int)), (27, .bool false), (28, .bool false), (29, .bool false), (30, undef), (31, undef), (32, undef), (34, undef), (35, undef), (36, undef), (39, undef), (40, .bool false), (33, undef), (37, undef), (38, undef)] [] hS2 ?_ ?_ ?_ (fun w8 hS24 => ?_)
        · exact ⟨fun _ _ => WL.move rfl <| WL.nu rfl, fun _ _ => WL.lenSl (hva.mono (hle1.trans hle2)) ul22 rfl rfl <| WL.nu rfl, fun _ _ => WL.cmpV .gtr rfl .i64 (a.length : Int) 0 _ hb1 rfl rfl rfl <| WL.nu rfl, fun _ _ => WL.move rfl <| WL.nu rfl, fun _ _ => WL.move rfl <| WL.nu rfl, fun _ _ => WL.lenSl (hvb.mono (hle1.trans hle2)) ul22 rfl rfl <| WL.nu rfl, fun _ _ => WL.cmpV .gtr rfl .i64 (b.length : Int) 0 _ hb2 rfl rfl rfl <| WL.nu rfl, fun _ _ => WL.pickT rfl rfl <| WL.nu rfl, fun _ _ => WL.move rfl <| WL.nu rfl, fun _ _ => WL.no rfl rfl <| WL.nu rfl, fun _ _ => WL.no rfl rfl <| WL.nu rfl, fun _ _ => WL.no rfl rfl <| WL.nu rfl, fun _ _ => WL.no rfl rfl <| WL.nu rfl, fun _ _ => WL.no rfl rfl <| WL.nu rfl, fun _ _ => WL.no rfl rfl <| WL.nu rfl, fun _ _ => WL.no rfl rfl <| WL.nu rfl, fun _ _ => WL.pickF rfl rfl <| WL.nu rfl, trivial⟩
        · exact ⟨fun _ _ => WL.no rfl rfl <| WL.nu rfl, fun _ _ => WL.no rfl rfl <| WL.nu rfl, trivial⟩
        · exact ⟨fun _ hSw => WL.no rfl rfl <| WL.nuS hSw rfl, trivial⟩
        refine WC.condF rfl <| WC.skip <| WC.seq <| WC.seq ?_
        have hp9 : pairE a b = 0 := by exact pairE_0' hva9 hvb9 (by omega)
        refine WC.region rfl <| WL.move rfl ?_
        refine WL.split (fun (h9 : mi = true) => ?_) (fun (h9 : mi = false) => ?_)
        · refine WL.not true rfl rfl ?_
          refine WL.nil <| WC.condF rfl <| WC.skip <| WC.seq <| WC.region rfl <| WL.move rfl ?_
          refine WL.callF [va] #[] hb76 rfl rfl rfl ((c_values _ _ hS24.imm a _ (hva.mono (hle1.trans hle2)) (by omega)).mono ?_)
          rintro e w21 ⟨r13, G13, rfl, hres9, hpost9⟩
          refine ⟨_, rfl, ?_⟩
          have hS25 := hS24.call hres9
          have hle13 := hres9.le
          refine WL.assign rfl <| WL.nil <| WC.seq ?_
          have hvl9 := vals_len a
          refine WC.region rfl <| WL.assign rfl <| WL.nil <| WC.seq <| WC.seq <| WC.region rfl <| WL.assign rfl <| WL.nil <| WC.block ?_
          have hS27 := hS25.pad
          refine WC.loop (γ := Nat) (fun m ρ1 w1 => ∃ (k1 : Nat), ∃ (v11 : Value) (o6 : OB), ∃ (G14 : GH), m = (vals a).length - k1 ∧ G13.le G14 ∧ St w [] G G14 [o6] w1 ∧ Row FactE 40 63 G14 v11 (rexN a b ((vals a).take k1)) o6 ∧ ρ1 0 = va ∧ ρ1 1 = vb ∧ ρ1 8 = r13 ∧ ρ1 9 = v11 ∧ ρ1 10 = .int .i64 (k1 : Int) ∧ k1 ≤ (vals a).length) (fun m => m) _ ⟨0, (.slice none 0 0), none, G13, rfl, (G13.le_refl), hS27, (Row.cast (Row.nil FactE 40 63 G13) (by simp [rexN])), rfl, rfl, rfl, rfl, rfl, (by omega)⟩ ?_
          rintro m ρ1 w22 ⟨k1, v11, o6, G14, rfl, hle14, hS26, hr13, e13, e14, e15, e16, e17, f3⟩
          refine WC.set (d := 0) e13 ?_
          refine WC.set (d := 1) e14 ?_
          refine WC.set (d := 8) e15 ?_
          refine WC.set (d := 9) e16 ?_
          refine WC.set (d := 10) e17 ?_
          have hrx := rexN_takeLen a b k1
          refine WC.seq <| WC.seq <| WC.region rfl <| WL.move rfl <| WL.move rfl ?_
          have bd5 := hpost9.bound
          refine WL.lenSl (hpost9.mono hle14) ul67 rfl rfl ?_
          refine WL.lssS (k1 : Int) (((vals a).length : Nat) : Int) rfl rfl rfl (fun h10 => ?_) (fun h10 => ?_)
          · refine WL.nil <| WC.condT rfl <| WC.skip <| WC.seq <| WC.block <| WC.seq ?_
            obtain ⟨v9, hv9⟩ : ∃ v, (vals a)[k1]? = some v := ⟨_, List.getElem?_eq_getElem (by omega)⟩
            have hc1 := canon_len (l := timesOf a v9); have hc2 := timesOf_len a v9; have hc3 := canon_len (l := timesOf b v9); have hc4 := timesOf_len b v9
            obtain ⟨p7, x7, hx7, he7, ep7⟩ := Sl.at (hpost9.mono hle14) k1 (by omega)
            obtain rfl : v9 = x7 := Option.some.inj (hv9.symm.trans hx7)
            obtain ⟨cs7, hc7, hr14⟩ := he7
            obtain ⟨v12, rfl, hs10⟩ := hr14
            obtain ⟨p8, x8, hx8, he8, ep8⟩ := Sl.at (hpost9.mono hle14) k1 (by omega)
            obtain rfl : v9 = x8 := Option.some.inj (hv9.symm.trans hx8)
            obtain ⟨cs8, hc8, hr15⟩ := he8
            obtain ⟨v13, rfl, hs11⟩ := hr15
            refine dr ⟨[0, 0, 0, 6, 14, 31, 0, 0, 0, 384, 896, 2047, 4095, 8191], [0, 1, 2, 3, 6, 7, 8, 9], [4, 10], [], [5, 11, 12, 13]⟩ [(59, va), (60, r13), (61, .int .i64 (k1 : Int)), (62, .pointer (some p7)), (65, vb), (66, r13), (67, .int .i64 (k1 : Int)), (68, .pointer (some p8)), (63, v12), (69, v13)] [o6] hS26 ?_ ?_ trivial (fun w8 hS28 => ?_)
            · exact ⟨fun _ _ => WL.move rfl <| WL.nu rfl, fun _ _ => WL.move rfl <| WL.nu rfl, fun _ _ => WL.move rfl <| WL.nu rfl, fun _ _ => WL.indexAddrP k1 ep7 ul67 ti61 rfl rfl rfl rfl <| WL.nu rfl, fun _ _ => WL.move rfl <| WL.nu rfl, fun _ _ => WL.move rfl <| WL.nu rfl, fun _ _ => WL.move rfl <| WL.nu rfl, fun _ _ => WL.indexAddrP k1 ep8 ul67 ti61 rfl rfl rfl rfl <| WL.nu rfl, trivial⟩
            · exact ⟨fun _ hSw => WL.loadG1 hSw hc7 ti61 rfl rfl rfl <| WL.nu rfl, fun _ hSw => WL.loadG1 hSw hc8 ti61 rfl rfl rfl <| WL.nu rfl, trivial⟩
            refine TL.step rfl ?_
            refine WL.callF [va, v12] #[] hb78 rfl rfl rfl ((c_times _ _ hS28.imm a v9 _ (hva.mono (((hle1.trans hle2).trans hle13).trans hle14)) _ hs10 (by exact hga9) (by omega)).mono ?_)
            rintro e w24 ⟨r14, G15, rfl, hres10, hpost10⟩
            refine ⟨_, rfl, ?_⟩
            have hS29 := hS28.call hres10
            have hle15 := hres10.le
            refine WL.nil ⟨fun _ => hS29.down hS28.le hle15, ?_⟩
            refine TL.step rfl ?_
            refine WL.callF [vb, v13] #[] hb78 rfl rfl rfl ((c_times _ _ hS29.imm b v9 _ (hvb.mono ((((hle1.trans hle2).trans hle13).trans hle14).trans hle15)) _ (hs11.mono hle15) (by exact hgb9) (by omega)).mono ?_)
            rintro e w25 ⟨r15, G16, rfl, hres11, hpost11⟩
            refine ⟨_, rfl, ?_⟩
            have hS30 := hS29.call hres11
            have hle16 := hres11.le
            refine WL.nil ⟨fun h => absurd h (by decide), ?_⟩
            refine TL.step rfl ?_
            refine WL.callF [.int .i64 3, r14, r15] #[] hb77 rfl rfl rfl ((c_Combine _ _ hS30.imm 3 (canon (timesOf a v9)) (canon (timesOf b v9)) _ (hpost10.mono hle16) _ hpost11 (by omega) (by omega)).mono ?_)
            rintro e w26 ⟨r16, G17, rfl, hres12, hpost12⟩
            refine ⟨_, rfl, ?_⟩
            have hS31 := hS30.call hres12
            have hle17 := hres12.le
            refine WL.nil ⟨fun h => absurd h (by decide), ?_⟩
            refine TL.step rfl ?_
            refine WL.assign rfl ?_
            refine WL.nil ⟨fun h => absurd h (by decide), ?_⟩
            refine WC.seq <| WC.region rfl <| WL.assign rfl <| WL.nil <| WC.block ?_
            refine WC.loop (γ := Nat) (fun m ρ1 w1 => ∃ (k2 : Nat), ∃ (v14 : Value) (o7 : OB), ∃ (G18 : GH), m = (combR 3 (canon (timesOf a v9)) (canon (timesOf b v9))).length - k2 ∧ G17.le G18 ∧ St w [] G G18 [o7] w1 ∧ Row FactE 40 63 G18 v14 (rexN a b ((vals a).take k1) ++ ((combR 3 (canon (timesOf a v9)) (canon (timesOf b v9))).take k2).map (Fact.mk v9)) o7 ∧ ρ1 0 = va ∧ ρ1 1 = vb ∧ ρ1 8 = r13 ∧ ρ1 9 = v14 ∧ ρ1 10 = .int .i64 (k1 : Int) ∧ ρ1 11 = r16 ∧ ρ1 12 = .int .i64 (k2 : Int) ∧ k2 ≤ (combR 3 (canon (timesOf a v9)) (canon (timesOf b v9))).length) (fun m => m) _ ⟨0, v11, o6, G17, rfl, (G17.le_refl), hS31, (Row.cast (hr13.mono ((hle15.trans hle16).trans hle17)) (by simp)), rfl, rfl, rfl, rfl, rfl, rfl, rfl, (by omega)⟩ ?_
            rintro m ρ1 w27 ⟨k2, v14, o7, G18, rfl, hle18, hS32, hr16, e18, e19, e20, e21, e22, e23, e24, f4⟩
            refine WC.set (d := 0) e18 ?_
            refine WC.set (d := 1) e19 ?_
            refine WC.set (d := 8) e20 ?_
            refine WC.set (d := 9) e21 ?_
            refine WC.set (d := 10) e22 ?_
            refine WC.set (d := 11) e23 ?_
            refine WC.set (d := 12) e24 ?_
            have hP9 := rex_partLen (b := b) (j := k2) hv9
            refine WC.seq <| WC.seq <| WC.region rfl <| WL.move rfl <| WL.move rfl ?_
            have bd6 := hpost12.bound
            refine WL.lenSl (hpost12.mono hle18) ul111 rfl rfl ?_
            refine WL.lssS (k2 : Int) (((combR 3 (canon (timesOf a v9)) (canon (timesOf b v9))).length : Nat) : Int) rfl rfl rfl (fun h11 => ?_) (fun h11 => ?_)
            · refine WL.nil <| WC.condT rfl <| WC.skip <| WC.seq <| WC.block ?_
              obtain ⟨p9, x9, hx9, he9, ep9⟩ := Sl.at (hpost9.mono ((((hle14.trans hle15).trans hle16).trans hle17).trans hle18)) k1 (by omega)
              obtain rfl : v9 = x9 := Option.some.inj (hv9.symm.trans hx9)
              obtain ⟨cs9, hc9, hr17⟩ := he9
              obtain ⟨v15, rfl, hs12⟩ := hr17
              obtain ⟨p10, x10, hx10, he10, ep10⟩ := Sl.at (hpost12.mono hle18) k2 (by omega)
              obtain ⟨cs10, hc10, hr18⟩ := he10
              obtain ⟨rfl, hb9, hb10⟩ := SpanE_open hr18
              refine dr ⟨[0, 0, 0, 6, 14, 0, 0, 96, 224, 510, 1022, 2047, 4095], [0, 1, 2, 3, 5, 6, 7, 9], [4, 8], [], [10, 11, 12]⟩ [(78, v14), (79, r13), (80, .int .i64 (k1 : Int)), (81, .pointer (some p9)), (83, r16), (84, .int .i64 (k2 : Int)), (85, .pointer (some p10)), (87, .agg #[v15, .int .i64 x10.a, .int .i64 x10.b]), (82, v15), (86, .agg #[.int .i64 x10.a, .int .i64 x10.b])] [o7] hS32 ?_ ?_ trivial (fun w8 hS33 => ?_)
              · exact ⟨fun _ _ => WL.move rfl <| WL.nu rfl, fun _ _ => WL.move rfl <| WL.nu rfl, fun _ _ => WL.move rfl <| WL.nu rfl, fun _ _ => WL.indexAddrP k1 ep9 ul67 ti61 rfl rfl rfl rfl <| WL.nu rfl, fun _ _ => WL.move rfl <| WL.nu rfl, fun _ _ => WL.move rfl <| WL.nu rfl, fun _ _ => WL.indexAddrP k2 ep10 ul111 ti46 rfl rfl rfl rfl <| WL.nu rfl, fun _ _ => WL.build _ [(0, [v15]), (1, [.int .i64 x10.a, .int .i64 x10.b])] [v15, .int .i64 x10.a, .int .i64 x10.b] ti63 rfl fl63 rfl rfl (by show [(0, (v15 : Value).cells.toList), (1, (.agg #[.int .i64 x10.a, .int .i64 x10.b] : Value).cells.toList)] = _; simp only [hs12.cells1] <;> rfl) rfl <| WL.nu rfl, trivial⟩
              · exact ⟨fun _ hSw => WL.loadG1 hSw hc9 ti61 rfl rfl rfl <| WL.nu rfl, fun _ hSw => WL.loadGAt hSw hc10 [.int .i64 x10.a, .int .i64 x10.b] ti46 rfl rfl rfl rfl rfl <| WL.nu rfl, trivial⟩
              refine TL.step rfl ?_
              refine WL.buildSlice _ [(0, [v15, .int .i64 x10.a, .int .i64 x10.b])] [v15, .int .i64 x10.a, .int .i64 x10.b] hS33 sl22 rfl rfl rfl rfl (fun z hz => by match z, hz with | [z0, z1, z2], _ => rfl) (fun b3 w29 hn3 hS34 => ?_)
              refine WL.nil ⟨fun h => absurd h (by decide), ?_⟩
              refine TL.step rfl ?_
              refine WL.push (m := ([(Fact.mk v9 x10)] : List Fact)) sl22 rfl rfl rfl hr16 hS34 1 rfl 0 _ _ _ _ _ rfl ⟨[v15, .int .i64 x10.a, .int .i64 x10.b], _, rfl, (FactE_mk (Fact.mk v9 x10) hs12 hb9 hb10), rfl⟩ rfl (by have hreach : reach = 140737488355328 := rfl; (simp only [List.length_append, List.length_cons, List.length_nil] at *; omega)) (by have hreach : reach = 140737488355328 := rfl; (simp only [List.length_append, List.length_cons, List.length_nil] at *; omega)) rfl rfl rfl (fun v16 o8 w30 hr19 hS35 => ?_)
              have hS36 := hS35.tail
              refine WL.nil ⟨fun h => absurd h (by decide), ?_⟩
              refine TL.step rfl ?_
              refine WL.assign rfl ?_
              refine WL.nil ⟨fun h => absurd h (by decide), ?_⟩
              refine WC.region rfl <| WL.move rfl ?_
              refine WL.incr k2 (by have hreach : reach = 140737488355328 := rfl; omega) rfl rfl rfl ?_
              refine WL.assign rfl <| WL.nil ?_
              exact ⟨_, ⟨k2 + 1, v16, o8, G18, rfl, hle18, hS36, (Row.cast hr19 (by (rw [mapF_take (by assumption), List.append_assoc]))), rfl, rfl, rfl, rfl, rfl, rfl, rfl, (by omega)⟩, (show (combR 3 (canon (timesOf a v9)) (canon (timesOf b v9))).length - (k2 + 1) < (combR 3 (canon (timesOf a v9)) (canon (timesOf b v9))).length - k2 by omega)⟩
            refine WL.nil <| WC.condF rfl <| WC.exit <| WC.region rfl <| WL.move rfl ?_
            refine WL.incr k1 (by have hreach : reach = 140737488355328 := rfl; omega) rfl rfl rfl ?_
            refine WL.assign rfl <| WL.nil ?_
            exact ⟨_, ⟨k1 + 1, v14, o7, G18, rfl, (hle14.trans (((hle15.trans hle16).trans hle17).trans hle18)), hS32, (Row.cast hr16 (by (rw [rexN_take hv9, List.take_of_length_le (l := combR 3 _ _) (by omega)]))), rfl, rfl, rfl, rfl, rfl, (by omega)⟩, (show (vals a).length - (k1 + 1) < (vals a).length - k1 by omega)⟩
          refine WL.nil <| WC.condF rfl <| WC.exit <| WC.seq <| WC.region rfl <| WL.move rfl ?_
          obtain ⟨G19, hle19, hs13, hS37⟩ := Row.freeze hr13 hS26 0 rfl
          refine WL.callF [v11] #[] hb64 rfl rfl rfl ((c_rdone _ _ hS37.imm (rexN a b ((vals a).take k1)) _ hs13 (by (rw [rexN_all (by omega)]; exact rexF_good hga9 hgb9)) (by (rw [rexN_all (by omega)]; have := rexF_len a b; omega))).mono ?_)
          rintro e w31 ⟨r17, G20, rfl, hres13, hpost13⟩
          refine ⟨_, rfl, ?_⟩
          have hS38 := hS37.call hres13
          have hle20 := hres13.le
          obtain ⟨r18, r19, rfl, hs14, rfl⟩ := hpost13
          refine WL.extract _ _ rfl rfl rfl ?_
          refine WL.extract _ _ rfl rfl rfl ?_
          refine WL.assign rfl <| WL.assign rfl <| WL.nil ?_
          refine WC.ret ?_
          exact ⟨.tuple #[r18, .int .i64 (doneE (rexN a b ((vals a).take k1)))], rfl, .tuple #[r18, .int .i64 (doneE (rexN a b ((vals a).take k1)))], _, rfl, hS38.res, r18, (.int .i64 (doneE (rexN a b ((vals a).take k1)))), rfl, (Sl.cast hs14 (by (rw [rexN_all (by omega)]; exact (both_x hp9 (by assumption)).1.symm))), (congrArg (Value.int .i64) (by (rw [rexN_all (by omega)]; exact (both_x hp9 (by assumption)).2.symm)))⟩
        refine WL.not false rfl rfl ?_
        refine WL.nil <| WC.condT rfl <| WC.seq <| WC.region rfl ?_
        refine WL.buildSlice _ [] [] hS24 sl22 rfl rfl rfl rfl (fun z hz => by match z, hz with | [], _ => rfl) (fun b4 w32 hn4 hS39 => ?_)
        refine WL.move rfl ?_
        have hr20 := Row.empty FactE 40 63 G2 b4
        refine WL.pushSl sl22 rfl rfl rfl hr20 hS39 0 rfl (hva.mono (hle1.trans hle2)) (by have hreach : reach = 140737488355328 := rfl; (simp only [List.length_append, List.length_cons, List.length_nil] at *; omega)) (by have hreach : reach = 140737488355328 := rfl; (simp only [List.length_append, List.length_cons, List.length_nil] at *; omega)) rfl rfl rfl (fun v17 o9 w33 hr21 hS40 => ?_)
        refine WL.move rfl ?_
        refine WL.pushSl sl22 rfl rfl rfl hr21 hS40 0 rfl (hvb.mono (hle1.trans hle2)) (by have hreach : reach = 140737488355328 := rfl; (simp only [List.length_append, List.length_cons, List.length_nil] at *; omega)) (by have hreach : reach = 140737488355328 := rfl; (simp only [List.length_append, List.length_cons, List.length_nil] at *; omega)) rfl rfl rfl (fun v18 o10 w34 hr22 hS41 => ?_)
        obtain ⟨G21, hle21, hs15, hS42⟩ := Row.freeze hr22 hS41 0 rfl
        refine WL.callF [v18] #[] hb64 rfl rfl rfl ((c_rdone _ _ hS42.imm (([] ++ a) ++ b) _ hs15 (by exact good_append hga9 hgb9) (by (simp only [List.length_append, List.length_nil]; omega))).mono ?_)
        rintro e w35 ⟨r20, G22, rfl, hres14, hpost14⟩
        refine ⟨_, rfl, ?_⟩
        have hS43 := hS42.call hres14
        have hle22 := hres14.le
        obtain ⟨r21, r22, rfl, hs16, rfl⟩ := hpost14
        refine WL.extract _ _ rfl rfl rfl ?_
        refine WL.extract _ _ rfl rfl rfl ?_
        refine WL.assign rfl <| WL.assign rfl <| WL.nil ?_
        refine WC.ret ?_
        exact ⟨.tuple #[r21, .int .i64 (doneE (([] ++ a) ++ b))], rfl, .tuple #[r21, .int .i64 (doneE (([] ++ a) ++ b))], _, rfl, hS43.res, r21, (.int .i64 (doneE (([] ++ a) ++ b))), rfl, (Sl.cast hs16 (by exact (both_u hp9 (by assumption)).1.symm)), (congrArg (Value.int .i64) (by exact (both_u hp9 (by assumption)).2.symm))⟩
      have h3 : (a.length : Int) ≤ 0 := q1
      clear q1
      refine dr ⟨[0, 1, 3, 7, 15, 31, 63, 127, 255, 511, 1023, 2047, 4095, 511, 8703, 25087, 57855, 131071, 262143, 524287], [0, 1, 2, 3, 4, 5, 6, 7, 8, 9, 10, 11, 13, 14, 15, 18, 19], [12, 16], [17], []⟩ [(21, va), (22, .int .i64 (a.length : Int)), (23, .bool false), (24, .bool false), (25, undef), (26, undef), (27, undef), (28, .bool false), (29, .bool false), (30, undef), (31, undef), (32, undef), (34, undef), (35, undef), (36, undef), (39, undef), (40, .bool false), (33, undef), (37, undef), (38, undef)] [] hS2 ?_ ?_ ?_ (fun w8 hS44 => ?_)
      · exact ⟨fun _ _ => WL.move rfl <| WL.nu rfl, fun _ _ => WL.lenSl (hva.mono (hle1.trans hle2)) ul22 rfl rfl <| WL.nu rfl, fun _ _ => WL.cmpV .gtr rfl .i64 (a.length : Int) 0 _ hb1 rfl rfl rfl <| WL.nu rfl, fun _ _ => WL.move rfl <| WL.nu rfl, fun _ _ => WL.no rfl rfl <| WL.nu rfl, fun _ _ => WL.no rfl rfl <| WL.nu rfl, fun _ _ => WL.no rfl rfl <| WL.nu rfl, fun _ _ => WL.pickF rfl rfl <| WL.nu rfl, fun _ _ => WL.move rfl <| WL.nu rfl, fun _ _ => WL.no rfl rfl <| WL.nu rfl, fun _ _ => WL.no rfl rfl <| WL.nu rfl, fun _ _ => WL.no rfl rfl <| WL.nu rfl, fun _ _ => WL.no rfl rfl <| WL.nu rfl, fun _ _ => WL.no rfl rfl <| WL.nu rfl, fun _ _ => WL.no rfl rfl <| WL.nu rfl, fun _ _ => WL.no rfl rfl <| WL.nu rfl, fun _ _ => WL.pickF rfl rfl <| WL.nu rfl, trivial⟩
      · exact ⟨fun _ _ => WL.no rfl rfl <| WL.nu rfl, fun _ _ => WL.no rfl rfl <| WL.nu rfl, trivial⟩
      · exact ⟨fun _ hSw => WL.no rfl rfl <| WL.nuS hSw rfl, trivial⟩
      refine WC.condF rfl <| WC.skip <| WC.seq <| WC.seq ?_
      have hp9 : pairE a b = 0 := by exact pairE_0' hva9 hvb9 (by omega)
      refine WC.region rfl <| WL.move rfl ?_
      refine WL.split (fun (h12 : mi = true) => ?_) (fun (h12 : mi = false) => ?_)
      · refine WL.not true rfl rfl ?_
        refine WL.nil <| WC.condF rfl <| WC.skip <| WC.seq <| WC.region rfl <| WL.move rfl ?_
        refine WL.callF [va] #[] hb76 rfl rfl rfl ((c_values _ _ hS44.imm a _ (hva.mono (hle1.trans hle2)) (by omega)).mono ?_)
        rintro e w37 ⟨r23, G23, rfl, hres15, hpost15⟩
        refine ⟨_, rfl, ?_⟩
        have hS45 := hS44.call hres15
        have hle23 := hres15.le
        refine WL.assign rfl <| WL.nil <| WC.seq ?_
        have hvl9 := vals_len a
        refine WC.region rfl <| WL.assign rfl <| WL.nil <| WC.seq <| WC.seq <| WC.region rfl <| WL.assign rfl <| WL.nil <| WC.block ?_
        have hS47 := hS45.pad
        refine WC.loop (γ := Nat) (fun m ρ1 w1 => ∃ (k1 : Nat), ∃ (v19 : Value) (o11 : OB), ∃ (G24 : GH), m = (vals a).length - k1 ∧ G23.le G24 ∧ St w [] G G24 [o11] w1 ∧ Row FactE 40 63 G24 v19 (rexN a b ((vals a).take k1)) o11 ∧ ρ1 0 = va ∧ ρ1 1 = vb ∧ ρ1 8 = r23 ∧ ρ1 9 = v19 ∧ ρ1 10 = .int .i64 (k1 : Int) ∧ k1 ≤ (vals a).length) (fun m => m) _ ⟨0, (.slice none 0 0), none, G23, rfl, (G23.le_refl), hS47, (Row.cast (Row.nil FactE 40 63 G23) (by simp [rexN])), rfl, rfl, rfl, rfl, rfl, (by omega)⟩ ?_
        rintro m ρ1 w38 ⟨k1, v19, o11, G24, rfl, hle24, hS46, hr23, e25, e26, e27, e28, e29, f5⟩
        refine WC.set (d := 0) e25 ?_
        refine WC.set (d := 1) e26 ?_
        refine WC.set (d := 8) e27 ?_
        refine WC.set (d := 9) e28 ?_
        refine WC.set (d := 10) e29 ?_
        have hrx := rexN_takeLen a b k1
        refine WC.seq <| WC.seq <| WC.region rfl <| WL.move rfl <| WL.move rfl ?_
        have bd7 := hpost15.bound
        refine WL.lenSl (hpost15.mono hle24) ul67 rfl rfl ?_
        refine WL.lssS (k1 : Int) (((vals a).length : Nat) : Int) rfl rfl rfl (fun h13 => ?_) (fun h13 => ?_)
        · refine WL.nil <| WC.condT rfl <| WC.skip <| WC.seq <| WC.block <| WC.seq ?_
          obtain ⟨v9, hv9⟩ : ∃ v, (vals a)[k1]? = some v := ⟨_, List.getElem?_eq_getElem (by omega)⟩
          have hc1 := canon_len (l := timesOf a v9); have hc2 := timesOf_len a v9; have hc3 := canon_len (l := timesOf b v9); have hc4 := timesOf_len b v9
          obtain ⟨p11, x11, hx11, he11, ep11⟩ := Sl.at (hpost15.mono hle24) k1 (by omega)
          obtain rfl : v9 = x11 := Option.some.inj (hv9.symm.trans hx11)
          obtain ⟨cs11, hc11, hr24⟩ := he11
          obtain ⟨v20, rfl, hs17⟩ := hr24
          obtain ⟨p12, x12, hx12, he12, ep12⟩ := Sl.at (hpost15.mono hle24) k1 (by omega)
          obtain rfl : v9 = x12 := Option.some.inj (hv9.symm.trans hx12)
          obtain ⟨cs12, hc12, hr25⟩ := he12
          obtain ⟨v21, rfl, hs18⟩ := hr25
          refine dr ⟨[0, 0, 0, 6, 14, 31, 0, 0, 0, 384, 896, 2047, 4095, 8191], [0, 1, 2, 3, 6, 7, 8, 9], [4, 10], [], [5, 11, 12, 13]⟩ [(59, va), (60, r23), (61, .int .i64 (k1 : Int)), (62, .pointer (some p11)), (65, vb), (66, r23), (67, .int .i64 (k1 : Int)), (68, .pointer (some p12)), (63, v20), (69, v21)] [o11] hS46 ?_ ?_ trivial (fun w8 hS48 => ?_)
          · exact ⟨fun _ _ => WL.move rfl <| WL.nu rfl, fun _ _ => WL.move rfl <| WL.nu rfl, fun _ _ => WL.move rfl <| WL.nu rfl, fun _ _ => WL.indexAddrP k1 ep11 ul67 ti61 rfl rfl rfl rfl <| WL.nu rfl, fun _ _ => WL.move rfl <| WL.nu rfl, fun _ _ => WL.move rfl <| WL.nu rfl, fun _ _ => WL.move rfl <| WL.nu rfl, fun _ _ => WL.indexAddrP k1 ep12 ul67 ti61 rfl rfl rfl rfl <| WL.nu rfl, trivial⟩
          · exact ⟨fun _ hSw => WL.loadG1 hSw hc11 ti61 rfl rfl rfl <| WL.nu rfl, fun _ hSw => WL.loadG1 hSw hc12 ti61 rfl rfl rfl <| WL.nu rfl, trivial⟩
          refine TL.step rfl ?_
          refine WL.callF [va, v20] #[] hb78 rfl rfl rfl ((c_times _ _ hS48.imm a v9 _ (hva.mono (((hle1.trans hle2).trans hle23).trans hle24)) _ hs17 (by exact hga9) (by omega)).mono ?_)
          rintro e w40 ⟨r24, G25, rfl, hres16, hpost16⟩
          refine ⟨_, rfl, ?_⟩
          have hS49 := hS48.call hres16
          have hle25 := hres16.le
          refine WL.nil ⟨fun _ => hS49.down hS48.le hle25, ?_⟩
          refine TL.step rfl ?_
          refine WL.callF [vb, v21] #[] hb78 rfl rfl rfl ((c_times _ _ hS49.imm b v9 _ (hvb.mono ((((hle1.trans hle2).trans hle23).trans hle24).trans hle25)) _ (hs18.mono hle25) (by exact hgb9) (by omega)).mono ?_)
          rintro e w41 ⟨r25, G26, rfl, hres17, hpost17⟩
          refine ⟨_, rfl, ?_⟩
          have hS50 := hS49.call hres17
          have hle26 := hres17.le
          refine WL.nil ⟨fun h => absurd h (by decide), ?_⟩
          refine TL.step rfl ?_
          refine WL.callF [.int .i64 3, r24, r25] #[] hb77 rfl rfl rfl ((c_Combine _ _ hS50.imm 3 (canon (timesOf a v9)) (canon (timesOf b v9)) _ (hpost16.mono hle26) _ hpost17 (by omega) (by omega)).mono ?_)
          rintro e w42 ⟨r26, G27, rfl, hres18, hpost18⟩
          refine ⟨_, rfl, ?_⟩
          have hS51 := hS50.call hres18
          have hle27 := hres18.le
          refine WL.nil ⟨fun h => absurd h (by decide), ?_⟩
          refine TL.step rfl ?_
          refine WL.assign rfl ?_
          refine WL.nil ⟨fun h => absurd h (by decide), ?_⟩
          refine WC.seq <| WC.region rfl <| WL.assign rfl <| WL.nil <| WC.block ?_
          refine WC.loop (γ := Nat) (fun m ρ1 w1 => ∃ (k2 : Nat), ∃ (v22 : Value) (o12 : OB), ∃ (G28 : GH), m = (combR 3 (canon (timesOf a v9)) (canon (timesOf b v9))).length - k2 ∧ G27.le G28 ∧ St w [] G G28 [o12] w1 ∧ Row FactE 40 63 G28 v22 (rexN a b ((vals a).take k1) ++ ((combR 3 (canon (timesOf a v9)) (canon (timesOf b v9))).take k2).map (Fact.mk v9)) o12 ∧ ρ1 0 = va ∧ ρ1 1 = vb ∧ ρ1 8 = r23 ∧ ρ1 9 = v22 ∧ ρ1 10 = .int .i64 (k1 : Int) ∧ ρ1 11 = r26 ∧ ρ1 12 = .int .i64 (k2 : Int) ∧ k2 ≤ (combR 3 (canon (timesOf a v9)) (canon (timesOf b v9))).length) (fun m => m) _ ⟨0, v19, o11, G27, rfl, (G27.le_refl), hS51, (Row.cast (hr23.mono ((hle25.trans hle26).trans hle27)) (by simp)), rfl, rfl, rfl, rfl, rfl, rfl, rfl, (by omega)⟩ ?_
          rintro m ρ1 w43 ⟨k2, v22, o12, G28, rfl, hle28, hS52, hr26, e30, e31, e32, e33, e34, e35, e36, f6⟩
          refine WC.set (d := 0) e30 ?_
          refine WC.set (d := 1) e31 ?_
          refine WC.set (d := 8) e32 ?_
          refine WC.set (d := 9) e33 ?_
          refine WC.set (d := 10) e34 ?_
          refine WC.set (d := 11) e35 ?_
          refine WC.set (d := 12) e36 ?_
          have hP9 := rex_partLen (b := b) (j := k2) hv9
          refine WC.seq <| WC.seq <| WC.region rfl <| WL.move rfl <| WL.move rfl ?_
          have bd8 := hpost18.bound
          refine WL.lenSl (hpost18.mono hle28) ul111 rfl rfl ?_
          refine WL.lssS (k2 : Int) (((combR 3 (canon (timesOf a v9)) (canon (timesOf b v9))).length : Nat) : Int) rfl rfl rfl (fun h14 => ?_) (fun h14 => ?_)
          · refine WL.nil <| WC.condT rfl <| WC.skip <| WC.seq <| WC.block ?_
            obtain ⟨p13, x13, hx13, he13, ep13⟩ := Sl.at (hpost15.mono ((((hle24.trans hle25).trans hle26).trans hle27).trans hle28)) k1 (by omega)
            obtain rfl : v9 = x13 := Option.some.inj (hv9.symm.trans hx13)
            obtain ⟨cs13, hc13, hr27⟩ := he13
            obtain ⟨v23, rfl, hs19⟩ := hr27
            obtain ⟨p14, x14, hx14, he14, ep14⟩ := Sl.at (hpost18.mono hle28) k2 (by omega)
            obtain ⟨cs14, hc14, hr28⟩ := he14
            obtain ⟨rfl, hb11, hb12⟩ := SpanE_open hr28
            refine dr ⟨[0, 0, 0, 6, 14, 0, 0, 96, 224, 510, 1022, 2047, 4095], [0, 1, 2, 3, 5, 6, 7, 9], [4, 8], [], [10, 11, 12]⟩ [(78, v22), (79, r23), (80, .int .i64 (k1 : Int)), (81, .pointer (some p13)), (83, r26), (84, .int .i64 (k2 : Int)), (85, .pointer (some p14)), (87, .agg #[v23, .int .i64 x14.a, .int .i64 x14.b]), (82, v23), (86, .agg #[.int .i64 x14.a, .int .i64 x14.b])] [o12] hS52 ?_ ?_ trivial (fun w8 hS53 => ?_)
            · exact ⟨fun _ _ => WL.move rfl <| WL.nu rfl, fun _ _ => WL.move rfl <| WL.nu rfl, fun _ _ => WL.move rfl <| WL.nu rfl, fun _ _ => WL.indexAddrP k1 ep13 ul67 ti61 rfl rfl rfl rfl <| WL.nu rfl, fun _ _ => WL.move rfl <| WL.nu rfl, fun _ _ => WL.move rfl <| WL.nu rfl, fun _ _ => WL.indexAddrP k2 ep14 ul111 ti46 rfl rfl rfl rfl <| WL.nu rfl, fun _ _ => WL.build _ [(0, [v23]), (1, [.int .i64 x14.a, .int .i64 x14.b])] [v23, .int .i64 x14.a, .int .i64 x14.b] ti63 rfl fl63 rfl rfl (by show [(0, (v23 : Value).cells.toList), (1, (.agg #[.int .i64 x14.a, .int .i64 x14.b] : Value).cells.toList)] = _; simp only [hs19.cells1] <;> rfl) rfl <| WL.nu rfl, trivial⟩
            · exact ⟨fun _ hSw => WL.loadG1 hSw hc13 ti61 rfl rfl rfl <| WL.nu rfl, fun _ hSw => WL.loadGAt hSw hc14 [.int .i64 x14.a, .int .i64 x14.b] ti46 rfl rfl rfl rfl rfl <| WL.nu rfl, trivial⟩
            refine TL.step rfl ?_
            refine WL.buildSlice _ [(0, [v23, .int .i64 x14.a, .int .i64 x14.b])] [v23, .int .i64 x14.a, .int .i64 x14.b] hS53 sl22 rfl rfl rfl rfl (fun z hz => by match z, hz with | [z0, z1, z2], _ => rfl) (fun b5 w45 hn5 hS54 => ?_)
            refine WL.nil ⟨fun h => absurd h (by decide), ?_⟩
            refine TL.step rfl ?_
            refine WL.push (m := ([(Fact.mk v9 x14)] : List Fact)) sl22 rfl rfl rfl hr26 hS54 1 rfl 0 _ _ _ _ _ rfl ⟨[v23, .int .i64 x14.a, .int .i64 x14.b], _, rfl, (FactE_mk (Fact.mk v9 x14) hs19 hb11 hb12), rfl⟩ rfl (by have hreach : reach = 140737488355328 := rfl; omega) (by have hreach : reach = 140737488355328 := rfl; omega) rfl rfl rfl (fun v24 o13 w46 hr29 hS55 => ?_)
            have hS56 := hS55.tail
            refine WL.nil ⟨fun h => absurd h (by decide), ?_⟩
            refine TL.step rfl ?_
            refine WL.assign rfl ?_
            refine WL.nil ⟨fun h => absurd h (by decide), ?_⟩
            refine WC.region rfl <| WL.move rfl ?_
            refine WL.incr k2 (by have hreach : reach = 140737488355328 := rfl; omega) rfl rfl rfl ?_
            refine WL.assign rfl <| WL.nil ?_
            exact ⟨_, ⟨k2 + 1, v24, o13, G28, rfl, hle28, hS56, (Row.cast hr29 (by (rw [mapF_take (by assumption), List.append_assoc]))), rfl, rfl, rfl, rfl, rfl, rfl, rfl, (by omega)⟩, (show (combR 3 (canon (timesOf a v9)) (canon (timesOf b v9))).length - (k2 + 1) < (combR 3 (canon (timesOf a v9)) (canon (timesOf b v9))).length - k2 by omega)⟩
          refine WL.nil <| WC.condF rfl <| WC.exit <| WC.region rfl <| WL.move rfl ?_
          refine WL.incr k1 (by have hreach : reach = 140737488355328 := rfl; omega) rfl rfl rfl ?_
          refine WL.assign rfl <| WL.nil ?_
          exact ⟨_, ⟨k1 + 1, v22, o12, G28, rfl, (hle24.trans (((hle25.trans hle26).trans hle27).trans hle28)), hS52, (Row.cast hr26 (by (rw [rexN_take hv9, List.take_of_length_le (l := combR 3 _ _) (by omega)]))), rfl, rfl, rfl, rfl, rfl, (by omega)⟩, (show (vals a).length - (k1 + 1) < (vals a).length - k1 by omega)⟩
        refine WL.nil <| WC.condF rfl <| WC.exit <| WC.seq <| WC.region rfl <| WL.move rfl ?_
        obtain ⟨G29, hle29, hs20, hS57⟩ := Row.freeze hr23 hS46 0 rfl
        refine WL.callF [v19] #[] hb64 rfl rfl rfl ((c_rdone _ _ hS57.imm (rexN a b ((vals a).take k1)) _ hs20 (by (rw [rexN_all (by omega)]; exact rexF_good hga9 hgb9)) (by (rw [rexN_all (by omega)]; have := rexF_len a b; omega))).mono ?_)
        rintro e w47 ⟨r27, G30, rfl, hres19, hpost19⟩
        refine ⟨_, rfl, ?_⟩
        have hS58 := hS57.call hres19
        have hle30 := hres19.le
        obtain ⟨r28, r29, rfl, hs21, rfl⟩ := hpost19
        refine WL.extract _ _ rfl rfl rfl ?_
        refine WL.extract _ _ rfl rfl rfl ?_
        refine WL.assign rfl <| WL.assign rfl <| WL.nil ?_
        refine WC.ret ?_
        exact ⟨.tuple #[r28, .int .i64 (doneE (rexN a b ((vals a).take k1)))], rfl, .tuple #[r28, .int .i64 (doneE (rexN a b ((vals a).take k1)))], _, rfl, hS58.res, r28, (.int .i64 (doneE (rexN a b ((vals a).take k1)))), rfl, (Sl.cast hs21 (by (rw [rexN_all (by omega)]; exact (both_x hp9 (by assumption)).1.symm))), (congrArg (Value.int .i64) (by (rw [rexN_all (by omega)]; exact (both_x hp9 (by assumption)).2.symm)))⟩
      refine WL.not false rfl rfl ?_
      refine WL.nil <| WC.condT rfl <| WC.seq <| WC.region rfl ?_
      refine WL.buildSlice _ [] [] hS44 sl22 rfl rfl rfl rfl (fun z hz => by match z, hz with | [], _ => rfl) (fun b6 w48 hn6 hS59 => ?_)
      refine WL.move rfl ?_
      have hr30 := Row.empty FactE 40 63 G2 b6
      refine WL.pushSl sl22 rfl rfl rfl hr30 hS59 0 rfl (hva.mono (hle1.trans hle2)) (by have hreach : reach = 140737488355328 := rfl; (simp only [List.length_append, List.length_cons, List.length_nil] at *; omega)) (by have hreach : reach = 140737488355328 := rfl; (simp only [List.length_append, List.length_cons, List.length_nil] at *; omega)) rfl rfl rfl (fun v25 o14 w49 hr31 hS60 => ?_)
      refine WL.move rfl ?_
      refine WL.pushSl sl22 rfl rfl rfl hr31 hS60 0 rfl (hvb.mono (hle1.trans hle2)) (by have hreach : reach = 140737488355328 := rfl; (simp only [List.length_append, List.length_cons, List.length_nil] at *; omega)) (by have hreach : reach = 140737488355328 := rfl; (simp only [List.length_append, List.length_cons, List.length_nil] at *; omega)) rfl rfl rfl (fun v26 o15 w50 hr32 hS61 => ?_)
      obtain ⟨G31, hle31, hs22, hS62⟩ := Row.freeze hr32 hS61 0 rfl
      refine WL.callF [v26] #[] hb64 rfl rfl rfl ((c_rdone _ _ hS62.imm (([] ++ a) ++ b) _ hs22 (by exact good_append hga9 hgb9) (by (simp only [List.length_append, List.length_nil]; omega))).mono ?_)
      rintro e w51 ⟨r30, G32, rfl, hres20, hpost20⟩
      refine ⟨_, rfl, ?_⟩
      have hS63 := hS62.call hres20
      have hle32 := hres20.le
      obtain ⟨r31, r32, rfl, hs23, rfl⟩ := hpost20
      refine WL.extract _ _ rfl rfl rfl ?_
      refine WL.extract _ _ rfl rfl rfl ?_
      refine WL.assign rfl <| WL.assign rfl <| WL.nil ?_
      refine WC.ret ?_
      exact ⟨.tuple #[r31, .int .i64 (doneE (([] ++ a) ++ b))], rfl, .tuple #[r31, .int .i64 (doneE (([] ++ a) ++ b))], _, rfl, hS63.res, r31, (.int .i64 (doneE (([] ++ a) ++ b))), rfl, (Sl.cast hs23 (by exact (both_u hp9 (by assumption)).1.symm)), (congrArg (Value.int .i64) (by exact (both_u hp9 (by assumption)).2.symm))⟩
    refine WL.not false rfl rfl ?_
    refine WL.pickF rfl rfl <| WL.nil <| WC.condT rfl <| WC.seq <| WC.region rfl <| WL.assign rfl <| WL.assign rfl <| WL.nil ?_
    refine WC.ret ?_
    exact ⟨.tuple #[.slice none 0 0, .int .i64 1], rfl, .tuple #[.slice none 0 0, .int .i64 1], _, rfl, hS2.res, (.slice none 0 0), (.int .i64 1), rfl, (Sl.cast (Sl.nil FactE 40 G2) (by exact (both_no (pairE_1 (.inr (by rw [← rvalid_valid]; exact h2))) (by decide)).1.symm)), (congrArg (Value.int .i64) (by exact (both_no (pairE_1 (.inr (by rw [← rvalid_valid]; exact h2))) (by decide)).2.symm))⟩
  refine WL.not false rfl rfl ?_
  refine WL.move rfl <| WL.no rfl rfl <| WL.no rfl rfl <| WL.no rfl rfl <| WL.pickT rfl rfl <| WL.nil <| WC.condT rfl <| WC.seq <| WC.region rfl <| WL.assign rfl <| WL.assign rfl <| WL.nil ?_
  refine WC.ret ?_
  exact ⟨.tuple #[.slice none 0 0, .int .i64 1], rfl, .tuple #[.slice none 0 0, .int .i64 1], _, rfl, hS1.res, (.slice none 0 0), (.int .i64 1), rfl, (Sl.cast (Sl.nil FactE 40 G1) (by exact (both_no (pairE_1 (.inl (by rw [← rvalid_valid]; exact h1))) (by decide)).1.symm)), (congrArg (Value.int .i64) (by exact (both_no (pairE_1 (.inl (by rw [← rvalid_valid]; exact h1))) (by decide)).2.symm))⟩

theorem c_AlgebraSets (G : GH) (w : World) (hG : G.In w) (a b : List Fact) (s : Span) (va : Value) (hva : Sl FactE 40 G va a) (vb : Value) (hvb : Sl FactE 40 G vb b) (cs : List Value) (hcs : SpanE.rep G s cs)  : Calls Tryz.prog (nat_lit 5) #[va, vb, .agg cs.toArray] w fun e w' => ∃ r G', e = .returned r ∧ Res [] w G w' G' ∧ r = .bool true := by
  refine calls_of_WC (N := 80) Tryz.func5 rfl rfl rfl ?_
  have hS := St.start (X := []) hG
  obtain ⟨rfl, hb1, hb2⟩ := SpanE_open hcs
  refine WC.seq <| WC.region rfl ?_
  refine WL.boxG [.int .i64 s.a, .int .i64 s.b] _ hS rfl rfl rfl (fun p1 w1 G1 hle1 hsp1 hc1 hS1 => ?_)
  refine WL.assign rfl <| WL.nil <| WC.seq <| WC.seq <| WC.region rfl ?_
  refine WL.callF [] #[] hb11 rfl rfl rfl ((c_awake _ _ hS1.imm   ).mono ?_)
  rintro e w2 ⟨r1, G2, rfl, hres1, hpost1⟩
  refine ⟨_, rfl, ?_⟩
  have hS2 := hS1.call hres1
  have hle2 := hres1.le
  subst hpost1
  refine WL.not true rfl rfl ?_
  refine WL.nil <| WC.condF rfl <| WC.skip <| WC.seq <| WC.seq <| WC.region rfl <| WL.move rfl <| WL.move rfl ?_
  refine WL.buildSlice _ [(0, [va]), (1, [vb])] [va, vb] hS2 sl89 rfl rfl rfl (by show [(0, (va : Value).cells.toList), (1, (vb : Value).cells.toList)] = _; simp only [(hva.mono (hle1.trans hle2)).cells1, (hvb.mono (hle1.trans hle2)).cells1] <;> rfl) (fun z hz => by match z, hz with | [z0, z1], _ => rfl) (fun b1 w3 hn1 hS3 => ?_)
  obtain ⟨G3, hle3, hs1, hS4⟩ := St.sealSl (E := (FactE.slice 40)) (by_ := 24) (l := ([a, b] : List (List Fact))) hS3 hn1 ⟨[va], _, rfl, ⟨_, rfl, (hva.mono (hle1.trans hle2))⟩, ⟨[vb], _, rfl, ⟨_, rfl, (hvb.mono (hle1.trans hle2))⟩, rfl⟩⟩ rfl (by simp [reach]) (by simp [reach])
  refine WL.callF [.slice (some ⟨b1, 0, none⟩) 2 2] #[] hb12 rfl rfl rfl ((c_great _ _ hS4.imm [a, b] _ hs1 ).mono ?_)
  rintro e w4 ⟨r2, G4, rfl, hres2, hpost2⟩
  refine ⟨_, rfl, ?_⟩
  have hS5 := hS4.call hres2
  have hle4 := hres2.le
  subst hpost2
  refine WL.split (fun (h1 : ([a, b].any greatB) = true) => ?_) (fun (h1 : ([a, b].any greatB) = false) => ?_)
  · refine WL.nil <| WC.condT rfl <| WC.seq <| WC.region rfl <| WL.assign rfl <| WL.nil ?_
    refine WC.ret ?_
    exact ⟨.bool true, rfl, .bool true, _, rfl, hS5.res, (congrArg Value.bool (by rfl))⟩
  refine WL.nil <| WC.condF rfl <| WC.skip <| WC.seq ?_
  have h20 := great_le2 (by assumption)
  have hal := h20.1
  have hbl := h20.2
  refine WC.region rfl <| WL.move rfl <| WL.move rfl ?_
  refine WL.callF [va, vb] #[] hb21 rfl rfl rfl ((c_Union _ _ hS5.imm a b _ (hva.mono (((hle1.trans hle2).trans hle3).trans hle4)) _ (hvb.mono (((hle1.trans hle2).trans hle3).trans hle4)) ).mono ?_)
  rintro e w5 ⟨r3, G5, rfl, hres3, hpost3⟩
  refine ⟨_, rfl, ?_⟩
  have hS6 := hS5.call hres3
  have hle5 := hres3.le
  obtain ⟨r4, r5, rfl, hs2, rfl⟩ := hpost3
  refine WL.move rfl ?_
  refine WL.extract _ _ rfl rfl rfl ?_
  refine WL.extract _ _ rfl rfl rfl ?_
  refine WL.assign rfl <| WL.assign rfl <| WL.nil <| WC.seq <| WC.region rfl <| WL.move rfl <| WL.move rfl ?_
  refine WL.callF [va, vb, .bool false] #[] hb22 rfl rfl rfl ((c_rBoth _ _ hS6.imm a b false _ (hva.mono ((((hle1.trans hle2).trans hle3).trans hle4).trans hle5)) _ (hvb.mono ((((hle1.trans hle2).trans hle3).trans hle4).trans hle5)) hal hbl).mono ?_)
  rintro e w6 ⟨r6, G6, rfl, hres4, hpost4⟩
  refine ⟨_, rfl, ?_⟩
  have hS7 := hS6.call hres4
  have hle6 := hres4.le
  obtain ⟨r7, r8, rfl, hs3, rfl⟩ := hpost4
  refine WL.move rfl ?_
  refine WL.extract _ _ rfl rfl rfl ?_
  refine WL.extract _ _ rfl rfl rfl ?_
  refine WL.assign rfl <| WL.assign rfl <| WL.nil <| WC.seq <| WC.region rfl <| WL.move rfl <| WL.move rfl ?_
  refine WL.callF [va, vb] #[] hb23 rfl rfl rfl ((c_Except _ _ hS7.imm a b _ (hva.mono (((((hle1.trans hle2).trans hle3).trans hle4).trans hle5).trans hle6)) _ (hvb.mono (((((hle1.trans hle2).trans hle3).trans hle4).trans hle5).trans hle6)) ).mono ?_)
  rintro e w7 ⟨r9, G7, rfl, hres5, hpost5⟩
  refine ⟨_, rfl, ?_⟩
  have hS8 := hS7.call hres5
  have hle7 := hres5.le
  obtain ⟨r10, r11, rfl, hs4, rfl⟩ := hpost5
  refine WL.move rfl ?_
  refine WL.extract _ _ rfl rfl rfl ?_
  refine WL.extract _ _ rfl rfl rfl ?_
  refine WL.assign rfl <| WL.assign rfl <| WL.nil <| WC.seq <| WC.region rfl <| WL.move rfl <| WL.move rfl ?_
  refine WL.callF [va, vb, .bool true] #[] hb22 rfl rfl rfl ((c_rBoth _ _ hS8.imm a b true _ (hva.mono ((((((hle1.trans hle2).trans hle3).trans hle4).trans hle5).trans hle6).trans hle7)) _ (hvb.mono ((((((hle1.trans hle2).trans hle3).trans hle4).trans hle5).trans hle6).trans hle7)) hal hbl).mono ?_)
  rintro e w8 ⟨r12, G8, rfl, hres6, hpost6⟩
  refine ⟨_, rfl, ?_⟩
  have hS9 := hS8.call hres6
  have hle8 := hres6.le
  obtain ⟨r13, r14, rfl, hs5, rfl⟩ := hpost6
  refine WL.move rfl ?_
  refine WL.extract _ _ rfl rfl rfl ?_
  refine WL.extract _ _ rfl rfl rfl ?_
  refine WL.assign rfl <| WL.assign rfl <| WL.nil <| WC.seq <| WC.region rfl <| WL.move rfl ?_
  refine WL.loadGAt hS9 (hc1.mono ((((((hle2.trans hle3).trans hle4).trans hle5).trans hle6).trans hle7).trans hle8)) [.int .i64 s.a, .int .i64 s.b] ti46 rfl rfl rfl rfl rfl ?_
  refine WL.callF [va, .agg #[.int .i64 s.a, .int .i64 s.b]] #[] hb24 rfl rfl rfl ((c_During _ _ hS9.imm a s _ (hva.mono (((((((hle1.trans hle2).trans hle3).trans hle4).trans hle5).trans hle6).trans hle7).trans hle8)) _ (SpanE_mk s hb1 hb2) ).mono ?_)
  rintro e w9 ⟨r15, G9, rfl, hres7, hpost7⟩
  refine ⟨_, rfl, ?_⟩
  have hS10 := hS9.call hres7
  have hle9 := hres7.le
  obtain ⟨r16, r17, rfl, hs6, rfl⟩ := hpost7
  refine WL.move rfl ?_
  refine WL.extract _ _ rfl rfl rfl ?_
  refine WL.extract _ _ rfl rfl rfl ?_
  refine WL.assign rfl <| WL.assign rfl <| WL.nil <| WC.seq <| WC.region rfl <| WL.move rfl ?_
  refine WL.loadGAt hS10 (hc1.mono (((((((hle2.trans hle3).trans hle4).trans hle5).trans hle6).trans hle7).trans hle8).trans hle9)) [.int .i64 s.a, .int .i64 s.b] ti46 rfl rfl rfl rfl rfl ?_
  refine WL.callF [va, .agg #[.int .i64 s.a, .int .i64 s.b]] #[] hb25 rfl rfl rfl ((c_rDuring _ _ hS10.imm a s _ (hva.mono ((((((((hle1.trans hle2).trans hle3).trans hle4).trans hle5).trans hle6).trans hle7).trans hle8).trans hle9)) _ (SpanE_mk s hb1 hb2) ).mono ?_)
  rintro e w10 ⟨r18, G10, rfl, hres8, hpost8⟩
  refine ⟨_, rfl, ?_⟩
  have hS11 := hS10.call hres8
  have hle10 := hres8.le
  obtain ⟨r19, r20, rfl, hs7, rfl⟩ := hpost8
  refine WL.move rfl ?_
  refine WL.extract _ _ rfl rfl rfl ?_
  refine WL.extract _ _ rfl rfl rfl ?_
  refine WL.assign rfl <| WL.assign rfl <| WL.nil <| WC.seq <| WC.region rfl <| WL.move rfl <| WL.move rfl <| WL.move rfl <| WL.move rfl ?_
  refine WL.callF [r4, .int .i64 (unionE a b), r7, .int .i64 (bothE false a b)] #[] hb15 rfl rfl rfl ((c_same _ _ hS11.imm (unionL a b) (unionE a b) (bothL false a b) (bothE false a b) _ (hs2.mono ((((hle6.trans hle7).trans hle8).trans hle9).trans hle10)) _ (hs3.mono (((hle7.trans hle8).trans hle9).trans hle10)) ).mono ?_)
  rintro e w11 ⟨r21, G11, rfl, hres9, hpost9⟩
  refine ⟨_, rfl, ?_⟩
  have hS12 := hS11.call hres9
  have hle11 := hres9.le
  subst hpost9
  refine WL.split (fun (h2 : (decide ((unionE a b) = (bothE false a b)) && decide ((unionL a b) = (bothL false a b))) = true) => ?_) (fun (h2 : (decide ((unionE a b) = (bothE false a b)) && decide ((unionL a b) = (bothL false a b))) = false) => ?_)
  · refine WL.move rfl <| WL.move rfl <| WL.move rfl <| WL.move rfl <| WL.move rfl ?_
    refine WL.callF [r10, .int .i64 (excE a b), r13, .int .i64 (bothE true a b)] #[] hb15 rfl rfl rfl ((c_same _ _ hS12.imm (excL a b) (excE a b) (bothL true a b) (bothE true a b) _ (hs4.mono (((hle8.trans hle9).trans hle10).trans hle11)) _ (hs5.mono ((hle9.trans hle10).trans hle11)) ).mono ?_)
    rintro e w12 ⟨r22, G12, rfl, hres10, hpost10⟩
    refine ⟨_, rfl, ?_⟩
    have hS13 := hS12.call hres10
    have hle12 := hres10.le
    subst hpost10
    refine WL.split (fun (h3 : (decide ((excE a b) = (bothE true a b)) && decide ((excL a b) = (bothL true a b))) = true) => ?_) (fun (h3 : (decide ((excE a b) = (bothE true a b)) && decide ((excL a b) = (bothL true a b))) = false) => ?_)
    · refine WL.pickT rfl rfl <| WL.move rfl <| WL.move rfl <| WL.move rfl <| WL.move rfl <| WL.move rfl ?_
      refine WL.callF [r16, .int .i64 (durE a s), r19, .int .i64 (rdurE a s)] #[] hb15 rfl rfl rfl ((c_same _ _ hS13.imm (durL a s) (durE a s) (rdurL a s) (rdurE a s) _ (hs6.mono ((hle10.trans hle11).trans hle12)) _ (hs7.mono (hle11.trans hle12)) ).mono ?_)
      rintro e w13 ⟨r23, G13, rfl, hres11, hpost11⟩
      refine ⟨_, rfl, ?_⟩
      have hS14 := hS13.call hres11
      have hle13 := hres11.le
      subst hpost11
      refine WL.pickT rfl rfl <| WL.assign rfl <| WL.nil ?_
      refine WC.ret ?_
      exact ⟨.bool (decide ((durE a s) = (rdurE a s)) && decide ((durL a s) = (rdurL a s))), rfl, .bool (decide ((durE a s) = (rdurE a s)) && decide ((durL a s) = (rdurL a s))), _, rfl, hS14.res, (congrArg Value.bool (by (have hq9 := sets_eq (a := a) (b := b) (s := s); simp [hq9.1, hq9.2.1, hq9.2.2.1, hq9.2.2.2.1, hq9.2.2.2.2.1, hq9.2.2.2.2.2] at *)))⟩
    refine WL.pickT rfl rfl <| WL.move rfl <| WL.no rfl rfl <| WL.no rfl rfl <| WL.no rfl rfl <| WL.no rfl rfl <| WL.no rfl rfl <| WL.pickF rfl rfl <| WL.assign rfl <| WL.nil ?_
    refine WC.ret ?_
    exact ⟨.bool false, rfl, .bool false, _, rfl, hS13.res, (congrArg Value.bool (by (have hq9 := sets_eq (a := a) (b := b) (s := s); simp [hq9.1, hq9.2.1, hq9.2.2.1, hq9.2.2.2.1, hq9.2.2.2.2.1, hq9.2.2.2.2.2] at *)))⟩
  refine WL.move rfl <| WL.no rfl rfl <| WL.no rfl rfl <| WL.no rfl rfl <| WL.no rfl rfl <| WL.no rfl rfl <| WL.pickF rfl rfl <| WL.move rfl <| WL.no rfl rfl <| WL.no rfl rfl <| WL.no rfl rfl <| WL.no rfl rfl <| WL.no rfl rfl <| WL.pickF rfl rfl <| WL.assign rfl <| WL.nil ?_
  refine WC.ret ?_
  exact ⟨.bool false, rfl, .bool false, _, rfl, hS12.res, (congrArg Value.bool (by (have hq9 := sets_eq (a := a) (b := b) (s := s); simp [hq9.1, hq9.2.1, hq9.2.2.1, hq9.2.2.2.1, hq9.2.2.2.2.1, hq9.2.2.2.2.2] at *)))⟩
end Go.Civ
