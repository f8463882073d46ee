/- Walks, printed by specs38.py. -/
import Derived.Test.YtapjalhjfblonaaGreatProg
import Derived.KernelRfl
import Derived.WalkKit
import Derived.Test.YtapjalhjfblonaaGreatWq1
import Derived.Test.YtapjalhjfblonaaGreatWo
import Derived.Test.YtapjalhjfblonaaGreatWj
set_option linter.unusedVariables false
set_option linter.unusedSimpArgs false
set_option maxRecDepth 100000
set_option maxHeartbeats 4000000
namespace Go.Civ
open Go.Proofs


theorem c_Union (G : GH) (w : World) (hG : G.In w) (a b : List Fact) (va : Value) (hva : Sl FactE 40 G va a) (vb : Value) (hvb : Sl FactE 40 G vb b)  : Calls Tryz.prog (nat_lit 21) #[va, vb] w fun e w' => ∃ r G', e = .returned r ∧ Res [] w G w' G' ∧ ∃ r0 r1, r = .tuple #[r0, r1] ∧ Sl FactE 40 G' r0 (unionL a b) ∧ r1 = .int .i64 (unionE a b) := by
  refine calls_of_WC (N := 20) Tryz.func21 rfl rfl rfl ?_
  have hS := St.start (X := []) hG
  refine WC.seq <| WC.region rfl <| WL.assign rfl <| WL.assign rfl <| WL.nil <| WC.seq <| WC.seq <| WC.region rfl <| WL.move rfl <| WL.move rfl ?_
  refine WL.callF [va, vb] #[] hb73 rfl rfl rfl ((c_pair _ _ hS.imm a b _ hva _ hvb ).mono ?_)
  rintro e w1 ⟨r1, G1, rfl, hres1, hpost1⟩
  refine ⟨_, rfl, ?_⟩
  have hS1 := hS.call hres1
  have hle1 := hres1.le
  subst hpost1
  refine WL.assign rfl <| WL.nil <| WC.seq <| WC.region rfl <| WL.move rfl ?_
  refine WL.neqS (pairE a b) 0 rfl rfl rfl (fun h1 => ?_) (fun h1 => ?_)
  · refine WL.nil <| WC.condT rfl <| WC.seq <| WC.region rfl <| WL.move rfl <| WL.assign rfl <| WL.assign rfl <| WL.nil ?_
    refine WC.ret ?_
    exact ⟨.tuple #[.slice none 0 0, .int .i64 (pairE a b)], rfl, .tuple #[.slice none 0 0, .int .i64 (pairE a b)], _, rfl, hS1.res, (.slice none 0 0), (.int .i64 (pairE a b)), rfl, (Sl.cast (Sl.nil FactE 40 G1) (by exact (union_no (by assumption)).1.symm)), (congrArg (Value.int .i64) (by exact (union_no (by assumption)).2.symm))⟩
  refine WL.nil <| WC.condF rfl <| WC.skip <| WC.seq ?_
  have hv9 := pairE_valid (by assumption : pairE a b = 0)
  have hgl9 := grp_len hv9.1
  have hgk9 := grp_len hv9.2
  have hal9 := valid_le hv9.1
  have hbl9 := valid_le hv9.2
  refine WC.region rfl <| WL.move rfl <| WL.move rfl ?_
  refine WL.buildSlice _ [(0, [va]), (1, [vb])] [va, vb] hS1 sl89 rfl rfl rfl (by show [(0, (va : Value).cells.toList), (1, (vb : Value).cells.toList)] = _; simp only [(hva.mono hle1).cells1, (hvb.mono hle1).cells1] <;> rfl) (fun z hz => by match z, hz with | [z0, z1], _ => rfl) (fun b1 w2 hn1 hS2 => ?_)
  obtain ⟨G2, hle2, hs1, hS3⟩ := St.sealSl (E := (FactE.slice 40)) (by_ := 24) (l := ([a, b] : List (List Fact))) hS2 hn1 ⟨[va], _, rfl, ⟨_, rfl, (hva.mono hle1)⟩, ⟨[vb], _, rfl, ⟨_, rfl, (hvb.mono hle1)⟩, rfl⟩⟩ rfl (by simp [reach]) (by simp [reach])
  refine WL.callF [.slice (some ⟨b1, 0, none⟩) 2 2] #[] hb74 rfl rfl rfl ((c_ConcatF _ _ hS3.imm [a, b] _ hs1 (by simp only [List.flatten_cons, List.flatten_nil, List.length_append, List.length_nil]; omega)).mono ?_)
  rintro e w3 ⟨r2, G3, rfl, hres2, hpost2⟩
  refine ⟨_, rfl, ?_⟩
  have hS4 := hS3.call hres2
  have hle3 := hres2.le
  refine WL.callF [r2] #[] hb61 rfl rfl rfl ((c_finished _ _ hS4.imm ([a, b].flatten) _ hpost2 (by simpa using good_append (good_of_valid hv9.1) (good_of_valid hv9.2)) (by simp only [List.flatten_cons, List.flatten_nil, List.length_append, List.length_nil]; omega)).mono ?_)
  rintro e w4 ⟨r3, G4, rfl, hres3, hpost3⟩
  refine ⟨_, rfl, ?_⟩
  have hS5 := hS4.call hres3
  have hle4 := hres3.le
  obtain ⟨r4, r5, rfl, hs2, rfl⟩ := hpost3
  refine WL.extract _ _ rfl rfl rfl ?_
  refine WL.extract _ _ rfl rfl rfl ?_
  refine WL.assign rfl <| WL.assign rfl <| WL.nil ?_
  refine WC.ret ?_
  exact ⟨.tuple #[r4, .int .i64 (finE ([a, b].flatten))], rfl, .tuple #[r4, .int .i64 (finE ([a, b].flatten))], _, rfl, hS5.res, r4, (.int .i64 (finE ([a, b].flatten))), rfl, (Sl.cast hs2 (by exact (union_yes (by assumption)).1.symm)), (congrArg (Value.int .i64) (by exact (union_yes (by assumption)).2.symm))⟩

theorem c_During (G : GH) (w : World) (hG : G.In w) (l : List Fact) (s : Span) (vl : Value) (hvl : Sl FactE 40 G vl l) (cs : List Value) (hcs : SpanE.rep G s cs)  : Calls Tryz.prog (nat_lit 24) #[vl, .agg cs.toArray] w fun e w' => ∃ r G', e = .returned r ∧ Res [] w G w' G' ∧ ∃ r0 r1, r = .tuple #[r0, r1] ∧ Sl FactE 40 G' r0 (durL l s) ∧ r1 = .int .i64 (durE l s) := by
  refine calls_of_WC (N := 45) Tryz.func24 rfl rfl rfl ?_
  have hS := St.start (X := []) hG
  obtain ⟨rfl, hb1, hb2⟩ := SpanE_open hcs
  refine WC.seq <| WC.region rfl ?_
  refine WL.boxG [.int .i64 s.a, .int .i64 s.b] _ hS rfl rfl rfl (fun p1 w1 G1 hle1 hsp1 hc1 hS1 => ?_)
  refine WL.assign rfl <| WL.assign rfl <| WL.nil <| WC.seq <| WC.seq <| WC.region rfl <| WL.move rfl ?_
  refine WL.callF [vl] #[] hb57 rfl rfl rfl ((c_valid _ _ hS1.imm l _ (hvl.mono hle1) ).mono ?_)
  rintro e w2 ⟨r1, G2, rfl, hres1, hpost1⟩
  refine ⟨_, rfl, ?_⟩
  have hS2 := hS1.call hres1
  have hle2 := hres1.le
  subst hpost1
  refine WL.split (fun (h1 : (validB l) = true) => ?_) (fun (h1 : (validB l) = false) => ?_)
  · refine WL.not true rfl rfl ?_
    refine WL.move rfl ?_
    refine WL.loadGAt hS2 (hc1.mono hle2) [.int .i64 s.a, .int .i64 s.b] ti46 rfl rfl rfl rfl rfl ?_
    refine WL.callF [.agg #[.int .i64 s.a, .int .i64 s.b]] #[] hb84 rfl rfl rfl ((c_span _ _ hS2.imm s _ (SpanE_mk s hb1 hb2) ).mono ?_)
    rintro e w3 ⟨r2, G3, rfl, hres2, hpost2⟩
    refine ⟨_, rfl, ?_⟩
    have hS3 := hS2.call hres2
    have hle3 := hres2.le
    subst hpost2
    refine WL.split (fun (h2 : (spanB s) = true) => ?_) (fun (h2 : (spanB s) = false) => ?_)
    · refine WL.not true rfl rfl ?_
      refine WL.pickF rfl rfl <| WL.nil <| WC.condF rfl <| WC.skip <| WC.seq ?_
      have hll9 := valid_le h1
      refine WC.region rfl <| WL.assign rfl <| WL.nil <| WC.seq <| WC.seq <| WC.region rfl <| WL.move rfl ?_
      have bd1 := hvl.bound
      refine WL.lenSl (hvl.mono ((hle1.trans hle2).trans hle3)) ul22 rfl rfl ?_
      refine WL.move rfl <| WL.nil <| WC.block ?_
      have hS5 := hS3.pad
      refine WC.loop (γ := Nat) (fun m ρ1 w1 => ∃ (k1 : Nat), ∃ (v1 : Value) (o1 : OB), ∃ (G4 : GH), m = l.length - k1 ∧ G3.le G4 ∧ St w [] G G4 [o1] w1 ∧ Row FactE 40 63 G4 v1 (duringF (l.take k1) s) o1 ∧ ρ1 3 = .pointer (some p1) ∧ ρ1 6 = v1 ∧ ρ1 19 = vl ∧ ρ1 20 = .int .i64 (l.length : Int) ∧ ρ1 21 = .int .i64 (k1 : Int) ∧ k1 ≤ l.length) (fun m => m) _ ⟨0, (.slice none 0 0), none, G3, rfl, (G3.le_refl), hS5, (Row.cast (Row.nil FactE 40 63 G3) (by simp [duringF])), rfl, rfl, rfl, rfl, rfl, (by omega)⟩ ?_
      rintro m ρ1 w4 ⟨k1, v1, o1, G4, rfl, hle4, hS4, hr1, e1, e2, e3, e4, e5, f1⟩
      refine WC.set (d := 3) e1 ?_
      refine WC.set (d := 6) e2 ?_
      refine WC.set (d := 19) e3 ?_
      refine WC.set (d := 20) e4 ?_
      refine WC.set (d := 21) e5 ?_
      have hdl := duringF_takeLen l s k1
      refine WC.seq <| WC.region rfl ?_
      refine WL.lssS (k1 : Int) (l.length : Int) rfl rfl rfl (fun h3 => ?_) (fun h3 => ?_)
      · refine WL.nil <| WC.seq <| WC.condT rfl <| WC.skip <| WC.seq <| WC.block <| WC.seq <| WC.region rfl ?_
        refine WL.indexAddr (hvl.mono (((hle1.trans hle2).trans hle3).trans hle4)) k1 (by omega) ul22 ti63 rfl rfl rfl rfl (fun p2 x1 hx1 he1 => ?_)
        obtain ⟨cs1, hc2, hr2⟩ := he1
        obtain ⟨v2, rfl, hs1, hb3, hb4⟩ := FactE_open hr2
        refine WL.loadGAt hS4 hc2 [v2, .int .i64 x1.t.a, .int .i64 x1.t.b] ti63 rfl rfl rfl rfl rfl ?_
        refine WL.alloc hS4 ti63 rfl rfl (fun b1 w5 hn1 hS6 => ?_)
        refine WL.store hS6 0 _ _ _ 0 _ [v2, .int .i64 x1.t.a, .int .i64 x1.t.b] [v2, .int .i64 x1.t.a, .int .i64 x1.t.b] _ rfl rfl ti63 rfl (Nat.le_of_ble_eq_true rfl) (by simp only [List.all_cons, List.all_nil, hs1.oneC, Bool.true_and] <;> rfl) rfl rfl rfl rfl rfl (fun w6 hS7 => ?_)
        obtain ⟨G5, hle5, hc3, hS8⟩ := hS7.shutB hn1
        refine WL.nil <| WC.seq <| WC.region rfl ?_
        refine WL.fieldAddr _ 1 _ fl63 rfl rfl rfl ?_
        refine WL.loadGAt hS8 (Cells.drop 1 hc3) [.int .i64 x1.t.a, .int .i64 x1.t.b] ti46 rfl rfl rfl rfl rfl ?_
        refine WL.loadGAt hS8 (hc1.mono (((hle2.trans hle3).trans hle4).trans hle5)) [.int .i64 s.a, .int .i64 s.b] ti46 rfl rfl rfl rfl rfl ?_
        refine WL.callF [.agg #[.int .i64 x1.t.a, .int .i64 x1.t.b], .agg #[.int .i64 s.a, .int .i64 s.b]] #[] hb85 rfl rfl rfl ((c_Meet _ _ hS8.imm x1.t s _ (SpanE_mk x1.t hb3 hb4) _ (SpanE_mk s hb1 hb2) ).mono ?_)
        rintro e w7 ⟨r3, G6, rfl, hres3, hpost3⟩
        refine ⟨_, rfl, ?_⟩
        have hS9 := hS8.call hres3
        have hle6 := hres3.le
        obtain ⟨r4, r5, rfl, hs2, rfl⟩ := hpost3
        obtain ⟨cs2, rfl, hr3⟩ := hs2
        obtain ⟨rfl, hb5, hb6⟩ := SpanE_open hr3
        refine WL.move rfl ?_
        refine WL.extract _ _ rfl rfl rfl ?_
        refine WL.extract _ _ rfl rfl rfl ?_
        refine WL.alloc hS9 ti46 rfl rfl (fun b2 w8 hn2 hS10 => ?_)
        refine WL.store hS10 0 _ _ _ 0 _ [.int .i64 ((meetS x1.t s).a), .int .i64 ((meetS x1.t s).b)] [.int .i64 ((meetS x1.t s).a), .int .i64 ((meetS x1.t s).b)] _ rfl rfl ti46 rfl (Nat.le_of_ble_eq_true rfl) rfl rfl rfl rfl rfl rfl (fun w9 hS11 => ?_)
        obtain ⟨G7, hle7, hc4, hS12⟩ := hS11.shutB hn2
        refine WL.assign rfl ?_
        refine WL.split (fun (h4 : (meetB x1.t s) = true) => ?_) (fun (h4 : (meetB x1.t s) = false) => ?_)
        · refine WL.nil <| WC.seq <| WC.region rfl <| WL.move rfl <| WL.nil <| WC.condT rfl <| WC.region rfl <| WL.move rfl ?_
          refine WL.fieldAddr _ 0 _ fl63 rfl rfl rfl ?_
          refine WL.loadG1 hS12 (Cells.drop 0 (hc3.mono (hle6.trans hle7))) ti61 rfl rfl rfl ?_
          refine WL.loadGAt hS12 hc4 [.int .i64 ((meetS x1.t s).a), .int .i64 ((meetS x1.t s).b)] ti46 rfl rfl rfl rfl rfl ?_
          refine WL.build _ [(0, [v2]), (1, [.int .i64 ((meetS x1.t s).a), .int .i64 ((meetS x1.t s).b)])] [v2, .int .i64 ((meetS x1.t s).a), .int .i64 ((meetS x1.t s).b)] ti63 rfl fl63 rfl rfl (by show [(0, (v2 : Value).cells.toList), (1, (.agg #[.int .i64 ((meetS x1.t s).a), .int .i64 ((meetS x1.t s).b)] : Value).cells.toList)] = _; simp only [(hs1.mono ((hle5.trans hle6).trans hle7)).cells1] <;> rfl) rfl ?_
          refine WL.buildSlice _ [(0, [v2, .int .i64 ((meetS x1.t s).a), .int .i64 ((meetS x1.t s).b)])] [v2, .int .i64 ((meetS x1.t s).a), .int .i64 ((meetS x1.t s).b)] hS12 sl22 rfl rfl rfl rfl (fun z hz => by match z, hz with | [z0, z1, z2], _ => rfl) (fun b3 w10 hn3 hS13 => ?_)
          refine WL.push (m := ([(Fact.mk x1.v (Span.mk ((meetS x1.t s).a) ((meetS x1.t s).b)))] : List Fact)) sl22 rfl rfl rfl (hr1.mono ((hle5.trans hle6).trans hle7)) hS13 1 rfl 0 _ _ _ _ _ rfl ⟨[v2, .int .i64 ((meetS x1.t s).a), .int .i64 ((meetS x1.t s).b)], _, rfl, (FactE_mk (Fact.mk x1.v (Span.mk ((meetS x1.t s).a) ((meetS x1.t s).b))) (hs1.mono ((hle5.trans hle6).trans hle7)) hb5 hb6), rfl⟩ rfl (by have hreach : reach = 140737488355328 := rfl; simp only [List.length_cons, List.length_nil]; omega) (by have hreach : reach = 140737488355328 := rfl; simp only [List.length_cons, List.length_nil]; omega) rfl rfl rfl (fun v3 o2 w11 hr4 hS14 => ?_)
          have hS15 := hS14.tail
          refine WL.assign rfl <| WL.nil <| WC.region rfl ?_
          refine WL.incr k1 (by have hreach : reach = 140737488355328 := rfl; omega) rfl rfl rfl ?_
          refine WL.move rfl <| WL.nil ?_
          exact ⟨_, ⟨k1 + 1, v3, o2, G7, rfl, (hle4.trans ((hle5.trans hle6).trans hle7)), hS15, (Row.cast hr4 (by (exact (duringF_yes (by assumption) (by assumption)).symm))), rfl, rfl, rfl, rfl, rfl, (by omega)⟩, (show l.length - (k1 + 1) < l.length - k1 by omega)⟩
        refine WL.nil <| WC.seq <| WC.region rfl <| WL.move rfl <| WL.nil <| WC.condF rfl <| WC.skip <| WC.region rfl ?_
        refine WL.incr k1 (by have hreach : reach = 140737488355328 := rfl; omega) rfl rfl rfl ?_
        refine WL.move rfl <| WL.nil ?_
        exact ⟨_, ⟨k1 + 1, v1, o1, G7, rfl, (hle4.trans ((hle5.trans hle6).trans hle7)), hS12, (Row.cast (hr1.mono ((hle5.trans hle6).trans hle7)) (by (exact (duringF_no (by assumption) (by assumption)).symm))), rfl, rfl, rfl, rfl, rfl, (by omega)⟩, (show l.length - (k1 + 1) < l.length - k1 by omega)⟩
      refine WL.nil <| WC.seq <| WC.condF rfl <| WC.exit <| WC.seq <| WC.region rfl <| WL.move rfl ?_
      obtain ⟨G8, hle8, hs3, hS16⟩ := Row.freeze hr1 hS4 0 rfl
      refine WL.callF [v1] #[] hb61 rfl rfl rfl ((c_finished _ _ hS16.imm (duringF (l.take k1) s) _ hs3 (by rw [duringF_all (by omega)]; exact duringF_good (good_of_valid h1)) (by omega)).mono ?_)
      rintro e w12 ⟨r6, G9, rfl, hres4, hpost4⟩
      refine ⟨_, rfl, ?_⟩
      have hS17 := hS16.call hres4
      have hle9 := hres4.le
      obtain ⟨r7, r8, rfl, hs4, rfl⟩ := hpost4
      refine WL.extract _ _ rfl rfl rfl ?_
      refine WL.extract _ _ rfl rfl rfl ?_
      refine WL.assign rfl <| WL.assign rfl <| WL.nil ?_
      refine WC.ret ?_
      exact ⟨.tuple #[r7, .int .i64 (finE (duringF (l.take k1) s))], rfl, .tuple #[r7, .int .i64 (finE (duringF (l.take k1) s))], _, rfl, hS17.res, r7, (.int .i64 (finE (duringF (l.take k1) s))), rfl, (Sl.cast hs4 (by (rw [duringF_all (by omega)]; exact (dur_yes h1 h2).1.1.symm))), (congrArg (Value.int .i64) (by (rw [duringF_all (by omega)]; exact (dur_yes h1 h2).1.2.symm)))⟩
    refine WL.not false rfl rfl ?_
    refine WL.pickF rfl rfl <| WL.nil <| WC.condT rfl <| WC.seq <| WC.region rfl <| WL.assign rfl <| WL.assign rfl <| WL.nil ?_
    refine WC.ret ?_
    exact ⟨.tuple #[.slice none 0 0, .int .i64 1], rfl, .tuple #[.slice none 0 0, .int .i64 1], _, rfl, hS3.res, (.slice none 0 0), (.int .i64 1), rfl, (Sl.cast (Sl.nil FactE 40 G3) (by exact (dur_no (.inr (by assumption))).1.1.symm)), (congrArg (Value.int .i64) (by exact (dur_no (.inr (by assumption))).1.2.symm))⟩
  refine WL.not false rfl rfl ?_
  refine WL.move rfl <| WL.no rfl rfl <| WL.no rfl rfl <| WL.no rfl rfl <| WL.pickT rfl rfl <| WL.nil <| WC.condT rfl <| WC.seq <| WC.region rfl <| WL.assign rfl <| WL.assign rfl <| WL.nil ?_
  refine WC.ret ?_
  exact ⟨.tuple #[.slice none 0 0, .int .i64 1], rfl, .tuple #[.slice none 0 0, .int .i64 1], _, rfl, hS2.res, (.slice none 0 0), (.int .i64 1), rfl, (Sl.cast (Sl.nil FactE 40 G2) (by exact (dur_no (.inl (by assumption))).1.1.symm)), (congrArg (Value.int .i64) (by exact (dur_no (.inl (by assumption))).1.2.symm))⟩
end Go.Civ
