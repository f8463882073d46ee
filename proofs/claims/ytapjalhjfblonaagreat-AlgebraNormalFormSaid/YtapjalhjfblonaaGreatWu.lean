/- Walks, printed by specs38.py. -/
import Derived.Test.YtapjalhjfblonaaGreatProg
import Derived.KernelRfl
import Derived.WalkKit
import Derived.Test.YtapjalhjfblonaaGreatWq1
import Derived.Test.YtapjalhjfblonaaGreatWp1
import Derived.Test.YtapjalhjfblonaaGreatWk
import Derived.Test.YtapjalhjfblonaaGreatWj
import Derived.Test.YtapjalhjfblonaaGreatCiv29
set_option linter.unusedVariables false
set_option linter.unusedSimpArgs false
set_option maxRecDepth 100000
set_option maxHeartbeats 4000000
namespace Go.Civ
open Go.Proofs


theorem c_RevF (G : GH) (w : World) (hG : G.In w) (l : List Fact) (vd : Value) (od : OB) (hvd : Row FactE 40 (nat_lit 63) G vd l od) (hod : Lent w G od)  : Calls Tryz.prog (nat_lit 34) #[vd] w fun e w' => ∃ r G', e = .returned r ∧ Res (blk od) w G w' G' ∧ r = .tuple #[] ∧ ∃ (l' : List Fact) (o' : OB), Row FactE 40 (nat_lit 63) G' vd l' o' ∧ Lent w' G' o' ∧ l' = l.reverse := by
  refine calls_of_WC (N := 28) Tryz.func34 rfl rfl rfl ?_
  have bdl := hvd.bound
  have hS := St.lentO hG hod
  refine WC.seq <| WC.region rfl <| WL.move rfl ?_
  have bd1 := hvd.bound
  refine WL.lenRow hvd ul22 rfl rfl ?_
  have hi1 : I64 ((l.length : Int) - 1) := by have hreach : reach = 140737488355328 := rfl;  constructor <;> omega
  refine WL.ar .sub rfl (l.length : Int) 1 rfl rfl rfl hi1 ?_
  refine WL.assign rfl <| WL.assign rfl <| WL.nil <| WC.block ?_
  refine WC.loop (γ := Nat) (fun m ρ1 w1 => ∃ (i : Nat), ∃ (j : Int), ∃ (L : List Fact), ∃ (o1 : OB), ∃ (G1 : GH), m = (l.length - i) ∧ G.le G1 ∧ St w (blk od) G G1 [o1] w1 ∧ Row FactE 40 63 G1 vd L o1 ∧ ρ1 0 = vd ∧ ρ1 2 = .int .i64 (i : Int) ∧ ρ1 3 = .int .i64 j ∧ RevI l L i j) (fun m => m) _ ⟨0, ((l.length : Int) - 1), l, od, G, rfl, (G.le_refl), hS, hvd, rfl, rfl, rfl, (RevI.start)⟩ ?_
  rintro m ρ1 w1 ⟨i, j, L, o1, G1, rfl, hle1, hS1, hr1, e1, e2, e3, f1⟩
  refine WC.set (d := 0) e1 ?_
  refine WC.set (d := 2) e2 ?_
  refine WC.set (d := 3) e3 ?_
  have lenL := RevI.len (by assumption); have hj9 := RevI.jj (by assumption); have hi9 := RevI.le (by assumption)
  have hjb9 : I64 j := ⟨by have hreach : reach = 140737488355328 := rfl; omega, by have hreach : reach = 140737488355328 := rfl; omega⟩
  refine WC.seq <| WC.seq <| WC.region rfl <| WL.move rfl <| WL.move rfl ?_
  refine WL.lssS (i : Int) j rfl rfl rfl (fun h1 => ?_) (fun h1 => ?_)
  · refine WL.nil <| WC.condT rfl <| WC.skip <| WC.seq <| WC.block ?_
    obtain ⟨p1, x1, ec1, hx1, hr2, ra1, ep1⟩ := Row.atP hr1 ((j).toNat) (by omega)
    obtain ⟨v1, rfl, hs1, hb1, hb2⟩ := FactE_open hr2
    obtain ⟨p2, x2, ec2, hx2, hr3, ra2, ep2⟩ := Row.atP hr1 i (by omega)
    obtain ⟨v2, rfl, hs2, hb3, hb4⟩ := FactE_open hr3
    obtain ⟨p3, x3, ec3, hx3, hr4, ra3, ep3⟩ := Row.atP hr1 i (by omega)
    obtain rfl : x2 = x3 := Option.some.inj (hx2.symm.trans hx3)
    obtain ⟨v3, rfl, hs3, hb5, hb6⟩ := FactE_open hr4
    obtain ⟨p4, x4, ec4, hx4, hr5, ra4, ep4⟩ := Row.atP hr1 ((j).toNat) (by omega)
    obtain rfl : x1 = x4 := Option.some.inj (hx1.symm.trans hx4)
    obtain ⟨v4, rfl, hs4, hb7, hb8⟩ := FactE_open hr5
    refine dr ⟨[0, 0, 0, 0, 0, 0, 48, 112, 0, 0, 768, 1792, 4083, 8179, 16383, 32767], [0, 1, 2, 3, 4, 5, 6, 8, 9, 10, 12, 14], [7, 11], [], [13, 15]⟩ [(14, vd), (15, .int .i64 (i : Int)), (16, vd), (17, .int .i64 j), (18, vd), (19, .int .i64 j), (20, .pointer (some p1)), (22, vd), (23, .int .i64 (i : Int)), (24, .pointer (some p2)), (26, .pointer (some p3)), (27, .pointer (some p4)), (21, .agg #[v1, .int .i64 x1.t.a, .int .i64 x1.t.b]), (25, .agg #[v2, .int .i64 x2.t.a, .int .i64 x2.t.b])] [o1] hS1 ?_ ?_ trivial (fun w8 hS2 => ?_)
    · exact ⟨fun _ _ => WL.move rfl <| WL.nu rfl, fun _ _ => WL.move rfl <| WL.nu rfl, fun _ _ => WL.move rfl <| WL.nu rfl, fun _ _ => WL.move rfl <| WL.nu rfl, fun _ _ => WL.move rfl <| WL.nu rfl, fun _ _ => WL.move rfl <| WL.nu rfl, fun _ _ => WL.indexAddrP ((j).toNat) ep1 ul22 ti63 rfl rfl rfl (congrArg (Value.int .i64) (Int.toNat_of_nonneg (by omega)).symm) <| WL.nu rfl, fun _ _ => WL.move rfl <| WL.nu rfl, fun _ _ => WL.move rfl <| WL.nu rfl, fun _ _ => WL.indexAddrP i ep2 ul22 ti63 rfl rfl rfl rfl <| WL.nu rfl, fun _ _ => WL.indexAddrP i ep3 ul22 ti63 rfl rfl rfl rfl <| WL.nu rfl, fun _ _ => WL.indexAddrP ((j).toNat) ep4 ul22 ti63 rfl rfl rfl (congrArg (Value.int .i64) (Int.toNat_of_nonneg (by omega)).symm) <| WL.nu rfl, trivial⟩
    · exact ⟨fun _ hSw => WL.loadRA ra1 hSw 0 rfl ti63 rfl rfl rfl rfl <| WL.nu rfl, fun _ hSw => WL.loadRA ra2 hSw 0 rfl ti63 rfl rfl rfl rfl <| WL.nu rfl, trivial⟩
    refine TL.step rfl ?_
    refine WL.storeR0 hr1 ra3 hS2 0 rfl (by omega) rfl 0 _ [v1, .int .i64 x1.t.a, .int .i64 x1.t.b] x1 [v1, .int .i64 x1.t.a, .int .i64 x1.t.b] rfl ti63 rfl (Nat.le_of_ble_eq_true rfl) (by simp only [List.all_cons, List.all_nil, hs1.oneC, Bool.true_and] <;> rfl) rfl (FactE_mk x1 hs1 hb1 hb2) rfl rfl rfl rfl (fun o2 w3 hr6 hS3 => ?_)
    refine WL.nil ⟨fun h => absurd h (by decide), ?_⟩
    refine TL.step rfl ?_
    obtain ⟨p5, x5, ec5, hx5, hr7, ra5, ep5⟩ := Row.atP hr6 ((j).toNat) (by simp only [List.length_set]; omega)
    obtain rfl : p4 = p5 := ElPtr.inj ep4 ep5
    obtain ⟨v5, rfl, hs5, hb9, hb10⟩ := FactE_open hr7
    refine WL.storeR0 hr6 ra5 hS3 0 rfl (by (simp only [List.length_set]; omega)) rfl 0 _ [v2, .int .i64 x2.t.a, .int .i64 x2.t.b] x2 [v2, .int .i64 x2.t.a, .int .i64 x2.t.b] rfl ti63 rfl (Nat.le_of_ble_eq_true rfl) (by simp only [List.all_cons, List.all_nil, hs2.oneC, Bool.true_and] <;> rfl) rfl (FactE_mk x2 hs2 hb3 hb4) rfl rfl rfl rfl (fun o3 w4 hr8 hS4 => ?_)
    refine WL.nil ⟨fun h => absurd h (by decide), ?_⟩
    refine WC.region rfl <| WL.move rfl ?_
    refine WL.incr i (by have hreach : reach = 140737488355328 := rfl; omega) rfl rfl rfl ?_
    refine WL.move rfl ?_
    have hi2 : I64 (j - 1) := by have hreach : reach = 140737488355328 := rfl; have := hjb9.1; have := hjb9.2; constructor <;> omega
    refine WL.ar .sub rfl j 1 rfl rfl rfl hi2 ?_
    refine WL.assign rfl <| WL.assign rfl <| WL.nil ?_
    exact ⟨_, ⟨i + 1, (j - 1), ((L.set i x1).set ((j).toNat) x2), o3, G1, rfl, hle1, hS4, hr8, rfl, rfl, rfl, (RevI.step (by assumption) (by omega) (by assumption) (by assumption))⟩, (show (l.length - (i + 1)) < (l.length - i) by omega)⟩
  refine WL.nil <| WC.condF rfl <| WC.exit ?_
  exact ⟨.tuple #[], rfl, .tuple #[], _, rfl, hS1.res, rfl, L, _, hr1, hS1.lentAt 0 rfl, (by exact RevI.done (by assumption) (by omega))⟩

theorem c_AlgebraNormalForm (G : GH) (w : World) (hG : G.In w) (a b : List Fact) (s c : Int) (va : Value) (hva : Sl FactE 40 G va a) (vb : Value) (hvb : Sl FactE 40 G vb b) (hc0 : I64 c) : Calls Tryz.prog (nat_lit 7) #[va, vb, .int .i64 s, .int .i64 c] w fun e w' => ∃ r G', e = .returned r ∧ Res [] w G w' G' ∧ r = .bool true := by
  refine calls_of_WC (N := 198) Tryz.func7 rfl rfl rfl ?_
  have hS := St.start (X := []) hG
  refine WC.seq <| WC.region rfl <| WL.assign rfl <| WL.nil <| WC.seq <| WC.seq <| WC.region rfl ?_
  refine WL.callF [] #[] hb11 rfl rfl rfl ((c_awake _ _ hS.imm   ).mono ?_)
  rintro e w1 ⟨r1, G1, rfl, hres1, hpost1⟩
  refine ⟨_, rfl, ?_⟩
  have hS1 := hS.call hres1
  have hle1 := hres1.le
  subst hpost1
  refine WL.not true rfl rfl ?_
  refine WL.nil <| WC.condF rfl <| WC.skip <| WC.seq <| WC.seq <| WC.region rfl <| WL.move rfl <| WL.move rfl ?_
  refine WL.buildSlice _ [(0, [va]), (1, [vb])] [va, vb] hS1 sl89 rfl rfl rfl (by show [(0, (va : Value).cells.toList), (1, (vb : Value).cells.toList)] = _; simp only [(hva.mono hle1).cells1, (hvb.mono hle1).cells1] <;> rfl) (fun z hz => by match z, hz with | [z0, z1], _ => rfl) (fun b1 w2 hn1 hS2 => ?_)
  obtain ⟨G2, hle2, hs1, hS3⟩ := St.sealSl (E := (FactE.slice 40)) (by_ := 24) (l := ([a, b] : List (List Fact))) hS2 hn1 ⟨[va], _, rfl, ⟨_, rfl, (hva.mono hle1)⟩, ⟨[vb], _, rfl, ⟨_, rfl, (hvb.mono hle1)⟩, rfl⟩⟩ rfl (by simp [reach]) (by simp [reach])
  refine WL.callF [.slice (some ⟨b1, 0, none⟩) 2 2] #[] hb12 rfl rfl rfl ((c_great _ _ hS3.imm [a, b] _ hs1 ).mono ?_)
  rintro e w3 ⟨r2, G3, rfl, hres2, hpost2⟩
  refine ⟨_, rfl, ?_⟩
  have hS4 := hS3.call hres2
  have hle3 := hres2.le
  subst hpost2
  refine WL.split (fun (h1 : ([a, b].any greatB) = true) => ?_) (fun (h1 : ([a, b].any greatB) = false) => ?_)
  · refine WL.nil <| WC.condT rfl <| WC.seq <| WC.region rfl <| WL.assign rfl <| WL.nil ?_
    refine WC.ret ?_
    exact ⟨.bool true, rfl, .bool true, _, rfl, hS4.res, (congrArg Value.bool (by rfl))⟩
  refine WL.nil <| WC.condF rfl <| WC.skip <| WC.seq ?_
  have h20 := great_le2 (by assumption)
  have hal := h20.1
  have hbl := h20.2
  refine WC.region rfl <| WL.move rfl ?_
  refine WL.callF [va] #[] hb32 rfl rfl rfl ((c_Normal _ _ hS4.imm a _ (hva.mono ((hle1.trans hle2).trans hle3)) ).mono ?_)
  rintro e w4 ⟨r3, G4, rfl, hres3, hpost3⟩
  refine ⟨_, rfl, ?_⟩
  have hS5 := hS4.call hres3
  have hle4 := hres3.le
  obtain ⟨r4, r5, rfl, hs2, rfl⟩ := hpost3
  refine WL.move rfl ?_
  refine WL.extract _ _ rfl rfl rfl ?_
  refine WL.extract _ _ rfl rfl rfl ?_
  refine WL.assign rfl <| WL.assign rfl <| WL.nil <| WC.seq <| WC.seq <| WC.region rfl <| WL.move rfl ?_
  refine WL.neqS (normE a) 0 rfl rfl rfl (fun h2 => ?_) (fun h2 => ?_)
  · refine WL.nil <| WC.condT rfl <| WC.seq <| WC.region rfl <| WL.move rfl ?_
    refine WL.callF [va] #[] hb33 rfl rfl rfl ((c_rfValid _ _ hS5.imm a _ (hva.mono (((hle1.trans hle2).trans hle3).trans hle4)) ).mono ?_)
    rintro e w5 ⟨r6, G5, rfl, hres4, hpost4⟩
    refine ⟨_, rfl, ?_⟩
    have hS6 := hS5.call hres4
    have hle5 := hres4.le
    subst hpost4
    refine WL.not (rvalidB a) rfl rfl ?_
    refine WL.assign rfl <| WL.nil ?_
    refine WC.ret ?_
    exact ⟨.bool (!(rvalidB a)), rfl, .bool (!(rvalidB a)), _, rfl, hS6.res, (congrArg Value.bool (by exact nform_1 (by assumption) hal))⟩
  refine WL.nil <| WC.condF rfl <| WC.skip <| WC.seq ?_
  have hvA : validB a = true := nform_v (by assumption)
  have hnn := norm_norm hvA
  have hen := exc_norm (b := b) hvA
  refine WC.region rfl <| WL.move rfl ?_
  refine WL.callF [r4] #[] hb32 rfl rfl rfl ((c_Normal _ _ hS5.imm (normL a) _ hs2 ).mono ?_)
  rintro e w6 ⟨r7, G6, rfl, hres5, hpost5⟩
  refine ⟨_, rfl, ?_⟩
  have hS7 := hS5.call hres5
  have hle6 := hres5.le
  obtain ⟨r8, r9, rfl, hs3, rfl⟩ := hpost5
  refine WL.move rfl ?_
  refine WL.extract _ _ rfl rfl rfl ?_
  refine WL.extract _ _ rfl rfl rfl ?_
  refine WL.assign rfl <| WL.assign rfl <| WL.nil <| WC.seq <| WC.seq <| WC.region rfl <| WL.move rfl ?_
  refine WL.neqS (normE (normL a)) 0 rfl rfl rfl (fun h3 => ?_) (fun h3 => ?_)
  · refine WL.move rfl <| WL.no rfl rfl <| WL.no rfl rfl <| WL.no rfl rfl <| WL.no rfl rfl <| WL.pickT rfl rfl <| WL.nil <| WC.condT rfl <| WC.seq <| WC.region rfl <| WL.assign rfl <| WL.nil ?_
    refine WC.ret ?_
    exact ⟨.bool false, rfl, .bool false, _, rfl, hS7.res, (congrArg Value.bool (by exact absurd hnn.2 (by assumption)))⟩
  refine WL.move rfl <| WL.move rfl <| WL.move rfl ?_
  refine WL.callF [r4, r8] #[] hb30 rfl rfl rfl ((c_rSame _ _ hS7.imm (normL a) (normL (normL a)) _ (hs2.mono hle6) _ hs3 ).mono ?_)
  rintro e w7 ⟨r10, G7, rfl, hres6, hpost6⟩
  refine ⟨_, rfl, ?_⟩
  have hS8 := hS7.call hres6
  have hle7 := hres6.le
  subst hpost6
  refine WL.split (fun (h4 : (decide ((normL a) = (normL (normL a)))) = true) => ?_) (fun (h4 : (decide ((normL a) = (normL (normL a)))) = false) => ?_)
  · refine WL.not true rfl rfl ?_
    refine WL.pickF rfl rfl <| WL.nil <| WC.condF rfl <| WC.skip <| WC.seq <| WC.region rfl <| WL.assign rfl <| WL.nil <| WC.seq <| WC.seq <| WC.region rfl <| WL.move rfl ?_
    have bd1 := hva.bound
    refine WL.lenSl (hva.mono (((((hle1.trans hle2).trans hle3).trans hle4).trans hle6).trans hle7)) ul22 rfl rfl ?_
    refine WL.move rfl <| WL.nil <| WC.block ?_
    have hS10 := hS8.pad
    refine WC.loop (γ := Nat) (fun m ρ1 w1 => ∃ (k1 : Nat), ∃ (v1 : Value) (o1 : OB), ∃ (G8 : GH), m = a.length - k1 ∧ G7.le G8 ∧ St w [] G G8 [o1] w1 ∧ Row FactE 40 63 G8 v1 (cutL c (a.take k1)) o1 ∧ ρ1 0 = va ∧ ρ1 1 = vb ∧ ρ1 2 = .int .i64 s ∧ ρ1 3 = .int .i64 c ∧ ρ1 9 = r4 ∧ ρ1 13 = v1 ∧ ρ1 57 = va ∧ ρ1 58 = .int .i64 (a.length : Int) ∧ ρ1 59 = .int .i64 (k1 : Int) ∧ k1 ≤ a.length) (fun m => m) _ ⟨0, (.slice none 0 0), none, G7, rfl, (G7.le_refl), hS10, (Row.cast (Row.nil FactE 40 63 G7) (by simp [cutL])), rfl, rfl, rfl, rfl, rfl, rfl, rfl, rfl, rfl, (by omega)⟩ ?_
    rintro m ρ1 w8 ⟨k1, v1, o1, G8, rfl, hle8, hS9, hr1, e1, e2, e3, e4, e5, e6, e7, e8, e9, f1⟩
    refine WC.set (d := 0) e1 ?_
    refine WC.set (d := 1) e2 ?_
    refine WC.set (d := 2) e3 ?_
    refine WC.set (d := 3) e4 ?_
    refine WC.set (d := 9) e5 ?_
    refine WC.set (d := 13) e6 ?_
    refine WC.set (d := 57) e7 ?_
    refine WC.set (d := 58) e8 ?_
    refine WC.set (d := 59) e9 ?_
    have hcl := cutL_takeLen c a k1
    refine WC.seq <| WC.region rfl ?_
    refine WL.lssS (k1 : Int) (a.length : Int) rfl rfl rfl (fun h5 => ?_) (fun h5 => ?_)
    · refine WL.nil <| WC.seq <| WC.condT rfl <| WC.skip <| WC.seq <| WC.block <| WC.seq <| WC.region rfl ?_
      refine WL.indexAddr (hva.mono ((((((hle1.trans hle2).trans hle3).trans hle4).trans hle6).trans hle7).trans hle8)) k1 (by omega) ul22 ti63 rfl rfl rfl rfl (fun p1 x1 hx1 he1 => ?_)
      obtain ⟨cs1, hc1, hr2⟩ := he1
      obtain ⟨v2, rfl, hs4, hb1, hb2⟩ := FactE_open hr2
      refine WL.loadGAt hS9 hc1 [v2, .int .i64 x1.t.a, .int .i64 x1.t.b] ti63 rfl rfl rfl rfl rfl ?_
      refine WL.alloc hS9 ti63 rfl rfl (fun b2 w9 hn2 hS11 => ?_)
      refine WL.store hS11 0 _ _ _ 0 _ [v2, .int .i64 x1.t.a, .int .i64 x1.t.b] [v2, .int .i64 x1.t.a, .int .i64 x1.t.b] _ rfl rfl ti63 rfl (Nat.le_of_ble_eq_true rfl) (by simp only [List.all_cons, List.all_nil, hs4.oneC, Bool.true_and] <;> rfl) rfl rfl rfl rfl rfl (fun w10 hS12 => ?_)
      obtain ⟨G9, hle9, hc2, hS13⟩ := hS12.shutB hn2
      refine WL.nil <| WC.seq <| WC.region rfl ?_
      refine WL.fieldAddr _ 1 _ fl63 rfl rfl rfl ?_
      refine WL.fieldAddr _ 0 _ fl46 rfl rfl rfl ?_
      refine WL.loadG1 hS13 (Cells.drop 0 (Cells.drop 1 hc2)) ti3 rfl rfl rfl ?_
      refine WL.move rfl ?_
      refine WL.lssS x1.t.a c rfl rfl rfl (fun h6 => ?_) (fun h6 => ?_)
      · refine WL.move rfl <| WL.move rfl ?_
        refine WL.fieldAddr _ 1 _ fl63 rfl rfl rfl ?_
        refine WL.fieldAddr _ 1 _ fl46 rfl rfl rfl ?_
        refine WL.loadG1 hS13 (Cells.drop 1 (Cells.drop 1 hc2)) ti3 rfl rfl rfl ?_
        refine WL.lssS c x1.t.b rfl rfl rfl (fun h7 => ?_) (fun h7 => ?_)
        · refine WL.pickT rfl rfl <| WL.nil <| WC.condT rfl <| WC.region rfl <| WL.move rfl ?_
          refine WL.fieldAddr _ 0 _ fl63 rfl rfl rfl ?_
          refine WL.loadG1 hS13 (Cells.drop 0 hc2) ti61 rfl rfl rfl ?_
          refine WL.fieldAddr _ 1 _ fl63 rfl rfl rfl ?_
          refine WL.fieldAddr _ 0 _ fl46 rfl rfl rfl ?_
          refine WL.loadG1 hS13 (Cells.drop 0 (Cells.drop 1 hc2)) ti3 rfl rfl rfl ?_
          refine WL.move rfl ?_
          refine WL.build _ [(0, [.int .i64 x1.t.a]), (1, [.int .i64 c])] [.int .i64 x1.t.a, .int .i64 c] ti46 rfl fl46 rfl rfl rfl rfl ?_
          refine WL.build _ [(0, [v2]), (1, [.int .i64 x1.t.a, .int .i64 c])] [v2, .int .i64 x1.t.a, .int .i64 c] ti63 rfl fl63 rfl rfl (by show [(0, (v2 : Value).cells.toList), (1, (.agg #[.int .i64 x1.t.a, .int .i64 c] : Value).cells.toList)] = _; simp only [(hs4.mono hle9).cells1] <;> rfl) rfl ?_
          refine WL.fieldAddr _ 0 _ fl63 rfl rfl rfl ?_
          refine WL.loadG1 hS13 (Cells.drop 0 hc2) ti61 rfl rfl rfl ?_
          refine WL.move rfl ?_
          refine WL.fieldAddr _ 1 _ fl63 rfl rfl rfl ?_
          refine WL.fieldAddr _ 1 _ fl46 rfl rfl rfl ?_
          refine WL.loadG1 hS13 (Cells.drop 1 (Cells.drop 1 hc2)) ti3 rfl rfl rfl ?_
          refine WL.build _ [(0, [.int .i64 c]), (1, [.int .i64 x1.t.b])] [.int .i64 c, .int .i64 x1.t.b] ti46 rfl fl46 rfl rfl rfl rfl ?_
          refine WL.build _ [(0, [v2]), (1, [.int .i64 c, .int .i64 x1.t.b])] [v2, .int .i64 c, .int .i64 x1.t.b] ti63 rfl fl63 rfl rfl (by show [(0, (v2 : Value).cells.toList), (1, (.agg #[.int .i64 c, .int .i64 x1.t.b] : Value).cells.toList)] = _; simp only [(hs4.mono hle9).cells1] <;> rfl) rfl ?_
          refine WL.buildSlice _ [(0, [v2, .int .i64 x1.t.a, .int .i64 c]), (1, [v2, .int .i64 c, .int .i64 x1.t.b])] [v2, .int .i64 x1.t.a, .int .i64 c, v2, .int .i64 c, .int .i64 x1.t.b] hS13 sl22 rfl rfl rfl rfl (fun z hz => by match z, hz with | [z0, z1, z2, z3, z4, z5], _ => rfl) (fun b3 w11 hn3 hS14 => ?_)
          refine WL.push (m := ([(Fact.mk x1.v (Span.mk x1.t.a c)), (Fact.mk x1.v (Span.mk c x1.t.b))] : List Fact)) sl22 rfl rfl rfl (hr1.mono hle9) hS14 1 rfl 0 _ _ _ _ _ rfl ⟨[v2, .int .i64 x1.t.a, .int .i64 c], _, rfl, (FactE_mk (Fact.mk x1.v (Span.mk x1.t.a c)) (hs4.mono hle9) hb1 hc0), ⟨[v2, .int .i64 c, .int .i64 x1.t.b], _, rfl, (FactE_mk (Fact.mk x1.v (Span.mk c x1.t.b)) (hs4.mono hle9) hc0 hb2), rfl⟩⟩ rfl (by have hreach : reach = 140737488355328 := rfl; simp only [List.length_append, List.length_cons, List.length_nil]; omega) (by have hreach : reach = 140737488355328 := rfl; simp only [List.length_append, List.length_cons, List.length_nil]; omega) rfl rfl rfl (fun v3 o2 w12 hr3 hS15 => ?_)
          have hS16 := hS15.tail
          refine WL.assign rfl <| WL.nil <| WC.region rfl ?_
          refine WL.incr k1 (by have hreach : reach = 140737488355328 := rfl; omega) rfl rfl rfl ?_
          refine WL.move rfl <| WL.nil ?_
          exact ⟨_, ⟨k1 + 1, v3, o2, G9, rfl, (hle8.trans hle9), hS16, (Row.cast hr3 (by (exact (cutL_yes (by assumption) (by omega) (by omega)).symm))), rfl, rfl, rfl, rfl, rfl, rfl, rfl, rfl, rfl, (by omega)⟩, (show a.length - (k1 + 1) < a.length - k1 by omega)⟩
        refine WL.pickT rfl rfl <| WL.nil <| WC.condF rfl <| WC.region rfl <| WL.move rfl ?_
        refine WL.loadGAt hS13 hc2 [v2, .int .i64 x1.t.a, .int .i64 x1.t.b] ti63 rfl rfl rfl rfl rfl ?_
        refine WL.buildSlice _ [(0, [v2, .int .i64 x1.t.a, .int .i64 x1.t.b])] [v2, .int .i64 x1.t.a, .int .i64 x1.t.b] hS13 sl22 rfl rfl rfl rfl (fun z hz => by match z, hz with | [z0, z1, z2], _ => rfl) (fun b4 w13 hn4 hS17 => ?_)
        refine WL.push (m := ([x1] : List Fact)) sl22 rfl rfl rfl (hr1.mono hle9) hS17 1 rfl 0 _ _ _ _ _ rfl ⟨[v2, .int .i64 x1.t.a, .int .i64 x1.t.b], _, rfl, (FactE_mk x1 (hs4.mono hle9) hb1 hb2), rfl⟩ rfl (by have hreach : reach = 140737488355328 := rfl; simp only [List.length_append, List.length_cons, List.length_nil]; omega) (by have hreach : reach = 140737488355328 := rfl; simp only [List.length_append, List.length_cons, List.length_nil]; omega) rfl rfl rfl (fun v4 o3 w14 hr4 hS18 => ?_)
        have hS19 := hS18.tail
        refine WL.assign rfl <| WL.nil <| WC.region rfl ?_
        refine WL.incr k1 (by have hreach : reach = 140737488355328 := rfl; omega) rfl rfl rfl ?_
        refine WL.move rfl <| WL.nil ?_
        exact ⟨_, ⟨k1 + 1, v4, o3, G9, rfl, (hle8.trans hle9), hS19, (Row.cast hr4 (by (exact (cutL_no (by assumption) (by omega)).symm))), rfl, rfl, rfl, rfl, rfl, rfl, rfl, rfl, rfl, (by omega)⟩, (show a.length - (k1 + 1) < a.length - k1 by omega)⟩
      refine WL.move rfl <| WL.no rfl rfl <| WL.no rfl rfl <| WL.no rfl rfl <| WL.no rfl rfl <| WL.no rfl rfl <| WL.pickF rfl rfl <| WL.nil <| WC.condF rfl <| WC.region rfl <| WL.move rfl ?_
      refine WL.loadGAt hS13 hc2 [v2, .int .i64 x1.t.a, .int .i64 x1.t.b] ti63 rfl rfl rfl rfl rfl ?_
      refine WL.buildSlice _ [(0, [v2, .int .i64 x1.t.a, .int .i64 x1.t.b])] [v2, .int .i64 x1.t.a, .int .i64 x1.t.b] hS13 sl22 rfl rfl rfl rfl (fun z hz => by match z, hz with | [z0, z1, z2], _ => rfl) (fun b5 w15 hn5 hS20 => ?_)
      refine WL.push (m := ([x1] : List Fact)) sl22 rfl rfl rfl (hr1.mono hle9) hS20 1 rfl 0 _ _ _ _ _ rfl ⟨[v2, .int .i64 x1.t.a, .int .i64 x1.t.b], _, rfl, (FactE_mk x1 (hs4.mono hle9) hb1 hb2), rfl⟩ rfl (by have hreach : reach = 140737488355328 := rfl; simp only [List.length_append, List.length_cons, List.length_nil]; omega) (by have hreach : reach = 140737488355328 := rfl; simp only [List.length_append, List.length_cons, List.length_nil]; omega) rfl rfl rfl (fun v5 o4 w16 hr5 hS21 => ?_)
      have hS22 := hS21.tail
      refine WL.assign rfl <| WL.nil <| WC.region rfl ?_
      refine WL.incr k1 (by have hreach : reach = 140737488355328 := rfl; omega) rfl rfl rfl ?_
      refine WL.move rfl <| WL.nil ?_
      exact ⟨_, ⟨k1 + 1, v5, o4, G9, rfl, (hle8.trans hle9), hS22, (Row.cast hr5 (by (exact (cutL_no (by assumption) (by omega)).symm))), rfl, rfl, rfl, rfl, rfl, rfl, rfl, rfl, rfl, (by omega)⟩, (show a.length - (k1 + 1) < a.length - k1 by omega)⟩
    refine WL.nil <| WC.seq <| WC.condF rfl <| WC.exit <| WC.seq <| WC.region rfl <| WL.move rfl ?_
    refine WL.callF [v1] #[] hb34 rfl rfl rfl ((c_RevF _ _ hS9.imm (cutL c (a.take k1)) _ _ hr1 (hS9.lentAt 0 rfl) ).mono ?_)
    rintro e w17 ⟨r11, G10, rfl, hres7, hpost7⟩
    refine ⟨_, rfl, ?_⟩
    have hle10 := hres7.le
    obtain ⟨rfl, l1, o5, hr6, hf1, hq1⟩ := hpost7
    have hS24 := hS9.callRow 0 rfl hres7 hr1 hr6 hf1
    refine WL.nil <| WC.seq ?_
    have hl9 : l1 = (cutL c a).reverse := by rw [← cutL_all (c := c) (l := a) (k := k1) (by omega)]; assumption
    have hcn := cut_norm (c := c) hvA hal
    have hcr := cut_rel (c := c) (b := b) (s := s) hvA hal
    rw [← hl9] at hcn hcr
    refine WC.region rfl <| WL.move rfl ?_
    obtain ⟨G11, hle11, hs5, hS25⟩ := Row.freeze hr6 hS24 0 rfl
    refine WL.callF [v1] #[] hb32 rfl rfl rfl ((c_Normal _ _ hS25.imm l1 _ hs5 ).mono ?_)
    rintro e w18 ⟨r12, G12, rfl, hres8, hpost8⟩
    refine ⟨_, rfl, ?_⟩
    have hS26 := hS25.call hres8
    have hle12 := hres8.le
    obtain ⟨r13, r14, rfl, hs6, rfl⟩ := hpost8
    refine WL.move rfl ?_
    refine WL.extract _ _ rfl rfl rfl ?_
    refine WL.extract _ _ rfl rfl rfl ?_
    refine WL.assign rfl <| WL.assign rfl <| WL.nil <| WC.seq <| WC.seq <| WC.region rfl <| WL.move rfl ?_
    refine WL.neqS (normE l1) 0 rfl rfl rfl (fun h8 => ?_) (fun h8 => ?_)
    · refine WL.move rfl <| WL.no rfl rfl <| WL.no rfl rfl <| WL.no rfl rfl <| WL.no rfl rfl <| WL.pickT rfl rfl <| WL.nil <| WC.condT rfl <| WC.seq <| WC.region rfl <| WL.assign rfl <| WL.nil ?_
      refine WC.ret ?_
      exact ⟨.bool false, rfl, .bool false, _, rfl, hS26.res, (congrArg Value.bool (by exact absurd hcn.2 (by assumption)))⟩
    refine WL.move rfl <| WL.move rfl <| WL.move rfl ?_
    refine WL.callF [r4, r13] #[] hb30 rfl rfl rfl ((c_rSame _ _ hS26.imm (normL a) (normL l1) _ (hs2.mono (((((hle6.trans hle7).trans hle8).trans hle10).trans hle11).trans hle12)) _ hs6 ).mono ?_)
    rintro e w19 ⟨r15, G13, rfl, hres9, hpost9⟩
    refine ⟨_, rfl, ?_⟩
    have hS27 := hS26.call hres9
    have hle13 := hres9.le
    subst hpost9
    refine WL.split (fun (h9 : (decide ((normL a) = (normL l1))) = true) => ?_) (fun (h9 : (decide ((normL a) = (normL l1))) = false) => ?_)
    · refine WL.not true rfl rfl ?_
      refine WL.pickF rfl rfl <| WL.nil <| WC.condF rfl <| WC.skip <| WC.seq <| WC.seq <| WC.region rfl <| WL.assign rfl <| WL.nil <| WC.block ?_
      refine WC.loop (γ := Nat) (fun m ρ1 w1 => ∃ (k2 : Nat), ∃ (G14 : GH), m = ((normL a).length + 1) - k2 ∧ G13.le G14 ∧ St w [] G G14 [none] w1 ∧ ρ1 0 = va ∧ ρ1 1 = vb ∧ ρ1 2 = .int .i64 s ∧ ρ1 9 = r4 ∧ ρ1 13 = v1 ∧ ρ1 18 = .int .i64 (k2 : Int) ∧ k2 ≤ ((normL a).length + 1) ∧ 1 ≤ k2) (fun m => m) _ ⟨1, G13, rfl, (G13.le_refl), hS27, rfl, rfl, rfl, rfl, rfl, rfl, (by omega), (by omega)⟩ ?_
      rintro m ρ1 w20 ⟨k2, G14, rfl, hle14, hS28, e10, e11, e12, e13, e14, e15, f2, f3⟩
      refine WC.set (d := 0) e10 ?_
      refine WC.set (d := 1) e11 ?_
      refine WC.set (d := 2) e12 ?_
      refine WC.set (d := 9) e13 ?_
      refine WC.set (d := 13) e14 ?_
      refine WC.set (d := 18) e15 ?_
      refine WC.seq <| WC.seq <| WC.region rfl <| WL.move rfl <| WL.move rfl ?_
      have bd2 := hs2.bound
      refine WL.lenSl (hs2.mono (((((((hle6.trans hle7).trans hle8).trans hle10).trans hle11).trans hle12).trans hle13).trans hle14)) ul22 rfl rfl ?_
      refine WL.lssS (k2 : Int) (((normL a).length : Nat) : Int) rfl rfl rfl (fun h10 => ?_) (fun h10 => ?_)
      · refine WL.nil <| WC.condT rfl <| WC.skip <| WC.seq <| WC.block <| WC.seq ?_
        obtain ⟨p2, x2, hx2, he2, ep1⟩ := Sl.at (hs2.mono (((((((hle6.trans hle7).trans hle8).trans hle10).trans hle11).trans hle12).trans hle13).trans hle14)) (k2 - 1) (by omega)
        obtain ⟨cs2, hc3, hr7⟩ := he2
        obtain ⟨v6, rfl, hs7, hb3, hb4⟩ := FactE_open hr7
        obtain ⟨p3, x3, hx3, he3, ep2⟩ := Sl.at (hs2.mono (((((((hle6.trans hle7).trans hle8).trans hle10).trans hle11).trans hle12).trans hle13).trans hle14)) k2 (by omega)
        obtain ⟨cs3, hc4, hr8⟩ := he3
        obtain ⟨v7, rfl, hs8, hb5, hb6⟩ := FactE_open hr8
        refine dr ⟨[0, 0, 2, 7, 15, 31, 0, 0, 192, 448, 960, 2047, 4095], [0, 1, 2, 3, 4, 6, 7, 8, 9], [5, 10], [11], [12]⟩ [(120, r4), (121, .int .i64 (k2 : Int)), (122, .int .i64 ((k2 - 1 : Nat) : Int)), (123, .pointer (some p2)), (124, .pointer (some (p2.add 0))), (126, r4), (127, .int .i64 (k2 : Int)), (128, .pointer (some p3)), (129, .pointer (some (p3.add 0))), (125, v6), (130, v7), (131, .int .i64 (ordV x2.v x3.v))] [none] hS28 ?_ ?_ ?_ (fun w8 hS29 => ?_)
        · exact ⟨fun _ _ => WL.move rfl <| WL.nu rfl, fun _ _ => WL.move rfl <| WL.nu rfl, fun _ _ => WL.decr k2 (by omega) (by have hreach : reach = 140737488355328 := rfl; omega) rfl rfl rfl <| WL.nu rfl, fun _ _ => WL.indexAddrP (k2 - 1) ep1 ul22 ti63 rfl rfl rfl rfl <| WL.nu rfl, fun _ _ => WL.fieldAddr _ 0 _ fl63 rfl rfl rfl <| WL.nu rfl, fun _ _ => WL.move rfl <| WL.nu rfl, fun _ _ => WL.move rfl <| WL.nu rfl, fun _ _ => WL.indexAddrP k2 ep2 ul22 ti63 rfl rfl rfl rfl <| WL.nu rfl, fun _ _ => WL.fieldAddr _ 0 _ fl63 rfl rfl rfl <| WL.nu rfl, trivial⟩
        · exact ⟨fun _ hSw => WL.loadG1 hSw (Cells.drop 0 hc3) ti61 rfl rfl rfl <| WL.nu rfl, fun _ hSw => WL.loadG1 hSw (Cells.drop 0 hc4) ti61 rfl rfl rfl <| WL.nu rfl, trivial⟩
        · exact ⟨fun _ hSw => WL.callD [v6, v7] #[] hb35 rfl rfl rfl hSw (c_Order _ _ hSw.imm x2.v x3.v _ hs7 _ hs8 ) rfl, trivial⟩
        refine TL.step rfl ?_
        refine WL.assign rfl ?_
        refine WL.nil ⟨fun h => absurd h (by decide), ?_⟩
        refine WC.seq ?_
        rcases Cmp.dec .gtr (ordV x2.v x3.v) 0 with ⟨hb7, q1⟩ | ⟨hb7, q1⟩
        · have h11 : 0 < (ordV x2.v x3.v) := q1
          clear q1
          refine dr ⟨[0, 1, 3, 7, 15, 31, 63, 63, 191, 511, 1023, 2047, 4095, 63, 63, 24639, 57407, 122943, 254015, 524287, 1048575, 2097151], [0, 1, 2, 3, 4, 5, 6, 7, 8, 9, 10, 11, 13, 14, 15, 16, 17, 19, 20, 21], [12, 18], [], []⟩ [(132, .int .i64 (ordV x2.v x3.v)), (133, .bool true), (134, .bool true), (135, undef), (136, undef), (137, undef), (138, undef), (139, undef), (140, undef), (141, undef), (142, undef), (143, undef), (145, undef), (146, undef), (147, undef), (148, undef), (149, undef), (151, undef), (152, undef), (153, .bool true), (144, undef), (150, undef)] [none] hS29 ?_ ?_ trivial (fun w8 hS30 => ?_)
          · exact ⟨fun _ _ => WL.move rfl <| WL.nu rfl, fun _ _ => WL.cmpV .gtr rfl .i64 (ordV x2.v x3.v) 0 _ hb7 rfl rfl rfl <| WL.nu rfl, fun _ _ => WL.move rfl <| WL.nu rfl, fun _ _ => WL.no rfl rfl <| WL.nu rfl, fun _ _ => WL.no rfl rfl <| WL.nu rfl, fun _ _ => WL.no rfl rfl <| WL.nu rfl, fun _ _ => WL.no rfl rfl <| WL.nu rfl, fun _ _ => WL.no rfl rfl <| WL.nu rfl, fun _ _ => WL.no rfl rfl <| WL.nu rfl, fun _ _ => WL.no rfl rfl <| WL.nu rfl, fun _ _ => WL.no rfl rfl <| WL.nu rfl, fun _ _ => WL.no rfl rfl <| WL.nu rfl, fun _ _ => WL.no rfl rfl <| WL.nu rfl, fun _ _ => WL.no rfl rfl <| WL.nu rfl, fun _ _ => WL.no rfl rfl <| WL.nu rfl, fun _ _ => WL.no rfl rfl <| WL.nu rfl, fun _ _ => WL.no rfl rfl <| WL.nu rfl, fun _ _ => WL.no rfl rfl <| WL.nu rfl, fun _ _ => WL.no rfl rfl <| WL.nu rfl, fun _ _ => WL.pickT rfl rfl <| WL.nu rfl, trivial⟩
          · exact ⟨fun _ _ => WL.no rfl rfl <| WL.nu rfl, fun _ _ => WL.no rfl rfl <| WL.nu rfl, trivial⟩
          refine WC.condT rfl <| WC.seq <| WC.region rfl <| WL.assign rfl <| WL.nil ?_
          refine WC.ret ?_
          exact ⟨.bool false, rfl, .bool false, _, rfl, hS30.res, (congrArg Value.bool (by exact (nform_o1 hvA (by assumption) (by assumption) (by omega) (by assumption)).elim))⟩
        have h11 : (ordV x2.v x3.v) ≤ 0 := q1
        clear q1
        rcases Cmp.dec .eql (ordV x2.v x3.v) 0 with ⟨hb8, q2⟩ | ⟨hb8, q2⟩
        · have h12 : (ordV x2.v x3.v) = 0 := q2
          clear q2
          obtain ⟨p4, x4, hx4, he4, ep3⟩ := Sl.at (hs2.mono (((((((hle6.trans hle7).trans hle8).trans hle10).trans hle11).trans hle12).trans hle13).trans hle14)) (k2 - 1) (by omega)
          obtain rfl : x2 = x4 := Option.some.inj (hx2.symm.trans hx4)
          obtain ⟨cs4, hc5, hr9⟩ := he4
          obtain ⟨v8, rfl, hs9, hb9, hb10⟩ := FactE_open hr9
          obtain ⟨p5, x5, hx5, he5, ep4⟩ := Sl.at (hs2.mono (((((((hle6.trans hle7).trans hle8).trans hle10).trans hle11).trans hle12).trans hle13).trans hle14)) k2 (by omega)
          obtain rfl : x3 = x5 := Option.some.inj (hx3.symm.trans hx5)
          obtain ⟨cs5, hc6, hr10⟩ := he5
          obtain ⟨v9, rfl, hs10, hb11, hb12⟩ := FactE_open hr10
          rcases Cmp.dec .geq x2.t.b x3.t.a with ⟨hb13, q3⟩ | ⟨hb13, q3⟩
          · have h13 : x3.t.a ≤ x2.t.b := q3
            clear q3
            refine dr ⟨[0, 1, 3, 7, 15, 31, 63, 63, 191, 511, 1023, 2047, 4095, 63, 63, 24639, 57407, 122943, 254015, 524287, 1048575, 2097151], [0, 1, 2, 3, 4, 5, 6, 7, 8, 9, 10, 11, 13, 14, 15, 16, 17, 19, 20, 21], [12, 18], [], []⟩ [(132, .int .i64 (ordV x2.v x3.v)), (133, .bool false), (134, .bool false), (135, .int .i64 (ordV x2.v x3.v)), (136, .bool true), (137, .bool true), (138, r4), (139, .int .i64 (k2 : Int)), (140, .int .i64 ((k2 - 1 : Nat) : Int)), (141, .pointer (some p4)), (142, .pointer (some (p4.add 1))), (143, .pointer (some ((p4.add 1).add 1))), (145, r4), (146, .int .i64 (k2 : Int)), (147, .pointer (some p5)), (148, .pointer (some (p5.add 1))), (149, .pointer (some ((p5.add 1).add 0))), (151, .bool true), (152, .bool true), (153, .bool true), (144, .int .i64 x2.t.b), (150, .int .i64 x3.t.a)] [none] hS29 ?_ ?_ trivial (fun w8 hS31 => ?_)
            · exact ⟨fun _ _ => WL.move rfl <| WL.nu rfl, fun _ _ => WL.cmpV .gtr rfl .i64 (ordV x2.v x3.v) 0 _ hb7 rfl rfl rfl <| WL.nu rfl, fun _ _ => WL.move rfl <| WL.nu rfl, fun _ _ => WL.move rfl <| WL.nu rfl, fun _ _ => WL.cmpV .eql rfl .i64 (ordV x2.v x3.v) 0 _ hb8 rfl rfl rfl <| WL.nu rfl, fun _ _ => WL.move rfl <| WL.nu rfl, fun _ _ => WL.move rfl <| WL.nu rfl, fun _ _ => WL.move rfl <| WL.nu rfl, fun _ _ => WL.decr k2 (by omega) (by have hreach : reach = 140737488355328 := rfl; omega) rfl rfl rfl <| WL.nu rfl, fun _ _ => WL.indexAddrP (k2 - 1) ep3 ul22 ti63 rfl rfl rfl rfl <| WL.nu rfl, fun _ _ => WL.fieldAddr _ 1 _ fl63 rfl rfl rfl <| WL.nu rfl, fun _ _ => WL.fieldAddr _ 1 _ fl46 rfl rfl rfl <| WL.nu rfl, fun _ _ => WL.move rfl <| WL.nu rfl, fun _ _ => WL.move rfl <| WL.nu rfl, fun _ _ => WL.indexAddrP k2 ep4 ul22 ti63 rfl rfl rfl rfl <| WL.nu rfl, fun _ _ => WL.fieldAddr _ 1 _ fl63 rfl rfl rfl <| WL.nu rfl, fun _ _ => WL.fieldAddr _ 0 _ fl46 rfl rfl rfl <| WL.nu rfl, fun _ _ => WL.cmpV .geq rfl .i64 x2.t.b x3.t.a _ hb13 rfl rfl rfl <| WL.nu rfl, fun _ _ => WL.pickT rfl rfl <| WL.nu rfl, fun _ _ => WL.pickF rfl rfl <| WL.nu rfl, trivial⟩
            · exact ⟨fun _ hSw => WL.loadG1 hSw (Cells.drop 1 (Cells.drop 1 hc5)) ti3 rfl rfl rfl <| WL.nu rfl, fun _ hSw => WL.loadG1 hSw (Cells.drop 0 (Cells.drop 1 hc6)) ti3 rfl rfl rfl <| WL.nu rfl, trivial⟩
            refine WC.condT rfl <| WC.seq <| WC.region rfl <| WL.assign rfl <| WL.nil ?_
            refine WC.ret ?_
            exact ⟨.bool false, rfl, .bool false, _, rfl, hS31.res, (congrArg Value.bool (by exact (nform_o2 hvA (by assumption) (by assumption) (by omega) (by assumption) (by assumption)).elim))⟩
          have h13 : x2.t.b < x3.t.a := q3
          clear q3
          refine dr ⟨[0, 1, 3, 7, 15, 31, 63, 63, 191, 511, 1023, 2047, 4095, 63, 63, 24639, 57407, 122943, 254015, 524287, 1048575, 2097151], [0, 1, 2, 3, 4, 5, 6, 7, 8, 9, 10, 11, 13, 14, 15, 16, 17, 19, 20, 21], [12, 18], [], []⟩ [(132, .int .i64 (ordV x2.v x3.v)), (133, .bool false), (134, .bool false), (135, .int .i64 (ordV x2.v x3.v)), (136, .bool true), (137, .bool true), (138, r4), (139, .int .i64 (k2 : Int)), (140, .int .i64 ((k2 - 1 : Nat) : Int)), (141, .pointer (some p4)), (142, .pointer (some (p4.add 1))), (143, .pointer (some ((p4.add 1).add 1))), (145, r4), (146, .int .i64 (k2 : Int)), (147, .pointer (some p5)), (148, .pointer (some (p5.add 1))), (149, .pointer (some ((p5.add 1).add 0))), (151, .bool false), (152, .bool false), (153, .bool false), (144, .int .i64 x2.t.b), (150, .int .i64 x3.t.a)] [none] hS29 ?_ ?_ trivial (fun w8 hS32 => ?_)
          · exact ⟨fun _ _ => WL.move rfl <| WL.nu rfl, fun _ _ => WL.cmpV .gtr rfl .i64 (ordV x2.v x3.v) 0 _ hb7 rfl rfl rfl <| WL.nu rfl, fun _ _ => WL.move rfl <| WL.nu rfl, fun _ _ => WL.move rfl <| WL.nu rfl, fun _ _ => WL.cmpV .eql rfl .i64 (ordV x2.v x3.v) 0 _ hb8 rfl rfl rfl <| WL.nu rfl, fun _ _ => WL.move rfl <| WL.nu rfl, fun _ _ => WL.move rfl <| WL.nu rfl, fun _ _ => WL.move rfl <| WL.nu rfl, fun _ _ => WL.decr k2 (by omega) (by have hreach : reach = 140737488355328 := rfl; omega) rfl rfl rfl <| WL.nu rfl, fun _ _ => WL.indexAddrP (k2 - 1) ep3 ul22 ti63 rfl rfl rfl rfl <| WL.nu rfl, fun _ _ => WL.fieldAddr _ 1 _ fl63 rfl rfl rfl <| WL.nu rfl, fun _ _ => WL.fieldAddr _ 1 _ fl46 rfl rfl rfl <| WL.nu rfl, fun _ _ => WL.move rfl <| WL.nu rfl, fun _ _ => WL.move rfl <| WL.nu rfl, fun _ _ => WL.indexAddrP k2 ep4 ul22 ti63 rfl rfl rfl rfl <| WL.nu rfl, fun _ _ => WL.fieldAddr _ 1 _ fl63 rfl rfl rfl <| WL.nu rfl, fun _ _ => WL.fieldAddr _ 0 _ fl46 rfl rfl rfl <| WL.nu rfl, fun _ _ => WL.cmpV .geq rfl .i64 x2.t.b x3.t.a _ hb13 rfl rfl rfl <| WL.nu rfl, fun _ _ => WL.pickT rfl rfl <| WL.nu rfl, fun _ _ => WL.pickF rfl rfl <| WL.nu rfl, trivial⟩
          · exact ⟨fun _ hSw => WL.loadG1 hSw (Cells.drop 1 (Cells.drop 1 hc5)) ti3 rfl rfl rfl <| WL.nu rfl, fun _ hSw => WL.loadG1 hSw (Cells.drop 0 (Cells.drop 1 hc6)) ti3 rfl rfl rfl <| WL.nu rfl, trivial⟩
          refine WC.condF rfl <| WC.skip <| WC.region rfl <| WL.move rfl ?_
          refine WL.incr k2 (by have hreach : reach = 140737488355328 := rfl; omega) rfl rfl rfl ?_
          refine WL.assign rfl <| WL.nil ?_
          exact ⟨_, ⟨k2 + 1, G14, rfl, hle14, hS32, rfl, rfl, rfl, rfl, rfl, rfl, (by omega), (by omega)⟩, (show ((normL a).length + 1) - (k2 + 1) < ((normL a).length + 1) - k2 by omega)⟩
        have h12 : (ordV x2.v x3.v) ≠ 0 := q2
        clear q2
        refine dr ⟨[0, 1, 3, 7, 15, 31, 63, 63, 191, 511, 1023, 2047, 4095, 63, 63, 24639, 57407, 122943, 254015, 524287, 1048575, 2097151], [0, 1, 2, 3, 4, 5, 6, 7, 8, 9, 10, 11, 13, 14, 15, 16, 17, 19, 20, 21], [12, 18], [], []⟩ [(132, .int .i64 (ordV x2.v x3.v)), (133, .bool false), (134, .bool false), (135, .int .i64 (ordV x2.v x3.v)), (136, .bool false), (137, .bool false), (138, undef), (139, undef), (140, undef), (141, undef), (142, undef), (143, undef), (145, undef), (146, undef), (147, undef), (148, undef), (149, undef), (151, undef), (152, .bool false), (153, .bool false), (144, undef), (150, undef)] [none] hS29 ?_ ?_ trivial (fun w8 hS33 => ?_)
        · exact ⟨fun _ _ => WL.move rfl <| WL.nu rfl, fun _ _ => WL.cmpV .gtr rfl .i64 (ordV x2.v x3.v) 0 _ hb7 rfl rfl rfl <| WL.nu rfl, fun _ _ => WL.move rfl <| WL.nu rfl, fun _ _ => WL.move rfl <| WL.nu rfl, fun _ _ => WL.cmpV .eql rfl .i64 (ordV x2.v x3.v) 0 _ hb8 rfl rfl rfl <| WL.nu rfl, fun _ _ => WL.move rfl <| WL.nu rfl, fun _ _ => WL.no rfl rfl <| WL.nu rfl, fun _ _ => WL.no rfl rfl <| WL.nu rfl, fun _ _ => WL.no rfl rfl <| WL.nu rfl, fun _ _ => WL.no rfl rfl <| WL.nu rfl, fun _ _ => WL.no rfl rfl <| WL.nu rfl, fun _ _ => WL.no rfl rfl <| WL.nu rfl, fun _ _ => WL.no rfl rfl <| WL.nu rfl, fun _ _ => WL.no rfl rfl <| WL.nu rfl, fun _ _ => WL.no rfl rfl <| WL.nu rfl, fun _ _ => WL.no rfl rfl <| WL.nu rfl, fun _ _ => WL.no rfl rfl <| WL.nu rfl, fun _ _ => WL.no rfl rfl <| WL.nu rfl, fun _ _ => WL.pickF rfl rfl <| WL.nu rfl, fun _ _ => WL.pickF rfl rfl <| WL.nu rfl, trivial⟩
        · exact ⟨fun _ _ => WL.no rfl rfl <| WL.nu rfl, fun _ _ => WL.no rfl rfl <| WL.nu rfl, trivial⟩
        refine WC.condF rfl <| WC.skip <| WC.region rfl <| WL.move rfl ?_
        refine WL.incr k2 (by have hreach : reach = 140737488355328 := rfl; omega) rfl rfl rfl ?_
        refine WL.assign rfl <| WL.nil ?_
        exact ⟨_, ⟨k2 + 1, G14, rfl, hle14, hS33, rfl, rfl, rfl, rfl, rfl, rfl, (by omega), (by omega)⟩, (show ((normL a).length + 1) - (k2 + 1) < ((normL a).length + 1) - k2 by omega)⟩
      refine WL.nil <| WC.condF rfl <| WC.exit <| WC.seq <| WC.region rfl <| WL.move rfl <| WL.move rfl <| WL.move rfl ?_
      refine WL.callF [va, vb, .int .i64 s] #[] hb13 rfl rfl rfl ((c_Relate _ _ hS28.imm a b s _ (hva.mono (((((((((((hle1.trans hle2).trans hle3).trans hle4).trans hle6).trans hle7).trans hle8).trans hle10).trans hle11).trans hle12).trans hle13).trans hle14)) _ (hvb.mono (((((((((((hle1.trans hle2).trans hle3).trans hle4).trans hle6).trans hle7).trans hle8).trans hle10).trans hle11).trans hle12).trans hle13).trans hle14)) ).mono ?_)
      rintro e w26 ⟨r16, G15, rfl, hres10, hpost10⟩
      refine ⟨_, rfl, ?_⟩
      have hS34 := hS28.call hres10
      have hle15 := hres10.le
      obtain ⟨r17, r18, rfl, hs11, rfl⟩ := hpost10
      refine WL.move rfl ?_
      refine WL.extract _ _ rfl rfl rfl ?_
      refine WL.extract _ _ rfl rfl rfl ?_
      refine WL.assign rfl <| WL.assign rfl <| WL.nil <| WC.seq <| WC.region rfl <| WL.move rfl <| WL.move rfl <| WL.move rfl ?_
      refine WL.callF [v1, vb, .int .i64 s] #[] hb13 rfl rfl rfl ((c_Relate _ _ hS34.imm l1 b s _ (hs5.mono (((hle12.trans hle13).trans hle14).trans hle15)) _ (hvb.mono ((((((((((((hle1.trans hle2).trans hle3).trans hle4).trans hle6).trans hle7).trans hle8).trans hle10).trans hle11).trans hle12).trans hle13).trans hle14).trans hle15)) ).mono ?_)
      rintro e w27 ⟨r19, G16, rfl, hres11, hpost11⟩
      refine ⟨_, rfl, ?_⟩
      have hS35 := hS34.call hres11
      have hle16 := hres11.le
      obtain ⟨r20, r21, rfl, hs12, rfl⟩ := hpost11
      refine WL.move rfl ?_
      refine WL.extract _ _ rfl rfl rfl ?_
      refine WL.extract _ _ rfl rfl rfl ?_
      refine WL.assign rfl <| WL.assign rfl <| WL.nil <| WC.seq <| WC.region rfl <| WL.move rfl <| WL.move rfl ?_
      refine WL.callF [r4, vb] #[] hb23 rfl rfl rfl ((c_Except _ _ hS35.imm (normL a) b _ (hs2.mono (((((((((hle6.trans hle7).trans hle8).trans hle10).trans hle11).trans hle12).trans hle13).trans hle14).trans hle15).trans hle16)) _ (hvb.mono (((((((((((((hle1.trans hle2).trans hle3).trans hle4).trans hle6).trans hle7).trans hle8).trans hle10).trans hle11).trans hle12).trans hle13).trans hle14).trans hle15).trans hle16)) ).mono ?_)
      rintro e w28 ⟨r22, G17, rfl, hres12, hpost12⟩
      refine ⟨_, rfl, ?_⟩
      have hS36 := hS35.call hres12
      have hle17 := hres12.le
      obtain ⟨r23, r24, rfl, hs13, rfl⟩ := hpost12
      refine WL.move rfl ?_
      refine WL.extract _ _ rfl rfl rfl ?_
      refine WL.extract _ _ rfl rfl rfl ?_
      refine WL.assign rfl <| WL.assign rfl <| WL.nil <| WC.seq <| WC.region rfl <| WL.move rfl <| WL.move rfl ?_
      refine WL.callF [va, vb] #[] hb23 rfl rfl rfl ((c_Except _ _ hS36.imm a b _ (hva.mono ((((((((((((((hle1.trans hle2).trans hle3).trans hle4).trans hle6).trans hle7).trans hle8).trans hle10).trans hle11).trans hle12).trans hle13).trans hle14).trans hle15).trans hle16).trans hle17)) _ (hvb.mono ((((((((((((((hle1.trans hle2).trans hle3).trans hle4).trans hle6).trans hle7).trans hle8).trans hle10).trans hle11).trans hle12).trans hle13).trans hle14).trans hle15).trans hle16).trans hle17)) ).mono ?_)
      rintro e w29 ⟨r25, G18, rfl, hres13, hpost13⟩
      refine ⟨_, rfl, ?_⟩
      have hS37 := hS36.call hres13
      have hle18 := hres13.le
      obtain ⟨r26, r27, rfl, hs14, rfl⟩ := hpost13
      refine WL.move rfl ?_
      refine WL.extract _ _ rfl rfl rfl ?_
      refine WL.extract _ _ rfl rfl rfl ?_
      refine WL.assign rfl <| WL.assign rfl <| WL.nil <| WC.seq <| WC.region rfl <| WL.move rfl <| WL.move rfl ?_
      refine WL.eqlS (relE a b s) (relE l1 b s) rfl rfl rfl (fun h14 => ?_) (fun h14 => ?_)
      · refine WL.move rfl <| WL.move rfl <| WL.move rfl ?_
        refine WL.callF [r17, r20] #[] hb30 rfl rfl rfl ((c_rSame _ _ hS37.imm (relL a b s) (relL l1 b s) _ (hs11.mono ((hle16.trans hle17).trans hle18)) _ (hs12.mono (hle17.trans hle18)) ).mono ?_)
        rintro e w30 ⟨r28, G19, rfl, hres14, hpost14⟩
        refine ⟨_, rfl, ?_⟩
        have hS38 := hS37.call hres14
        have hle19 := hres14.le
        subst hpost14
        refine WL.split (fun (h15 : (decide ((relL a b s) = (relL l1 b s))) = true) => ?_) (fun (h15 : (decide ((relL a b s) = (relL l1 b s))) = false) => ?_)
        · refine WL.pickT rfl rfl <| WL.move rfl <| WL.move rfl <| WL.move rfl ?_
          refine WL.eqlS (excE (normL a) b) (excE a b) rfl rfl rfl (fun h16 => ?_) (fun h16 => ?_)
          · refine WL.pickT rfl rfl <| WL.move rfl <| WL.move rfl <| WL.move rfl ?_
            refine WL.callF [r23, r26] #[] hb30 rfl rfl rfl ((c_rSame _ _ hS38.imm (excL (normL a) b) (excL a b) _ (hs13.mono (hle18.trans hle19)) _ (hs14.mono hle19) ).mono ?_)
            rintro e w31 ⟨r29, G20, rfl, hres15, hpost15⟩
            refine ⟨_, rfl, ?_⟩
            have hS39 := hS38.call hres15
            have hle20 := hres15.le
            subst hpost15
            refine WL.pickT rfl rfl <| WL.assign rfl <| WL.nil ?_
            refine WC.ret ?_
            exact ⟨.bool (decide ((excL (normL a) b) = (excL a b))), rfl, .bool (decide ((excL (normL a) b) = (excL a b))), _, rfl, hS39.res, (congrArg Value.bool (by exact decide_eq_true hen.1))⟩
          refine WL.pickT rfl rfl <| WL.move rfl <| WL.no rfl rfl <| WL.no rfl rfl <| WL.no rfl rfl <| WL.pickF rfl rfl <| WL.assign rfl <| WL.nil ?_
          refine WC.ret ?_
          exact ⟨.bool false, rfl, .bool false, _, rfl, hS38.res, (congrArg Value.bool (by exact absurd hen.2 (by assumption)))⟩
        refine WL.pickT rfl rfl <| WL.move rfl <| WL.no rfl rfl <| WL.no rfl rfl <| WL.no rfl rfl <| WL.pickF rfl rfl <| WL.move rfl <| WL.no rfl rfl <| WL.no rfl rfl <| WL.no rfl rfl <| WL.pickF rfl rfl <| WL.assign rfl <| WL.nil ?_
        refine WC.ret ?_
        exact ⟨.bool false, rfl, .bool false, _, rfl, hS38.res, (congrArg Value.bool (by exact absurd hcr.1.symm (of_decide_eq_false (by assumption))))⟩
      refine WL.move rfl <| WL.no rfl rfl <| WL.no rfl rfl <| WL.no rfl rfl <| WL.pickF rfl rfl <| WL.move rfl <| WL.no rfl rfl <| WL.no rfl rfl <| WL.no rfl rfl <| WL.pickF rfl rfl <| WL.move rfl <| WL.no rfl rfl <| WL.no rfl rfl <| WL.no rfl rfl <| WL.pickF rfl rfl <| WL.assign rfl <| WL.nil ?_
      refine WC.ret ?_
      exact ⟨.bool false, rfl, .bool false, _, rfl, hS37.res, (congrArg Value.bool (by exact absurd hcr.2.symm (by assumption)))⟩
    refine WL.not false rfl rfl ?_
    refine WL.pickF rfl rfl <| WL.nil <| WC.condT rfl <| WC.seq <| WC.region rfl <| WL.assign rfl <| WL.nil ?_
    refine WC.ret ?_
    exact ⟨.bool false, rfl, .bool false, _, rfl, hS27.res, (congrArg Value.bool (by exact absurd hcn.1.symm (of_decide_eq_false (by assumption))))⟩
  refine WL.not false rfl rfl ?_
  refine WL.pickF rfl rfl <| WL.nil <| WC.condT rfl <| WC.seq <| WC.region rfl <| WL.assign rfl <| WL.nil ?_
  refine WC.ret ?_
  exact ⟨.bool false, rfl, .bool false, _, rfl, hS8.res, (congrArg Value.bool (by exact absurd hnn.1.symm (of_decide_eq_false (by assumption))))⟩
end Go.Civ
