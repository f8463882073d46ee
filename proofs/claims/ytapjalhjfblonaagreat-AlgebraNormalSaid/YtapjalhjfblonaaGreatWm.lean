/- Walks, printed by specs38.py. -/
import Derived.Test.YtapjalhjfblonaaGreatProg
import Derived.KernelRfl
import Derived.WalkKit
import Derived.Test.YtapjalhjfblonaaGreatWl
set_option linter.unusedVariables false
set_option linter.unusedSimpArgs false
set_option maxRecDepth 100000
set_option maxHeartbeats 4000000
namespace Go.Civ
open Go.Proofs
theorem hb31 : HasBody Tryz.prog (nat_lit 31) := hasBody_of Tryz.func31 (by decide) rfl
theorem hb47 : HasBody Tryz.prog (nat_lit 47) := hasBody_of Tryz.func47 (by decide) rfl
theorem hb48 : HasBody Tryz.prog (nat_lit 48) := hasBody_of Tryz.func48 (by decide) rfl
theorem hb49 : HasBody Tryz.prog (nat_lit 49) := hasBody_of Tryz.func49 (by decide) rfl
theorem hb50 : HasBody Tryz.prog (nat_lit 50) := hasBody_of Tryz.func50 (by decide) rfl
theorem hb76 : HasBody Tryz.prog (nat_lit 76) := hasBody_of Tryz.func76 (by decide) rfl
theorem hb78 : HasBody Tryz.prog (nat_lit 78) := hasBody_of Tryz.func78 (by decide) rfl
theorem hb133 : HasBody Tryz.prog (nat_lit 133) := hasBody_of Tryz.func133 (by decide) rfl
theorem hb137 : HasBody Tryz.prog (nat_lit 137) := hasBody_of Tryz.func137 (by decide) rfl

theorem c_values (G : GH) (w : World) (hG : G.In w) (l : List Fact) (vl : Value) (hvl : Sl FactE 40 G vl l) (hl : l.length ≤ 1000000) : Calls Tryz.prog (nat_lit 76) #[vl] w fun e w' => ∃ r G', e = .returned r ∧ Res [] w G w' G' ∧ Sl (ValE.slice 32) 24 G' r (vals l) := by
  refine calls_of_WC (N := 76) Tryz.func76 rfl rfl rfl ?_
  have hS := St.start (X := []) hG
  refine WC.seq ?_
  refine WC.region rfl ?_
  refine WL.assign rfl ?_
  refine WL.nil ?_
  refine WC.seq ?_
  refine WC.region rfl ?_
  refine WL.assign rfl ?_
  refine WL.nil ?_
  refine WC.seq ?_
  refine WC.seq ?_
  refine WC.region rfl ?_
  refine WL.assign rfl ?_
  refine WL.nil ?_
  refine WC.block ?_
  have hS2 := hS.pad
  refine WC.loop (γ := Nat) (fun m ρ1 w1 => ∃ (k1 : Nat), ∃ (v1 : Value) (o1 : OB), ∃ (G1 : GH), m = l.length - k1 ∧ G.le G1 ∧ St w [] G G1 [o1] w1 ∧ Row (ValE.slice 32) 24 61 G1 v1 (vals (l.take k1)) o1 ∧ ρ1 0 = vl ∧ ρ1 3 = v1 ∧ ρ1 4 = .int .i64 ((k1 : Nat) : Int) ∧ k1 ≤ l.length) (fun m => m) _ ⟨0, (.slice none 0 0), none, G, rfl, (G.le_refl), hS2, (Row.nil (ValE.slice 32) 24 61 G), rfl, rfl, rfl, (by omega)⟩ ?_
  rintro m ρ1 w1 ⟨k1, v1, o1, G1, rfl, hle1, hS1, hr1, e1, e2, e3, f1⟩
  refine WC.set (d := 0) e1 ?_
  refine WC.set (d := 3) e2 ?_
  refine WC.set (d := 4) e3 ?_
  have hvl1 := vals_takeLen l k1
  refine WC.seq ?_
  refine WC.seq ?_
  refine WC.region rfl ?_
  refine WL.move rfl ?_
  refine WL.move rfl ?_
  have bd1 := hvl.bound
  refine WL.lenSl (hvl.mono hle1) ul22 rfl rfl ?_
  refine WL.cmpS .lss rfl .i64 ((k1 : Nat) : Int) ((l.length : Nat) : Int) rfl rfl rfl (fun (h1 : ((k1 : Nat) : Int) < ((l.length : Nat) : Int)) => ?_) (fun (h1 : ((l.length : Nat) : Int) ≤ ((k1 : Nat) : Int)) => ?_)
  · refine WL.nil ?_
    refine WC.condT rfl ?_
    refine WC.skip ?_
    refine WC.seq ?_
    refine WC.block ?_
    refine WC.seq ?_
    obtain ⟨xf, hxf⟩ : ∃ f, l[k1]? = some f := ⟨_, List.getElem?_eq_getElem (by omega)⟩
    refine WC.region rfl ?_
    refine WL.assign rfl ?_
    refine WL.nil ?_
    refine WC.seq ?_
    refine WC.block ?_
    refine WC.loop (γ := Nat) (fun m ρ1 w1 => ∃ (k2 : Nat), ∃ (G2 : GH), m = (vals (l.take k1)).length - k2 ∧ G1.le G2 ∧ St w [] G G2 [o1] w1 ∧ ρ1 0 = vl ∧ ρ1 3 = v1 ∧ ρ1 4 = .int .i64 ((k1 : Nat) : Int) ∧ ρ1 5 = .int .i64 ((k2 : Nat) : Int) ∧ k2 ≤ (vals (l.take k1)).length ∧ ∀ j, j < k2 → ∀ u, (vals (l.take k1))[j]? = some u → cmpL cmpV u xf.v < 0) (fun m => m) _ ⟨0, G1, rfl, (G1.le_refl), hS1, rfl, rfl, rfl, rfl, (by omega), (by intro j hj; omega)⟩ ?_
    rintro m ρ1 w2 ⟨k2, G2, rfl, hle2, hS3, e4, e5, e6, e7, f2, f3⟩
    refine WC.set (d := 0) e4 ?_
    refine WC.set (d := 3) e5 ?_
    refine WC.set (d := 4) e6 ?_
    refine WC.set (d := 5) e7 ?_
    refine WC.seq ?_
    refine WC.seq ?_
    have bd2 := hr1.bound
    rcases Cmp.dec .lss ((k2 : Nat) : Int) (((vals (l.take k1)).length : Nat) : Int) with ⟨hb1, q1⟩ | ⟨hb1, q1⟩
    · have h2 : ((k2 : Nat) : Int) < (((vals (l.take k1)).length : Nat) : Int) := q1
      clear q1
      obtain ⟨p1, x1, ec1, hx1, hr2, ra1, ep1⟩ := Row.atP (hr1.mono hle2) k2 (by omega)
      obtain ⟨v2, rfl, hs1⟩ := hr2
      obtain ⟨p2, x2, hx2, he1, ep2⟩ := Sl.at (hvl.mono (hle1.trans hle2)) k1 (by omega)
      obtain rfl : xf = x2 := Option.some.inj (hxf.symm.trans hx2)
      obtain ⟨cs1, hc1, hr3⟩ := he1
      obtain ⟨v3, rfl, hs2, hb2, hb3⟩ := FactE_open hr3
      rcases Cmp.dec .lss (cmpL cmpV x1 xf.v) 0 with ⟨hb4, q2⟩ | ⟨hb4, q2⟩
      · have h3 : (cmpL cmpV x1 xf.v) < 0 := q2
        clear q2
        refine WC.draw ⟨[0, 0, 2, 7, 15, 31, 31, 127, 255, 31, 31, 1567, 3615, 7711, 16383, 32767, 65535], [0, 1, 2, 3, 4, 5, 6, 7, 9, 10, 11, 12, 15, 16], [8, 13], [14], []⟩ (St w [] G G2 [o1]) [(13, .int .i64 ((k2 : Nat) : Int)), (14, v1), (15, .int .i64 (((vals (l.take k1)).length : Nat) : Int)), (16, .bool true), (17, .bool true), (18, v1), (19, .int .i64 ((k2 : Nat) : Int)), (20, .pointer (some p1)), (22, vl), (23, .int .i64 ((k1 : Nat) : Int)), (24, .pointer (some p2)), (25, .pointer (some (p2.add 0))), (28, .bool true), (29, .bool true), (21, v2), (26, v3), (27, .int .i64 (cmpL cmpV x1 xf.v))] mixed (by kernel_rfl) (by kernel_rfl) rfl (hS3.draw _) _ rfl ?_ ?_ ?_ (fun w8 hS8 => ?_)
        · refine ⟨fun wq hSw => ?_, ⟨fun wq hSw => ?_, ⟨fun wq hSw => ?_, ⟨fun wq hSw => ?_, ⟨fun wq hSw => ?_, ⟨fun wq hSw => ?_, ⟨fun wq hSw => ?_, ⟨fun wq hSw => ?_, ⟨fun wq hSw => ?_, ⟨fun wq hSw => ?_, ⟨fun wq hSw => ?_, ⟨fun wq hSw => ?_, ⟨fun wq hSw => ?_, ⟨fun wq hSw => ?_, trivial⟩⟩⟩⟩⟩⟩⟩⟩⟩⟩⟩⟩⟩⟩
          · refine WL.move rfl ?_
            exact WL.nil ⟨upd_self rfl, rfl⟩
          · refine WL.move rfl ?_
            exact WL.nil ⟨upd_self rfl, rfl⟩
          · refine WL.lenRow (hr1.mono hle2) ul67 rfl rfl ?_
            exact WL.nil ⟨upd_self rfl, rfl⟩
          · refine WL.cmpV .lss rfl .i64 ((k2 : Nat) : Int) (((vals (l.take k1)).length : Nat) : Int) _ hb1 rfl rfl rfl ?_
            exact WL.nil ⟨upd_self rfl, rfl⟩
          · refine WL.move rfl ?_
            exact WL.nil ⟨upd_self rfl, rfl⟩
          · refine WL.move rfl ?_
            exact WL.nil ⟨upd_self rfl, rfl⟩
          · refine WL.move rfl ?_
            exact WL.nil ⟨upd_self rfl, rfl⟩
          · refine WL.indexAddrP k2 ep1 ul67 ti61 rfl rfl rfl rfl ?_
            exact WL.nil ⟨upd_self rfl, rfl⟩
          · refine WL.move rfl ?_
            exact WL.nil ⟨upd_self rfl, rfl⟩
          · refine WL.move rfl ?_
            exact WL.nil ⟨upd_self rfl, rfl⟩
          · refine WL.indexAddrP k1 ep2 ul22 ti63 rfl rfl rfl rfl ?_
            exact WL.nil ⟨upd_self rfl, rfl⟩
          · refine WL.fieldAddr _ 0 _ fl63 rfl rfl rfl ?_
            exact WL.nil ⟨upd_self rfl, rfl⟩
          · refine WL.cmpV .lss rfl .i64 (cmpL cmpV x1 xf.v) 0 _ hb4 rfl rfl rfl ?_
            exact WL.nil ⟨upd_self rfl, rfl⟩
          · refine WL.pickT rfl rfl ?_
            exact WL.nil ⟨upd_self rfl, rfl⟩
        · refine ⟨fun wq hSw => ?_, ⟨fun wq hSw => ?_, trivial⟩⟩
          · refine WL.loadR1' ra1 hSw 0 rfl _ rfl ti61 rfl rfl rfl ?_
            exact WL.nil ⟨upd_self rfl, rfl⟩
          · refine WL.loadG1 hSw (Cells.drop 0 hc1) ti61 rfl rfl rfl ?_
            exact WL.nil ⟨upd_self rfl, rfl⟩
        · refine ⟨fun wq hSw => ?_, trivial⟩
          · refine WL.callF [v2, v3] #[] hb133 rfl rfl rfl ((c_rOrder _ _ hSw.imm x1 xf.v _ hs1 _ hs2 ).mono ?_)
            rintro e w9 ⟨r9, G9, rfl, hres9, hpost9⟩
            refine ⟨_, rfl, ?_⟩
            subst hpost9
            exact ⟨upd_self rfl, (hSw.call hres9).down hSw.le hres9.le⟩
        have hS4 := hS8
        refine WC.condT rfl ?_
        refine WC.skip ?_
        refine WC.block ?_
        refine WC.region rfl ?_
        refine WL.move rfl ?_
        refine WL.incr k2 (by have hreach : reach = 140737488355328 := rfl; omega) rfl rfl rfl ?_
        refine WL.assign rfl ?_
        refine WL.nil ?_
        exact ⟨_, ⟨k2 + 1, G2, rfl, hle2, hS4, rfl, rfl, rfl, rfl, (by omega), (by exact lt_step (by assumption) (by assumption) (by assumption))⟩, (show (vals (l.take k1)).length - (k2 + 1) < (vals (l.take k1)).length - k2 by omega)⟩
      have h3 : 0 ≤ (cmpL cmpV x1 xf.v) := q2
      clear q2
      refine WC.draw ⟨[0, 0, 2, 7, 15, 31, 31, 127, 255, 31, 31, 1567, 3615, 7711, 16383, 32767, 65535], [0, 1, 2, 3, 4, 5, 6, 7, 9, 10, 11, 12, 15, 16], [8, 13], [14], []⟩ (St w [] G G2 [o1]) [(13, .int .i64 ((k2 : Nat) : Int)), (14, v1), (15, .int .i64 (((vals (l.take k1)).length : Nat) : Int)), (16, .bool true), (17, .bool true), (18, v1), (19, .int .i64 ((k2 : Nat) : Int)), (20, .pointer (some p1)), (22, vl), (23, .int .i64 ((k1 : Nat) : Int)), (24, .pointer (some p2)), (25, .pointer (some (p2.add 0))), (28, .bool false), (29, .bool false), (21, v2), (26, v3), (27, .int .i64 (cmpL cmpV x1 xf.v))] mixed (by kernel_rfl) (by kernel_rfl) rfl (hS3.draw _) _ rfl ?_ ?_ ?_ (fun w8 hS8 => ?_)
      · refine ⟨fun wq hSw => ?_, ⟨fun wq hSw => ?_, ⟨fun wq hSw => ?_, ⟨fun wq hSw => ?_, ⟨fun wq hSw => ?_, ⟨fun wq hSw => ?_, ⟨fun wq hSw => ?_, ⟨fun wq hSw => ?_, ⟨fun wq hSw => ?_, ⟨fun wq hSw => ?_, ⟨fun wq hSw => ?_, ⟨fun wq hSw => ?_, ⟨fun wq hSw => ?_, ⟨fun wq hSw => ?_, trivial⟩⟩⟩⟩⟩⟩⟩⟩⟩⟩⟩⟩⟩⟩
        · refine WL.move rfl ?_
          exact WL.nil ⟨upd_self rfl, rfl⟩
        · refine WL.move rfl ?_
          exact WL.nil ⟨upd_self rfl, rfl⟩
        · refine WL.lenRow (hr1.mono hle2) ul67 rfl rfl ?_
          exact WL.nil ⟨upd_self rfl, rfl⟩
        · refine WL.cmpV .lss rfl .i64 ((k2 : Nat) : Int) (((vals (l.take k1)).length : Nat) : Int) _ hb1 rfl rfl rfl ?_
          exact WL.nil ⟨upd_self rfl, rfl⟩
        · refine WL.move rfl ?_
          exact WL.nil ⟨upd_self rfl, rfl⟩
        · refine WL.move rfl ?_
          exact WL.nil ⟨upd_self rfl, rfl⟩
        · refine WL.move rfl ?_
          exact WL.nil ⟨upd_self rfl, rfl⟩
        · refine WL.indexAddrP k2 ep1 ul67 ti61 rfl rfl rfl rfl ?_
          exact WL.nil ⟨upd_self rfl, rfl⟩
        · refine WL.move rfl ?_
          exact WL.nil ⟨upd_self rfl, rfl⟩
        · refine WL.move rfl ?_
          exact WL.nil ⟨upd_self rfl, rfl⟩
        · refine WL.indexAddrP k1 ep2 ul22 ti63 rfl rfl rfl rfl ?_
          exact WL.nil ⟨upd_self rfl, rfl⟩
        · refine WL.fieldAddr _ 0 _ fl63 rfl rfl rfl ?_
          exact WL.nil ⟨upd_self rfl, rfl⟩
        · refine WL.cmpV .lss rfl .i64 (cmpL cmpV x1 xf.v) 0 _ hb4 rfl rfl rfl ?_
          exact WL.nil ⟨upd_self rfl, rfl⟩
        · refine WL.pickT rfl rfl ?_
          exact WL.nil ⟨upd_self rfl, rfl⟩
      · refine ⟨fun wq hSw => ?_, ⟨fun wq hSw => ?_, trivial⟩⟩
        · refine WL.loadR1' ra1 hSw 0 rfl _ rfl ti61 rfl rfl rfl ?_
          exact WL.nil ⟨upd_self rfl, rfl⟩
        · refine WL.loadG1 hSw (Cells.drop 0 hc1) ti61 rfl rfl rfl ?_
          exact WL.nil ⟨upd_self rfl, rfl⟩
      · refine ⟨fun wq hSw => ?_, trivial⟩
        · refine WL.callF [v2, v3] #[] hb133 rfl rfl rfl ((c_rOrder _ _ hSw.imm x1 xf.v _ hs1 _ hs2 ).mono ?_)
          rintro e w9 ⟨r9, G9, rfl, hres9, hpost9⟩
          refine ⟨_, rfl, ?_⟩
          subst hpost9
          exact ⟨upd_self rfl, (hSw.call hres9).down hSw.le hres9.le⟩
      have hS5 := hS8
      refine WC.condF rfl ?_
      refine WC.exit ?_
      refine WC.seq ?_
      refine WC.seq ?_
      have bd3 := hr1.bound
      rcases Cmp.dec .lss ((k2 : Nat) : Int) (((vals (l.take k1)).length : Nat) : Int) with ⟨hb5, q3⟩ | ⟨hb5, q3⟩
      · have h4 : ((k2 : Nat) : Int) < (((vals (l.take k1)).length : Nat) : Int) := q3
        clear q3
        obtain ⟨p3, x3, ec2, hx3, hr4, ra2, ep3⟩ := Row.atP (hr1.mono hle2) k2 (by omega)
        obtain rfl : x1 = x3 := Option.some.inj (hx1.symm.trans hx3)
        obtain ⟨v4, rfl, hs3⟩ := hr4
        obtain ⟨p4, x4, hx4, he2, ep4⟩ := Sl.at (hvl.mono (hle1.trans hle2)) k1 (by omega)
        obtain rfl : xf = x4 := Option.some.inj (hxf.symm.trans hx4)
        obtain ⟨cs2, hc2, hr5⟩ := he2
        obtain ⟨v5, rfl, hs4, hb6, hb7⟩ := FactE_open hr5
        rcases Bool.eq_false_or_eq_true (decide (x1 = xf.v)) with h5 | h5
        · refine WC.draw ⟨[0, 0, 2, 7, 15, 31, 31, 127, 255, 31, 31, 1567, 3615, 7711, 16383, 32767], [0, 1, 2, 3, 4, 5, 6, 7, 9, 10, 11, 12, 15], [8, 13], [14], []⟩ (St w [] G G2 [o1]) [(32, .int .i64 ((k2 : Nat) : Int)), (33, v1), (34, .int .i64 (((vals (l.take k1)).length : Nat) : Int)), (35, .bool true), (36, .bool true), (37, v1), (38, .int .i64 ((k2 : Nat) : Int)), (39, .pointer (some p3)), (41, vl), (42, .int .i64 ((k1 : Nat) : Int)), (43, .pointer (some p4)), (44, .pointer (some (p4.add 0))), (47, .bool true), (40, v4), (45, v5), (46, .bool true)] mixed (by kernel_rfl) (by kernel_rfl) rfl (hS5.draw _) _ rfl ?_ ?_ ?_ (fun w8 hS8 => ?_)
          · refine ⟨fun wq hSw => ?_, ⟨fun wq hSw => ?_, ⟨fun wq hSw => ?_, ⟨fun wq hSw => ?_, ⟨fun wq hSw => ?_, ⟨fun wq hSw => ?_, ⟨fun wq hSw => ?_, ⟨fun wq hSw => ?_, ⟨fun wq hSw => ?_, ⟨fun wq hSw => ?_, ⟨fun wq hSw => ?_, ⟨fun wq hSw => ?_, ⟨fun wq hSw => ?_, trivial⟩⟩⟩⟩⟩⟩⟩⟩⟩⟩⟩⟩⟩
            · refine WL.move rfl ?_
              exact WL.nil ⟨upd_self rfl, rfl⟩
            · refine WL.move rfl ?_
              exact WL.nil ⟨upd_self rfl, rfl⟩
            · refine WL.lenRow (hr1.mono hle2) ul67 rfl rfl ?_
              exact WL.nil ⟨upd_self rfl, rfl⟩
            · refine WL.cmpV .lss rfl .i64 ((k2 : Nat) : Int) (((vals (l.take k1)).length : Nat) : Int) _ hb5 rfl rfl rfl ?_
              exact WL.nil ⟨upd_self rfl, rfl⟩
            · refine WL.move rfl ?_
              exact WL.nil ⟨upd_self rfl, rfl⟩
            · refine WL.move rfl ?_
              exact WL.nil ⟨upd_self rfl, rfl⟩
            · refine WL.move rfl ?_
              exact WL.nil ⟨upd_self rfl, rfl⟩
            · refine WL.indexAddrP k2 ep3 ul67 ti61 rfl rfl rfl rfl ?_
              exact WL.nil ⟨upd_self rfl, rfl⟩
            · refine WL.move rfl ?_
              exact WL.nil ⟨upd_self rfl, rfl⟩
            · refine WL.move rfl ?_
              exact WL.nil ⟨upd_self rfl, rfl⟩
            · refine WL.indexAddrP k1 ep4 ul22 ti63 rfl rfl rfl rfl ?_
              exact WL.nil ⟨upd_self rfl, rfl⟩
            · refine WL.fieldAddr _ 0 _ fl63 rfl rfl rfl ?_
              exact WL.nil ⟨upd_self rfl, rfl⟩
            · refine WL.pickT rfl rfl ?_
              exact WL.nil ⟨upd_self rfl, rfl⟩
          · refine ⟨fun wq hSw => ?_, ⟨fun wq hSw => ?_, trivial⟩⟩
            · refine WL.loadR1' ra2 hSw 0 rfl _ rfl ti61 rfl rfl rfl ?_
              exact WL.nil ⟨upd_self rfl, rfl⟩
            · refine WL.loadG1 hSw (Cells.drop 0 hc2) ti61 rfl rfl rfl ?_
              exact WL.nil ⟨upd_self rfl, rfl⟩
          · refine ⟨fun wq hSw => ?_, trivial⟩
            · refine WL.callF [v4, v5] #[] hb88 rfl rfl rfl ((c_Same _ _ hSw.imm x1 xf.v _ hs3 _ hs4 ).mono ?_)
              rintro e w9 ⟨r9, G9, rfl, hres9, hpost9⟩
              refine ⟨_, rfl, ?_⟩
              subst hpost9
              exact ⟨upd_self (congrArg Value.bool h5.symm), (hSw.call hres9).down hSw.le hres9.le⟩
          have hS6 := hS8
          refine WC.condT rfl ?_
          refine WC.exit ?_
          refine WC.region rfl ?_
          refine WL.move rfl ?_
          refine WL.incr k1 (by have hreach : reach = 140737488355328 := rfl; omega) rfl rfl rfl ?_
          refine WL.assign rfl ?_
          refine WL.nil ?_
          exact ⟨_, ⟨k1 + 1, v1, o1, G2, rfl, (hle1.trans hle2), hS6, (Row.cast (hr1.mono hle2) (by (rw [vals_take hxf]; first | (exfalso; omega) | exact (vals_found' (out := vals (l.take k1)) (k := k2) (by assumption) (by assumption) (by assumption) (by assumption)).symm | (rw [vals_put1 (out := vals (l.take k1)) (k := k2) (by omega) (by omega) (by assumption)]; exact Shift.done (by rw [← hjk]; assumption) (by omega)) | (rw [vals_put2 (out := vals (l.take k1)) (k := k2) (by assumption) (by assumption) (by assumption) (by assumption)]; exact Shift.done (by rw [← hjk]; assumption) (by omega))))), rfl, rfl, rfl, (by omega)⟩, (show l.length - (k1 + 1) < l.length - k1 by omega)⟩
        refine WC.draw ⟨[0, 0, 2, 7, 15, 31, 31, 127, 255, 31, 31, 1567, 3615, 7711, 16383, 32767], [0, 1, 2, 3, 4, 5, 6, 7, 9, 10, 11, 12, 15], [8, 13], [14], []⟩ (St w [] G G2 [o1]) [(32, .int .i64 ((k2 : Nat) : Int)), (33, v1), (34, .int .i64 (((vals (l.take k1)).length : Nat) : Int)), (35, .bool true), (36, .bool true), (37, v1), (38, .int .i64 ((k2 : Nat) : Int)), (39, .pointer (some p3)), (41, vl), (42, .int .i64 ((k1 : Nat) : Int)), (43, .pointer (some p4)), (44, .pointer (some (p4.add 0))), (47, .bool false), (40, v4), (45, v5), (46, .bool false)] mixed (by kernel_rfl) (by kernel_rfl) rfl (hS5.draw _) _ rfl ?_ ?_ ?_ (fun w8 hS8 => ?_)
        · refine ⟨fun wq hSw => ?_, ⟨fun wq hSw => ?_, ⟨fun wq hSw => ?_, ⟨fun wq hSw => ?_, ⟨fun wq hSw => ?_, ⟨fun wq hSw => ?_, ⟨fun wq hSw => ?_, ⟨fun wq hSw => ?_, ⟨fun wq hSw => ?_, ⟨fun wq hSw => ?_, ⟨fun wq hSw => ?_, ⟨fun wq hSw => ?_, ⟨fun wq hSw => ?_, trivial⟩⟩⟩⟩⟩⟩⟩⟩⟩⟩⟩⟩⟩
          · refine WL.move rfl ?_
            exact WL.nil ⟨upd_self rfl, rfl⟩
          · refine WL.move rfl ?_
            exact WL.nil ⟨upd_self rfl, rfl⟩
          · refine WL.lenRow (hr1.mono hle2) ul67 rfl rfl ?_
            exact WL.nil ⟨upd_self rfl, rfl⟩
          · refine WL.cmpV .lss rfl .i64 ((k2 : Nat) : Int) (((vals (l.take k1)).length : Nat) : Int) _ hb5 rfl rfl rfl ?_
            exact WL.nil ⟨upd_self rfl, rfl⟩
          · refine WL.move rfl ?_
            exact WL.nil ⟨upd_self rfl, rfl⟩
          · refine WL.move rfl ?_
            exact WL.nil ⟨upd_self rfl, rfl⟩
          · refine WL.move rfl ?_
            exact WL.nil ⟨upd_self rfl, rfl⟩
          · refine WL.indexAddrP k2 ep3 ul67 ti61 rfl rfl rfl rfl ?_
            exact WL.nil ⟨upd_self rfl, rfl⟩
          · refine WL.move rfl ?_
            exact WL.nil ⟨upd_self rfl, rfl⟩
          · refine WL.move rfl ?_
            exact WL.nil ⟨upd_self rfl, rfl⟩
          · refine WL.indexAddrP k1 ep4 ul22 ti63 rfl rfl rfl rfl ?_
            exact WL.nil ⟨upd_self rfl, rfl⟩
          · refine WL.fieldAddr _ 0 _ fl63 rfl rfl rfl ?_
            exact WL.nil ⟨upd_self rfl, rfl⟩
          · refine WL.pickT rfl rfl ?_
            exact WL.nil ⟨upd_self rfl, rfl⟩
        · refine ⟨fun wq hSw => ?_, ⟨fun wq hSw => ?_, trivial⟩⟩
          · refine WL.loadR1' ra2 hSw 0 rfl _ rfl ti61 rfl rfl rfl ?_
            exact WL.nil ⟨upd_self rfl, rfl⟩
          · refine WL.loadG1 hSw (Cells.drop 0 hc2) ti61 rfl rfl rfl ?_
            exact WL.nil ⟨upd_self rfl, rfl⟩
        · refine ⟨fun wq hSw => ?_, trivial⟩
          · refine WL.callF [v4, v5] #[] hb88 rfl rfl rfl ((c_Same _ _ hSw.imm x1 xf.v _ hs3 _ hs4 ).mono ?_)
            rintro e w9 ⟨r9, G9, rfl, hres9, hpost9⟩
            refine ⟨_, rfl, ?_⟩
            subst hpost9
            exact ⟨upd_self (congrArg Value.bool h5.symm), (hSw.call hres9).down hSw.le hres9.le⟩
        have hS7 := hS8
        refine WC.condF rfl ?_
        refine WC.skip ?_
        refine WC.seq ?_
        refine WC.region rfl ?_
        refine WL.move rfl ?_
        refine WL.buildSlice _ [(0, [.slice none 0 0])] [.slice none 0 0] hS7 sl67 rfl rfl rfl rfl (fun z hz => by match z, hz with | [z0], _ => rfl) (fun b1 w7 hn1 hS8 => ?_)
        refine WL.push (m := ([[]] : List (List Val))) sl67 rfl rfl rfl (hr1.mono hle2) hS8 1 rfl 0 _ _ _ _ _ rfl ⟨[.slice none 0 0], _, rfl, ⟨_, rfl, (Sl.nil ValE 32 G2)⟩, rfl⟩ rfl (by have hreach : reach = 140737488355328 := rfl; simp only [List.length_cons, List.length_nil]; omega) (by have hreach : reach = 140737488355328 := rfl; simp only [List.length_cons, List.length_nil]; omega) rfl rfl rfl (fun v6 o2 w8 hr6 hS9 => ?_)
        have hS10 := hS9.tail
        refine WL.assign rfl ?_
        refine WL.nil ?_
        refine WC.seq ?_
        refine WC.seq ?_
        refine WC.region rfl ?_
        refine WL.move rfl ?_
        have bd4 := hr6.bound
        refine WL.lenRow hr6 ul67 rfl rfl ?_
        refine WL.decr ((vals (l.take k1) ++ [[]]).length) (by first | omega | (simp only [List.length_append, List.length_cons, List.length_nil]; omega)) (by have hreach : reach = 140737488355328 := rfl; first | omega | (simp only [List.length_append, List.length_cons, List.length_nil]; omega)) rfl rfl rfl ?_
        refine WL.assign rfl ?_
        refine WL.nil ?_
        refine WC.block ?_
        refine WC.loop (γ := Nat) (fun m ρ1 w1 => ∃ (j : Nat), ∃ (M : VV), ∃ (o3 : OB), ∃ (G3 : GH), m = (0 + j) ∧ G2.le G3 ∧ St w [] G G3 [o3] w1 ∧ Row (ValE.slice 32) 24 61 G3 v6 M o3 ∧ ρ1 0 = vl ∧ ρ1 3 = v6 ∧ ρ1 4 = .int .i64 ((k1 : Nat) : Int) ∧ ρ1 5 = .int .i64 ((k2 : Nat) : Int) ∧ ρ1 6 = .int .i64 ((j : Nat) : Int) ∧ k2 ≤ j ∧ j ≤ (vals (l.take k1)).length ∧ Shift (vals (l.take k1)) M j) (fun m => m) _ ⟨(vals (l.take k1) ++ [[]]).length - 1, (vals (l.take k1) ++ [[]]), o2, G2, rfl, (G2.le_refl), hS10, hr6, rfl, rfl, rfl, rfl, rfl, (by simp only [List.length_append, List.length_cons, List.length_nil]; omega), (by simp), (by (have e9 : ((vals (l.take k1)) ++ [[]]).length - 1 = (vals (l.take k1)).length := by simp); rw [e9]; exact Shift.start)⟩ ?_
        rintro m ρ1 w9 ⟨j, M, o3, G3, rfl, hle3, hS11, hr7, e8, e9, e10, e11, e12, f4, f5, f6⟩
        refine WC.set (d := 0) e8 ?_
        refine WC.set (d := 3) e9 ?_
        refine WC.set (d := 4) e10 ?_
        refine WC.set (d := 5) e11 ?_
        refine WC.set (d := 6) e12 ?_
        have hsl9 := Shift.len (by assumption : Shift (vals (l.take k1)) M j)
        refine WC.seq ?_
        refine WC.seq ?_
        refine WC.region rfl ?_
        refine WL.move rfl ?_
        refine WL.move rfl ?_
        refine WL.cmpS .gtr rfl .i64 ((j : Nat) : Int) ((k2 : Nat) : Int) rfl rfl rfl (fun (h6 : ((k2 : Nat) : Int) < ((j : Nat) : Int)) => ?_) (fun (h6 : ((j : Nat) : Int) ≤ ((k2 : Nat) : Int)) => ?_)
        · refine WL.nil ?_
          refine WC.condT rfl ?_
          refine WC.skip ?_
          refine WC.seq ?_
          refine WC.block ?_
          refine WC.region rfl ?_
          refine WL.move rfl ?_
          refine WL.move rfl ?_
          refine WL.move rfl ?_
          refine WL.move rfl ?_
          refine WL.decr j (by first | omega | (simp only [List.length_append, List.length_cons, List.length_nil]; omega)) (by have hreach : reach = 140737488355328 := rfl; first | omega | (simp only [List.length_append, List.length_cons, List.length_nil]; omega)) rfl rfl rfl ?_
          refine WL.indexAddrRow hr7 (j - 1) (by omega) ul67 ti61 rfl rfl rfl rfl (fun p5 x5 ec3 hx5 hr8 ra3 => ?_)
          obtain ⟨v7, rfl, hs5⟩ := hr8
          refine WL.loadR1' ra3 hS11 0 rfl _ rfl ti61 rfl rfl rfl ?_
          refine WL.indexAddrRow hr7 j (by omega) ul67 ti61 rfl rfl rfl rfl (fun p6 x6 ec4 hx6 hr9 ra4 => ?_)
          obtain ⟨v8, rfl, hs6⟩ := hr9
          refine WL.storeR0 hr7 ra4 hS11 0 rfl (by omega) rfl 0 _ [v7] x5 [v7] hs5.cells1 ti61 rfl (Nat.le_of_ble_eq_true rfl) (by simp only [List.all_cons, List.all_nil, hs5.oneC, Bool.true_and] <;> rfl) rfl ⟨_, rfl, hs5⟩ rfl rfl rfl rfl (fun o4 w10 hr10 hS12 => ?_)
          refine WL.nil ?_
          refine WC.region rfl ?_
          refine WL.move rfl ?_
          refine WL.decr j (by first | omega | (simp only [List.length_append, List.length_cons, List.length_nil]; omega)) (by have hreach : reach = 140737488355328 := rfl; first | omega | (simp only [List.length_append, List.length_cons, List.length_nil]; omega)) rfl rfl rfl ?_
          refine WL.assign rfl ?_
          refine WL.nil ?_
          exact ⟨_, ⟨j - 1, (M.set j x5), o4, G3, rfl, hle3, hS12, hr10, rfl, rfl, rfl, rfl, rfl, (by omega), (by omega), (by exact Shift.step (by assumption) (by omega) (by assumption))⟩, (show (0 + (j - 1)) < (0 + j) by omega)⟩
        refine WL.nil ?_
        refine WC.condF rfl ?_
        refine WC.exit ?_
        have hjk : j = k2 := by omega
        refine WC.region rfl ?_
        refine WL.move rfl ?_
        refine WL.move rfl ?_
        refine WL.move rfl ?_
        refine WL.move rfl ?_
        refine WL.indexAddr (hvl.mono ((hle1.trans hle2).trans hle3)) k1 (by omega) ul22 ti63 rfl rfl rfl rfl (fun p7 x7 hx7 he3 => ?_)
        obtain rfl : xf = x7 := Option.some.inj (hxf.symm.trans hx7)
        obtain ⟨cs3, hc3, hr11⟩ := he3
        obtain ⟨v9, rfl, hs7, hb8, hb9⟩ := FactE_open hr11
        refine WL.fieldAddr _ 0 _ fl63 rfl rfl rfl ?_
        refine WL.loadG1 hS11 (Cells.drop 0 hc3) ti61 rfl rfl rfl ?_
        refine WL.indexAddrRow hr7 k2 (by omega) ul67 ti61 rfl rfl rfl rfl (fun p8 x8 ec5 hx8 hr12 ra5 => ?_)
        obtain ⟨v10, rfl, hs8⟩ := hr12
        refine WL.storeR0 hr7 ra5 hS11 0 rfl (by omega) rfl 0 _ [v9] xf.v [v9] hs7.cells1 ti61 rfl (Nat.le_of_ble_eq_true rfl) (by simp only [List.all_cons, List.all_nil, hs7.oneC, Bool.true_and] <;> rfl) rfl ⟨_, rfl, hs7⟩ rfl rfl rfl rfl (fun o5 w11 hr13 hS13 => ?_)
        refine WL.nil ?_
        refine WC.region rfl ?_
        refine WL.move rfl ?_
        refine WL.incr k1 (by have hreach : reach = 140737488355328 := rfl; omega) rfl rfl rfl ?_
        refine WL.assign rfl ?_
        refine WL.nil ?_
        exact ⟨_, ⟨k1 + 1, v6, o5, G3, rfl, (hle1.trans (hle2.trans hle3)), hS13, (Row.cast hr13 (by (rw [vals_take hxf]; first | (exfalso; omega) | exact (vals_found' (out := vals (l.take k1)) (k := k2) (by assumption) (by assumption) (by assumption) (by assumption)).symm | (rw [vals_put1 (out := vals (l.take k1)) (k := k2) (by omega) (by omega) (by assumption)]; exact Shift.done (by rw [← hjk]; assumption) (by omega)) | (rw [vals_put2 (out := vals (l.take k1)) (k := k2) (by assumption) (by assumption) (by assumption) (by assumption)]; exact Shift.done (by rw [← hjk]; assumption) (by omega))))), rfl, rfl, rfl, (by omega)⟩, (show l.length - (k1 + 1) < l.length - k1 by omega)⟩
      have h4 : (((vals (l.take k1)).length : Nat) : Int) ≤ ((k2 : Nat) : Int) := q3
      clear q3
      refine WC.draw ⟨[0, 0, 2, 7, 15, 31, 31, 127, 255, 31, 31, 1567, 3615, 7711, 16383, 32767], [0, 1, 2, 3, 4, 5, 6, 7, 9, 10, 11, 12, 15], [8, 13], [14], []⟩ (St w [] G G2 [o1]) [(32, .int .i64 ((k2 : Nat) : Int)), (33, v1), (34, .int .i64 (((vals (l.take k1)).length : Nat) : Int)), (35, .bool false), (36, .bool false), (37, undef), (38, undef), (39, undef), (41, undef), (42, undef), (43, undef), (44, undef), (47, .bool false), (40, undef), (45, undef), (46, undef)] mixed (by kernel_rfl) (by kernel_rfl) rfl (hS5.draw _) _ rfl ?_ ?_ ?_ (fun w8 hS8 => ?_)
      · refine ⟨fun wq hSw => ?_, ⟨fun wq hSw => ?_, ⟨fun wq hSw => ?_, ⟨fun wq hSw => ?_, ⟨fun wq hSw => ?_, ⟨fun wq hSw => ?_, ⟨fun wq hSw => ?_, ⟨fun wq hSw => ?_, ⟨fun wq hSw => ?_, ⟨fun wq hSw => ?_, ⟨fun wq hSw => ?_, ⟨fun wq hSw => ?_, ⟨fun wq hSw => ?_, trivial⟩⟩⟩⟩⟩⟩⟩⟩⟩⟩⟩⟩⟩
        · refine WL.move rfl ?_
          exact WL.nil ⟨upd_self rfl, rfl⟩
        · refine WL.move rfl ?_
          exact WL.nil ⟨upd_self rfl, rfl⟩
        · refine WL.lenRow (hr1.mono hle2) ul67 rfl rfl ?_
          exact WL.nil ⟨upd_self rfl, rfl⟩
        · refine WL.cmpV .lss rfl .i64 ((k2 : Nat) : Int) (((vals (l.take k1)).length : Nat) : Int) _ hb5 rfl rfl rfl ?_
          exact WL.nil ⟨upd_self rfl, rfl⟩
        · refine WL.move rfl ?_
          exact WL.nil ⟨upd_self rfl, rfl⟩
        · refine WL.no rfl rfl ?_
          exact WL.nil ⟨upd_self rfl, rfl⟩
        · refine WL.no rfl rfl ?_
          exact WL.nil ⟨upd_self rfl, rfl⟩
        · refine WL.no rfl rfl ?_
          exact WL.nil ⟨upd_self rfl, rfl⟩
        · refine WL.no rfl rfl ?_
          exact WL.nil ⟨upd_self rfl, rfl⟩
        · refine WL.no rfl rfl ?_
          exact WL.nil ⟨upd_self rfl, rfl⟩
        · refine WL.no rfl rfl ?_
          exact WL.nil ⟨upd_self rfl, rfl⟩
        · refine WL.no rfl rfl ?_
          exact WL.nil ⟨upd_self rfl, rfl⟩
        · refine WL.pickF rfl rfl ?_
          exact WL.nil ⟨upd_self rfl, rfl⟩
      · refine ⟨fun wq hSw => ?_, ⟨fun wq hSw => ?_, trivial⟩⟩
        · refine WL.no rfl rfl ?_
          exact WL.nil ⟨upd_self rfl, rfl⟩
        · refine WL.no rfl rfl ?_
          exact WL.nil ⟨upd_self rfl, rfl⟩
      · refine ⟨fun wq hSw => ?_, trivial⟩
        · refine WL.no rfl rfl ?_
          exact WL.nil ⟨upd_self rfl, hSw⟩
      have hS14 := hS8
      refine WC.condF rfl ?_
      refine WC.skip ?_
      refine WC.seq ?_
      refine WC.region rfl ?_
      refine WL.move rfl ?_
      refine WL.buildSlice _ [(0, [.slice none 0 0])] [.slice none 0 0] hS14 sl67 rfl rfl rfl rfl (fun z hz => by match z, hz with | [z0], _ => rfl) (fun b2 w13 hn2 hS15 => ?_)
      refine WL.push (m := ([[]] : List (List Val))) sl67 rfl rfl rfl (hr1.mono hle2) hS15 1 rfl 0 _ _ _ _ _ rfl ⟨[.slice none 0 0], _, rfl, ⟨_, rfl, (Sl.nil ValE 32 G2)⟩, rfl⟩ rfl (by have hreach : reach = 140737488355328 := rfl; simp only [List.length_cons, List.length_nil]; omega) (by have hreach : reach = 140737488355328 := rfl; simp only [List.length_cons, List.length_nil]; omega) rfl rfl rfl (fun v11 o6 w14 hr14 hS16 => ?_)
      have hS17 := hS16.tail
      refine WL.assign rfl ?_
      refine WL.nil ?_
      refine WC.seq ?_
      refine WC.seq ?_
      refine WC.region rfl ?_
      refine WL.move rfl ?_
      have bd5 := hr14.bound
      refine WL.lenRow hr14 ul67 rfl rfl ?_
      refine WL.decr ((vals (l.take k1) ++ [[]]).length) (by first | omega | (simp only [List.length_append, List.length_cons, List.length_nil]; omega)) (by have hreach : reach = 140737488355328 := rfl; first | omega | (simp only [List.length_append, List.length_cons, List.length_nil]; omega)) rfl rfl rfl ?_
      refine WL.assign rfl ?_
      refine WL.nil ?_
      refine WC.block ?_
      refine WC.loop (γ := Nat) (fun m ρ1 w1 => ∃ (j : Nat), ∃ (M : VV), ∃ (o7 : OB), ∃ (G4 : GH), m = (0 + j) ∧ G2.le G4 ∧ St w [] G G4 [o7] w1 ∧ Row (ValE.slice 32) 24 61 G4 v11 M o7 ∧ ρ1 0 = vl ∧ ρ1 3 = v11 ∧ ρ1 4 = .int .i64 ((k1 : Nat) : Int) ∧ ρ1 5 = .int .i64 ((k2 : Nat) : Int) ∧ ρ1 6 = .int .i64 ((j : Nat) : Int) ∧ k2 ≤ j ∧ j ≤ (vals (l.take k1)).length ∧ Shift (vals (l.take k1)) M j) (fun m => m) _ ⟨(vals (l.take k1) ++ [[]]).length - 1, (vals (l.take k1) ++ [[]]), o6, G2, rfl, (G2.le_refl), hS17, hr14, rfl, rfl, rfl, rfl, rfl, (by simp only [List.length_append, List.length_cons, List.length_nil]; omega), (by simp), (by (have e9 : ((vals (l.take k1)) ++ [[]]).length - 1 = (vals (l.take k1)).length := by simp); rw [e9]; exact Shift.start)⟩ ?_
      rintro m ρ1 w15 ⟨j, M, o7, G4, rfl, hle4, hS18, hr15, e13, e14, e15, e16, e17, f7, f8, f9⟩
      refine WC.set (d := 0) e13 ?_
      refine WC.set (d := 3) e14 ?_
      refine WC.set (d := 4) e15 ?_
      refine WC.set (d := 5) e16 ?_
      refine WC.set (d := 6) e17 ?_
      have hsl9 := Shift.len (by assumption : Shift (vals (l.take k1)) M j)
      refine WC.seq ?_
      refine WC.seq ?_
      refine WC.region rfl ?_
      refine WL.move rfl ?_
      refine WL.move rfl ?_
      refine WL.cmpS .gtr rfl .i64 ((j : Nat) : Int) ((k2 : Nat) : Int) rfl rfl rfl (fun (h7 : ((k2 : Nat) : Int) < ((j : Nat) : Int)) => ?_) (fun (h7 : ((j : Nat) : Int) ≤ ((k2 : Nat) : Int)) => ?_)
      · refine WL.nil ?_
        refine WC.condT rfl ?_
        refine WC.skip ?_
        refine WC.seq ?_
        refine WC.block ?_
        refine WC.region rfl ?_
        refine WL.move rfl ?_
        refine WL.move rfl ?_
        refine WL.move rfl ?_
        refine WL.move rfl ?_
        refine WL.decr j (by first | omega | (simp only [List.length_append, List.length_cons, List.length_nil]; omega)) (by have hreach : reach = 140737488355328 := rfl; first | omega | (simp only [List.length_append, List.length_cons, List.length_nil]; omega)) rfl rfl rfl ?_
        refine WL.indexAddrRow hr15 (j - 1) (by omega) ul67 ti61 rfl rfl rfl rfl (fun p9 x9 ec6 hx9 hr16 ra6 => ?_)
        obtain ⟨v12, rfl, hs9⟩ := hr16
        refine WL.loadR1' ra6 hS18 0 rfl _ rfl ti61 rfl rfl rfl ?_
        refine WL.indexAddrRow hr15 j (by omega) ul67 ti61 rfl rfl rfl rfl (fun p10 x10 ec7 hx10 hr17 ra7 => ?_)
        obtain ⟨v13, rfl, hs10⟩ := hr17
        refine WL.storeR0 hr15 ra7 hS18 0 rfl (by omega) rfl 0 _ [v12] x9 [v12] hs9.cells1 ti61 rfl (Nat.le_of_ble_eq_true rfl) (by simp only [List.all_cons, List.all_nil, hs9.oneC, Bool.true_and] <;> rfl) rfl ⟨_, rfl, hs9⟩ rfl rfl rfl rfl (fun o8 w16 hr18 hS19 => ?_)
        refine WL.nil ?_
        refine WC.region rfl ?_
        refine WL.move rfl ?_
        refine WL.decr j (by first | omega | (simp only [List.length_append, List.length_cons, List.length_nil]; omega)) (by have hreach : reach = 140737488355328 := rfl; first | omega | (simp only [List.length_append, List.length_cons, List.length_nil]; omega)) rfl rfl rfl ?_
        refine WL.assign rfl ?_
        refine WL.nil ?_
        exact ⟨_, ⟨j - 1, (M.set j x9), o8, G4, rfl, hle4, hS19, hr18, rfl, rfl, rfl, rfl, rfl, (by omega), (by omega), (by exact Shift.step (by assumption) (by omega) (by assumption))⟩, (show (0 + (j - 1)) < (0 + j) by omega)⟩
      refine WL.nil ?_
      refine WC.condF rfl ?_
      refine WC.exit ?_
      have hjk : j = k2 := by omega
      refine WC.region rfl ?_
      refine WL.move rfl ?_
      refine WL.move rfl ?_
      refine WL.move rfl ?_
      refine WL.move rfl ?_
      refine WL.indexAddr (hvl.mono ((hle1.trans hle2).trans hle4)) k1 (by omega) ul22 ti63 rfl rfl rfl rfl (fun p11 x11 hx11 he4 => ?_)
      obtain rfl : xf = x11 := Option.some.inj (hxf.symm.trans hx11)
      obtain ⟨cs4, hc4, hr19⟩ := he4
      obtain ⟨v14, rfl, hs11, hb10, hb11⟩ := FactE_open hr19
      refine WL.fieldAddr _ 0 _ fl63 rfl rfl rfl ?_
      refine WL.loadG1 hS18 (Cells.drop 0 hc4) ti61 rfl rfl rfl ?_
      refine WL.indexAddrRow hr15 k2 (by omega) ul67 ti61 rfl rfl rfl rfl (fun p12 x12 ec8 hx12 hr20 ra8 => ?_)
      obtain ⟨v15, rfl, hs12⟩ := hr20
      refine WL.storeR0 hr15 ra8 hS18 0 rfl (by omega) rfl 0 _ [v14] xf.v [v14] hs11.cells1 ti61 rfl (Nat.le_of_ble_eq_true rfl) (by simp only [List.all_cons, List.all_nil, hs11.oneC, Bool.true_and] <;> rfl) rfl ⟨_, rfl, hs11⟩ rfl rfl rfl rfl (fun o9 w17 hr21 hS20 => ?_)
      refine WL.nil ?_
      refine WC.region rfl ?_
      refine WL.move rfl ?_
      refine WL.incr k1 (by have hreach : reach = 140737488355328 := rfl; omega) rfl rfl rfl ?_
      refine WL.assign rfl ?_
      refine WL.nil ?_
      exact ⟨_, ⟨k1 + 1, v11, o9, G4, rfl, (hle1.trans (hle2.trans hle4)), hS20, (Row.cast hr21 (by (rw [vals_take hxf]; first | (exfalso; omega) | exact (vals_found' (out := vals (l.take k1)) (k := k2) (by assumption) (by assumption) (by assumption) (by assumption)).symm | (rw [vals_put1 (out := vals (l.take k1)) (k := k2) (by omega) (by omega) (by assumption)]; exact Shift.done (by rw [← hjk]; assumption) (by omega)) | (rw [vals_put2 (out := vals (l.take k1)) (k := k2) (by assumption) (by assumption) (by assumption) (by assumption)]; exact Shift.done (by rw [← hjk]; assumption) (by omega))))), rfl, rfl, rfl, (by omega)⟩, (show l.length - (k1 + 1) < l.length - k1 by omega)⟩
    have h2 : (((vals (l.take k1)).length : Nat) : Int) ≤ ((k2 : Nat) : Int) := q1
    clear q1
    refine WC.draw ⟨[0, 0, 2, 7, 15, 31, 31, 127, 255, 31, 31, 1567, 3615, 7711, 16383, 32767, 65535], [0, 1, 2, 3, 4, 5, 6, 7, 9, 10, 11, 12, 15, 16], [8, 13], [14], []⟩ (St w [] G G2 [o1]) [(13, .int .i64 ((k2 : Nat) : Int)), (14, v1), (15, .int .i64 (((vals (l.take k1)).length : Nat) : Int)), (16, .bool false), (17, .bool false), (18, undef), (19, undef), (20, undef), (22, undef), (23, undef), (24, undef), (25, undef), (28, undef), (29, .bool false), (21, undef), (26, undef), (27, undef)] mixed (by kernel_rfl) (by kernel_rfl) rfl (hS3.draw _) _ rfl ?_ ?_ ?_ (fun w8 hS8 => ?_)
    · refine ⟨fun wq hSw => ?_, ⟨fun wq hSw => ?_, ⟨fun wq hSw => ?_, ⟨fun wq hSw => ?_, ⟨fun wq hSw => ?_, ⟨fun wq hSw => ?_, ⟨fun wq hSw => ?_, ⟨fun wq hSw => ?_, ⟨fun wq hSw => ?_, ⟨fun wq hSw => ?_, ⟨fun wq hSw => ?_, ⟨fun wq hSw => ?_, ⟨fun wq hSw => ?_, ⟨fun wq hSw => ?_, trivial⟩⟩⟩⟩⟩⟩⟩⟩⟩⟩⟩⟩⟩⟩
      · refine WL.move rfl ?_
        exact WL.nil ⟨upd_self rfl, rfl⟩
      · refine WL.move rfl ?_
        exact WL.nil ⟨upd_self rfl, rfl⟩
      · refine WL.lenRow (hr1.mono hle2) ul67 rfl rfl ?_
        exact WL.nil ⟨upd_self rfl, rfl⟩
      · refine WL.cmpV .lss rfl .i64 ((k2 : Nat) : Int) (((vals (l.take k1)).length : Nat) : Int) _ hb1 rfl rfl rfl ?_
        exact WL.nil ⟨upd_self rfl, rfl⟩
      · refine WL.move rfl ?_
        exact WL.nil ⟨upd_self rfl, rfl⟩
      · refine WL.no rfl rfl ?_
        exact WL.nil ⟨upd_self rfl, rfl⟩
      · refine WL.no rfl rfl ?_
        exact WL.nil ⟨upd_self rfl, rfl⟩
      · refine WL.no rfl rfl ?_
        exact WL.nil ⟨upd_self rfl, rfl⟩
      · refine WL.no rfl rfl ?_
        exact WL.nil ⟨upd_self rfl, rfl⟩
      · refine WL.no rfl rfl ?_
        exact WL.nil ⟨upd_self rfl, rfl⟩
      · refine WL.no rfl rfl ?_
        exact WL.nil ⟨upd_self rfl, rfl⟩
      · refine WL.no rfl rfl ?_
        exact WL.nil ⟨upd_self rfl, rfl⟩
      · refine WL.no rfl rfl ?_
        exact WL.nil ⟨upd_self rfl, rfl⟩
      · refine WL.pickF rfl rfl ?_
        exact WL.nil ⟨upd_self rfl, rfl⟩
    · refine ⟨fun wq hSw => ?_, ⟨fun wq hSw => ?_, trivial⟩⟩
      · refine WL.no rfl rfl ?_
        exact WL.nil ⟨upd_self rfl, rfl⟩
      · refine WL.no rfl rfl ?_
        exact WL.nil ⟨upd_self rfl, rfl⟩
    · refine ⟨fun wq hSw => ?_, trivial⟩
      · refine WL.no rfl rfl ?_
        exact WL.nil ⟨upd_self rfl, hSw⟩
    have hS21 := hS8
    refine WC.condF rfl ?_
    refine WC.exit ?_
    refine WC.seq ?_
    refine WC.seq ?_
    have bd6 := hr1.bound
    rcases Cmp.dec .lss ((k2 : Nat) : Int) (((vals (l.take k1)).length : Nat) : Int) with ⟨hb12, q4⟩ | ⟨hb12, q4⟩
    · have h8 : ((k2 : Nat) : Int) < (((vals (l.take k1)).length : Nat) : Int) := q4
      clear q4
      obtain ⟨p13, x13, ec9, hx13, hr22, ra9, ep5⟩ := Row.atP (hr1.mono hle2) k2 (by omega)
      obtain ⟨v16, rfl, hs13⟩ := hr22
      obtain ⟨p14, x14, hx14, he5, ep6⟩ := Sl.at (hvl.mono (hle1.trans hle2)) k1 (by omega)
      obtain rfl : xf = x14 := Option.some.inj (hxf.symm.trans hx14)
      obtain ⟨cs5, hc5, hr23⟩ := he5
      obtain ⟨v17, rfl, hs14, hb13, hb14⟩ := FactE_open hr23
      rcases Bool.eq_false_or_eq_true (decide (x13 = xf.v)) with h9 | h9
      · refine WC.draw ⟨[0, 0, 2, 7, 15, 31, 31, 127, 255, 31, 31, 1567, 3615, 7711, 16383, 32767], [0, 1, 2, 3, 4, 5, 6, 7, 9, 10, 11, 12, 15], [8, 13], [14], []⟩ (St w [] G G2 [o1]) [(32, .int .i64 ((k2 : Nat) : Int)), (33, v1), (34, .int .i64 (((vals (l.take k1)).length : Nat) : Int)), (35, .bool true), (36, .bool true), (37, v1), (38, .int .i64 ((k2 : Nat) : Int)), (39, .pointer (some p13)), (41, vl), (42, .int .i64 ((k1 : Nat) : Int)), (43, .pointer (some p14)), (44, .pointer (some (p14.add 0))), (47, .bool true), (40, v16), (45, v17), (46, .bool true)] mixed (by kernel_rfl) (by kernel_rfl) rfl (hS21.draw _) _ rfl ?_ ?_ ?_ (fun w8 hS8 => ?_)
        · refine ⟨fun wq hSw => ?_, ⟨fun wq hSw => ?_, ⟨fun wq hSw => ?_, ⟨fun wq hSw => ?_, ⟨fun wq hSw => ?_, ⟨fun wq hSw => ?_, ⟨fun wq hSw => ?_, ⟨fun wq hSw => ?_, ⟨fun wq hSw => ?_, ⟨fun wq hSw => ?_, ⟨fun wq hSw => ?_, ⟨fun wq hSw => ?_, ⟨fun wq hSw => ?_, trivial⟩⟩⟩⟩⟩⟩⟩⟩⟩⟩⟩⟩⟩
          · refine WL.move rfl ?_
            exact WL.nil ⟨upd_self rfl, rfl⟩
          · refine WL.move rfl ?_
            exact WL.nil ⟨upd_self rfl, rfl⟩
          · refine WL.lenRow (hr1.mono hle2) ul67 rfl rfl ?_
            exact WL.nil ⟨upd_self rfl, rfl⟩
          · refine WL.cmpV .lss rfl .i64 ((k2 : Nat) : Int) (((vals (l.take k1)).length : Nat) : Int) _ hb12 rfl rfl rfl ?_
            exact WL.nil ⟨upd_self rfl, rfl⟩
          · refine WL.move rfl ?_
            exact WL.nil ⟨upd_self rfl, rfl⟩
          · refine WL.move rfl ?_
            exact WL.nil ⟨upd_self rfl, rfl⟩
          · refine WL.move rfl ?_
            exact WL.nil ⟨upd_self rfl, rfl⟩
          · refine WL.indexAddrP k2 ep5 ul67 ti61 rfl rfl rfl rfl ?_
            exact WL.nil ⟨upd_self rfl, rfl⟩
          · refine WL.move rfl ?_
            exact WL.nil ⟨upd_self rfl, rfl⟩
          · refine WL.move rfl ?_
            exact WL.nil ⟨upd_self rfl, rfl⟩
          · refine WL.indexAddrP k1 ep6 ul22 ti63 rfl rfl rfl rfl ?_
            exact WL.nil ⟨upd_self rfl, rfl⟩
          · refine WL.fieldAddr _ 0 _ fl63 rfl rfl rfl ?_
            exact WL.nil ⟨upd_self rfl, rfl⟩
          · refine WL.pickT rfl rfl ?_
            exact WL.nil ⟨upd_self rfl, rfl⟩
        · refine ⟨fun wq hSw => ?_, ⟨fun wq hSw => ?_, trivial⟩⟩
          · refine WL.loadR1' ra9 hSw 0 rfl _ rfl ti61 rfl rfl rfl ?_
            exact WL.nil ⟨upd_self rfl, rfl⟩
          · refine WL.loadG1 hSw (Cells.drop 0 hc5) ti61 rfl rfl rfl ?_
            exact WL.nil ⟨upd_self rfl, rfl⟩
        · refine ⟨fun wq hSw => ?_, trivial⟩
          · refine WL.callF [v16, v17] #[] hb88 rfl rfl rfl ((c_Same _ _ hSw.imm x13 xf.v _ hs13 _ hs14 ).mono ?_)
            rintro e w9 ⟨r9, G9, rfl, hres9, hpost9⟩
            refine ⟨_, rfl, ?_⟩
            subst hpost9
            exact ⟨upd_self (congrArg Value.bool h9.symm), (hSw.call hres9).down hSw.le hres9.le⟩
        have hS22 := hS8
        refine WC.condT rfl ?_
        refine WC.exit ?_
        refine WC.region rfl ?_
        refine WL.move rfl ?_
        refine WL.incr k1 (by have hreach : reach = 140737488355328 := rfl; omega) rfl rfl rfl ?_
        refine WL.assign rfl ?_
        refine WL.nil ?_
        exact ⟨_, ⟨k1 + 1, v1, o1, G2, rfl, (hle1.trans hle2), hS22, (Row.cast (hr1.mono hle2) (by (rw [vals_take hxf]; first | (exfalso; omega) | exact (vals_found' (out := vals (l.take k1)) (k := k2) (by assumption) (by assumption) (by assumption) (by assumption)).symm | (rw [vals_put1 (out := vals (l.take k1)) (k := k2) (by omega) (by omega) (by assumption)]; exact Shift.done (by rw [← hjk]; assumption) (by omega)) | (rw [vals_put2 (out := vals (l.take k1)) (k := k2) (by assumption) (by assumption) (by assumption) (by assumption)]; exact Shift.done (by rw [← hjk]; assumption) (by omega))))), rfl, rfl, rfl, (by omega)⟩, (show l.length - (k1 + 1) < l.length - k1 by omega)⟩
      refine WC.draw ⟨[0, 0, 2, 7, 15, 31, 31, 127, 255, 31, 31, 1567, 3615, 7711, 16383, 32767], [0, 1, 2, 3, 4, 5, 6, 7, 9, 10, 11, 12, 15], [8, 13], [14], []⟩ (St w [] G G2 [o1]) [(32, .int .i64 ((k2 : Nat) : Int)), (33, v1), (34, .int .i64 (((vals (l.take k1)).length : Nat) : Int)), (35, .bool true), (36, .bool true), (37, v1), (38, .int .i64 ((k2 : Nat) : Int)), (39, .pointer (some p13)), (41, vl), (42, .int .i64 ((k1 : Nat) : Int)), (43, .pointer (some p14)), (44, .pointer (some (p14.add 0))), (47, .bool false), (40, v16), (45, v17), (46, .bool false)] mixed (by kernel_rfl) (by kernel_rfl) rfl (hS21.draw _) _ rfl ?_ ?_ ?_ (fun w8 hS8 => ?_)
      · refine ⟨fun wq hSw => ?_, ⟨fun wq hSw => ?_, ⟨fun wq hSw => ?_, ⟨fun wq hSw => ?_, ⟨fun wq hSw => ?_, ⟨fun wq hSw => ?_, ⟨fun wq hSw => ?_, ⟨fun wq hSw => ?_, ⟨fun wq hSw => ?_, ⟨fun wq hSw => ?_, ⟨fun wq hSw => ?_, ⟨fun wq hSw => ?_, ⟨fun wq hSw => ?_, trivial⟩⟩⟩⟩⟩⟩⟩⟩⟩⟩⟩⟩⟩
        · refine WL.move rfl ?_
          exact WL.nil ⟨upd_self rfl, rfl⟩
        · refine WL.move rfl ?_
          exact WL.nil ⟨upd_self rfl, rfl⟩
        · refine WL.lenRow (hr1.mono hle2) ul67 rfl rfl ?_
          exact WL.nil ⟨upd_self rfl, rfl⟩
        · refine WL.cmpV .lss rfl .i64 ((k2 : Nat) : Int) (((vals (l.take k1)).length : Nat) : Int) _ hb12 rfl rfl rfl ?_
          exact WL.nil ⟨upd_self rfl, rfl⟩
        · refine WL.move rfl ?_
          exact WL.nil ⟨upd_self rfl, rfl⟩
        · refine WL.move rfl ?_
          exact WL.nil ⟨upd_self rfl, rfl⟩
        · refine WL.move rfl ?_
          exact WL.nil ⟨upd_self rfl, rfl⟩
        · refine WL.indexAddrP k2 ep5 ul67 ti61 rfl rfl rfl rfl ?_
          exact WL.nil ⟨upd_self rfl, rfl⟩
        · refine WL.move rfl ?_
          exact WL.nil ⟨upd_self rfl, rfl⟩
        · refine WL.move rfl ?_
          exact WL.nil ⟨upd_self rfl, rfl⟩
        · refine WL.indexAddrP k1 ep6 ul22 ti63 rfl rfl rfl rfl ?_
          exact WL.nil ⟨upd_self rfl, rfl⟩
        · refine WL.fieldAddr _ 0 _ fl63 rfl rfl rfl ?_
          exact WL.nil ⟨upd_self rfl, rfl⟩
        · refine WL.pickT rfl rfl ?_
          exact WL.nil ⟨upd_self rfl, rfl⟩
      · refine ⟨fun wq hSw => ?_, ⟨fun wq hSw => ?_, trivial⟩⟩
        · refine WL.loadR1' ra9 hSw 0 rfl _ rfl ti61 rfl rfl rfl ?_
          exact WL.nil ⟨upd_self rfl, rfl⟩
        · refine WL.loadG1 hSw (Cells.drop 0 hc5) ti61 rfl rfl rfl ?_
          exact WL.nil ⟨upd_self rfl, rfl⟩
      · refine ⟨fun wq hSw => ?_, trivial⟩
        · refine WL.callF [v16, v17] #[] hb88 rfl rfl rfl ((c_Same _ _ hSw.imm x13 xf.v _ hs13 _ hs14 ).mono ?_)
          rintro e w9 ⟨r9, G9, rfl, hres9, hpost9⟩
          refine ⟨_, rfl, ?_⟩
          subst hpost9
          exact ⟨upd_self (congrArg Value.bool h9.symm), (hSw.call hres9).down hSw.le hres9.le⟩
      have hS23 := hS8
      refine WC.condF rfl ?_
      refine WC.skip ?_
      refine WC.seq ?_
      refine WC.region rfl ?_
      refine WL.move rfl ?_
      refine WL.buildSlice _ [(0, [.slice none 0 0])] [.slice none 0 0] hS23 sl67 rfl rfl rfl rfl (fun z hz => by match z, hz with | [z0], _ => rfl) (fun b3 w21 hn3 hS24 => ?_)
      refine WL.push (m := ([[]] : List (List Val))) sl67 rfl rfl rfl (hr1.mono hle2) hS24 1 rfl 0 _ _ _ _ _ rfl ⟨[.slice none 0 0], _, rfl, ⟨_, rfl, (Sl.nil ValE 32 G2)⟩, rfl⟩ rfl (by have hreach : reach = 140737488355328 := rfl; simp only [List.length_cons, List.length_nil]; omega) (by have hreach : reach = 140737488355328 := rfl; simp only [List.length_cons, List.length_nil]; omega) rfl rfl rfl (fun v18 o10 w22 hr24 hS25 => ?_)
      have hS26 := hS25.tail
      refine WL.assign rfl ?_
      refine WL.nil ?_
      refine WC.seq ?_
      refine WC.seq ?_
      refine WC.region rfl ?_
      refine WL.move rfl ?_
      have bd7 := hr24.bound
      refine WL.lenRow hr24 ul67 rfl rfl ?_
      refine WL.decr ((vals (l.take k1) ++ [[]]).length) (by first | omega | (simp only [List.length_append, List.length_cons, List.length_nil]; omega)) (by have hreach : reach = 140737488355328 := rfl; first | omega | (simp only [List.length_append, List.length_cons, List.length_nil]; omega)) rfl rfl rfl ?_
      refine WL.assign rfl ?_
      refine WL.nil ?_
      refine WC.block ?_
      refine WC.loop (γ := Nat) (fun m ρ1 w1 => ∃ (j : Nat), ∃ (M : VV), ∃ (o11 : OB), ∃ (G5 : GH), m = (0 + j) ∧ G2.le G5 ∧ St w [] G G5 [o11] w1 ∧ Row (ValE.slice 32) 24 61 G5 v18 M o11 ∧ ρ1 0 = vl ∧ ρ1 3 = v18 ∧ ρ1 4 = .int .i64 ((k1 : Nat) : Int) ∧ ρ1 5 = .int .i64 ((k2 : Nat) : Int) ∧ ρ1 6 = .int .i64 ((j : Nat) : Int) ∧ k2 ≤ j ∧ j ≤ (vals (l.take k1)).length ∧ Shift (vals (l.take k1)) M j) (fun m => m) _ ⟨(vals (l.take k1) ++ [[]]).length - 1, (vals (l.take k1) ++ [[]]), o10, G2, rfl, (G2.le_refl), hS26, hr24, rfl, rfl, rfl, rfl, rfl, (by simp only [List.length_append, List.length_cons, List.length_nil]; omega), (by simp), (by (have e9 : ((vals (l.take k1)) ++ [[]]).length - 1 = (vals (l.take k1)).length := by simp); rw [e9]; exact Shift.start)⟩ ?_
      rintro m ρ1 w23 ⟨j, M, o11, G5, rfl, hle5, hS27, hr25, e18, e19, e20, e21, e22, f10, f11, f12⟩
      refine WC.set (d := 0) e18 ?_
      refine WC.set (d := 3) e19 ?_
      refine WC.set (d := 4) e20 ?_
      refine WC.set (d := 5) e21 ?_
      refine WC.set (d := 6) e22 ?_
      have hsl9 := Shift.len (by assumption : Shift (vals (l.take k1)) M j)
      refine WC.seq ?_
      refine WC.seq ?_
      refine WC.region rfl ?_
      refine WL.move rfl ?_
      refine WL.move rfl ?_
      refine WL.cmpS .gtr rfl .i64 ((j : Nat) : Int) ((k2 : Nat) : Int) rfl rfl rfl (fun (h10 : ((k2 : Nat) : Int) < ((j : Nat) : Int)) => ?_) (fun (h10 : ((j : Nat) : Int) ≤ ((k2 : Nat) : Int)) => ?_)
      · refine WL.nil ?_
        refine WC.condT rfl ?_
        refine WC.skip ?_
        refine WC.seq ?_
        refine WC.block ?_
        refine WC.region rfl ?_
        refine WL.move rfl ?_
        refine WL.move rfl ?_
        refine WL.move rfl ?_
        refine WL.move rfl ?_
        refine WL.decr j (by first | omega | (simp only [List.length_append, List.length_cons, List.length_nil]; omega)) (by have hreach : reach = 140737488355328 := rfl; first | omega | (simp only [List.length_append, List.length_cons, List.length_nil]; omega)) rfl rfl rfl ?_
        refine WL.indexAddrRow hr25 (j - 1) (by omega) ul67 ti61 rfl rfl rfl rfl (fun p15 x15 ec10 hx15 hr26 ra10 => ?_)
        obtain ⟨v19, rfl, hs15⟩ := hr26
        refine WL.loadR1' ra10 hS27 0 rfl _ rfl ti61 rfl rfl rfl ?_
        refine WL.indexAddrRow hr25 j (by omega) ul67 ti61 rfl rfl rfl rfl (fun p16 x16 ec11 hx16 hr27 ra11 => ?_)
        obtain ⟨v20, rfl, hs16⟩ := hr27
        refine WL.storeR0 hr25 ra11 hS27 0 rfl (by omega) rfl 0 _ [v19] x15 [v19] hs15.cells1 ti61 rfl (Nat.le_of_ble_eq_true rfl) (by simp only [List.all_cons, List.all_nil, hs15.oneC, Bool.true_and] <;> rfl) rfl ⟨_, rfl, hs15⟩ rfl rfl rfl rfl (fun o12 w24 hr28 hS28 => ?_)
        refine WL.nil ?_
        refine WC.region rfl ?_
        refine WL.move rfl ?_
        refine WL.decr j (by first | omega | (simp only [List.length_append, List.length_cons, List.length_nil]; omega)) (by have hreach : reach = 140737488355328 := rfl; first | omega | (simp only [List.length_append, List.length_cons, List.length_nil]; omega)) rfl rfl rfl ?_
        refine WL.assign rfl ?_
        refine WL.nil ?_
        exact ⟨_, ⟨j - 1, (M.set j x15), o12, G5, rfl, hle5, hS28, hr28, rfl, rfl, rfl, rfl, rfl, (by omega), (by omega), (by exact Shift.step (by assumption) (by omega) (by assumption))⟩, (show (0 + (j - 1)) < (0 + j) by omega)⟩
      refine WL.nil ?_
      refine WC.condF rfl ?_
      refine WC.exit ?_
      have hjk : j = k2 := by omega
      refine WC.region rfl ?_
      refine WL.move rfl ?_
      refine WL.move rfl ?_
      refine WL.move rfl ?_
      refine WL.move rfl ?_
      refine WL.indexAddr (hvl.mono ((hle1.trans hle2).trans hle5)) k1 (by omega) ul22 ti63 rfl rfl rfl rfl (fun p17 x17 hx17 he6 => ?_)
      obtain rfl : xf = x17 := Option.some.inj (hxf.symm.trans hx17)
      obtain ⟨cs6, hc6, hr29⟩ := he6
      obtain ⟨v21, rfl, hs17, hb15, hb16⟩ := FactE_open hr29
      refine WL.fieldAddr _ 0 _ fl63 rfl rfl rfl ?_
      refine WL.loadG1 hS27 (Cells.drop 0 hc6) ti61 rfl rfl rfl ?_
      refine WL.indexAddrRow hr25 k2 (by omega) ul67 ti61 rfl rfl rfl rfl (fun p18 x18 ec12 hx18 hr30 ra12 => ?_)
      obtain ⟨v22, rfl, hs18⟩ := hr30
      refine WL.storeR0 hr25 ra12 hS27 0 rfl (by omega) rfl 0 _ [v21] xf.v [v21] hs17.cells1 ti61 rfl (Nat.le_of_ble_eq_true rfl) (by simp only [List.all_cons, List.all_nil, hs17.oneC, Bool.true_and] <;> rfl) rfl ⟨_, rfl, hs17⟩ rfl rfl rfl rfl (fun o13 w25 hr31 hS29 => ?_)
      refine WL.nil ?_
      refine WC.region rfl ?_
      refine WL.move rfl ?_
      refine WL.incr k1 (by have hreach : reach = 140737488355328 := rfl; omega) rfl rfl rfl ?_
      refine WL.assign rfl ?_
      refine WL.nil ?_
      exact ⟨_, ⟨k1 + 1, v18, o13, G5, rfl, (hle1.trans (hle2.trans hle5)), hS29, (Row.cast hr31 (by (rw [vals_take hxf]; first | (exfalso; omega) | exact (vals_found' (out := vals (l.take k1)) (k := k2) (by assumption) (by assumption) (by assumption) (by assumption)).symm | (rw [vals_put1 (out := vals (l.take k1)) (k := k2) (by omega) (by omega) (by assumption)]; exact Shift.done (by rw [← hjk]; assumption) (by omega)) | (rw [vals_put2 (out := vals (l.take k1)) (k := k2) (by assumption) (by assumption) (by assumption) (by assumption)]; exact Shift.done (by rw [← hjk]; assumption) (by omega))))), rfl, rfl, rfl, (by omega)⟩, (show l.length - (k1 + 1) < l.length - k1 by omega)⟩
    have h8 : (((vals (l.take k1)).length : Nat) : Int) ≤ ((k2 : Nat) : Int) := q4
    clear q4
    refine WC.draw ⟨[0, 0, 2, 7, 15, 31, 31, 127, 255, 31, 31, 1567, 3615, 7711, 16383, 32767], [0, 1, 2, 3, 4, 5, 6, 7, 9, 10, 11, 12, 15], [8, 13], [14], []⟩ (St w [] G G2 [o1]) [(32, .int .i64 ((k2 : Nat) : Int)), (33, v1), (34, .int .i64 (((vals (l.take k1)).length : Nat) : Int)), (35, .bool false), (36, .bool false), (37, undef), (38, undef), (39, undef), (41, undef), (42, undef), (43, undef), (44, undef), (47, .bool false), (40, undef), (45, undef), (46, undef)] mixed (by kernel_rfl) (by kernel_rfl) rfl (hS21.draw _) _ rfl ?_ ?_ ?_ (fun w8 hS8 => ?_)
    · refine ⟨fun wq hSw => ?_, ⟨fun wq hSw => ?_, ⟨fun wq hSw => ?_, ⟨fun wq hSw => ?_, ⟨fun wq hSw => ?_, ⟨fun wq hSw => ?_, ⟨fun wq hSw => ?_, ⟨fun wq hSw => ?_, ⟨fun wq hSw => ?_, ⟨fun wq hSw => ?_, ⟨fun wq hSw => ?_, ⟨fun wq hSw => ?_, ⟨fun wq hSw => ?_, trivial⟩⟩⟩⟩⟩⟩⟩⟩⟩⟩⟩⟩⟩
      · refine WL.move rfl ?_
        exact WL.nil ⟨upd_self rfl, rfl⟩
      · refine WL.move rfl ?_
        exact WL.nil ⟨upd_self rfl, rfl⟩
      · refine WL.lenRow (hr1.mono hle2) ul67 rfl rfl ?_
        exact WL.nil ⟨upd_self rfl, rfl⟩
      · refine WL.cmpV .lss rfl .i64 ((k2 : Nat) : Int) (((vals (l.take k1)).length : Nat) : Int) _ hb12 rfl rfl rfl ?_
        exact WL.nil ⟨upd_self rfl, rfl⟩
      · refine WL.move rfl ?_
        exact WL.nil ⟨upd_self rfl, rfl⟩
      · refine WL.no rfl rfl ?_
        exact WL.nil ⟨upd_self rfl, rfl⟩
      · refine WL.no rfl rfl ?_
        exact WL.nil ⟨upd_self rfl, rfl⟩
      · refine WL.no rfl rfl ?_
        exact WL.nil ⟨upd_self rfl, rfl⟩
      · refine WL.no rfl rfl ?_
        exact WL.nil ⟨upd_self rfl, rfl⟩
      · refine WL.no rfl rfl ?_
        exact WL.nil ⟨upd_self rfl, rfl⟩
      · refine WL.no rfl rfl ?_
        exact WL.nil ⟨upd_self rfl, rfl⟩
      · refine WL.no rfl rfl ?_
        exact WL.nil ⟨upd_self rfl, rfl⟩
      · refine WL.pickF rfl rfl ?_
        exact WL.nil ⟨upd_self rfl, rfl⟩
    · refine ⟨fun wq hSw => ?_, ⟨fun wq hSw => ?_, trivial⟩⟩
      · refine WL.no rfl rfl ?_
        exact WL.nil ⟨upd_self rfl, rfl⟩
      · refine WL.no rfl rfl ?_
        exact WL.nil ⟨upd_self rfl, rfl⟩
    · refine ⟨fun wq hSw => ?_, trivial⟩
      · refine WL.no rfl rfl ?_
        exact WL.nil ⟨upd_self rfl, hSw⟩
    have hS30 := hS8
    refine WC.condF rfl ?_
    refine WC.skip ?_
    refine WC.seq ?_
    refine WC.region rfl ?_
    refine WL.move rfl ?_
    refine WL.buildSlice _ [(0, [.slice none 0 0])] [.slice none 0 0] hS30 sl67 rfl rfl rfl rfl (fun z hz => by match z, hz with | [z0], _ => rfl) (fun b4 w27 hn4 hS31 => ?_)
    refine WL.push (m := ([[]] : List (List Val))) sl67 rfl rfl rfl (hr1.mono hle2) hS31 1 rfl 0 _ _ _ _ _ rfl ⟨[.slice none 0 0], _, rfl, ⟨_, rfl, (Sl.nil ValE 32 G2)⟩, rfl⟩ rfl (by have hreach : reach = 140737488355328 := rfl; simp only [List.length_cons, List.length_nil]; omega) (by have hreach : reach = 140737488355328 := rfl; simp only [List.length_cons, List.length_nil]; omega) rfl rfl rfl (fun v23 o14 w28 hr32 hS32 => ?_)
    have hS33 := hS32.tail
    refine WL.assign rfl ?_
    refine WL.nil ?_
    refine WC.seq ?_
    refine WC.seq ?_
    refine WC.region rfl ?_
    refine WL.move rfl ?_
    have bd8 := hr32.bound
    refine WL.lenRow hr32 ul67 rfl rfl ?_
    refine WL.decr ((vals (l.take k1) ++ [[]]).length) (by first | omega | (simp only [List.length_append, List.length_cons, List.length_nil]; omega)) (by have hreach : reach = 140737488355328 := rfl; first | omega | (simp only [List.length_append, List.length_cons, List.length_nil]; omega)) rfl rfl rfl ?_
    refine WL.assign rfl ?_
    refine WL.nil ?_
    refine WC.block ?_
    refine WC.loop (γ := Nat) (fun m ρ1 w1 => ∃ (j : Nat), ∃ (M : VV), ∃ (o15 : OB), ∃ (G6 : GH), m = (0 + j) ∧ G2.le G6 ∧ St w [] G G6 [o15] w1 ∧ Row (ValE.slice 32) 24 61 G6 v23 M o15 ∧ ρ1 0 = vl ∧ ρ1 3 = v23 ∧ ρ1 4 = .int .i64 ((k1 : Nat) : Int) ∧ ρ1 5 = .int .i64 ((k2 : Nat) : Int) ∧ ρ1 6 = .int .i64 ((j : Nat) : Int) ∧ k2 ≤ j ∧ j ≤ (vals (l.take k1)).length ∧ Shift (vals (l.take k1)) M j) (fun m => m) _ ⟨(vals (l.take k1) ++ [[]]).length - 1, (vals (l.take k1) ++ [[]]), o14, G2, rfl, (G2.le_refl), hS33, hr32, rfl, rfl, rfl, rfl, rfl, (by simp only [List.length_append, List.length_cons, List.length_nil]; omega), (by simp), (by (have e9 : ((vals (l.take k1)) ++ [[]]).length - 1 = (vals (l.take k1)).length := by simp); rw [e9]; exact Shift.start)⟩ ?_
    rintro m ρ1 w29 ⟨j, M, o15, G6, rfl, hle6, hS34, hr33, e23, e24, e25, e26, e27, f13, f14, f15⟩
    refine WC.set (d := 0) e23 ?_
    refine WC.set (d := 3) e24 ?_
    refine WC.set (d := 4) e25 ?_
    refine WC.set (d := 5) e26 ?_
    refine WC.set (d := 6) e27 ?_
    have hsl9 := Shift.len (by assumption : Shift (vals (l.take k1)) M j)
    refine WC.seq ?_
    refine WC.seq ?_
    refine WC.region rfl ?_
    refine WL.move rfl ?_
    refine WL.move rfl ?_
    refine WL.cmpS .gtr rfl .i64 ((j : Nat) : Int) ((k2 : Nat) : Int) rfl rfl rfl (fun (h11 : ((k2 : Nat) : Int) < ((j : Nat) : Int)) => ?_) (fun (h11 : ((j : Nat) : Int) ≤ ((k2 : Nat) : Int)) => ?_)
    · refine WL.nil ?_
      refine WC.condT rfl ?_
      refine WC.skip ?_
      refine WC.seq ?_
      refine WC.block ?_
      refine WC.region rfl ?_
      refine WL.move rfl ?_
      refine WL.move rfl ?_
      refine WL.move rfl ?_
      refine WL.move rfl ?_
      refine WL.decr j (by first | omega | (simp only [List.length_append, List.length_cons, List.length_nil]; omega)) (by have hreach : reach = 140737488355328 := rfl; first | omega | (simp only [List.length_append, List.length_cons, List.length_nil]; omega)) rfl rfl rfl ?_
      refine WL.indexAddrRow hr33 (j - 1) (by omega) ul67 ti61 rfl rfl rfl rfl (fun p19 x19 ec13 hx19 hr34 ra13 => ?_)
      obtain ⟨v24, rfl, hs19⟩ := hr34
      refine WL.loadR1' ra13 hS34 0 rfl _ rfl ti61 rfl rfl rfl ?_
      refine WL.indexAddrRow hr33 j (by omega) ul67 ti61 rfl rfl rfl rfl (fun p20 x20 ec14 hx20 hr35 ra14 => ?_)
      obtain ⟨v25, rfl, hs20⟩ := hr35
      refine WL.storeR0 hr33 ra14 hS34 0 rfl (by omega) rfl 0 _ [v24] x19 [v24] hs19.cells1 ti61 rfl (Nat.le_of_ble_eq_true rfl) (by simp only [List.all_cons, List.all_nil, hs19.oneC, Bool.true_and] <;> rfl) rfl ⟨_, rfl, hs19⟩ rfl rfl rfl rfl (fun o16 w30 hr36 hS35 => ?_)
      refine WL.nil ?_
      refine WC.region rfl ?_
      refine WL.move rfl ?_
      refine WL.decr j (by first | omega | (simp only [List.length_append, List.length_cons, List.length_nil]; omega)) (by have hreach : reach = 140737488355328 := rfl; first | omega | (simp only [List.length_append, List.length_cons, List.length_nil]; omega)) rfl rfl rfl ?_
      refine WL.assign rfl ?_
      refine WL.nil ?_
      exact ⟨_, ⟨j - 1, (M.set j x19), o16, G6, rfl, hle6, hS35, hr36, rfl, rfl, rfl, rfl, rfl, (by omega), (by omega), (by exact Shift.step (by assumption) (by omega) (by assumption))⟩, (show (0 + (j - 1)) < (0 + j) by omega)⟩
    refine WL.nil ?_
    refine WC.condF rfl ?_
    refine WC.exit ?_
    have hjk : j = k2 := by omega
    refine WC.region rfl ?_
    refine WL.move rfl ?_
    refine WL.move rfl ?_
    refine WL.move rfl ?_
    refine WL.move rfl ?_
    refine WL.indexAddr (hvl.mono ((hle1.trans hle2).trans hle6)) k1 (by omega) ul22 ti63 rfl rfl rfl rfl (fun p21 x21 hx21 he7 => ?_)
    obtain rfl : xf = x21 := Option.some.inj (hxf.symm.trans hx21)
    obtain ⟨cs7, hc7, hr37⟩ := he7
    obtain ⟨v26, rfl, hs21, hb17, hb18⟩ := FactE_open hr37
    refine WL.fieldAddr _ 0 _ fl63 rfl rfl rfl ?_
    refine WL.loadG1 hS34 (Cells.drop 0 hc7) ti61 rfl rfl rfl ?_
    refine WL.indexAddrRow hr33 k2 (by omega) ul67 ti61 rfl rfl rfl rfl (fun p22 x22 ec15 hx22 hr38 ra15 => ?_)
    obtain ⟨v27, rfl, hs22⟩ := hr38
    refine WL.storeR0 hr33 ra15 hS34 0 rfl (by omega) rfl 0 _ [v26] xf.v [v26] hs21.cells1 ti61 rfl (Nat.le_of_ble_eq_true rfl) (by simp only [List.all_cons, List.all_nil, hs21.oneC, Bool.true_and] <;> rfl) rfl ⟨_, rfl, hs21⟩ rfl rfl rfl rfl (fun o17 w31 hr39 hS36 => ?_)
    refine WL.nil ?_
    refine WC.region rfl ?_
    refine WL.move rfl ?_
    refine WL.incr k1 (by have hreach : reach = 140737488355328 := rfl; omega) rfl rfl rfl ?_
    refine WL.assign rfl ?_
    refine WL.nil ?_
    exact ⟨_, ⟨k1 + 1, v23, o17, G6, rfl, (hle1.trans (hle2.trans hle6)), hS36, (Row.cast hr39 (by (rw [vals_take hxf]; first | (exfalso; omega) | exact (vals_found' (out := vals (l.take k1)) (k := k2) (by assumption) (by assumption) (by assumption) (by assumption)).symm | (rw [vals_put1 (out := vals (l.take k1)) (k := k2) (by omega) (by omega) (by assumption)]; exact Shift.done (by rw [← hjk]; assumption) (by omega)) | (rw [vals_put2 (out := vals (l.take k1)) (k := k2) (by assumption) (by assumption) (by assumption) (by assumption)]; exact Shift.done (by rw [← hjk]; assumption) (by omega))))), rfl, rfl, rfl, (by omega)⟩, (show l.length - (k1 + 1) < l.length - k1 by omega)⟩
  refine WL.nil ?_
  refine WC.condF rfl ?_
  refine WC.exit ?_
  refine WC.seq ?_
  refine WC.region rfl ?_
  refine WL.move rfl ?_
  refine WL.assign rfl ?_
  refine WL.nil ?_
  refine WC.ret ?_
  obtain ⟨G7, hle7, hs23, hS37⟩ := Row.freeze hr1 hS1 0 rfl
  exact ⟨v1, rfl, v1, _, rfl, hS37.res, (Sl.cast hs23 (by exact vals_all (by omega)))⟩

theorem c_times (G : GH) (w : World) (hG : G.In w) (l : List Fact) (v : List Val) (vl : Value) (hvl : Sl FactE 40 G vl l) (vv : Value) (hvv : Sl ValE 32 G vv v) (hg : Good l) (hl : l.length ≤ 1000) : Calls Tryz.prog (nat_lit 78) #[vl, vv] w fun e w' => ∃ r G', e = .returned r ∧ Res [] w G w' G' ∧ Sl SpanE 16 G' r (canon (timesOf l v)) := by
  refine calls_of_WC (N := 34) Tryz.func78 rfl rfl rfl ?_
  have hS := St.start (X := []) hG
  refine WC.seq ?_
  refine WC.region rfl ?_
  refine WL.assign rfl ?_
  refine WL.nil ?_
  refine WC.seq ?_
  refine WC.region rfl ?_
  refine WL.assign rfl ?_
  refine WL.nil ?_
  refine WC.seq ?_
  refine WC.seq ?_
  refine WC.region rfl ?_
  refine WL.assign rfl ?_
  refine WL.nil ?_
  refine WC.block ?_
  have hS2 := hS.pad
  refine WC.loop (γ := Nat) (fun m ρ1 w1 => ∃ (k1 : Nat), ∃ (v1 : Value) (o1 : OB), ∃ (G1 : GH), m = l.length - k1 ∧ G.le G1 ∧ St w [] G G1 [o1] w1 ∧ Row SpanE 16 46 G1 v1 (timesOf (l.take k1) v) o1 ∧ ρ1 0 = vl ∧ ρ1 1 = vv ∧ ρ1 5 = v1 ∧ ρ1 6 = .int .i64 ((k1 : Nat) : Int) ∧ k1 ≤ l.length) (fun m => m) _ ⟨0, (.slice none 0 0), none, G, rfl, (G.le_refl), hS2, (Row.nil SpanE 16 46 G), rfl, rfl, rfl, rfl, (by omega)⟩ ?_
  rintro m ρ1 w1 ⟨k1, v1, o1, G1, rfl, hle1, hS1, hr1, e1, e2, e3, e4, f1⟩
  refine WC.set (d := 0) e1 ?_
  refine WC.set (d := 1) e2 ?_
  refine WC.set (d := 5) e3 ?_
  refine WC.set (d := 6) e4 ?_
  have hT9 := timesOf_takeLen l k1 v
  refine WC.seq ?_
  refine WC.seq ?_
  refine WC.region rfl ?_
  refine WL.move rfl ?_
  refine WL.move rfl ?_
  have bd1 := hvl.bound
  refine WL.lenSl (hvl.mono hle1) ul22 rfl rfl ?_
  refine WL.cmpS .lss rfl .i64 ((k1 : Nat) : Int) ((l.length : Nat) : Int) rfl rfl rfl (fun (h1 : ((k1 : Nat) : Int) < ((l.length : Nat) : Int)) => ?_) (fun (h1 : ((l.length : Nat) : Int) ≤ ((k1 : Nat) : Int)) => ?_)
  · refine WL.nil ?_
    refine WC.condT rfl ?_
    refine WC.skip ?_
    refine WC.seq ?_
    refine WC.block ?_
    refine WC.seq ?_
    refine WC.region rfl ?_
    refine WL.move rfl ?_
    refine WL.move rfl ?_
    refine WL.indexAddr (hvl.mono hle1) k1 (by omega) ul22 ti63 rfl rfl rfl rfl (fun p1 x1 hx1 he1 => ?_)
    obtain ⟨cs1, hc1, hr2⟩ := he1
    obtain ⟨v2, rfl, hs1, hb1, hb2⟩ := FactE_open hr2
    refine WL.fieldAddr _ 0 _ fl63 rfl rfl rfl ?_
    refine WL.loadG1 hS1 (Cells.drop 0 hc1) ti61 rfl rfl rfl ?_
    refine WL.move rfl ?_
    refine WL.callF [v2, vv] #[] hb88 rfl rfl rfl ((c_Same _ _ hS1.imm x1.v v _ hs1 _ (hvv.mono hle1) ).mono ?_)
    rintro e w2 ⟨r1, G2, rfl, hres1, hpost1⟩
    refine ⟨_, rfl, ?_⟩
    have hS3 := hS1.call hres1
    have hle2 := hres1.le
    subst hpost1
    refine WL.split (fun (h2 : (decide (x1.v = v)) = true) => ?_) (fun (h2 : (decide (x1.v = v)) = false) => ?_)
    · refine WL.nil ?_
      refine WC.condT rfl ?_
      refine WC.region rfl ?_
      refine WL.move rfl ?_
      refine WL.move rfl ?_
      refine WL.move rfl ?_
      refine WL.indexAddr (hvl.mono (hle1.trans hle2)) k1 (by omega) ul22 ti63 rfl rfl rfl rfl (fun p2 x2 hx2 he2 => ?_)
      obtain rfl : x1 = x2 := Option.some.inj (hx1.symm.trans hx2)
      obtain ⟨cs2, hc2, hr3⟩ := he2
      obtain ⟨v3, rfl, hs2, hb3, hb4⟩ := FactE_open hr3
      refine WL.fieldAddr _ 1 _ fl63 rfl rfl rfl ?_
      refine WL.loadGAt hS3 (Cells.drop 1 hc2) [.int .i64 x1.t.a, .int .i64 x1.t.b] ti46 rfl rfl rfl rfl rfl ?_
      refine WL.buildSlice _ [(0, [.int .i64 x1.t.a, .int .i64 x1.t.b])] [.int .i64 x1.t.a, .int .i64 x1.t.b] hS3 sl111 rfl rfl rfl rfl (fun z hz => by match z, hz with | [z0, z1], _ => rfl) (fun b1 w3 hn1 hS4 => ?_)
      refine WL.push (m := ([x1.t] : List Span)) sl111 rfl rfl rfl (hr1.mono hle2) hS4 1 rfl 0 _ _ _ _ _ rfl ⟨[.int .i64 x1.t.a, .int .i64 x1.t.b], _, rfl, (SpanE_mk x1.t hb3 hb4), rfl⟩ rfl (by have hreach : reach = 140737488355328 := rfl; simp only [List.length_cons, List.length_nil]; omega) (by have hreach : reach = 140737488355328 := rfl; simp only [List.length_cons, List.length_nil]; omega) rfl rfl rfl (fun v4 o2 w4 hr4 hS5 => ?_)
      have hS6 := hS5.tail
      refine WL.assign rfl ?_
      refine WL.nil ?_
      refine WC.region rfl ?_
      refine WL.move rfl ?_
      refine WL.incr k1 (by have hreach : reach = 140737488355328 := rfl; omega) rfl rfl rfl ?_
      refine WL.assign rfl ?_
      refine WL.nil ?_
      exact ⟨_, ⟨k1 + 1, v4, o2, G2, rfl, (hle1.trans hle2), hS6, (Row.cast hr4 (by (first | exact (timesOf_yes (by assumption) (by assumption)).symm | exact (timesOf_no (by assumption) (by assumption)).symm))), rfl, rfl, rfl, rfl, (by omega)⟩, (show l.length - (k1 + 1) < l.length - k1 by omega)⟩
    refine WL.nil ?_
    refine WC.condF rfl ?_
    refine WC.skip ?_
    refine WC.region rfl ?_
    refine WL.move rfl ?_
    refine WL.incr k1 (by have hreach : reach = 140737488355328 := rfl; omega) rfl rfl rfl ?_
    refine WL.assign rfl ?_
    refine WL.nil ?_
    exact ⟨_, ⟨k1 + 1, v1, o1, G2, rfl, (hle1.trans hle2), hS3, (Row.cast (hr1.mono hle2) (by (first | exact (timesOf_yes (by assumption) (by assumption)).symm | exact (timesOf_no (by assumption) (by assumption)).symm))), rfl, rfl, rfl, rfl, (by omega)⟩, (show l.length - (k1 + 1) < l.length - k1 by omega)⟩
  refine WL.nil ?_
  refine WC.condF rfl ?_
  refine WC.exit ?_
  refine WC.seq ?_
  refine WC.region rfl ?_
  refine WL.move rfl ?_
  obtain ⟨G3, hle3, hs3, hS7⟩ := Row.freeze hr1 hS1 0 rfl
  refine WL.callF [v1] #[] hb137 rfl rfl rfl ((c_Of _ _ hS7.imm (timesOf (l.take k1) v) _ hs3 (by rw [timesOf_all (by omega)]; exact timesOf_good hg v) (by omega)).mono ?_)
  rintro e w5 ⟨r2, G4, rfl, hres2, hpost2⟩
  refine ⟨_, rfl, ?_⟩
  have hS8 := hS7.call hres2
  have hle4 := hres2.le
  obtain ⟨r3, r4, rfl, hs4, rfl⟩ := hpost2
  refine WL.move rfl ?_
  refine WL.extract _ _ rfl rfl rfl ?_
  refine WL.extract _ _ rfl rfl rfl ?_
  refine WL.assign rfl ?_
  refine WL.nil ?_
  refine WC.seq ?_
  refine WC.region rfl ?_
  refine WL.move rfl ?_
  refine WL.assign rfl ?_
  refine WL.nil ?_
  refine WC.ret ?_
  exact ⟨r3, rfl, r3, _, rfl, hS8.res, (Sl.cast hs4 (by rw [timesOf_all (by omega)]))⟩

theorem c_rNormal (G : GH) (w : World) (hG : G.In w) (l : List Fact) (vl : Value) (hvl : Sl FactE 40 G vl l) (hg : Good l) (hl : l.length ≤ 1000) : Calls Tryz.prog (nat_lit 47) #[vl] w fun e w' => ∃ r G', e = .returned r ∧ Res [] w G w' G' ∧ Sl FactE 40 G' r (rnf l) := by
  refine calls_of_WC (N := 41) Tryz.func47 rfl rfl rfl ?_
  have hN9 := rnf_len hg
  have hS := St.start (X := []) hG
  refine WC.seq ?_
  refine WC.region rfl ?_
  refine WL.assign rfl ?_
  refine WL.nil ?_
  refine WC.seq ?_
  refine WC.region rfl ?_
  refine WL.move rfl ?_
  refine WL.callF [vl] #[] hb76 rfl rfl rfl ((c_values _ _ hS.imm l _ hvl (by omega)).mono ?_)
  rintro e w1 ⟨r1, G1, rfl, hres1, hpost1⟩
  refine ⟨_, rfl, ?_⟩
  have hS1 := hS.call hres1
  have hle1 := hres1.le
  refine WL.assign rfl ?_
  refine WL.nil ?_
  refine WC.seq ?_
  refine WC.region rfl ?_
  refine WL.assign rfl ?_
  refine WL.nil ?_
  refine WC.seq ?_
  refine WC.seq ?_
  refine WC.region rfl ?_
  refine WL.assign rfl ?_
  refine WL.nil ?_
  refine WC.block ?_
  have hS3 := hS1.pad
  refine WC.loop (γ := Nat) (fun m ρ1 w1 => ∃ (k1 : Nat), ∃ (v1 : Value) (o1 : OB), ∃ (G2 : GH), m = (vals l).length - k1 ∧ G1.le G2 ∧ St w [] G G2 [o1] w1 ∧ Row FactE 40 63 G2 v1 (rnfN l ((vals l).take k1)) o1 ∧ ρ1 0 = vl ∧ ρ1 3 = r1 ∧ ρ1 4 = v1 ∧ ρ1 5 = .int .i64 ((k1 : Nat) : Int) ∧ k1 ≤ (vals l).length) (fun m => m) _ ⟨0, (.slice none 0 0), none, G1, rfl, (G1.le_refl), hS3, (Row.nil FactE 40 63 G1), rfl, rfl, rfl, rfl, (by omega)⟩ ?_
  rintro m ρ1 w2 ⟨k1, v1, o1, G2, rfl, hle2, hS2, hr1, e1, e2, e3, e4, f1⟩
  refine WC.set (d := 0) e1 ?_
  refine WC.set (d := 3) e2 ?_
  refine WC.set (d := 4) e3 ?_
  refine WC.set (d := 5) e4 ?_
  refine WC.seq ?_
  refine WC.seq ?_
  refine WC.region rfl ?_
  refine WL.move rfl ?_
  refine WL.move rfl ?_
  have bd1 := hpost1.bound
  refine WL.lenSl (hpost1.mono hle2) ul67 rfl rfl ?_
  refine WL.cmpS .lss rfl .i64 ((k1 : Nat) : Int) (((vals l).length : Nat) : Int) rfl rfl rfl (fun (h1 : ((k1 : Nat) : Int) < (((vals l).length : Nat) : Int)) => ?_) (fun (h1 : (((vals l).length : Nat) : Int) ≤ ((k1 : Nat) : Int)) => ?_)
  · refine WL.nil ?_
    refine WC.condT rfl ?_
    refine WC.skip ?_
    refine WC.seq ?_
    refine WC.block ?_
    refine WC.seq ?_
    refine WC.region rfl ?_
    refine WL.move rfl ?_
    refine WL.move rfl ?_
    refine WL.move rfl ?_
    refine WL.indexAddr (hpost1.mono hle2) k1 (by omega) ul67 ti61 rfl rfl rfl rfl (fun p1 x1 hx1 he1 => ?_)
    obtain ⟨cs1, hc1, hr2⟩ := he1
    obtain ⟨v2, rfl, hs1⟩ := hr2
    refine WL.loadG1 hS2 hc1 ti61 rfl rfl rfl ?_
    refine WL.callF [vl, v2] #[] hb78 rfl rfl rfl ((c_times _ _ hS2.imm l x1 _ (hvl.mono (hle1.trans hle2)) _ hs1 hg hl).mono ?_)
    rintro e w3 ⟨r2, G3, rfl, hres2, hpost2⟩
    refine ⟨_, rfl, ?_⟩
    have hS4 := hS2.call hres2
    have hle3 := hres2.le
    refine WL.assign rfl ?_
    refine WL.nil ?_
    refine WC.seq ?_
    refine WC.region rfl ?_
    refine WL.assign rfl ?_
    refine WL.nil ?_
    refine WC.block ?_
    refine WC.loop (γ := Nat) (fun m ρ1 w1 => ∃ (k2 : Nat), ∃ (v3 : Value) (o2 : OB), ∃ (G4 : GH), m = (canon (timesOf l x1)).length - k2 ∧ G3.le G4 ∧ St w [] G G4 [o2] w1 ∧ Row FactE 40 63 G4 v3 (rnfN l ((vals l).take k1) ++ ((canon (timesOf l x1)).take k2).map (Fact.mk x1)) o2 ∧ ρ1 0 = vl ∧ ρ1 3 = r1 ∧ ρ1 4 = v3 ∧ ρ1 5 = .int .i64 ((k1 : Nat) : Int) ∧ ρ1 6 = r2 ∧ ρ1 7 = .int .i64 ((k2 : Nat) : Int) ∧ k2 ≤ (canon (timesOf l x1)).length) (fun m => m) _ ⟨0, v1, o1, G3, rfl, (G3.le_refl), hS4, (Row.cast (hr1.mono hle3) (by simp)), rfl, rfl, rfl, rfl, rfl, rfl, (by omega)⟩ ?_
    rintro m ρ1 w4 ⟨k2, v3, o2, G4, rfl, hle4, hS5, hr3, e5, e6, e7, e8, e9, e10, f2⟩
    refine WC.set (d := 0) e5 ?_
    refine WC.set (d := 3) e6 ?_
    refine WC.set (d := 4) e7 ?_
    refine WC.set (d := 5) e8 ?_
    refine WC.set (d := 6) e9 ?_
    refine WC.set (d := 7) e10 ?_
    have hP9 := rnf_part (l := l) (j := k2) hx1
    refine WC.seq ?_
    refine WC.seq ?_
    refine WC.region rfl ?_
    refine WL.move rfl ?_
    refine WL.move rfl ?_
    have bd2 := hpost2.bound
    refine WL.lenSl (hpost2.mono hle4) ul111 rfl rfl ?_
    refine WL.cmpS .lss rfl .i64 ((k2 : Nat) : Int) (((canon (timesOf l x1)).length : Nat) : Int) rfl rfl rfl (fun (h2 : ((k2 : Nat) : Int) < (((canon (timesOf l x1)).length : Nat) : Int)) => ?_) (fun (h2 : (((canon (timesOf l x1)).length : Nat) : Int) ≤ ((k2 : Nat) : Int)) => ?_)
    · refine WL.nil ?_
      refine WC.condT rfl ?_
      refine WC.skip ?_
      refine WC.seq ?_
      refine WC.block ?_
      obtain ⟨p2, x2, hx2, he2, ep1⟩ := Sl.at (hpost1.mono ((hle2.trans hle3).trans hle4)) k1 (by omega)
      obtain rfl : x1 = x2 := Option.some.inj (hx1.symm.trans hx2)
      obtain ⟨cs2, hc2, hr4⟩ := he2
      obtain ⟨v4, rfl, hs2⟩ := hr4
      obtain ⟨p3, x3, hx3, he3, ep2⟩ := Sl.at (hpost2.mono hle4) k2 (by omega)
      obtain ⟨cs3, hc3, hr5⟩ := he3
      obtain ⟨rfl, hb1, hb2⟩ := SpanE_open hr5
      refine WC.draw ⟨[0, 0, 0, 6, 14, 0, 0, 96, 224, 510, 1022, 2047, 4095], [0, 1, 2, 3, 5, 6, 7, 9], [4, 8], [], [10, 11, 12]⟩ (St w [] G G4 [o2]) [(28, v3), (29, r1), (30, .int .i64 ((k1 : Nat) : Int)), (31, .pointer (some p2)), (33, r2), (34, .int .i64 ((k2 : Nat) : Int)), (35, .pointer (some p3)), (37, .agg #[v4, .int .i64 x3.a, .int .i64 x3.b]), (32, v4), (36, .agg #[.int .i64 x3.a, .int .i64 x3.b])] mixed (by kernel_rfl) (by kernel_rfl) rfl (hS5.draw _) _ rfl ?_ ?_ ?_ (fun w8 hS8 => ?_)
      · refine ⟨fun wq hSw => ?_, ⟨fun wq hSw => ?_, ⟨fun wq hSw => ?_, ⟨fun wq hSw => ?_, ⟨fun wq hSw => ?_, ⟨fun wq hSw => ?_, ⟨fun wq hSw => ?_, ⟨fun wq hSw => ?_, trivial⟩⟩⟩⟩⟩⟩⟩⟩
        · refine WL.move rfl ?_
          exact WL.nil ⟨upd_self rfl, rfl⟩
        · refine WL.move rfl ?_
          exact WL.nil ⟨upd_self rfl, rfl⟩
        · refine WL.move rfl ?_
          exact WL.nil ⟨upd_self rfl, rfl⟩
        · refine WL.indexAddrP k1 ep1 ul67 ti61 rfl rfl rfl rfl ?_
          exact WL.nil ⟨upd_self rfl, rfl⟩
        · refine WL.move rfl ?_
          exact WL.nil ⟨upd_self rfl, rfl⟩
        · refine WL.move rfl ?_
          exact WL.nil ⟨upd_self rfl, rfl⟩
        · refine WL.indexAddrP k2 ep2 ul111 ti46 rfl rfl rfl rfl ?_
          exact WL.nil ⟨upd_self rfl, rfl⟩
        · refine WL.build _ [(0, [v4]), (1, [.int .i64 x3.a, .int .i64 x3.b])] [v4, .int .i64 x3.a, .int .i64 x3.b] ti63 rfl fl63 rfl rfl (by show [(0, (v4 : Value).cells.toList), (1, (.agg #[.int .i64 x3.a, .int .i64 x3.b] : Value).cells.toList)] = _; simp only [hs2.cells1] <;> rfl) rfl ?_
          exact WL.nil ⟨upd_self rfl, rfl⟩
      · refine ⟨fun wq hSw => ?_, ⟨fun wq hSw => ?_, trivial⟩⟩
        · refine WL.loadG1 hSw hc2 ti61 rfl rfl rfl ?_
          exact WL.nil ⟨upd_self rfl, rfl⟩
        · refine WL.loadGAt hSw hc3 [.int .i64 x3.a, .int .i64 x3.b] ti46 rfl rfl rfl rfl rfl ?_
          exact WL.nil ⟨upd_self rfl, rfl⟩
      · exact trivial
      have hS6 := hS8
      refine TL.step rfl ?_
      refine WL.buildSlice _ [(0, [v4, .int .i64 x3.a, .int .i64 x3.b])] [v4, .int .i64 x3.a, .int .i64 x3.b] hS6 sl22 rfl rfl rfl rfl (fun z hz => by match z, hz with | [z0, z1, z2], _ => rfl) (fun b1 w6 hn1 hS7 => ?_)
      refine WL.nil ⟨fun h => absurd h (by decide), ?_⟩
      refine TL.step rfl ?_
      refine WL.push (m := ([(Fact.mk x1 x3)] : List Fact)) sl22 rfl rfl rfl hr3 hS7 1 rfl 0 _ _ _ _ _ rfl ⟨[v4, .int .i64 x3.a, .int .i64 x3.b], _, rfl, (FactE_mk (Fact.mk x1 x3) hs2 hb1 hb2), rfl⟩ rfl (by have hreach : reach = 140737488355328 := rfl; simp only [List.length_append, List.length_cons, List.length_nil] at *; omega) (by have hreach : reach = 140737488355328 := rfl; simp only [List.length_append, List.length_cons, List.length_nil] at *; omega) rfl rfl rfl (fun v5 o3 w7 hr6 hS8 => ?_)
      have hS9 := hS8.tail
      refine WL.nil ⟨fun h => absurd h (by decide), ?_⟩
      refine TL.step rfl ?_
      refine WL.assign rfl ?_
      refine WL.nil ⟨fun h => absurd h (by decide), ?_⟩
      refine WC.region rfl ?_
      refine WL.move rfl ?_
      refine WL.incr k2 (by have hreach : reach = 140737488355328 := rfl; omega) rfl rfl rfl ?_
      refine WL.assign rfl ?_
      refine WL.nil ?_
      exact ⟨_, ⟨k2 + 1, v5, o3, G4, rfl, hle4, hS9, (Row.cast hr6 (by (rw [mapF_take (by assumption), List.append_assoc]))), rfl, rfl, rfl, rfl, rfl, rfl, (by omega)⟩, (show (canon (timesOf l x1)).length - (k2 + 1) < (canon (timesOf l x1)).length - k2 by omega)⟩
    refine WL.nil ?_
    refine WC.condF rfl ?_
    refine WC.exit ?_
    refine WC.region rfl ?_
    refine WL.move rfl ?_
    refine WL.incr k1 (by have hreach : reach = 140737488355328 := rfl; omega) rfl rfl rfl ?_
    refine WL.assign rfl ?_
    refine WL.nil ?_
    exact ⟨_, ⟨k1 + 1, v3, o2, G4, rfl, (hle2.trans (hle3.trans hle4)), hS5, (Row.cast hr3 (by (rw [rnfN_take (by assumption), List.take_of_length_le (l := canon _) (by omega)]))), rfl, rfl, rfl, rfl, (by omega)⟩, (show (vals l).length - (k1 + 1) < (vals l).length - k1 by omega)⟩
  refine WL.nil ?_
  refine WC.condF rfl ?_
  refine WC.exit ?_
  refine WC.seq ?_
  refine WC.region rfl ?_
  refine WL.move rfl ?_
  refine WL.assign rfl ?_
  refine WL.nil ?_
  refine WC.ret ?_
  obtain ⟨G5, hle5, hs3, hS10⟩ := Row.freeze hr1 hS2 0 rfl
  exact ⟨v1, rfl, v1, _, rfl, hS10.res, (Sl.cast hs3 (by exact rnfN_all (by omega)))⟩

theorem c_rAt (G : GH) (w : World) (hG : G.In w) (l : List Fact) (t : Int) (vl : Value) (hvl : Sl FactE 40 G vl l) (hl : l.length ≤ 1000) : Calls Tryz.prog (nat_lit 48) #[vl, .int .i64 t] w fun e w' => ∃ r G', e = .returned r ∧ Res [] w G w' G' ∧ Sl (ValE.slice 32) 24 G' r (rAt l t) := by
  refine calls_of_WC (N := 40) Tryz.func48 rfl rfl rfl ?_
  have hS := St.start (X := []) hG
  refine WC.seq ?_
  refine WC.region rfl ?_
  refine WL.assign rfl ?_
  refine WL.nil ?_
  refine WC.seq ?_
  refine WC.region rfl ?_
  refine WL.assign rfl ?_
  refine WL.nil ?_
  refine WC.seq ?_
  refine WC.seq ?_
  refine WC.region rfl ?_
  refine WL.assign rfl ?_
  refine WL.nil ?_
  refine WC.block ?_
  have hS2 := hS.pad
  refine WC.loop (γ := Nat) (fun m ρ1 w1 => ∃ (k1 : Nat), ∃ (v1 : Value) (o1 : OB), ∃ (G1 : GH), m = l.length - k1 ∧ G.le G1 ∧ St w [] G G1 [o1] w1 ∧ Row FactE 40 63 G1 v1 ((l.take k1).filter (nowB t)) o1 ∧ ρ1 0 = vl ∧ ρ1 1 = .int .i64 t ∧ ρ1 5 = v1 ∧ ρ1 6 = .int .i64 ((k1 : Nat) : Int) ∧ k1 ≤ l.length) (fun m => m) _ ⟨0, (.slice none 0 0), none, G, rfl, (G.le_refl), hS2, (Row.nil FactE 40 63 G), rfl, rfl, rfl, rfl, (by omega)⟩ ?_
  rintro m ρ1 w1 ⟨k1, v1, o1, G1, rfl, hle1, hS1, hr1, e1, e2, e3, e4, f1⟩
  refine WC.set (d := 0) e1 ?_
  refine WC.set (d := 1) e2 ?_
  refine WC.set (d := 5) e3 ?_
  refine WC.set (d := 6) e4 ?_
  have hF9 := now_takeLen l k1 t
  refine WC.seq ?_
  refine WC.seq ?_
  refine WC.region rfl ?_
  refine WL.move rfl ?_
  refine WL.move rfl ?_
  have bd1 := hvl.bound
  refine WL.lenSl (hvl.mono hle1) ul22 rfl rfl ?_
  refine WL.cmpS .lss rfl .i64 ((k1 : Nat) : Int) ((l.length : Nat) : Int) rfl rfl rfl (fun (h1 : ((k1 : Nat) : Int) < ((l.length : Nat) : Int)) => ?_) (fun (h1 : ((l.length : Nat) : Int) ≤ ((k1 : Nat) : Int)) => ?_)
  · refine WL.nil ?_
    refine WC.condT rfl ?_
    refine WC.skip ?_
    refine WC.seq ?_
    refine WC.block ?_
    refine WC.seq ?_
    refine WC.region rfl ?_
    refine WL.move rfl ?_
    refine WL.move rfl ?_
    refine WL.indexAddr (hvl.mono hle1) k1 (by omega) ul22 ti63 rfl rfl rfl rfl (fun p1 x1 hx1 he1 => ?_)
    obtain ⟨cs1, hc1, hr2⟩ := he1
    obtain ⟨v2, rfl, hs1, hb1, hb2⟩ := FactE_open hr2
    refine WL.fieldAddr _ 1 _ fl63 rfl rfl rfl ?_
    refine WL.fieldAddr _ 0 _ fl46 rfl rfl rfl ?_
    refine WL.loadG1 hS1 (Cells.drop 0 (Cells.drop 1 hc1)) ti3 rfl rfl rfl ?_
    refine WL.move rfl ?_
    refine WL.cmpS .leq rfl .i64 x1.t.a t rfl rfl rfl (fun (h2 : x1.t.a ≤ t) => ?_) (fun (h2 : t < x1.t.a) => ?_)
    · refine WL.move rfl ?_
      refine WL.move rfl ?_
      refine WL.move rfl ?_
      refine WL.move rfl ?_
      refine WL.indexAddr (hvl.mono hle1) k1 (by omega) ul22 ti63 rfl rfl rfl rfl (fun p2 x2 hx2 he2 => ?_)
      obtain rfl : x1 = x2 := Option.some.inj (hx1.symm.trans hx2)
      obtain ⟨cs2, hc2, hr3⟩ := he2
      obtain ⟨v3, rfl, hs2, hb3, hb4⟩ := FactE_open hr3
      refine WL.fieldAddr _ 1 _ fl63 rfl rfl rfl ?_
      refine WL.fieldAddr _ 1 _ fl46 rfl rfl rfl ?_
      refine WL.loadG1 hS1 (Cells.drop 1 (Cells.drop 1 hc2)) ti3 rfl rfl rfl ?_
      refine WL.cmpS .lss rfl .i64 t x1.t.b rfl rfl rfl (fun (h3 : t < x1.t.b) => ?_) (fun (h3 : x1.t.b ≤ t) => ?_)
      · refine WL.pickT rfl rfl ?_
        refine WL.nil ?_
        refine WC.condT rfl ?_
        refine WC.region rfl ?_
        refine WL.move rfl ?_
        refine WL.move rfl ?_
        refine WL.move rfl ?_
        refine WL.indexAddr (hvl.mono hle1) k1 (by omega) ul22 ti63 rfl rfl rfl rfl (fun p3 x3 hx3 he3 => ?_)
        obtain rfl : x1 = x3 := Option.some.inj (hx1.symm.trans hx3)
        obtain ⟨cs3, hc3, hr4⟩ := he3
        obtain ⟨v4, rfl, hs3, hb5, hb6⟩ := FactE_open hr4
        refine WL.loadGAt hS1 hc3 [v4, .int .i64 x1.t.a, .int .i64 x1.t.b] ti63 rfl rfl rfl rfl rfl ?_
        refine WL.buildSlice _ [(0, [v4, .int .i64 x1.t.a, .int .i64 x1.t.b])] [v4, .int .i64 x1.t.a, .int .i64 x1.t.b] hS1 sl22 rfl rfl rfl rfl (fun z hz => by match z, hz with | [z0, z1, z2], _ => rfl) (fun b1 w2 hn1 hS3 => ?_)
        refine WL.push (m := ([x1] : List Fact)) sl22 rfl rfl rfl hr1 hS3 1 rfl 0 _ _ _ _ _ rfl ⟨[v4, .int .i64 x1.t.a, .int .i64 x1.t.b], _, rfl, (FactE_mk x1 hs3 hb5 hb6), rfl⟩ rfl (by have hreach : reach = 140737488355328 := rfl; simp only [List.length_cons, List.length_nil]; omega) (by have hreach : reach = 140737488355328 := rfl; simp only [List.length_cons, List.length_nil]; omega) rfl rfl rfl (fun v5 o2 w3 hr5 hS4 => ?_)
        have hS5 := hS4.tail
        refine WL.assign rfl ?_
        refine WL.nil ?_
        refine WC.region rfl ?_
        refine WL.move rfl ?_
        refine WL.incr k1 (by have hreach : reach = 140737488355328 := rfl; omega) rfl rfl rfl ?_
        refine WL.assign rfl ?_
        refine WL.nil ?_
        exact ⟨_, ⟨k1 + 1, v5, o2, G1, rfl, hle1, hS5, (Row.cast hr5 (by (first | exact (now_yes (by assumption) (by assumption) (by assumption)).symm | exact (now_no (by assumption) (.inl (by assumption))).symm | exact (now_no (by assumption) (.inr (by assumption))).symm))), rfl, rfl, rfl, rfl, (by omega)⟩, (show l.length - (k1 + 1) < l.length - k1 by omega)⟩
      refine WL.pickT rfl rfl ?_
      refine WL.nil ?_
      refine WC.condF rfl ?_
      refine WC.skip ?_
      refine WC.region rfl ?_
      refine WL.move rfl ?_
      refine WL.incr k1 (by have hreach : reach = 140737488355328 := rfl; omega) rfl rfl rfl ?_
      refine WL.assign rfl ?_
      refine WL.nil ?_
      exact ⟨_, ⟨k1 + 1, v1, o1, G1, rfl, hle1, hS1, (Row.cast hr1 (by (first | exact (now_yes (by assumption) (by assumption) (by assumption)).symm | exact (now_no (by assumption) (.inl (by assumption))).symm | exact (now_no (by assumption) (.inr (by assumption))).symm))), rfl, rfl, rfl, rfl, (by omega)⟩, (show l.length - (k1 + 1) < l.length - k1 by omega)⟩
    refine WL.move rfl ?_
    refine WL.no rfl rfl ?_
    refine WL.no rfl rfl ?_
    refine WL.no rfl rfl ?_
    refine WL.no rfl rfl ?_
    refine WL.no rfl rfl ?_
    refine WL.no rfl rfl ?_
    refine WL.no rfl rfl ?_
    refine WL.no rfl rfl ?_
    refine WL.pickF rfl rfl ?_
    refine WL.nil ?_
    refine WC.condF rfl ?_
    refine WC.skip ?_
    refine WC.region rfl ?_
    refine WL.move rfl ?_
    refine WL.incr k1 (by have hreach : reach = 140737488355328 := rfl; omega) rfl rfl rfl ?_
    refine WL.assign rfl ?_
    refine WL.nil ?_
    exact ⟨_, ⟨k1 + 1, v1, o1, G1, rfl, hle1, hS1, (Row.cast hr1 (by (first | exact (now_yes (by assumption) (by assumption) (by assumption)).symm | exact (now_no (by assumption) (.inl (by assumption))).symm | exact (now_no (by assumption) (.inr (by assumption))).symm))), rfl, rfl, rfl, rfl, (by omega)⟩, (show l.length - (k1 + 1) < l.length - k1 by omega)⟩
  refine WL.nil ?_
  refine WC.condF rfl ?_
  refine WC.exit ?_
  refine WC.seq ?_
  refine WC.region rfl ?_
  refine WL.move rfl ?_
  obtain ⟨G2, hle2, hs4, hS6⟩ := Row.freeze hr1 hS1 0 rfl
  refine WL.callF [v1] #[] hb76 rfl rfl rfl ((c_values _ _ hS6.imm ((l.take k1).filter (nowB t)) _ hs4 (by omega)).mono ?_)
  rintro e w4 ⟨r1, G3, rfl, hres1, hpost1⟩
  refine ⟨_, rfl, ?_⟩
  have hS7 := hS6.call hres1
  have hle3 := hres1.le
  refine WL.assign rfl ?_
  refine WL.nil ?_
  refine WC.ret ?_
  exact ⟨r1, rfl, r1, _, rfl, hS7.res, (Sl.cast hpost1 (by rw [now_all (by omega)]; rfl))⟩

theorem c_rEnds (G : GH) (w : World) (hG : G.In w) (l : List Fact) (vl : Value) (hvl : Sl FactE 40 G vl l) (hg : Good l) (hl : l.length ≤ 1000) : Calls Tryz.prog (nat_lit 50) #[vl] w fun e w' => ∃ r G', e = .returned r ∧ Res [] w G w' G' ∧ Sl Enc.int 8 G' r (rEnds l) := by
  refine calls_of_WC (N := 24) Tryz.func50 rfl rfl rfl ?_
  have hN9 := rnf_len hg
  have hS := St.start (X := []) hG
  refine WC.seq ?_
  refine WC.region rfl ?_
  refine WL.assign rfl ?_
  refine WL.nil ?_
  refine WC.seq ?_
  refine WC.region rfl ?_
  refine WL.move rfl ?_
  refine WL.callF [vl] #[] hb47 rfl rfl rfl ((c_rNormal _ _ hS.imm l _ hvl hg hl).mono ?_)
  rintro e w1 ⟨r1, G1, rfl, hres1, hpost1⟩
  refine ⟨_, rfl, ?_⟩
  have hS1 := hS.call hres1
  have hle1 := hres1.le
  refine WL.assign rfl ?_
  refine WL.nil ?_
  refine WC.seq ?_
  refine WC.region rfl ?_
  refine WL.assign rfl ?_
  refine WL.nil ?_
  refine WC.seq ?_
  refine WC.seq ?_
  refine WC.region rfl ?_
  refine WL.assign rfl ?_
  refine WL.nil ?_
  refine WC.block ?_
  have hS3 := hS1.pad
  refine WC.loop (γ := Nat) (fun m ρ1 w1 => ∃ (k1 : Nat), ∃ (v1 : Value) (o1 : OB), ∃ (G2 : GH), m = (rnf l).length - k1 ∧ G1.le G2 ∧ St w [] G G2 [o1] w1 ∧ Row SpanE 16 46 G2 v1 (((rnf l).take k1).map Fact.t) o1 ∧ ρ1 3 = r1 ∧ ρ1 4 = v1 ∧ ρ1 5 = .int .i64 ((k1 : Nat) : Int) ∧ k1 ≤ (rnf l).length) (fun m => m) _ ⟨0, (.slice none 0 0), none, G1, rfl, (G1.le_refl), hS3, (Row.nil SpanE 16 46 G1), rfl, rfl, rfl, (by omega)⟩ ?_
  rintro m ρ1 w2 ⟨k1, v1, o1, G2, rfl, hle2, hS2, hr1, e1, e2, e3, f1⟩
  refine WC.set (d := 3) e1 ?_
  refine WC.set (d := 4) e2 ?_
  refine WC.set (d := 5) e3 ?_
  refine WC.seq ?_
  refine WC.seq ?_
  refine WC.region rfl ?_
  refine WL.move rfl ?_
  refine WL.move rfl ?_
  have bd1 := hpost1.bound
  refine WL.lenSl (hpost1.mono hle2) ul22 rfl rfl ?_
  refine WL.cmpS .lss rfl .i64 ((k1 : Nat) : Int) (((rnf l).length : Nat) : Int) rfl rfl rfl (fun (h1 : ((k1 : Nat) : Int) < (((rnf l).length : Nat) : Int)) => ?_) (fun (h1 : (((rnf l).length : Nat) : Int) ≤ ((k1 : Nat) : Int)) => ?_)
  · refine WL.nil ?_
    refine WC.condT rfl ?_
    refine WC.skip ?_
    refine WC.seq ?_
    refine WC.block ?_
    refine WC.region rfl ?_
    refine WL.move rfl ?_
    refine WL.move rfl ?_
    refine WL.move rfl ?_
    refine WL.indexAddr (hpost1.mono hle2) k1 (by omega) ul22 ti63 rfl rfl rfl rfl (fun p1 x1 hx1 he1 => ?_)
    obtain ⟨cs1, hc1, hr2⟩ := he1
    obtain ⟨v2, rfl, hs1, hb1, hb2⟩ := FactE_open hr2
    refine WL.fieldAddr _ 1 _ fl63 rfl rfl rfl ?_
    refine WL.loadGAt hS2 (Cells.drop 1 hc1) [.int .i64 x1.t.a, .int .i64 x1.t.b] ti46 rfl rfl rfl rfl rfl ?_
    refine WL.buildSlice _ [(0, [.int .i64 x1.t.a, .int .i64 x1.t.b])] [.int .i64 x1.t.a, .int .i64 x1.t.b] hS2 sl111 rfl rfl rfl rfl (fun z hz => by match z, hz with | [z0, z1], _ => rfl) (fun b1 w3 hn1 hS4 => ?_)
    refine WL.push (m := ([x1.t] : List Span)) sl111 rfl rfl rfl hr1 hS4 1 rfl 0 _ _ _ _ _ rfl ⟨[.int .i64 x1.t.a, .int .i64 x1.t.b], _, rfl, (SpanE_mk x1.t hb1 hb2), rfl⟩ rfl (by have hreach : reach = 140737488355328 := rfl; simp only [List.length_cons, List.length_nil, List.length_map, List.length_take]; omega) (by have hreach : reach = 140737488355328 := rfl; simp only [List.length_cons, List.length_nil, List.length_map, List.length_take]; omega) rfl rfl rfl (fun v3 o2 w4 hr3 hS5 => ?_)
    have hS6 := hS5.tail
    refine WL.assign rfl ?_
    refine WL.nil ?_
    refine WC.region rfl ?_
    refine WL.move rfl ?_
    refine WL.incr k1 (by have hreach : reach = 140737488355328 := rfl; omega) rfl rfl rfl ?_
    refine WL.assign rfl ?_
    refine WL.nil ?_
    exact ⟨_, ⟨k1 + 1, v3, o2, G2, rfl, hle2, hS6, (Row.cast hr3 (by (rw [List.take_add_one, (by assumption : (rnf l)[k1]? = some _)]; simp))), rfl, rfl, rfl, (by omega)⟩, (show (rnf l).length - (k1 + 1) < (rnf l).length - k1 by omega)⟩
  refine WL.nil ?_
  refine WC.condF rfl ?_
  refine WC.exit ?_
  refine WC.seq ?_
  refine WC.region rfl ?_
  refine WL.move rfl ?_
  obtain ⟨G3, hle3, hs2, hS7⟩ := Row.freeze hr1 hS2 0 rfl
  refine WL.callF [v1] #[] hb106 rfl rfl rfl ((c_r12Ends _ _ hS7.imm (((rnf l).take k1).map Fact.t) _ hs2 (by simp only [List.length_map, List.length_take]; omega)).mono ?_)
  rintro e w5 ⟨r2, G4, rfl, hres2, hpost2⟩
  refine ⟨_, rfl, ?_⟩
  have hS8 := hS7.call hres2
  have hle4 := hres2.le
  refine WL.assign rfl ?_
  refine WL.nil ?_
  refine WC.ret ?_
  exact ⟨r2, rfl, r2, _, rfl, hS8.res, (Sl.cast hpost2 (by rw [List.take_of_length_le (by omega)]; rfl))⟩

theorem c_AlgebraNormal (G : GH) (w : World) (hG : G.In w) (a b : List Fact) (t : Int) (va : Value) (hva : Sl FactE 40 G va a) (vb : Value) (hvb : Sl FactE 40 G vb b)  : Calls Tryz.prog (nat_lit 10) #[va, vb, .int .i64 t] w fun e w' => ∃ r G', e = .returned r ∧ Res [] w G w' G' ∧ r = .bool true := by
  refine calls_of_WC (N := 90) Tryz.func10 rfl rfl rfl ?_
  have hS := St.start (X := []) hG
  refine WC.seq ?_
  refine WC.region rfl ?_
  refine WL.assign rfl ?_
  refine WL.nil ?_
  refine WC.seq ?_
  refine WC.seq ?_
  refine WC.region rfl ?_
  refine WL.callF [] #[] hb11 rfl rfl rfl ((c_awake _ _ hS.imm   ).mono ?_)
  rintro e w1 ⟨r1, G1, rfl, hres1, hpost1⟩
  refine ⟨_, rfl, ?_⟩
  have hS1 := hS.call hres1
  have hle1 := hres1.le
  subst hpost1
  refine WL.not true rfl rfl ?_
  refine WL.nil ?_
  refine WC.condF rfl ?_
  refine WC.skip ?_
  refine WC.seq ?_
  refine WC.seq ?_
  refine WC.region rfl ?_
  refine WL.move rfl ?_
  refine WL.move rfl ?_
  refine WL.buildSlice _ [(0, [va]), (1, [vb])] [va, vb] hS1 sl89 rfl rfl rfl (by show [(0, (va : Value).cells.toList), (1, (vb : Value).cells.toList)] = _; simp only [(hva.mono hle1).cells1, (hvb.mono hle1).cells1] <;> rfl) (fun z hz => by match z, hz with | [z0, z1], _ => rfl) (fun b1 w2 hn1 hS2 => ?_)
  obtain ⟨G2, hle2, hs1, hS3⟩ := St.sealSl (E := (FactE.slice 40)) (by_ := 24) (l := ([a, b] : List (List Fact))) hS2 hn1 ⟨[va], _, rfl, ⟨_, rfl, (hva.mono hle1)⟩, ⟨[vb], _, rfl, ⟨_, rfl, (hvb.mono hle1)⟩, rfl⟩⟩ rfl (by simp [reach]) (by simp [reach])
  refine WL.callF [.slice (some ⟨b1, 0, none⟩) 2 2] #[] hb12 rfl rfl rfl ((c_great _ _ hS3.imm [a, b] _ hs1 ).mono ?_)
  rintro e w3 ⟨r2, G3, rfl, hres2, hpost2⟩
  refine ⟨_, rfl, ?_⟩
  have hS4 := hS3.call hres2
  have hle3 := hres2.le
  subst hpost2
  refine WL.split (fun (h1 : ([a, b].any greatB) = true) => ?_) (fun (h1 : ([a, b].any greatB) = false) => ?_)
  · refine WL.nil ?_
    refine WC.condT rfl ?_
    refine WC.seq ?_
    refine WC.region rfl ?_
    refine WL.assign rfl ?_
    refine WL.nil ?_
    refine WC.ret ?_
    exact ⟨.bool true, rfl, .bool true, _, rfl, hS4.res, (congrArg Value.bool (by first | rfl | (exfalso; omega) | exact absurd (by assumption : equalB a b = true) (Bool.eq_false_iff.1 hi9.2.2.1) | exact absurd hi9.1 (by assumption) | exact absurd hna.2 (by assumption) | exact absurd hNa (of_decide_eq_false (by assumption)) | exact (eq_c1 hvA (by assumption) (by omega) (by omega) rfl (by assumption)).elim | exact (eq_c2 (by assumption) (by assumption)).elim | exact absurd hAt.symm (of_decide_eq_false (by assumption)) | exact decide_eq_true hEn.symm | (rw [hi9.2.2.2.2]; rfl)))⟩
  refine WL.nil ?_
  refine WC.condF rfl ?_
  refine WC.skip ?_
  refine WC.seq ?_
  have h20 := great_le2 (by assumption)
  have hal := h20.1
  have hbl := h20.2
  refine WC.region rfl ?_
  refine WL.move rfl ?_
  refine WL.callF [va] #[] hb32 rfl rfl rfl ((c_Normal _ _ hS4.imm a _ (hva.mono ((hle1.trans hle2).trans hle3)) hal).mono ?_)
  rintro e w4 ⟨r3, G4, rfl, hres3, hpost3⟩
  refine ⟨_, rfl, ?_⟩
  have hS5 := hS4.call hres3
  have hle4 := hres3.le
  obtain ⟨r4, r5, rfl, hs2, rfl⟩ := hpost3
  refine WL.move rfl ?_
  refine WL.extract _ _ rfl rfl rfl ?_
  refine WL.extract _ _ rfl rfl rfl ?_
  refine WL.assign rfl ?_
  refine WL.assign rfl ?_
  refine WL.nil ?_
  refine WC.seq ?_
  refine WC.seq ?_
  refine WC.region rfl ?_
  refine WL.move rfl ?_
  refine WL.callF [va] #[] hb33 rfl rfl rfl ((c_rfValid _ _ hS5.imm a _ (hva.mono (((hle1.trans hle2).trans hle3).trans hle4)) ).mono ?_)
  rintro e w5 ⟨r6, G5, rfl, hres4, hpost4⟩
  refine ⟨_, rfl, ?_⟩
  have hS6 := hS5.call hres4
  have hle5 := hres4.le
  subst hpost4
  refine WL.split (fun (h2 : (rvalidB a) = true) => ?_) (fun (h2 : (rvalidB a) = false) => ?_)
  · refine WL.not true rfl rfl ?_
    refine WL.nil ?_
    refine WC.condF rfl ?_
    refine WC.skip ?_
    refine WC.seq ?_
    have hvA : validB a = true := by rw [← rvalid_valid]; assumption
    have hna := norm_valid hvA (by omega)
    have hNa : normL a = rnf a := hna.1.trans (rnf_nf (good_of_valid hvA)).symm
    have hAt := rAt_atL (t := t) hvA (by omega)
    have hEn := rEnds_endsL hvA (by omega)
    refine WC.region rfl ?_
    refine WL.move rfl ?_
    refine WL.callF [vb] #[] hb33 rfl rfl rfl ((c_rfValid _ _ hS6.imm b _ (hvb.mono ((((hle1.trans hle2).trans hle3).trans hle4).trans hle5)) ).mono ?_)
    rintro e w6 ⟨r7, G6, rfl, hres5, hpost5⟩
    refine ⟨_, rfl, ?_⟩
    have hS7 := hS6.call hres5
    have hle6 := hres5.le
    subst hpost5
    refine WL.split (fun (h3 : (rvalidB b) = true) => ?_) (fun (h3 : (rvalidB b) = false) => ?_)
    · refine WL.move rfl ?_
      refine WL.move rfl ?_
      refine WL.callF [va] #[] hb47 rfl rfl rfl ((c_rNormal _ _ hS7.imm a _ (hva.mono (((((hle1.trans hle2).trans hle3).trans hle4).trans hle5).trans hle6)) (good_of_valid (by first | assumption | (rw [← rvalid_valid]; assumption))) (by omega)).mono ?_)
      rintro e w7 ⟨r8, G7, rfl, hres6, hpost6⟩
      refine ⟨_, rfl, ?_⟩
      have hS8 := hS7.call hres6
      have hle7 := hres6.le
      refine WL.move rfl ?_
      refine WL.callF [vb] #[] hb47 rfl rfl rfl ((c_rNormal _ _ hS8.imm b _ (hvb.mono ((((((hle1.trans hle2).trans hle3).trans hle4).trans hle5).trans hle6).trans hle7)) (good_of_valid (by first | assumption | (rw [← rvalid_valid]; assumption))) (by omega)).mono ?_)
      rintro e w8 ⟨r9, G8, rfl, hres7, hpost7⟩
      refine ⟨_, rfl, ?_⟩
      have hS9 := hS8.call hres7
      have hle8 := hres7.le
      refine WL.callF [r8, r9] #[] hb30 rfl rfl rfl ((c_rSame _ _ hS9.imm (rnf a) (rnf b) _ (hpost6.mono hle8) _ hpost7 ).mono ?_)
      rintro e w9 ⟨r10, G9, rfl, hres8, hpost8⟩
      refine ⟨_, rfl, ?_⟩
      have hS10 := hS9.call hres8
      have hle9 := hres8.le
      subst hpost8
      refine WL.pickT rfl rfl ?_
      refine WL.assign rfl ?_
      refine WL.nil ?_
      refine WC.seq ?_
      refine WC.region rfl ?_
      refine WL.move rfl ?_
      refine WL.cmpS .eql rfl .i64 (normE a) 0 rfl rfl rfl (fun (h4 : (normE a) = 0) => ?_) (fun (h4 : (normE a) ≠ 0) => ?_)
      · refine WL.move rfl ?_
        refine WL.move rfl ?_
        refine WL.move rfl ?_
        refine WL.callF [va] #[] hb47 rfl rfl rfl ((c_rNormal _ _ hS10.imm a _ (hva.mono ((((((((hle1.trans hle2).trans hle3).trans hle4).trans hle5).trans hle6).trans hle7).trans hle8).trans hle9)) (good_of_valid (by first | assumption | (rw [← rvalid_valid]; assumption))) (by omega)).mono ?_)
        rintro e w10 ⟨r11, G10, rfl, hres9, hpost9⟩
        refine ⟨_, rfl, ?_⟩
        have hS11 := hS10.call hres9
        have hle10 := hres9.le
        refine WL.callF [r4, r11] #[] hb30 rfl rfl rfl ((c_rSame _ _ hS11.imm (normL a) (rnf a) _ (hs2.mono (((((hle5.trans hle6).trans hle7).trans hle8).trans hle9).trans hle10)) _ hpost9 ).mono ?_)
        rintro e w11 ⟨r12, G11, rfl, hres10, hpost10⟩
        refine ⟨_, rfl, ?_⟩
        have hS12 := hS11.call hres10
        have hle11 := hres10.le
        subst hpost10
        refine WL.split (fun (h5 : (decide ((normL a) = (rnf a))) = true) => ?_) (fun (h5 : (decide ((normL a) = (rnf a))) = false) => ?_)
        · refine WL.pickT rfl rfl ?_
          refine WL.move rfl ?_
          refine WL.move rfl ?_
          refine WL.move rfl ?_
          refine WL.callF [va, vb] #[] hb31 rfl rfl rfl ((c_Equal _ _ hS12.imm a b _ (hva.mono ((((((((((hle1.trans hle2).trans hle3).trans hle4).trans hle5).trans hle6).trans hle7).trans hle8).trans hle9).trans hle10).trans hle11)) _ (hvb.mono ((((((((((hle1.trans hle2).trans hle3).trans hle4).trans hle5).trans hle6).trans hle7).trans hle8).trans hle9).trans hle10).trans hle11)) hal hbl).mono ?_)
          rintro e w12 ⟨r13, G12, rfl, hres11, hpost11⟩
          refine ⟨_, rfl, ?_⟩
          have hS13 := hS12.call hres11
          have hle12 := hres11.le
          subst hpost11
          refine WL.move rfl ?_
          refine WL.boolEq (equalB a b) (decide ((rnf a) = (rnf b))) ul4 rfl rfl rfl ?_
          refine WL.split (fun (h6 : ((equalB a b) == (decide ((rnf a) = (rnf b)))) = true) => ?_) (fun (h6 : ((equalB a b) == (decide ((rnf a) = (rnf b)))) = false) => ?_)
          · refine WL.pickT rfl rfl ?_
            refine WL.move rfl ?_
            refine WL.move rfl ?_
            refine WL.move rfl ?_
            refine WL.callF [va, .int .i64 t] #[] hb36 rfl rfl rfl ((c_At _ _ hS13.imm a t _ (hva.mono (((((((((((hle1.trans hle2).trans hle3).trans hle4).trans hle5).trans hle6).trans hle7).trans hle8).trans hle9).trans hle10).trans hle11).trans hle12)) hal).mono ?_)
            rintro e w13 ⟨r14, G13, rfl, hres12, hpost12⟩
            refine ⟨_, rfl, ?_⟩
            have hS14 := hS13.call hres12
            have hle13 := hres12.le
            refine WL.move rfl ?_
            refine WL.move rfl ?_
            refine WL.callF [va, .int .i64 t] #[] hb48 rfl rfl rfl ((c_rAt _ _ hS14.imm a t _ (hva.mono ((((((((((((hle1.trans hle2).trans hle3).trans hle4).trans hle5).trans hle6).trans hle7).trans hle8).trans hle9).trans hle10).trans hle11).trans hle12).trans hle13)) (by omega)).mono ?_)
            rintro e w14 ⟨r15, G14, rfl, hres13, hpost13⟩
            refine ⟨_, rfl, ?_⟩
            have hS15 := hS14.call hres13
            have hle14 := hres13.le
            refine WL.callF [r14, r15] #[] hb46 rfl rfl rfl ((c_lists _ _ hS15.imm (atL a t) (rAt a t) _ (hpost12.mono hle14) _ hpost13 ).mono ?_)
            rintro e w15 ⟨r16, G15, rfl, hres14, hpost14⟩
            refine ⟨_, rfl, ?_⟩
            have hS16 := hS15.call hres14
            have hle15 := hres14.le
            subst hpost14
            refine WL.split (fun (h7 : (decide ((atL a t) = (rAt a t))) = true) => ?_) (fun (h7 : (decide ((atL a t) = (rAt a t))) = false) => ?_)
            · refine WL.pickT rfl rfl ?_
              refine WL.move rfl ?_
              refine WL.move rfl ?_
              refine WL.callF [va] #[] hb44 rfl rfl rfl ((c_Ends _ _ hS16.imm a _ (hva.mono ((((((((((((((hle1.trans hle2).trans hle3).trans hle4).trans hle5).trans hle6).trans hle7).trans hle8).trans hle9).trans hle10).trans hle11).trans hle12).trans hle13).trans hle14).trans hle15)) hal).mono ?_)
              rintro e w16 ⟨r17, G16, rfl, hres15, hpost15⟩
              refine ⟨_, rfl, ?_⟩
              have hS17 := hS16.call hres15
              have hle16 := hres15.le
              refine WL.move rfl ?_
              refine WL.callF [va] #[] hb50 rfl rfl rfl ((c_rEnds _ _ hS17.imm a _ (hva.mono (((((((((((((((hle1.trans hle2).trans hle3).trans hle4).trans hle5).trans hle6).trans hle7).trans hle8).trans hle9).trans hle10).trans hle11).trans hle12).trans hle13).trans hle14).trans hle15).trans hle16)) (good_of_valid hvA) (by omega)).mono ?_)
              rintro e w17 ⟨r18, G17, rfl, hres16, hpost16⟩
              refine ⟨_, rfl, ?_⟩
              have hS18 := hS17.call hres16
              have hle17 := hres16.le
              refine WL.callF [r17, r18] #[] hb49 rfl rfl rfl ((c_SlEqualI _ _ hS18.imm (endsL a) (rEnds a) _ (hpost15.mono hle17) _ hpost16 ).mono ?_)
              rintro e w18 ⟨r19, G18, rfl, hres17, hpost17⟩
              refine ⟨_, rfl, ?_⟩
              have hS19 := hS18.call hres17
              have hle18 := hres17.le
              subst hpost17
              refine WL.pickT rfl rfl ?_
              refine WL.assign rfl ?_
              refine WL.nil ?_
              refine WC.ret ?_
              exact ⟨.bool (decide ((endsL a) = (rEnds a))), rfl, .bool (decide ((endsL a) = (rEnds a))), _, rfl, hS19.res, (congrArg Value.bool (by first | rfl | (exfalso; omega) | exact absurd (by assumption : equalB a b = true) (Bool.eq_false_iff.1 hi9.2.2.1) | exact absurd hi9.1 (by assumption) | exact absurd hna.2 (by assumption) | exact absurd hNa (of_decide_eq_false (by assumption)) | exact (eq_c1 hvA (by assumption) (by omega) (by omega) rfl (by assumption)).elim | exact (eq_c2 (by assumption) (by assumption)).elim | exact absurd hAt.symm (of_decide_eq_false (by assumption)) | exact decide_eq_true hEn.symm | (rw [hi9.2.2.2.2]; rfl)))⟩
            refine WL.pickT rfl rfl ?_
            refine WL.move rfl ?_
            refine WL.no rfl rfl ?_
            refine WL.no rfl rfl ?_
            refine WL.no rfl rfl ?_
            refine WL.no rfl rfl ?_
            refine WL.no rfl rfl ?_
            refine WL.pickF rfl rfl ?_
            refine WL.assign rfl ?_
            refine WL.nil ?_
            refine WC.ret ?_
            exact ⟨.bool false, rfl, .bool false, _, rfl, hS16.res, (congrArg Value.bool (by first | rfl | (exfalso; omega) | exact absurd (by assumption : equalB a b = true) (Bool.eq_false_iff.1 hi9.2.2.1) | exact absurd hi9.1 (by assumption) | exact absurd hna.2 (by assumption) | exact absurd hNa (of_decide_eq_false (by assumption)) | exact (eq_c1 hvA (by assumption) (by omega) (by omega) rfl (by assumption)).elim | exact (eq_c2 (by assumption) (by assumption)).elim | exact absurd hAt.symm (of_decide_eq_false (by assumption)) | exact decide_eq_true hEn.symm | (rw [hi9.2.2.2.2]; rfl)))⟩
          refine WL.pickT rfl rfl ?_
          refine WL.move rfl ?_
          refine WL.no rfl rfl ?_
          refine WL.no rfl rfl ?_
          refine WL.no rfl rfl ?_
          refine WL.no rfl rfl ?_
          refine WL.no rfl rfl ?_
          refine WL.no rfl rfl ?_
          refine WL.no rfl rfl ?_
          refine WL.pickF rfl rfl ?_
          refine WL.move rfl ?_
          refine WL.no rfl rfl ?_
          refine WL.no rfl rfl ?_
          refine WL.no rfl rfl ?_
          refine WL.no rfl rfl ?_
          refine WL.no rfl rfl ?_
          refine WL.pickF rfl rfl ?_
          refine WL.assign rfl ?_
          refine WL.nil ?_
          refine WC.ret ?_
          exact ⟨.bool false, rfl, .bool false, _, rfl, hS13.res, (congrArg Value.bool (by first | rfl | (exfalso; omega) | exact absurd (by assumption : equalB a b = true) (Bool.eq_false_iff.1 hi9.2.2.1) | exact absurd hi9.1 (by assumption) | exact absurd hna.2 (by assumption) | exact absurd hNa (of_decide_eq_false (by assumption)) | exact (eq_c1 hvA (by assumption) (by omega) (by omega) rfl (by assumption)).elim | exact (eq_c2 (by assumption) (by assumption)).elim | exact absurd hAt.symm (of_decide_eq_false (by assumption)) | exact decide_eq_true hEn.symm | (rw [hi9.2.2.2.2]; rfl)))⟩
        refine WL.pickT rfl rfl ?_
        refine WL.move rfl ?_
        refine WL.no rfl rfl ?_
        refine WL.no rfl rfl ?_
        refine WL.no rfl rfl ?_
        refine WL.no rfl rfl ?_
        refine WL.no rfl rfl ?_
        refine WL.pickF rfl rfl ?_
        refine WL.move rfl ?_
        refine WL.no rfl rfl ?_
        refine WL.no rfl rfl ?_
        refine WL.no rfl rfl ?_
        refine WL.no rfl rfl ?_
        refine WL.no rfl rfl ?_
        refine WL.no rfl rfl ?_
        refine WL.no rfl rfl ?_
        refine WL.pickF rfl rfl ?_
        refine WL.move rfl ?_
        refine WL.no rfl rfl ?_
        refine WL.no rfl rfl ?_
        refine WL.no rfl rfl ?_
        refine WL.no rfl rfl ?_
        refine WL.no rfl rfl ?_
        refine WL.pickF rfl rfl ?_
        refine WL.assign rfl ?_
        refine WL.nil ?_
        refine WC.ret ?_
        exact ⟨.bool false, rfl, .bool false, _, rfl, hS12.res, (congrArg Value.bool (by first | rfl | (exfalso; omega) | exact absurd (by assumption : equalB a b = true) (Bool.eq_false_iff.1 hi9.2.2.1) | exact absurd hi9.1 (by assumption) | exact absurd hna.2 (by assumption) | exact absurd hNa (of_decide_eq_false (by assumption)) | exact (eq_c1 hvA (by assumption) (by omega) (by omega) rfl (by assumption)).elim | exact (eq_c2 (by assumption) (by assumption)).elim | exact absurd hAt.symm (of_decide_eq_false (by assumption)) | exact decide_eq_true hEn.symm | (rw [hi9.2.2.2.2]; rfl)))⟩
      refine WL.move rfl ?_
      refine WL.no rfl rfl ?_
      refine WL.no rfl rfl ?_
      refine WL.no rfl rfl ?_
      refine WL.no rfl rfl ?_
      refine WL.pickF rfl rfl ?_
      refine WL.move rfl ?_
      refine WL.no rfl rfl ?_
      refine WL.no rfl rfl ?_
      refine WL.no rfl rfl ?_
      refine WL.no rfl rfl ?_
      refine WL.no rfl rfl ?_
      refine WL.pickF rfl rfl ?_
      refine WL.move rfl ?_
      refine WL.no rfl rfl ?_
      refine WL.no rfl rfl ?_
      refine WL.no rfl rfl ?_
      refine WL.no rfl rfl ?_
      refine WL.no rfl rfl ?_
      refine WL.no rfl rfl ?_
      refine WL.no rfl rfl ?_
      refine WL.pickF rfl rfl ?_
      refine WL.move rfl ?_
      refine WL.no rfl rfl ?_
      refine WL.no rfl rfl ?_
      refine WL.no rfl rfl ?_
      refine WL.no rfl rfl ?_
      refine WL.no rfl rfl ?_
      refine WL.pickF rfl rfl ?_
      refine WL.assign rfl ?_
      refine WL.nil ?_
      refine WC.ret ?_
      exact ⟨.bool false, rfl, .bool false, _, rfl, hS10.res, (congrArg Value.bool (by first | rfl | (exfalso; omega) | exact absurd (by assumption : equalB a b = true) (Bool.eq_false_iff.1 hi9.2.2.1) | exact absurd hi9.1 (by assumption) | exact absurd hna.2 (by assumption) | exact absurd hNa (of_decide_eq_false (by assumption)) | exact (eq_c1 hvA (by assumption) (by omega) (by omega) rfl (by assumption)).elim | exact (eq_c2 (by assumption) (by assumption)).elim | exact absurd hAt.symm (of_decide_eq_false (by assumption)) | exact decide_eq_true hEn.symm | (rw [hi9.2.2.2.2]; rfl)))⟩
    refine WL.move rfl ?_
    refine WL.no rfl rfl ?_
    refine WL.no rfl rfl ?_
    refine WL.no rfl rfl ?_
    refine WL.no rfl rfl ?_
    refine WL.no rfl rfl ?_
    refine WL.pickF rfl rfl ?_
    refine WL.assign rfl ?_
    refine WL.nil ?_
    refine WC.seq ?_
    refine WC.region rfl ?_
    refine WL.move rfl ?_
    refine WL.cmpS .eql rfl .i64 (normE a) 0 rfl rfl rfl (fun (h8 : (normE a) = 0) => ?_) (fun (h8 : (normE a) ≠ 0) => ?_)
    · refine WL.move rfl ?_
      refine WL.move rfl ?_
      refine WL.move rfl ?_
      refine WL.callF [va] #[] hb47 rfl rfl rfl ((c_rNormal _ _ hS7.imm a _ (hva.mono (((((hle1.trans hle2).trans hle3).trans hle4).trans hle5).trans hle6)) (good_of_valid (by first | assumption | (rw [← rvalid_valid]; assumption))) (by omega)).mono ?_)
      rintro e w19 ⟨r20, G19, rfl, hres18, hpost18⟩
      refine ⟨_, rfl, ?_⟩
      have hS20 := hS7.call hres18
      have hle19 := hres18.le
      refine WL.callF [r4, r20] #[] hb30 rfl rfl rfl ((c_rSame _ _ hS20.imm (normL a) (rnf a) _ (hs2.mono ((hle5.trans hle6).trans hle19)) _ hpost18 ).mono ?_)
      rintro e w20 ⟨r21, G20, rfl, hres19, hpost19⟩
      refine ⟨_, rfl, ?_⟩
      have hS21 := hS20.call hres19
      have hle20 := hres19.le
      subst hpost19
      refine WL.split (fun (h9 : (decide ((normL a) = (rnf a))) = true) => ?_) (fun (h9 : (decide ((normL a) = (rnf a))) = false) => ?_)
      · refine WL.pickT rfl rfl ?_
        refine WL.move rfl ?_
        refine WL.move rfl ?_
        refine WL.move rfl ?_
        refine WL.callF [va, vb] #[] hb31 rfl rfl rfl ((c_Equal _ _ hS21.imm a b _ (hva.mono (((((((hle1.trans hle2).trans hle3).trans hle4).trans hle5).trans hle6).trans hle19).trans hle20)) _ (hvb.mono (((((((hle1.trans hle2).trans hle3).trans hle4).trans hle5).trans hle6).trans hle19).trans hle20)) hal hbl).mono ?_)
        rintro e w21 ⟨r22, G21, rfl, hres20, hpost20⟩
        refine ⟨_, rfl, ?_⟩
        have hS22 := hS21.call hres20
        have hle21 := hres20.le
        subst hpost20
        refine WL.move rfl ?_
        refine WL.boolEq (equalB a b) false ul4 rfl rfl rfl ?_
        refine WL.split (fun (h10 : ((equalB a b) == false) = true) => ?_) (fun (h10 : ((equalB a b) == false) = false) => ?_)
        · refine WL.pickT rfl rfl ?_
          refine WL.move rfl ?_
          refine WL.move rfl ?_
          refine WL.move rfl ?_
          refine WL.callF [va, .int .i64 t] #[] hb36 rfl rfl rfl ((c_At _ _ hS22.imm a t _ (hva.mono ((((((((hle1.trans hle2).trans hle3).trans hle4).trans hle5).trans hle6).trans hle19).trans hle20).trans hle21)) hal).mono ?_)
          rintro e w22 ⟨r23, G22, rfl, hres21, hpost21⟩
          refine ⟨_, rfl, ?_⟩
          have hS23 := hS22.call hres21
          have hle22 := hres21.le
          refine WL.move rfl ?_
          refine WL.move rfl ?_
          refine WL.callF [va, .int .i64 t] #[] hb48 rfl rfl rfl ((c_rAt _ _ hS23.imm a t _ (hva.mono (((((((((hle1.trans hle2).trans hle3).trans hle4).trans hle5).trans hle6).trans hle19).trans hle20).trans hle21).trans hle22)) (by omega)).mono ?_)
          rintro e w23 ⟨r24, G23, rfl, hres22, hpost22⟩
          refine ⟨_, rfl, ?_⟩
          have hS24 := hS23.call hres22
          have hle23 := hres22.le
          refine WL.callF [r23, r24] #[] hb46 rfl rfl rfl ((c_lists _ _ hS24.imm (atL a t) (rAt a t) _ (hpost21.mono hle23) _ hpost22 ).mono ?_)
          rintro e w24 ⟨r25, G24, rfl, hres23, hpost23⟩
          refine ⟨_, rfl, ?_⟩
          have hS25 := hS24.call hres23
          have hle24 := hres23.le
          subst hpost23
          refine WL.split (fun (h11 : (decide ((atL a t) = (rAt a t))) = true) => ?_) (fun (h11 : (decide ((atL a t) = (rAt a t))) = false) => ?_)
          · refine WL.pickT rfl rfl ?_
            refine WL.move rfl ?_
            refine WL.move rfl ?_
            refine WL.callF [va] #[] hb44 rfl rfl rfl ((c_Ends _ _ hS25.imm a _ (hva.mono (((((((((((hle1.trans hle2).trans hle3).trans hle4).trans hle5).trans hle6).trans hle19).trans hle20).trans hle21).trans hle22).trans hle23).trans hle24)) hal).mono ?_)
            rintro e w25 ⟨r26, G25, rfl, hres24, hpost24⟩
            refine ⟨_, rfl, ?_⟩
            have hS26 := hS25.call hres24
            have hle25 := hres24.le
            refine WL.move rfl ?_
            refine WL.callF [va] #[] hb50 rfl rfl rfl ((c_rEnds _ _ hS26.imm a _ (hva.mono ((((((((((((hle1.trans hle2).trans hle3).trans hle4).trans hle5).trans hle6).trans hle19).trans hle20).trans hle21).trans hle22).trans hle23).trans hle24).trans hle25)) (good_of_valid hvA) (by omega)).mono ?_)
            rintro e w26 ⟨r27, G26, rfl, hres25, hpost25⟩
            refine ⟨_, rfl, ?_⟩
            have hS27 := hS26.call hres25
            have hle26 := hres25.le
            refine WL.callF [r26, r27] #[] hb49 rfl rfl rfl ((c_SlEqualI _ _ hS27.imm (endsL a) (rEnds a) _ (hpost24.mono hle26) _ hpost25 ).mono ?_)
            rintro e w27 ⟨r28, G27, rfl, hres26, hpost26⟩
            refine ⟨_, rfl, ?_⟩
            have hS28 := hS27.call hres26
            have hle27 := hres26.le
            subst hpost26
            refine WL.pickT rfl rfl ?_
            refine WL.assign rfl ?_
            refine WL.nil ?_
            refine WC.ret ?_
            exact ⟨.bool (decide ((endsL a) = (rEnds a))), rfl, .bool (decide ((endsL a) = (rEnds a))), _, rfl, hS28.res, (congrArg Value.bool (by first | rfl | (exfalso; omega) | exact absurd (by assumption : equalB a b = true) (Bool.eq_false_iff.1 hi9.2.2.1) | exact absurd hi9.1 (by assumption) | exact absurd hna.2 (by assumption) | exact absurd hNa (of_decide_eq_false (by assumption)) | exact (eq_c1 hvA (by assumption) (by omega) (by omega) rfl (by assumption)).elim | exact (eq_c2 (by assumption) (by assumption)).elim | exact absurd hAt.symm (of_decide_eq_false (by assumption)) | exact decide_eq_true hEn.symm | (rw [hi9.2.2.2.2]; rfl)))⟩
          refine WL.pickT rfl rfl ?_
          refine WL.move rfl ?_
          refine WL.no rfl rfl ?_
          refine WL.no rfl rfl ?_
          refine WL.no rfl rfl ?_
          refine WL.no rfl rfl ?_
          refine WL.no rfl rfl ?_
          refine WL.pickF rfl rfl ?_
          refine WL.assign rfl ?_
          refine WL.nil ?_
          refine WC.ret ?_
          exact ⟨.bool false, rfl, .bool false, _, rfl, hS25.res, (congrArg Value.bool (by first | rfl | (exfalso; omega) | exact absurd (by assumption : equalB a b = true) (Bool.eq_false_iff.1 hi9.2.2.1) | exact absurd hi9.1 (by assumption) | exact absurd hna.2 (by assumption) | exact absurd hNa (of_decide_eq_false (by assumption)) | exact (eq_c1 hvA (by assumption) (by omega) (by omega) rfl (by assumption)).elim | exact (eq_c2 (by assumption) (by assumption)).elim | exact absurd hAt.symm (of_decide_eq_false (by assumption)) | exact decide_eq_true hEn.symm | (rw [hi9.2.2.2.2]; rfl)))⟩
        refine WL.pickT rfl rfl ?_
        refine WL.move rfl ?_
        refine WL.no rfl rfl ?_
        refine WL.no rfl rfl ?_
        refine WL.no rfl rfl ?_
        refine WL.no rfl rfl ?_
        refine WL.no rfl rfl ?_
        refine WL.no rfl rfl ?_
        refine WL.no rfl rfl ?_
        refine WL.pickF rfl rfl ?_
        refine WL.move rfl ?_
        refine WL.no rfl rfl ?_
        refine WL.no rfl rfl ?_
        refine WL.no rfl rfl ?_
        refine WL.no rfl rfl ?_
        refine WL.no rfl rfl ?_
        refine WL.pickF rfl rfl ?_
        refine WL.assign rfl ?_
        refine WL.nil ?_
        refine WC.ret ?_
        exact ⟨.bool false, rfl, .bool false, _, rfl, hS22.res, (congrArg Value.bool (by first | rfl | (exfalso; omega) | exact absurd (by assumption : equalB a b = true) (Bool.eq_false_iff.1 hi9.2.2.1) | exact absurd hi9.1 (by assumption) | exact absurd hna.2 (by assumption) | exact absurd hNa (of_decide_eq_false (by assumption)) | exact (eq_c1 hvA (by assumption) (by omega) (by omega) rfl (by assumption)).elim | exact (eq_c2 (by assumption) (by assumption)).elim | exact absurd hAt.symm (of_decide_eq_false (by assumption)) | exact decide_eq_true hEn.symm | (rw [hi9.2.2.2.2]; rfl)))⟩
      refine WL.pickT rfl rfl ?_
      refine WL.move rfl ?_
      refine WL.no rfl rfl ?_
      refine WL.no rfl rfl ?_
      refine WL.no rfl rfl ?_
      refine WL.no rfl rfl ?_
      refine WL.no rfl rfl ?_
      refine WL.pickF rfl rfl ?_
      refine WL.move rfl ?_
      refine WL.no rfl rfl ?_
      refine WL.no rfl rfl ?_
      refine WL.no rfl rfl ?_
      refine WL.no rfl rfl ?_
      refine WL.no rfl rfl ?_
      refine WL.no rfl rfl ?_
      refine WL.no rfl rfl ?_
      refine WL.pickF rfl rfl ?_
      refine WL.move rfl ?_
      refine WL.no rfl rfl ?_
      refine WL.no rfl rfl ?_
      refine WL.no rfl rfl ?_
      refine WL.no rfl rfl ?_
      refine WL.no rfl rfl ?_
      refine WL.pickF rfl rfl ?_
      refine WL.assign rfl ?_
      refine WL.nil ?_
      refine WC.ret ?_
      exact ⟨.bool false, rfl, .bool false, _, rfl, hS21.res, (congrArg Value.bool (by first | rfl | (exfalso; omega) | exact absurd (by assumption : equalB a b = true) (Bool.eq_false_iff.1 hi9.2.2.1) | exact absurd hi9.1 (by assumption) | exact absurd hna.2 (by assumption) | exact absurd hNa (of_decide_eq_false (by assumption)) | exact (eq_c1 hvA (by assumption) (by omega) (by omega) rfl (by assumption)).elim | exact (eq_c2 (by assumption) (by assumption)).elim | exact absurd hAt.symm (of_decide_eq_false (by assumption)) | exact decide_eq_true hEn.symm | (rw [hi9.2.2.2.2]; rfl)))⟩
    refine WL.move rfl ?_
    refine WL.no rfl rfl ?_
    refine WL.no rfl rfl ?_
    refine WL.no rfl rfl ?_
    refine WL.no rfl rfl ?_
    refine WL.pickF rfl rfl ?_
    refine WL.move rfl ?_
    refine WL.no rfl rfl ?_
    refine WL.no rfl rfl ?_
    refine WL.no rfl rfl ?_
    refine WL.no rfl rfl ?_
    refine WL.no rfl rfl ?_
    refine WL.pickF rfl rfl ?_
    refine WL.move rfl ?_
    refine WL.no rfl rfl ?_
    refine WL.no rfl rfl ?_
    refine WL.no rfl rfl ?_
    refine WL.no rfl rfl ?_
    refine WL.no rfl rfl ?_
    refine WL.no rfl rfl ?_
    refine WL.no rfl rfl ?_
    refine WL.pickF rfl rfl ?_
    refine WL.move rfl ?_
    refine WL.no rfl rfl ?_
    refine WL.no rfl rfl ?_
    refine WL.no rfl rfl ?_
    refine WL.no rfl rfl ?_
    refine WL.no rfl rfl ?_
    refine WL.pickF rfl rfl ?_
    refine WL.assign rfl ?_
    refine WL.nil ?_
    refine WC.ret ?_
    exact ⟨.bool false, rfl, .bool false, _, rfl, hS7.res, (congrArg Value.bool (by first | rfl | (exfalso; omega) | exact absurd (by assumption : equalB a b = true) (Bool.eq_false_iff.1 hi9.2.2.1) | exact absurd hi9.1 (by assumption) | exact absurd hna.2 (by assumption) | exact absurd hNa (of_decide_eq_false (by assumption)) | exact (eq_c1 hvA (by assumption) (by omega) (by omega) rfl (by assumption)).elim | exact (eq_c2 (by assumption) (by assumption)).elim | exact absurd hAt.symm (of_decide_eq_false (by assumption)) | exact decide_eq_true hEn.symm | (rw [hi9.2.2.2.2]; rfl)))⟩
  refine WL.not false rfl rfl ?_
  refine WL.nil ?_
  refine WC.condT rfl ?_
  refine WC.seq ?_
  have hi9 := invalid_all (b := b) (t := t) (by assumption : rvalidB a = false)
  refine WC.region rfl ?_
  refine WL.move rfl ?_
  refine WL.cmpS .eql rfl .i64 (normE a) 1 rfl rfl rfl (fun (h12 : (normE a) = 1) => ?_) (fun (h12 : (normE a) ≠ 1) => ?_)
  · refine WL.move rfl ?_
    refine WL.move rfl ?_
    have bd1 := hs2.bound
    refine WL.lenSl (hs2.mono hle5) ul22 rfl rfl ?_
    refine WL.cmpS .eql rfl .i64 (((normL a).length : Nat) : Int) 0 rfl rfl rfl (fun (h13 : (((normL a).length : Nat) : Int) = 0) => ?_) (fun (h13 : (((normL a).length : Nat) : Int) ≠ 0) => ?_)
    · refine WL.pickT rfl rfl ?_
      refine WL.move rfl ?_
      refine WL.move rfl ?_
      refine WL.move rfl ?_
      refine WL.callF [va, vb] #[] hb31 rfl rfl rfl ((c_Equal _ _ hS6.imm a b _ (hva.mono ((((hle1.trans hle2).trans hle3).trans hle4).trans hle5)) _ (hvb.mono ((((hle1.trans hle2).trans hle3).trans hle4).trans hle5)) hal hbl).mono ?_)
      rintro e w28 ⟨r29, G28, rfl, hres27, hpost27⟩
      refine ⟨_, rfl, ?_⟩
      have hS29 := hS6.call hres27
      have hle28 := hres27.le
      subst hpost27
      refine WL.split (fun (h14 : (equalB a b) = true) => ?_) (fun (h14 : (equalB a b) = false) => ?_)
      · refine WL.not true rfl rfl ?_
        refine WL.pickT rfl rfl ?_
        refine WL.move rfl ?_
        refine WL.no rfl rfl ?_
        refine WL.no rfl rfl ?_
        refine WL.no rfl rfl ?_
        refine WL.no rfl rfl ?_
        refine WL.no rfl rfl ?_
        refine WL.pickF rfl rfl ?_
        refine WL.move rfl ?_
        refine WL.no rfl rfl ?_
        refine WL.no rfl rfl ?_
        refine WL.no rfl rfl ?_
        refine WL.no rfl rfl ?_
        refine WL.pickF rfl rfl ?_
        refine WL.assign rfl ?_
        refine WL.nil ?_
        refine WC.ret ?_
        exact ⟨.bool false, rfl, .bool false, _, rfl, hS29.res, (congrArg Value.bool (by first | rfl | (exfalso; omega) | exact absurd (by assumption : equalB a b = true) (Bool.eq_false_iff.1 hi9.2.2.1) | exact absurd hi9.1 (by assumption) | exact absurd hna.2 (by assumption) | exact absurd hNa (of_decide_eq_false (by assumption)) | exact (eq_c1 hvA (by assumption) (by omega) (by omega) rfl (by assumption)).elim | exact (eq_c2 (by assumption) (by assumption)).elim | exact absurd hAt.symm (of_decide_eq_false (by assumption)) | exact decide_eq_true hEn.symm | (rw [hi9.2.2.2.2]; rfl)))⟩
      refine WL.not false rfl rfl ?_
      refine WL.pickT rfl rfl ?_
      refine WL.move rfl ?_
      refine WL.move rfl ?_
      refine WL.move rfl ?_
      refine WL.callF [va, .int .i64 t] #[] hb36 rfl rfl rfl ((c_At _ _ hS29.imm a t _ (hva.mono (((((hle1.trans hle2).trans hle3).trans hle4).trans hle5).trans hle28)) hal).mono ?_)
      rintro e w29 ⟨r30, G29, rfl, hres28, hpost28⟩
      refine ⟨_, rfl, ?_⟩
      have hS30 := hS29.call hres28
      have hle29 := hres28.le
      have bd2 := hpost28.bound
      refine WL.lenSl hpost28 ul67 rfl rfl ?_
      refine WL.cmpS .eql rfl .i64 (((atL a t).length : Nat) : Int) 0 rfl rfl rfl (fun (h15 : (((atL a t).length : Nat) : Int) = 0) => ?_) (fun (h15 : (((atL a t).length : Nat) : Int) ≠ 0) => ?_)
      · refine WL.pickT rfl rfl ?_
        refine WL.move rfl ?_
        refine WL.move rfl ?_
        refine WL.callF [va] #[] hb44 rfl rfl rfl ((c_Ends _ _ hS30.imm a _ (hva.mono ((((((hle1.trans hle2).trans hle3).trans hle4).trans hle5).trans hle28).trans hle29)) hal).mono ?_)
        rintro e w30 ⟨r31, G30, rfl, hres29, hpost29⟩
        refine ⟨_, rfl, ?_⟩
        have hS31 := hS30.call hres29
        have hle30 := hres29.le
        have bd3 := hpost29.bound
        refine WL.lenSl hpost29 ul38 rfl rfl ?_
        refine WL.cmp .eql rfl .i64 (((endsL a).length : Nat) : Int) 0 rfl rfl rfl ?_
        refine WL.pickT rfl rfl ?_
        refine WL.assign rfl ?_
        refine WL.nil ?_
        refine WC.ret ?_
        exact ⟨.bool (Cmp.b .eql (((endsL a).length : Nat) : Int) 0), rfl, .bool (Cmp.b .eql (((endsL a).length : Nat) : Int) 0), _, rfl, hS31.res, (congrArg Value.bool (by first | rfl | (exfalso; omega) | exact absurd (by assumption : equalB a b = true) (Bool.eq_false_iff.1 hi9.2.2.1) | exact absurd hi9.1 (by assumption) | exact absurd hna.2 (by assumption) | exact absurd hNa (of_decide_eq_false (by assumption)) | exact (eq_c1 hvA (by assumption) (by omega) (by omega) rfl (by assumption)).elim | exact (eq_c2 (by assumption) (by assumption)).elim | exact absurd hAt.symm (of_decide_eq_false (by assumption)) | exact decide_eq_true hEn.symm | (rw [hi9.2.2.2.2]; rfl)))⟩
      refine WL.pickT rfl rfl ?_
      refine WL.move rfl ?_
      refine WL.no rfl rfl ?_
      refine WL.no rfl rfl ?_
      refine WL.no rfl rfl ?_
      refine WL.no rfl rfl ?_
      refine WL.pickF rfl rfl ?_
      refine WL.assign rfl ?_
      refine WL.nil ?_
      refine WC.ret ?_
      exact ⟨.bool false, rfl, .bool false, _, rfl, hS30.res, (congrArg Value.bool (by first | rfl | (exfalso; omega) | exact absurd (by assumption : equalB a b = true) (Bool.eq_false_iff.1 hi9.2.2.1) | exact absurd hi9.1 (by assumption) | exact absurd hna.2 (by assumption) | exact absurd hNa (of_decide_eq_false (by assumption)) | exact (eq_c1 hvA (by assumption) (by omega) (by omega) rfl (by assumption)).elim | exact (eq_c2 (by assumption) (by assumption)).elim | exact absurd hAt.symm (of_decide_eq_false (by assumption)) | exact decide_eq_true hEn.symm | (rw [hi9.2.2.2.2]; rfl)))⟩
    refine WL.pickT rfl rfl ?_
    refine WL.move rfl ?_
    refine WL.no rfl rfl ?_
    refine WL.no rfl rfl ?_
    refine WL.no rfl rfl ?_
    refine WL.no rfl rfl ?_
    refine WL.pickF rfl rfl ?_
    refine WL.move rfl ?_
    refine WL.no rfl rfl ?_
    refine WL.no rfl rfl ?_
    refine WL.no rfl rfl ?_
    refine WL.no rfl rfl ?_
    refine WL.no rfl rfl ?_
    refine WL.pickF rfl rfl ?_
    refine WL.move rfl ?_
    refine WL.no rfl rfl ?_
    refine WL.no rfl rfl ?_
    refine WL.no rfl rfl ?_
    refine WL.no rfl rfl ?_
    refine WL.pickF rfl rfl ?_
    refine WL.assign rfl ?_
    refine WL.nil ?_
    refine WC.ret ?_
    exact ⟨.bool false, rfl, .bool false, _, rfl, hS6.res, (congrArg Value.bool (by first | rfl | (exfalso; omega) | exact absurd (by assumption : equalB a b = true) (Bool.eq_false_iff.1 hi9.2.2.1) | exact absurd hi9.1 (by assumption) | exact absurd hna.2 (by assumption) | exact absurd hNa (of_decide_eq_false (by assumption)) | exact (eq_c1 hvA (by assumption) (by omega) (by omega) rfl (by assumption)).elim | exact (eq_c2 (by assumption) (by assumption)).elim | exact absurd hAt.symm (of_decide_eq_false (by assumption)) | exact decide_eq_true hEn.symm | (rw [hi9.2.2.2.2]; rfl)))⟩
  refine WL.move rfl ?_
  refine WL.no rfl rfl ?_
  refine WL.no rfl rfl ?_
  refine WL.no rfl rfl ?_
  refine WL.pickF rfl rfl ?_
  refine WL.move rfl ?_
  refine WL.no rfl rfl ?_
  refine WL.no rfl rfl ?_
  refine WL.no rfl rfl ?_
  refine WL.no rfl rfl ?_
  refine WL.pickF rfl rfl ?_
  refine WL.move rfl ?_
  refine WL.no rfl rfl ?_
  refine WL.no rfl rfl ?_
  refine WL.no rfl rfl ?_
  refine WL.no rfl rfl ?_
  refine WL.no rfl rfl ?_
  refine WL.pickF rfl rfl ?_
  refine WL.move rfl ?_
  refine WL.no rfl rfl ?_
  refine WL.no rfl rfl ?_
  refine WL.no rfl rfl ?_
  refine WL.no rfl rfl ?_
  refine WL.pickF rfl rfl ?_
  refine WL.assign rfl ?_
  refine WL.nil ?_
  refine WC.ret ?_
  exact ⟨.bool false, rfl, .bool false, _, rfl, hS6.res, (congrArg Value.bool (by first | rfl | (exfalso; omega) | exact absurd (by assumption : equalB a b = true) (Bool.eq_false_iff.1 hi9.2.2.1) | exact absurd hi9.1 (by assumption) | exact absurd hna.2 (by assumption) | exact absurd hNa (of_decide_eq_false (by assumption)) | exact (eq_c1 hvA (by assumption) (by omega) (by omega) rfl (by assumption)).elim | exact (eq_c2 (by assumption) (by assumption)).elim | exact absurd hAt.symm (of_decide_eq_false (by assumption)) | exact decide_eq_true hEn.symm | (rw [hi9.2.2.2.2]; rfl)))⟩
end Go.Civ
