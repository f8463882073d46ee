/- Walks, printed by specs38.py. -/
import Derived.Test.YtapjalhjfblonaaGreatProg
import Derived.KernelRfl
import Derived.WalkKit
import Derived.Test.YtapjalhjfblonaaGreatWo
import Derived.Test.YtapjalhjfblonaaGreatWo2
import Derived.Test.YtapjalhjfblonaaGreatWi
import Derived.Test.YtapjalhjfblonaaGreatCiv27
set_option linter.unusedVariables false
set_option linter.unusedSimpArgs false
set_option maxRecDepth 100000
set_option maxHeartbeats 4000000
namespace Go.Civ
open Go.Proofs


theorem c_Relate (G : GH) (w : World) (hG : G.In w) (a b : List Fact) (s : Int) (va : Value) (hva : Sl FactE 40 G va a) (vb : Value) (hvb : Sl FactE 40 G vb b)  : Calls Tryz.prog (nat_lit 13) #[va, vb, .int .i64 s] w fun e w' => ∃ r G', e = .returned r ∧ Res [] w G w' G' ∧ ∃ r0 r1, r = .tuple #[r0, r1] ∧ Sl FactE 40 G' r0 (relL a b s) ∧ r1 = .int .i64 (relE a b s) := by
  refine calls_of_WC (N := 102) Tryz.func13 rfl rfl rfl ?_
  have hS := St.start (X := []) hG
  refine WC.seq <| WC.region rfl <| WL.assign rfl <| WL.assign rfl <| WL.nil <| WC.seq <| WC.seq <| WC.region rfl <| WL.move rfl ?_
  refine WL.callF [va] #[] hb57 rfl rfl rfl ((c_valid _ _ hS.imm a _ hva ).mono ?_)
  rintro e w1 ⟨r1, G1, rfl, hres1, hpost1⟩
  refine ⟨_, rfl, ?_⟩
  have hS1 := hS.call hres1
  have hle1 := hres1.le
  subst hpost1
  refine WL.split (fun (h1 : (validB a) = true) => ?_) (fun (h1 : (validB a) = false) => ?_)
  · refine WL.not true rfl rfl ?_
    refine WL.move rfl <| WL.move rfl ?_
    refine WL.callF [vb] #[] hb57 rfl rfl rfl ((c_valid _ _ hS1.imm b _ (hvb.mono hle1) ).mono ?_)
    rintro e w2 ⟨r2, G2, rfl, hres2, hpost2⟩
    refine ⟨_, rfl, ?_⟩
    have hS2 := hS1.call hres2
    have hle2 := hres2.le
    subst hpost2
    refine WL.split (fun (h2 : (validB b) = true) => ?_) (fun (h2 : (validB b) = false) => ?_)
    · refine WL.not true rfl rfl ?_
      refine WL.pickF rfl rfl <| WL.move rfl <| WL.move rfl ?_
      refine WL.lssS s 0 rfl rfl rfl (fun h3 => ?_) (fun h3 => ?_)
      · refine WL.pickF rfl rfl <| WL.move rfl <| WL.no rfl rfl <| WL.no rfl rfl <| WL.no rfl rfl <| WL.pickT rfl rfl <| WL.nil <| WC.condT rfl <| WC.seq <| WC.region rfl <| WL.assign rfl <| WL.assign rfl <| WL.nil ?_
        refine WC.ret ?_
        exact ⟨.tuple #[.slice none 0 0, .int .i64 1], rfl, .tuple #[.slice none 0 0, .int .i64 1], _, rfl, hS2.res, (.slice none 0 0), (.int .i64 1), rfl, (Sl.cast (Sl.nil FactE 40 G2) (by exact (rel_1 (relOk_no (.inr (.inr (.inl (by omega)))))).1.symm)), (congrArg (Value.int .i64) (by exact (rel_1 (relOk_no (.inr (.inr (.inl (by omega)))))).2.symm))⟩
      refine WL.pickF rfl rfl <| WL.move rfl <| WL.move rfl ?_
      refine WL.callF [] #[] hb58 rfl rfl rfl ((c_Full _ _ hS2.imm   ).mono ?_)
      rintro e w3 ⟨r3, G3, rfl, hres3, hpost3⟩
      refine ⟨_, rfl, ?_⟩
      have hS3 := hS2.call hres3
      have hle3 := hres3.le
      subst hpost3
      refine WL.gtrS s 8191 rfl rfl rfl (fun h4 => ?_) (fun h4 => ?_)
      · refine WL.pickF rfl rfl <| WL.nil <| WC.condT rfl <| WC.seq <| WC.region rfl <| WL.assign rfl <| WL.assign rfl <| WL.nil ?_
        refine WC.ret ?_
        exact ⟨.tuple #[.slice none 0 0, .int .i64 1], rfl, .tuple #[.slice none 0 0, .int .i64 1], _, rfl, hS3.res, (.slice none 0 0), (.int .i64 1), rfl, (Sl.cast (Sl.nil FactE 40 G3) (by exact (rel_1 (relOk_no (.inr (.inr (.inr (by omega)))))).1.symm)), (congrArg (Value.int .i64) (by exact (rel_1 (relOk_no (.inr (.inr (.inr (by omega)))))).2.symm))⟩
      refine WL.pickF rfl rfl <| WL.nil <| WC.condF rfl <| WC.skip <| WC.seq ?_
      have hok9 : relOk a b s = true := relOk_yes h1 h2 (by omega) (by omega)
      refine WC.region rfl <| WL.move rfl ?_
      refine WL.callF [va] #[] hb32 rfl rfl rfl ((c_Normal _ _ hS3.imm a _ (hva.mono ((hle1.trans hle2).trans hle3)) ).mono ?_)
      rintro e w4 ⟨r4, G4, rfl, hres4, hpost4⟩
      refine ⟨_, rfl, ?_⟩
      have hS4 := hS3.call hres4
      have hle4 := hres4.le
      obtain ⟨r5, r6, rfl, hs1, rfl⟩ := hpost4
      refine WL.move rfl ?_
      refine WL.extract _ _ rfl rfl rfl ?_
      refine WL.extract _ _ rfl rfl rfl ?_
      refine WL.assign rfl <| WL.assign rfl <| WL.nil <| WC.seq <| WC.region rfl <| WL.move rfl ?_
      refine WL.callF [vb] #[] hb32 rfl rfl rfl ((c_Normal _ _ hS4.imm b _ (hvb.mono (((hle1.trans hle2).trans hle3).trans hle4)) ).mono ?_)
      rintro e w5 ⟨r7, G5, rfl, hres5, hpost5⟩
      refine ⟨_, rfl, ?_⟩
      have hS5 := hS4.call hres5
      have hle5 := hres5.le
      obtain ⟨r8, r9, rfl, hs2, rfl⟩ := hpost5
      refine WL.move rfl ?_
      refine WL.extract _ _ rfl rfl rfl ?_
      refine WL.extract _ _ rfl rfl rfl ?_
      refine WL.assign rfl <| WL.assign rfl <| WL.nil <| WC.seq <| WC.seq ?_
      have bd1 := hs1.bound
      rcases Cmp.dec .gtr (((normL a).length : Nat) : Int) 0 with ⟨hb1, q1⟩ | ⟨hb1, q1⟩
      · have h5 : 0 < (((normL a).length : Nat) : Int) := q1
        clear q1
        have bd2 := hs2.bound
        rcases Cmp.dec .gtr (((normL b).length : Nat) : Int) 0 with ⟨hb2, q2⟩ | ⟨hb2, q2⟩
        · have h6 : 0 < (((normL b).length : Nat) : Int) := q2
          clear q2
          obtain ⟨p1, x1, hx1, he1, ep1⟩ := Sl.at (hs1.mono hle5) 0 (by omega)
          obtain ⟨cs1, hc1, hr1⟩ := he1
          obtain ⟨v1, rfl, hs3, hb3, hb4⟩ := FactE_open hr1
          have bd3 := hs3.bound
          obtain ⟨p2, x2, hx2, he2, ep2⟩ := Sl.at hs2 0 (by omega)
          obtain ⟨cs2, hc2, hr2⟩ := he2
          obtain ⟨v2, rfl, hs4, hb5, hb6⟩ := FactE_open hr2
          have bd4 := hs4.bound
          rcases Cmp.dec .gtr ((x1.v.length + x2.v.length : Nat) : Int) 8 with ⟨hb7, q3⟩ | ⟨hb7, q3⟩
          · have h7 : 8 < ((x1.v.length + x2.v.length : Nat) : Int) := q3
            clear q3
            refine dr ⟨[0, 1, 3, 7, 15, 31, 63, 127, 255, 511, 1023, 2047, 4095, 8191, 511, 16895, 49663, 115199, 246271, 524287, 1048575, 2097151], [0, 1, 2, 3, 4, 5, 6, 7, 8, 9, 10, 11, 13, 14, 15, 16, 18, 19, 20, 21], [12, 17], [], []⟩ [(44, r5), (45, .int .i64 (((normL a).length : Nat) : Int)), (46, .bool true), (47, .bool true), (48, r8), (49, .int .i64 (((normL b).length : Nat) : Int)), (50, .bool true), (51, .bool true), (52, .bool true), (53, r5), (54, .pointer (some p1)), (55, .pointer (some (p1.add 0))), (57, .int .i64 (x1.v.length : Int)), (58, r8), (59, .pointer (some p2)), (60, .pointer (some (p2.add 0))), (62, .int .i64 (x2.v.length : Int)), (63, .int .i64 ((x1.v.length + x2.v.length : Nat) : Int)), (64, .bool true), (65, .bool true), (56, v1), (61, v2)] [] hS5 ?_ ?_ trivial (fun w8 hS6 => ?_)
            · exact ⟨fun _ _ => WL.move rfl <| WL.nu rfl, fun _ _ => WL.lenSl (hs1.mono hle5) ul22 rfl rfl <| WL.nu rfl, fun _ _ => WL.cmpV .gtr rfl .i64 (((normL a).length : Nat) : Int) 0 _ hb1 rfl rfl rfl <| WL.nu rfl, fun _ _ => WL.move rfl <| WL.nu rfl, fun _ _ => WL.move rfl <| WL.nu rfl, fun _ _ => WL.lenSl hs2 ul22 rfl rfl <| WL.nu rfl, fun _ _ => WL.cmpV .gtr rfl .i64 (((normL b).length : Nat) : Int) 0 _ hb2 rfl rfl rfl <| WL.nu rfl, fun _ _ => WL.pickT rfl rfl <| WL.nu rfl, fun _ _ => WL.move rfl <| WL.nu rfl, fun _ _ => WL.move rfl <| WL.nu rfl, fun _ _ => WL.indexAddrP 0 ep1 ul22 ti63 rfl rfl rfl rfl <| WL.nu rfl, fun _ _ => WL.fieldAddr _ 0 _ fl63 rfl rfl rfl <| WL.nu rfl, fun _ _ => WL.lenSl hs3 ul61 rfl rfl <| WL.nu rfl, fun _ _ => WL.move rfl <| WL.nu rfl, fun _ _ => WL.indexAddrP 0 ep2 ul22 ti63 rfl rfl rfl rfl <| WL.nu rfl, fun _ _ => WL.fieldAddr _ 0 _ fl63 rfl rfl rfl <| WL.nu rfl, fun _ _ => WL.lenSl hs4 ul61 rfl rfl <| WL.nu rfl, fun _ _ => WL.addN x1.v.length x2.v.length (by have hreach : reach = 140737488355328 := rfl; omega) rfl rfl rfl <| WL.nu rfl, fun _ _ => WL.cmpV .gtr rfl .i64 ((x1.v.length + x2.v.length : Nat) : Int) 8 _ hb7 rfl rfl rfl <| WL.nu rfl, fun _ _ => WL.pickT rfl rfl <| WL.nu rfl, trivial⟩
            · exact ⟨fun _ hSw => WL.loadG1 hSw (Cells.drop 0 hc1) ti61 rfl rfl rfl <| WL.nu rfl, fun _ hSw => WL.loadG1 hSw (Cells.drop 0 hc2) ti61 rfl rfl rfl <| WL.nu rfl, trivial⟩
            refine WC.condT rfl <| WC.seq <| WC.region rfl <| WL.assign rfl <| WL.assign rfl <| WL.nil ?_
            refine WC.ret ?_
            exact ⟨.tuple #[.slice none 0 0, .int .i64 5], rfl, .tuple #[.slice none 0 0, .int .i64 5], _, rfl, hS6.res, (.slice none 0 0), (.int .i64 5), rfl, (Sl.cast (Sl.nil FactE 40 G5) (by exact (rel_2 hok9 (wide_yes (by assumption) (by assumption) (by omega))).1.symm)), (congrArg (Value.int .i64) (by exact (rel_2 hok9 (wide_yes (by assumption) (by assumption) (by omega))).2.symm))⟩
          have h7 : ((x1.v.length + x2.v.length : Nat) : Int) ≤ 8 := q3
          clear q3
          refine dr ⟨[0, 1, 3, 7, 15, 31, 63, 127, 255, 511, 1023, 2047, 4095, 8191, 511, 16895, 49663, 115199, 246271, 524287, 1048575, 2097151], [0, 1, 2, 3, 4, 5, 6, 7, 8, 9, 10, 11, 13, 14, 15, 16, 18, 19, 20, 21], [12, 17], [], []⟩ [(44, r5), (45, .int .i64 (((normL a).length : Nat) : Int)), (46, .bool true), (47, .bool true), (48, r8), (49, .int .i64 (((normL b).length : Nat) : Int)), (50, .bool true), (51, .bool true), (52, .bool true), (53, r5), (54, .pointer (some p1)), (55, .pointer (some (p1.add 0))), (57, .int .i64 (x1.v.length : Int)), (58, r8), (59, .pointer (some p2)), (60, .pointer (some (p2.add 0))), (62, .int .i64 (x2.v.length : Int)), (63, .int .i64 ((x1.v.length + x2.v.length : Nat) : Int)), (64, .bool false), (65, .bool false), (56, v1), (61, v2)] [] hS5 ?_ ?_ trivial (fun w8 hS7 => ?_)
          · exact ⟨fun _ _ => WL.move rfl <| WL.nu rfl, fun _ _ => WL.lenSl (hs1.mono hle5) ul22 rfl rfl <| WL.nu rfl, fun _ _ => WL.cmpV .gtr rfl .i64 (((normL a).length : Nat) : Int) 0 _ hb1 rfl rfl rfl <| WL.nu rfl, fun _ _ => WL.move rfl <| WL.nu rfl, fun _ _ => WL.move rfl <| WL.nu rfl, fun _ _ => WL.lenSl hs2 ul22 rfl rfl <| WL.nu rfl, fun _ _ => WL.cmpV .gtr rfl .i64 (((normL b).length : Nat) : Int) 0 _ hb2 rfl rfl rfl <| WL.nu rfl, fun _ _ => WL.pickT rfl rfl <| WL.nu rfl, fun _ _ => WL.move rfl <| WL.nu rfl, fun _ _ => WL.move rfl <| WL.nu rfl, fun _ _ => WL.indexAddrP 0 ep1 ul22 ti63 rfl rfl rfl rfl <| WL.nu rfl, fun _ _ => WL.fieldAddr _ 0 _ fl63 rfl rfl rfl <| WL.nu rfl, fun _ _ => WL.lenSl hs3 ul61 rfl rfl <| WL.nu rfl, fun _ _ => WL.move rfl <| WL.nu rfl, fun _ _ => WL.indexAddrP 0 ep2 ul22 ti63 rfl rfl rfl rfl <| WL.nu rfl, fun _ _ => WL.fieldAddr _ 0 _ fl63 rfl rfl rfl <| WL.nu rfl, fun _ _ => WL.lenSl hs4 ul61 rfl rfl <| WL.nu rfl, fun _ _ => WL.addN x1.v.length x2.v.length (by have hreach : reach = 140737488355328 := rfl; omega) rfl rfl rfl <| WL.nu rfl, fun _ _ => WL.cmpV .gtr rfl .i64 ((x1.v.length + x2.v.length : Nat) : Int) 8 _ hb7 rfl rfl rfl <| WL.nu rfl, fun _ _ => WL.pickT rfl rfl <| WL.nu rfl, trivial⟩
          · exact ⟨fun _ hSw => WL.loadG1 hSw (Cells.drop 0 hc1) ti61 rfl rfl rfl <| WL.nu rfl, fun _ hSw => WL.loadG1 hSw (Cells.drop 0 hc2) ti61 rfl rfl rfl <| WL.nu rfl, trivial⟩
          refine WC.condF rfl <| WC.skip <| WC.seq ?_
          have hw9 : wideB (normL a) (normL b) = false := by exact wide_no (by assumption) (by assumption) (by omega)
          refine WC.region rfl <| WL.assign rfl <| WL.nil <| WC.seq <| WC.seq <| WC.region rfl <| WL.move rfl ?_
          have bd5 := hs1.bound
          refine WL.lenSl (hs1.mono hle5) ul22 rfl rfl ?_
          refine WL.move rfl <| WL.nil <| WC.block ?_
          have hS9 := hS7.pad
          refine WC.loop (γ := Nat) (fun m ρ1 w1 => ∃ (k1 : Nat), ∃ (v3 : Value) (o1 : OB), ∃ (G6 : GH), m = (normL a).length - k1 ∧ G5.le G6 ∧ St w [] G G6 [o1] w1 ∧ Row FactE 40 63 G6 v3 (relF s ((normL a).take k1) (normL b)) o1 ∧ ρ1 2 = .int .i64 s ∧ ρ1 10 = r8 ∧ ρ1 12 = v3 ∧ ρ1 66 = r5 ∧ ρ1 67 = .int .i64 (((normL a).length : Nat) : Int) ∧ ρ1 68 = .int .i64 (k1 : Int) ∧ k1 ≤ (normL a).length) (fun m => m) _ ⟨0, (.slice none 0 0), none, G5, rfl, (G5.le_refl), hS9, (Row.nil FactE 40 63 G5), rfl, rfl, rfl, rfl, rfl, rfl, (by omega)⟩ ?_
          rintro m ρ1 w8 ⟨k1, v3, o1, G6, rfl, hle6, hS8, hr3, e1, e2, e3, e4, e5, e6, f1⟩
          refine WC.set (d := 2) e1 ?_
          refine WC.set (d := 10) e2 ?_
          refine WC.set (d := 12) e3 ?_
          refine WC.set (d := 66) e4 ?_
          refine WC.set (d := 67) e5 ?_
          refine WC.set (d := 68) e6 ?_
          have hna := normL_le a
          have hnb := normL_le b
          refine WC.seq <| WC.region rfl ?_
          refine WL.lssS (k1 : Int) (((normL a).length : Nat) : Int) rfl rfl rfl (fun h8 => ?_) (fun h8 => ?_)
          · refine WL.nil <| WC.seq <| WC.condT rfl <| WC.skip <| WC.seq <| WC.block <| WC.seq <| WC.region rfl ?_
            refine WL.indexAddr (hs1.mono (hle5.trans hle6)) k1 (by omega) ul22 ti63 rfl rfl rfl rfl (fun p3 x3 hx3 he3 => ?_)
            obtain ⟨cs3, hc3, hr4⟩ := he3
            obtain ⟨v4, rfl, hs5, hb8, hb9⟩ := FactE_open hr4
            refine WL.loadGAt hS8 hc3 [v4, .int .i64 x3.t.a, .int .i64 x3.t.b] ti63 rfl rfl rfl rfl rfl ?_
            refine WL.alloc hS8 ti63 rfl rfl (fun b1 w9 hn1 hS10 => ?_)
            refine WL.store hS10 0 _ _ _ 0 _ [v4, .int .i64 x3.t.a, .int .i64 x3.t.b] [v4, .int .i64 x3.t.a, .int .i64 x3.t.b] _ rfl rfl ti63 rfl (Nat.le_of_ble_eq_true rfl) (by simp only [List.all_cons, List.all_nil, hs5.oneC, Bool.true_and] <;> rfl) rfl rfl rfl rfl rfl (fun w10 hS11 => ?_)
            obtain ⟨G7, hle7, hc4, hS12⟩ := hS11.shutB hn1
            refine WL.nil <| WC.seq <| WC.region rfl <| WL.move rfl ?_
            have bd6 := hs2.bound
            refine WL.lenSl (hs2.mono (hle6.trans hle7)) ul22 rfl rfl ?_
            refine WL.move rfl <| WL.nil <| WC.block ?_
            refine WC.loop (γ := Nat) (fun m ρ1 w1 => ∃ (k2 : Nat), ∃ (v5 : Value) (o2 : OB), ∃ (G8 : GH), m = (normL b).length - k2 ∧ G7.le G8 ∧ St w [] G G8 [o2] w1 ∧ Row FactE 40 63 G8 v5 (relF s ((normL a).take k1) (normL b) ++ relG s x3 ((normL b).take k2)) o2 ∧ ρ1 2 = .int .i64 s ∧ ρ1 10 = r8 ∧ ρ1 12 = v5 ∧ ρ1 14 = .pointer (some (⟨b1, 0, none⟩ : Addr)) ∧ ρ1 66 = r5 ∧ ρ1 67 = .int .i64 (((normL a).length : Nat) : Int) ∧ ρ1 68 = .int .i64 (k1 : Int) ∧ ρ1 72 = r8 ∧ ρ1 73 = .int .i64 (((normL b).length : Nat) : Int) ∧ ρ1 74 = .int .i64 (k2 : Int) ∧ k2 ≤ (normL b).length) (fun m => m) _ ⟨0, v3, o1, G7, rfl, (G7.le_refl), hS12, (Row.cast (hr3.mono hle7) (by simp [relG])), rfl, rfl, rfl, rfl, rfl, rfl, rfl, rfl, rfl, rfl, (by omega)⟩ ?_
            rintro m ρ1 w11 ⟨k2, v5, o2, G8, rfl, hle8, hS13, hr5, e7, e8, e9, e10, e11, e12, e13, e14, e15, e16, f2⟩
            refine WC.set (d := 2) e7 ?_
            refine WC.set (d := 10) e8 ?_
            refine WC.set (d := 12) e9 ?_
            refine WC.set (d := 14) e10 ?_
            refine WC.set (d := 66) e11 ?_
            refine WC.set (d := 67) e12 ?_
            refine WC.set (d := 68) e13 ?_
            refine WC.set (d := 72) e14 ?_
            refine WC.set (d := 73) e15 ?_
            refine WC.set (d := 74) e16 ?_
            have hjl := relF_len s ((normL a).take k1) (normL b)
            have hjg := relG_len s x3 ((normL b).take k2)
            have hjt := List.length_take_le' k1 (normL a)
            have hjt2 := List.length_take_le' k2 (normL b)
            have hjb := Nat.mul_le_mul (Nat.le_trans hjt hna) hnb
            refine WC.seq <| WC.region rfl ?_
            refine WL.lssS (k2 : Int) (((normL b).length : Nat) : Int) rfl rfl rfl (fun h9 => ?_) (fun h9 => ?_)
            · refine WL.nil <| WC.seq <| WC.condT rfl <| WC.skip <| WC.seq <| WC.block <| WC.seq <| WC.region rfl ?_
              refine WL.indexAddr (hs2.mono ((hle6.trans hle7).trans hle8)) k2 (by omega) ul22 ti63 rfl rfl rfl rfl (fun p4 x4 hx4 he4 => ?_)
              obtain ⟨cs4, hc5, hr6⟩ := he4
              obtain ⟨v6, rfl, hs6, hb10, hb11⟩ := FactE_open hr6
              refine WL.loadGAt hS13 hc5 [v6, .int .i64 x4.t.a, .int .i64 x4.t.b] ti63 rfl rfl rfl rfl rfl ?_
              refine WL.alloc hS13 ti63 rfl rfl (fun b2 w12 hn2 hS14 => ?_)
              refine WL.store hS14 0 _ _ _ 0 _ [v6, .int .i64 x4.t.a, .int .i64 x4.t.b] [v6, .int .i64 x4.t.a, .int .i64 x4.t.b] _ rfl rfl ti63 rfl (Nat.le_of_ble_eq_true rfl) (by simp only [List.all_cons, List.all_nil, hs6.oneC, Bool.true_and] <;> rfl) rfl rfl rfl rfl rfl (fun w13 hS15 => ?_)
              obtain ⟨G9, hle9, hc6, hS16⟩ := hS15.shutB hn2
              refine WL.nil <| WC.seq <| WC.region rfl <| WL.move rfl ?_
              refine WL.fieldAddr _ 1 _ fl63 rfl rfl rfl ?_
              refine WL.loadGAt hS16 (Cells.drop 1 (hc4.mono (hle8.trans hle9))) [.int .i64 x3.t.a, .int .i64 x3.t.b] ti46 rfl rfl rfl rfl rfl ?_
              refine WL.fieldAddr _ 1 _ fl63 rfl rfl rfl ?_
              refine WL.loadGAt hS16 (Cells.drop 1 hc6) [.int .i64 x4.t.a, .int .i64 x4.t.b] ti46 rfl rfl rfl rfl rfl ?_
              refine WL.callF [.int .i64 s, .agg #[.int .i64 x3.t.a, .int .i64 x3.t.b], .agg #[.int .i64 x4.t.a, .int .i64 x4.t.b]] #[] hb59 rfl rfl rfl ((c_Holds _ _ hS16.imm s x3.t x4.t _ (SpanE_mk x3.t hb8 hb9) _ (SpanE_mk x4.t hb10 hb11) ).mono ?_)
              rintro e w14 ⟨r10, G10, rfl, hres6, hpost6⟩
              refine ⟨_, rfl, ?_⟩
              have hS17 := hS16.call hres6
              have hle10 := hres6.le
              subst hpost6
              refine WL.split (fun (h10 : (holdsB s x3.t x4.t) = true) => ?_) (fun (h10 : (holdsB s x3.t x4.t) = false) => ?_)
              · refine WL.nil <| WC.condT rfl ?_
                have hf1 := normL_vlen (a := a) h1 (List.mem_of_getElem? hx3)
                have hg1 := normL_vlen (a := b) h2 (List.mem_of_getElem? hx4)
                refine dr ⟨[0, 0, 2, 0, 8, 30, 62, 0, 128, 510, 1022, 2047, 4095], [0, 1, 3, 7], [2, 4, 8], [], [5, 6, 9, 10, 11, 12]⟩ [(84, v5), (85, .pointer (some ((⟨b1, 0, none⟩ : Addr).add 0))), (87, .pointer (some ((⟨b2, 0, none⟩ : Addr).add 0))), (91, .pointer (some ((⟨b1, 0, none⟩ : Addr).add 1))), (86, v4), (88, v6), (92, .agg #[.int .i64 x3.t.a, .int .i64 x3.t.b])] [o2] hS17 ?_ ?_ trivial (fun w8 hS18 => ?_)
                · exact ⟨fun _ _ => WL.move rfl <| WL.nu rfl, fun _ _ => WL.fieldAddr _ 0 _ fl63 rfl rfl rfl <| WL.nu rfl, fun _ _ => WL.fieldAddr _ 0 _ fl63 rfl rfl rfl <| WL.nu rfl, fun _ _ => WL.fieldAddr _ 1 _ fl63 rfl rfl rfl <| WL.nu rfl, trivial⟩
                · exact ⟨fun _ hSw => WL.loadG1 hSw (Cells.drop 0 (hc4.mono ((hle8.trans hle9).trans hle10))) ti61 rfl rfl rfl <| WL.nu rfl, fun _ hSw => WL.loadG1 hSw (Cells.drop 0 (hc6.mono hle10)) ti61 rfl rfl rfl <| WL.nu rfl, fun _ hSw => WL.loadGAt hSw (Cells.drop 1 (hc4.mono ((hle8.trans hle9).trans hle10))) [.int .i64 x3.t.a, .int .i64 x3.t.b] ti46 rfl rfl rfl rfl rfl <| WL.nu rfl, trivial⟩
                refine TL.step rfl ?_
                refine WL.buildSlice _ [(0, [v4]), (1, [v6])] [v4, v6] hS18 sl67 rfl rfl rfl (by show [(0, (v4 : Value).cells.toList), (1, (v6 : Value).cells.toList)] = _; simp only [(hs5.mono (((hle7.trans hle8).trans hle9).trans hle10)).cells1, (hs6.mono (hle9.trans hle10)).cells1] <;> rfl) (fun z hz => by match z, hz with | [z0, z1], _ => rfl) (fun b3 w16 hn3 hS19 => ?_)
                refine WL.nil ⟨fun _ => hS19.tail.down hS18.le (G10.le_refl), ?_⟩
                refine TL.step rfl ?_
                obtain ⟨G11, hle11, hs7, hS20⟩ := St.sealSl (E := (ValE.slice 32)) (by_ := 24) (l := ([x3.v, x4.v] : List (List Val))) hS19 hn3 ⟨[v4], _, rfl, ⟨_, rfl, (hs5.mono (((hle7.trans hle8).trans hle9).trans hle10))⟩, ⟨[v6], _, rfl, ⟨_, rfl, (hs6.mono (hle9.trans hle10))⟩, rfl⟩⟩ rfl (by simp [reach]) (by simp [reach])
                refine WL.callF [.slice (some ⟨b3, 0, none⟩) 2 2] #[] hb60 rfl rfl rfl ((c_ConcatV _ _ hS20.imm [x3.v, x4.v] _ hs7 (by simp; omega)).mono ?_)
                rintro e w17 ⟨r11, G12, rfl, hres7, hpost7⟩
                refine ⟨_, rfl, ?_⟩
                have hS21 := hS20.call hres7
                have hle12 := hres7.le
                refine WL.nil ⟨fun _ => hS21.down hS18.le (hle11.trans hle12), ?_⟩
                refine TL.step rfl ?_
                refine WL.build _ [(0, [r11]), (1, [.int .i64 x3.t.a, .int .i64 x3.t.b])] [r11, .int .i64 x3.t.a, .int .i64 x3.t.b] ti63 rfl fl63 rfl rfl (by show [(0, (r11 : Value).cells.toList), (1, (.agg #[.int .i64 x3.t.a, .int .i64 x3.t.b] : Value).cells.toList)] = _; simp only [hpost7.cells1] <;> rfl) rfl ?_
                refine WL.nil ⟨fun h => absurd h (by decide), ?_⟩
                refine TL.step rfl ?_
                refine WL.buildSlice _ [(0, [r11, .int .i64 x3.t.a, .int .i64 x3.t.b])] [r11, .int .i64 x3.t.a, .int .i64 x3.t.b] hS21 sl22 rfl rfl rfl rfl (fun z hz => by match z, hz with | [z0, z1, z2], _ => rfl) (fun b4 w18 hn4 hS22 => ?_)
                refine WL.nil ⟨fun h => absurd h (by decide), ?_⟩
                refine TL.step rfl ?_
                refine WL.push (m := ([(Fact.mk ([x3.v, x4.v].flatten) x3.t)] : List Fact)) sl22 rfl rfl rfl (hr5.mono (((hle9.trans hle10).trans hle11).trans hle12)) hS22 1 rfl 0 _ _ _ _ _ rfl ⟨[r11, .int .i64 x3.t.a, .int .i64 x3.t.b], _, rfl, (FactE_mk (Fact.mk ([x3.v, x4.v].flatten) x3.t) hpost7 hb8 hb9), rfl⟩ rfl (by have hreach : reach = 140737488355328 := rfl; simp only [List.length_append, List.length_cons, List.length_nil]; omega) (by have hreach : reach = 140737488355328 := rfl; simp only [List.length_append, List.length_cons, List.length_nil]; omega) rfl rfl rfl (fun v7 o3 w19 hr7 hS23 => ?_)
                have hS24 := hS23.tail
                refine WL.nil ⟨fun h => absurd h (by decide), ?_⟩
                refine TL.step rfl ?_
                refine WL.assign rfl ?_
                refine WL.nil ⟨fun h => absurd h (by decide), ?_⟩
                refine WC.region rfl ?_
                refine WL.incr k2 (by have hreach : reach = 140737488355328 := rfl; omega) rfl rfl rfl ?_
                refine WL.move rfl <| WL.nil ?_
                exact ⟨_, ⟨k2 + 1, v7, o3, G12, rfl, (hle8.trans (((hle9.trans hle10).trans hle11).trans hle12)), hS24, (Row.cast hr7 (by ((rw [relG_yes (by assumption) (by assumption)]; simp)))), rfl, rfl, rfl, rfl, rfl, rfl, rfl, rfl, rfl, rfl, (by omega)⟩, (show (normL b).length - (k2 + 1) < (normL b).length - k2 by omega)⟩
              refine WL.nil <| WC.condF rfl <| WC.skip <| WC.region rfl ?_
              refine WL.incr k2 (by have hreach : reach = 140737488355328 := rfl; omega) rfl rfl rfl ?_
              refine WL.move rfl <| WL.nil ?_
              exact ⟨_, ⟨k2 + 1, v5, o2, G10, rfl, (hle8.trans (hle9.trans hle10)), hS17, (Row.cast (hr5.mono (hle9.trans hle10)) (by (rw [relG_no (by assumption) (by assumption)]))), rfl, rfl, rfl, rfl, rfl, rfl, rfl, rfl, rfl, rfl, (by omega)⟩, (show (normL b).length - (k2 + 1) < (normL b).length - k2 by omega)⟩
            refine WL.nil <| WC.seq <| WC.condF rfl <| WC.exit <| WC.region rfl ?_
            refine WL.incr k1 (by have hreach : reach = 140737488355328 := rfl; omega) rfl rfl rfl ?_
            refine WL.move rfl <| WL.nil ?_
            exact ⟨_, ⟨k1 + 1, v5, o2, G8, rfl, (hle6.trans (hle7.trans hle8)), hS13, (Row.cast hr5 (by (rw [relG_all (by omega), ← relF_take (by assumption)]))), rfl, rfl, rfl, rfl, rfl, rfl, (by omega)⟩, (show (normL a).length - (k1 + 1) < (normL a).length - k1 by omega)⟩
          refine WL.nil <| WC.seq <| WC.condF rfl <| WC.exit <| WC.seq <| WC.region rfl <| WL.move rfl ?_
          obtain ⟨G13, hle13, hs8, hS25⟩ := Row.freeze hr3 hS8 0 rfl
          refine WL.callF [v3] #[] hb61 rfl rfl rfl ((c_finished _ _ hS25.imm (relF s ((normL a).take k1) (normL b)) _ hs8 (by rw [relF_all (by omega)]; exact relF_good normL_good normL_good) (by rw [relF_all (by omega)]; exact Nat.le_trans (relF_len _ _ _) (Nat.mul_le_mul (normL_le a) (normL_le b)))).mono ?_)
          rintro e w20 ⟨r12, G14, rfl, hres8, hpost8⟩
          refine ⟨_, rfl, ?_⟩
          have hS26 := hS25.call hres8
          have hle14 := hres8.le
          obtain ⟨r13, r14, rfl, hs9, rfl⟩ := hpost8
          refine WL.extract _ _ rfl rfl rfl ?_
          refine WL.extract _ _ rfl rfl rfl ?_
          refine WL.assign rfl <| WL.assign rfl <| WL.nil ?_
          refine WC.ret ?_
          exact ⟨.tuple #[r13, .int .i64 (finE (relF s ((normL a).take k1) (normL b)))], rfl, .tuple #[r13, .int .i64 (finE (relF s ((normL a).take k1) (normL b)))], _, rfl, hS26.res, r13, (.int .i64 (finE (relF s ((normL a).take k1) (normL b)))), rfl, (Sl.cast hs9 (by (rw [relF_all (by omega)]; exact (rel_3 hok9 hw9).1.symm))), (congrArg (Value.int .i64) (by (rw [relF_all (by omega)]; exact (rel_3 hok9 hw9).2.symm)))⟩
        have h6 : (((normL b).length : Nat) : Int) ≤ 0 := q2
        clear q2
        refine dr ⟨[0, 1, 3, 7, 15, 31, 63, 127, 255, 511, 1023, 2047, 4095, 8191, 511, 16895, 49663, 115199, 246271, 524287, 1048575, 2097151], [0, 1, 2, 3, 4, 5, 6, 7, 8, 9, 10, 11, 13, 14, 15, 16, 18, 19, 20, 21], [12, 17], [], []⟩ [(44, r5), (45, .int .i64 (((normL a).length : Nat) : Int)), (46, .bool true), (47, .bool true), (48, r8), (49, .int .i64 (((normL b).length : Nat) : Int)), (50, .bool false), (51, .bool false), (52, .bool false), (53, undef), (54, undef), (55, undef), (57, undef), (58, undef), (59, undef), (60, undef), (62, undef), (63, undef), (64, undef), (65, .bool false), (56, undef), (61, undef)] [] hS5 ?_ ?_ trivial (fun w8 hS27 => ?_)
        · exact ⟨fun _ _ => WL.move rfl <| WL.nu rfl, fun _ _ => WL.lenSl (hs1.mono hle5) ul22 rfl rfl <| WL.nu rfl, fun _ _ => WL.cmpV .gtr rfl .i64 (((normL a).length : Nat) : Int) 0 _ hb1 rfl rfl rfl <| WL.nu rfl, fun _ _ => WL.move rfl <| WL.nu rfl, fun _ _ => WL.move rfl <| WL.nu rfl, fun _ _ => WL.lenSl hs2 ul22 rfl rfl <| WL.nu rfl, fun _ _ => WL.cmpV .gtr rfl .i64 (((normL b).length : Nat) : Int) 0 _ hb2 rfl rfl rfl <| WL.nu rfl, fun _ _ => WL.pickT rfl rfl <| WL.nu rfl, fun _ _ => WL.move rfl <| WL.nu rfl, fun _ _ => WL.no rfl rfl <| WL.nu rfl, fun _ _ => WL.no rfl rfl <| WL.nu rfl, fun _ _ => WL.no rfl rfl <| WL.nu rfl, fun _ _ => WL.no rfl rfl <| WL.nu rfl, fun _ _ => WL.no rfl rfl <| WL.nu rfl, fun _ _ => WL.no rfl rfl <| WL.nu rfl, fun _ _ => WL.no rfl rfl <| WL.nu rfl, fun _ _ => WL.no rfl rfl <| WL.nu rfl, fun _ _ => WL.no rfl rfl <| WL.nu rfl, fun _ _ => WL.no rfl rfl <| WL.nu rfl, fun _ _ => WL.pickF rfl rfl <| WL.nu rfl, trivial⟩
        · exact ⟨fun _ _ => WL.no rfl rfl <| WL.nu rfl, fun _ _ => WL.no rfl rfl <| WL.nu rfl, trivial⟩
        refine WC.condF rfl <| WC.skip <| WC.seq ?_
        have hw9 : wideB (normL a) (normL b) = false := by exact wide_nil (by omega)
        refine WC.region rfl <| WL.assign rfl <| WL.nil <| WC.seq <| WC.seq <| WC.region rfl <| WL.move rfl ?_
        have bd7 := hs1.bound
        refine WL.lenSl (hs1.mono hle5) ul22 rfl rfl ?_
        refine WL.move rfl <| WL.nil <| WC.block ?_
        have hS29 := hS27.pad
        refine WC.loop (γ := Nat) (fun m ρ1 w1 => ∃ (k1 : Nat), ∃ (v8 : Value) (o4 : OB), ∃ (G15 : GH), m = (normL a).length - k1 ∧ G5.le G15 ∧ St w [] G G15 [o4] w1 ∧ Row FactE 40 63 G15 v8 (relF s ((normL a).take k1) (normL b)) o4 ∧ ρ1 2 = .int .i64 s ∧ ρ1 10 = r8 ∧ ρ1 12 = v8 ∧ ρ1 66 = r5 ∧ ρ1 67 = .int .i64 (((normL a).length : Nat) : Int) ∧ ρ1 68 = .int .i64 (k1 : Int) ∧ k1 ≤ (normL a).length) (fun m => m) _ ⟨0, (.slice none 0 0), none, G5, rfl, (G5.le_refl), hS29, (Row.nil FactE 40 63 G5), rfl, rfl, rfl, rfl, rfl, rfl, (by omega)⟩ ?_
        rintro m ρ1 w22 ⟨k1, v8, o4, G15, rfl, hle15, hS28, hr8, e17, e18, e19, e20, e21, e22, f3⟩
        refine WC.set (d := 2) e17 ?_
        refine WC.set (d := 10) e18 ?_
        refine WC.set (d := 12) e19 ?_
        refine WC.set (d := 66) e20 ?_
        refine WC.set (d := 67) e21 ?_
        refine WC.set (d := 68) e22 ?_
        have hna := normL_le a
        have hnb := normL_le b
        refine WC.seq <| WC.region rfl ?_
        refine WL.lssS (k1 : Int) (((normL a).length : Nat) : Int) rfl rfl rfl (fun h11 => ?_) (fun h11 => ?_)
        · refine WL.nil <| WC.seq <| WC.condT rfl <| WC.skip <| WC.seq <| WC.block <| WC.seq <| WC.region rfl ?_
          refine WL.indexAddr (hs1.mono (hle5.trans hle15)) k1 (by omega) ul22 ti63 rfl rfl rfl rfl (fun p5 x5 hx5 he5 => ?_)
          obtain ⟨cs5, hc7, hr9⟩ := he5
          obtain ⟨v9, rfl, hs10, hb12, hb13⟩ := FactE_open hr9
          refine WL.loadGAt hS28 hc7 [v9, .int .i64 x5.t.a, .int .i64 x5.t.b] ti63 rfl rfl rfl rfl rfl ?_
          refine WL.alloc hS28 ti63 rfl rfl (fun b5 w23 hn5 hS30 => ?_)
          refine WL.store hS30 0 _ _ _ 0 _ [v9, .int .i64 x5.t.a, .int .i64 x5.t.b] [v9, .int .i64 x5.t.a, .int .i64 x5.t.b] _ rfl rfl ti63 rfl (Nat.le_of_ble_eq_true rfl) (by simp only [List.all_cons, List.all_nil, hs10.oneC, Bool.true_and] <;> rfl) rfl rfl rfl rfl rfl (fun w24 hS31 => ?_)
          obtain ⟨G16, hle16, hc8, hS32⟩ := hS31.shutB hn5
          refine WL.nil <| WC.seq <| WC.region rfl <| WL.move rfl ?_
          have bd8 := hs2.bound
          refine WL.lenSl (hs2.mono (hle15.trans hle16)) ul22 rfl rfl ?_
          refine WL.move rfl <| WL.nil <| WC.block ?_
          refine WC.loop (γ := Nat) (fun m ρ1 w1 => ∃ (k2 : Nat), ∃ (v10 : Value) (o5 : OB), ∃ (G17 : GH), m = (normL b).length - k2 ∧ G16.le G17 ∧ St w [] G G17 [o5] w1 ∧ Row FactE 40 63 G17 v10 (relF s ((normL a).take k1) (normL b) ++ relG s x5 ((normL b).take k2)) o5 ∧ ρ1 2 = .int .i64 s ∧ ρ1 10 = r8 ∧ ρ1 12 = v10 ∧ ρ1 14 = .pointer (some (⟨b5, 0, none⟩ : Addr)) ∧ ρ1 66 = r5 ∧ ρ1 67 = .int .i64 (((normL a).length : Nat) : Int) ∧ ρ1 68 = .int .i64 (k1 : Int) ∧ ρ1 72 = r8 ∧ ρ1 73 = .int .i64 (((normL b).length : Nat) : Int) ∧ ρ1 74 = .int .i64 (k2 : Int) ∧ k2 ≤ (normL b).length) (fun m => m) _ ⟨0, v8, o4, G16, rfl, (G16.le_refl), hS32, (Row.cast (hr8.mono hle16) (by simp [relG])), rfl, rfl, rfl, rfl, rfl, rfl, rfl, rfl, rfl, rfl, (by omega)⟩ ?_
          rintro m ρ1 w25 ⟨k2, v10, o5, G17, rfl, hle17, hS33, hr10, e23, e24, e25, e26, e27, e28, e29, e30, e31, e32, f4⟩
          refine WC.set (d := 2) e23 ?_
          refine WC.set (d := 10) e24 ?_
          refine WC.set (d := 12) e25 ?_
          refine WC.set (d := 14) e26 ?_
          refine WC.set (d := 66) e27 ?_
          refine WC.set (d := 67) e28 ?_
          refine WC.set (d := 68) e29 ?_
          refine WC.set (d := 72) e30 ?_
          refine WC.set (d := 73) e31 ?_
          refine WC.set (d := 74) e32 ?_
          have hjl := relF_len s ((normL a).take k1) (normL b)
          have hjg := relG_len s x5 ((normL b).take k2)
          have hjt := List.length_take_le' k1 (normL a)
          have hjt2 := List.length_take_le' k2 (normL b)
          have hjb := Nat.mul_le_mul (Nat.le_trans hjt hna) hnb
          refine WC.seq <| WC.region rfl ?_
          refine WL.lssS (k2 : Int) (((normL b).length : Nat) : Int) rfl rfl rfl (fun h12 => ?_) (fun h12 => ?_)
          · refine WL.nil <| WC.seq <| WC.condT rfl <| WC.skip <| WC.seq <| WC.block <| WC.seq <| WC.region rfl ?_
            refine WL.indexAddr (hs2.mono ((hle15.trans hle16).trans hle17)) k2 (by omega) ul22 ti63 rfl rfl rfl rfl (fun p6 x6 hx6 he6 => ?_)
            obtain ⟨cs6, hc9, hr11⟩ := he6
            obtain ⟨v11, rfl, hs11, hb14, hb15⟩ := FactE_open hr11
            refine WL.loadGAt hS33 hc9 [v11, .int .i64 x6.t.a, .int .i64 x6.t.b] ti63 rfl rfl rfl rfl rfl ?_
            refine WL.alloc hS33 ti63 rfl rfl (fun b6 w26 hn6 hS34 => ?_)
            refine WL.store hS34 0 _ _ _ 0 _ [v11, .int .i64 x6.t.a, .int .i64 x6.t.b] [v11, .int .i64 x6.t.a, .int .i64 x6.t.b] _ rfl rfl ti63 rfl (Nat.le_of_ble_eq_true rfl) (by simp only [List.all_cons, List.all_nil, hs11.oneC, Bool.true_and] <;> rfl) rfl rfl rfl rfl rfl (fun w27 hS35 => ?_)
            obtain ⟨G18, hle18, hc10, hS36⟩ := hS35.shutB hn6
            refine WL.nil <| WC.seq <| WC.region rfl <| WL.move rfl ?_
            refine WL.fieldAddr _ 1 _ fl63 rfl rfl rfl ?_
            refine WL.loadGAt hS36 (Cells.drop 1 (hc8.mono (hle17.trans hle18))) [.int .i64 x5.t.a, .int .i64 x5.t.b] ti46 rfl rfl rfl rfl rfl ?_
            refine WL.fieldAddr _ 1 _ fl63 rfl rfl rfl ?_
            refine WL.loadGAt hS36 (Cells.drop 1 hc10) [.int .i64 x6.t.a, .int .i64 x6.t.b] ti46 rfl rfl rfl rfl rfl ?_
            refine WL.callF [.int .i64 s, .agg #[.int .i64 x5.t.a, .int .i64 x5.t.b], .agg #[.int .i64 x6.t.a, .int .i64 x6.t.b]] #[] hb59 rfl rfl rfl ((c_Holds _ _ hS36.imm s x5.t x6.t _ (SpanE_mk x5.t hb12 hb13) _ (SpanE_mk x6.t hb14 hb15) ).mono ?_)
            rintro e w28 ⟨r15, G19, rfl, hres9, hpost9⟩
            refine ⟨_, rfl, ?_⟩
            have hS37 := hS36.call hres9
            have hle19 := hres9.le
            subst hpost9
            refine WL.split (fun (h13 : (holdsB s x5.t x6.t) = true) => ?_) (fun (h13 : (holdsB s x5.t x6.t) = false) => ?_)
            · refine WL.nil <| WC.condT rfl ?_
              have hf1 := normL_vlen (a := a) h1 (List.mem_of_getElem? hx5)
              have hg1 := normL_vlen (a := b) h2 (List.mem_of_getElem? hx6)
              refine dr ⟨[0, 0, 2, 0, 8, 30, 62, 0, 128, 510, 1022, 2047, 4095], [0, 1, 3, 7], [2, 4, 8], [], [5, 6, 9, 10, 11, 12]⟩ [(84, v10), (85, .pointer (some ((⟨b5, 0, none⟩ : Addr).add 0))), (87, .pointer (some ((⟨b6, 0, none⟩ : Addr).add 0))), (91, .pointer (some ((⟨b5, 0, none⟩ : Addr).add 1))), (86, v9), (88, v11), (92, .agg #[.int .i64 x5.t.a, .int .i64 x5.t.b])] [o5] hS37 ?_ ?_ trivial (fun w8 hS38 => ?_)
              · exact ⟨fun _ _ => WL.move rfl <| WL.nu rfl, fun _ _ => WL.fieldAddr _ 0 _ fl63 rfl rfl rfl <| WL.nu rfl, fun _ _ => WL.fieldAddr _ 0 _ fl63 rfl rfl rfl <| WL.nu rfl, fun _ _ => WL.fieldAddr _ 1 _ fl63 rfl rfl rfl <| WL.nu rfl, trivial⟩
              · exact ⟨fun _ hSw => WL.loadG1 hSw (Cells.drop 0 (hc8.mono ((hle17.trans hle18).trans hle19))) ti61 rfl rfl rfl <| WL.nu rfl, fun _ hSw => WL.loadG1 hSw (Cells.drop 0 (hc10.mono hle19)) ti61 rfl rfl rfl <| WL.nu rfl, fun _ hSw => WL.loadGAt hSw (Cells.drop 1 (hc8.mono ((hle17.trans hle18).trans hle19))) [.int .i64 x5.t.a, .int .i64 x5.t.b] ti46 rfl rfl rfl rfl rfl <| WL.nu rfl, trivial⟩
              refine TL.step rfl ?_
              refine WL.buildSlice _ [(0, [v9]), (1, [v11])] [v9, v11] hS38 sl67 rfl rfl rfl (by show [(0, (v9 : Value).cells.toList), (1, (v11 : Value).cells.toList)] = _; simp only [(hs10.mono (((hle16.trans hle17).trans hle18).trans hle19)).cells1, (hs11.mono (hle18.trans hle19)).cells1] <;> rfl) (fun z hz => by match z, hz with | [z0, z1], _ => rfl) (fun b7 w30 hn7 hS39 => ?_)
              refine WL.nil ⟨fun _ => hS39.tail.down hS38.le (G19.le_refl), ?_⟩
              refine TL.step rfl ?_
              obtain ⟨G20, hle20, hs12, hS40⟩ := St.sealSl (E := (ValE.slice 32)) (by_ := 24) (l := ([x5.v, x6.v] : List (List Val))) hS39 hn7 ⟨[v9], _, rfl, ⟨_, rfl, (hs10.mono (((hle16.trans hle17).trans hle18).trans hle19))⟩, ⟨[v11], _, rfl, ⟨_, rfl, (hs11.mono (hle18.trans hle19))⟩, rfl⟩⟩ rfl (by simp [reach]) (by simp [reach])
              refine WL.callF [.slice (some ⟨b7, 0, none⟩) 2 2] #[] hb60 rfl rfl rfl ((c_ConcatV _ _ hS40.imm [x5.v, x6.v] _ hs12 (by simp; omega)).mono ?_)
              rintro e w31 ⟨r16, G21, rfl, hres10, hpost10⟩
              refine ⟨_, rfl, ?_⟩
              have hS41 := hS40.call hres10
              have hle21 := hres10.le
              refine WL.nil ⟨fun _ => hS41.down hS38.le (hle20.trans hle21), ?_⟩
              refine TL.step rfl ?_
              refine WL.build _ [(0, [r16]), (1, [.int .i64 x5.t.a, .int .i64 x5.t.b])] [r16, .int .i64 x5.t.a, .int .i64 x5.t.b] ti63 rfl fl63 rfl rfl (by show [(0, (r16 : Value).cells.toList), (1, (.agg #[.int .i64 x5.t.a, .int .i64 x5.t.b] : Value).cells.toList)] = _; simp only [hpost10.cells1] <;> rfl) rfl ?_
              refine WL.nil ⟨fun h => absurd h (by decide), ?_⟩
              refine TL.step rfl ?_
              refine WL.buildSlice _ [(0, [r16, .int .i64 x5.t.a, .int .i64 x5.t.b])] [r16, .int .i64 x5.t.a, .int .i64 x5.t.b] hS41 sl22 rfl rfl rfl rfl (fun z hz => by match z, hz with | [z0, z1, z2], _ => rfl) (fun b8 w32 hn8 hS42 => ?_)
              refine WL.nil ⟨fun h => absurd h (by decide), ?_⟩
              refine TL.step rfl ?_
              refine WL.push (m := ([(Fact.mk ([x5.v, x6.v].flatten) x5.t)] : List Fact)) sl22 rfl rfl rfl (hr10.mono (((hle18.trans hle19).trans hle20).trans hle21)) hS42 1 rfl 0 _ _ _ _ _ rfl ⟨[r16, .int .i64 x5.t.a, .int .i64 x5.t.b], _, rfl, (FactE_mk (Fact.mk ([x5.v, x6.v].flatten) x5.t) hpost10 hb12 hb13), rfl⟩ rfl (by have hreach : reach = 140737488355328 := rfl; simp only [List.length_append, List.length_cons, List.length_nil]; omega) (by have hreach : reach = 140737488355328 := rfl; simp only [List.length_append, List.length_cons, List.length_nil]; omega) rfl rfl rfl (fun v12 o6 w33 hr12 hS43 => ?_)
              have hS44 := hS43.tail
              refine WL.nil ⟨fun h => absurd h (by decide), ?_⟩
              refine TL.step rfl ?_
              refine WL.assign rfl ?_
              refine WL.nil ⟨fun h => absurd h (by decide), ?_⟩
              refine WC.region rfl ?_
              refine WL.incr k2 (by have hreach : reach = 140737488355328 := rfl; omega) rfl rfl rfl ?_
              refine WL.move rfl <| WL.nil ?_
              exact ⟨_, ⟨k2 + 1, v12, o6, G21, rfl, (hle17.trans (((hle18.trans hle19).trans hle20).trans hle21)), hS44, (Row.cast hr12 (by ((rw [relG_yes (by assumption) (by assumption)]; simp)))), rfl, rfl, rfl, rfl, rfl, rfl, rfl, rfl, rfl, rfl, (by omega)⟩, (show (normL b).length - (k2 + 1) < (normL b).length - k2 by omega)⟩
            refine WL.nil <| WC.condF rfl <| WC.skip <| WC.region rfl ?_
            refine WL.incr k2 (by have hreach : reach = 140737488355328 := rfl; omega) rfl rfl rfl ?_
            refine WL.move rfl <| WL.nil ?_
            exact ⟨_, ⟨k2 + 1, v10, o5, G19, rfl, (hle17.trans (hle18.trans hle19)), hS37, (Row.cast (hr10.mono (hle18.trans hle19)) (by (rw [relG_no (by assumption) (by assumption)]))), rfl, rfl, rfl, rfl, rfl, rfl, rfl, rfl, rfl, rfl, (by omega)⟩, (show (normL b).length - (k2 + 1) < (normL b).length - k2 by omega)⟩
          refine WL.nil <| WC.seq <| WC.condF rfl <| WC.exit <| WC.region rfl ?_
          refine WL.incr k1 (by have hreach : reach = 140737488355328 := rfl; omega) rfl rfl rfl ?_
          refine WL.move rfl <| WL.nil ?_
          exact ⟨_, ⟨k1 + 1, v10, o5, G17, rfl, (hle15.trans (hle16.trans hle17)), hS33, (Row.cast hr10 (by (rw [relG_all (by omega), ← relF_take (by assumption)]))), rfl, rfl, rfl, rfl, rfl, rfl, (by omega)⟩, (show (normL a).length - (k1 + 1) < (normL a).length - k1 by omega)⟩
        refine WL.nil <| WC.seq <| WC.condF rfl <| WC.exit <| WC.seq <| WC.region rfl <| WL.move rfl ?_
        obtain ⟨G22, hle22, hs13, hS45⟩ := Row.freeze hr8 hS28 0 rfl
        refine WL.callF [v8] #[] hb61 rfl rfl rfl ((c_finished _ _ hS45.imm (relF s ((normL a).take k1) (normL b)) _ hs13 (by rw [relF_all (by omega)]; exact relF_good normL_good normL_good) (by rw [relF_all (by omega)]; exact Nat.le_trans (relF_len _ _ _) (Nat.mul_le_mul (normL_le a) (normL_le b)))).mono ?_)
        rintro e w34 ⟨r17, G23, rfl, hres11, hpost11⟩
        refine ⟨_, rfl, ?_⟩
        have hS46 := hS45.call hres11
        have hle23 := hres11.le
        obtain ⟨r18, r19, rfl, hs14, rfl⟩ := hpost11
        refine WL.extract _ _ rfl rfl rfl ?_
        refine WL.extract _ _ rfl rfl rfl ?_
        refine WL.assign rfl <| WL.assign rfl <| WL.nil ?_
        refine WC.ret ?_
        exact ⟨.tuple #[r18, .int .i64 (finE (relF s ((normL a).take k1) (normL b)))], rfl, .tuple #[r18, .int .i64 (finE (relF s ((normL a).take k1) (normL b)))], _, rfl, hS46.res, r18, (.int .i64 (finE (relF s ((normL a).take k1) (normL b)))), rfl, (Sl.cast hs14 (by (rw [relF_all (by omega)]; exact (rel_3 hok9 hw9).1.symm))), (congrArg (Value.int .i64) (by (rw [relF_all (by omega)]; exact (rel_3 hok9 hw9).2.symm)))⟩
      have h5 : (((normL a).length : Nat) : Int) ≤ 0 := q1
      clear q1
      refine dr ⟨[0, 1, 3, 7, 15, 31, 63, 127, 255, 511, 1023, 2047, 4095, 8191, 511, 16895, 49663, 115199, 246271, 524287, 1048575, 2097151], [0, 1, 2, 3, 4, 5, 6, 7, 8, 9, 10, 11, 13, 14, 15, 16, 18, 19, 20, 21], [12, 17], [], []⟩ [(44, r5), (45, .int .i64 (((normL a).length : Nat) : Int)), (46, .bool false), (47, .bool false), (48, undef), (49, undef), (50, undef), (51, .bool false), (52, .bool false), (53, undef), (54, undef), (55, undef), (57, undef), (58, undef), (59, undef), (60, undef), (62, undef), (63, undef), (64, undef), (65, .bool false), (56, undef), (61, undef)] [] hS5 ?_ ?_ trivial (fun w8 hS47 => ?_)
      · exact ⟨fun _ _ => WL.move rfl <| WL.nu rfl, fun _ _ => WL.lenSl (hs1.mono hle5) ul22 rfl rfl <| WL.nu rfl, fun _ _ => WL.cmpV .gtr rfl .i64 (((normL a).length : Nat) : Int) 0 _ hb1 rfl rfl rfl <| WL.nu rfl, fun _ _ => WL.move rfl <| WL.nu rfl, fun _ _ => WL.no rfl rfl <| WL.nu rfl, fun _ _ => WL.no rfl rfl <| WL.nu rfl, fun _ _ => WL.no rfl rfl <| WL.nu rfl, fun _ _ => WL.pickF rfl rfl <| WL.nu rfl, fun _ _ => WL.move rfl <| WL.nu rfl, fun _ _ => WL.no rfl rfl <| WL.nu rfl, fun _ _ => WL.no rfl rfl <| WL.nu rfl, fun _ _ => WL.no rfl rfl <| WL.nu rfl, fun _ _ => WL.no rfl rfl <| WL.nu rfl, fun _ _ => WL.no rfl rfl <| WL.nu rfl, fun _ _ => WL.no rfl rfl <| WL.nu rfl, fun _ _ => WL.no rfl rfl <| WL.nu rfl, fun _ _ => WL.no rfl rfl <| WL.nu rfl, fun _ _ => WL.no rfl rfl <| WL.nu rfl, fun _ _ => WL.no rfl rfl <| WL.nu rfl, fun _ _ => WL.pickF rfl rfl <| WL.nu rfl, trivial⟩
      · exact ⟨fun _ _ => WL.no rfl rfl <| WL.nu rfl, fun _ _ => WL.no rfl rfl <| WL.nu rfl, trivial⟩
      refine WC.condF rfl <| WC.skip <| WC.seq ?_
      have hw9 : wideB (normL a) (normL b) = false := by exact wide_nil (by omega)
      refine WC.region rfl <| WL.assign rfl <| WL.nil <| WC.seq <| WC.seq <| WC.region rfl <| WL.move rfl ?_
      have bd9 := hs1.bound
      refine WL.lenSl (hs1.mono hle5) ul22 rfl rfl ?_
      refine WL.move rfl <| WL.nil <| WC.block ?_
      have hS49 := hS47.pad
      refine WC.loop (γ := Nat) (fun m ρ1 w1 => ∃ (k1 : Nat), ∃ (v13 : Value) (o7 : OB), ∃ (G24 : GH), m = (normL a).length - k1 ∧ G5.le G24 ∧ St w [] G G24 [o7] w1 ∧ Row FactE 40 63 G24 v13 (relF s ((normL a).take k1) (normL b)) o7 ∧ ρ1 2 = .int .i64 s ∧ ρ1 10 = r8 ∧ ρ1 12 = v13 ∧ ρ1 66 = r5 ∧ ρ1 67 = .int .i64 (((normL a).length : Nat) : Int) ∧ ρ1 68 = .int .i64 (k1 : Int) ∧ k1 ≤ (normL a).length) (fun m => m) _ ⟨0, (.slice none 0 0), none, G5, rfl, (G5.le_refl), hS49, (Row.nil FactE 40 63 G5), rfl, rfl, rfl, rfl, rfl, rfl, (by omega)⟩ ?_
      rintro m ρ1 w36 ⟨k1, v13, o7, G24, rfl, hle24, hS48, hr13, e33, e34, e35, e36, e37, e38, f5⟩
      refine WC.set (d := 2) e33 ?_
      refine WC.set (d := 10) e34 ?_
      refine WC.set (d := 12) e35 ?_
      refine WC.set (d := 66) e36 ?_
      refine WC.set (d := 67) e37 ?_
      refine WC.set (d := 68) e38 ?_
      have hna := normL_le a
      have hnb := normL_le b
      refine WC.seq <| WC.region rfl ?_
      refine WL.lssS (k1 : Int) (((normL a).length : Nat) : Int) rfl rfl rfl (fun h14 => ?_) (fun h14 => ?_)
      · refine WL.nil <| WC.seq <| WC.condT rfl <| WC.skip <| WC.seq <| WC.block <| WC.seq <| WC.region rfl ?_
        refine WL.indexAddr (hs1.mono (hle5.trans hle24)) k1 (by omega) ul22 ti63 rfl rfl rfl rfl (fun p7 x7 hx7 he7 => ?_)
        obtain ⟨cs7, hc11, hr14⟩ := he7
        obtain ⟨v14, rfl, hs15, hb16, hb17⟩ := FactE_open hr14
        refine WL.loadGAt hS48 hc11 [v14, .int .i64 x7.t.a, .int .i64 x7.t.b] ti63 rfl rfl rfl rfl rfl ?_
        refine WL.alloc hS48 ti63 rfl rfl (fun b9 w37 hn9 hS50 => ?_)
        refine WL.store hS50 0 _ _ _ 0 _ [v14, .int .i64 x7.t.a, .int .i64 x7.t.b] [v14, .int .i64 x7.t.a, .int .i64 x7.t.b] _ rfl rfl ti63 rfl (Nat.le_of_ble_eq_true rfl) (by simp only [List.all_cons, List.all_nil, hs15.oneC, Bool.true_and] <;> rfl) rfl rfl rfl rfl rfl (fun w38 hS51 => ?_)
        obtain ⟨G25, hle25, hc12, hS52⟩ := hS51.shutB hn9
        refine WL.nil <| WC.seq <| WC.region rfl <| WL.move rfl ?_
        have bd10 := hs2.bound
        refine WL.lenSl (hs2.mono (hle24.trans hle25)) ul22 rfl rfl ?_
        refine WL.move rfl <| WL.nil <| WC.block ?_
        refine WC.loop (γ := Nat) (fun m ρ1 w1 => ∃ (k2 : Nat), ∃ (v15 : Value) (o8 : OB), ∃ (G26 : GH), m = (normL b).length - k2 ∧ G25.le G26 ∧ St w [] G G26 [o8] w1 ∧ Row FactE 40 63 G26 v15 (relF s ((normL a).take k1) (normL b) ++ relG s x7 ((normL b).take k2)) o8 ∧ ρ1 2 = .int .i64 s ∧ ρ1 10 = r8 ∧ ρ1 12 = v15 ∧ ρ1 14 = .pointer (some (⟨b9, 0, none⟩ : Addr)) ∧ ρ1 66 = r5 ∧ ρ1 67 = .int .i64 (((normL a).length : Nat) : Int) ∧ ρ1 68 = .int .i64 (k1 : Int) ∧ ρ1 72 = r8 ∧ ρ1 73 = .int .i64 (((normL b).length : Nat) : Int) ∧ ρ1 74 = .int .i64 (k2 : Int) ∧ k2 ≤ (normL b).length) (fun m => m) _ ⟨0, v13, o7, G25, rfl, (G25.le_refl), hS52, (Row.cast (hr13.mono hle25) (by simp [relG])), rfl, rfl, rfl, rfl, rfl, rfl, rfl, rfl, rfl, rfl, (by omega)⟩ ?_
        rintro m ρ1 w39 ⟨k2, v15, o8, G26, rfl, hle26, hS53, hr15, e39, e40, e41, e42, e43, e44, e45, e46, e47, e48, f6⟩
        refine WC.set (d := 2) e39 ?_
        refine WC.set (d := 10) e40 ?_
        refine WC.set (d := 12) e41 ?_
        refine WC.set (d := 14) e42 ?_
        refine WC.set (d := 66) e43 ?_
        refine WC.set (d := 67) e44 ?_
        refine WC.set (d := 68) e45 ?_
        refine WC.set (d := 72) e46 ?_
        refine WC.set (d := 73) e47 ?_
        refine WC.set (d := 74) e48 ?_
        have hjl := relF_len s ((normL a).take k1) (normL b)
        have hjg := relG_len s x7 ((normL b).take k2)
        have hjt := List.length_take_le' k1 (normL a)
        have hjt2 := List.length_take_le' k2 (normL b)
        have hjb := Nat.mul_le_mul (Nat.le_trans hjt hna) hnb
        refine WC.seq <| WC.region rfl ?_
        refine WL.lssS (k2 : Int) (((normL b).length : Nat) : Int) rfl rfl rfl (fun h15 => ?_) (fun h15 => ?_)
        · refine WL.nil <| WC.seq <| WC.condT rfl <| WC.skip <| WC.seq <| WC.block <| WC.seq <| WC.region rfl ?_
          refine WL.indexAddr (hs2.mono ((hle24.trans hle25).trans hle26)) k2 (by omega) ul22 ti63 rfl rfl rfl rfl (fun p8 x8 hx8 he8 => ?_)
          obtain ⟨cs8, hc13, hr16⟩ := he8
          obtain ⟨v16, rfl, hs16, hb18, hb19⟩ := FactE_open hr16
          refine WL.loadGAt hS53 hc13 [v16, .int .i64 x8.t.a, .int .i64 x8.t.b] ti63 rfl rfl rfl rfl rfl ?_
          refine WL.alloc hS53 ti63 rfl rfl (fun b10 w40 hn10 hS54 => ?_)
          refine WL.store hS54 0 _ _ _ 0 _ [v16, .int .i64 x8.t.a, .int .i64 x8.t.b] [v16, .int .i64 x8.t.a, .int .i64 x8.t.b] _ rfl rfl ti63 rfl (Nat.le_of_ble_eq_true rfl) (by simp only [List.all_cons, List.all_nil, hs16.oneC, Bool.true_and] <;> rfl) rfl rfl rfl rfl rfl (fun w41 hS55 => ?_)
          obtain ⟨G27, hle27, hc14, hS56⟩ := hS55.shutB hn10
          refine WL.nil <| WC.seq <| WC.region rfl <| WL.move rfl ?_
          refine WL.fieldAddr _ 1 _ fl63 rfl rfl rfl ?_
          refine WL.loadGAt hS56 (Cells.drop 1 (hc12.mono (hle26.trans hle27))) [.int .i64 x7.t.a, .int .i64 x7.t.b] ti46 rfl rfl rfl rfl rfl ?_
          refine WL.fieldAddr _ 1 _ fl63 rfl rfl rfl ?_
          refine WL.loadGAt hS56 (Cells.drop 1 hc14) [.int .i64 x8.t.a, .int .i64 x8.t.b] ti46 rfl rfl rfl rfl rfl ?_
          refine WL.callF [.int .i64 s, .agg #[.int .i64 x7.t.a, .int .i64 x7.t.b], .agg #[.int .i64 x8.t.a, .int .i64 x8.t.b]] #[] hb59 rfl rfl rfl ((c_Holds _ _ hS56.imm s x7.t x8.t _ (SpanE_mk x7.t hb16 hb17) _ (SpanE_mk x8.t hb18 hb19) ).mono ?_)
          rintro e w42 ⟨r20, G28, rfl, hres12, hpost12⟩
          refine ⟨_, rfl, ?_⟩
          have hS57 := hS56.call hres12
          have hle28 := hres12.le
          subst hpost12
          refine WL.split (fun (h16 : (holdsB s x7.t x8.t) = true) => ?_) (fun (h16 : (holdsB s x7.t x8.t) = false) => ?_)
          · refine WL.nil <| WC.condT rfl ?_
            have hf1 := normL_vlen (a := a) h1 (List.mem_of_getElem? hx7)
            have hg1 := normL_vlen (a := b) h2 (List.mem_of_getElem? hx8)
            refine dr ⟨[0, 0, 2, 0, 8, 30, 62, 0, 128, 510, 1022, 2047, 4095], [0, 1, 3, 7], [2, 4, 8], [], [5, 6, 9, 10, 11, 12]⟩ [(84, v15), (85, .pointer (some ((⟨b9, 0, none⟩ : Addr).add 0))), (87, .pointer (some ((⟨b10, 0, none⟩ : Addr).add 0))), (91, .pointer (some ((⟨b9, 0, none⟩ : Addr).add 1))), (86, v14), (88, v16), (92, .agg #[.int .i64 x7.t.a, .int .i64 x7.t.b])] [o8] hS57 ?_ ?_ trivial (fun w8 hS58 => ?_)
            · exact ⟨fun _ _ => WL.move rfl <| WL.nu rfl, fun _ _ => WL.fieldAddr _ 0 _ fl63 rfl rfl rfl <| WL.nu rfl, fun _ _ => WL.fieldAddr _ 0 _ fl63 rfl rfl rfl <| WL.nu rfl, fun _ _ => WL.fieldAddr _ 1 _ fl63 rfl rfl rfl <| WL.nu rfl, trivial⟩
            · exact ⟨fun _ hSw => WL.loadG1 hSw (Cells.drop 0 (hc12.mono ((hle26.trans hle27).trans hle28))) ti61 rfl rfl rfl <| WL.nu rfl, fun _ hSw => WL.loadG1 hSw (Cells.drop 0 (hc14.mono hle28)) ti61 rfl rfl rfl <| WL.nu rfl, fun _ hSw => WL.loadGAt hSw (Cells.drop 1 (hc12.mono ((hle26.trans hle27).trans hle28))) [.int .i64 x7.t.a, .int .i64 x7.t.b] ti46 rfl rfl rfl rfl rfl <| WL.nu rfl, trivial⟩
            refine TL.step rfl ?_
            refine WL.buildSlice _ [(0, [v14]), (1, [v16])] [v14, v16] hS58 sl67 rfl rfl rfl (by show [(0, (v14 : Value).cells.toList), (1, (v16 : Value).cells.toList)] = _; simp only [(hs15.mono (((hle25.trans hle26).trans hle27).trans hle28)).cells1, (hs16.mono (hle27.trans hle28)).cells1] <;> rfl) (fun z hz => by match z, hz with | [z0, z1], _ => rfl) (fun b11 w44 hn11 hS59 => ?_)
            refine WL.nil ⟨fun _ => hS59.tail.down hS58.le (G28.le_refl), ?_⟩
            refine TL.step rfl ?_
            obtain ⟨G29, hle29, hs17, hS60⟩ := St.sealSl (E := (ValE.slice 32)) (by_ := 24) (l := ([x7.v, x8.v] : List (List Val))) hS59 hn11 ⟨[v14], _, rfl, ⟨_, rfl, (hs15.mono (((hle25.trans hle26).trans hle27).trans hle28))⟩, ⟨[v16], _, rfl, ⟨_, rfl, (hs16.mono (hle27.trans hle28))⟩, rfl⟩⟩ rfl (by simp [reach]) (by simp [reach])
            refine WL.callF [.slice (some ⟨b11, 0, none⟩) 2 2] #[] hb60 rfl rfl rfl ((c_ConcatV _ _ hS60.imm [x7.v, x8.v] _ hs17 (by simp; omega)).mono ?_)
            rintro e w45 ⟨r21, G30, rfl, hres13, hpost13⟩
            refine ⟨_, rfl, ?_⟩
            have hS61 := hS60.call hres13
            have hle30 := hres13.le
            refine WL.nil ⟨fun _ => hS61.down hS58.le (hle29.trans hle30), ?_⟩
            refine TL.step rfl ?_
            refine WL.build _ [(0, [r21]), (1, [.int .i64 x7.t.a, .int .i64 x7.t.b])] [r21, .int .i64 x7.t.a, .int .i64 x7.t.b] ti63 rfl fl63 rfl rfl (by show [(0, (r21 : Value).cells.toList), (1, (.agg #[.int .i64 x7.t.a, .int .i64 x7.t.b] : Value).cells.toList)] = _; simp only [hpost13.cells1] <;> rfl) rfl ?_
            refine WL.nil ⟨fun h => absurd h (by decide), ?_⟩
            refine TL.step rfl ?_
            refine WL.buildSlice _ [(0, [r21, .int .i64 x7.t.a, .int .i64 x7.t.b])] [r21, .int .i64 x7.t.a, .int .i64 x7.t.b] hS61 sl22 rfl rfl rfl rfl (fun z hz => by match z, hz with | [z0, z1, z2], _ => rfl) (fun b12 w46 hn12 hS62 => ?_)
            refine WL.nil ⟨fun h => absurd h (by decide), ?_⟩
            refine TL.step rfl ?_
            refine WL.push (m := ([(Fact.mk ([x7.v, x8.v].flatten) x7.t)] : List Fact)) sl22 rfl rfl rfl (hr15.mono (((hle27.trans hle28).trans hle29).trans hle30)) hS62 1 rfl 0 _ _ _ _ _ rfl ⟨[r21, .int .i64 x7.t.a, .int .i64 x7.t.b], _, rfl, (FactE_mk (Fact.mk ([x7.v, x8.v].flatten) x7.t) hpost13 hb16 hb17), rfl⟩ rfl (by have hreach : reach = 140737488355328 := rfl; simp only [List.length_append, List.length_cons, List.length_nil]; omega) (by have hreach : reach = 140737488355328 := rfl; simp only [List.length_append, List.length_cons, List.length_nil]; omega) rfl rfl rfl (fun v17 o9 w47 hr17 hS63 => ?_)
            have hS64 := hS63.tail
            refine WL.nil ⟨fun h => absurd h (by decide), ?_⟩
            refine TL.step rfl ?_
            refine WL.assign rfl ?_
            refine WL.nil ⟨fun h => absurd h (by decide), ?_⟩
            refine WC.region rfl ?_
            refine WL.incr k2 (by have hreach : reach = 140737488355328 := rfl; omega) rfl rfl rfl ?_
            refine WL.move rfl <| WL.nil ?_
            exact ⟨_, ⟨k2 + 1, v17, o9, G30, rfl, (hle26.trans (((hle27.trans hle28).trans hle29).trans hle30)), hS64, (Row.cast hr17 (by ((rw [relG_yes (by assumption) (by assumption)]; simp)))), rfl, rfl, rfl, rfl, rfl, rfl, rfl, rfl, rfl, rfl, (by omega)⟩, (show (normL b).length - (k2 + 1) < (normL b).length - k2 by omega)⟩
          refine WL.nil <| WC.condF rfl <| WC.skip <| WC.region rfl ?_
          refine WL.incr k2 (by have hreach : reach = 140737488355328 := rfl; omega) rfl rfl rfl ?_
          refine WL.move rfl <| WL.nil ?_
          exact ⟨_, ⟨k2 + 1, v15, o8, G28, rfl, (hle26.trans (hle27.trans hle28)), hS57, (Row.cast (hr15.mono (hle27.trans hle28)) (by (rw [relG_no (by assumption) (by assumption)]))), rfl, rfl, rfl, rfl, rfl, rfl, rfl, rfl, rfl, rfl, (by omega)⟩, (show (normL b).length - (k2 + 1) < (normL b).length - k2 by omega)⟩
        refine WL.nil <| WC.seq <| WC.condF rfl <| WC.exit <| WC.region rfl ?_
        refine WL.incr k1 (by have hreach : reach = 140737488355328 := rfl; omega) rfl rfl rfl ?_
        refine WL.move rfl <| WL.nil ?_
        exact ⟨_, ⟨k1 + 1, v15, o8, G26, rfl, (hle24.trans (hle25.trans hle26)), hS53, (Row.cast hr15 (by (rw [relG_all (by omega), ← relF_take (by assumption)]))), rfl, rfl, rfl, rfl, rfl, rfl, (by omega)⟩, (show (normL a).length - (k1 + 1) < (normL a).length - k1 by omega)⟩
      refine WL.nil <| WC.seq <| WC.condF rfl <| WC.exit <| WC.seq <| WC.region rfl <| WL.move rfl ?_
      obtain ⟨G31, hle31, hs18, hS65⟩ := Row.freeze hr13 hS48 0 rfl
      refine WL.callF [v13] #[] hb61 rfl rfl rfl ((c_finished _ _ hS65.imm (relF s ((normL a).take k1) (normL b)) _ hs18 (by rw [relF_all (by omega)]; exact relF_good normL_good normL_good) (by rw [relF_all (by omega)]; exact Nat.le_trans (relF_len _ _ _) (Nat.mul_le_mul (normL_le a) (normL_le b)))).mono ?_)
      rintro e w48 ⟨r22, G32, rfl, hres14, hpost14⟩
      refine ⟨_, rfl, ?_⟩
      have hS66 := hS65.call hres14
      have hle32 := hres14.le
      obtain ⟨r23, r24, rfl, hs19, rfl⟩ := hpost14
      refine WL.extract _ _ rfl rfl rfl ?_
      refine WL.extract _ _ rfl rfl rfl ?_
      refine WL.assign rfl <| WL.assign rfl <| WL.nil ?_
      refine WC.ret ?_
      exact ⟨.tuple #[r23, .int .i64 (finE (relF s ((normL a).take k1) (normL b)))], rfl, .tuple #[r23, .int .i64 (finE (relF s ((normL a).take k1) (normL b)))], _, rfl, hS66.res, r23, (.int .i64 (finE (relF s ((normL a).take k1) (normL b)))), rfl, (Sl.cast hs19 (by (rw [relF_all (by omega)]; exact (rel_3 hok9 hw9).1.symm))), (congrArg (Value.int .i64) (by (rw [relF_all (by omega)]; exact (rel_3 hok9 hw9).2.symm)))⟩
    refine WL.not false rfl rfl ?_
    refine WL.pickF rfl rfl <| WL.move rfl <| WL.no rfl rfl <| WL.no rfl rfl <| WL.pickT rfl rfl <| WL.move rfl <| WL.no rfl rfl <| WL.no rfl rfl <| WL.no rfl rfl <| WL.pickT rfl rfl <| WL.nil <| WC.condT rfl <| WC.seq <| WC.region rfl <| WL.assign rfl <| WL.assign rfl <| WL.nil ?_
    refine WC.ret ?_
    exact ⟨.tuple #[.slice none 0 0, .int .i64 1], rfl, .tuple #[.slice none 0 0, .int .i64 1], _, rfl, hS2.res, (.slice none 0 0), (.int .i64 1), rfl, (Sl.cast (Sl.nil FactE 40 G2) (by exact (rel_1 (relOk_no (.inr (.inl h2)))).1.symm)), (congrArg (Value.int .i64) (by exact (rel_1 (relOk_no (.inr (.inl h2)))).2.symm))⟩
  refine WL.not false rfl rfl ?_
  refine WL.move rfl <| WL.no rfl rfl <| WL.no rfl rfl <| WL.no rfl rfl <| WL.pickT rfl rfl <| WL.move rfl <| WL.no rfl rfl <| WL.no rfl rfl <| WL.pickT rfl rfl <| WL.move rfl <| WL.no rfl rfl <| WL.no rfl rfl <| WL.no rfl rfl <| WL.pickT rfl rfl <| WL.nil <| WC.condT rfl <| WC.seq <| WC.region rfl <| WL.assign rfl <| WL.assign rfl <| WL.nil ?_
  refine WC.ret ?_
  exact ⟨.tuple #[.slice none 0 0, .int .i64 1], rfl, .tuple #[.slice none 0 0, .int .i64 1], _, rfl, hS1.res, (.slice none 0 0), (.int .i64 1), rfl, (Sl.cast (Sl.nil FactE 40 G1) (by exact (rel_1 (relOk_no (.inl h1))).1.symm)), (congrArg (Value.int .i64) (by exact (rel_1 (relOk_no (.inl h1))).2.symm))⟩
end Go.Civ
