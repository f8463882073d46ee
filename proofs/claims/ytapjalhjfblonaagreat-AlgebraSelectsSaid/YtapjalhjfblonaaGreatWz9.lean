/- Walks, printed by specs38.py. -/
import Derived.Test.YtapjalhjfblonaaGreatProg
import Derived.KernelRfl
import Derived.WalkKit
import Derived.Test.YtapjalhjfblonaaGreatWz7
import Derived.Test.YtapjalhjfblonaaGreatCiv38
set_option linter.unusedVariables false
set_option linter.unusedSimpArgs false
set_option maxRecDepth 100000
set_option maxHeartbeats 4000000
namespace Go.Civ
open Go.Proofs


theorem c_rProject (G : GH) (w : World) (hG : G.In w) (l : List Fact) (ps : List Int) (vl : Value) (hvl : Sl FactE 40 G vl l) (vp : Value) (hvp : Sl Enc.int 8 G vp ps)  : Calls Tryz.prog (nat_lit 20) #[vl, vp] w fun e w' => ∃ r G', e = .returned r ∧ Res [] w G w' G' ∧ ∃ r0 r1, r = .tuple #[r0, r1] ∧ Sl FactE 40 G' r0 (rprjL l ps) ∧ r1 = .int .i64 (rprjE l ps) := by
 refine calls_of_WC (N := 74) Tryz.func20 rfl rfl rfl ?_
 have hS := St.start (X := []) hG
 refine WC.seq <| WC.region rfl <| WL.assign rfl <| WL.assign rfl <| WL.nil <| WC.seq <| WC.seq <| WC.region rfl <| WL.move rfl ?_
 refine WL.callF [vl] #[] hb33 rfl rfl rfl ((c_rfValid _ _ hS.imm l _ hvl ).mono ?_)
 rintro e w1 ⟨r1, G1, rfl, hres1, hpost1⟩
 refine ⟨_, rfl, ?_⟩
 have hS1 := hS.call hres1
 have hle1 := hres1.le
 subst hpost1
 refine WL.split (fun (h1 : (rvalidB l) = true) => ?_) (fun (h1 : (rvalidB l) = false) => ?_)
 ·refine WL.not true rfl rfl <| WL.nil <| WC.condF rfl <| WC.skip <| WC.seq <| WC.seq ?_
  have hv9 : validB l = true := by rw [← rvalid_valid]; exact h1
  have hll9 := valid_le hv9
  refine WC.region rfl <| WL.move rfl ?_
  have bd1 := hvp.bound
  refine WL.lenSl (hvp.mono hle1) ul38 rfl rfl ?_
  refine WL.gtrS (ps.length : Int) 8 rfl rfl rfl (fun h2 => ?_) (fun h2 => ?_)
  ·refine WL.nil <| WC.condT rfl <| WC.seq <| WC.region rfl <| WL.assign rfl <| WL.assign rfl <| WL.nil <| WC.ret ?_
   exact ⟨_, rfl, _, _, rfl, hS1.res, (.slice none 0 0), (.int .i64 5), rfl, (Sl.cast (Sl.nil FactE 40 G1) (by exact (prj_5 hv9 (by omega)).2.1.symm)), (congrArg (Value.int .i64) (by exact (prj_5 hv9 (by omega)).2.2.symm))⟩
  refine WL.nil <| WC.condF rfl <| WC.skip <| WC.seq <| WC.region rfl <| WL.assign rfl <| WL.nil <| WC.seq <| WC.seq <| WC.region rfl <| WL.assign rfl <| WL.nil <| WC.block ?_
  have hS3 := hS1.pad
  refine WC.loop (γ := Nat) (fun m ρ1 w1 => ∃ (k1 : Nat), ∃ (v1 : Value) (o1 : OB), ∃ (G2 : GH), m = l.length - k1 ∧ G1.le G2 ∧ St w [] G G2 [o1] w1 ∧ Row FactE 40 63 G2 v1 (prjF ps (l.take k1)) o1 ∧ ρ1 0 = vl ∧ ρ1 1 = vp ∧ ρ1 6 = v1 ∧ ρ1 7 = .int .i64 (k1 : Int) ∧ k1 ≤ l.length ∧ ∀ j, j < k1 → ∀ f, l[j]? = some f → ∀ i ∈ ps, 0 ≤ i ∧ i < (f.v.length : Int)) (fun m => m) _ ⟨0, (.slice none 0 0), none, G1, rfl, (G1.le_refl), hS3, (Row.cast (Row.nil FactE 40 63 G1) (by simp [prjF])), rfl, rfl, rfl, rfl, (by omega), (by intro j hj; omega)⟩ ?_
  rintro m ρ1 w2 ⟨k1, v1, o1, G2, rfl, hle2, hS2, hr1, e1, e2, e3, e4, f1, f2⟩
  refine WC.set (d := 0) e1 <| WC.set (d := 1) e2 <| WC.set (d := 6) e3 <| WC.set (d := 7) e4 ?_
  have hpl9 := prjF_takeLen (ps := ps) (l := l) (k := k1)
  refine WC.seq <| WC.seq <| WC.region rfl <| WL.move rfl <| WL.move rfl ?_
  have bd2 := hvl.bound
  refine WL.lenSl (hvl.mono (hle1.trans hle2)) ul22 rfl rfl ?_
  refine WL.lssS (k1 : Int) (l.length : Int) rfl rfl rfl (fun h3 => ?_) (fun h3 => ?_)
  ·refine WL.nil <| WC.condT rfl <| WC.skip <| WC.seq <| WC.block <| WC.seq ?_
   obtain ⟨f9, hf9⟩ : ∃ f, l[k1]? = some f := ⟨_, List.getElem?_eq_getElem (by omega)⟩
   refine WC.region rfl <| WL.assign rfl <| WL.nil <| WC.seq <| WC.seq <| WC.region rfl <| WL.assign rfl <| WL.nil <| WC.block ?_
   have hS5 := hS2.pad
   refine WC.loop (γ := Nat) (fun m ρ1 w1 => ∃ (k2 : Nat), ∃ (v2 : Value) (o2 : OB), ∃ (G3 : GH), m = ps.length - k2 ∧ G2.le G3 ∧ St w [] G G3 [o2, o1] w1 ∧ Row ValE 32 34 G3 v2 (prjV f9.v (ps.take k2)) o2 ∧ ρ1 0 = vl ∧ ρ1 1 = vp ∧ ρ1 6 = v1 ∧ ρ1 7 = .int .i64 (k1 : Int) ∧ ρ1 8 = v2 ∧ ρ1 9 = .int .i64 (k2 : Int) ∧ k2 ≤ ps.length ∧ ∀ j, j < k2 → ∀ i, ps[j]? = some i → 0 ≤ i ∧ i < (f9.v.length : Int)) (fun m => m) _ ⟨0, (.slice none 0 0), none, G2, rfl, (G2.le_refl), hS5, (Row.cast (Row.nil ValE 32 34 G2) (by simp [prjV])), rfl, rfl, rfl, rfl, rfl, rfl, (by omega), (by intro j hj; omega)⟩ ?_
   rintro m ρ1 w3 ⟨k2, v2, o2, G3, rfl, hle3, hS4, hr2, e5, e6, e7, e8, e9, e10, f3, f4⟩
   refine WC.set (d := 0) e5 <| WC.set (d := 1) e6 <| WC.set (d := 6) e7 <| WC.set (d := 7) e8 <| WC.set (d := 8) e9 <| WC.set (d := 9) e10 ?_
   have hpv9 := prjV_len (ps := ps) (j := k2) (v := f9.v)
   refine WC.seq <| WC.seq <| WC.region rfl <| WL.move rfl <| WL.move rfl ?_
   have bd3 := hvp.bound
   refine WL.lenSl (hvp.mono ((hle1.trans hle2).trans hle3)) ul38 rfl rfl ?_
   refine WL.lssS (k2 : Int) (ps.length : Int) rfl rfl rfl (fun h4 => ?_) (fun h4 => ?_)
   ·refine WL.nil <| WC.condT rfl <| WC.skip <| WC.seq <| WC.block <| WC.seq <| WC.seq ?_
    obtain ⟨p1, x1, hx1, he1, ep1⟩ := Sl.at (hvp.mono ((hle1.trans hle2).trans hle3)) k2 (by omega)
    obtain ⟨cs1, hc1, hr3⟩ := he1
    obtain ⟨rfl, hb1⟩ := hr3
    rcases Cmp.dec .lss x1 0 with ⟨hb2, q1⟩ | ⟨hb2, q1⟩
    ·have h5 : x1 < 0 := q1
     clear q1
     refine dr ⟨[0, 0, 3, 7, 15, 31, 63, 63, 255, 511, 63, 63, 3135, 7231, 15423, 31807, 65535, 131071], [0, 1, 2, 4, 5, 6, 7, 8, 10, 11, 12, 13, 15, 16, 17], [3, 9, 14], [], []⟩ [(28, vp), (29, .int .i64 (k2 : Int)), (30, .pointer (some p1)), (32, .bool true), (33, .bool true), (34, undef), (35, undef), (36, undef), (38, undef), (39, undef), (40, undef), (41, undef), (43, undef), (44, undef), (45, .bool true), (31, .int .i64 x1), (37, undef), (42, undef)] [o2, o1] hS4 ?_ ?_ trivial (fun w8 hS6 => ?_)
     ·exact ⟨fun _ _ => WL.move rfl <| WL.nu rfl, fun _ _ => WL.move rfl <| WL.nu rfl, fun _ _ => WL.indexAddrP k2 ep1 ul38 ti3 rfl rfl rfl rfl <| WL.nu rfl, fun _ _ => WL.cmpV .lss rfl .i64 x1 0 _ hb2 rfl rfl rfl <| WL.nu rfl, fun _ _ => WL.move rfl <| WL.nu rfl, fun _ _ => WL.no rfl rfl <| WL.nu rfl, fun _ _ => WL.no rfl rfl <| WL.nu rfl, fun _ _ => WL.no rfl rfl <| WL.nu rfl, fun _ _ => WL.no rfl rfl <| WL.nu rfl, fun _ _ => WL.no rfl rfl <| WL.nu rfl, fun _ _ => WL.no rfl rfl <| WL.nu rfl, fun _ _ => WL.no rfl rfl <| WL.nu rfl, fun _ _ => WL.no rfl rfl <| WL.nu rfl, fun _ _ => WL.no rfl rfl <| WL.nu rfl, fun _ _ => WL.pickT rfl rfl <| WL.nu rfl, trivial⟩
     ·exact ⟨fun _ hSw => WL.loadG1 hSw hc1 ti3 rfl rfl rfl <| WL.nu rfl, fun _ _ => WL.no rfl rfl <| WL.nu rfl, fun _ _ => WL.no rfl rfl <| WL.nu rfl, trivial⟩
     refine WC.condT rfl <| WC.seq <| WC.region rfl <| WL.assign rfl <| WL.assign rfl <| WL.nil <| WC.ret ?_
     exact ⟨_, rfl, _, _, rfl, hS6.res, (.slice none 0 0), (.int .i64 2), rfl, (Sl.cast (Sl.nil FactE 40 G3) (by exact (prj_2 hv9 (by omega) (bad_of hv9 (List.mem_of_getElem? hf9) (List.mem_of_getElem? (by assumption)) (by first | exact .inl (by assumption) | exact .inr (by assumption)))).2.1.symm)), (congrArg (Value.int .i64) (by exact (prj_2 hv9 (by omega) (bad_of hv9 (List.mem_of_getElem? hf9) (List.mem_of_getElem? (by assumption)) (by first | exact .inl (by assumption) | exact .inr (by assumption)))).2.2.symm))⟩
    have h5 : 0 ≤ x1 := q1
    clear q1
    obtain ⟨p2, x2, hx2, he2, ep2⟩ := Sl.at (hvp.mono ((hle1.trans hle2).trans hle3)) k2 (by omega)
    obtain rfl : x1 = x2 := Option.some.inj (hx1.symm.trans hx2)
    obtain ⟨cs2, hc2, hr4⟩ := he2
    obtain ⟨rfl, hb3⟩ := hr4
    obtain ⟨p3, x3, hx3, he3, ep3⟩ := Sl.at (hvl.mono ((hle1.trans hle2).trans hle3)) k1 (by omega)
    obtain rfl : f9 = x3 := Option.some.inj (hf9.symm.trans hx3)
    obtain ⟨cs3, hc3, hr5⟩ := he3
    obtain ⟨v3, rfl, hs1, hb4, hb5⟩ := FactE_open hr5
    have bd4 := hs1.bound
    rcases Cmp.dec .geq x1 (f9.v.length : Int) with ⟨hb6, q2⟩ | ⟨hb6, q2⟩
    ·have h6 : (f9.v.length : Int) ≤ x1 := q2
     clear q2
     refine dr ⟨[0, 0, 3, 7, 15, 31, 63, 63, 255, 511, 63, 63, 3135, 7231, 15423, 31807, 65535, 131071], [0, 1, 2, 4, 5, 6, 7, 8, 10, 11, 12, 13, 15, 16, 17], [3, 9, 14], [], []⟩ [(28, vp), (29, .int .i64 (k2 : Int)), (30, .pointer (some p1)), (32, .bool false), (33, .bool false), (34, vp), (35, .int .i64 (k2 : Int)), (36, .pointer (some p2)), (38, vl), (39, .int .i64 (k1 : Int)), (40, .pointer (some p3)), (41, .pointer (some (p3.add 0))), (43, .int .i64 (f9.v.length : Int)), (44, .bool true), (45, .bool true), (31, .int .i64 x1), (37, .int .i64 x1), (42, v3)] [o2, o1] hS4 ?_ ?_ trivial (fun w8 hS7 => ?_)
     ·exact ⟨fun _ _ => WL.move rfl <| WL.nu rfl, fun _ _ => WL.move rfl <| WL.nu rfl, fun _ _ => WL.indexAddrP k2 ep1 ul38 ti3 rfl rfl rfl rfl <| WL.nu rfl, fun _ _ => WL.cmpV .lss rfl .i64 x1 0 _ hb2 rfl rfl rfl <| WL.nu rfl, fun _ _ => WL.move rfl <| WL.nu rfl, fun _ _ => WL.move rfl <| WL.nu rfl, fun _ _ => WL.move rfl <| WL.nu rfl, fun _ _ => WL.indexAddrP k2 ep2 ul38 ti3 rfl rfl rfl rfl <| WL.nu rfl, fun _ _ => WL.move rfl <| WL.nu rfl, fun _ _ => WL.move rfl <| WL.nu rfl, fun _ _ => WL.indexAddrP k1 ep3 ul22 ti63 rfl rfl rfl rfl <| WL.nu rfl, fun _ _ => WL.fieldAddr _ 0 _ fl63 rfl rfl rfl <| WL.nu rfl, fun _ _ => WL.lenSl hs1 ul61 rfl rfl <| WL.nu rfl, fun _ _ => WL.cmpV .geq rfl .i64 x1 (f9.v.length : Int) _ hb6 rfl rfl rfl <| WL.nu rfl, fun _ _ => WL.pickF rfl rfl <| WL.nu rfl, trivial⟩
     ·exact ⟨fun _ hSw => WL.loadG1 hSw hc1 ti3 rfl rfl rfl <| WL.nu rfl, fun _ hSw => WL.loadG1 hSw hc2 ti3 rfl rfl rfl <| WL.nu rfl, fun _ hSw => WL.loadG1 hSw (Cells.drop 0 hc3) ti61 rfl rfl rfl <| WL.nu rfl, trivial⟩
     refine WC.condT rfl <| WC.seq <| WC.region rfl <| WL.assign rfl <| WL.assign rfl <| WL.nil <| WC.ret ?_
     exact ⟨_, rfl, _, _, rfl, hS7.res, (.slice none 0 0), (.int .i64 2), rfl, (Sl.cast (Sl.nil FactE 40 G3) (by exact (prj_2 hv9 (by omega) (bad_of hv9 (List.mem_of_getElem? hf9) (List.mem_of_getElem? (by assumption)) (by first | exact .inl (by assumption) | exact .inr (by assumption)))).2.1.symm)), (congrArg (Value.int .i64) (by exact (prj_2 hv9 (by omega) (bad_of hv9 (List.mem_of_getElem? hf9) (List.mem_of_getElem? (by assumption)) (by first | exact .inl (by assumption) | exact .inr (by assumption)))).2.2.symm))⟩
    have h6 : x1 < (f9.v.length : Int) := q2
    clear q2
    refine dr ⟨[0, 0, 3, 7, 15, 31, 63, 63, 255, 511, 63, 63, 3135, 7231, 15423, 31807, 65535, 131071], [0, 1, 2, 4, 5, 6, 7, 8, 10, 11, 12, 13, 15, 16, 17], [3, 9, 14], [], []⟩ [(28, vp), (29, .int .i64 (k2 : Int)), (30, .pointer (some p1)), (32, .bool false), (33, .bool false), (34, vp), (35, .int .i64 (k2 : Int)), (36, .pointer (some p2)), (38, vl), (39, .int .i64 (k1 : Int)), (40, .pointer (some p3)), (41, .pointer (some (p3.add 0))), (43, .int .i64 (f9.v.length : Int)), (44, .bool false), (45, .bool false), (31, .int .i64 x1), (37, .int .i64 x1), (42, v3)] [o2, o1] hS4 ?_ ?_ trivial (fun w8 hS8 => ?_)
    ·exact ⟨fun _ _ => WL.move rfl <| WL.nu rfl, fun _ _ => WL.move rfl <| WL.nu rfl, fun _ _ => WL.indexAddrP k2 ep1 ul38 ti3 rfl rfl rfl rfl <| WL.nu rfl, fun _ _ => WL.cmpV .lss rfl .i64 x1 0 _ hb2 rfl rfl rfl <| WL.nu rfl, fun _ _ => WL.move rfl <| WL.nu rfl, fun _ _ => WL.move rfl <| WL.nu rfl, fun _ _ => WL.move rfl <| WL.nu rfl, fun _ _ => WL.indexAddrP k2 ep2 ul38 ti3 rfl rfl rfl rfl <| WL.nu rfl, fun _ _ => WL.move rfl <| WL.nu rfl, fun _ _ => WL.move rfl <| WL.nu rfl, fun _ _ => WL.indexAddrP k1 ep3 ul22 ti63 rfl rfl rfl rfl <| WL.nu rfl, fun _ _ => WL.fieldAddr _ 0 _ fl63 rfl rfl rfl <| WL.nu rfl, fun _ _ => WL.lenSl hs1 ul61 rfl rfl <| WL.nu rfl, fun _ _ => WL.cmpV .geq rfl .i64 x1 (f9.v.length : Int) _ hb6 rfl rfl rfl <| WL.nu rfl, fun _ _ => WL.pickF rfl rfl <| WL.nu rfl, trivial⟩
    ·exact ⟨fun _ hSw => WL.loadG1 hSw hc1 ti3 rfl rfl rfl <| WL.nu rfl, fun _ hSw => WL.loadG1 hSw hc2 ti3 rfl rfl rfl <| WL.nu rfl, fun _ hSw => WL.loadG1 hSw (Cells.drop 0 hc3) ti61 rfl rfl rfl <| WL.nu rfl, trivial⟩
    refine WC.condF rfl <| WC.skip ?_
    obtain ⟨p4, x4, hx4, he4, ep4⟩ := Sl.at (hvl.mono ((hle1.trans hle2).trans hle3)) k1 (by omega)
    obtain rfl : f9 = x4 := Option.some.inj (hf9.symm.trans hx4)
    obtain ⟨cs4, hc4, hr6⟩ := he4
    obtain ⟨v4, rfl, hs2, hb7, hb8⟩ := FactE_open hr6
    obtain ⟨p5, x5, hx5, he5, ep5⟩ := Sl.at (hvp.mono ((hle1.trans hle2).trans hle3)) k2 (by omega)
    obtain rfl : x1 = x5 := Option.some.inj (hx1.symm.trans hx5)
    obtain ⟨cs5, hc5, hr7⟩ := he5
    obtain ⟨rfl, hb9⟩ := hr7
    obtain ⟨p6, x6, hx6, he6, ep6⟩ := Sl.at hs2 ((x1).toNat) (by omega)
    obtain ⟨cs6, hc6, hr8⟩ := he6
    obtain ⟨rfl, hb10, hb11, hb12⟩ := ValE_open hr8
    refine dr ⟨[0, 0, 0, 6, 14, 30, 0, 0, 192, 448, 1022, 2046, 4094, 8191, 16383], [0, 1, 2, 3, 4, 6, 7, 8, 10], [5, 9, 11], [], [12, 13, 14]⟩ [(46, v2), (47, vl), (48, .int .i64 (k1 : Int)), (49, .pointer (some p4)), (50, .pointer (some (p4.add 0))), (52, vp), (53, .int .i64 (k2 : Int)), (54, .pointer (some p5)), (56, .pointer (some p6)), (51, v4), (55, .int .i64 x1), (57, .agg #[.int .i64 x6.k, .int .i64 x6.n, strV x6.s])] [o2, o1] hS8 ?_ ?_ trivial (fun w8 hS9 => ?_)
    ·exact ⟨fun _ _ => WL.move rfl <| WL.nu rfl, fun _ _ => WL.move rfl <| WL.nu rfl, fun _ _ => WL.move rfl <| WL.nu rfl, fun _ _ => WL.indexAddrP k1 ep4 ul22 ti63 rfl rfl rfl rfl <| WL.nu rfl, fun _ _ => WL.fieldAddr _ 0 _ fl63 rfl rfl rfl <| WL.nu rfl, fun _ _ => WL.move rfl <| WL.nu rfl, fun _ _ => WL.move rfl <| WL.nu rfl, fun _ _ => WL.indexAddrP k2 ep5 ul38 ti3 rfl rfl rfl rfl <| WL.nu rfl, fun _ _ => WL.indexAddrP ((x1).toNat) ep6 ul61 ti34 rfl rfl rfl (congrArg (Value.int .i64) (Int.toNat_of_nonneg (by omega)).symm) <| WL.nu rfl, trivial⟩
    ·exact ⟨fun _ hSw => WL.loadG1 hSw (Cells.drop 0 hc4) ti61 rfl rfl rfl <| WL.nu rfl, fun _ hSw => WL.loadG1 hSw hc5 ti3 rfl rfl rfl <| WL.nu rfl, fun _ hSw => WL.loadGAt hSw hc6 [.int .i64 x6.k, .int .i64 x6.n, strV x6.s] ti34 rfl rfl rfl rfl rfl <| WL.nu rfl, trivial⟩
    refine TL.step rfl ?_
    refine WL.buildSlice _ [(0, [.int .i64 x6.k, .int .i64 x6.n, strV x6.s])] [.int .i64 x6.k, .int .i64 x6.n, strV x6.s] hS9 sl61 rfl rfl rfl rfl (fun z hz => by match z, hz with | [z0, z1, z2], _ => rfl) (fun b1 w8 hn1 hS10 => ?_)
    refine WL.nil ⟨fun h => absurd h (by decide), ?_⟩
    refine TL.step rfl ?_
    refine WL.push (m := ([x6] : List Val)) sl61 rfl rfl rfl hr2 hS10 1 rfl 0 _ _ _ _ _ rfl ⟨[.int .i64 x6.k, .int .i64 x6.n, strV x6.s], _, rfl, (ValE_mk x6 hb10 hb11 hb12), rfl⟩ rfl (by have hreach : reach = 140737488355328 := rfl; simp only [List.length_append, List.length_cons, List.length_nil, List.length_map]; omega) (by have hreach : reach = 140737488355328 := rfl; simp only [List.length_append, List.length_cons, List.length_nil, List.length_map]; omega) rfl rfl rfl (fun v5 o3 w9 hr9 hS11 => ?_)
    have hS12 := hS11.tail
    refine WL.nil ⟨fun h => absurd h (by decide), ?_⟩
    refine TL.step rfl ?_
    refine WL.assign rfl ?_
    refine WL.nil ⟨fun h => absurd h (by decide), ?_⟩
    refine WC.region rfl <| WL.move rfl ?_
    refine WL.incr k2 (by have hreach : reach = 140737488355328 := rfl; omega) rfl rfl rfl ?_
    refine WL.assign rfl <| WL.nil ?_
    exact ⟨_, ⟨k2 + 1, v5, o3, G3, rfl, hle3, hS12, (Row.cast hr9 (by (exact (prjV_step (by assumption) (by assumption)).symm))), rfl, rfl, rfl, rfl, rfl, rfl, (by omega), (by exact lt_step (by assumption) (by assumption) ⟨by omega, by omega⟩)⟩, (show ps.length - (k2 + 1) < ps.length - k2 by omega)⟩
   refine WL.nil <| WC.condF rfl <| WC.exit <| WC.region rfl <| WL.move rfl <| WL.move rfl <| WL.move rfl <| WL.move rfl ?_
   refine WL.indexAddr (hvl.mono ((hle1.trans hle2).trans hle3)) k1 (by omega) ul22 ti63 rfl rfl rfl rfl (fun p7 x7 hx7 he7 => ?_)
   obtain rfl : f9 = x7 := Option.some.inj (hf9.symm.trans hx7)
   obtain ⟨cs7, hc7, hr10⟩ := he7
   obtain ⟨v6, rfl, hs3, hb13, hb14⟩ := FactE_open hr10
   refine WL.fieldAddr _ 1 _ fl63 rfl rfl rfl <| WL.loadGAt hS4 (Cells.drop 1 hc7) [.int .i64 f9.t.a, .int .i64 f9.t.b] ti46 rfl rfl rfl rfl rfl ?_
   obtain ⟨G4, hle4, hs4, hS13⟩ := Row.freeze hr2 hS4 0 rfl
   refine WL.build _ [(0, [v2]), (1, [.int .i64 f9.t.a, .int .i64 f9.t.b])] [v2, .int .i64 f9.t.a, .int .i64 f9.t.b] ti63 rfl fl63 rfl rfl (by show [(0, (v2 : Value).cells.toList), (1, (.agg #[.int .i64 f9.t.a, .int .i64 f9.t.b] : Value).cells.toList)] = _; simp only [hs4.cells1] <;> rfl) rfl ?_
   refine WL.buildSlice _ [(0, [v2, .int .i64 f9.t.a, .int .i64 f9.t.b])] [v2, .int .i64 f9.t.a, .int .i64 f9.t.b] hS13 sl22 rfl rfl rfl rfl (fun z hz => by match z, hz with | [z0, z1, z2], _ => rfl) (fun b2 w10 hn2 hS14 => ?_)
   refine WL.push (m := ([(Fact.mk (prjV f9.v (ps.take k2)) f9.t)] : List Fact)) sl22 rfl rfl rfl (hr1.mono (hle3.trans hle4)) hS14 2 rfl 0 _ _ _ _ _ rfl ⟨[v2, .int .i64 f9.t.a, .int .i64 f9.t.b], _, rfl, (FactE_mk (Fact.mk (prjV f9.v (ps.take k2)) f9.t) hs4 hb13 hb14), rfl⟩ rfl (by have hreach : reach = 140737488355328 := rfl; simp only [List.length_append, List.length_cons, List.length_nil, List.length_map]; omega) (by have hreach : reach = 140737488355328 := rfl; simp only [List.length_append, List.length_cons, List.length_nil, List.length_map]; omega) rfl rfl rfl (fun v7 o4 w11 hr11 hS15 => ?_)
   have hS16 := hS15.tail
   refine WL.assign rfl <| WL.nil <| WC.region rfl <| WL.move rfl ?_
   refine WL.incr k1 (by have hreach : reach = 140737488355328 := rfl; omega) rfl rfl rfl ?_
   refine WL.assign rfl <| WL.nil ?_
   have hS17 := hS16.tail
   exact ⟨_, ⟨k1 + 1, v7, o4, G4, rfl, (hle2.trans (hle3.trans hle4)), hS17, (Row.cast hr11 (by (exact (prjF_step hf9 (by omega)).symm))), rfl, rfl, rfl, rfl, (by omega), (by exact lt_step (by assumption) hf9 (lt_all (by assumption) (by omega)))⟩, (show l.length - (k1 + 1) < l.length - k1 by omega)⟩
  refine WL.nil <| WC.condF rfl <| WC.exit <| WC.seq <| WC.region rfl <| WL.move rfl ?_
  obtain ⟨G5, hle5, hs5, hS18⟩ := Row.freeze hr1 hS2 0 rfl
  refine WL.callF [v1] #[] hb64 rfl rfl rfl ((c_rdone _ _ hS18.imm (prjF ps (l.take k1)) _ hs5 (by rw [prjF_all (by omega)]; exact prjF_good hv9 (not_bad (lt_all (by assumption) (by omega)))) (by omega)).mono ?_)
  rintro e w12 ⟨r2, G6, rfl, hres2, hpost2⟩
  refine ⟨_, rfl, ?_⟩
  have hS19 := hS18.call hres2
  have hle6 := hres2.le
  obtain ⟨r3, r4, rfl, hs6, rfl⟩ := hpost2
  refine WL.extract _ _ rfl rfl rfl <| WL.extract _ _ rfl rfl rfl <| WL.assign rfl <| WL.assign rfl <| WL.nil <| WC.ret ?_
  exact ⟨_, rfl, _, _, rfl, hS19.res, r3, (.int .i64 (doneE (prjF ps (l.take k1)))), rfl, (Sl.cast hs6 (by (rw [prjF_all (by omega)]; exact (prj_ok hv9 (by omega) (not_bad (lt_all (by assumption) (by omega)))).2.1.symm))), (congrArg (Value.int .i64) (by (rw [prjF_all (by omega)]; exact (prj_ok hv9 (by omega) (not_bad (lt_all (by assumption) (by omega)))).2.2.symm)))⟩
 refine WL.not false rfl rfl <| WL.nil <| WC.condT rfl <| WC.seq <| WC.region rfl <| WL.assign rfl <| WL.assign rfl <| WL.nil <| WC.ret ?_
 exact ⟨_, rfl, _, _, rfl, hS1.res, (.slice none 0 0), (.int .i64 1), rfl, (Sl.cast (Sl.nil FactE 40 G1) (by exact (prj_1 (by rw [← rvalid_valid]; exact h1)).2.1.symm)), (congrArg (Value.int .i64) (by exact (prj_1 (by rw [← rvalid_valid]; exact h1)).2.2.symm))⟩
end Go.Civ
