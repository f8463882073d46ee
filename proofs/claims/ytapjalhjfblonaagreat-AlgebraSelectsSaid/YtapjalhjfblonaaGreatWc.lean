/- Walks, printed by specs38.py. -/
import Derived.Test.YtapjalhjfblonaaGreatProg
import Derived.KernelRfl
import Derived.WalkKit
import Derived.Test.YtapjalhjfblonaaGreatWb
set_option linter.unusedVariables false
set_option linter.unusedSimpArgs false
set_option maxRecDepth 100000
set_option maxHeartbeats 4000000
namespace Go.Civ
open Go.Proofs


theorem c_valid1 (G : GH) (w : World) (hG : G.In w) (l : List Fact) (f : Fact) (cf : List Value) (hcf : FactE.rep G f cf) (vl : Value) (hvl : Sl FactE 40 G vl l) (pl : Addr) (hpl : Cells G pl [vl]) (hne : 0 < l.length) : Calls Tryz.prog (nat_lit 115) #[.agg cf.toArray, .pointer (some pl)] w fun e w' => ∃ r G', e = .returned r ∧ Res [] w G w' G' ∧ r = .bool (!factB (l.head?.elim [] Fact.v) f) := by
 refine calls_of_WC (N := 29) Tryz.func115 rfl rfl rfl ?_
 have hl0 : ∀ x, l[0]? = some x → l.head?.elim [] Fact.v = x.v := fun x hx => by rw [List.head?_eq_getElem?, hx]; rfl
 have hS := St.start (X := []) hG
 obtain ⟨v1, rfl, hs1, hb1, hb2⟩ := FactE_open hcf
 refine WC.seq <| WC.region rfl ?_
 refine WL.boxG [v1, .int .i64 f.t.a, .int .i64 f.t.b] _ hS rfl rfl rfl (fun p1 w1 G1 hle1 hsp1 hc1 hS1 => ?_)
 refine WL.assign rfl <| WL.nil <| WC.seq ?_
 rcases Bool.eq_false_or_eq_true (spanB f.t) with h1 | h1
 ·have bd1 := hs1.bound
  rcases Cmp.dec .gtr (f.v.length : Int) 8 with ⟨hb3, q1⟩ | ⟨hb3, q1⟩
  ·have h2 : 8 < (f.v.length : Int) := q1
   clear q1
   refine dr ⟨[0, 1, 3, 7, 15, 31, 63, 127, 255, 511, 1023, 2047, 4095, 2047, 10239, 26623, 59391, 131071, 262143, 524287, 1048575, 2097151, 4194303, 8388607, 16777215, 33554431], [0, 3, 4, 5, 7, 8, 9, 10, 11, 14, 15, 18, 19, 20, 21, 24], [1, 6, 12, 13, 16, 22], [2, 17, 23], [25]⟩ [(4, .pointer (some (p1.add 1))), (7, .bool false), (8, .bool false), (9, .pointer (some (p1.add 0))), (11, .int .i64 (f.v.length : Int)), (12, .bool true), (13, .bool true), (14, .bool true), (15, undef), (18, undef), (19, undef), (22, undef), (23, .bool true), (24, .bool true), (25, undef), (28, .bool true), (5, .agg #[.int .i64 f.t.a, .int .i64 f.t.b]), (10, v1), (16, undef), (17, undef), (20, undef), (26, undef), (6, .bool true), (21, undef), (27, undef)] [] hS1 ?_ ?_ ?_ (fun w8 hS2 => ?_)
   ·exact ⟨fun _ _ => WL.fieldAddr _ 1 _ fl63 rfl rfl rfl <| WL.nu rfl, fun _ _ => WL.not true rfl rfl <| WL.nu rfl, fun _ _ => WL.move rfl <| WL.nu rfl, fun _ _ => WL.fieldAddr _ 0 _ fl63 rfl rfl rfl <| WL.nu rfl, fun _ _ => WL.lenSl (hs1.mono hle1) ul61 rfl rfl <| WL.nu rfl, fun _ _ => WL.cmpV .gtr rfl .i64 (f.v.length : Int) 8 _ hb3 rfl rfl rfl <| WL.nu rfl, fun _ _ => WL.pickF rfl rfl <| WL.nu rfl, fun _ _ => WL.move rfl <| WL.nu rfl, fun _ _ => WL.no rfl rfl <| WL.nu rfl, fun _ _ => WL.no rfl rfl <| WL.nu rfl, fun _ _ => WL.no rfl rfl <| WL.nu rfl, fun _ _ => WL.no rfl rfl <| WL.nu rfl, fun _ _ => WL.pickT rfl rfl <| WL.nu rfl, fun _ _ => WL.move rfl <| WL.nu rfl, fun _ _ => WL.no rfl rfl <| WL.nu rfl, fun _ _ => WL.pickT rfl rfl <| WL.nu rfl, trivial⟩
   ·exact ⟨fun _ hSw => WL.loadGAt hSw (Cells.drop 1 hc1) [.int .i64 f.t.a, .int .i64 f.t.b] ti46 rfl rfl rfl rfl rfl <| WL.nu rfl, fun _ hSw => WL.loadG1 hSw (Cells.drop 0 hc1) ti61 rfl rfl rfl <| WL.nu rfl, fun _ _ => WL.no rfl rfl <| WL.nu rfl, fun _ _ => WL.no rfl rfl <| WL.nu rfl, fun _ _ => WL.no rfl rfl <| WL.nu rfl, fun _ _ => WL.no rfl rfl <| WL.nu rfl, trivial⟩
   ·exact ⟨fun _ hSw => WL.callD [.agg #[.int .i64 f.t.a, .int .i64 f.t.b]] #[] hb84 rfl rfl rfl hSw (c_span _ _ hSw.imm f.t _ (SpanE_mk f.t hb1 hb2) ) (congrArg Value.bool h1.symm), fun _ hSw => WL.no rfl rfl <| WL.nuS hSw rfl, fun _ hSw => WL.no rfl rfl <| WL.nuS hSw rfl, trivial⟩
   refine TL.step rfl ?_
   refine WL.assign rfl ?_
   refine WL.nil ⟨fun h => absurd h (by decide), ?_⟩
   refine WC.ret ?_
   exact ⟨_, rfl, _, _, rfl, hS2.res, (congrArg Value.bool (by first | (rw [hl0 _ (by assumption)]; unfold factB; simp_all [Cmp.b] <;> (first | omega | (intros; omega) | (rw [Bool.eq_iff_iff]; simp <;> omega) | (rw [Bool.eq_iff_iff]; simp_all <;> omega))) | (unfold factB; simp_all [Cmp.b] <;> (first | omega | (intros; omega) | (rw [Bool.eq_iff_iff]; simp <;> omega) | (rw [Bool.eq_iff_iff]; simp_all <;> omega)))))⟩
  have h2 : (f.v.length : Int) ≤ 8 := q1
  clear q1
  obtain ⟨p2, x1, hx1, he1, ep1⟩ := Sl.at (hvl.mono hle1) 0 (by omega)
  obtain ⟨cs1, hc2, hr1⟩ := he1
  obtain ⟨v2, rfl, hs2, hb4, hb5⟩ := FactE_open hr1
  rcases Bool.eq_false_or_eq_true (kindsB f.v x1.v) with h3 | h3
  ·refine dr ⟨[0, 1, 3, 7, 15, 31, 63, 127, 255, 511, 1023, 2047, 4095, 2047, 10239, 26623, 59391, 131071, 262143, 524287, 1048575, 2097151, 4194303, 8388607, 16777215, 33554431], [0, 3, 4, 5, 7, 8, 9, 10, 11, 14, 15, 18, 19, 20, 21, 24], [1, 6, 12, 13, 16, 22], [2, 17, 23], [25]⟩ [(4, .pointer (some (p1.add 1))), (7, .bool false), (8, .bool false), (9, .pointer (some (p1.add 0))), (11, .int .i64 (f.v.length : Int)), (12, .bool false), (13, .bool false), (14, .bool false), (15, .pointer (some (p1.add 0))), (18, .pointer (some p2)), (19, .pointer (some (p2.add 0))), (22, .bool false), (23, .bool false), (24, .bool false), (25, .pointer (some (p1.add 0))), (28, .bool (f.v.any (fun x8 => !valB x8))), (5, .agg #[.int .i64 f.t.a, .int .i64 f.t.b]), (10, v1), (16, v1), (17, vl), (20, v2), (26, v1), (6, .bool true), (21, .bool true), (27, .bool (f.v.any (fun x8 => !valB x8)))] [] hS1 ?_ ?_ ?_ (fun w8 hS3 => ?_)
   ·exact ⟨fun _ _ => WL.fieldAddr _ 1 _ fl63 rfl rfl rfl <| WL.nu rfl, fun _ _ => WL.not true rfl rfl <| WL.nu rfl, fun _ _ => WL.move rfl <| WL.nu rfl, fun _ _ => WL.fieldAddr _ 0 _ fl63 rfl rfl rfl <| WL.nu rfl, fun _ _ => WL.lenSl (hs1.mono hle1) ul61 rfl rfl <| WL.nu rfl, fun _ _ => WL.cmpV .gtr rfl .i64 (f.v.length : Int) 8 _ hb3 rfl rfl rfl <| WL.nu rfl, fun _ _ => WL.pickF rfl rfl <| WL.nu rfl, fun _ _ => WL.move rfl <| WL.nu rfl, fun _ _ => WL.fieldAddr _ 0 _ fl63 rfl rfl rfl <| WL.nu rfl, fun _ _ => WL.indexAddrP 0 ep1 ul22 ti63 rfl rfl rfl rfl <| WL.nu rfl, fun _ _ => WL.fieldAddr _ 0 _ fl63 rfl rfl rfl <| WL.nu rfl, fun _ _ => WL.not true rfl rfl <| WL.nu rfl, fun _ _ => WL.pickF rfl rfl <| WL.nu rfl, fun _ _ => WL.move rfl <| WL.nu rfl, fun _ _ => WL.fieldAddr _ 0 _ fl63 rfl rfl rfl <| WL.nu rfl, fun _ _ => WL.pickF rfl rfl <| WL.nu rfl, trivial⟩
   ·exact ⟨fun _ hSw => WL.loadGAt hSw (Cells.drop 1 hc1) [.int .i64 f.t.a, .int .i64 f.t.b] ti46 rfl rfl rfl rfl rfl <| WL.nu rfl, fun _ hSw => WL.loadG1 hSw (Cells.drop 0 hc1) ti61 rfl rfl rfl <| WL.nu rfl, fun _ hSw => WL.loadG1 hSw (Cells.drop 0 hc1) ti61 rfl rfl rfl <| WL.nu rfl, fun _ hSw => WL.loadG1 hSw (hpl.mono hle1) ti22 rfl rfl rfl <| WL.nu rfl, fun _ hSw => WL.loadG1 hSw (Cells.drop 0 hc2) ti61 rfl rfl rfl <| WL.nu rfl, fun _ hSw => WL.loadG1 hSw (Cells.drop 0 hc1) ti61 rfl rfl rfl <| WL.nu rfl, trivial⟩
   ·exact ⟨fun _ hSw => WL.callD [.agg #[.int .i64 f.t.a, .int .i64 f.t.b]] #[] hb84 rfl rfl rfl hSw (c_span _ _ hSw.imm f.t _ (SpanE_mk f.t hb1 hb2) ) (congrArg Value.bool h1.symm), fun _ hSw => WL.callD [v1, v2] #[] hb116 rfl rfl rfl hSw (c_kinds _ _ hSw.imm f.v x1.v _ (hs1.mono hle1) _ hs2 ) (congrArg Value.bool h3.symm), fun _ hSw => WL.callD [v1, .func (.func 118) #[] #[]] #[] hb117 rfl rfl rfl hSw (c_ContainsV _ _ hSw.imm f.v (fun x8 => !valB x8) _ (hs1.mono hle1) 118 #[] ⟨hb118, fun G8 w8 v8 x8 hle8 hG8 hon8 hA8 => by obtain ⟨cs_x8, rfl, hr_x8⟩ := hA8; exact c_valid11 G8 w8 hG8 x8 cs_x8 hr_x8 ⟩ ) rfl, trivial⟩
   refine TL.step rfl ?_
   refine WL.assign rfl ?_
   refine WL.nil ⟨fun h => absurd h (by decide), ?_⟩
   refine WC.ret ?_
   exact ⟨_, rfl, _, _, rfl, hS3.res, (congrArg Value.bool (by first | (rw [hl0 _ (by assumption)]; unfold factB; simp_all [Cmp.b] <;> (first | omega | (intros; omega) | (rw [Bool.eq_iff_iff]; simp <;> omega) | (rw [Bool.eq_iff_iff]; simp_all <;> omega))) | (unfold factB; simp_all [Cmp.b] <;> (first | omega | (intros; omega) | (rw [Bool.eq_iff_iff]; simp <;> omega) | (rw [Bool.eq_iff_iff]; simp_all <;> omega)))))⟩
  refine dr ⟨[0, 1, 3, 7, 15, 31, 63, 127, 255, 511, 1023, 2047, 4095, 2047, 10239, 26623, 59391, 131071, 262143, 524287, 1048575, 2097151, 4194303, 8388607, 16777215, 33554431], [0, 3, 4, 5, 7, 8, 9, 10, 11, 14, 15, 18, 19, 20, 21, 24], [1, 6, 12, 13, 16, 22], [2, 17, 23], [25]⟩ [(4, .pointer (some (p1.add 1))), (7, .bool false), (8, .bool false), (9, .pointer (some (p1.add 0))), (11, .int .i64 (f.v.length : Int)), (12, .bool false), (13, .bool false), (14, .bool false), (15, .pointer (some (p1.add 0))), (18, .pointer (some p2)), (19, .pointer (some (p2.add 0))), (22, .bool true), (23, .bool true), (24, .bool true), (25, undef), (28, .bool true), (5, .agg #[.int .i64 f.t.a, .int .i64 f.t.b]), (10, v1), (16, v1), (17, vl), (20, v2), (26, undef), (6, .bool true), (21, .bool false), (27, undef)] [] hS1 ?_ ?_ ?_ (fun w8 hS4 => ?_)
  ·exact ⟨fun _ _ => WL.fieldAddr _ 1 _ fl63 rfl rfl rfl <| WL.nu rfl, fun _ _ => WL.not true rfl rfl <| WL.nu rfl, fun _ _ => WL.move rfl <| WL.nu rfl, fun _ _ => WL.fieldAddr _ 0 _ fl63 rfl rfl rfl <| WL.nu rfl, fun _ _ => WL.lenSl (hs1.mono hle1) ul61 rfl rfl <| WL.nu rfl, fun _ _ => WL.cmpV .gtr rfl .i64 (f.v.length : Int) 8 _ hb3 rfl rfl rfl <| WL.nu rfl, fun _ _ => WL.pickF rfl rfl <| WL.nu rfl, fun _ _ => WL.move rfl <| WL.nu rfl, fun _ _ => WL.fieldAddr _ 0 _ fl63 rfl rfl rfl <| WL.nu rfl, fun _ _ => WL.indexAddrP 0 ep1 ul22 ti63 rfl rfl rfl rfl <| WL.nu rfl, fun _ _ => WL.fieldAddr _ 0 _ fl63 rfl rfl rfl <| WL.nu rfl, fun _ _ => WL.not false rfl rfl <| WL.nu rfl, fun _ _ => WL.pickF rfl rfl <| WL.nu rfl, fun _ _ => WL.move rfl <| WL.nu rfl, fun _ _ => WL.no rfl rfl <| WL.nu rfl, fun _ _ => WL.pickT rfl rfl <| WL.nu rfl, trivial⟩
  ·exact ⟨fun _ hSw => WL.loadGAt hSw (Cells.drop 1 hc1) [.int .i64 f.t.a, .int .i64 f.t.b] ti46 rfl rfl rfl rfl rfl <| WL.nu rfl, fun _ hSw => WL.loadG1 hSw (Cells.drop 0 hc1) ti61 rfl rfl rfl <| WL.nu rfl, fun _ hSw => WL.loadG1 hSw (Cells.drop 0 hc1) ti61 rfl rfl rfl <| WL.nu rfl, fun _ hSw => WL.loadG1 hSw (hpl.mono hle1) ti22 rfl rfl rfl <| WL.nu rfl, fun _ hSw => WL.loadG1 hSw (Cells.drop 0 hc2) ti61 rfl rfl rfl <| WL.nu rfl, fun _ _ => WL.no rfl rfl <| WL.nu rfl, trivial⟩
  ·exact ⟨fun _ hSw => WL.callD [.agg #[.int .i64 f.t.a, .int .i64 f.t.b]] #[] hb84 rfl rfl rfl hSw (c_span _ _ hSw.imm f.t _ (SpanE_mk f.t hb1 hb2) ) (congrArg Value.bool h1.symm), fun _ hSw => WL.callD [v1, v2] #[] hb116 rfl rfl rfl hSw (c_kinds _ _ hSw.imm f.v x1.v _ (hs1.mono hle1) _ hs2 ) (congrArg Value.bool h3.symm), fun _ hSw => WL.no rfl rfl <| WL.nuS hSw rfl, trivial⟩
  refine TL.step rfl ?_
  refine WL.assign rfl ?_
  refine WL.nil ⟨fun h => absurd h (by decide), ?_⟩
  refine WC.ret ?_
  exact ⟨_, rfl, _, _, rfl, hS4.res, (congrArg Value.bool (by first | (rw [hl0 _ (by assumption)]; unfold factB; simp_all [Cmp.b] <;> (first | omega | (intros; omega) | (rw [Bool.eq_iff_iff]; simp <;> omega) | (rw [Bool.eq_iff_iff]; simp_all <;> omega))) | (unfold factB; simp_all [Cmp.b] <;> (first | omega | (intros; omega) | (rw [Bool.eq_iff_iff]; simp <;> omega) | (rw [Bool.eq_iff_iff]; simp_all <;> omega)))))⟩
 refine dr ⟨[0, 1, 3, 7, 15, 31, 63, 127, 255, 511, 1023, 2047, 4095, 2047, 10239, 26623, 59391, 131071, 262143, 524287, 1048575, 2097151, 4194303, 8388607, 16777215, 33554431], [0, 3, 4, 5, 7, 8, 9, 10, 11, 14, 15, 18, 19, 20, 21, 24], [1, 6, 12, 13, 16, 22], [2, 17, 23], [25]⟩ [(4, .pointer (some (p1.add 1))), (7, .bool true), (8, .bool true), (9, undef), (11, undef), (12, undef), (13, .bool true), (14, .bool true), (15, undef), (18, undef), (19, undef), (22, undef), (23, .bool true), (24, .bool true), (25, undef), (28, .bool true), (5, .agg #[.int .i64 f.t.a, .int .i64 f.t.b]), (10, undef), (16, undef), (17, undef), (20, undef), (26, undef), (6, .bool false), (21, undef), (27, undef)] [] hS1 ?_ ?_ ?_ (fun w8 hS5 => ?_)
 ·exact ⟨fun _ _ => WL.fieldAddr _ 1 _ fl63 rfl rfl rfl <| WL.nu rfl, fun _ _ => WL.not false rfl rfl <| WL.nu rfl, fun _ _ => WL.move rfl <| WL.nu rfl, fun _ _ => WL.no rfl rfl <| WL.nu rfl, fun _ _ => WL.no rfl rfl <| WL.nu rfl, fun _ _ => WL.no rfl rfl <| WL.nu rfl, fun _ _ => WL.pickT rfl rfl <| WL.nu rfl, fun _ _ => WL.move rfl <| WL.nu rfl, fun _ _ => WL.no rfl rfl <| WL.nu rfl, fun _ _ => WL.no rfl rfl <| WL.nu rfl, fun _ _ => WL.no rfl rfl <| WL.nu rfl, fun _ _ => WL.no rfl rfl <| WL.nu rfl, fun _ _ => WL.pickT rfl rfl <| WL.nu rfl, fun _ _ => WL.move rfl <| WL.nu rfl, fun _ _ => WL.no rfl rfl <| WL.nu rfl, fun _ _ => WL.pickT rfl rfl <| WL.nu rfl, trivial⟩
 ·exact ⟨fun _ hSw => WL.loadGAt hSw (Cells.drop 1 hc1) [.int .i64 f.t.a, .int .i64 f.t.b] ti46 rfl rfl rfl rfl rfl <| WL.nu rfl, fun _ _ => WL.no rfl rfl <| WL.nu rfl, fun _ _ => WL.no rfl rfl <| WL.nu rfl, fun _ _ => WL.no rfl rfl <| WL.nu rfl, fun _ _ => WL.no rfl rfl <| WL.nu rfl, fun _ _ => WL.no rfl rfl <| WL.nu rfl, trivial⟩
 ·exact ⟨fun _ hSw => WL.callD [.agg #[.int .i64 f.t.a, .int .i64 f.t.b]] #[] hb84 rfl rfl rfl hSw (c_span _ _ hSw.imm f.t _ (SpanE_mk f.t hb1 hb2) ) (congrArg Value.bool h1.symm), fun _ hSw => WL.no rfl rfl <| WL.nuS hSw rfl, fun _ hSw => WL.no rfl rfl <| WL.nuS hSw rfl, trivial⟩
 refine TL.step rfl ?_
 refine WL.assign rfl ?_
 refine WL.nil ⟨fun h => absurd h (by decide), ?_⟩
 refine WC.ret ?_
 exact ⟨_, rfl, _, _, rfl, hS5.res, (congrArg Value.bool (by first | (rw [hl0 _ (by assumption)]; unfold factB; simp_all [Cmp.b] <;> (first | omega | (intros; omega) | (rw [Bool.eq_iff_iff]; simp <;> omega) | (rw [Bool.eq_iff_iff]; simp_all <;> omega))) | (unfold factB; simp_all [Cmp.b] <;> (first | omega | (intros; omega) | (rw [Bool.eq_iff_iff]; simp <;> omega) | (rw [Bool.eq_iff_iff]; simp_all <;> omega)))))⟩

theorem c_valid (G : GH) (w : World) (hG : G.In w) (l : List Fact) (vl : Value) (hvl : Sl FactE 40 G vl l)  : Calls Tryz.prog (nat_lit 57) #[vl] w fun e w' => ∃ r G', e = .returned r ∧ Res [] w G w' G' ∧ r = .bool (validB l) := by
 refine calls_of_WC (N := 12) Tryz.func57 rfl rfl rfl ?_
 have hS := St.start (X := []) hG
 refine WC.seq <| WC.region rfl ?_
 refine WL.boxG [vl] _ hS rfl rfl hvl.cells1 (fun p1 w1 G1 hle1 hsp1 hc1 hS1 => ?_)
 refine WL.assign rfl <| WL.nil <| WC.seq <| WC.region rfl <| WL.loadG1 hS1 hc1 ti22 rfl rfl rfl ?_
 have bd1 := hvl.bound
 refine WL.lenSl (hvl.mono hle1) ul22 rfl rfl ?_
 refine WL.leqS (l.length : Int) 1000 rfl rfl rfl (fun h1 => ?_) (fun h1 => ?_)
 ·refine WL.move rfl <| WL.loadG1 hS1 hc1 ti22 rfl rfl rfl <| WL.makeFunc _ rfl rfl ?_
  refine WL.callF [vl, .func (.func 115) #[] #[.pointer (some p1)]] #[] hb55 rfl rfl rfl ((c_ContainsF _ _ hS1.imm l (fun x8 => !factB (l.head?.elim [] Fact.v) x8) _ (hvl.mono hle1) 115 #[.pointer (some p1)] ⟨hb115, fun G8 w8 v8 x8 hle8 hG8 hon8 hA8 => by obtain ⟨cs_x8, rfl, hr_x8⟩ := hA8; exact c_valid1 G8 w8 hG8 l x8 cs_x8 hr_x8 vl ((hvl.mono hle1).mono hle8) p1 (hc1.mono hle8) (List.length_pos_of_mem hon8)⟩ ).mono ?_)
  rintro e w2 ⟨r1, G2, rfl, hres1, hpost1⟩
  refine ⟨_, rfl, ?_⟩
  have hS2 := hS1.call hres1
  have hle2 := hres1.le
  subst hpost1
  refine WL.not (l.any (fun x8 => !factB (l.head?.elim [] Fact.v) x8)) rfl rfl ?_
  refine WL.pickT rfl rfl <| WL.assign rfl <| WL.nil <| WC.ret ?_
  exact ⟨_, rfl, _, _, rfl, hS2.res, (congrArg Value.bool (by unfold validB; simp_all [Cmp.b, any_not] <;> (omega)))⟩
 refine WL.move rfl <| WL.no rfl rfl <| WL.no rfl rfl <| WL.no rfl rfl <| WL.no rfl rfl <| WL.pickF rfl rfl <| WL.assign rfl <| WL.nil <| WC.ret ?_
 exact ⟨_, rfl, _, _, rfl, hS1.res, (congrArg Value.bool (by unfold validB; simp_all [Cmp.b, any_not] <;> (omega)))⟩

theorem c_great11 (G : GH) (w : World) (hG : G.In w) (f : Fact) (cf : List Value) (hcf : FactE.rep G f cf)  : Calls Tryz.prog (nat_lit 56) #[.agg cf.toArray] w fun e w' => ∃ r G', e = .returned r ∧ Res [] w G w' G' ∧ r = .bool (decide (10 < f.v.length)) := by
 refine calls_of_WC (N := 7) Tryz.func56 rfl rfl rfl ?_
 have hS := St.start (X := []) hG
 obtain ⟨v1, rfl, hs1, hb1, hb2⟩ := FactE_open hcf
 refine WC.seq <| WC.region rfl ?_
 refine WL.boxG [v1, .int .i64 f.t.a, .int .i64 f.t.b] _ hS rfl rfl rfl (fun p1 w1 G1 hle1 hsp1 hc1 hS1 => ?_)
 refine WL.assign rfl <| WL.nil <| WC.seq <| WC.region rfl <| WL.fieldAddr _ 0 _ fl63 rfl rfl rfl <| WL.loadG1 hS1 (Cells.drop 0 hc1) ti61 rfl rfl rfl ?_
 have bd1 := hs1.bound
 refine WL.lenSl (hs1.mono hle1) ul61 rfl rfl <| WL.cmp .gtr rfl .i64 (f.v.length : Int) 10 rfl rfl rfl <| WL.assign rfl <| WL.nil <| WC.ret ?_
 exact ⟨_, rfl, _, _, rfl, hS1.res, (congrArg Value.bool (by simp [Cmp.b] <;> (omega)))⟩

theorem c_great1 (G : GH) (w : World) (hG : G.In w) (l : List Fact) (vl : Value) (hvl : Sl FactE 40 G vl l)  : Calls Tryz.prog (nat_lit 54) #[vl] w fun e w' => ∃ r G', e = .returned r ∧ Res [] w G w' G' ∧ r = .bool (greatB l) := by
 refine calls_of_WC (N := 10) Tryz.func54 rfl rfl rfl ?_
 have hS := St.start (X := []) hG
 refine WC.seq <| WC.region rfl <| WL.assign rfl <| WL.nil <| WC.seq <| WC.region rfl <| WL.move rfl ?_
 have bd1 := hvl.bound
 refine WL.lenSl hvl ul22 rfl rfl ?_
 refine WL.gtrS (l.length : Int) 20 rfl rfl rfl (fun h1 => ?_) (fun h1 => ?_)
 ·refine WL.move rfl <| WL.no rfl rfl <| WL.no rfl rfl <| WL.pickT rfl rfl <| WL.assign rfl <| WL.nil <| WC.ret ?_
  exact ⟨_, rfl, _, _, rfl, hS.res, (congrArg Value.bool (by unfold greatB; simp_all [Cmp.b] <;> (omega)))⟩
 refine WL.move rfl <| WL.move rfl ?_
 refine WL.callF [vl, .func (.func 56) #[] #[]] #[] hb55 rfl rfl rfl ((c_ContainsF _ _ hS.imm l (fun x8 => decide (10 < x8.v.length)) _ hvl 56 #[] ⟨hb56, fun G8 w8 v8 x8 hle8 hG8 hon8 hA8 => by obtain ⟨cs_x8, rfl, hr_x8⟩ := hA8; exact c_great11 G8 w8 hG8 x8 cs_x8 hr_x8 ⟩ ).mono ?_)
 rintro e w1 ⟨r1, G1, rfl, hres1, hpost1⟩
 refine ⟨_, rfl, ?_⟩
 have hS1 := hS.call hres1
 have hle1 := hres1.le
 subst hpost1
 refine WL.pickF rfl rfl <| WL.assign rfl <| WL.nil <| WC.ret ?_
 exact ⟨_, rfl, _, _, rfl, hS1.res, (congrArg Value.bool (by unfold greatB; simp_all [Cmp.b] <;> (omega)))⟩

theorem c_great (G : GH) (w : World) (hG : G.In w) (l : List (List Fact)) (vl : Value) (hvl : Sl (FactE.slice 40) 24 G vl l)  : Calls Tryz.prog (nat_lit 12) #[vl] w fun e w' => ∃ r G', e = .returned r ∧ Res [] w G w' G' ∧ r = .bool (l.any greatB) := by
 refine calls_of_WC (N := 5) Tryz.func12 rfl rfl rfl ?_
 have hS := St.start (X := []) hG
 refine WC.seq <| WC.region rfl <| WL.assign rfl <| WL.nil <| WC.seq <| WC.region rfl <| WL.move rfl ?_
 refine WL.callF [vl, .func (.func 54) #[] #[]] #[] hb53 rfl rfl rfl ((c_ContainsFF _ _ hS.imm l (fun x8 => greatB x8) _ hvl 54 #[] ⟨hb54, fun G8 w8 v8 x8 hle8 hG8 hon8 hA8 => by exact c_great1 G8 w8 hG8 x8 v8 hA8 ⟩ ).mono ?_)
 rintro e w1 ⟨r1, G1, rfl, hres1, hpost1⟩
 refine ⟨_, rfl, ?_⟩
 have hS1 := hS.call hres1
 have hle1 := hres1.le
 subst hpost1
 refine WL.assign rfl <| WL.nil <| WC.ret ?_
 exact ⟨_, rfl, _, _, rfl, hS1.res, (congrArg Value.bool (by rfl))⟩

theorem c_sign (G : GH) (w : World) (hG : G.In w) (a b : Int)  : Calls Tryz.prog (nat_lit 165) #[.int .i64 a, .int .i64 b] w fun e w' => ∃ r G', e = .returned r ∧ Res [] w G w' G' ∧ r = .int .i64 (sgn a b) := by
 refine calls_of_WC (N := 11) Tryz.func165 rfl rfl rfl ?_
 have hS := St.start (X := []) hG
 refine WC.seq <| WC.region rfl <| WL.assign rfl <| WL.nil <| WC.seq <| WC.seq <| WC.region rfl <| WL.move rfl <| WL.move rfl ?_
 refine WL.lssS a b rfl rfl rfl (fun h1 => ?_) (fun h1 => ?_)
 ·refine WL.nil <| WC.condT rfl <| WC.seq <| WC.region rfl <| WL.assign rfl <| WL.nil <| WC.ret ?_
  exact ⟨_, rfl, _, _, rfl, hS.res, (congrArg (Value.int .i64) (by unfold sgn; split <;> (try split) <;> rfl))⟩
 refine WL.nil <| WC.condF rfl <| WC.skip <| WC.seq <| WC.seq <| WC.region rfl <| WL.move rfl <| WL.move rfl ?_
 refine WL.gtrS a b rfl rfl rfl (fun h2 => ?_) (fun h2 => ?_)
 ·refine WL.nil <| WC.condT rfl <| WC.seq <| WC.region rfl <| WL.assign rfl <| WL.nil <| WC.ret ?_
  exact ⟨_, rfl, _, _, rfl, hS.res, (congrArg (Value.int .i64) (by unfold sgn; split <;> (try split) <;> omega))⟩
 refine WL.nil <| WC.condF rfl <| WC.skip <| WC.seq <| WC.region rfl <| WL.assign rfl <| WL.nil <| WC.ret ?_
 exact ⟨_, rfl, _, _, rfl, hS.res, (congrArg (Value.int .i64) (by unfold sgn; split <;> (try split) <;> omega))⟩

theorem c_rSpan (G : GH) (w : World) (hG : G.In w) (x : Span) (cx : List Value) (hcx : SpanE.rep G x cx)  : Calls Tryz.prog (nat_lit 86) #[.agg cx.toArray] w fun e w' => ∃ r G', e = .returned r ∧ Res [] w G w' G' ∧ r = .bool (spanB x) := by
 refine calls_of_WC (N := 18) Tryz.func86 rfl rfl rfl ?_
 have hS := St.start (X := []) hG
 obtain ⟨rfl, hb1, hb2⟩ := SpanE_open hcx
 refine WC.seq <| WC.region rfl ?_
 refine WL.boxG [.int .i64 x.a, .int .i64 x.b] _ hS rfl rfl rfl (fun p1 w1 G1 hle1 hsp1 hc1 hS1 => ?_)
 refine WL.assign rfl <| WL.nil <| WC.seq <| WC.region rfl <| WL.fieldAddr _ 0 _ fl46 rfl rfl rfl <| WL.loadG1 hS1 (Cells.drop 0 hc1) ti3 rfl rfl rfl ?_
 refine WL.geqS x.a (-62135596800) rfl rfl rfl (fun h1 => ?_) (fun h1 => ?_)
 ·refine WL.move rfl <| WL.fieldAddr _ 0 _ fl46 rfl rfl rfl <| WL.loadG1 hS1 (Cells.drop 0 hc1) ti3 rfl rfl rfl <| WL.fieldAddr _ 1 _ fl46 rfl rfl rfl <| WL.loadG1 hS1 (Cells.drop 1 hc1) ti3 rfl rfl rfl ?_
  refine WL.lssS x.a x.b rfl rfl rfl (fun h2 => ?_) (fun h2 => ?_)
  ·refine WL.pickT rfl rfl <| WL.move rfl <| WL.fieldAddr _ 1 _ fl46 rfl rfl rfl <| WL.loadG1 hS1 (Cells.drop 1 hc1) ti3 rfl rfl rfl <| WL.cmp .leq rfl .i64 x.b 253402300800 rfl rfl rfl <| WL.pickT rfl rfl <| WL.assign rfl <| WL.nil <| WC.ret ?_
   exact ⟨_, rfl, _, _, rfl, hS1.res, (congrArg Value.bool (by unfold spanB; simp_all [Cmp.b] <;> (first | omega | (intros; omega) | (rw [Bool.eq_iff_iff]; simp <;> omega) | (rw [Bool.eq_iff_iff]; simp_all <;> omega))))⟩
  refine WL.pickT rfl rfl <| WL.move rfl <| WL.no rfl rfl <| WL.no rfl rfl <| WL.no rfl rfl <| WL.pickF rfl rfl <| WL.assign rfl <| WL.nil <| WC.ret ?_
  exact ⟨_, rfl, _, _, rfl, hS1.res, (congrArg Value.bool (by unfold spanB; simp_all [Cmp.b] <;> (omega)))⟩
 refine WL.move rfl <| WL.no rfl rfl <| WL.no rfl rfl <| WL.no rfl rfl <| WL.no rfl rfl <| WL.no rfl rfl <| WL.pickF rfl rfl <| WL.move rfl <| WL.no rfl rfl <| WL.no rfl rfl <| WL.no rfl rfl <| WL.pickF rfl rfl <| WL.assign rfl <| WL.nil <| WC.ret ?_
 exact ⟨_, rfl, _, _, rfl, hS1.res, (congrArg Value.bool (by unfold spanB; simp_all [Cmp.b] <;> (omega)))⟩

theorem c_rkinds (G : GH) (w : World) (hG : G.In w) (a b : List Val) (va : Value) (hva : Sl ValE 32 G va a) (vb : Value) (hvb : Sl ValE 32 G vb b)  : Calls Tryz.prog (nat_lit 75) #[va, vb] w fun e w' => ∃ r G', e = .returned r ∧ Res [] w G w' G' ∧ r = .bool (kindsB a b) := by
 refine calls_of_WC (N := 28) Tryz.func75 rfl rfl rfl ?_
 have hS := St.start (X := []) hG
 refine WC.seq <| WC.region rfl <| WL.assign rfl <| WL.nil <| WC.seq <| WC.seq <| WC.region rfl <| WL.move rfl ?_
 have bd1 := hva.bound
 refine WL.lenSl hva ul61 rfl rfl <| WL.move rfl ?_
 have bd2 := hvb.bound
 refine WL.lenSl hvb ul61 rfl rfl ?_
 refine WL.neqS (a.length : Int) (b.length : Int) rfl rfl rfl (fun h1 => ?_) (fun h1 => ?_)
 ·refine WL.nil <| WC.condT rfl <| WC.seq <| WC.region rfl <| WL.assign rfl <| WL.nil <| WC.ret ?_
  exact ⟨_, rfl, _, _, rfl, hS.res, (congrArg Value.bool (by unfold kindsB; exact (eqF_len (by omega)).symm))⟩
 refine WL.nil <| WC.condF rfl <| WC.skip <| WC.seq <| WC.seq <| WC.region rfl <| WL.assign rfl <| WL.nil <| WC.block ?_
 refine WC.loop (γ := Nat) (fun m ρ1 w1 => ∃ (k1 : Nat), ∃ (G1 : GH), m = a.length - k1 ∧ G.le G1 ∧ St w [] G G1 [] w1 ∧ ρ1 0 = va ∧ ρ1 1 = vb ∧ ρ1 5 = .int .i64 (k1 : Int) ∧ k1 ≤ a.length ∧ ∀ j, j < k1 → ∀ x y, a[j]? = some x → b[j]? = some y → decide (x.k = y.k) = true) (fun m => m) _ ⟨0, G, rfl, (G.le_refl), hS, rfl, rfl, rfl, (by omega), (by intro j hj; omega)⟩ ?_
 rintro m ρ1 w1 ⟨k1, G1, rfl, hle1, hS1, e1, e2, e3, f1, f2⟩
 refine WC.set (d := 0) e1 <| WC.set (d := 1) e2 <| WC.set (d := 5) e3 <| WC.seq <| WC.seq <| WC.region rfl <| WL.move rfl <| WL.move rfl ?_
 have bd3 := hva.bound
 refine WL.lenSl (hva.mono hle1) ul61 rfl rfl ?_
 refine WL.lssS (k1 : Int) (a.length : Int) rfl rfl rfl (fun h2 => ?_) (fun h2 => ?_)
 ·refine WL.nil <| WC.condT rfl <| WC.skip <| WC.seq <| WC.block <| WC.seq ?_
  obtain ⟨p1, x1, hx1, he1, ep1⟩ := Sl.at (hva.mono hle1) k1 (by omega)
  obtain ⟨cs1, hc1, hr1⟩ := he1
  obtain ⟨rfl, hb1, hb2, hb3⟩ := ValE_open hr1
  obtain ⟨p2, x2, hx2, he2, ep2⟩ := Sl.at (hvb.mono hle1) k1 (by omega)
  obtain ⟨cs2, hc2, hr2⟩ := he2
  obtain ⟨rfl, hb4, hb5, hb6⟩ := ValE_open hr2
  rcases Cmp.dec .neq x1.k x2.k with ⟨hb7, q1⟩ | ⟨hb7, q1⟩
  ·have h3 : x1.k ≠ x2.k := q1
   clear q1
   refine dr ⟨[0, 0, 3, 7, 15, 0, 0, 96, 224, 480, 1023], [0, 1, 2, 3, 5, 6, 7, 8, 10], [4, 9], [], []⟩ [(17, va), (18, .int .i64 (k1 : Int)), (19, .pointer (some p1)), (20, .pointer (some (p1.add 0))), (22, vb), (23, .int .i64 (k1 : Int)), (24, .pointer (some p2)), (25, .pointer (some (p2.add 0))), (27, .bool true), (21, .int .i64 x1.k), (26, .int .i64 x2.k)] [] hS1 ?_ ?_ trivial (fun w8 hS2 => ?_)
   ·exact ⟨fun _ _ => WL.move rfl <| WL.nu rfl, fun _ _ => WL.move rfl <| WL.nu rfl, fun _ _ => WL.indexAddrP k1 ep1 ul61 ti34 rfl rfl rfl rfl <| WL.nu rfl, fun _ _ => WL.fieldAddr _ 0 _ fl34 rfl rfl rfl <| WL.nu rfl, fun _ _ => WL.move rfl <| WL.nu rfl, fun _ _ => WL.move rfl <| WL.nu rfl, fun _ _ => WL.indexAddrP k1 ep2 ul61 ti34 rfl rfl rfl rfl <| WL.nu rfl, fun _ _ => WL.fieldAddr _ 0 _ fl34 rfl rfl rfl <| WL.nu rfl, fun _ _ => WL.cmpV .neq rfl .i64 x1.k x2.k _ hb7 rfl rfl rfl <| WL.nu rfl, trivial⟩
   ·exact ⟨fun _ hSw => WL.loadG1 hSw (Cells.drop 0 hc1) ti3 rfl rfl rfl <| WL.nu rfl, fun _ hSw => WL.loadG1 hSw (Cells.drop 0 hc2) ti3 rfl rfl rfl <| WL.nu rfl, trivial⟩
   refine WC.condT rfl <| WC.seq <| WC.region rfl <| WL.assign rfl <| WL.nil <| WC.ret ?_
   exact ⟨_, rfl, _, _, rfl, hS2.res, (congrArg Value.bool (by unfold kindsB; exact (eqF_no (f := fun (x y : Val) => decide (x.k = y.k)) (by assumption) (by assumption) (decide_eq_false (by assumption))).symm))⟩
  have h3 : x1.k = x2.k := q1
  clear q1
  refine dr ⟨[0, 0, 3, 7, 15, 0, 0, 96, 224, 480, 1023], [0, 1, 2, 3, 5, 6, 7, 8, 10], [4, 9], [], []⟩ [(17, va), (18, .int .i64 (k1 : Int)), (19, .pointer (some p1)), (20, .pointer (some (p1.add 0))), (22, vb), (23, .int .i64 (k1 : Int)), (24, .pointer (some p2)), (25, .pointer (some (p2.add 0))), (27, .bool false), (21, .int .i64 x1.k), (26, .int .i64 x2.k)] [] hS1 ?_ ?_ trivial (fun w8 hS3 => ?_)
  ·exact ⟨fun _ _ => WL.move rfl <| WL.nu rfl, fun _ _ => WL.move rfl <| WL.nu rfl, fun _ _ => WL.indexAddrP k1 ep1 ul61 ti34 rfl rfl rfl rfl <| WL.nu rfl, fun _ _ => WL.fieldAddr _ 0 _ fl34 rfl rfl rfl <| WL.nu rfl, fun _ _ => WL.move rfl <| WL.nu rfl, fun _ _ => WL.move rfl <| WL.nu rfl, fun _ _ => WL.indexAddrP k1 ep2 ul61 ti34 rfl rfl rfl rfl <| WL.nu rfl, fun _ _ => WL.fieldAddr _ 0 _ fl34 rfl rfl rfl <| WL.nu rfl, fun _ _ => WL.cmpV .neq rfl .i64 x1.k x2.k _ hb7 rfl rfl rfl <| WL.nu rfl, trivial⟩
  ·exact ⟨fun _ hSw => WL.loadG1 hSw (Cells.drop 0 hc1) ti3 rfl rfl rfl <| WL.nu rfl, fun _ hSw => WL.loadG1 hSw (Cells.drop 0 hc2) ti3 rfl rfl rfl <| WL.nu rfl, trivial⟩
  refine WC.condF rfl <| WC.skip <| WC.region rfl <| WL.move rfl ?_
  refine WL.incr k1 (by have hreach : reach = 140737488355328 := rfl; omega) rfl rfl rfl ?_
  refine WL.assign rfl <| WL.nil ?_
  exact ⟨_, ⟨k1 + 1, G1, rfl, hle1, hS3, rfl, rfl, rfl, (by omega), (by exact lt_step2 (by assumption) (by assumption) (by assumption) (by simp_all))⟩, (show a.length - (k1 + 1) < a.length - k1 by omega)⟩
 refine WL.nil <| WC.condF rfl <| WC.exit <| WC.seq <| WC.region rfl <| WL.assign rfl <| WL.nil <| WC.ret ?_
 exact ⟨_, rfl, _, _, rfl, hS1.res, (congrArg Value.bool (by unfold kindsB; exact (eqF_yes (by omega) (by assumption) (by omega)).symm))⟩

theorem c_rValid (G : GH) (w : World) (hG : G.In w) (x : Val) (cx : List Value) (hcx : ValE.rep G x cx)  : Calls Tryz.prog (nat_lit 145) #[.agg cx.toArray] w fun e w' => ∃ r G', e = .returned r ∧ Res [] w G w' G' ∧ r = .bool (valB x) := by
 refine calls_of_WC (N := 71) Tryz.func145 rfl rfl rfl ?_
 have hS := St.start (X := []) hG
 obtain ⟨rfl, hb1, hb2, hb3⟩ := ValE_open hcx
 refine WC.seq <| WC.region rfl ?_
 refine WL.boxG [.int .i64 x.k, .int .i64 x.n, strV x.s] _ hS rfl rfl rfl (fun p1 w1 G1 hle1 hsp1 hc1 hS1 => ?_)
 refine WL.assign rfl <| WL.nil <| WC.seq <| WC.seq <| WC.region rfl <| WL.fieldAddr _ 0 _ fl34 rfl rfl rfl <| WL.loadG1 hS1 (Cells.drop 0 hc1) ti3 rfl rfl rfl <| WL.nil <| WC.block <| WC.seq <| WC.region rfl ?_
 refine WL.eqlS x.k 1 rfl rfl rfl (fun h1 => ?_) (fun h1 => ?_)
 ·refine WL.assign rfl <| WL.nil <| WC.condT rfl <| WC.seq <| WC.region rfl <| WL.fieldAddr _ 2 _ fl34 rfl rfl rfl <| WL.loadG1 hS1 (Cells.drop 2 hc1) ti9 rfl rfl rfl <| WL.strCmp .eql rfl x.s [] rfl rfl rfl <| WL.assign rfl <| WL.nil <| WC.ret ?_
  exact ⟨_, rfl, _, _, rfl, hS1.res, (congrArg Value.bool (by first | exact (valB_text (by assumption) (by assumption) (by omega) (all_yes (by assumption) (by omega))).symm | exact (valB_bad (by assumption) (by assumption) (by simp [okC]; omega)).symm | (unfold valB; simp_all [Cmp.b, SCmp.b] <;> (first | omega | (intros; omega) | (rw [Bool.eq_iff_iff]; simp <;> omega) | (rw [Bool.eq_iff_iff]; simp_all <;> omega)))))⟩
 refine WL.assign rfl <| WL.nil <| WC.condF rfl <| WC.seq <| WC.region rfl ?_
 refine WL.eqlS x.k 2 rfl rfl rfl (fun h2 => ?_) (fun h2 => ?_)
 ·refine WL.assign rfl <| WL.nil <| WC.condT rfl <| WC.seq <| WC.seq <| WC.region rfl <| WL.fieldAddr _ 1 _ fl34 rfl rfl rfl <| WL.loadG1 hS1 (Cells.drop 1 hc1) ti3 rfl rfl rfl ?_
  refine WL.neqS x.n 0 rfl rfl rfl (fun h3 => ?_) (fun h3 => ?_)
  ·refine WL.move rfl <| WL.no rfl rfl <| WL.no rfl rfl <| WL.no rfl rfl <| WL.no rfl rfl <| WL.pickT rfl rfl <| WL.nil <| WC.condT rfl <| WC.seq <| WC.region rfl <| WL.assign rfl <| WL.nil <| WC.ret ?_
   exact ⟨_, rfl, _, _, rfl, hS1.res, (congrArg Value.bool (by first | exact (valB_text (by assumption) (by assumption) (by omega) (all_yes (by assumption) (by omega))).symm | exact (valB_bad (by assumption) (by assumption) (by simp [okC]; omega)).symm | (unfold valB; simp_all [Cmp.b, SCmp.b] <;> (first | omega | (intros; omega) | (rw [Bool.eq_iff_iff]; simp <;> omega) | (rw [Bool.eq_iff_iff]; simp_all <;> omega)))))⟩
  refine WL.move rfl <| WL.fieldAddr _ 2 _ fl34 rfl rfl rfl <| WL.loadG1 hS1 (Cells.drop 2 hc1) ti9 rfl rfl rfl <| WL.lenStr x.s ul9 rfl rfl ?_
  refine WL.gtrS (x.s.length : Int) 30 rfl rfl rfl (fun h4 => ?_) (fun h4 => ?_)
  ·refine WL.pickF rfl rfl <| WL.nil <| WC.condT rfl <| WC.seq <| WC.region rfl <| WL.assign rfl <| WL.nil <| WC.ret ?_
   exact ⟨_, rfl, _, _, rfl, hS1.res, (congrArg Value.bool (by first | exact (valB_text (by assumption) (by assumption) (by omega) (all_yes (by assumption) (by omega))).symm | exact (valB_bad (by assumption) (by assumption) (by simp [okC]; omega)).symm | (unfold valB; simp_all [Cmp.b, SCmp.b] <;> (first | omega | (intros; omega) | (rw [Bool.eq_iff_iff]; simp <;> omega) | (rw [Bool.eq_iff_iff]; simp_all <;> omega)))))⟩
  refine WL.pickF rfl rfl <| WL.nil <| WC.condF rfl <| WC.skip <| WC.seq <| WC.seq <| WC.region rfl <| WL.assign rfl <| WL.nil <| WC.block ?_
  refine WC.loop (γ := Nat) (fun m ρ1 w1 => ∃ (k1 : Nat), ∃ (G2 : GH), m = x.s.length - k1 ∧ G1.le G2 ∧ St w [] G G2 [] w1 ∧ ρ1 1 = .pointer (some p1) ∧ ρ1 3 = .int .i64 (k1 : Int) ∧ k1 ≤ x.s.length ∧ ∀ j, j < k1 → ∀ c, x.s[j]? = some c → okC c = true) (fun m => m) _ ⟨0, G1, rfl, (G1.le_refl), hS1, rfl, rfl, (by omega), (by intro j hj; omega)⟩ ?_
  rintro m ρ1 w2 ⟨k1, G2, rfl, hle2, hS2, e1, e2, f1, f2⟩
  refine WC.set (d := 1) e1 <| WC.set (d := 3) e2 <| WC.seq <| WC.seq <| WC.region rfl <| WL.move rfl <| WL.fieldAddr _ 2 _ fl34 rfl rfl rfl <| WL.loadG1 hS2 (Cells.drop 2 (hc1.mono hle2)) ti9 rfl rfl rfl <| WL.lenStr x.s ul9 rfl rfl ?_
  refine WL.lssS (k1 : Int) (x.s.length : Int) rfl rfl rfl (fun h5 => ?_) (fun h5 => ?_)
  ·refine WL.nil <| WC.condT rfl <| WC.skip <| WC.seq <| WC.block <| WC.seq <| WC.region rfl <| WL.fieldAddr _ 2 _ fl34 rfl rfl rfl <| WL.loadG1 hS2 (Cells.drop 2 (hc1.mono hle2)) ti9 rfl rfl rfl <| WL.move rfl ?_
   refine WL.indexStr x.s k1 (by omega) ul9 rfl rfl rfl (fun c1 hx1 => ?_)
   refine WL.lssS (c1.toNat : Int) 32 rfl rfl rfl (fun h6 => ?_) (fun h6 => ?_)
   ·refine WL.move rfl <| WL.no rfl rfl <| WL.no rfl rfl <| WL.no rfl rfl <| WL.no rfl rfl <| WL.no rfl rfl <| WL.pickT rfl rfl <| WL.nil <| WC.condT rfl <| WC.seq <| WC.region rfl <| WL.assign rfl <| WL.nil <| WC.ret ?_
    exact ⟨_, rfl, _, _, rfl, hS2.res, (congrArg Value.bool (by first | exact (valB_text (by assumption) (by assumption) (by omega) (all_yes (by assumption) (by omega))).symm | exact (valB_bad (by assumption) (by assumption) (by simp [okC]; omega)).symm | (unfold valB; simp_all [Cmp.b, SCmp.b] <;> (first | omega | (intros; omega) | (rw [Bool.eq_iff_iff]; simp <;> omega) | (rw [Bool.eq_iff_iff]; simp_all <;> omega)))))⟩
   refine WL.move rfl <| WL.fieldAddr _ 2 _ fl34 rfl rfl rfl <| WL.loadG1 hS2 (Cells.drop 2 (hc1.mono hle2)) ti9 rfl rfl rfl <| WL.move rfl ?_
   refine WL.indexStr x.s k1 (by omega) ul9 rfl rfl rfl (fun c2 hx2 => ?_)
   obtain rfl : c1 = c2 := Option.some.inj (hx1.symm.trans hx2)
   refine WL.gtrS (c1.toNat : Int) 126 rfl rfl rfl (fun h7 => ?_) (fun h7 => ?_)
   ·refine WL.pickF rfl rfl <| WL.nil <| WC.condT rfl <| WC.seq <| WC.region rfl <| WL.assign rfl <| WL.nil <| WC.ret ?_
    exact ⟨_, rfl, _, _, rfl, hS2.res, (congrArg Value.bool (by first | exact (valB_text (by assumption) (by assumption) (by omega) (all_yes (by assumption) (by omega))).symm | exact (valB_bad (by assumption) (by assumption) (by simp [okC]; omega)).symm | (unfold valB; simp_all [Cmp.b, SCmp.b] <;> (first | omega | (intros; omega) | (rw [Bool.eq_iff_iff]; simp <;> omega) | (rw [Bool.eq_iff_iff]; simp_all <;> omega)))))⟩
   refine WL.pickF rfl rfl <| WL.nil <| WC.condF rfl <| WC.skip <| WC.region rfl <| WL.move rfl ?_
   refine WL.incr k1 (by have hreach : reach = 140737488355328 := rfl; omega) rfl rfl rfl ?_
   refine WL.assign rfl <| WL.nil ?_
   exact ⟨_, ⟨k1 + 1, G2, rfl, hle2, hS2, rfl, rfl, (by omega), (by exact lt_step (by assumption) (by assumption) (by simp [okC]; omega))⟩, (show x.s.length - (k1 + 1) < x.s.length - k1 by omega)⟩
  refine WL.nil <| WC.condF rfl <| WC.exit <| WC.seq <| WC.region rfl <| WL.assign rfl <| WL.nil <| WC.ret ?_
  exact ⟨_, rfl, _, _, rfl, hS2.res, (congrArg Value.bool (by first | exact (valB_text (by assumption) (by assumption) (by omega) (all_yes (by assumption) (by omega))).symm | exact (valB_bad (by assumption) (by assumption) (by simp [okC]; omega)).symm | (unfold valB; simp_all [Cmp.b, SCmp.b] <;> (first | omega | (intros; omega) | (rw [Bool.eq_iff_iff]; simp <;> omega) | (rw [Bool.eq_iff_iff]; simp_all <;> omega)))))⟩
 refine WL.assign rfl <| WL.nil <| WC.condF rfl <| WC.seq <| WC.region rfl ?_
 refine WL.eqlS x.k 3 rfl rfl rfl (fun h8 => ?_) (fun h8 => ?_)
 ·refine WL.assign rfl <| WL.nil <| WC.condT rfl <| WC.seq <| WC.region rfl <| WL.fieldAddr _ 2 _ fl34 rfl rfl rfl <| WL.loadG1 hS1 (Cells.drop 2 hc1) ti9 rfl rfl rfl <| WL.strCmp .eql rfl x.s [] rfl rfl rfl ?_
  refine WL.split (fun h0 => ?_) (fun h0 => ?_)
  ·have h9 : x.s = [] := by simpa [SCmp.b] using h0
   clear h0
   refine WL.move rfl <| WL.fieldAddr _ 1 _ fl34 rfl rfl rfl <| WL.loadG1 hS1 (Cells.drop 1 hc1) ti3 rfl rfl rfl ?_
   refine WL.eqlS x.n 0 rfl rfl rfl (fun h10 => ?_) (fun h10 => ?_)
   ·refine WL.move rfl <| WL.no rfl rfl <| WL.no rfl rfl <| WL.no rfl rfl <| WL.pickT rfl rfl <| WL.pickT rfl rfl <| WL.assign rfl <| WL.nil <| WC.ret ?_
    exact ⟨_, rfl, _, _, rfl, hS1.res, (congrArg Value.bool (by first | exact (valB_text (by assumption) (by assumption) (by omega) (all_yes (by assumption) (by omega))).symm | exact (valB_bad (by assumption) (by assumption) (by simp [okC]; omega)).symm | (unfold valB; simp_all [Cmp.b, SCmp.b] <;> (first | omega | (intros; omega) | (rw [Bool.eq_iff_iff]; simp <;> omega) | (rw [Bool.eq_iff_iff]; simp_all <;> omega)))))⟩
   refine WL.move rfl <| WL.fieldAddr _ 1 _ fl34 rfl rfl rfl <| WL.loadG1 hS1 (Cells.drop 1 hc1) ti3 rfl rfl rfl <| WL.cmp .eql rfl .i64 x.n 1 rfl rfl rfl <| WL.pickF rfl rfl <| WL.pickT rfl rfl <| WL.assign rfl <| WL.nil <| WC.ret ?_
   exact ⟨_, rfl, _, _, rfl, hS1.res, (congrArg Value.bool (by first | exact (valB_text (by assumption) (by assumption) (by omega) (all_yes (by assumption) (by omega))).symm | exact (valB_bad (by assumption) (by assumption) (by simp [okC]; omega)).symm | (unfold valB; simp_all [Cmp.b, SCmp.b] <;> (first | omega | (intros; omega) | (rw [Bool.eq_iff_iff]; simp <;> omega) | (rw [Bool.eq_iff_iff]; simp_all <;> omega)))))⟩
  have h9 : x.s ≠ [] := by simpa [SCmp.b] using h0
  clear h0
  refine WL.move rfl <| WL.no rfl rfl <| WL.no rfl rfl <| WL.no rfl rfl <| WL.no rfl rfl <| WL.no rfl rfl <| WL.no rfl rfl <| WL.no rfl rfl <| WL.no rfl rfl <| WL.pickF rfl rfl <| WL.assign rfl <| WL.nil <| WC.ret ?_
  exact ⟨_, rfl, _, _, rfl, hS1.res, (congrArg Value.bool (by first | exact (valB_text (by assumption) (by assumption) (by omega) (all_yes (by assumption) (by omega))).symm | exact (valB_bad (by assumption) (by assumption) (by simp [okC]; omega)).symm | (unfold valB; simp_all [Cmp.b, SCmp.b] <;> (first | omega | (intros; omega) | (rw [Bool.eq_iff_iff]; simp <;> omega) | (rw [Bool.eq_iff_iff]; simp_all <;> omega)))))⟩
 refine WL.assign rfl <| WL.nil <| WC.condF rfl <| WC.seq <| WC.region rfl ?_
 refine WL.eqlS x.k 4 rfl rfl rfl (fun h11 => ?_) (fun h11 => ?_)
 ·refine WL.assign rfl <| WL.nil <| WC.condT rfl <| WC.seq <| WC.region rfl <| WL.fieldAddr _ 2 _ fl34 rfl rfl rfl <| WL.loadG1 hS1 (Cells.drop 2 hc1) ti9 rfl rfl rfl <| WL.strCmp .eql rfl x.s [] rfl rfl rfl ?_
  refine WL.split (fun h0 => ?_) (fun h0 => ?_)
  ·have h12 : x.s = [] := by simpa [SCmp.b] using h0
   clear h0
   refine WL.move rfl <| WL.fieldAddr _ 1 _ fl34 rfl rfl rfl <| WL.loadG1 hS1 (Cells.drop 1 hc1) ti3 rfl rfl rfl ?_
   refine WL.geqS x.n (-62135596800) rfl rfl rfl (fun h13 => ?_) (fun h13 => ?_)
   ·refine WL.pickT rfl rfl <| WL.move rfl <| WL.fieldAddr _ 1 _ fl34 rfl rfl rfl <| WL.loadG1 hS1 (Cells.drop 1 hc1) ti3 rfl rfl rfl <| WL.cmp .leq rfl .i64 x.n 253402300800 rfl rfl rfl <| WL.pickT rfl rfl <| WL.assign rfl <| WL.nil <| WC.ret ?_
    exact ⟨_, rfl, _, _, rfl, hS1.res, (congrArg Value.bool (by first | exact (valB_text (by assumption) (by assumption) (by omega) (all_yes (by assumption) (by omega))).symm | exact (valB_bad (by assumption) (by assumption) (by simp [okC]; omega)).symm | (unfold valB; simp_all [Cmp.b, SCmp.b] <;> (first | omega | (intros; omega) | (rw [Bool.eq_iff_iff]; simp <;> omega) | (rw [Bool.eq_iff_iff]; simp_all <;> omega)))))⟩
   refine WL.pickT rfl rfl <| WL.move rfl <| WL.no rfl rfl <| WL.no rfl rfl <| WL.no rfl rfl <| WL.pickF rfl rfl <| WL.assign rfl <| WL.nil <| WC.ret ?_
   exact ⟨_, rfl, _, _, rfl, hS1.res, (congrArg Value.bool (by first | exact (valB_text (by assumption) (by assumption) (by omega) (all_yes (by assumption) (by omega))).symm | exact (valB_bad (by assumption) (by assumption) (by simp [okC]; omega)).symm | (unfold valB; simp_all [Cmp.b, SCmp.b] <;> (first | omega | (intros; omega) | (rw [Bool.eq_iff_iff]; simp <;> omega) | (rw [Bool.eq_iff_iff]; simp_all <;> omega)))))⟩
  have h12 : x.s ≠ [] := by simpa [SCmp.b] using h0
  clear h0
  refine WL.move rfl <| WL.no rfl rfl <| WL.no rfl rfl <| WL.no rfl rfl <| WL.pickF rfl rfl <| WL.move rfl <| WL.no rfl rfl <| WL.no rfl rfl <| WL.no rfl rfl <| WL.pickF rfl rfl <| WL.assign rfl <| WL.nil <| WC.ret ?_
  exact ⟨_, rfl, _, _, rfl, hS1.res, (congrArg Value.bool (by first | exact (valB_text (by assumption) (by assumption) (by omega) (all_yes (by assumption) (by omega))).symm | exact (valB_bad (by assumption) (by assumption) (by simp [okC]; omega)).symm | (unfold valB; simp_all [Cmp.b, SCmp.b] <;> (first | omega | (intros; omega) | (rw [Bool.eq_iff_iff]; simp <;> omega) | (rw [Bool.eq_iff_iff]; simp_all <;> omega)))))⟩
 refine WL.assign rfl <| WL.nil <| WC.condF rfl <| WC.skip <| WC.seq <| WC.region rfl <| WL.assign rfl <| WL.nil <| WC.ret ?_
 exact ⟨_, rfl, _, _, rfl, hS1.res, (congrArg Value.bool (by first | exact (valB_text (by assumption) (by assumption) (by omega) (all_yes (by assumption) (by omega))).symm | exact (valB_bad (by assumption) (by assumption) (by simp [okC]; omega)).symm | (unfold valB; simp_all [Cmp.b, SCmp.b] <;> (first | omega | (intros; omega) | (rw [Bool.eq_iff_iff]; simp <;> omega) | (rw [Bool.eq_iff_iff]; simp_all <;> omega)))))⟩

theorem c_rAll (G : GH) (w : World) (hG : G.In w) (l : List Val) (vl : Value) (hvl : Sl ValE 32 G vl l)  : Calls Tryz.prog (nat_lit 92) #[vl] w fun e w' => ∃ r G', e = .returned r ∧ Res [] w G w' G' ∧ r = .bool (l.all valB) := by
 refine calls_of_WC (N := 16) Tryz.func92 rfl rfl rfl ?_
 have hS := St.start (X := []) hG
 refine WC.seq <| WC.region rfl <| WL.assign rfl <| WL.nil <| WC.seq <| WC.seq <| WC.region rfl <| WL.assign rfl <| WL.nil <| WC.block ?_
 refine WC.loop (γ := Nat) (fun m ρ1 w1 => ∃ (k1 : Nat), ∃ (G1 : GH), m = l.length - k1 ∧ G.le G1 ∧ St w [] G G1 [] w1 ∧ ρ1 0 = vl ∧ ρ1 3 = .int .i64 (k1 : Int) ∧ k1 ≤ l.length ∧ ∀ j, j < k1 → ∀ x, l[j]? = some x → valB x = true) (fun m => m) _ ⟨0, G, rfl, (G.le_refl), hS, rfl, rfl, (by omega), (by intro j hj; omega)⟩ ?_
 rintro m ρ1 w1 ⟨k1, G1, rfl, hle1, hS1, e1, e2, f1, f2⟩
 refine WC.set (d := 0) e1 <| WC.set (d := 3) e2 <| WC.seq <| WC.seq <| WC.region rfl <| WL.move rfl <| WL.move rfl ?_
 have bd1 := hvl.bound
 refine WL.lenSl (hvl.mono hle1) ul61 rfl rfl ?_
 refine WL.lssS (k1 : Int) (l.length : Int) rfl rfl rfl (fun h1 => ?_) (fun h1 => ?_)
 ·refine WL.nil <| WC.condT rfl <| WC.skip <| WC.seq <| WC.block <| WC.seq <| WC.region rfl <| WL.move rfl <| WL.move rfl ?_
  refine WL.indexAddr (hvl.mono hle1) k1 (by omega) ul61 ti34 rfl rfl rfl rfl (fun p1 x1 hx1 he1 => ?_)
  obtain ⟨cs1, hc1, hr1⟩ := he1
  obtain ⟨rfl, hb1, hb2, hb3⟩ := ValE_open hr1
  refine WL.loadGAt hS1 hc1 [.int .i64 x1.k, .int .i64 x1.n, strV x1.s] ti34 rfl rfl rfl rfl rfl ?_
  refine WL.callF [.agg #[.int .i64 x1.k, .int .i64 x1.n, strV x1.s]] #[] hb145 rfl rfl rfl ((c_rValid _ _ hS1.imm x1 _ (ValE_mk x1 hb1 hb2 hb3) ).mono ?_)
  rintro e w2 ⟨r1, G2, rfl, hres1, hpost1⟩
  refine ⟨_, rfl, ?_⟩
  have hS2 := hS1.call hres1
  have hle2 := hres1.le
  subst hpost1
  refine WL.split (fun (h2 : (valB x1) = true) => ?_) (fun (h2 : (valB x1) = false) => ?_)
  ·refine WL.not true rfl rfl <| WL.nil <| WC.condF rfl <| WC.skip <| WC.region rfl <| WL.move rfl ?_
   refine WL.incr k1 (by have hreach : reach = 140737488355328 := rfl; omega) rfl rfl rfl ?_
   refine WL.assign rfl <| WL.nil ?_
   exact ⟨_, ⟨k1 + 1, G2, rfl, (hle1.trans hle2), hS2, rfl, rfl, (by omega), (by exact lt_step (by assumption) (by assumption) (by simpa using (by assumption)))⟩, (show l.length - (k1 + 1) < l.length - k1 by omega)⟩
  refine WL.not false rfl rfl <| WL.nil <| WC.condT rfl <| WC.seq <| WC.region rfl <| WL.assign rfl <| WL.nil <| WC.ret ?_
  exact ⟨_, rfl, _, _, rfl, hS2.res, (congrArg Value.bool (by exact (all_no (by assumption) (by simpa using (by assumption))).symm))⟩
 refine WL.nil <| WC.condF rfl <| WC.exit <| WC.seq <| WC.region rfl <| WL.assign rfl <| WL.nil <| WC.ret ?_
 exact ⟨_, rfl, _, _, rfl, hS1.res, (congrArg Value.bool (by exact (all_yes (by assumption) (by omega)).symm))⟩
end Go.Civ
