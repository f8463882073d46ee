/- Walks, printed by specs38.py. -/
import Derived.Test.YtapjalhjfblonaaGreatProg
import Derived.KernelRfl
import Derived.WalkKit
import Derived.Test.YtapjalhjfblonaaGreatWz4
import Derived.Test.YtapjalhjfblonaaGreatWz3
import Derived.Test.YtapjalhjfblonaaGreatCiv38
set_option linter.unusedVariables false
set_option linter.unusedSimpArgs false
set_option maxRecDepth 100000
set_option maxHeartbeats 4000000
namespace Go.Civ
open Go.Proofs


theorem c_vHolds (G : GH) (w : World) (hG : G.In w) (d : Nat) (c : Cond) (ns : List (List UInt8)) (l : List Val) (cc : List Value) (hcc : (CondE d).rep G c cc) (vn : Value) (hvn : Sl Enc.str 16 G vn ns) (vl : Value) (hvl : Sl ValE 32 G vl l)  : Calls Tryz.prog (nat_lit 39) #[.agg cc.toArray, vn, vl] w fun e w' => ∃ r G', e = .returned r ∧ Res [] w G w' G' ∧ ∃ r0 r1, r = .tuple #[r0, r1] ∧ r0 = .bool (hldB d c ns l) ∧ r1 = .int .i64 (hldE d c ns l) := by
 refine calls_of_WC (N := 55) Tryz.func39 rfl rfl rfl ?_
 have hS := St.start (X := []) hG
 obtain ⟨lv1, rfl, hb1, hb2, hb3, hb4, hb5, hb6, ho1⟩ := CondE_open hcc
 refine WC.seq <| WC.region rfl ?_
 refine WL.boxG [.int .i64 c.kind, strV c.col, strV c.oth, .int .i64 c.v.k, .int .i64 c.v.n, strV c.v.s, lv1] _ hS rfl rfl rfl (fun p1 w1 G1 hle1 hsp1 hc1 hS1 => ?_)
 refine WL.assign rfl <| WL.assign rfl <| WL.nil <| WC.seq <| WC.seq <| WC.region rfl <| WL.move rfl ?_
 have bd1 := hvn.bound
 refine WL.lenSl (hvn.mono hle1) ul69 rfl rfl <| WL.move rfl ?_
 have bd2 := hvl.bound
 refine WL.lenSl (hvl.mono hle1) ul61 rfl rfl ?_
 refine WL.neqS (ns.length : Int) (l.length : Int) rfl rfl rfl (fun h1 => ?_) (fun h1 => ?_)
 ·refine WL.move rfl <| WL.no rfl rfl <| WL.no rfl rfl <| WL.no rfl rfl <| WL.pickT rfl rfl <| WL.move rfl <| WL.no rfl rfl <| WL.no rfl rfl <| WL.no rfl rfl <| WL.pickT rfl rfl <| WL.nil <| WC.condT rfl <| WC.seq <| WC.region rfl <| WL.assign rfl <| WL.assign rfl <| WL.nil <| WC.ret ?_
  exact ⟨_, rfl, _, _, rfl, hS1.res, (.bool false), (.int .i64 1), rfl, (congrArg Value.bool (by first | exact (hld_no (by first | exact .inl (by omega) | exact .inr (.inl (by omega)) | exact .inr (.inr (by assumption)))).1.symm | exact (hld_err' hcn9 (hld_g (by omega) (by omega) (by assumption)) (by assumption)).1.symm | exact (hld_ok' hcn9 (hld_g (by omega) (by omega) (by assumption)) (by assumption)).1.symm | exact (hld_no (by first | exact .inl (by omega) | exact .inr (.inl (by omega)) | exact .inr (.inr (by assumption)))).2.symm | exact (hld_err' hcn9 (hld_g (by omega) (by omega) (by assumption)) (by assumption)).2.symm | exact (hld_ok' hcn9 (hld_g (by omega) (by omega) (by assumption)) (by assumption)).2.symm)), (congrArg (Value.int .i64) (by first | exact (hld_no (by first | exact .inl (by omega) | exact .inr (.inl (by omega)) | exact .inr (.inr (by assumption)))).1.symm | exact (hld_err' hcn9 (hld_g (by omega) (by omega) (by assumption)) (by assumption)).1.symm | exact (hld_ok' hcn9 (hld_g (by omega) (by omega) (by assumption)) (by assumption)).1.symm | exact (hld_no (by first | exact .inl (by omega) | exact .inr (.inl (by omega)) | exact .inr (.inr (by assumption)))).2.symm | exact (hld_err' hcn9 (hld_g (by omega) (by omega) (by assumption)) (by assumption)).2.symm | exact (hld_ok' hcn9 (hld_g (by omega) (by omega) (by assumption)) (by assumption)).2.symm))⟩
 refine WL.move rfl <| WL.move rfl ?_
 have bd3 := hvn.bound
 refine WL.lenSl (hvn.mono hle1) ul69 rfl rfl ?_
 refine WL.gtrS (ns.length : Int) 100 rfl rfl rfl (fun h2 => ?_) (fun h2 => ?_)
 ·refine WL.pickF rfl rfl <| WL.move rfl <| WL.no rfl rfl <| WL.no rfl rfl <| WL.no rfl rfl <| WL.pickT rfl rfl <| WL.nil <| WC.condT rfl <| WC.seq <| WC.region rfl <| WL.assign rfl <| WL.assign rfl <| WL.nil <| WC.ret ?_
  exact ⟨_, rfl, _, _, rfl, hS1.res, (.bool false), (.int .i64 1), rfl, (congrArg Value.bool (by first | exact (hld_no (by first | exact .inl (by omega) | exact .inr (.inl (by omega)) | exact .inr (.inr (by assumption)))).1.symm | exact (hld_err' hcn9 (hld_g (by omega) (by omega) (by assumption)) (by assumption)).1.symm | exact (hld_ok' hcn9 (hld_g (by omega) (by omega) (by assumption)) (by assumption)).1.symm | exact (hld_no (by first | exact .inl (by omega) | exact .inr (.inl (by omega)) | exact .inr (.inr (by assumption)))).2.symm | exact (hld_err' hcn9 (hld_g (by omega) (by omega) (by assumption)) (by assumption)).2.symm | exact (hld_ok' hcn9 (hld_g (by omega) (by omega) (by assumption)) (by assumption)).2.symm)), (congrArg (Value.int .i64) (by first | exact (hld_no (by first | exact .inl (by omega) | exact .inr (.inl (by omega)) | exact .inr (.inr (by assumption)))).1.symm | exact (hld_err' hcn9 (hld_g (by omega) (by omega) (by assumption)) (by assumption)).1.symm | exact (hld_ok' hcn9 (hld_g (by omega) (by omega) (by assumption)) (by assumption)).1.symm | exact (hld_no (by first | exact .inl (by omega) | exact .inr (.inl (by omega)) | exact .inr (.inr (by assumption)))).2.symm | exact (hld_err' hcn9 (hld_g (by omega) (by omega) (by assumption)) (by assumption)).2.symm | exact (hld_ok' hcn9 (hld_g (by omega) (by omega) (by assumption)) (by assumption)).2.symm))⟩
 refine WL.pickF rfl rfl <| WL.move rfl <| WL.move rfl ?_
 refine WL.callF [vl] #[] hb93 rfl rfl rfl ((c_all _ _ hS1.imm l _ (hvl.mono hle1) ).mono ?_)
 rintro e w2 ⟨r1, G2, rfl, hres1, hpost1⟩
 refine ⟨_, rfl, ?_⟩
 have hS2 := hS1.call hres1
 have hle2 := hres1.le
 subst hpost1
 refine WL.split (fun (h3 : (l.all valB) = true) => ?_) (fun (h3 : (l.all valB) = false) => ?_)
 ·refine WL.not true rfl rfl <| WL.pickF rfl rfl <| WL.nil <| WC.condF rfl <| WC.skip <| WC.seq <| WC.region rfl <| WL.assign rfl <| WL.nil <| WC.seq <| WC.seq <| WC.region rfl <| WL.move rfl ?_
  have bd4 := hvn.bound
  refine WL.lenSl (hvn.mono (hle1.trans hle2)) ul69 rfl rfl <| WL.move rfl <| WL.nil <| WC.block ?_
  have hS4 := hS2.pad
  refine WC.loop (γ := Nat) (fun m ρ1 w1 => ∃ (k1 : Nat), ∃ (v1 : Value) (o1 : OB), ∃ (G3 : GH), m = ns.length - k1 ∧ G2.le G3 ∧ St w [] G G3 [o1] w1 ∧ Row ColE 24 71 G3 v1 (colsN ns l k1) o1 ∧ ρ1 2 = vl ∧ ρ1 3 = .pointer (some p1) ∧ ρ1 8 = v1 ∧ ρ1 27 = vn ∧ ρ1 28 = .int .i64 (ns.length : Int) ∧ ρ1 29 = .int .i64 (k1 : Int) ∧ k1 ≤ ns.length) (fun m => m) _ ⟨0, (.slice none 0 0), none, G2, rfl, (G2.le_refl), hS4, (Row.cast (Row.nil ColE 24 71 G2) (by simp [colsN])), rfl, rfl, rfl, rfl, rfl, rfl, (by omega)⟩ ?_
  rintro m ρ1 w3 ⟨k1, v1, o1, G3, rfl, hle3, hS3, hr1, e1, e2, e3, e4, e5, e6, f1⟩
  refine WC.set (d := 2) e1 <| WC.set (d := 3) e2 <| WC.set (d := 8) e3 <| WC.set (d := 27) e4 <| WC.set (d := 28) e5 <| WC.set (d := 29) e6 ?_
  have hcl8 := colsN_len ns l k1
  refine WC.seq <| WC.region rfl ?_
  refine WL.lssS (k1 : Int) (ns.length : Int) rfl rfl rfl (fun h4 => ?_) (fun h4 => ?_)
  ·refine WL.nil <| WC.seq <| WC.condT rfl <| WC.skip <| WC.seq <| WC.block <| WC.seq <| WC.region rfl <| WL.move rfl ?_
   refine WL.indexAddr (hvn.mono ((hle1.trans hle2).trans hle3)) k1 (by omega) ul69 ti9 rfl rfl rfl rfl (fun p2 x1 hx1 he1 => ?_)
   obtain ⟨cs1, hc2, hr2⟩ := he1
   obtain ⟨rfl, hb7⟩ := hr2
   refine WL.loadG1 hS3 hc2 ti9 rfl rfl rfl <| WL.assign rfl <| WL.assign rfl <| WL.nil <| WC.region rfl <| WL.move rfl <| WL.move rfl <| WL.move rfl <| WL.move rfl ?_
   refine WL.indexAddr (hvl.mono ((hle1.trans hle2).trans hle3)) k1 (by omega) ul61 ti34 rfl rfl rfl rfl (fun p3 x2 hx2 he2 => ?_)
   obtain ⟨cs2, hc3, hr3⟩ := he2
   obtain ⟨rfl, hb8, hb9, hb10⟩ := ValE_open hr3
   refine WL.fieldAddr _ 0 _ fl34 rfl rfl rfl <| WL.loadG1 hS3 (Cells.drop 0 hc3) ti3 rfl rfl rfl <| WL.build _ [(0, [strV x1]), (1, [.int .i64 x2.k])] [strV x1, .int .i64 x2.k] ti71 rfl fl71 rfl rfl rfl rfl ?_
   refine WL.buildSlice _ [(0, [strV x1, .int .i64 x2.k])] [strV x1, .int .i64 x2.k] hS3 sl32 rfl rfl rfl rfl (fun z hz => by match z, hz with | [z0, z1], _ => rfl) (fun b1 w4 hn1 hS5 => ?_)
   refine WL.push (m := ([(Col.mk x1 x2.k)] : List Col)) sl32 rfl rfl rfl hr1 hS5 1 rfl 0 _ _ _ _ _ rfl ⟨[strV x1, .int .i64 x2.k], _, rfl, (ColE_mk (Col.mk x1 x2.k) hb7 hb8), rfl⟩ rfl (by have hreach : reach = 140737488355328 := rfl; simp only [List.length_append, List.length_cons, List.length_nil]; omega) (by have hreach : reach = 140737488355328 := rfl; simp only [List.length_append, List.length_cons, List.length_nil]; omega) rfl rfl rfl (fun v2 o2 w5 hr4 hS6 => ?_)
   have hS7 := hS6.tail
   refine WL.assign rfl <| WL.nil <| WC.region rfl ?_
   refine WL.incr k1 (by have hreach : reach = 140737488355328 := rfl; omega) rfl rfl rfl ?_
   refine WL.move rfl <| WL.nil ?_
   exact ⟨_, ⟨k1 + 1, v2, o2, G3, rfl, hle3, hS7, (Row.cast hr4 (by (exact (colsN_step (by assumption) (by assumption)).symm))), rfl, rfl, rfl, rfl, rfl, rfl, (by omega)⟩, (show ns.length - (k1 + 1) < ns.length - k1 by omega)⟩
  refine WL.nil <| WC.seq <| WC.condF rfl <| WC.exit <| WC.seq <| WC.seq ?_
  have hcn9 : colsN ns l k1 = colsOf ns l := colsN_all (by omega)
  refine WC.region rfl <| WL.loadGAt hS3 (hc1.mono (hle2.trans hle3)) [.int .i64 c.kind, strV c.col, strV c.oth, .int .i64 c.v.k, .int .i64 c.v.n, strV c.v.s, lv1] ti37 rfl rfl rfl rfl rfl <| WL.move rfl ?_
  obtain ⟨G4, hle4, hs1, hS8⟩ := Row.freeze hr1 hS3 0 rfl
  refine WL.callF [.agg #[.int .i64 c.kind, strV c.col, strV c.oth, .int .i64 c.v.k, .int .i64 c.v.n, strV c.v.s, lv1], v1] #[] hb68 rfl rfl rfl ((c_Check _ _ hS8.imm _ c (colsN ns l k1) _ ((CondE _).mono (((hle1.trans hle2).trans hle3).trans hle4) hcc) _ hs1 ).mono ?_)
  rintro e w6 ⟨r2, G5, rfl, hres2, hpost2⟩
  refine ⟨_, rfl, ?_⟩
  have hS9 := hS8.call hres2
  have hle5 := hres2.le
  subst hpost2
  refine WL.assign rfl <| WL.nil <| WC.seq <| WC.region rfl <| WL.move rfl ?_
  refine WL.neqS (checkF d c (colsN ns l k1)) 0 rfl rfl rfl (fun h5 => ?_) (fun h5 => ?_)
  ·refine WL.nil <| WC.condT rfl <| WC.seq <| WC.region rfl <| WL.move rfl <| WL.assign rfl <| WL.assign rfl <| WL.nil <| WC.ret ?_
   exact ⟨_, rfl, _, _, rfl, hS9.res, (.bool false), (.int .i64 (checkF d c (colsN ns l k1))), rfl, (congrArg Value.bool (by first | exact (hld_no (by first | exact .inl (by omega) | exact .inr (.inl (by omega)) | exact .inr (.inr (by assumption)))).1.symm | exact (hld_err' hcn9 (hld_g (by omega) (by omega) (by assumption)) (by assumption)).1.symm | exact (hld_ok' hcn9 (hld_g (by omega) (by omega) (by assumption)) (by assumption)).1.symm | exact (hld_no (by first | exact .inl (by omega) | exact .inr (.inl (by omega)) | exact .inr (.inr (by assumption)))).2.symm | exact (hld_err' hcn9 (hld_g (by omega) (by omega) (by assumption)) (by assumption)).2.symm | exact (hld_ok' hcn9 (hld_g (by omega) (by omega) (by assumption)) (by assumption)).2.symm)), (congrArg (Value.int .i64) (by first | exact (hld_no (by first | exact .inl (by omega) | exact .inr (.inl (by omega)) | exact .inr (.inr (by assumption)))).1.symm | exact (hld_err' hcn9 (hld_g (by omega) (by omega) (by assumption)) (by assumption)).1.symm | exact (hld_ok' hcn9 (hld_g (by omega) (by omega) (by assumption)) (by assumption)).1.symm | exact (hld_no (by first | exact .inl (by omega) | exact .inr (.inl (by omega)) | exact .inr (.inr (by assumption)))).2.symm | exact (hld_err' hcn9 (hld_g (by omega) (by omega) (by assumption)) (by assumption)).2.symm | exact (hld_ok' hcn9 (hld_g (by omega) (by omega) (by assumption)) (by assumption)).2.symm))⟩
  refine WL.nil <| WC.condF rfl <| WC.skip <| WC.seq ?_
  have hwt := check_well (by assumption : checkF d c (colsN ns l k1) = 0)
  have hcl9 : l.length = (colsN ns l k1).length := by rw [hcn9, colsOf_len (by omega)]
  refine WC.region rfl <| WL.loadGAt hS9 (hc1.mono (((hle2.trans hle3).trans hle4).trans hle5)) [.int .i64 c.kind, strV c.col, strV c.oth, .int .i64 c.v.k, .int .i64 c.v.n, strV c.v.s, lv1] ti37 rfl rfl rfl rfl rfl <| WL.move rfl <| WL.move rfl ?_
  refine WL.callF [.agg #[.int .i64 c.kind, strV c.col, strV c.oth, .int .i64 c.v.k, .int .i64 c.v.n, strV c.v.s, lv1], v1, vl] #[] hb99 rfl rfl rfl ((c_meaning _ _ _ hS9.imm c (colsN ns l k1) l _ ((CondE _).mono ((((hle1.trans hle2).trans hle3).trans hle4).trans hle5) hcc) _ (hs1.mono hle5) _ (hvl.mono ((((hle1.trans hle2).trans hle3).trans hle4).trans hle5)) hwt.1 hwt.2 hcl9).mono ?_)
  rintro e w7 ⟨r3, G6, rfl, hres3, hpost3⟩
  refine ⟨_, rfl, ?_⟩
  have hS10 := hS9.call hres3
  have hle6 := hres3.le
  subst hpost3
  refine WL.assign rfl <| WL.assign rfl <| WL.nil <| WC.ret ?_
  exact ⟨_, rfl, _, _, rfl, hS10.res, (.bool (meanF d c (colsN ns l k1) l)), (.int .i64 0), rfl, (congrArg Value.bool (by first | exact (hld_no (by first | exact .inl (by omega) | exact .inr (.inl (by omega)) | exact .inr (.inr (by assumption)))).1.symm | exact (hld_err' hcn9 (hld_g (by omega) (by omega) (by assumption)) (by assumption)).1.symm | exact (hld_ok' hcn9 (hld_g (by omega) (by omega) (by assumption)) (by assumption)).1.symm | exact (hld_no (by first | exact .inl (by omega) | exact .inr (.inl (by omega)) | exact .inr (.inr (by assumption)))).2.symm | exact (hld_err' hcn9 (hld_g (by omega) (by omega) (by assumption)) (by assumption)).2.symm | exact (hld_ok' hcn9 (hld_g (by omega) (by omega) (by assumption)) (by assumption)).2.symm)), (congrArg (Value.int .i64) (by first | exact (hld_no (by first | exact .inl (by omega) | exact .inr (.inl (by omega)) | exact .inr (.inr (by assumption)))).1.symm | exact (hld_err' hcn9 (hld_g (by omega) (by omega) (by assumption)) (by assumption)).1.symm | exact (hld_ok' hcn9 (hld_g (by omega) (by omega) (by assumption)) (by assumption)).1.symm | exact (hld_no (by first | exact .inl (by omega) | exact .inr (.inl (by omega)) | exact .inr (.inr (by assumption)))).2.symm | exact (hld_err' hcn9 (hld_g (by omega) (by omega) (by assumption)) (by assumption)).2.symm | exact (hld_ok' hcn9 (hld_g (by omega) (by omega) (by assumption)) (by assumption)).2.symm))⟩
 refine WL.not false rfl rfl <| WL.pickF rfl rfl <| WL.nil <| WC.condT rfl <| WC.seq <| WC.region rfl <| WL.assign rfl <| WL.assign rfl <| WL.nil <| WC.ret ?_
 exact ⟨_, rfl, _, _, rfl, hS2.res, (.bool false), (.int .i64 1), rfl, (congrArg Value.bool (by first | exact (hld_no (by first | exact .inl (by omega) | exact .inr (.inl (by omega)) | exact .inr (.inr (by assumption)))).1.symm | exact (hld_err' hcn9 (hld_g (by omega) (by omega) (by assumption)) (by assumption)).1.symm | exact (hld_ok' hcn9 (hld_g (by omega) (by omega) (by assumption)) (by assumption)).1.symm | exact (hld_no (by first | exact .inl (by omega) | exact .inr (.inl (by omega)) | exact .inr (.inr (by assumption)))).2.symm | exact (hld_err' hcn9 (hld_g (by omega) (by omega) (by assumption)) (by assumption)).2.symm | exact (hld_ok' hcn9 (hld_g (by omega) (by omega) (by assumption)) (by assumption)).2.symm)), (congrArg (Value.int .i64) (by first | exact (hld_no (by first | exact .inl (by omega) | exact .inr (.inl (by omega)) | exact .inr (.inr (by assumption)))).1.symm | exact (hld_err' hcn9 (hld_g (by omega) (by omega) (by assumption)) (by assumption)).1.symm | exact (hld_ok' hcn9 (hld_g (by omega) (by omega) (by assumption)) (by assumption)).1.symm | exact (hld_no (by first | exact .inl (by omega) | exact .inr (.inl (by omega)) | exact .inr (.inr (by assumption)))).2.symm | exact (hld_err' hcn9 (hld_g (by omega) (by omega) (by assumption)) (by assumption)).2.symm | exact (hld_ok' hcn9 (hld_g (by omega) (by omega) (by assumption)) (by assumption)).2.symm))⟩
end Go.Civ
