/- Walks, printed by specs38.py. -/
import Derived.Test.YtapjalhjfblonaaGreatProg
import Derived.KernelRfl
import Derived.WalkKit
import Derived.Test.YtapjalhjfblonaaGreatMWz4
import Derived.Test.YtapjalhjfblonaaGreatMWz3
import Derived.Test.YtapjalhjfblonaaGreatMCiv39
set_option linter.unusedVariables false
set_option linter.unusedSimpArgs false
set_option maxRecDepth 100000
set_option maxHeartbeats 4000000
namespace Go.Civ
open Go.Proofs


theorem c_vHolds {G : GH} {w : World} (hG : G.In w) (d : Nat) (c : Cond) (ns : List (List UInt8)) (l : List Val) (cc : List Value) (hcc : (CondE d).rep G c cc) (vn : Value) (hvn : Sl Enc.str 16 G vn ns) (vl : Value) (hvl : Sl ValE 32 G vl l)  : CL Tryz.prog (nat_lit 39) #[.agg cc.toArray, vn, vl] [] w G fun _ _ r => ∃ r0 r1, r = .tuple #[r0, r1] ∧ r0 = .bool (hldB d c ns l) ∧ r1 = .int .i64 (hldE d c ns l) := by
  refine calls_of_go ft [] Tryz.func39 rfl rfl ?_
  have hS := St.start (X := []) hG
  obtain ⟨lv1, rfl, hb1, hb2, hb3, hb4, hb5, hb6, ho1⟩ := CondE_open hcc
  refine WL.boxG [.int .i64 c.kind, strV c.col, strV c.oth, .int .i64 c.v.k, .int .i64 c.v.n, strV c.v.s, lv1] _ hS rfl rfl rfl (fun p1 w1 G1 hle1 hsp1 hc1 hS1 => ?_)
  have bd1 := hvn.bound
  refine WL.lenSl (hvn.mono hle1) ul69 rfl rfl ?_
  have bd2 := hvl.bound
  refine WL.lenSl (hvl.mono hle1) ul61 rfl rfl ?_
  refine WL.neqS (ns.length : Int) (l.length : Int) rfl rfl rfl (fun h1 => ?_) (fun h1 => ?_)
  · exact RT hS1 rfl ⟨_, _, rfl, (congrArg Value.bool (by first | exact (hld_no (by first | exact .inl (by omega) | exact .inr (.inl (by omega)) | exact .inr (.inr (by assumption)))).1.symm | exact (hld_err' hcn9 (hld_g (by omega) (by omega) (by assumption)) (by assumption)).1.symm | exact (hld_ok' hcn9 (hld_g (by omega) (by omega) (by assumption)) (by assumption)).1.symm | exact (hld_no (by first | exact .inl (by omega) | exact .inr (.inl (by omega)) | exact .inr (.inr (by assumption)))).2.symm | exact (hld_err' hcn9 (hld_g (by omega) (by omega) (by assumption)) (by assumption)).2.symm | exact (hld_ok' hcn9 (hld_g (by omega) (by omega) (by assumption)) (by assumption)).2.symm)), (congrArg (Value.int .i64) (by first | exact (hld_no (by first | exact .inl (by omega) | exact .inr (.inl (by omega)) | exact .inr (.inr (by assumption)))).1.symm | exact (hld_err' hcn9 (hld_g (by omega) (by omega) (by assumption)) (by assumption)).1.symm | exact (hld_ok' hcn9 (hld_g (by omega) (by omega) (by assumption)) (by assumption)).1.symm | exact (hld_no (by first | exact .inl (by omega) | exact .inr (.inl (by omega)) | exact .inr (.inr (by assumption)))).2.symm | exact (hld_err' hcn9 (hld_g (by omega) (by omega) (by assumption)) (by assumption)).2.symm | exact (hld_ok' hcn9 (hld_g (by omega) (by omega) (by assumption)) (by assumption)).2.symm))⟩
  have bd3 := hvn.bound
  refine WL.lenSl (hvn.mono hle1) ul69 rfl rfl ?_
  refine WL.gtrS (ns.length : Int) 100 rfl rfl rfl (fun h2 => ?_) (fun h2 => ?_)
  · exact RT hS1 rfl ⟨_, _, rfl, (congrArg Value.bool (by first | exact (hld_no (by first | exact .inl (by omega) | exact .inr (.inl (by omega)) | exact .inr (.inr (by assumption)))).1.symm | exact (hld_err' hcn9 (hld_g (by omega) (by omega) (by assumption)) (by assumption)).1.symm | exact (hld_ok' hcn9 (hld_g (by omega) (by omega) (by assumption)) (by assumption)).1.symm | exact (hld_no (by first | exact .inl (by omega) | exact .inr (.inl (by omega)) | exact .inr (.inr (by assumption)))).2.symm | exact (hld_err' hcn9 (hld_g (by omega) (by omega) (by assumption)) (by assumption)).2.symm | exact (hld_ok' hcn9 (hld_g (by omega) (by omega) (by assumption)) (by assumption)).2.symm)), (congrArg (Value.int .i64) (by first | exact (hld_no (by first | exact .inl (by omega) | exact .inr (.inl (by omega)) | exact .inr (.inr (by assumption)))).1.symm | exact (hld_err' hcn9 (hld_g (by omega) (by omega) (by assumption)) (by assumption)).1.symm | exact (hld_ok' hcn9 (hld_g (by omega) (by omega) (by assumption)) (by assumption)).1.symm | exact (hld_no (by first | exact .inl (by omega) | exact .inr (.inl (by omega)) | exact .inr (.inr (by assumption)))).2.symm | exact (hld_err' hcn9 (hld_g (by omega) (by omega) (by assumption)) (by assumption)).2.symm | exact (hld_ok' hcn9 (hld_g (by omega) (by omega) (by assumption)) (by assumption)).2.symm))⟩
  refine WL.cV hS1 hb93 rfl rfl rfl (c_all hS1.imm l _ (hvl.mono hle1) ) (fun w2 G2 hS2 hle2 => ?_)
  refine WL.split (fun (h3 : (l.all valB) = true) => ?_) (fun (h3 : (l.all valB) = false) => ?_)
  · have bd4 := hvn.bound
    refine WL.lenSl (hvn.mono (hle1.trans hle2)) ul69 rfl rfl ?_
    have hS4 := hS2.pad
    refine LP.go ft [] (fun m ρ1 w1 => ∃ (k1 : Nat), ∃ (v1 : Value) (o1 : OB), ∃ (G3 : GH), m = ns.length - k1 ∧ G2.le G3 ∧ St w [] G G3 [o1] w1 ∧ Row ColE 24 71 G3 v1 (colsN ns l k1) o1 ∧ FR ρ1 [(2, vl), (3, .pointer (some p1)), (8, v1), (27, vn), (28, .int .i64 (ns.length : Int)), (29, .int .i64 (k1 : Int))] ∧ k1 ≤ ns.length) _ ⟨0, (.slice none 0 0), none, G2, rfl, (G2.le_refl), hS4, (Row.cast (Row.nil ColE 24 71 G2) (by simp [colsN])), ⟨rfl, rfl, rfl, rfl, rfl, rfl, trivial⟩, (by omega)⟩ ?_
    rintro m ρ1 w3 ⟨k1, v1, o1, G3, rfl, hle3, hS3, hr1, hF9, f1⟩
    refine hF9.set ?_
    clear hF9
    have hcl8 := colsN_len ns l k1
    refine WL.lssS (k1 : Int) (ns.length : Int) rfl rfl rfl (fun h4 => ?_) (fun h4 => ?_)
    · refine WL.indexAddr (hvn.mono ((hle1.trans hle2).trans hle3)) k1 (by omega) ul69 ti9 rfl rfl rfl rfl (fun p2 x1 hx1 he1 => ?_)
      obtain ⟨cs1, hc2, hr2⟩ := he1
      obtain ⟨rfl, hb7⟩ := hr2
      refine WL.loadG1 hS3 hc2 ti9 rfl rfl rfl ?_
      refine WL.indexAddr (hvl.mono ((hle1.trans hle2).trans hle3)) k1 (by omega) ul61 ti34 rfl rfl rfl rfl (fun p3 x2 hx2 he2 => ?_)
      obtain ⟨cs2, hc3, hr3⟩ := he2
      obtain ⟨rfl, hb8, hb9, hb10⟩ := ValE_open hr3
      refine WL.loadG1 hS3 (Cells.drop 0 hc3) ti3 rfl rfl rfl ?_
      refine WL.build _ [(0, [strV x1]), (1, [.int .i64 x2.k])] [strV x1, .int .i64 x2.k] ti71 rfl fl71 rfl rfl rfl rfl ?_
      refine WL.buildSlice _ [(0, [strV x1, .int .i64 x2.k])] [strV x1, .int .i64 x2.k] hS3 sl32 rfl rfl rfl rfl (fun z hz => by match z, hz with | [z0, z1], _ => rfl) (fun b1 w4 hn1 hS5 => ?_)
      refine WL.push (m := ([(Col.mk x1 x2.k)] : List Col)) sl32 rfl rfl rfl hr1 hS5 1 rfl 0 _ _ _ _ _ rfl ⟨[strV x1, .int .i64 x2.k], _, rfl, (ColE_mk (Col.mk x1 x2.k) hb7 hb8), rfl⟩ rfl (by have hreach : reach = 140737488355328 := rfl; simp only [List.length_append, List.length_cons, List.length_nil]; omega) (by have hreach : reach = 140737488355328 := rfl; simp only [List.length_append, List.length_cons, List.length_nil]; omega) rfl rfl rfl (fun v2 o2 w5 hr4 hS6 => ?_)
      have hS7 := hS6.tail
      refine WL.incr k1 (by have hreach : reach = 140737488355328 := rfl; omega) rfl rfl rfl ?_
      exact BK.mk' _ ⟨k1 + 1, v2, o2, G3, rfl, hle3, hS7, (Row.cast hr4 (by (exact (colsN_step (by assumption) (by assumption)).symm))), ⟨rfl, rfl, rfl, rfl, rfl, rfl, trivial⟩, (by omega)⟩ (show ns.length - (k1 + 1) < ns.length - k1 by omega)
    have hcn9 : colsN ns l k1 = colsOf ns l := colsN_all (by omega)
    refine WL.loadGAt hS3 (hc1.mono (hle2.trans hle3)) [.int .i64 c.kind, strV c.col, strV c.oth, .int .i64 c.v.k, .int .i64 c.v.n, strV c.v.s, lv1] ti37 rfl rfl rfl rfl rfl ?_
    obtain ⟨G4, hle4, hs1, hS8⟩ := Row.freeze hr1 hS3 0 rfl
    refine WL.cV hS8 hb68 rfl rfl rfl (c_Check hS8.imm _ c (colsN ns l k1) _ ((CondE _).mono (((hle1.trans hle2).trans hle3).trans hle4) hcc) _ hs1 ) (fun w6 G5 hS9 hle5 => ?_)
    refine WL.neqS (checkF d c (colsN ns l k1)) 0 rfl rfl rfl (fun h5 => ?_) (fun h5 => ?_)
    · exact RT hS9 rfl ⟨_, _, rfl, (congrArg Value.bool (by first | exact (hld_no (by first | exact .inl (by omega) | exact .inr (.inl (by omega)) | exact .inr (.inr (by assumption)))).1.symm | exact (hld_err' hcn9 (hld_g (by omega) (by omega) (by assumption)) (by assumption)).1.symm | exact (hld_ok' hcn9 (hld_g (by omega) (by omega) (by assumption)) (by assumption)).1.symm | exact (hld_no (by first | exact .inl (by omega) | exact .inr (.inl (by omega)) | exact .inr (.inr (by assumption)))).2.symm | exact (hld_err' hcn9 (hld_g (by omega) (by omega) (by assumption)) (by assumption)).2.symm | exact (hld_ok' hcn9 (hld_g (by omega) (by omega) (by assumption)) (by assumption)).2.symm)), (congrArg (Value.int .i64) (by first | exact (hld_no (by first | exact .inl (by omega) | exact .inr (.inl (by omega)) | exact .inr (.inr (by assumption)))).1.symm | exact (hld_err' hcn9 (hld_g (by omega) (by omega) (by assumption)) (by assumption)).1.symm | exact (hld_ok' hcn9 (hld_g (by omega) (by omega) (by assumption)) (by assumption)).1.symm | exact (hld_no (by first | exact .inl (by omega) | exact .inr (.inl (by omega)) | exact .inr (.inr (by assumption)))).2.symm | exact (hld_err' hcn9 (hld_g (by omega) (by omega) (by assumption)) (by assumption)).2.symm | exact (hld_ok' hcn9 (hld_g (by omega) (by omega) (by assumption)) (by assumption)).2.symm))⟩
    have hwt := check_well (by assumption : checkF d c (colsN ns l k1) = 0)
    have hcl9 : l.length = (colsN ns l k1).length := by rw [hcn9, colsOf_len (by omega)]
    refine WL.loadGAt hS9 (hc1.mono (((hle2.trans hle3).trans hle4).trans hle5)) [.int .i64 c.kind, strV c.col, strV c.oth, .int .i64 c.v.k, .int .i64 c.v.n, strV c.v.s, lv1] ti37 rfl rfl rfl rfl rfl ?_
    refine WL.cV hS9 hb99 rfl rfl rfl (c_meaning _ hS9.imm c (colsN ns l k1) l _ ((CondE _).mono ((((hle1.trans hle2).trans hle3).trans hle4).trans hle5) hcc) _ (hs1.mono hle5) _ (hvl.mono ((((hle1.trans hle2).trans hle3).trans hle4).trans hle5)) hwt.1 hwt.2 hcl9) (fun w7 G6 hS10 hle6 => ?_)
    exact RT hS10 rfl ⟨_, _, rfl, (congrArg Value.bool (by first | exact (hld_no (by first | exact .inl (by omega) | exact .inr (.inl (by omega)) | exact .inr (.inr (by assumption)))).1.symm | exact (hld_err' hcn9 (hld_g (by omega) (by omega) (by assumption)) (by assumption)).1.symm | exact (hld_ok' hcn9 (hld_g (by omega) (by omega) (by assumption)) (by assumption)).1.symm | exact (hld_no (by first | exact .inl (by omega) | exact .inr (.inl (by omega)) | exact .inr (.inr (by assumption)))).2.symm | exact (hld_err' hcn9 (hld_g (by omega) (by omega) (by assumption)) (by assumption)).2.symm | exact (hld_ok' hcn9 (hld_g (by omega) (by omega) (by assumption)) (by assumption)).2.symm)), (congrArg (Value.int .i64) (by first | exact (hld_no (by first | exact .inl (by omega) | exact .inr (.inl (by omega)) | exact .inr (.inr (by assumption)))).1.symm | exact (hld_err' hcn9 (hld_g (by omega) (by omega) (by assumption)) (by assumption)).1.symm | exact (hld_ok' hcn9 (hld_g (by omega) (by omega) (by assumption)) (by assumption)).1.symm | exact (hld_no (by first | exact .inl (by omega) | exact .inr (.inl (by omega)) | exact .inr (.inr (by assumption)))).2.symm | exact (hld_err' hcn9 (hld_g (by omega) (by omega) (by assumption)) (by assumption)).2.symm | exact (hld_ok' hcn9 (hld_g (by omega) (by omega) (by assumption)) (by assumption)).2.symm))⟩
  exact RT hS2 rfl ⟨_, _, rfl, (congrArg Value.bool (by first | exact (hld_no (by first | exact .inl (by omega) | exact .inr (.inl (by omega)) | exact .inr (.inr (by assumption)))).1.symm | exact (hld_err' hcn9 (hld_g (by omega) (by omega) (by assumption)) (by assumption)).1.symm | exact (hld_ok' hcn9 (hld_g (by omega) (by omega) (by assumption)) (by assumption)).1.symm | exact (hld_no (by first | exact .inl (by omega) | exact .inr (.inl (by omega)) | exact .inr (.inr (by assumption)))).2.symm | exact (hld_err' hcn9 (hld_g (by omega) (by omega) (by assumption)) (by assumption)).2.symm | exact (hld_ok' hcn9 (hld_g (by omega) (by omega) (by assumption)) (by assumption)).2.symm)), (congrArg (Value.int .i64) (by first | exact (hld_no (by first | exact .inl (by omega) | exact .inr (.inl (by omega)) | exact .inr (.inr (by assumption)))).1.symm | exact (hld_err' hcn9 (hld_g (by omega) (by omega) (by assumption)) (by assumption)).1.symm | exact (hld_ok' hcn9 (hld_g (by omega) (by omega) (by assumption)) (by assumption)).1.symm | exact (hld_no (by first | exact .inl (by omega) | exact .inr (.inl (by omega)) | exact .inr (.inr (by assumption)))).2.symm | exact (hld_err' hcn9 (hld_g (by omega) (by omega) (by assumption)) (by assumption)).2.symm | exact (hld_ok' hcn9 (hld_g (by omega) (by omega) (by assumption)) (by assumption)).2.symm))⟩
end Go.Civ
