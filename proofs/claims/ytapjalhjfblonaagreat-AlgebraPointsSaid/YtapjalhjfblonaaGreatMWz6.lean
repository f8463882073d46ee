/- Walks, printed by specs38.py. -/
import Derived.Test.YtapjalhjfblonaaGreatProg
import Derived.KernelRfl
import Derived.WalkKit
import Derived.Test.YtapjalhjfblonaaGreatMWz5
import Derived.Test.YtapjalhjfblonaaGreatMWi
import Derived.Test.YtapjalhjfblonaaGreatMWd
set_option linter.unusedVariables false
set_option linter.unusedSimpArgs false
set_option maxRecDepth 100000
set_option maxHeartbeats 4000000
namespace Go.Civ
open Go.Proofs


theorem c_EqualVC {G : GH} {w : World} (hG : G.In w) (a : List Val) (b : List Col) (pf : Val → Col → Bool) (va : Value) (hva : Sl ValE 32 G va a) (vb : Value) (hvb : Sl ColE 24 G vb b) (fid : Nat) (fcap : Array Value) (hf : FnB2 Tryz.prog (Is ValE) (Is ColE) fid fcap G (fun x y => x ∈ a ∧ y ∈ b) pf)  : CL Tryz.prog (nat_lit 66) #[va, vb, .func (.func fid) #[] fcap] [] w G fun _ _ r => r = .bool (eqF pf a b) := by
  refine calls_of_go ft [] Tryz.func66 rfl rfl ?_
  have hS := St.start (X := []) hG
  have bd1 := hva.bound
  refine WL.lenSl hva ul61 rfl rfl ?_
  have bd2 := hvb.bound
  refine WL.lenSl hvb ul32 rfl rfl ?_
  refine WL.neqS (a.length : Int) (b.length : Int) rfl rfl rfl (fun h1 => ?_) (fun h1 => ?_)
  · exact RB hS rfl (by exact (eqF_len (by omega)).symm)
  have bd3 := hva.bound
  refine WL.lenSl hva ul61 rfl rfl ?_
  refine LP.go ft [] (fun m ρ1 w1 => ∃ (k1 : Nat), ∃ (G1 : GH), m = a.length - k1 ∧ G.le G1 ∧ St w [] G G1 [] w1 ∧ FR ρ1 [(1, vb), (2, .func (.func fid) #[] fcap), (15, va), (16, .int .i64 (a.length : Int)), (17, .int .i64 (k1 : Int))] ∧ k1 ≤ a.length ∧ ∀ j, j < k1 → ∀ x y, a[j]? = some x → b[j]? = some y → pf x y = true) _ ⟨0, G, rfl, (G.le_refl), hS, ⟨rfl, rfl, rfl, rfl, rfl, trivial⟩, (by omega), (by intro j hj; omega)⟩ ?_
  rintro m ρ1 w1 ⟨k1, G1, rfl, hle1, hS1, hF9, f1, f2⟩
  refine hF9.set ?_
  clear hF9
  refine WL.lssS (k1 : Int) (a.length : Int) rfl rfl rfl (fun h2 => ?_) (fun h2 => ?_)
  · refine WL.indexAddr (hva.mono hle1) k1 (by omega) ul61 ti34 rfl rfl rfl rfl (fun p1 x1 hx1 he1 => ?_)
    obtain ⟨cs1, hc1, hr1⟩ := he1
    obtain ⟨rfl, hb1, hb2, hb3⟩ := ValE_open hr1
    refine WL.loadGAt hS1 hc1 [.int .i64 x1.k, .int .i64 x1.n, strV x1.s] ti34 rfl rfl rfl rfl rfl ?_
    refine WL.alloc hS1 ti34 rfl rfl (fun b1 w2 hn1 hS2 => ?_)
    refine WL.store hS2 0 _ _ _ 0 _ [.int .i64 x1.k, .int .i64 x1.n, strV x1.s] [.int .i64 x1.k, .int .i64 x1.n, strV x1.s] _ rfl rfl ti34 rfl (Nat.le_of_ble_eq_true rfl) rfl rfl rfl rfl rfl rfl (fun w3 hS3 => ?_)
    obtain ⟨G2, hle2, hc2, hS4⟩ := hS3.shutB hn1
    refine WL.indexAddr (hvb.mono (hle1.trans hle2)) k1 (by omega) ul32 ti71 rfl rfl rfl rfl (fun p2 x2 hx2 he2 => ?_)
    obtain ⟨cs2, hc3, hr2⟩ := he2
    obtain ⟨rfl, hb4, hb5⟩ := ColE_open hr2
    refine WL.loadGAt hS4 hc3 [strV x2.name, .int .i64 x2.kind] ti71 rfl rfl rfl rfl rfl ?_
    refine WL.alloc hS4 ti71 rfl rfl (fun b2 w4 hn2 hS5 => ?_)
    refine WL.store hS5 0 _ _ _ 0 _ [strV x2.name, .int .i64 x2.kind] [strV x2.name, .int .i64 x2.kind] _ rfl rfl ti71 rfl (Nat.le_of_ble_eq_true rfl) rfl rfl rfl rfl rfl rfl (fun w5 hS6 => ?_)
    obtain ⟨G3, hle3, hc4, hS7⟩ := hS6.shutB hn2
    refine WL.loadGAt hS7 (hc2.mono hle3) [.int .i64 x1.k, .int .i64 x1.n, strV x1.s] ti34 rfl rfl rfl rfl rfl ?_
    refine WL.loadGAt hS7 hc4 [strV x2.name, .int .i64 x2.kind] ti71 rfl rfl rfl rfl rfl ?_
    refine WL.cV hS7 hf.body rfl rfl rfl (hf.call _ _ (.agg #[.int .i64 x1.k, .int .i64 x1.n, strV x1.s]) (.agg #[strV x2.name, .int .i64 x2.kind]) x1 x2 ((hle1.trans hle2).trans hle3) hS7.imm ⟨(List.mem_of_getElem? hx1), (List.mem_of_getElem? hx2)⟩ ⟨_, rfl, (ValE_mk x1 hb1 hb2 hb3)⟩ ⟨_, rfl, (ColE_mk x2 hb4 hb5)⟩) (fun w6 G4 hS8 hle4 => ?_)
    refine WL.split (fun (h3 : (pf x1 x2) = true) => ?_) (fun (h3 : (pf x1 x2) = false) => ?_)
    · refine WL.incr k1 (by have hreach : reach = 140737488355328 := rfl; omega) rfl rfl rfl ?_
      exact BK.mk' _ ⟨k1 + 1, G4, rfl, (hle1.trans ((hle2.trans hle3).trans hle4)), hS8, ⟨rfl, rfl, rfl, rfl, rfl, trivial⟩, (by omega), (by exact lt_step2 (by assumption) (by assumption) (by assumption) (by simp_all))⟩ (show a.length - (k1 + 1) < a.length - k1 by omega)
    exact RB hS8 rfl (by exact (eqF_no (by assumption) (by assumption) (by simp_all)).symm)
  exact RB hS1 rfl (by exact (eqF_yes (by omega) (by assumption) (by omega)).symm)

theorem c_sel1 {G : GH} {w : World} (hG : G.In w) (x : Val) (y : Col) (cx : List Value) (hcx : ValE.rep G x cx) (cy : List Value) (hcy : ColE.rep G y cy)  : CL Tryz.prog (nat_lit 67) #[.agg cx.toArray, .agg cy.toArray] [] w G fun _ _ r => r = .bool (decide (x.k = y.kind)) := by
  refine calls_of_go ft [] Tryz.func67 rfl rfl ?_
  have hS := St.start (X := []) hG
  obtain ⟨rfl, hb1, hb2, hb3⟩ := ValE_open hcx
  obtain ⟨rfl, hb4, hb5⟩ := ColE_open hcy
  refine WL.boxG [.int .i64 x.k, .int .i64 x.n, strV x.s] _ hS rfl rfl rfl (fun p1 w1 G1 hle1 hsp1 hc1 hS1 => ?_)
  refine WL.boxG [strV y.name, .int .i64 y.kind] _ hS1 rfl rfl rfl (fun p2 w2 G2 hle2 hsp2 hc2 hS2 => ?_)
  refine WL.loadG1 hS2 (Cells.drop 0 (hc1.mono hle2)) ti3 rfl rfl rfl ?_
  refine WL.loadG1 hS2 (Cells.drop 1 hc2) ti3 rfl rfl rfl ?_
  refine WL.cmp .eql rfl .i64 x.k y.kind rfl rfl rfl ?_
  exact RB hS2 rfl (by rfl)

theorem c_Select {G : GH} {w : World} (hG : G.In w) (d : Nat) (l : List Fact) (cs : List Col) (c : Cond) (vl : Value) (hvl : Sl FactE 40 G vl l) (vs : Value) (hvs : Sl ColE 24 G vs cs) (cc : List Value) (hcc : (CondE d).rep G c cc)  : CL Tryz.prog (nat_lit 17) #[vl, vs, .agg cc.toArray] [] w G fun G' _ r => ∃ r0 r1, r = .tuple #[r0, r1] ∧ Sl FactE 40 G' r0 (selL d c cs l) ∧ r1 = .int .i64 (selE d c cs l) := by
  refine calls_of_go ft [3] Tryz.func17 rfl rfl ?_
  have hS := St.start (X := []) hG
  obtain ⟨lv1, rfl, hb1, hb2, hb3, hb4, hb5, hb6, ho1⟩ := CondE_open hcc
  refine WL.boxG [.int .i64 c.kind, strV c.col, strV c.oth, .int .i64 c.v.k, .int .i64 c.v.n, strV c.v.s, lv1] _ hS rfl rfl rfl (fun p1 w1 G1 hle1 hsp1 hc1 hS1 => ?_)
  refine JN.go ft [3] (fun ρ1 w1 => ∃ (G2 : GH), G1.le G2 ∧ St w [] G G2 [] w1 ∧ FR ρ1 [(0, vl), (1, vs), (5, .pointer (some p1))] ∧ selOk l cs = true) ?_ ?_
  · refine WL.cV hS1 hb57 rfl rfl rfl (c_valid hS1.imm l _ (hvl.mono hle1) ) (fun w3 G3 hS3 hle3 => ?_)
    refine WL.split (fun (h1 : (validB l) = true) => ?_) (fun (h1 : (validB l) = false) => ?_)
    · have bd1 := hvs.bound
      refine WL.lenSl (hvs.mono (hle1.trans hle3)) ul32 rfl rfl ?_
      refine WL.gtrS (cs.length : Int) 8 rfl rfl rfl (fun h2 => ?_) (fun h2 => ?_)
      · exact RT hS3 rfl ⟨_, _, rfl, (Sl.cast (Sl.nil FactE 40 G3) (by exact (sel_no (selOk_no (by first | exact .inl (by assumption) | exact .inr (.inl (by omega)) | exact .inr (.inr ⟨by omega, (kinds_head (by assumption) (by assumption))⟩)))).1.symm)), (congrArg (Value.int .i64) (by exact (sel_no (selOk_no (by first | exact .inl (by assumption) | exact .inr (.inl (by omega)) | exact .inr (.inr ⟨by omega, (kinds_head (by assumption) (by assumption))⟩)))).2.symm))⟩
      have bd2 := hvl.bound
      refine WL.lenSl (hvl.mono (hle1.trans hle3)) ul22 rfl rfl ?_
      refine WL.gtrS (l.length : Int) 0 rfl rfl rfl (fun h3 => ?_) (fun h3 => ?_)
      · refine WL.indexAddr (hvl.mono (hle1.trans hle3)) 0 (by omega) ul22 ti63 rfl rfl rfl rfl (fun p2 x1 hx1 he1 => ?_)
        obtain ⟨cs1, hc2, hr1⟩ := he1
        obtain ⟨v1, rfl, hs1, hb7, hb8⟩ := FactE_open hr1
        refine WL.loadG1 hS3 (Cells.drop 0 hc2) ti61 rfl rfl rfl ?_
        refine WL.cV hS3 hb66 rfl rfl rfl (c_EqualVC hS3.imm x1.v cs (fun x8 y8 => decide (x8.k = y8.kind)) _ hs1 _ (hvs.mono (hle1.trans hle3)) 67 #[] ⟨hb67, fun G8 w8 v8 u8 x8 y8 hle8 hG8 hon8 hA8 hB8 => by obtain ⟨cs_x8, rfl, hr_x8⟩ := hA8; obtain ⟨cs_y8, rfl, hr_y8⟩ := hB8; exact c_sel1 hG8 x8 y8 cs_x8 hr_x8 cs_y8 hr_y8 ⟩ ) (fun w4 G4 hS4 hle4 => ?_)
        refine WL.split (fun (h4 : (eqF (fun x8 y8 => decide (x8.k = y8.kind)) x1.v cs) = true) => ?_) (fun (h4 : (eqF (fun x8 y8 => decide (x8.k = y8.kind)) x1.v cs) = false) => ?_)
        · exact ⟨G4, (hle3.trans hle4), hS4, ⟨rfl, rfl, rfl, trivial⟩, (by exact selOk_yes h1 (by omega) (.inr (kinds_head (by assumption) (by assumption))))⟩
        exact RT hS4 rfl ⟨_, _, rfl, (Sl.cast (Sl.nil FactE 40 G4) (by exact (sel_no (selOk_no (by first | exact .inl (by assumption) | exact .inr (.inl (by omega)) | exact .inr (.inr ⟨by omega, (kinds_head (by assumption) (by assumption))⟩)))).1.symm)), (congrArg (Value.int .i64) (by exact (sel_no (selOk_no (by first | exact .inl (by assumption) | exact .inr (.inl (by omega)) | exact .inr (.inr ⟨by omega, (kinds_head (by assumption) (by assumption))⟩)))).2.symm))⟩
      exact ⟨G3, hle3, hS3, ⟨rfl, rfl, rfl, trivial⟩, (by exact selOk_yes h1 (by omega) (.inl (by omega)))⟩
    exact RT hS3 rfl ⟨_, _, rfl, (Sl.cast (Sl.nil FactE 40 G3) (by exact (sel_no (selOk_no (by first | exact .inl (by assumption) | exact .inr (.inl (by omega)) | exact .inr (.inr ⟨by omega, (kinds_head (by assumption) (by assumption))⟩)))).1.symm)), (congrArg (Value.int .i64) (by exact (sel_no (selOk_no (by first | exact .inl (by assumption) | exact .inr (.inl (by omega)) | exact .inr (.inr ⟨by omega, (kinds_head (by assumption) (by assumption))⟩)))).2.symm))⟩
  rintro ρ1 w2 ⟨G2, hle2, hS2, hF9, f1⟩
  refine hF9.set ?_
  have hok := (by assumption : selOk l cs = true)
  have h1 := (selOk_v hok).1
  have hll9 := valid_le h1
  have h89 := (selOk_v hok).2
  refine WL.loadGAt hS2 (hc1.mono hle2) [.int .i64 c.kind, strV c.col, strV c.oth, .int .i64 c.v.k, .int .i64 c.v.n, strV c.v.s, lv1] ti37 rfl rfl rfl rfl rfl ?_
  refine WL.cV hS2 hb68 rfl rfl rfl (c_Check hS2.imm _ c cs _ ((CondE _).mono (hle1.trans hle2) hcc) _ (hvs.mono (hle1.trans hle2)) ) (fun w5 G5 hS5 hle5 => ?_)
  refine WL.neqS (checkF d c cs) 0 rfl rfl rfl (fun h5 => ?_) (fun h5 => ?_)
  · exact RT hS5 rfl ⟨_, _, rfl, (Sl.cast (Sl.nil FactE 40 G5) (by exact (sel_err hok (by assumption)).1.symm)), (congrArg (Value.int .i64) (by exact (sel_err hok (by assumption)).2.symm))⟩
  have hck : checkF d c cs = 0 := by assumption
  have bd3 := hvs.bound
  refine WL.lenSl (hvs.mono ((hle1.trans hle2).trans hle5)) ul32 rfl rfl ?_
  have hS7 := hS5.pad
  refine LP.go ft [3] (fun m ρ1 w1 => ∃ (k1 : Nat), ∃ (v2 : Value) (o1 : OB), ∃ (G6 : GH), m = cs.length - k1 ∧ G5.le G6 ∧ St w [] G G6 [o1] w1 ∧ Row Enc.str 16 9 G6 v2 ((cs.take k1).map Col.name) o1 ∧ FR ρ1 [(0, vl), (5, .pointer (some p1)), (9, v2), (45, vs), (46, .int .i64 (cs.length : Int)), (47, .int .i64 (k1 : Int))] ∧ k1 ≤ cs.length) _ ⟨0, (.slice none 0 0), none, G5, rfl, (G5.le_refl), hS7, (Row.cast (Row.nil Enc.str 16 9 G5) (by simp)), ⟨rfl, rfl, rfl, rfl, rfl, rfl, trivial⟩, (by omega)⟩ ?_
  rintro m ρ1 w6 ⟨k1, v2, o1, G6, rfl, hle6, hS6, hr2, hF9, f2⟩
  refine hF9.set ?_
  clear hF9
  have htk := List.length_take_le k1 cs
  refine WL.lssS (k1 : Int) (cs.length : Int) rfl rfl rfl (fun h6 => ?_) (fun h6 => ?_)
  · refine WL.indexAddr (hvs.mono (((hle1.trans hle2).trans hle5).trans hle6)) k1 (by omega) ul32 ti71 rfl rfl rfl rfl (fun p3 x2 hx2 he2 => ?_)
    obtain ⟨cs2, hc3, hr3⟩ := he2
    obtain ⟨rfl, hb9, hb10⟩ := ColE_open hr3
    refine WL.loadGAt hS6 hc3 [strV x2.name, .int .i64 x2.kind] ti71 rfl rfl rfl rfl rfl ?_
    refine WL.alloc hS6 ti71 rfl rfl (fun b1 w7 hn1 hS8 => ?_)
    refine WL.store hS8 0 _ _ _ 0 _ [strV x2.name, .int .i64 x2.kind] [strV x2.name, .int .i64 x2.kind] _ rfl rfl ti71 rfl (Nat.le_of_ble_eq_true rfl) rfl rfl rfl rfl rfl rfl (fun w8 hS9 => ?_)
    obtain ⟨G7, hle7, hc4, hS10⟩ := hS9.shutB hn1
    refine WL.loadG1 hS10 (Cells.drop 0 hc4) ti9 rfl rfl rfl ?_
    refine WL.buildSlice _ [(0, [strV x2.name])] [strV x2.name] hS10 sl69 rfl rfl rfl rfl (fun z hz => by match z, hz with | [z0], _ => rfl) (fun b2 w9 hn2 hS11 => ?_)
    refine WL.push (m := ([x2.name] : List (List UInt8))) sl69 rfl rfl rfl (hr2.mono hle7) hS11 1 rfl 0 _ _ _ _ _ rfl ⟨[strV x2.name], _, rfl, ⟨rfl, hb9⟩, rfl⟩ rfl (by have hreach : reach = 140737488355328 := rfl; simp only [List.length_append, List.length_cons, List.length_nil, List.length_map]; omega) (by have hreach : reach = 140737488355328 := rfl; simp only [List.length_append, List.length_cons, List.length_nil, List.length_map]; omega) rfl rfl rfl (fun v3 o2 w10 hr4 hS12 => ?_)
    have hS13 := hS12.tail
    refine WL.incr k1 (by have hreach : reach = 140737488355328 := rfl; omega) rfl rfl rfl ?_
    exact BK.mk' _ ⟨k1 + 1, v3, o2, G7, rfl, (hle6.trans hle7), hS13, (Row.cast hr4 (by (rw [List.take_add_one, (by assumption : cs[k1]? = some _)]; simp))), ⟨rfl, rfl, rfl, rfl, rfl, rfl, trivial⟩, (by omega)⟩ (show cs.length - (k1 + 1) < cs.length - k1 by omega)
  obtain ⟨G8, hle8, hs2, hS14⟩ := Row.freeze hr2 hS6 0 rfl
  have hnm : (cs.take k1).map Col.name = cs.map Col.name := by rw [List.take_of_length_le (by omega)]
  have bd4 := hvl.bound
  refine WL.lenSl (hvl.mono ((((hle1.trans hle2).trans hle5).trans hle6).trans hle8)) ul22 rfl rfl ?_
  have hS16 := hS14.pad
  refine LP.go ft [3] (fun m ρ1 w1 => ∃ (k2 : Nat), ∃ (v4 : Value) (o3 : OB), ∃ (G9 : GH), m = l.length - k2 ∧ G8.le G9 ∧ St w [] G G9 [o3, none] w1 ∧ Row FactE 40 63 G9 v4 (selF d c cs (l.take k2)) o3 ∧ FR ρ1 [(5, .pointer (some p1)), (9, v2), (12, v4), (57, vl), (58, .int .i64 (l.length : Int)), (59, .int .i64 (k2 : Int))] ∧ k2 ≤ l.length) _ ⟨0, (.slice none 0 0), none, G8, rfl, (G8.le_refl), hS16, (Row.cast (Row.nil FactE 40 63 G8) (by simp [selF])), ⟨rfl, rfl, rfl, rfl, rfl, rfl, trivial⟩, (by omega)⟩ ?_
  rintro m ρ1 w11 ⟨k2, v4, o3, G9, rfl, hle9, hS15, hr5, hF9, f3⟩
  refine hF9.set ?_
  clear hF9
  have hsf := selF_takeLen (d := d) (c := c) (cs := cs) (l := l) (k := k2)
  refine WL.lssS (k2 : Int) (l.length : Int) rfl rfl rfl (fun h7 => ?_) (fun h7 => ?_)
  · refine WL.indexAddr (hvl.mono (((((hle1.trans hle2).trans hle5).trans hle6).trans hle8).trans hle9)) k2 (by omega) ul22 ti63 rfl rfl rfl rfl (fun p4 x3 hx3 he3 => ?_)
    obtain ⟨cs3, hc5, hr6⟩ := he3
    obtain ⟨v5, rfl, hs3, hb11, hb12⟩ := FactE_open hr6
    refine WL.loadGAt hS15 hc5 [v5, .int .i64 x3.t.a, .int .i64 x3.t.b] ti63 rfl rfl rfl rfl rfl ?_
    refine WL.alloc hS15 ti63 rfl rfl (fun b3 w12 hn3 hS17 => ?_)
    refine WL.store hS17 0 _ _ _ 0 _ [v5, .int .i64 x3.t.a, .int .i64 x3.t.b] [v5, .int .i64 x3.t.a, .int .i64 x3.t.b] _ rfl rfl ti63 rfl (Nat.le_of_ble_eq_true rfl) (by simp only [List.all_cons, List.all_nil, hs3.oneC, Bool.true_and] <;> rfl) rfl rfl rfl rfl rfl (fun w13 hS18 => ?_)
    obtain ⟨G10, hle10, hc6, hS19⟩ := hS18.shutB hn3
    refine WL.loadGAt hS19 (hc1.mono (((((hle2.trans hle5).trans hle6).trans hle8).trans hle9).trans hle10)) [.int .i64 c.kind, strV c.col, strV c.oth, .int .i64 c.v.k, .int .i64 c.v.n, strV c.v.s, lv1] ti37 rfl rfl rfl rfl rfl ?_
    refine WL.loadG1 hS19 (Cells.drop 0 hc6) ti61 rfl rfl rfl ?_
    refine WL.cA hS19 hb39 rfl rfl rfl (c_vHolds hS19.imm _ c ((cs.take k1).map Col.name) x3.v _ ((CondE _).mono ((((((hle1.trans hle2).trans hle5).trans hle6).trans hle8).trans hle9).trans hle10) hcc) _ (hs2.mono (hle9.trans hle10)) _ (hs3.mono hle10) ) ?_
    rintro w14 G11 _ ⟨_, _, rfl, rfl, rfl⟩ hS20 hle11
    refine splitB (fun (h8 : (hldB d c ((cs.take k1).map Col.name) x3.v) = true) => ?_) (fun (h8 : (hldB d c ((cs.take k1).map Col.name) x3.v) = false) => ?_)
    · refine set1 (d := 68) (congrArg (fun b9 => Value.tuple #[.bool b9, .int .i64 (hldE d c ((cs.take k1).map Col.name) x3.v)]) h8) ?_
      refine WL.loadGAt hS20 (hc6.mono hle11) [v5, .int .i64 x3.t.a, .int .i64 x3.t.b] ti63 rfl rfl rfl rfl rfl ?_
      refine WL.buildSlice _ [(0, [v5, .int .i64 x3.t.a, .int .i64 x3.t.b])] [v5, .int .i64 x3.t.a, .int .i64 x3.t.b] hS20 sl22 rfl rfl rfl rfl (fun z hz => by match z, hz with | [z0, z1, z2], _ => rfl) (fun b4 w15 hn4 hS21 => ?_)
      refine WL.push (m := ([x3] : List Fact)) sl22 rfl rfl rfl (hr5.mono (hle10.trans hle11)) hS21 1 rfl 0 _ _ _ _ _ rfl ⟨[v5, .int .i64 x3.t.a, .int .i64 x3.t.b], _, rfl, (FactE_mk x3 (hs3.mono (hle10.trans hle11)) hb11 hb12), rfl⟩ rfl (by have hreach : reach = 140737488355328 := rfl; simp only [List.length_append, List.length_cons, List.length_nil, List.length_map]; omega) (by have hreach : reach = 140737488355328 := rfl; simp only [List.length_append, List.length_cons, List.length_nil, List.length_map]; omega) rfl rfl rfl (fun v6 o4 w16 hr7 hS22 => ?_)
      have hS23 := hS22.tail
      refine WL.incr k2 (by have hreach : reach = 140737488355328 := rfl; omega) rfl rfl rfl ?_
      exact BK.mk' _ ⟨k2 + 1, v6, o4, G11, rfl, (hle9.trans (hle10.trans hle11)), hS23, (Row.cast hr7 (by (exact (selF_yes' hok hck hnm (by assumption) (by assumption)).symm))), ⟨rfl, rfl, rfl, rfl, rfl, rfl, trivial⟩, (by omega)⟩ (show l.length - (k2 + 1) < l.length - k2 by omega)
    refine set1 (d := 68) (congrArg (fun b9 => Value.tuple #[.bool b9, .int .i64 (hldE d c ((cs.take k1).map Col.name) x3.v)]) h8) ?_
    refine WL.incr k2 (by have hreach : reach = 140737488355328 := rfl; omega) rfl rfl rfl ?_
    exact BK.mk' _ ⟨k2 + 1, v4, o3, G11, rfl, (hle9.trans (hle10.trans hle11)), hS20, (Row.cast (hr5.mono (hle10.trans hle11)) (by (exact (selF_no' hok hck hnm (by assumption) (by assumption)).symm))), ⟨rfl, rfl, rfl, rfl, rfl, rfl, trivial⟩, (by omega)⟩ (show l.length - (k2 + 1) < l.length - k2 by omega)
  obtain ⟨G12, hle12, hs4, hS24⟩ := Row.freeze hr5 hS15 0 rfl
  refine WL.cA hS24 hb61 rfl rfl rfl (c_finished hS24.imm (selF d c cs (l.take k2)) _ hs4 (by rw [selF_all (by omega)]; exact selF_good (good_of_valid h1)) (by omega)) ?_
  rintro w17 G13 _ ⟨r5, _, rfl, hs5, rfl⟩ hS25 hle13
  exact RT hS25 rfl ⟨_, _, rfl, (Sl.cast hs5 (by (rw [selF_all (by omega)]; exact (sel_ok hok hck).1.symm))), (congrArg (Value.int .i64) (by (rw [selF_all (by omega)]; exact (sel_ok hok hck).2.symm)))⟩
end Go.Civ
