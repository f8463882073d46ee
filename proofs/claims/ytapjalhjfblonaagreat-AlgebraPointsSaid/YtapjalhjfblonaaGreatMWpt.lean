/- Walks, printed by specs38.py. -/
import Derived.Test.YtapjalhjfblonaaGreatProg
import Derived.KernelRfl
import Derived.WalkKit
import Derived.Test.YtapjalhjfblonaaGreatMWz6
import Derived.Test.YtapjalhjfblonaaGreatMWq
import Derived.Test.YtapjalhjfblonaaGreatMWz8
import Derived.Test.YtapjalhjfblonaaGreatMWo
import Derived.Test.YtapjalhjfblonaaGreatMWk
import Derived.Test.YtapjalhjfblonaaGreatMCiv39
set_option linter.unusedVariables false
set_option linter.unusedSimpArgs false
set_option maxRecDepth 100000
set_option maxHeartbeats 4000000
namespace Go.Civ
open Go.Proofs


theorem c_ConcatVV {G : GH} {w : World} (hG : G.In w) (l : List (List (List Val))) (vl : Value) (hvl : Sl ((ValE.slice 32).slice 24) 24 G vl l) (hl : l.flatten.length ≤ 1000000) : CL Tryz.prog (nat_lit 37) #[vl] [] w G fun G' _ r => Sl (ValE.slice 32) 24 G' r l.flatten := by
  refine calls_of_go ft [] Tryz.func37 rfl rfl ?_
  have hS := St.start (X := []) hG
  have bd1 := hvl.bound
  refine WL.lenSl hvl ul133 rfl rfl ?_
  refine LP.go ft [] (fun m ρ1 w1 => ∃ (k1 : Nat), ∃ (sz : Nat), ∃ (G1 : GH), m = l.length - k1 ∧ G.le G1 ∧ St w [] G G1 [] w1 ∧ FR ρ1 [(0, vl), (3, .int .i64 (sz : Int)), (9, vl), (10, .int .i64 (l.length : Int)), (11, .int .i64 (k1 : Int))] ∧ k1 ≤ l.length ∧ sz = (l.take k1).flatten.length) _ ⟨0, 0, G, rfl, (G.le_refl), hS, ⟨rfl, rfl, rfl, rfl, rfl, trivial⟩, (by omega), (by simp)⟩ ?_
  rintro m ρ1 w1 ⟨k1, sz, G1, rfl, hle1, hS1, hF9, f1, f2⟩
  refine hF9.set ?_
  clear hF9
  have hf9 := flat_le l k1
  refine WL.lssS (k1 : Int) (l.length : Int) rfl rfl rfl (fun h1 => ?_) (fun h1 => ?_)
  · refine WL.indexAddr (hvl.mono hle1) k1 (by omega) ul133 ti67 rfl rfl rfl rfl (fun p1 x1 hx1 he1 => ?_)
    obtain ⟨cs1, hc1, hr1⟩ := he1
    obtain ⟨v1, rfl, hs1⟩ := hr1
    refine WL.loadG1 hS1 hc1 ti67 rfl rfl rfl ?_
    have bd2 := hs1.bound
    refine WL.lenSl hs1 ul67 rfl rfl ?_
    refine WL.addN sz x1.length (by have hreach : reach = 140737488355328 := rfl; omega) rfl rfl rfl ?_
    refine WL.lssS ((sz + x1.length : Nat) : Int) 0 rfl rfl rfl (fun h2 => ?_) (fun h2 => ?_)
    · exact absurd h2 (by omega)
    refine WL.incr k1 (by have hreach : reach = 140737488355328 := rfl; omega) rfl rfl rfl ?_
    exact BK.mk' _ ⟨k1 + 1, sz + x1.length, G1, rfl, hle1, hS1, ⟨rfl, rfl, rfl, rfl, rfl, trivial⟩, (by omega), (by rw [flat_take (by assumption), List.length_append]; omega)⟩ (show l.length - (k1 + 1) < l.length - k1 by omega)
  refine WL.cR hb97 rfl rfl rfl (c_GrowVV hS1.imm sz  (by omega)) (fun w2 G2 r1 hres1 hpost1 => ?_)
  have hS2 := hS1.call hres1
  have hle2 := hres1.le
  obtain ⟨o1, hr2, hf1⟩ := hpost1
  have hS3 := hS1.adoptO hres1 hf1
  have bd3 := hvl.bound
  refine WL.lenSl (hvl.mono (hle1.trans hle2)) ul133 rfl rfl ?_
  refine LP.go ft [] (fun m ρ1 w1 => ∃ (k2 : Nat), ∃ (v2 : Value) (o2 : OB), ∃ (G3 : GH), m = l.length - k2 ∧ G2.le G3 ∧ St w [] G G3 [o2] w1 ∧ Row (ValE.slice 32) 24 61 G3 v2 ((l.take k2).flatten) o2 ∧ FR ρ1 [(6, v2), (25, vl), (26, .int .i64 (l.length : Int)), (27, .int .i64 (k2 : Int))] ∧ k2 ≤ l.length) _ ⟨0, r1, o1, G2, rfl, (G2.le_refl), hS3, (Row.cast hr2 (by simp)), ⟨rfl, rfl, rfl, rfl, trivial⟩, (by omega)⟩ ?_
  rintro m ρ1 w3 ⟨k2, v2, o2, G3, rfl, hle3, hS4, hr3, hF9, f3⟩
  refine hF9.set ?_
  clear hF9
  have hf8 := flat_le l k2
  refine WL.lssS (k2 : Int) (l.length : Int) rfl rfl rfl (fun h3 => ?_) (fun h3 => ?_)
  · refine WL.indexAddr (hvl.mono ((hle1.trans hle2).trans hle3)) k2 (by omega) ul133 ti67 rfl rfl rfl rfl (fun p2 x2 hx2 he2 => ?_)
    obtain ⟨cs2, hc2, hr4⟩ := he2
    obtain ⟨v3, rfl, hs2⟩ := hr4
    refine WL.loadG1 hS4 hc2 ti67 rfl rfl rfl ?_
    refine WL.pushSl sl67 rfl rfl rfl hr3 hS4 0 rfl hs2 (by have hf7 := flat_le l (k2 + 1); rw [flat_take (by assumption), List.length_append] at hf7; have hreach : reach = 140737488355328 := rfl; (dsimp only; omega)) (by have hf7 := flat_le l (k2 + 1); rw [flat_take (by assumption), List.length_append] at hf7; have hreach : reach = 140737488355328 := rfl; omega) rfl rfl rfl (fun v4 o3 w4 hr5 hS5 => ?_)
    refine WL.incr k2 (by have hreach : reach = 140737488355328 := rfl; omega) rfl rfl rfl ?_
    exact BK.mk' _ ⟨k2 + 1, v4, o3, G3, rfl, hle3, hS5, (Row.cast hr5 (by exact (flat_take (by assumption)).symm)), ⟨rfl, rfl, rfl, rfl, trivial⟩, (by omega)⟩ (show l.length - (k2 + 1) < l.length - k2 by omega)
  obtain ⟨G4, hle4, hs3, hS6⟩ := Row.freeze hr3 hS4 0 rfl
  exact RT hS6 rfl (Sl.cast hs3 (by exact flat_all (by omega)))

theorem c_hasB1 {G : GH} {w : World} (hG : G.In w) (x v : List Val) (vx : Value) (hvx : Sl ValE 32 G vx x) (vv : Value) (hvv : Sl ValE 32 G vv v) (pv : Addr) (hpv : Cells G pv [vv])  : CL Tryz.prog (nat_lit 98) #[vx, .pointer (some pv)] [] w G fun _ _ r => r = .bool (decide (x = v)) := by
  refine calls_of_go ft [] Tryz.func98 rfl rfl ?_
  have hS := St.start (X := []) hG
  refine WL.loadG1 hS hpv ti61 rfl rfl rfl ?_
  refine WL.cV hS hb88 rfl rfl rfl (c_Same hS.imm x v _ hvx _ hvv ) (fun w1 G1 hS1 hle1 => ?_)
  exact RB hS1 rfl (by rfl)

theorem c_hasB {G : GH} {w : World} (hG : G.In w) (l : List (List Val)) (v : List Val) (vl : Value) (hvl : Sl (ValE.slice 32) 24 G vl l) (vv : Value) (hvv : Sl ValE 32 G vv v)  : CL Tryz.prog (nat_lit 38) #[vl, vv] [] w G fun _ _ r => r = .bool (hasB l v) := by
  refine calls_of_go ft [] Tryz.func38 rfl rfl ?_
  have hS := St.start (X := []) hG
  refine WL.boxG [vv] _ hS rfl rfl hvv.cells1 (fun p1 w1 G1 hle1 hsp1 hc1 hS1 => ?_)
  refine WL.cV hS1 hb40 rfl rfl rfl (c_ContainsVV hS1.imm l (fun x8 => decide (x8 = v)) _ (hvl.mono hle1) 98 #[.pointer (some p1)] ⟨hb98, fun G8 w8 v8 x8 hle8 hG8 hon8 hA8 => by exact c_hasB1 hG8 x8 v v8 hA8 vv ((hvv.mono hle1).mono hle8) p1 (hc1.mono hle8) ⟩ ) (fun w2 G2 hS2 hle2 => ?_)
  exact RB hS2 rfl (by rfl)

theorem c_pt1 {G : GH} {w : World} (hG : G.In w) (v : List Val) (x y : List (List Val)) (vv : Value) (hvv : Sl ValE 32 G vv v) (vx : Value) (hvx : Sl (ValE.slice 32) 24 G vx x) (px : Addr) (hpx : Cells G px [vx]) (vy : Value) (hvy : Sl (ValE.slice 32) 24 G vy y) (py : Addr) (hpy : Cells G py [vy])  : CL Tryz.prog (nat_lit 41) #[vv, .pointer (some px), .pointer (some py)] [] w G fun _ _ r => r = .bool (!hasB x v && !hasB y v) := by
  refine calls_of_go ft [] Tryz.func41 rfl rfl ?_
  have hS := St.start (X := []) hG
  refine WL.loadG1 hS hpx ti67 rfl rfl rfl ?_
  refine WL.cV hS hb38 rfl rfl rfl (c_hasB hS.imm x v _ hvx _ hvv ) (fun w1 G1 hS1 hle1 => ?_)
  refine WL.split (fun (h1 : (hasB x v) = true) => ?_) (fun (h1 : (hasB x v) = false) => ?_)
  · exact RB hS1 rfl (by simp_all)
  refine WL.loadG1 hS1 (hpy.mono hle1) ti67 rfl rfl rfl ?_
  refine WL.cV hS1 hb38 rfl rfl rfl (c_hasB hS1.imm y v _ (hvy.mono hle1) _ (hvv.mono hle1) ) (fun w2 G2 hS2 hle2 => ?_)
  exact RB hS2 rfl (by simp_all)

theorem c_pt21 {G : GH} {w : World} (hG : G.In w) (v : List Val) (x : List (List Val)) (vv : Value) (hvv : Sl ValE 32 G vv v) (vx : Value) (hvx : Sl (ValE.slice 32) 24 G vx x) (px : Addr) (hpx : Cells G px [vx])  : CL Tryz.prog (nat_lit 43) #[vv, .pointer (some px)] [] w G fun _ _ r => r = .bool (!hasB x v) := by
  refine calls_of_go ft [] Tryz.func43 rfl rfl ?_
  have hS := St.start (X := []) hG
  refine WL.loadG1 hS hpx ti67 rfl rfl rfl ?_
  refine WL.cV hS hb38 rfl rfl rfl (c_hasB hS.imm x v _ hvx _ hvv ) (fun w1 G1 hS1 hle1 => ?_)
  exact RB hS1 rfl (by rfl)

theorem c_pt2 {G : GH} {w : World} (hG : G.In w) (l : List (List Val)) (x : List (List Val)) (vl : Value) (hvl : Sl (ValE.slice 32) 24 G vl l) (vx : Value) (hvx : Sl (ValE.slice 32) 24 G vx x) (px : Addr) (hpx : Cells G px [vx])  : CL Tryz.prog (nat_lit 42) #[vl, .pointer (some px)] [] w G fun _ _ r => r = .bool (l.any fun v => !hasB x v) := by
  refine calls_of_go ft [] Tryz.func42 rfl rfl ?_
  have hS := St.start (X := []) hG
  refine WL.cV hS hb40 rfl rfl rfl (c_ContainsVV hS.imm l (fun x8 => !hasB x x8) _ hvl 43 #[.pointer (some px)] ⟨hb43, fun G8 w8 v8 x8 hle8 hG8 hon8 hA8 => by exact c_pt21 hG8 x8 x v8 hA8 vx (hvx.mono hle8) px (hpx.mono hle8) ⟩ ) (fun w1 G1 hS1 hle1 => ?_)
  exact RB hS1 rfl (by rfl)

theorem c_AlgebraPoints {G : GH} {w : World} (hG : G.In w) (d : Nat) (a b : List Fact) (cs : List Col) (c : Cond) (s : Span) (t : Int) (va : Value) (hva : Sl FactE 40 G va a) (vb : Value) (hvb : Sl FactE 40 G vb b) (vs : Value) (hvs : Sl ColE 24 G vs cs) (cc : List Value) (hcc : (CondE d).rep G c cc) (ci : List Value) (hci : SpanE.rep G s ci)  : CL Tryz.prog (nat_lit 8) #[va, vb, vs, .agg cc.toArray, .agg ci.toArray, .int .i64 t] [] w G fun _ _ r => r = .bool true := by
  refine calls_of_go ft [23] Tryz.func8 rfl rfl ?_
  have hS := St.start (X := []) hG
  obtain ⟨lv1, rfl, hb1, hb2, hb3, hb4, hb5, hb6, ho1⟩ := CondE_open hcc
  obtain ⟨rfl, hb7, hb8⟩ := SpanE_open hci
  refine WL.boxG [.int .i64 c.kind, strV c.col, strV c.oth, .int .i64 c.v.k, .int .i64 c.v.n, strV c.v.s, lv1] _ hS rfl rfl rfl (fun p1 w1 G1 hle1 hsp1 hc1 hS1 => ?_)
  refine WL.boxG [.int .i64 s.a, .int .i64 s.b] _ hS1 rfl rfl rfl (fun p2 w2 G2 hle2 hsp2 hc2 hS2 => ?_)
  refine WL.cV hS2 hb11 rfl rfl rfl (c_awake hS2.imm   ) (fun w3 G3 hS3 hle3 => ?_)
  refine WL.buildSlice _ [(0, [va]), (1, [vb])] [va, vb] hS3 sl89 rfl rfl rfl (by show [(0, (va : Value).cells.toList), (1, (vb : Value).cells.toList)] = _; simp only [(hva.mono ((hle1.trans hle2).trans hle3)).cells1, (hvb.mono ((hle1.trans hle2).trans hle3)).cells1] <;> rfl) (fun z hz => by match z, hz with | [z0, z1], _ => rfl) (fun b1 w4 hn1 hS4 => ?_)
  obtain ⟨G4, hle4, hs1, hS5⟩ := St.sealSl (E := (FactE.slice 40)) (by_ := 24) (l := ([a, b] : List (List Fact))) hS4 hn1 ⟨[va], _, rfl, ⟨_, rfl, (hva.mono ((hle1.trans hle2).trans hle3))⟩, ⟨[vb], _, rfl, ⟨_, rfl, (hvb.mono ((hle1.trans hle2).trans hle3))⟩, rfl⟩⟩ rfl (by simp [reach]) (by simp [reach])
  refine WL.cV hS5 hb12 rfl rfl rfl (c_great hS5.imm [a, b] _ hs1 ) (fun w5 G5 hS6 hle5 => ?_)
  refine WL.split (fun (h1 : ([a, b].any greatB) = true) => ?_) (fun (h1 : ([a, b].any greatB) = false) => ?_)
  · exact RB hS6 rfl (by rfl)
  have bd1 := hvs.bound
  refine WL.lenSl (hvs.mono ((((hle1.trans hle2).trans hle3).trans hle4).trans hle5)) ul32 rfl rfl ?_
  refine WL.gtrS (cs.length : Int) 10 rfl rfl rfl (fun h2 => ?_) (fun h2 => ?_)
  · exact RB hS6 rfl (by rfl)
  refine WL.loadGAt hS6 (hc1.mono (((hle2.trans hle3).trans hle4).trans hle5)) [.int .i64 c.kind, strV c.col, strV c.oth, .int .i64 c.v.k, .int .i64 c.v.n, strV c.v.s, lv1] ti37 rfl rfl rfl rfl rfl ?_
  refine WL.cV hS6 hb16 rfl rfl rfl (c_deep hS6.imm _ c _ ((CondE _).mono ((((hle1.trans hle2).trans hle3).trans hle4).trans hle5) hcc) ) (fun w6 G6 hS7 hle6 => ?_)
  refine WL.split (fun (h3 : (decide (20 < cntF d c 0)) = true) => ?_) (fun (h3 : (decide (20 < cntF d c 0)) = false) => ?_)
  · exact RB hS7 rfl (by rfl)
  refine WL.cV hS7 hb33 rfl rfl rfl (c_rfValid hS7.imm a _ (hva.mono (((((hle1.trans hle2).trans hle3).trans hle4).trans hle5).trans hle6)) ) (fun w7 G7 hS8 hle7 => ?_)
  refine WL.split (fun (h4 : (rvalidB a) = true) => ?_) (fun (h4 : (rvalidB a) = false) => ?_)
  · refine WL.cV hS8 hb33 rfl rfl rfl (c_rfValid hS8.imm b _ (hvb.mono ((((((hle1.trans hle2).trans hle3).trans hle4).trans hle5).trans hle6).trans hle7)) ) (fun w8 G8 hS9 hle8 => ?_)
    refine WL.split (fun (h5 : (rvalidB b) = true) => ?_) (fun (h5 : (rvalidB b) = false) => ?_)
    · have h20 := great_le2 (by assumption)
      have hal := h20.1
      have hbl := h20.2
      have hva9 : validB a = true := by rw [← rvalid_valid]; assumption
      have hvb9 : validB b = true := by rw [← rvalid_valid]; assumption
      have hXl := at_len9 (l := a) (t := t) hal
      have hYl := at_len9 (l := b) (t := t) hbl
      refine WL.cA hS9 hb36 rfl rfl rfl (c_At hS9.imm a t _ (hva.mono (((((((hle1.trans hle2).trans hle3).trans hle4).trans hle5).trans hle6).trans hle7).trans hle8)) ) (fun w9 G9 r1 hpost1 hS10 hle9 => ?_)
      refine WL.cA hS10 hb36 rfl rfl rfl (c_At hS10.imm b t _ (hvb.mono ((((((((hle1.trans hle2).trans hle3).trans hle4).trans hle5).trans hle6).trans hle7).trans hle8).trans hle9)) ) (fun w10 G10 r2 hpost2 hS11 hle10 => ?_)
      refine WL.alloc hS11 ti67 rfl rfl (fun b2 w11 hn2 hS12 => ?_)
      refine WL.alloc hS12 ti67 rfl rfl (fun b3 w12 hn3 hS13 => ?_)
      refine WL.store hS13 1 _ _ _ 0 _ [r1] [r1] _ rfl (hpost1.mono hle10).cells1 ti67 rfl (Nat.le_of_ble_eq_true rfl) (by simp only [List.all_cons, List.all_nil, (hpost1.mono hle10).oneC, Bool.true_and] <;> rfl) rfl rfl rfl rfl rfl (fun w13 hS14 => ?_)
      obtain ⟨G11, hle11, hc3, hS15⟩ := hS14.sealAt 1 rfl hn2
      refine WL.store hS15 0 _ _ _ 0 _ [r2] [r2] _ rfl (hpost2.mono hle11).cells1 ti67 rfl (Nat.le_of_ble_eq_true rfl) (by simp only [List.all_cons, List.all_nil, (hpost2.mono hle11).oneC, Bool.true_and] <;> rfl) rfl rfl rfl rfl rfl (fun w14 hS16 => ?_)
      obtain ⟨G12, hle12, hc4, hS17⟩ := hS16.shutB hn3
      refine WL.cA hS17 hb21 rfl rfl rfl (c_Union hS17.imm a b _ (hva.mono (((((((((((hle1.trans hle2).trans hle3).trans hle4).trans hle5).trans hle6).trans hle7).trans hle8).trans hle9).trans hle10).trans hle11).trans hle12)) _ (hvb.mono (((((((((((hle1.trans hle2).trans hle3).trans hle4).trans hle5).trans hle6).trans hle7).trans hle8).trans hle9).trans hle10).trans hle11).trans hle12)) ) ?_
      rintro w15 G13 _ ⟨r4, _, rfl, hs2, rfl⟩ hS18 hle13
      refine WL.cA hS18 hb23 rfl rfl rfl (c_Except hS18.imm a b _ (hva.mono ((((((((((((hle1.trans hle2).trans hle3).trans hle4).trans hle5).trans hle6).trans hle7).trans hle8).trans hle9).trans hle10).trans hle11).trans hle12).trans hle13)) _ (hvb.mono ((((((((((((hle1.trans hle2).trans hle3).trans hle4).trans hle5).trans hle6).trans hle7).trans hle8).trans hle9).trans hle10).trans hle11).trans hle12).trans hle13)) ) ?_
      rintro w16 G14 _ ⟨r7, _, rfl, hs3, rfl⟩ hS19 hle14
      refine WL.loadGAt hS19 (hc2.mono (((((((((((hle3.trans hle4).trans hle5).trans hle6).trans hle7).trans hle8).trans hle9).trans hle10).trans hle11).trans hle12).trans hle13).trans hle14)) [.int .i64 s.a, .int .i64 s.b] ti46 rfl rfl rfl rfl rfl ?_
      refine WL.cA hS19 hb24 rfl rfl rfl (c_During hS19.imm a s _ (hva.mono (((((((((((((hle1.trans hle2).trans hle3).trans hle4).trans hle5).trans hle6).trans hle7).trans hle8).trans hle9).trans hle10).trans hle11).trans hle12).trans hle13).trans hle14)) _ (SpanE_mk s hb7 hb8) ) ?_
      rintro w17 G15 _ ⟨r10, _, rfl, hs4, rfl⟩ hS20 hle15
      refine WL.loadGAt hS20 (hc1.mono (((((((((((((hle2.trans hle3).trans hle4).trans hle5).trans hle6).trans hle7).trans hle8).trans hle9).trans hle10).trans hle11).trans hle12).trans hle13).trans hle14).trans hle15)) [.int .i64 c.kind, strV c.col, strV c.oth, .int .i64 c.v.k, .int .i64 c.v.n, strV c.v.s, lv1] ti37 rfl rfl rfl rfl rfl ?_
      refine WL.cA hS20 hb17 rfl rfl rfl (c_Select hS20.imm _ a cs c _ (hva.mono ((((((((((((((hle1.trans hle2).trans hle3).trans hle4).trans hle5).trans hle6).trans hle7).trans hle8).trans hle9).trans hle10).trans hle11).trans hle12).trans hle13).trans hle14).trans hle15)) _ (hvs.mono ((((((((((((((hle1.trans hle2).trans hle3).trans hle4).trans hle5).trans hle6).trans hle7).trans hle8).trans hle9).trans hle10).trans hle11).trans hle12).trans hle13).trans hle14).trans hle15)) _ ((CondE _).mono ((((((((((((((hle1.trans hle2).trans hle3).trans hle4).trans hle5).trans hle6).trans hle7).trans hle8).trans hle9).trans hle10).trans hle11).trans hle12).trans hle13).trans hle14).trans hle15) hcc) ) ?_
      rintro w18 G16 _ ⟨r13, _, rfl, hs5, rfl⟩ hS21 hle16
      refine WL.cA hS21 hb36 rfl rfl rfl (c_At hS21.imm (unionL a b) t _ (hs2.mono ((hle14.trans hle15).trans hle16)) ) (fun w19 G17 r15 hpost7 hS22 hle17 => ?_)
      refine WL.cA hS22 hb36 rfl rfl rfl (c_At hS22.imm (excL a b) t _ (hs3.mono ((hle15.trans hle16).trans hle17)) ) (fun w20 G18 r16 hpost8 hS23 hle18 => ?_)
      refine WL.cA hS23 hb36 rfl rfl rfl (c_At hS23.imm (durL a s) t _ (hs4.mono ((hle16.trans hle17).trans hle18)) ) (fun w21 G19 r17 hpost9 hS24 hle19 => ?_)
      refine WL.cA hS24 hb36 rfl rfl rfl (c_At hS24.imm (selL d c cs a) t _ (hs5.mono ((hle17.trans hle18).trans hle19)) ) (fun w22 G20 r18 hpost10 hS25 hle20 => ?_)
      have bd2 := hvs.bound
      refine WL.lenSl (hvs.mono (((((((((((((((((((hle1.trans hle2).trans hle3).trans hle4).trans hle5).trans hle6).trans hle7).trans hle8).trans hle9).trans hle10).trans hle11).trans hle12).trans hle13).trans hle14).trans hle15).trans hle16).trans hle17).trans hle18).trans hle19).trans hle20)) ul32 rfl rfl ?_
      have hS27 := hS25.pad
      refine LP.go ft [23] (fun m ρ1 w1 => ∃ (k1 : Nat), ∃ (v1 : Value) (o1 : OB), ∃ (G21 : GH), m = cs.length - k1 ∧ G20.le G21 ∧ St w [] G G21 [o1, none] w1 ∧ Row Enc.str 16 9 G21 v1 ((cs.take k1).map Col.name) o1 ∧ FR ρ1 [(5, .int .i64 t), (9, .pointer (some p1)), (10, .pointer (some p2)), (13, .pointer (some (⟨b2, 0, none⟩ : Addr))), (14, .pointer (some (⟨b3, 0, none⟩ : Addr))), (16, .int .i64 (unionE a b)), (18, .int .i64 (excE a b)), (20, .int .i64 (durE a s)), (22, .int .i64 (selE d c cs a)), (23, r15), (24, r16), (25, r17), (26, r18), (27, v1), (105, vs), (106, .int .i64 (cs.length : Int)), (107, .int .i64 (k1 : Int))] ∧ k1 ≤ cs.length) _ ⟨0, (.slice none 0 0), none, G20, rfl, (G20.le_refl), hS27, (Row.cast (Row.nil Enc.str 16 9 G20) (by simp)), ⟨rfl, rfl, rfl, rfl, rfl, rfl, rfl, rfl, rfl, rfl, rfl, rfl, rfl, rfl, rfl, rfl, rfl, trivial⟩, (by omega)⟩ ?_
      rintro m ρ1 w23 ⟨k1, v1, o1, G21, rfl, hle21, hS26, hr1, hF9, f1⟩
      refine hF9.set ?_
      clear hF9
      have htk := List.length_take_le k1 cs
      refine WL.lssS (k1 : Int) (cs.length : Int) rfl rfl rfl (fun h6 => ?_) (fun h6 => ?_)
      · refine WL.indexAddr (hvs.mono ((((((((((((((((((((hle1.trans hle2).trans hle3).trans hle4).trans hle5).trans hle6).trans hle7).trans hle8).trans hle9).trans hle10).trans hle11).trans hle12).trans hle13).trans hle14).trans hle15).trans hle16).trans hle17).trans hle18).trans hle19).trans hle20).trans hle21)) k1 (by omega) ul32 ti71 rfl rfl rfl rfl (fun p3 x1 hx1 he1 => ?_)
        obtain ⟨cs1, hc5, hr2⟩ := he1
        obtain ⟨rfl, hb9, hb10⟩ := ColE_open hr2
        refine WL.loadGAt hS26 hc5 [strV x1.name, .int .i64 x1.kind] ti71 rfl rfl rfl rfl rfl ?_
        refine WL.alloc hS26 ti71 rfl rfl (fun b4 w24 hn4 hS28 => ?_)
        refine WL.store hS28 0 _ _ _ 0 _ [strV x1.name, .int .i64 x1.kind] [strV x1.name, .int .i64 x1.kind] _ rfl rfl ti71 rfl (Nat.le_of_ble_eq_true rfl) rfl rfl rfl rfl rfl rfl (fun w25 hS29 => ?_)
        obtain ⟨G22, hle22, hc6, hS30⟩ := hS29.shutB hn4
        refine WL.loadG1 hS30 (Cells.drop 0 hc6) ti9 rfl rfl rfl ?_
        refine WL.buildSlice _ [(0, [strV x1.name])] [strV x1.name] hS30 sl69 rfl rfl rfl rfl (fun z hz => by match z, hz with | [z0], _ => rfl) (fun b5 w26 hn5 hS31 => ?_)
        refine WL.push (m := ([x1.name] : List (List UInt8))) sl69 rfl rfl rfl (hr1.mono hle22) hS31 1 rfl 0 _ _ _ _ _ rfl ⟨[strV x1.name], _, rfl, ⟨rfl, hb9⟩, rfl⟩ rfl (by have hreach : reach = 140737488355328 := rfl; simp only [List.length_append, List.length_cons, List.length_nil, List.length_map]; omega) (by have hreach : reach = 140737488355328 := rfl; simp only [List.length_append, List.length_cons, List.length_nil, List.length_map]; omega) rfl rfl rfl (fun v2 o2 w27 hr3 hS32 => ?_)
        have hS33 := hS32.tail
        refine WL.incr k1 (by have hreach : reach = 140737488355328 := rfl; omega) rfl rfl rfl ?_
        exact BK.mk' _ ⟨k1 + 1, v2, o2, G22, rfl, (hle21.trans hle22), hS33, (Row.cast hr3 (by (rw [List.take_add_one, (by assumption : cs[k1]? = some _)]; simp))), ⟨rfl, rfl, rfl, rfl, rfl, rfl, rfl, rfl, rfl, rfl, rfl, rfl, rfl, rfl, rfl, rfl, rfl, trivial⟩, (by omega)⟩ (show cs.length - (k1 + 1) < cs.length - k1 by omega)
      obtain ⟨G23, hle23, hs6, hS34⟩ := Row.freeze hr1 hS26 0 rfl
      have hnm : (cs.take k1).map Col.name = cs.map Col.name := by rw [List.take_of_length_le (by omega)]
      refine WL.loadG1 hS34 (hc3.mono ((((((((((hle12.trans hle13).trans hle14).trans hle15).trans hle16).trans hle17).trans hle18).trans hle19).trans hle20).trans hle21).trans hle23)) ti67 rfl rfl rfl ?_
      refine WL.loadG1 hS34 (hc4.mono (((((((((hle13.trans hle14).trans hle15).trans hle16).trans hle17).trans hle18).trans hle19).trans hle20).trans hle21).trans hle23)) ti67 rfl rfl rfl ?_
      refine WL.buildSlice _ [(0, [r1]), (1, [r2])] [r1, r2] hS34 sl133 rfl rfl rfl (by show [(0, (r1 : Value).cells.toList), (1, (r2 : Value).cells.toList)] = _; simp only [(hpost1.mono ((((((((((((hle10.trans hle11).trans hle12).trans hle13).trans hle14).trans hle15).trans hle16).trans hle17).trans hle18).trans hle19).trans hle20).trans hle21).trans hle23)).cells1, (hpost2.mono (((((((((((hle11.trans hle12).trans hle13).trans hle14).trans hle15).trans hle16).trans hle17).trans hle18).trans hle19).trans hle20).trans hle21).trans hle23)).cells1] <;> rfl) (fun z hz => by match z, hz with | [z0, z1], _ => rfl) (fun b6 w28 hn6 hS35 => ?_)
      obtain ⟨G24, hle24, hs7, hS36⟩ := St.sealSl (E := ((ValE.slice 32).slice 24)) (by_ := 24) (l := ([atL a t, atL b t] : List (List (List Val)))) hS35 hn6 ⟨[r1], _, rfl, ⟨_, rfl, (hpost1.mono ((((((((((((hle10.trans hle11).trans hle12).trans hle13).trans hle14).trans hle15).trans hle16).trans hle17).trans hle18).trans hle19).trans hle20).trans hle21).trans hle23))⟩, ⟨[r2], _, rfl, ⟨_, rfl, (hpost2.mono (((((((((((hle11.trans hle12).trans hle13).trans hle14).trans hle15).trans hle16).trans hle17).trans hle18).trans hle19).trans hle20).trans hle21).trans hle23))⟩, rfl⟩⟩ rfl (by simp [reach]) (by simp [reach])
      refine WL.cA hS36 hb37 rfl rfl rfl (c_ConcatVV hS36.imm [atL a t, atL b t] _ hs7 (by simp; omega)) (fun w29 G25 r19 hpost11 hS37 hle25 => ?_)
      have bd3 := hpost11.bound
      refine WL.lenSl hpost11 ul67 rfl rfl ?_
      refine LP.go ft [23] (fun m ρ1 w1 => ∃ (k2 : Nat), ∃ (G26 : GH), m = ([atL a t, atL b t].flatten).length - k2 ∧ G25.le G26 ∧ St w [] G G26 [none, none] w1 ∧ FR ρ1 [(5, .int .i64 t), (9, .pointer (some p1)), (10, .pointer (some p2)), (13, .pointer (some (⟨b2, 0, none⟩ : Addr))), (14, .pointer (some (⟨b3, 0, none⟩ : Addr))), (16, .int .i64 (unionE a b)), (18, .int .i64 (excE a b)), (20, .int .i64 (durE a s)), (22, .int .i64 (selE d c cs a)), (23, r15), (24, r16), (25, r17), (26, r18), (27, v1), (120, r19), (121, .int .i64 ((([atL a t, atL b t].flatten).length : Nat) : Int)), (122, .int .i64 (k2 : Int))] ∧ k2 ≤ ([atL a t, atL b t].flatten).length) _ ⟨0, G25, rfl, (G25.le_refl), hS37, ⟨rfl, rfl, rfl, rfl, rfl, rfl, rfl, rfl, rfl, rfl, rfl, rfl, rfl, rfl, rfl, rfl, rfl, trivial⟩, (by omega)⟩ ?_
      rintro m ρ1 w30 ⟨k2, G26, rfl, hle26, hS38, hF9, f2⟩
      refine hF9.set ?_
      clear hF9
      refine WL.lssS (k2 : Int) ((([atL a t, atL b t].flatten).length : Nat) : Int) rfl rfl rfl (fun h7 => ?_) (fun h7 => ?_)
      · obtain ⟨v9, hv9⟩ : ∃ v, ([(atL a t), (atL b t)].flatten)[k2]? = some v := ⟨_, List.getElem?_eq_getElem (by omega)⟩
        refine WL.indexAddr (hpost11.mono hle26) k2 (by omega) ul67 ti61 rfl rfl rfl rfl (fun p4 x2 hx2 he2 => ?_)
        obtain rfl : v9 = x2 := Option.some.inj (hv9.symm.trans hx2)
        obtain ⟨cs2, hc7, hr4⟩ := he2
        obtain ⟨v3, rfl, hs8⟩ := hr4
        refine WL.loadG1 hS38 hc7 ti61 rfl rfl rfl ?_
        rcases Bool.eq_false_or_eq_true (hasB (atL a t) v9) with h8 | h8
        · refine dr [(6, false), (7, false)] [(126, r1), (128, .bool true), (129, r2), (131, .bool (hasB (atL b t) v9))] hS38 ⟨fun _ hSw => WL.loadG1 hSw (hc3.mono (((((((((((((hle12.trans hle13).trans hle14).trans hle15).trans hle16).trans hle17).trans hle18).trans hle19).trans hle20).trans hle21).trans hle23).trans hle24).trans hle25).trans hle26)) ti67 rfl rfl rfl <| nu rfl rfl, fun _ hSw => WL.callD hSw hb38 rfl rfl rfl (c_hasB hSw.imm (atL a t) v9 _ (hpost1.mono (((((((((((((((hle10.trans hle11).trans hle12).trans hle13).trans hle14).trans hle15).trans hle16).trans hle17).trans hle18).trans hle19).trans hle20).trans hle21).trans hle23).trans hle24).trans hle25).trans hle26)) _ hs8 ) (congrArg Value.bool h8.symm), fun _ hSw => WL.loadG1 hSw (hc4.mono ((((((((((((hle13.trans hle14).trans hle15).trans hle16).trans hle17).trans hle18).trans hle19).trans hle20).trans hle21).trans hle23).trans hle24).trans hle25).trans hle26)) ti67 rfl rfl rfl <| nu rfl rfl, fun _ hSw => WL.callD hSw hb38 rfl rfl rfl (c_hasB hSw.imm (atL b t) v9 _ (hpost2.mono ((((((((((((((hle11.trans hle12).trans hle13).trans hle14).trans hle15).trans hle16).trans hle17).trans hle18).trans hle19).trans hle20).trans hle21).trans hle23).trans hle24).trans hle25).trans hle26)) _ hs8 ) rfl, trivial⟩ (fun w31 hS39 => ?_)
          refine JN.go ft [23] (fun ρ1 w1 => ∃ (G27 : GH), G26.le G27 ∧ St w [] G G27 [none, none] w1 ∧ FR ρ1 [(5, .int .i64 t), (9, .pointer (some p1)), (10, .pointer (some p2)), (13, .pointer (some (⟨b2, 0, none⟩ : Addr))), (14, .pointer (some (⟨b3, 0, none⟩ : Addr))), (16, .int .i64 (unionE a b)), (18, .int .i64 (excE a b)), (20, .int .i64 (durE a s)), (22, .int .i64 (selE d c cs a)), (23, r15), (24, r16), (25, r17), (26, r18), (27, v1), (31, v3), (32, .bool true), (120, r19), (121, .int .i64 ((([atL a t, atL b t].flatten).length : Nat) : Int)), (122, .int .i64 (k2 : Int))]) ?_ ?_
          · have hU : unionE a b = 0 → hasB (atL (unionL a b) t) v9 = true := fun h => pt_U1 (X := []) (Y := []) hva9 hvb9 h hv9
            have hD : excE a b = 0 → hasB (atL (excL a b) t) v9 = (hasB (atL a t) v9 && !hasB (atL b t) v9) := pt_D hva9 hvb9
            have hP : durE a s = 0 → hasB (atL (durL a s) t) v9 = (hasB (atL a t) v9 && (decide (s.a ≤ t) && decide (t < s.b))) := pt_P hva9
            refine WL.eqlS (unionE a b) 0 rfl rfl rfl (fun h9 => ?_) (fun h9 => ?_)
            · refine WL.cV hS39 hb38 rfl rfl rfl (c_hasB hS39.imm (atL (unionL a b) t) v9 _ (hpost7.mono (((((((hle18.trans hle19).trans hle20).trans hle21).trans hle23).trans hle24).trans hle25).trans hle26)) _ hs8 ) (fun w33 G28 hS41 hle28 => ?_)
              refine WL.split (fun (h10 : (hasB (atL (unionL a b) t) v9) = true) => ?_) (fun (h10 : (hasB (atL (unionL a b) t) v9) = false) => ?_)
              · refine WL.eqlS (excE a b) 0 rfl rfl rfl (fun h11 => ?_) (fun h11 => ?_)
                · refine WL.cV hS41 hb38 rfl rfl rfl (c_hasB hS41.imm (atL (excL a b) t) v9 _ (hpost8.mono (((((((hle19.trans hle20).trans hle21).trans hle23).trans hle24).trans hle25).trans hle26).trans hle28)) _ (hs8.mono hle28) ) (fun w34 G29 hS42 hle29 => ?_)
                  refine WL.neqB (hasB (atL (excL a b) t) v9) (!(hasB (atL b t) v9)) ul4 rfl rfl rfl ?_
                  refine setB (d := 152) rfl (fun (h12 : ((hasB (atL (excL a b) t) v9) != (!(hasB (atL b t) v9))) = true) => ?_) (fun (h12 : ((hasB (atL (excL a b) t) v9) != (!(hasB (atL b t) v9))) = false) => ?_)
                  · exact RB hS42 rfl (by exact absurd ((ptTn (hD (by assumption)) (by assumption)).symm.trans (by assumption)) (by decide))
                  refine WL.eqlS (durE a s) 0 rfl rfl rfl (fun h13 => ?_) (fun h13 => ?_)
                  · refine WL.cV hS42 hb38 rfl rfl rfl (c_hasB hS42.imm (atL (durL a s) t) v9 _ (hpost9.mono (((((((hle20.trans hle21).trans hle23).trans hle24).trans hle25).trans hle26).trans hle28).trans hle29)) _ (hs8.mono (hle28.trans hle29)) ) (fun w35 G30 hS43 hle30 => ?_)
                    refine WL.loadG1 hS43 (Cells.drop 0 (hc2.mono (((((((((((((((((((((((((hle3.trans hle4).trans hle5).trans hle6).trans hle7).trans hle8).trans hle9).trans hle10).trans hle11).trans hle12).trans hle13).trans hle14).trans hle15).trans hle16).trans hle17).trans hle18).trans hle19).trans hle20).trans hle21).trans hle23).trans hle24).trans hle25).trans hle26).trans hle28).trans hle29).trans hle30))) ti3 rfl rfl rfl ?_
                    refine WL.leqS s.a t rfl rfl rfl (fun h14 => ?_) (fun h14 => ?_)
                    · refine WL.loadG1 hS43 (Cells.drop 1 (hc2.mono (((((((((((((((((((((((((hle3.trans hle4).trans hle5).trans hle6).trans hle7).trans hle8).trans hle9).trans hle10).trans hle11).trans hle12).trans hle13).trans hle14).trans hle15).trans hle16).trans hle17).trans hle18).trans hle19).trans hle20).trans hle21).trans hle23).trans hle24).trans hle25).trans hle26).trans hle28).trans hle29).trans hle30))) ti3 rfl rfl rfl ?_
                      refine WL.cmp .lss rfl .i64 t s.b rfl rfl rfl ?_
                      refine WL.neqB (hasB (atL (durL a s) t) v9) (Cmp.b .lss t s.b) ul4 rfl rfl rfl ?_
                      refine setB (d := 175) rfl (fun (h15 : ((hasB (atL (durL a s) t) v9) != (Cmp.b .lss t s.b)) = true) => ?_) (fun (h15 : ((hasB (atL (durL a s) t) v9) != (Cmp.b .lss t s.b)) = false) => ?_)
                      · exact RB hS43 rfl (by exact absurd ((ptP4 (hP (by assumption)) (by assumption) (by assumption)).symm.trans (by assumption)) (by decide))
                      exact ⟨G30, ((hle28.trans hle29).trans hle30), hS43, ⟨rfl, rfl, rfl, rfl, rfl, rfl, rfl, rfl, rfl, rfl, rfl, rfl, rfl, rfl, rfl, rfl, rfl, rfl, rfl, trivial⟩⟩
                    refine WL.neqB (hasB (atL (durL a s) t) v9) false ul4 rfl rfl rfl ?_
                    refine setB (d := 175) rfl (fun (h16 : ((hasB (atL (durL a s) t) v9) != false) = true) => ?_) (fun (h16 : ((hasB (atL (durL a s) t) v9) != false) = false) => ?_)
                    · exact RB hS43 rfl (by exact absurd ((ptP1 (hP (by assumption)) (by assumption)).symm.trans (by assumption)) (by decide))
                    exact ⟨G30, ((hle28.trans hle29).trans hle30), hS43, ⟨rfl, rfl, rfl, rfl, rfl, rfl, rfl, rfl, rfl, rfl, rfl, rfl, rfl, rfl, rfl, rfl, rfl, rfl, rfl, trivial⟩⟩
                  exact ⟨G29, (hle28.trans hle29), hS42, ⟨rfl, rfl, rfl, rfl, rfl, rfl, rfl, rfl, rfl, rfl, rfl, rfl, rfl, rfl, rfl, rfl, rfl, rfl, rfl, trivial⟩⟩
                refine WL.eqlS (durE a s) 0 rfl rfl rfl (fun h17 => ?_) (fun h17 => ?_)
                · refine WL.cV hS41 hb38 rfl rfl rfl (c_hasB hS41.imm (atL (durL a s) t) v9 _ (hpost9.mono ((((((hle20.trans hle21).trans hle23).trans hle24).trans hle25).trans hle26).trans hle28)) _ (hs8.mono hle28) ) (fun w36 G31 hS44 hle31 => ?_)
                  refine WL.loadG1 hS44 (Cells.drop 0 (hc2.mono ((((((((((((((((((((((((hle3.trans hle4).trans hle5).trans hle6).trans hle7).trans hle8).trans hle9).trans hle10).trans hle11).trans hle12).trans hle13).trans hle14).trans hle15).trans hle16).trans hle17).trans hle18).trans hle19).trans hle20).trans hle21).trans hle23).trans hle24).trans hle25).trans hle26).trans hle28).trans hle31))) ti3 rfl rfl rfl ?_
                  refine WL.leqS s.a t rfl rfl rfl (fun h18 => ?_) (fun h18 => ?_)
                  · refine WL.loadG1 hS44 (Cells.drop 1 (hc2.mono ((((((((((((((((((((((((hle3.trans hle4).trans hle5).trans hle6).trans hle7).trans hle8).trans hle9).trans hle10).trans hle11).trans hle12).trans hle13).trans hle14).trans hle15).trans hle16).trans hle17).trans hle18).trans hle19).trans hle20).trans hle21).trans hle23).trans hle24).trans hle25).trans hle26).trans hle28).trans hle31))) ti3 rfl rfl rfl ?_
                    refine WL.cmp .lss rfl .i64 t s.b rfl rfl rfl ?_
                    refine WL.neqB (hasB (atL (durL a s) t) v9) (Cmp.b .lss t s.b) ul4 rfl rfl rfl ?_
                    refine setB (d := 175) rfl (fun (h19 : ((hasB (atL (durL a s) t) v9) != (Cmp.b .lss t s.b)) = true) => ?_) (fun (h19 : ((hasB (atL (durL a s) t) v9) != (Cmp.b .lss t s.b)) = false) => ?_)
                    · exact RB hS44 rfl (by exact absurd ((ptP4 (hP (by assumption)) (by assumption) (by assumption)).symm.trans (by assumption)) (by decide))
                    exact ⟨G31, (hle28.trans hle31), hS44, ⟨rfl, rfl, rfl, rfl, rfl, rfl, rfl, rfl, rfl, rfl, rfl, rfl, rfl, rfl, rfl, rfl, rfl, rfl, rfl, trivial⟩⟩
                  refine WL.neqB (hasB (atL (durL a s) t) v9) false ul4 rfl rfl rfl ?_
                  refine setB (d := 175) rfl (fun (h20 : ((hasB (atL (durL a s) t) v9) != false) = true) => ?_) (fun (h20 : ((hasB (atL (durL a s) t) v9) != false) = false) => ?_)
                  · exact RB hS44 rfl (by exact absurd ((ptP1 (hP (by assumption)) (by assumption)).symm.trans (by assumption)) (by decide))
                  exact ⟨G31, (hle28.trans hle31), hS44, ⟨rfl, rfl, rfl, rfl, rfl, rfl, rfl, rfl, rfl, rfl, rfl, rfl, rfl, rfl, rfl, rfl, rfl, rfl, rfl, trivial⟩⟩
                exact ⟨G28, hle28, hS41, ⟨rfl, rfl, rfl, rfl, rfl, rfl, rfl, rfl, rfl, rfl, rfl, rfl, rfl, rfl, rfl, rfl, rfl, rfl, rfl, trivial⟩⟩
              exact RB hS41 rfl (by exact absurd ((hU (by assumption)).symm.trans (by assumption)) (by decide))
            refine WL.eqlS (excE a b) 0 rfl rfl rfl (fun h21 => ?_) (fun h21 => ?_)
            · refine WL.cV hS39 hb38 rfl rfl rfl (c_hasB hS39.imm (atL (excL a b) t) v9 _ (hpost8.mono ((((((hle19.trans hle20).trans hle21).trans hle23).trans hle24).trans hle25).trans hle26)) _ hs8 ) (fun w37 G32 hS45 hle32 => ?_)
              refine WL.neqB (hasB (atL (excL a b) t) v9) (!(hasB (atL b t) v9)) ul4 rfl rfl rfl ?_
              refine setB (d := 152) rfl (fun (h22 : ((hasB (atL (excL a b) t) v9) != (!(hasB (atL b t) v9))) = true) => ?_) (fun (h22 : ((hasB (atL (excL a b) t) v9) != (!(hasB (atL b t) v9))) = false) => ?_)
              · exact RB hS45 rfl (by exact absurd ((ptTn (hD (by assumption)) (by assumption)).symm.trans (by assumption)) (by decide))
              refine WL.eqlS (durE a s) 0 rfl rfl rfl (fun h23 => ?_) (fun h23 => ?_)
              · refine WL.cV hS45 hb38 rfl rfl rfl (c_hasB hS45.imm (atL (durL a s) t) v9 _ (hpost9.mono ((((((hle20.trans hle21).trans hle23).trans hle24).trans hle25).trans hle26).trans hle32)) _ (hs8.mono hle32) ) (fun w38 G33 hS46 hle33 => ?_)
                refine WL.loadG1 hS46 (Cells.drop 0 (hc2.mono ((((((((((((((((((((((((hle3.trans hle4).trans hle5).trans hle6).trans hle7).trans hle8).trans hle9).trans hle10).trans hle11).trans hle12).trans hle13).trans hle14).trans hle15).trans hle16).trans hle17).trans hle18).trans hle19).trans hle20).trans hle21).trans hle23).trans hle24).trans hle25).trans hle26).trans hle32).trans hle33))) ti3 rfl rfl rfl ?_
                refine WL.leqS s.a t rfl rfl rfl (fun h24 => ?_) (fun h24 => ?_)
                · refine WL.loadG1 hS46 (Cells.drop 1 (hc2.mono ((((((((((((((((((((((((hle3.trans hle4).trans hle5).trans hle6).trans hle7).trans hle8).trans hle9).trans hle10).trans hle11).trans hle12).trans hle13).trans hle14).trans hle15).trans hle16).trans hle17).trans hle18).trans hle19).trans hle20).trans hle21).trans hle23).trans hle24).trans hle25).trans hle26).trans hle32).trans hle33))) ti3 rfl rfl rfl ?_
                  refine WL.cmp .lss rfl .i64 t s.b rfl rfl rfl ?_
                  refine WL.neqB (hasB (atL (durL a s) t) v9) (Cmp.b .lss t s.b) ul4 rfl rfl rfl ?_
                  refine setB (d := 175) rfl (fun (h25 : ((hasB (atL (durL a s) t) v9) != (Cmp.b .lss t s.b)) = true) => ?_) (fun (h25 : ((hasB (atL (durL a s) t) v9) != (Cmp.b .lss t s.b)) = false) => ?_)
                  · exact RB hS46 rfl (by exact absurd ((ptP4 (hP (by assumption)) (by assumption) (by assumption)).symm.trans (by assumption)) (by decide))
                  exact ⟨G33, (hle32.trans hle33), hS46, ⟨rfl, rfl, rfl, rfl, rfl, rfl, rfl, rfl, rfl, rfl, rfl, rfl, rfl, rfl, rfl, rfl, rfl, rfl, rfl, trivial⟩⟩
                refine WL.neqB (hasB (atL (durL a s) t) v9) false ul4 rfl rfl rfl ?_
                refine setB (d := 175) rfl (fun (h26 : ((hasB (atL (durL a s) t) v9) != false) = true) => ?_) (fun (h26 : ((hasB (atL (durL a s) t) v9) != false) = false) => ?_)
                · exact RB hS46 rfl (by exact absurd ((ptP1 (hP (by assumption)) (by assumption)).symm.trans (by assumption)) (by decide))
                exact ⟨G33, (hle32.trans hle33), hS46, ⟨rfl, rfl, rfl, rfl, rfl, rfl, rfl, rfl, rfl, rfl, rfl, rfl, rfl, rfl, rfl, rfl, rfl, rfl, rfl, trivial⟩⟩
              exact ⟨G32, hle32, hS45, ⟨rfl, rfl, rfl, rfl, rfl, rfl, rfl, rfl, rfl, rfl, rfl, rfl, rfl, rfl, rfl, rfl, rfl, rfl, rfl, trivial⟩⟩
            refine WL.eqlS (durE a s) 0 rfl rfl rfl (fun h27 => ?_) (fun h27 => ?_)
            · refine WL.cV hS39 hb38 rfl rfl rfl (c_hasB hS39.imm (atL (durL a s) t) v9 _ (hpost9.mono (((((hle20.trans hle21).trans hle23).trans hle24).trans hle25).trans hle26)) _ hs8 ) (fun w39 G34 hS47 hle34 => ?_)
              refine WL.loadG1 hS47 (Cells.drop 0 (hc2.mono (((((((((((((((((((((((hle3.trans hle4).trans hle5).trans hle6).trans hle7).trans hle8).trans hle9).trans hle10).trans hle11).trans hle12).trans hle13).trans hle14).trans hle15).trans hle16).trans hle17).trans hle18).trans hle19).trans hle20).trans hle21).trans hle23).trans hle24).trans hle25).trans hle26).trans hle34))) ti3 rfl rfl rfl ?_
              refine WL.leqS s.a t rfl rfl rfl (fun h28 => ?_) (fun h28 => ?_)
              · refine WL.loadG1 hS47 (Cells.drop 1 (hc2.mono (((((((((((((((((((((((hle3.trans hle4).trans hle5).trans hle6).trans hle7).trans hle8).trans hle9).trans hle10).trans hle11).trans hle12).trans hle13).trans hle14).trans hle15).trans hle16).trans hle17).trans hle18).trans hle19).trans hle20).trans hle21).trans hle23).trans hle24).trans hle25).trans hle26).trans hle34))) ti3 rfl rfl rfl ?_
                refine WL.cmp .lss rfl .i64 t s.b rfl rfl rfl ?_
                refine WL.neqB (hasB (atL (durL a s) t) v9) (Cmp.b .lss t s.b) ul4 rfl rfl rfl ?_
                refine setB (d := 175) rfl (fun (h29 : ((hasB (atL (durL a s) t) v9) != (Cmp.b .lss t s.b)) = true) => ?_) (fun (h29 : ((hasB (atL (durL a s) t) v9) != (Cmp.b .lss t s.b)) = false) => ?_)
                · exact RB hS47 rfl (by exact absurd ((ptP4 (hP (by assumption)) (by assumption) (by assumption)).symm.trans (by assumption)) (by decide))
                exact ⟨G34, hle34, hS47, ⟨rfl, rfl, rfl, rfl, rfl, rfl, rfl, rfl, rfl, rfl, rfl, rfl, rfl, rfl, rfl, rfl, rfl, rfl, rfl, trivial⟩⟩
              refine WL.neqB (hasB (atL (durL a s) t) v9) false ul4 rfl rfl rfl ?_
              refine setB (d := 175) rfl (fun (h30 : ((hasB (atL (durL a s) t) v9) != false) = true) => ?_) (fun (h30 : ((hasB (atL (durL a s) t) v9) != false) = false) => ?_)
              · exact RB hS47 rfl (by exact absurd ((ptP1 (hP (by assumption)) (by assumption)).symm.trans (by assumption)) (by decide))
              exact ⟨G34, hle34, hS47, ⟨rfl, rfl, rfl, rfl, rfl, rfl, rfl, rfl, rfl, rfl, rfl, rfl, rfl, rfl, rfl, rfl, rfl, rfl, rfl, trivial⟩⟩
            exact ⟨G26, (G26.le_refl), hS39, ⟨rfl, rfl, rfl, rfl, rfl, rfl, rfl, rfl, rfl, rfl, rfl, rfl, rfl, rfl, rfl, rfl, rfl, rfl, rfl, trivial⟩⟩
          rintro ρ1 w32 ⟨G27, hle27, hS40, hF9⟩
          refine hF9.set ?_
          refine WL.eqlS (selE d c cs a) 0 rfl rfl rfl (fun h31 => ?_) (fun h31 => ?_)
          · have hS9 : selE d c cs a = 0 → hasB (atL (selL d c cs a) t) v9 = (hasB (atL a t) v9 && hldB d c ((cs.take k1).map Col.name) v9) := fun h => by rw [hnm]; exact pt_S hva9 h
            refine WL.loadGAt hS40 (hc1.mono ((((((((((((((((((((((((hle2.trans hle3).trans hle4).trans hle5).trans hle6).trans hle7).trans hle8).trans hle9).trans hle10).trans hle11).trans hle12).trans hle13).trans hle14).trans hle15).trans hle16).trans hle17).trans hle18).trans hle19).trans hle20).trans hle21).trans hle23).trans hle24).trans hle25).trans hle26).trans hle27)) [.int .i64 c.kind, strV c.col, strV c.oth, .int .i64 c.v.k, .int .i64 c.v.n, strV c.v.s, lv1] ti37 rfl rfl rfl rfl rfl ?_
            refine WL.cA hS40 hb39 rfl rfl rfl (c_vHolds hS40.imm _ c ((cs.take k1).map Col.name) v9 _ ((CondE _).mono (((((((((((((((((((((((((hle1.trans hle2).trans hle3).trans hle4).trans hle5).trans hle6).trans hle7).trans hle8).trans hle9).trans hle10).trans hle11).trans hle12).trans hle13).trans hle14).trans hle15).trans hle16).trans hle17).trans hle18).trans hle19).trans hle20).trans hle21).trans hle23).trans hle24).trans hle25).trans hle26).trans hle27) hcc) _ (hs6.mono (((hle24.trans hle25).trans hle26).trans hle27)) _ (hs8.mono hle27) ) ?_
            rintro w40 G35 _ ⟨_, _, rfl, rfl, rfl⟩ hS48 hle35
            refine WL.eqlS (hldE d c ((cs.take k1).map Col.name) v9) 0 rfl rfl rfl (fun h32 => ?_) (fun h32 => ?_)
            · refine WL.cV hS48 hb38 rfl rfl rfl (c_hasB hS48.imm (atL (selL d c cs a) t) v9 _ (hpost10.mono ((((((hle21.trans hle23).trans hle24).trans hle25).trans hle26).trans hle27).trans hle35)) _ (hs8.mono (hle27.trans hle35)) ) (fun w41 G36 hS49 hle36 => ?_)
              refine WL.neqB (hldB d c ((cs.take k1).map Col.name) v9) (hasB (atL (selL d c cs a) t) v9) ul4 rfl rfl rfl ?_
              refine setB (d := 197) rfl (fun (h33 : ((hldB d c ((cs.take k1).map Col.name) v9) != (hasB (atL (selL d c cs a) t) v9)) = true) => ?_) (fun (h33 : ((hldB d c ((cs.take k1).map Col.name) v9) != (hasB (atL (selL d c cs a) t) v9)) = false) => ?_)
              · exact RB hS49 rfl (by exact absurd ((ptS (hS9 (by assumption)) (by assumption) rfl).symm.trans (by assumption)) (by decide))
              refine WL.incr k2 (by have hreach : reach = 140737488355328 := rfl; omega) rfl rfl rfl ?_
              exact BK.mk' _ ⟨k2 + 1, G36, rfl, (hle26.trans ((hle27.trans hle35).trans hle36)), hS49, ⟨rfl, rfl, rfl, rfl, rfl, rfl, rfl, rfl, rfl, rfl, rfl, rfl, rfl, rfl, rfl, rfl, rfl, trivial⟩, (by omega)⟩ (show ([atL a t, atL b t].flatten).length - (k2 + 1) < ([atL a t, atL b t].flatten).length - k2 by omega)
            refine WL.incr k2 (by have hreach : reach = 140737488355328 := rfl; omega) rfl rfl rfl ?_
            exact BK.mk' _ ⟨k2 + 1, G35, rfl, (hle26.trans (hle27.trans hle35)), hS48, ⟨rfl, rfl, rfl, rfl, rfl, rfl, rfl, rfl, rfl, rfl, rfl, rfl, rfl, rfl, rfl, rfl, rfl, trivial⟩, (by omega)⟩ (show ([atL a t, atL b t].flatten).length - (k2 + 1) < ([atL a t, atL b t].flatten).length - k2 by omega)
          refine WL.incr k2 (by have hreach : reach = 140737488355328 := rfl; omega) rfl rfl rfl ?_
          exact BK.mk' _ ⟨k2 + 1, G27, rfl, (hle26.trans hle27), hS40, ⟨rfl, rfl, rfl, rfl, rfl, rfl, rfl, rfl, rfl, rfl, rfl, rfl, rfl, rfl, rfl, rfl, rfl, trivial⟩, (by omega)⟩ (show ([atL a t, atL b t].flatten).length - (k2 + 1) < ([atL a t, atL b t].flatten).length - k2 by omega)
        refine dr [(6, false), (7, false)] [(126, r1), (128, .bool false), (129, r2), (131, .bool (hasB (atL b t) v9))] hS38 ⟨fun _ hSw => WL.loadG1 hSw (hc3.mono (((((((((((((hle12.trans hle13).trans hle14).trans hle15).trans hle16).trans hle17).trans hle18).trans hle19).trans hle20).trans hle21).trans hle23).trans hle24).trans hle25).trans hle26)) ti67 rfl rfl rfl <| nu rfl rfl, fun _ hSw => WL.callD hSw hb38 rfl rfl rfl (c_hasB hSw.imm (atL a t) v9 _ (hpost1.mono (((((((((((((((hle10.trans hle11).trans hle12).trans hle13).trans hle14).trans hle15).trans hle16).trans hle17).trans hle18).trans hle19).trans hle20).trans hle21).trans hle23).trans hle24).trans hle25).trans hle26)) _ hs8 ) (congrArg Value.bool h8.symm), fun _ hSw => WL.loadG1 hSw (hc4.mono ((((((((((((hle13.trans hle14).trans hle15).trans hle16).trans hle17).trans hle18).trans hle19).trans hle20).trans hle21).trans hle23).trans hle24).trans hle25).trans hle26)) ti67 rfl rfl rfl <| nu rfl rfl, fun _ hSw => WL.callD hSw hb38 rfl rfl rfl (c_hasB hSw.imm (atL b t) v9 _ (hpost2.mono ((((((((((((((hle11.trans hle12).trans hle13).trans hle14).trans hle15).trans hle16).trans hle17).trans hle18).trans hle19).trans hle20).trans hle21).trans hle23).trans hle24).trans hle25).trans hle26)) _ hs8 ) rfl, trivial⟩ (fun w42 hS50 => ?_)
        refine JN.go ft [23] (fun ρ1 w1 => ∃ (G37 : GH), G26.le G37 ∧ St w [] G G37 [none, none] w1 ∧ FR ρ1 [(5, .int .i64 t), (9, .pointer (some p1)), (10, .pointer (some p2)), (13, .pointer (some (⟨b2, 0, none⟩ : Addr))), (14, .pointer (some (⟨b3, 0, none⟩ : Addr))), (16, .int .i64 (unionE a b)), (18, .int .i64 (excE a b)), (20, .int .i64 (durE a s)), (22, .int .i64 (selE d c cs a)), (23, r15), (24, r16), (25, r17), (26, r18), (27, v1), (31, v3), (32, .bool false), (120, r19), (121, .int .i64 ((([atL a t, atL b t].flatten).length : Nat) : Int)), (122, .int .i64 (k2 : Int))]) ?_ ?_
        · have hU : unionE a b = 0 → hasB (atL (unionL a b) t) v9 = true := fun h => pt_U1 (X := []) (Y := []) hva9 hvb9 h hv9
          have hD : excE a b = 0 → hasB (atL (excL a b) t) v9 = (hasB (atL a t) v9 && !hasB (atL b t) v9) := pt_D hva9 hvb9
          have hP : durE a s = 0 → hasB (atL (durL a s) t) v9 = (hasB (atL a t) v9 && (decide (s.a ≤ t) && decide (t < s.b))) := pt_P hva9
          refine WL.eqlS (unionE a b) 0 rfl rfl rfl (fun h34 => ?_) (fun h34 => ?_)
          · refine WL.cV hS50 hb38 rfl rfl rfl (c_hasB hS50.imm (atL (unionL a b) t) v9 _ (hpost7.mono (((((((hle18.trans hle19).trans hle20).trans hle21).trans hle23).trans hle24).trans hle25).trans hle26)) _ hs8 ) (fun w44 G38 hS52 hle38 => ?_)
            refine WL.split (fun (h35 : (hasB (atL (unionL a b) t) v9) = true) => ?_) (fun (h35 : (hasB (atL (unionL a b) t) v9) = false) => ?_)
            · refine WL.eqlS (excE a b) 0 rfl rfl rfl (fun h36 => ?_) (fun h36 => ?_)
              · refine WL.cV hS52 hb38 rfl rfl rfl (c_hasB hS52.imm (atL (excL a b) t) v9 _ (hpost8.mono (((((((hle19.trans hle20).trans hle21).trans hle23).trans hle24).trans hle25).trans hle26).trans hle38)) _ (hs8.mono hle38) ) (fun w45 G39 hS53 hle39 => ?_)
                refine WL.neqB (hasB (atL (excL a b) t) v9) false ul4 rfl rfl rfl ?_
                refine setB (d := 152) rfl (fun (h37 : ((hasB (atL (excL a b) t) v9) != false) = true) => ?_) (fun (h37 : ((hasB (atL (excL a b) t) v9) != false) = false) => ?_)
                · exact RB hS53 rfl (by exact absurd ((ptF (hD (by assumption)) (by assumption)).symm.trans (by assumption)) (by decide))
                refine WL.eqlS (durE a s) 0 rfl rfl rfl (fun h38 => ?_) (fun h38 => ?_)
                · refine WL.cV hS53 hb38 rfl rfl rfl (c_hasB hS53.imm (atL (durL a s) t) v9 _ (hpost9.mono (((((((hle20.trans hle21).trans hle23).trans hle24).trans hle25).trans hle26).trans hle38).trans hle39)) _ (hs8.mono (hle38.trans hle39)) ) (fun w46 G40 hS54 hle40 => ?_)
                  refine WL.neqB (hasB (atL (durL a s) t) v9) false ul4 rfl rfl rfl ?_
                  refine setB (d := 175) rfl (fun (h39 : ((hasB (atL (durL a s) t) v9) != false) = true) => ?_) (fun (h39 : ((hasB (atL (durL a s) t) v9) != false) = false) => ?_)
                  · exact RB hS54 rfl (by exact absurd ((ptF (hP (by assumption)) (by assumption)).symm.trans (by assumption)) (by decide))
                  exact ⟨G40, ((hle38.trans hle39).trans hle40), hS54, ⟨rfl, rfl, rfl, rfl, rfl, rfl, rfl, rfl, rfl, rfl, rfl, rfl, rfl, rfl, rfl, rfl, rfl, rfl, rfl, trivial⟩⟩
                exact ⟨G39, (hle38.trans hle39), hS53, ⟨rfl, rfl, rfl, rfl, rfl, rfl, rfl, rfl, rfl, rfl, rfl, rfl, rfl, rfl, rfl, rfl, rfl, rfl, rfl, trivial⟩⟩
              refine WL.eqlS (durE a s) 0 rfl rfl rfl (fun h40 => ?_) (fun h40 => ?_)
              · refine WL.cV hS52 hb38 rfl rfl rfl (c_hasB hS52.imm (atL (durL a s) t) v9 _ (hpost9.mono ((((((hle20.trans hle21).trans hle23).trans hle24).trans hle25).trans hle26).trans hle38)) _ (hs8.mono hle38) ) (fun w47 G41 hS55 hle41 => ?_)
                refine WL.neqB (hasB (atL (durL a s) t) v9) false ul4 rfl rfl rfl ?_
                refine setB (d := 175) rfl (fun (h41 : ((hasB (atL (durL a s) t) v9) != false) = true) => ?_) (fun (h41 : ((hasB (atL (durL a s) t) v9) != false) = false) => ?_)
                · exact RB hS55 rfl (by exact absurd ((ptF (hP (by assumption)) (by assumption)).symm.trans (by assumption)) (by decide))
                exact ⟨G41, (hle38.trans hle41), hS55, ⟨rfl, rfl, rfl, rfl, rfl, rfl, rfl, rfl, rfl, rfl, rfl, rfl, rfl, rfl, rfl, rfl, rfl, rfl, rfl, trivial⟩⟩
              exact ⟨G38, hle38, hS52, ⟨rfl, rfl, rfl, rfl, rfl, rfl, rfl, rfl, rfl, rfl, rfl, rfl, rfl, rfl, rfl, rfl, rfl, rfl, rfl, trivial⟩⟩
            exact RB hS52 rfl (by exact absurd ((hU (by assumption)).symm.trans (by assumption)) (by decide))
          refine WL.eqlS (excE a b) 0 rfl rfl rfl (fun h42 => ?_) (fun h42 => ?_)
          · refine WL.cV hS50 hb38 rfl rfl rfl (c_hasB hS50.imm (atL (excL a b) t) v9 _ (hpost8.mono ((((((hle19.trans hle20).trans hle21).trans hle23).trans hle24).trans hle25).trans hle26)) _ hs8 ) (fun w48 G42 hS56 hle42 => ?_)
            refine WL.neqB (hasB (atL (excL a b) t) v9) false ul4 rfl rfl rfl ?_
            refine setB (d := 152) rfl (fun (h43 : ((hasB (atL (excL a b) t) v9) != false) = true) => ?_) (fun (h43 : ((hasB (atL (excL a b) t) v9) != false) = false) => ?_)
            · exact RB hS56 rfl (by exact absurd ((ptF (hD (by assumption)) (by assumption)).symm.trans (by assumption)) (by decide))
            refine WL.eqlS (durE a s) 0 rfl rfl rfl (fun h44 => ?_) (fun h44 => ?_)
            · refine WL.cV hS56 hb38 rfl rfl rfl (c_hasB hS56.imm (atL (durL a s) t) v9 _ (hpost9.mono ((((((hle20.trans hle21).trans hle23).trans hle24).trans hle25).trans hle26).trans hle42)) _ (hs8.mono hle42) ) (fun w49 G43 hS57 hle43 => ?_)
              refine WL.neqB (hasB (atL (durL a s) t) v9) false ul4 rfl rfl rfl ?_
              refine setB (d := 175) rfl (fun (h45 : ((hasB (atL (durL a s) t) v9) != false) = true) => ?_) (fun (h45 : ((hasB (atL (durL a s) t) v9) != false) = false) => ?_)
              · exact RB hS57 rfl (by exact absurd ((ptF (hP (by assumption)) (by assumption)).symm.trans (by assumption)) (by decide))
              exact ⟨G43, (hle42.trans hle43), hS57, ⟨rfl, rfl, rfl, rfl, rfl, rfl, rfl, rfl, rfl, rfl, rfl, rfl, rfl, rfl, rfl, rfl, rfl, rfl, rfl, trivial⟩⟩
            exact ⟨G42, hle42, hS56, ⟨rfl, rfl, rfl, rfl, rfl, rfl, rfl, rfl, rfl, rfl, rfl, rfl, rfl, rfl, rfl, rfl, rfl, rfl, rfl, trivial⟩⟩
          refine WL.eqlS (durE a s) 0 rfl rfl rfl (fun h46 => ?_) (fun h46 => ?_)
          · refine WL.cV hS50 hb38 rfl rfl rfl (c_hasB hS50.imm (atL (durL a s) t) v9 _ (hpost9.mono (((((hle20.trans hle21).trans hle23).trans hle24).trans hle25).trans hle26)) _ hs8 ) (fun w50 G44 hS58 hle44 => ?_)
            refine WL.neqB (hasB (atL (durL a s) t) v9) false ul4 rfl rfl rfl ?_
            refine setB (d := 175) rfl (fun (h47 : ((hasB (atL (durL a s) t) v9) != false) = true) => ?_) (fun (h47 : ((hasB (atL (durL a s) t) v9) != false) = false) => ?_)
            · exact RB hS58 rfl (by exact absurd ((ptF (hP (by assumption)) (by assumption)).symm.trans (by assumption)) (by decide))
            exact ⟨G44, hle44, hS58, ⟨rfl, rfl, rfl, rfl, rfl, rfl, rfl, rfl, rfl, rfl, rfl, rfl, rfl, rfl, rfl, rfl, rfl, rfl, rfl, trivial⟩⟩
          exact ⟨G26, (G26.le_refl), hS50, ⟨rfl, rfl, rfl, rfl, rfl, rfl, rfl, rfl, rfl, rfl, rfl, rfl, rfl, rfl, rfl, rfl, rfl, rfl, rfl, trivial⟩⟩
        rintro ρ1 w43 ⟨G37, hle37, hS51, hF9⟩
        refine hF9.set ?_
        refine WL.eqlS (selE d c cs a) 0 rfl rfl rfl (fun h48 => ?_) (fun h48 => ?_)
        · refine WL.incr k2 (by have hreach : reach = 140737488355328 := rfl; omega) rfl rfl rfl ?_
          exact BK.mk' _ ⟨k2 + 1, G37, rfl, (hle26.trans hle37), hS51, ⟨rfl, rfl, rfl, rfl, rfl, rfl, rfl, rfl, rfl, rfl, rfl, rfl, rfl, rfl, rfl, rfl, rfl, trivial⟩, (by omega)⟩ (show ([atL a t, atL b t].flatten).length - (k2 + 1) < ([atL a t, atL b t].flatten).length - k2 by omega)
        refine WL.incr k2 (by have hreach : reach = 140737488355328 := rfl; omega) rfl rfl rfl ?_
        exact BK.mk' _ ⟨k2 + 1, G37, rfl, (hle26.trans hle37), hS51, ⟨rfl, rfl, rfl, rfl, rfl, rfl, rfl, rfl, rfl, rfl, rfl, rfl, rfl, rfl, rfl, rfl, rfl, trivial⟩, (by omega)⟩ (show ([atL a t, atL b t].flatten).length - (k2 + 1) < ([atL a t, atL b t].flatten).length - k2 by omega)
      have hAU := pt_aU (t := t) hva9 hvb9
      have hAD := pt_aD (t := t) hva9 hvb9
      have hAP := pt_aP (s := s) (t := t) hva9
      have hAS := pt_aS (d := d) (c := c) (cs := cs) (t := t) hva9
      refine WL.eqlS (unionE a b) 0 rfl rfl rfl (fun h49 => ?_) (fun h49 => ?_)
      · refine WL.cV hS38 hb40 rfl rfl rfl (c_ContainsVV hS38.imm (atL (unionL a b) t) (fun x8 => !hasB (atL a t) x8 && !hasB (atL b t) x8) _ (hpost7.mono (((((((hle18.trans hle19).trans hle20).trans hle21).trans hle23).trans hle24).trans hle25).trans hle26)) 41 #[.pointer (some (⟨b2, 0, none⟩ : Addr)), .pointer (some (⟨b3, 0, none⟩ : Addr))] ⟨hb41, fun G8 w8 v8 x8 hle8 hG8 hon8 hA8 => by exact c_pt1 hG8 x8 (atL a t) (atL b t) v8 hA8 r1 ((hpost1.mono (((((((((((((((hle10.trans hle11).trans hle12).trans hle13).trans hle14).trans hle15).trans hle16).trans hle17).trans hle18).trans hle19).trans hle20).trans hle21).trans hle23).trans hle24).trans hle25).trans hle26)).mono hle8) (⟨b2, 0, none⟩ : Addr) ((hc3.mono (((((((((((((hle12.trans hle13).trans hle14).trans hle15).trans hle16).trans hle17).trans hle18).trans hle19).trans hle20).trans hle21).trans hle23).trans hle24).trans hle25).trans hle26)).mono hle8) r2 ((hpost2.mono ((((((((((((((hle11.trans hle12).trans hle13).trans hle14).trans hle15).trans hle16).trans hle17).trans hle18).trans hle19).trans hle20).trans hle21).trans hle23).trans hle24).trans hle25).trans hle26)).mono hle8) (⟨b3, 0, none⟩ : Addr) ((hc4.mono ((((((((((((hle13.trans hle14).trans hle15).trans hle16).trans hle17).trans hle18).trans hle19).trans hle20).trans hle21).trans hle23).trans hle24).trans hle25).trans hle26)).mono hle8) ⟩ ) (fun w51 G45 hS59 hle45 => ?_)
        refine WL.split (fun (h50 : ((atL (unionL a b) t).any (fun x8 => !hasB (atL a t) x8 && !hasB (atL b t) x8)) = true) => ?_) (fun (h50 : ((atL (unionL a b) t).any (fun x8 => !hasB (atL a t) x8 && !hasB (atL b t) x8)) = false) => ?_)
        · exact RB hS59 rfl (by exact absurd ((hAU (by assumption)).symm.trans (by assumption)) (by decide))
        refine WL.neqS (excE a b) 0 rfl rfl rfl (fun h51 => ?_) (fun h51 => ?_)
        · refine WL.neqS (durE a s) 0 rfl rfl rfl (fun h52 => ?_) (fun h52 => ?_)
          · refine WL.neqS (selE d c cs a) 0 rfl rfl rfl (fun h53 => ?_) (fun h53 => ?_)
            · exact RB hS59 rfl (by rfl)
            refine WL.cV hS59 hb42 rfl rfl rfl (c_pt2 hS59.imm (atL (selL d c cs a) t) (atL a t) _ (hpost10.mono (((((hle21.trans hle23).trans hle24).trans hle25).trans hle26).trans hle45)) _ (hpost1.mono ((((((((((((((((hle10.trans hle11).trans hle12).trans hle13).trans hle14).trans hle15).trans hle16).trans hle17).trans hle18).trans hle19).trans hle20).trans hle21).trans hle23).trans hle24).trans hle25).trans hle26).trans hle45)) _ (hc3.mono ((((((((((((((hle12.trans hle13).trans hle14).trans hle15).trans hle16).trans hle17).trans hle18).trans hle19).trans hle20).trans hle21).trans hle23).trans hle24).trans hle25).trans hle26).trans hle45)) ) (fun w52 G46 hS60 hle46 => ?_)
            exact RB hS60 rfl (by (rw [hAS (by assumption)]; rfl))
          refine WL.cV hS59 hb42 rfl rfl rfl (c_pt2 hS59.imm (atL (durL a s) t) (atL a t) _ (hpost9.mono ((((((hle20.trans hle21).trans hle23).trans hle24).trans hle25).trans hle26).trans hle45)) _ (hpost1.mono ((((((((((((((((hle10.trans hle11).trans hle12).trans hle13).trans hle14).trans hle15).trans hle16).trans hle17).trans hle18).trans hle19).trans hle20).trans hle21).trans hle23).trans hle24).trans hle25).trans hle26).trans hle45)) _ (hc3.mono ((((((((((((((hle12.trans hle13).trans hle14).trans hle15).trans hle16).trans hle17).trans hle18).trans hle19).trans hle20).trans hle21).trans hle23).trans hle24).trans hle25).trans hle26).trans hle45)) ) (fun w53 G47 hS61 hle47 => ?_)
          refine WL.split (fun (h54 : ((atL (durL a s) t).any fun v => !hasB (atL a t) v) = true) => ?_) (fun (h54 : ((atL (durL a s) t).any fun v => !hasB (atL a t) v) = false) => ?_)
          · exact RB hS61 rfl (by exact absurd ((hAP (by assumption)).symm.trans (by assumption)) (by decide))
          refine WL.neqS (selE d c cs a) 0 rfl rfl rfl (fun h55 => ?_) (fun h55 => ?_)
          · exact RB hS61 rfl (by rfl)
          refine WL.cV hS61 hb42 rfl rfl rfl (c_pt2 hS61.imm (atL (selL d c cs a) t) (atL a t) _ (hpost10.mono ((((((hle21.trans hle23).trans hle24).trans hle25).trans hle26).trans hle45).trans hle47)) _ (hpost1.mono (((((((((((((((((hle10.trans hle11).trans hle12).trans hle13).trans hle14).trans hle15).trans hle16).trans hle17).trans hle18).trans hle19).trans hle20).trans hle21).trans hle23).trans hle24).trans hle25).trans hle26).trans hle45).trans hle47)) _ (hc3.mono (((((((((((((((hle12.trans hle13).trans hle14).trans hle15).trans hle16).trans hle17).trans hle18).trans hle19).trans hle20).trans hle21).trans hle23).trans hle24).trans hle25).trans hle26).trans hle45).trans hle47)) ) (fun w54 G48 hS62 hle48 => ?_)
          exact RB hS62 rfl (by (rw [hAS (by assumption)]; rfl))
        refine WL.cV hS59 hb42 rfl rfl rfl (c_pt2 hS59.imm (atL (excL a b) t) (atL a t) _ (hpost8.mono (((((((hle19.trans hle20).trans hle21).trans hle23).trans hle24).trans hle25).trans hle26).trans hle45)) _ (hpost1.mono ((((((((((((((((hle10.trans hle11).trans hle12).trans hle13).trans hle14).trans hle15).trans hle16).trans hle17).trans hle18).trans hle19).trans hle20).trans hle21).trans hle23).trans hle24).trans hle25).trans hle26).trans hle45)) _ (hc3.mono ((((((((((((((hle12.trans hle13).trans hle14).trans hle15).trans hle16).trans hle17).trans hle18).trans hle19).trans hle20).trans hle21).trans hle23).trans hle24).trans hle25).trans hle26).trans hle45)) ) (fun w55 G49 hS63 hle49 => ?_)
        refine WL.split (fun (h56 : ((atL (excL a b) t).any fun v => !hasB (atL a t) v) = true) => ?_) (fun (h56 : ((atL (excL a b) t).any fun v => !hasB (atL a t) v) = false) => ?_)
        · exact RB hS63 rfl (by exact absurd ((hAD (by assumption)).symm.trans (by assumption)) (by decide))
        refine WL.neqS (durE a s) 0 rfl rfl rfl (fun h57 => ?_) (fun h57 => ?_)
        · refine WL.neqS (selE d c cs a) 0 rfl rfl rfl (fun h58 => ?_) (fun h58 => ?_)
          · exact RB hS63 rfl (by rfl)
          refine WL.cV hS63 hb42 rfl rfl rfl (c_pt2 hS63.imm (atL (selL d c cs a) t) (atL a t) _ (hpost10.mono ((((((hle21.trans hle23).trans hle24).trans hle25).trans hle26).trans hle45).trans hle49)) _ (hpost1.mono (((((((((((((((((hle10.trans hle11).trans hle12).trans hle13).trans hle14).trans hle15).trans hle16).trans hle17).trans hle18).trans hle19).trans hle20).trans hle21).trans hle23).trans hle24).trans hle25).trans hle26).trans hle45).trans hle49)) _ (hc3.mono (((((((((((((((hle12.trans hle13).trans hle14).trans hle15).trans hle16).trans hle17).trans hle18).trans hle19).trans hle20).trans hle21).trans hle23).trans hle24).trans hle25).trans hle26).trans hle45).trans hle49)) ) (fun w56 G50 hS64 hle50 => ?_)
          exact RB hS64 rfl (by (rw [hAS (by assumption)]; rfl))
        refine WL.cV hS63 hb42 rfl rfl rfl (c_pt2 hS63.imm (atL (durL a s) t) (atL a t) _ (hpost9.mono (((((((hle20.trans hle21).trans hle23).trans hle24).trans hle25).trans hle26).trans hle45).trans hle49)) _ (hpost1.mono (((((((((((((((((hle10.trans hle11).trans hle12).trans hle13).trans hle14).trans hle15).trans hle16).trans hle17).trans hle18).trans hle19).trans hle20).trans hle21).trans hle23).trans hle24).trans hle25).trans hle26).trans hle45).trans hle49)) _ (hc3.mono (((((((((((((((hle12.trans hle13).trans hle14).trans hle15).trans hle16).trans hle17).trans hle18).trans hle19).trans hle20).trans hle21).trans hle23).trans hle24).trans hle25).trans hle26).trans hle45).trans hle49)) ) (fun w57 G51 hS65 hle51 => ?_)
        refine WL.split (fun (h59 : ((atL (durL a s) t).any fun v => !hasB (atL a t) v) = true) => ?_) (fun (h59 : ((atL (durL a s) t).any fun v => !hasB (atL a t) v) = false) => ?_)
        · exact RB hS65 rfl (by exact absurd ((hAP (by assumption)).symm.trans (by assumption)) (by decide))
        refine WL.neqS (selE d c cs a) 0 rfl rfl rfl (fun h60 => ?_) (fun h60 => ?_)
        · exact RB hS65 rfl (by rfl)
        refine WL.cV hS65 hb42 rfl rfl rfl (c_pt2 hS65.imm (atL (selL d c cs a) t) (atL a t) _ (hpost10.mono (((((((hle21.trans hle23).trans hle24).trans hle25).trans hle26).trans hle45).trans hle49).trans hle51)) _ (hpost1.mono ((((((((((((((((((hle10.trans hle11).trans hle12).trans hle13).trans hle14).trans hle15).trans hle16).trans hle17).trans hle18).trans hle19).trans hle20).trans hle21).trans hle23).trans hle24).trans hle25).trans hle26).trans hle45).trans hle49).trans hle51)) _ (hc3.mono ((((((((((((((((hle12.trans hle13).trans hle14).trans hle15).trans hle16).trans hle17).trans hle18).trans hle19).trans hle20).trans hle21).trans hle23).trans hle24).trans hle25).trans hle26).trans hle45).trans hle49).trans hle51)) ) (fun w58 G52 hS66 hle52 => ?_)
        exact RB hS66 rfl (by (rw [hAS (by assumption)]; rfl))
      refine WL.neqS (excE a b) 0 rfl rfl rfl (fun h61 => ?_) (fun h61 => ?_)
      · refine WL.neqS (durE a s) 0 rfl rfl rfl (fun h62 => ?_) (fun h62 => ?_)
        · refine WL.neqS (selE d c cs a) 0 rfl rfl rfl (fun h63 => ?_) (fun h63 => ?_)
          · exact RB hS38 rfl (by rfl)
          refine WL.cV hS38 hb42 rfl rfl rfl (c_pt2 hS38.imm (atL (selL d c cs a) t) (atL a t) _ (hpost10.mono ((((hle21.trans hle23).trans hle24).trans hle25).trans hle26)) _ (hpost1.mono (((((((((((((((hle10.trans hle11).trans hle12).trans hle13).trans hle14).trans hle15).trans hle16).trans hle17).trans hle18).trans hle19).trans hle20).trans hle21).trans hle23).trans hle24).trans hle25).trans hle26)) _ (hc3.mono (((((((((((((hle12.trans hle13).trans hle14).trans hle15).trans hle16).trans hle17).trans hle18).trans hle19).trans hle20).trans hle21).trans hle23).trans hle24).trans hle25).trans hle26)) ) (fun w59 G53 hS67 hle53 => ?_)
          exact RB hS67 rfl (by (rw [hAS (by assumption)]; rfl))
        refine WL.cV hS38 hb42 rfl rfl rfl (c_pt2 hS38.imm (atL (durL a s) t) (atL a t) _ (hpost9.mono (((((hle20.trans hle21).trans hle23).trans hle24).trans hle25).trans hle26)) _ (hpost1.mono (((((((((((((((hle10.trans hle11).trans hle12).trans hle13).trans hle14).trans hle15).trans hle16).trans hle17).trans hle18).trans hle19).trans hle20).trans hle21).trans hle23).trans hle24).trans hle25).trans hle26)) _ (hc3.mono (((((((((((((hle12.trans hle13).trans hle14).trans hle15).trans hle16).trans hle17).trans hle18).trans hle19).trans hle20).trans hle21).trans hle23).trans hle24).trans hle25).trans hle26)) ) (fun w60 G54 hS68 hle54 => ?_)
        refine WL.split (fun (h64 : ((atL (durL a s) t).any fun v => !hasB (atL a t) v) = true) => ?_) (fun (h64 : ((atL (durL a s) t).any fun v => !hasB (atL a t) v) = false) => ?_)
        · exact RB hS68 rfl (by exact absurd ((hAP (by assumption)).symm.trans (by assumption)) (by decide))
        refine WL.neqS (selE d c cs a) 0 rfl rfl rfl (fun h65 => ?_) (fun h65 => ?_)
        · exact RB hS68 rfl (by rfl)
        refine WL.cV hS68 hb42 rfl rfl rfl (c_pt2 hS68.imm (atL (selL d c cs a) t) (atL a t) _ (hpost10.mono (((((hle21.trans hle23).trans hle24).trans hle25).trans hle26).trans hle54)) _ (hpost1.mono ((((((((((((((((hle10.trans hle11).trans hle12).trans hle13).trans hle14).trans hle15).trans hle16).trans hle17).trans hle18).trans hle19).trans hle20).trans hle21).trans hle23).trans hle24).trans hle25).trans hle26).trans hle54)) _ (hc3.mono ((((((((((((((hle12.trans hle13).trans hle14).trans hle15).trans hle16).trans hle17).trans hle18).trans hle19).trans hle20).trans hle21).trans hle23).trans hle24).trans hle25).trans hle26).trans hle54)) ) (fun w61 G55 hS69 hle55 => ?_)
        exact RB hS69 rfl (by (rw [hAS (by assumption)]; rfl))
      refine WL.cV hS38 hb42 rfl rfl rfl (c_pt2 hS38.imm (atL (excL a b) t) (atL a t) _ (hpost8.mono ((((((hle19.trans hle20).trans hle21).trans hle23).trans hle24).trans hle25).trans hle26)) _ (hpost1.mono (((((((((((((((hle10.trans hle11).trans hle12).trans hle13).trans hle14).trans hle15).trans hle16).trans hle17).trans hle18).trans hle19).trans hle20).trans hle21).trans hle23).trans hle24).trans hle25).trans hle26)) _ (hc3.mono (((((((((((((hle12.trans hle13).trans hle14).trans hle15).trans hle16).trans hle17).trans hle18).trans hle19).trans hle20).trans hle21).trans hle23).trans hle24).trans hle25).trans hle26)) ) (fun w62 G56 hS70 hle56 => ?_)
      refine WL.split (fun (h66 : ((atL (excL a b) t).any fun v => !hasB (atL a t) v) = true) => ?_) (fun (h66 : ((atL (excL a b) t).any fun v => !hasB (atL a t) v) = false) => ?_)
      · exact RB hS70 rfl (by exact absurd ((hAD (by assumption)).symm.trans (by assumption)) (by decide))
      refine WL.neqS (durE a s) 0 rfl rfl rfl (fun h67 => ?_) (fun h67 => ?_)
      · refine WL.neqS (selE d c cs a) 0 rfl rfl rfl (fun h68 => ?_) (fun h68 => ?_)
        · exact RB hS70 rfl (by rfl)
        refine WL.cV hS70 hb42 rfl rfl rfl (c_pt2 hS70.imm (atL (selL d c cs a) t) (atL a t) _ (hpost10.mono (((((hle21.trans hle23).trans hle24).trans hle25).trans hle26).trans hle56)) _ (hpost1.mono ((((((((((((((((hle10.trans hle11).trans hle12).trans hle13).trans hle14).trans hle15).trans hle16).trans hle17).trans hle18).trans hle19).trans hle20).trans hle21).trans hle23).trans hle24).trans hle25).trans hle26).trans hle56)) _ (hc3.mono ((((((((((((((hle12.trans hle13).trans hle14).trans hle15).trans hle16).trans hle17).trans hle18).trans hle19).trans hle20).trans hle21).trans hle23).trans hle24).trans hle25).trans hle26).trans hle56)) ) (fun w63 G57 hS71 hle57 => ?_)
        exact RB hS71 rfl (by (rw [hAS (by assumption)]; rfl))
      refine WL.cV hS70 hb42 rfl rfl rfl (c_pt2 hS70.imm (atL (durL a s) t) (atL a t) _ (hpost9.mono ((((((hle20.trans hle21).trans hle23).trans hle24).trans hle25).trans hle26).trans hle56)) _ (hpost1.mono ((((((((((((((((hle10.trans hle11).trans hle12).trans hle13).trans hle14).trans hle15).trans hle16).trans hle17).trans hle18).trans hle19).trans hle20).trans hle21).trans hle23).trans hle24).trans hle25).trans hle26).trans hle56)) _ (hc3.mono ((((((((((((((hle12.trans hle13).trans hle14).trans hle15).trans hle16).trans hle17).trans hle18).trans hle19).trans hle20).trans hle21).trans hle23).trans hle24).trans hle25).trans hle26).trans hle56)) ) (fun w64 G58 hS72 hle58 => ?_)
      refine WL.split (fun (h69 : ((atL (durL a s) t).any fun v => !hasB (atL a t) v) = true) => ?_) (fun (h69 : ((atL (durL a s) t).any fun v => !hasB (atL a t) v) = false) => ?_)
      · exact RB hS72 rfl (by exact absurd ((hAP (by assumption)).symm.trans (by assumption)) (by decide))
      refine WL.neqS (selE d c cs a) 0 rfl rfl rfl (fun h70 => ?_) (fun h70 => ?_)
      · exact RB hS72 rfl (by rfl)
      refine WL.cV hS72 hb42 rfl rfl rfl (c_pt2 hS72.imm (atL (selL d c cs a) t) (atL a t) _ (hpost10.mono ((((((hle21.trans hle23).trans hle24).trans hle25).trans hle26).trans hle56).trans hle58)) _ (hpost1.mono (((((((((((((((((hle10.trans hle11).trans hle12).trans hle13).trans hle14).trans hle15).trans hle16).trans hle17).trans hle18).trans hle19).trans hle20).trans hle21).trans hle23).trans hle24).trans hle25).trans hle26).trans hle56).trans hle58)) _ (hc3.mono (((((((((((((((hle12.trans hle13).trans hle14).trans hle15).trans hle16).trans hle17).trans hle18).trans hle19).trans hle20).trans hle21).trans hle23).trans hle24).trans hle25).trans hle26).trans hle56).trans hle58)) ) (fun w65 G59 hS73 hle59 => ?_)
      exact RB hS73 rfl (by (rw [hAS (by assumption)]; rfl))
    exact RB hS9 rfl (by rfl)
  exact RB hS8 rfl (by rfl)
end Go.Civ
