/- Walks, printed by specs38.py. -/
import Derived.Test.YtapjalhjfblonaaGreatProg
import Derived.KernelRfl
import Derived.WalkKit
import Derived.Test.YtapjalhjfblonaaGreatMWb
set_option linter.unusedVariables false
set_option linter.unusedSimpArgs false
set_option maxRecDepth 100000
set_option maxHeartbeats 4000000
namespace Go.Civ
open Go.Proofs


theorem c_valid1 {G : GH} {w : World} (hG : G.In w) (l : List Fact) (f : Fact) (cf : List Value) (hcf : FactE.rep G f cf) (vl : Value) (hvl : Sl FactE 40 G vl l) (pl : Addr) (hpl : Cells G pl [vl]) (hne : 0 < l.length) : CL Tryz.prog (nat_lit 115) #[.agg cf.toArray, .pointer (some pl)] [] w G fun _ _ r => r = .bool (!factB (l.head?.elim [] Fact.v) f) := by
  refine calls_of_go ft [] Tryz.func115 rfl rfl ?_
  have hl0 : ∀ x, l[0]? = some x → l.head?.elim [] Fact.v = x.v := fun x hx => by rw [List.head?_eq_getElem?, hx]; rfl
  have hS := St.start (X := []) hG
  obtain ⟨v1, rfl, hs1, hb1, hb2⟩ := FactE_open hcf
  refine WL.boxG [v1, .int .i64 f.t.a, .int .i64 f.t.b] _ hS rfl rfl rfl (fun p1 w1 G1 hle1 hsp1 hc1 hS1 => ?_)
  rcases Bool.eq_false_or_eq_true (spanB f.t) with h1 | h1
  · have bd1 := hs1.bound
    rcases Cmp.dec .gtr (f.v.length : Int) 8 with ⟨hb3, q1⟩ | ⟨hb3, q1⟩
    · have h2 : 8 < (f.v.length : Int) := q1
      clear q1
      refine dr [(25, false)] [(5, .agg #[.int .i64 f.t.a, .int .i64 f.t.b]), (6, .bool true), (10, v1), (11, .int .i64 (f.v.length : Int)), (12, .bool true)] hS1 ⟨fun _ hSw => WL.loadGAt hSw (Cells.drop 1 hc1) [.int .i64 f.t.a, .int .i64 f.t.b] ti46 rfl rfl rfl rfl rfl <| nu rfl rfl, fun _ hSw => WL.callD hSw hb84 rfl rfl rfl (c_span hSw.imm f.t _ (SpanE_mk f.t hb1 hb2) ) (congrArg Value.bool h1.symm), fun _ hSw => WL.loadG1 hSw (Cells.drop 0 hc1) ti61 rfl rfl rfl <| nu rfl rfl, fun _ => WL.lenSl (hs1.mono hle1) ul61 rfl rfl <| nu rfl rfl, fun _ => WL.cmpV .gtr rfl .i64 (f.v.length : Int) 8 _ hb3 rfl rfl rfl <| nu rfl rfl, trivial⟩ (fun w2 hS2 => ?_)
      exact RB hS2 rfl (by first | (rw [hl0 _ (by assumption)]; unfold factB; simp_all [Cmp.b] <;> (first | omega | (intros; omega) | (rw [Bool.eq_iff_iff]; simp <;> omega) | (rw [Bool.eq_iff_iff]; simp_all <;> omega))) | (unfold factB; simp_all [Cmp.b] <;> (first | omega | (intros; omega) | (rw [Bool.eq_iff_iff]; simp <;> omega) | (rw [Bool.eq_iff_iff]; simp_all <;> omega))))
    have h2 : (f.v.length : Int) ≤ 8 := q1
    clear q1
    obtain ⟨p2, x1, hx1, he1, ep1⟩ := Sl.at (hvl.mono hle1) 0 (by omega)
    obtain ⟨cs1, hc2, hr1⟩ := he1
    obtain ⟨v2, rfl, hs2, hb4, hb5⟩ := FactE_open hr1
    rcases Bool.eq_false_or_eq_true (kindsB f.v x1.v) with h3 | h3
    · refine dr [(25, false)] [(5, .agg #[.int .i64 f.t.a, .int .i64 f.t.b]), (6, .bool true), (10, v1), (11, .int .i64 (f.v.length : Int)), (12, .bool false), (16, v1), (17, vl), (18, .pointer (some p2)), (20, v2), (21, .bool true), (26, v1), (27, .bool (f.v.any (fun x8 => !valB x8)))] hS1 ⟨fun _ hSw => WL.loadGAt hSw (Cells.drop 1 hc1) [.int .i64 f.t.a, .int .i64 f.t.b] ti46 rfl rfl rfl rfl rfl <| nu rfl rfl, fun _ hSw => WL.callD hSw hb84 rfl rfl rfl (c_span hSw.imm f.t _ (SpanE_mk f.t hb1 hb2) ) (congrArg Value.bool h1.symm), fun _ hSw => WL.loadG1 hSw (Cells.drop 0 hc1) ti61 rfl rfl rfl <| nu rfl rfl, fun _ => WL.lenSl (hs1.mono hle1) ul61 rfl rfl <| nu rfl rfl, fun _ => WL.cmpV .gtr rfl .i64 (f.v.length : Int) 8 _ hb3 rfl rfl rfl <| nu rfl rfl, fun _ hSw => WL.loadG1 hSw (Cells.drop 0 hc1) ti61 rfl rfl rfl <| nu rfl rfl, fun _ hSw => WL.loadG1 hSw (hpl.mono hle1) ti22 rfl rfl rfl <| nu rfl rfl, fun _ => WL.indexAddrP 0 ep1 ul22 ti63 rfl rfl rfl rfl <| nu rfl rfl, fun _ hSw => WL.loadG1 hSw (Cells.drop 0 hc2) ti61 rfl rfl rfl <| nu rfl rfl, fun _ hSw => WL.callD hSw hb116 rfl rfl rfl (c_kinds hSw.imm f.v x1.v _ (hs1.mono hle1) _ hs2 ) (congrArg Value.bool h3.symm), fun _ hSw => WL.loadG1 hSw (Cells.drop 0 hc1) ti61 rfl rfl rfl <| nu rfl rfl, fun _ hSw => WL.callD hSw hb117 rfl rfl rfl (c_ContainsV hSw.imm f.v (fun x8 => !valB x8) _ (hs1.mono hle1) 118 #[] ⟨hb118, fun G8 w8 v8 x8 hle8 hG8 hon8 hA8 => by obtain ⟨cs_x8, rfl, hr_x8⟩ := hA8; exact c_valid11 hG8 x8 cs_x8 hr_x8 ⟩ ) rfl, trivial⟩ (fun w3 hS3 => ?_)
      exact RB hS3 rfl (by first | (rw [hl0 _ (by assumption)]; unfold factB; simp_all [Cmp.b] <;> (first | omega | (intros; omega) | (rw [Bool.eq_iff_iff]; simp <;> omega) | (rw [Bool.eq_iff_iff]; simp_all <;> omega))) | (unfold factB; simp_all [Cmp.b] <;> (first | omega | (intros; omega) | (rw [Bool.eq_iff_iff]; simp <;> omega) | (rw [Bool.eq_iff_iff]; simp_all <;> omega))))
    refine dr [(25, false)] [(5, .agg #[.int .i64 f.t.a, .int .i64 f.t.b]), (6, .bool true), (10, v1), (11, .int .i64 (f.v.length : Int)), (12, .bool false), (16, v1), (17, vl), (18, .pointer (some p2)), (20, v2), (21, .bool false)] hS1 ⟨fun _ hSw => WL.loadGAt hSw (Cells.drop 1 hc1) [.int .i64 f.t.a, .int .i64 f.t.b] ti46 rfl rfl rfl rfl rfl <| nu rfl rfl, fun _ hSw => WL.callD hSw hb84 rfl rfl rfl (c_span hSw.imm f.t _ (SpanE_mk f.t hb1 hb2) ) (congrArg Value.bool h1.symm), fun _ hSw => WL.loadG1 hSw (Cells.drop 0 hc1) ti61 rfl rfl rfl <| nu rfl rfl, fun _ => WL.lenSl (hs1.mono hle1) ul61 rfl rfl <| nu rfl rfl, fun _ => WL.cmpV .gtr rfl .i64 (f.v.length : Int) 8 _ hb3 rfl rfl rfl <| nu rfl rfl, fun _ hSw => WL.loadG1 hSw (Cells.drop 0 hc1) ti61 rfl rfl rfl <| nu rfl rfl, fun _ hSw => WL.loadG1 hSw (hpl.mono hle1) ti22 rfl rfl rfl <| nu rfl rfl, fun _ => WL.indexAddrP 0 ep1 ul22 ti63 rfl rfl rfl rfl <| nu rfl rfl, fun _ hSw => WL.loadG1 hSw (Cells.drop 0 hc2) ti61 rfl rfl rfl <| nu rfl rfl, fun _ hSw => WL.callD hSw hb116 rfl rfl rfl (c_kinds hSw.imm f.v x1.v _ (hs1.mono hle1) _ hs2 ) (congrArg Value.bool h3.symm), trivial⟩ (fun w4 hS4 => ?_)
    exact RB hS4 rfl (by first | (rw [hl0 _ (by assumption)]; unfold factB; simp_all [Cmp.b] <;> (first | omega | (intros; omega) | (rw [Bool.eq_iff_iff]; simp <;> omega) | (rw [Bool.eq_iff_iff]; simp_all <;> omega))) | (unfold factB; simp_all [Cmp.b] <;> (first | omega | (intros; omega) | (rw [Bool.eq_iff_iff]; simp <;> omega) | (rw [Bool.eq_iff_iff]; simp_all <;> omega))))
  refine dr [(25, false)] [(5, .agg #[.int .i64 f.t.a, .int .i64 f.t.b]), (6, .bool false)] hS1 ⟨fun _ hSw => WL.loadGAt hSw (Cells.drop 1 hc1) [.int .i64 f.t.a, .int .i64 f.t.b] ti46 rfl rfl rfl rfl rfl <| nu rfl rfl, fun _ hSw => WL.callD hSw hb84 rfl rfl rfl (c_span hSw.imm f.t _ (SpanE_mk f.t hb1 hb2) ) (congrArg Value.bool h1.symm), trivial⟩ (fun w5 hS5 => ?_)
  exact RB hS5 rfl (by first | (rw [hl0 _ (by assumption)]; unfold factB; simp_all [Cmp.b] <;> (first | omega | (intros; omega) | (rw [Bool.eq_iff_iff]; simp <;> omega) | (rw [Bool.eq_iff_iff]; simp_all <;> omega))) | (unfold factB; simp_all [Cmp.b] <;> (first | omega | (intros; omega) | (rw [Bool.eq_iff_iff]; simp <;> omega) | (rw [Bool.eq_iff_iff]; simp_all <;> omega))))

theorem c_valid {G : GH} {w : World} (hG : G.In w) (l : List Fact) (vl : Value) (hvl : Sl FactE 40 G vl l)  : CL Tryz.prog (nat_lit 57) #[vl] [] w G fun _ _ r => r = .bool (validB l) := by
  refine calls_of_go ft [] Tryz.func57 rfl rfl ?_
  have hS := St.start (X := []) hG
  refine WL.boxG [vl] _ hS rfl rfl hvl.cells1 (fun p1 w1 G1 hle1 hsp1 hc1 hS1 => ?_)
  refine WL.loadG1 hS1 hc1 ti22 rfl rfl rfl ?_
  have bd1 := hvl.bound
  refine WL.lenSl (hvl.mono hle1) ul22 rfl rfl ?_
  refine WL.leqS (l.length : Int) 1000 rfl rfl rfl (fun h1 => ?_) (fun h1 => ?_)
  · refine WL.loadG1 hS1 hc1 ti22 rfl rfl rfl ?_
    refine WL.cV hS1 hb55 rfl rfl rfl (c_ContainsF hS1.imm l (fun x8 => !factB (l.head?.elim [] Fact.v) x8) _ (hvl.mono hle1) 115 #[.pointer (some p1)] ⟨hb115, fun G8 w8 v8 x8 hle8 hG8 hon8 hA8 => by obtain ⟨cs_x8, rfl, hr_x8⟩ := hA8; exact c_valid1 hG8 l x8 cs_x8 hr_x8 vl ((hvl.mono hle1).mono hle8) p1 (hc1.mono hle8) (List.length_pos_of_mem hon8)⟩ ) (fun w2 G2 hS2 hle2 => ?_)
    exact RB hS2 rfl (by unfold validB; simp_all [Cmp.b, any_not] <;> (omega))
  exact RB hS1 rfl (by unfold validB; simp_all [Cmp.b, any_not] <;> (omega))

theorem c_great11 {G : GH} {w : World} (hG : G.In w) (f : Fact) (cf : List Value) (hcf : FactE.rep G f cf)  : CL Tryz.prog (nat_lit 56) #[.agg cf.toArray] [] w G fun _ _ r => r = .bool (decide (10 < f.v.length)) := by
  refine calls_of_go ft [] Tryz.func56 rfl rfl ?_
  have hS := St.start (X := []) hG
  obtain ⟨v1, rfl, hs1, hb1, hb2⟩ := FactE_open hcf
  refine WL.boxG [v1, .int .i64 f.t.a, .int .i64 f.t.b] _ hS rfl rfl rfl (fun p1 w1 G1 hle1 hsp1 hc1 hS1 => ?_)
  refine WL.loadG1 hS1 (Cells.drop 0 hc1) ti61 rfl rfl rfl ?_
  have bd1 := hs1.bound
  refine WL.lenSl (hs1.mono hle1) ul61 rfl rfl ?_
  refine WL.cmp .gtr rfl .i64 (f.v.length : Int) 10 rfl rfl rfl ?_
  exact RB hS1 rfl (by simp [Cmp.b] <;> (omega))

theorem c_great1 {G : GH} {w : World} (hG : G.In w) (l : List Fact) (vl : Value) (hvl : Sl FactE 40 G vl l)  : CL Tryz.prog (nat_lit 54) #[vl] [] w G fun _ _ r => r = .bool (greatB l) := by
  refine calls_of_go ft [] Tryz.func54 rfl rfl ?_
  have hS := St.start (X := []) hG
  have bd1 := hvl.bound
  refine WL.lenSl hvl ul22 rfl rfl ?_
  refine WL.gtrS (l.length : Int) 20 rfl rfl rfl (fun h1 => ?_) (fun h1 => ?_)
  · exact RB hS rfl (by unfold greatB; simp_all [Cmp.b] <;> (omega))
  refine WL.cV hS hb55 rfl rfl rfl (c_ContainsF hS.imm l (fun x8 => decide (10 < x8.v.length)) _ hvl 56 #[] ⟨hb56, fun G8 w8 v8 x8 hle8 hG8 hon8 hA8 => by obtain ⟨cs_x8, rfl, hr_x8⟩ := hA8; exact c_great11 hG8 x8 cs_x8 hr_x8 ⟩ ) (fun w1 G1 hS1 hle1 => ?_)
  exact RB hS1 rfl (by unfold greatB; simp_all [Cmp.b] <;> (omega))

theorem c_great {G : GH} {w : World} (hG : G.In w) (l : List (List Fact)) (vl : Value) (hvl : Sl (FactE.slice 40) 24 G vl l)  : CL Tryz.prog (nat_lit 12) #[vl] [] w G fun _ _ r => r = .bool (l.any greatB) := by
  refine calls_of_go ft [] Tryz.func12 rfl rfl ?_
  have hS := St.start (X := []) hG
  refine WL.cV hS hb53 rfl rfl rfl (c_ContainsFF hS.imm l (fun x8 => greatB x8) _ hvl 54 #[] ⟨hb54, fun G8 w8 v8 x8 hle8 hG8 hon8 hA8 => by exact c_great1 hG8 x8 v8 hA8 ⟩ ) (fun w1 G1 hS1 hle1 => ?_)
  exact RB hS1 rfl (by rfl)

theorem c_sign {G : GH} {w : World} (hG : G.In w) (a b : Int)  : CL Tryz.prog (nat_lit 165) #[.int .i64 a, .int .i64 b] [] w G fun _ _ r => r = .int .i64 (sgn a b) := by
  refine calls_of_go ft [] Tryz.func165 rfl rfl ?_
  have hS := St.start (X := []) hG
  refine WL.lssS a b rfl rfl rfl (fun h1 => ?_) (fun h1 => ?_)
  · exact RI hS rfl (by unfold sgn; split <;> (try split) <;> rfl)
  refine WL.gtrS a b rfl rfl rfl (fun h2 => ?_) (fun h2 => ?_)
  · exact RI hS rfl (by unfold sgn; split <;> (try split) <;> omega)
  exact RI hS rfl (by unfold sgn; split <;> (try split) <;> omega)

theorem c_rSpan {G : GH} {w : World} (hG : G.In w) (x : Span) (cx : List Value) (hcx : SpanE.rep G x cx)  : CL Tryz.prog (nat_lit 86) #[.agg cx.toArray] [] w G fun _ _ r => r = .bool (spanB x) := by
  refine calls_of_go ft [] Tryz.func86 rfl rfl ?_
  have hS := St.start (X := []) hG
  obtain ⟨rfl, hb1, hb2⟩ := SpanE_open hcx
  refine WL.boxG [.int .i64 x.a, .int .i64 x.b] _ hS rfl rfl rfl (fun p1 w1 G1 hle1 hsp1 hc1 hS1 => ?_)
  refine WL.loadG1 hS1 (Cells.drop 0 hc1) ti3 rfl rfl rfl ?_
  refine WL.geqS x.a (-62135596800) rfl rfl rfl (fun h1 => ?_) (fun h1 => ?_)
  · refine WL.loadG1 hS1 (Cells.drop 0 hc1) ti3 rfl rfl rfl ?_
    refine WL.loadG1 hS1 (Cells.drop 1 hc1) ti3 rfl rfl rfl ?_
    refine WL.lssS x.a x.b rfl rfl rfl (fun h2 => ?_) (fun h2 => ?_)
    · refine WL.loadG1 hS1 (Cells.drop 1 hc1) ti3 rfl rfl rfl ?_
      refine WL.cmp .leq rfl .i64 x.b 253402300800 rfl rfl rfl ?_
      exact RB hS1 rfl (by unfold spanB; simp_all [Cmp.b] <;> (first | omega | (intros; omega) | (rw [Bool.eq_iff_iff]; simp <;> omega) | (rw [Bool.eq_iff_iff]; simp_all <;> omega)))
    exact RB hS1 rfl (by unfold spanB; simp_all [Cmp.b] <;> (omega))
  exact RB hS1 rfl (by unfold spanB; simp_all [Cmp.b] <;> (omega))

theorem c_rkinds {G : GH} {w : World} (hG : G.In w) (a b : List Val) (va : Value) (hva : Sl ValE 32 G va a) (vb : Value) (hvb : Sl ValE 32 G vb b)  : CL Tryz.prog (nat_lit 75) #[va, vb] [] w G fun _ _ r => r = .bool (kindsB a b) := by
  refine calls_of_go ft [] Tryz.func75 rfl rfl ?_
  have hS := St.start (X := []) hG
  have bd1 := hva.bound
  refine WL.lenSl hva ul61 rfl rfl ?_
  have bd2 := hvb.bound
  refine WL.lenSl hvb ul61 rfl rfl ?_
  refine WL.neqS (a.length : Int) (b.length : Int) rfl rfl rfl (fun h1 => ?_) (fun h1 => ?_)
  · exact RB hS rfl (by unfold kindsB; exact (eqF_len (by omega)).symm)
  refine LP.go ft [] (fun m ρ1 w1 => ∃ (k1 : Nat), ∃ (G1 : GH), m = a.length - k1 ∧ G.le G1 ∧ St w [] G G1 [] w1 ∧ FR ρ1 [(0, va), (1, vb), (5, .int .i64 (k1 : Int))] ∧ k1 ≤ a.length ∧ ∀ j, j < k1 → ∀ x y, a[j]? = some x → b[j]? = some y → decide (x.k = y.k) = true) _ ⟨0, G, rfl, (G.le_refl), hS, ⟨rfl, rfl, rfl, trivial⟩, (by omega), (by intro j hj; omega)⟩ ?_
  rintro m ρ1 w1 ⟨k1, G1, rfl, hle1, hS1, hF9, f1, f2⟩
  refine hF9.set ?_
  clear hF9
  have bd3 := hva.bound
  refine WL.lenSl (hva.mono hle1) ul61 rfl rfl ?_
  refine WL.lssS (k1 : Int) (a.length : Int) rfl rfl rfl (fun h2 => ?_) (fun h2 => ?_)
  · obtain ⟨p1, x1, hx1, he1, ep1⟩ := Sl.at (hva.mono hle1) k1 (by omega)
    obtain ⟨cs1, hc1, hr1⟩ := he1
    obtain ⟨rfl, hb1, hb2, hb3⟩ := ValE_open hr1
    obtain ⟨p2, x2, hx2, he2, ep2⟩ := Sl.at (hvb.mono hle1) k1 (by omega)
    obtain ⟨cs2, hc2, hr2⟩ := he2
    obtain ⟨rfl, hb4, hb5, hb6⟩ := ValE_open hr2
    rcases Cmp.dec .neq x1.k x2.k with ⟨hb7, q1⟩ | ⟨hb7, q1⟩
    · have h3 : x1.k ≠ x2.k := q1
      clear q1
      refine dr [] [(19, .pointer (some p1)), (21, .int .i64 x1.k), (24, .pointer (some p2)), (26, .int .i64 x2.k), (27, .bool true)] hS1 ⟨fun _ => WL.indexAddrP k1 ep1 ul61 ti34 rfl rfl rfl rfl <| nu rfl rfl, fun _ hSw => WL.loadG1 hSw (Cells.drop 0 hc1) ti3 rfl rfl rfl <| nu rfl rfl, fun _ => WL.indexAddrP k1 ep2 ul61 ti34 rfl rfl rfl rfl <| nu rfl rfl, fun _ hSw => WL.loadG1 hSw (Cells.drop 0 hc2) ti3 rfl rfl rfl <| nu rfl rfl, fun _ => WL.cmpV .neq rfl .i64 x1.k x2.k _ hb7 rfl rfl rfl <| nu rfl rfl, trivial⟩ (fun w2 hS2 => ?_)
      exact RB hS2 rfl (by unfold kindsB; exact (eqF_no (f := fun (x y : Val) => decide (x.k = y.k)) (by assumption) (by assumption) (decide_eq_false (by assumption))).symm)
    have h3 : x1.k = x2.k := q1
    clear q1
    refine dr [] [(19, .pointer (some p1)), (21, .int .i64 x1.k), (24, .pointer (some p2)), (26, .int .i64 x2.k), (27, .bool false)] hS1 ⟨fun _ => WL.indexAddrP k1 ep1 ul61 ti34 rfl rfl rfl rfl <| nu rfl rfl, fun _ hSw => WL.loadG1 hSw (Cells.drop 0 hc1) ti3 rfl rfl rfl <| nu rfl rfl, fun _ => WL.indexAddrP k1 ep2 ul61 ti34 rfl rfl rfl rfl <| nu rfl rfl, fun _ hSw => WL.loadG1 hSw (Cells.drop 0 hc2) ti3 rfl rfl rfl <| nu rfl rfl, fun _ => WL.cmpV .neq rfl .i64 x1.k x2.k _ hb7 rfl rfl rfl <| nu rfl rfl, trivial⟩ (fun w3 hS3 => ?_)
    refine WL.incr k1 (by have hreach : reach = 140737488355328 := rfl; omega) rfl rfl rfl ?_
    exact BK.mk' _ ⟨k1 + 1, G1, rfl, hle1, hS3, ⟨rfl, rfl, rfl, trivial⟩, (by omega), (by exact lt_step2 (by assumption) (by assumption) (by assumption) (by simp_all))⟩ (show a.length - (k1 + 1) < a.length - k1 by omega)
  exact RB hS1 rfl (by unfold kindsB; exact (eqF_yes (by omega) (by assumption) (by omega)).symm)

theorem c_rValid {G : GH} {w : World} (hG : G.In w) (x : Val) (cx : List Value) (hcx : ValE.rep G x cx)  : CL Tryz.prog (nat_lit 145) #[.agg cx.toArray] [] w G fun _ _ r => r = .bool (valB x) := by
  refine calls_of_go ft [] Tryz.func145 rfl rfl ?_
  have hS := St.start (X := []) hG
  obtain ⟨rfl, hb1, hb2, hb3⟩ := ValE_open hcx
  refine WL.boxG [.int .i64 x.k, .int .i64 x.n, strV x.s] _ hS rfl rfl rfl (fun p1 w1 G1 hle1 hsp1 hc1 hS1 => ?_)
  refine WL.loadG1 hS1 (Cells.drop 0 hc1) ti3 rfl rfl rfl ?_
  refine WL.eqlS x.k 1 rfl rfl rfl (fun h1 => ?_) (fun h1 => ?_)
  · refine WL.loadG1 hS1 (Cells.drop 2 hc1) ti9 rfl rfl rfl ?_
    refine WL.strCmp .eql rfl x.s [] rfl rfl rfl ?_
    exact RB hS1 rfl (by first | exact (valB_text (by assumption) (by assumption) (by omega) (all_yes (by assumption) (by omega))).symm | exact (valB_bad (by assumption) (by assumption) (by simp [okC]; omega)).symm | (unfold valB; simp_all [Cmp.b, SCmp.b] <;> (first | omega | (intros; omega) | (rw [Bool.eq_iff_iff]; simp <;> omega) | (rw [Bool.eq_iff_iff]; simp_all <;> omega))))
  refine WL.eqlS x.k 2 rfl rfl rfl (fun h2 => ?_) (fun h2 => ?_)
  · refine WL.loadG1 hS1 (Cells.drop 1 hc1) ti3 rfl rfl rfl ?_
    refine WL.neqS x.n 0 rfl rfl rfl (fun h3 => ?_) (fun h3 => ?_)
    · exact RB hS1 rfl (by first | exact (valB_text (by assumption) (by assumption) (by omega) (all_yes (by assumption) (by omega))).symm | exact (valB_bad (by assumption) (by assumption) (by simp [okC]; omega)).symm | (unfold valB; simp_all [Cmp.b, SCmp.b] <;> (first | omega | (intros; omega) | (rw [Bool.eq_iff_iff]; simp <;> omega) | (rw [Bool.eq_iff_iff]; simp_all <;> omega))))
    refine WL.loadG1 hS1 (Cells.drop 2 hc1) ti9 rfl rfl rfl ?_
    refine WL.lenStr x.s ul9 rfl rfl ?_
    refine WL.gtrS (x.s.length : Int) 30 rfl rfl rfl (fun h4 => ?_) (fun h4 => ?_)
    · exact RB hS1 rfl (by first | exact (valB_text (by assumption) (by assumption) (by omega) (all_yes (by assumption) (by omega))).symm | exact (valB_bad (by assumption) (by assumption) (by simp [okC]; omega)).symm | (unfold valB; simp_all [Cmp.b, SCmp.b] <;> (first | omega | (intros; omega) | (rw [Bool.eq_iff_iff]; simp <;> omega) | (rw [Bool.eq_iff_iff]; simp_all <;> omega))))
    refine LP.go ft [] (fun m ρ1 w1 => ∃ (k1 : Nat), ∃ (G2 : GH), m = x.s.length - k1 ∧ G1.le G2 ∧ St w [] G G2 [] w1 ∧ FR ρ1 [(1, .pointer (some p1)), (3, .int .i64 (k1 : Int))] ∧ k1 ≤ x.s.length ∧ ∀ j, j < k1 → ∀ c, x.s[j]? = some c → okC c = true) _ ⟨0, G1, rfl, (G1.le_refl), hS1, ⟨rfl, rfl, trivial⟩, (by omega), (by intro j hj; omega)⟩ ?_
    rintro m ρ1 w2 ⟨k1, G2, rfl, hle2, hS2, hF9, f1, f2⟩
    refine hF9.set ?_
    clear hF9
    refine WL.loadG1 hS2 (Cells.drop 2 (hc1.mono hle2)) ti9 rfl rfl rfl ?_
    refine WL.lenStr x.s ul9 rfl rfl ?_
    refine WL.lssS (k1 : Int) (x.s.length : Int) rfl rfl rfl (fun h5 => ?_) (fun h5 => ?_)
    · refine WL.loadG1 hS2 (Cells.drop 2 (hc1.mono hle2)) ti9 rfl rfl rfl ?_
      refine WL.indexStr x.s k1 (by omega) ul9 rfl rfl rfl (fun c1 hx1 => ?_)
      refine WL.lssS (c1.toNat : Int) 32 rfl rfl rfl (fun h6 => ?_) (fun h6 => ?_)
      · exact RB hS2 rfl (by first | exact (valB_text (by assumption) (by assumption) (by omega) (all_yes (by assumption) (by omega))).symm | exact (valB_bad (by assumption) (by assumption) (by simp [okC]; omega)).symm | (unfold valB; simp_all [Cmp.b, SCmp.b] <;> (first | omega | (intros; omega) | (rw [Bool.eq_iff_iff]; simp <;> omega) | (rw [Bool.eq_iff_iff]; simp_all <;> omega))))
      refine WL.loadG1 hS2 (Cells.drop 2 (hc1.mono hle2)) ti9 rfl rfl rfl ?_
      refine WL.indexStr x.s k1 (by omega) ul9 rfl rfl rfl (fun c2 hx2 => ?_)
      obtain rfl : c1 = c2 := Option.some.inj (hx1.symm.trans hx2)
      refine WL.gtrS (c1.toNat : Int) 126 rfl rfl rfl (fun h7 => ?_) (fun h7 => ?_)
      · exact RB hS2 rfl (by first | exact (valB_text (by assumption) (by assumption) (by omega) (all_yes (by assumption) (by omega))).symm | exact (valB_bad (by assumption) (by assumption) (by simp [okC]; omega)).symm | (unfold valB; simp_all [Cmp.b, SCmp.b] <;> (first | omega | (intros; omega) | (rw [Bool.eq_iff_iff]; simp <;> omega) | (rw [Bool.eq_iff_iff]; simp_all <;> omega))))
      refine WL.incr k1 (by have hreach : reach = 140737488355328 := rfl; omega) rfl rfl rfl ?_
      exact BK.mk' _ ⟨k1 + 1, G2, rfl, hle2, hS2, ⟨rfl, rfl, trivial⟩, (by omega), (by exact lt_step (by assumption) (by assumption) (by simp [okC]; omega))⟩ (show x.s.length - (k1 + 1) < x.s.length - k1 by omega)
    exact RB hS2 rfl (by first | exact (valB_text (by assumption) (by assumption) (by omega) (all_yes (by assumption) (by omega))).symm | exact (valB_bad (by assumption) (by assumption) (by simp [okC]; omega)).symm | (unfold valB; simp_all [Cmp.b, SCmp.b] <;> (first | omega | (intros; omega) | (rw [Bool.eq_iff_iff]; simp <;> omega) | (rw [Bool.eq_iff_iff]; simp_all <;> omega))))
  refine WL.eqlS x.k 3 rfl rfl rfl (fun h8 => ?_) (fun h8 => ?_)
  · refine WL.loadG1 hS1 (Cells.drop 2 hc1) ti9 rfl rfl rfl ?_
    refine WL.strCmp .eql rfl x.s [] rfl rfl rfl ?_
    refine WL.split (fun h0 => ?_) (fun h0 => ?_)
    · have h9 : x.s = [] := by simpa [SCmp.b] using h0
      clear h0
      refine WL.loadG1 hS1 (Cells.drop 1 hc1) ti3 rfl rfl rfl ?_
      refine WL.eqlS x.n 0 rfl rfl rfl (fun h10 => ?_) (fun h10 => ?_)
      · exact RB hS1 rfl (by first | exact (valB_text (by assumption) (by assumption) (by omega) (all_yes (by assumption) (by omega))).symm | exact (valB_bad (by assumption) (by assumption) (by simp [okC]; omega)).symm | (unfold valB; simp_all [Cmp.b, SCmp.b] <;> (first | omega | (intros; omega) | (rw [Bool.eq_iff_iff]; simp <;> omega) | (rw [Bool.eq_iff_iff]; simp_all <;> omega))))
      refine WL.loadG1 hS1 (Cells.drop 1 hc1) ti3 rfl rfl rfl ?_
      refine WL.cmp .eql rfl .i64 x.n 1 rfl rfl rfl ?_
      exact RB hS1 rfl (by first | exact (valB_text (by assumption) (by assumption) (by omega) (all_yes (by assumption) (by omega))).symm | exact (valB_bad (by assumption) (by assumption) (by simp [okC]; omega)).symm | (unfold valB; simp_all [Cmp.b, SCmp.b] <;> (first | omega | (intros; omega) | (rw [Bool.eq_iff_iff]; simp <;> omega) | (rw [Bool.eq_iff_iff]; simp_all <;> omega))))
    have h9 : x.s ≠ [] := by simpa [SCmp.b] using h0
    clear h0
    exact RB hS1 rfl (by first | exact (valB_text (by assumption) (by assumption) (by omega) (all_yes (by assumption) (by omega))).symm | exact (valB_bad (by assumption) (by assumption) (by simp [okC]; omega)).symm | (unfold valB; simp_all [Cmp.b, SCmp.b] <;> (first | omega | (intros; omega) | (rw [Bool.eq_iff_iff]; simp <;> omega) | (rw [Bool.eq_iff_iff]; simp_all <;> omega))))
  refine WL.eqlS x.k 4 rfl rfl rfl (fun h11 => ?_) (fun h11 => ?_)
  · refine WL.loadG1 hS1 (Cells.drop 2 hc1) ti9 rfl rfl rfl ?_
    refine WL.strCmp .eql rfl x.s [] rfl rfl rfl ?_
    refine WL.split (fun h0 => ?_) (fun h0 => ?_)
    · have h12 : x.s = [] := by simpa [SCmp.b] using h0
      clear h0
      refine WL.loadG1 hS1 (Cells.drop 1 hc1) ti3 rfl rfl rfl ?_
      refine WL.geqS x.n (-62135596800) rfl rfl rfl (fun h13 => ?_) (fun h13 => ?_)
      · refine WL.loadG1 hS1 (Cells.drop 1 hc1) ti3 rfl rfl rfl ?_
        refine WL.cmp .leq rfl .i64 x.n 253402300800 rfl rfl rfl ?_
        exact RB hS1 rfl (by first | exact (valB_text (by assumption) (by assumption) (by omega) (all_yes (by assumption) (by omega))).symm | exact (valB_bad (by assumption) (by assumption) (by simp [okC]; omega)).symm | (unfold valB; simp_all [Cmp.b, SCmp.b] <;> (first | omega | (intros; omega) | (rw [Bool.eq_iff_iff]; simp <;> omega) | (rw [Bool.eq_iff_iff]; simp_all <;> omega))))
      exact RB hS1 rfl (by first | exact (valB_text (by assumption) (by assumption) (by omega) (all_yes (by assumption) (by omega))).symm | exact (valB_bad (by assumption) (by assumption) (by simp [okC]; omega)).symm | (unfold valB; simp_all [Cmp.b, SCmp.b] <;> (first | omega | (intros; omega) | (rw [Bool.eq_iff_iff]; simp <;> omega) | (rw [Bool.eq_iff_iff]; simp_all <;> omega))))
    have h12 : x.s ≠ [] := by simpa [SCmp.b] using h0
    clear h0
    exact RB hS1 rfl (by first | exact (valB_text (by assumption) (by assumption) (by omega) (all_yes (by assumption) (by omega))).symm | exact (valB_bad (by assumption) (by assumption) (by simp [okC]; omega)).symm | (unfold valB; simp_all [Cmp.b, SCmp.b] <;> (first | omega | (intros; omega) | (rw [Bool.eq_iff_iff]; simp <;> omega) | (rw [Bool.eq_iff_iff]; simp_all <;> omega))))
  exact RB hS1 rfl (by first | exact (valB_text (by assumption) (by assumption) (by omega) (all_yes (by assumption) (by omega))).symm | exact (valB_bad (by assumption) (by assumption) (by simp [okC]; omega)).symm | (unfold valB; simp_all [Cmp.b, SCmp.b] <;> (first | omega | (intros; omega) | (rw [Bool.eq_iff_iff]; simp <;> omega) | (rw [Bool.eq_iff_iff]; simp_all <;> omega))))

theorem c_rAll {G : GH} {w : World} (hG : G.In w) (l : List Val) (vl : Value) (hvl : Sl ValE 32 G vl l)  : CL Tryz.prog (nat_lit 92) #[vl] [] w G fun _ _ r => r = .bool (l.all valB) := by
  refine calls_of_go ft [] Tryz.func92 rfl rfl ?_
  have hS := St.start (X := []) hG
  refine LP.go ft [] (fun m ρ1 w1 => ∃ (k1 : Nat), ∃ (G1 : GH), m = l.length - k1 ∧ G.le G1 ∧ St w [] G G1 [] w1 ∧ FR ρ1 [(0, vl), (3, .int .i64 (k1 : Int))] ∧ k1 ≤ l.length ∧ ∀ j, j < k1 → ∀ x, l[j]? = some x → valB x = true) _ ⟨0, G, rfl, (G.le_refl), hS, ⟨rfl, rfl, trivial⟩, (by omega), (by intro j hj; omega)⟩ ?_
  rintro m ρ1 w1 ⟨k1, G1, rfl, hle1, hS1, hF9, f1, f2⟩
  refine hF9.set ?_
  clear hF9
  have bd1 := hvl.bound
  refine WL.lenSl (hvl.mono hle1) ul61 rfl rfl ?_
  refine WL.lssS (k1 : Int) (l.length : Int) rfl rfl rfl (fun h1 => ?_) (fun h1 => ?_)
  · refine WL.indexAddr (hvl.mono hle1) k1 (by omega) ul61 ti34 rfl rfl rfl rfl (fun p1 x1 hx1 he1 => ?_)
    obtain ⟨cs1, hc1, hr1⟩ := he1
    obtain ⟨rfl, hb1, hb2, hb3⟩ := ValE_open hr1
    refine WL.loadGAt hS1 hc1 [.int .i64 x1.k, .int .i64 x1.n, strV x1.s] ti34 rfl rfl rfl rfl rfl ?_
    refine WL.cV hS1 hb145 rfl rfl rfl (c_rValid hS1.imm x1 _ (ValE_mk x1 hb1 hb2 hb3) ) (fun w2 G2 hS2 hle2 => ?_)
    refine WL.split (fun (h2 : (valB x1) = true) => ?_) (fun (h2 : (valB x1) = false) => ?_)
    · refine WL.incr k1 (by have hreach : reach = 140737488355328 := rfl; omega) rfl rfl rfl ?_
      exact BK.mk' _ ⟨k1 + 1, G2, rfl, (hle1.trans hle2), hS2, ⟨rfl, rfl, trivial⟩, (by omega), (by exact lt_step (by assumption) (by assumption) (by simpa using (by assumption)))⟩ (show l.length - (k1 + 1) < l.length - k1 by omega)
    exact RB hS2 rfl (by exact (all_no (by assumption) (by simpa using (by assumption))).symm)
  exact RB hS1 rfl (by exact (all_yes (by assumption) (by omega)).symm)
end Go.Civ
