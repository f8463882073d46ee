/- The examples of the chapter. -/
import Derived.Test.YtapjalhjfblonaaGreatMCiv19
import Derived.Test.YtapjalhjfblonaaGreatProg
import Derived.KernelRfl
import Derived.WalkKit
import Derived.Test.YtapjalhjfblonaaGreatMWj
namespace Go.Civ
set_option linter.unusedVariables false
theorem sort_one {f : Fact} : sortF [f] = [f] := by simp [sortF]
theorem canon_one {s : Span} : canon [s] = [s] := by simp [canon, sortA, mergeS, mstep]
theorem nf_one {f : Fact} : nf [f] = [f] := by
  unfold nf grp; rw [sort_one]; simp [groupL, gstep, cgroups, canon_one, listedL]
def awA : List Fact := [factL 10 20 [1], factL 0 10 [1]]
def awB : List Fact := [factL 0 10 [1, 2]]
def awC : List Fact := [factL 5 15 [2, 3]]
theorem awA_nf : nf awA = [factL 0 20 [1]] := by
  have h1 : sortF awA = awA := List.mergeSort_of_pairwise (by simp [awA, factL]; decide)
  have h2 : groupL awA = [⟨[⟨1, 1, []⟩], [⟨10, 20⟩, ⟨0, 10⟩]⟩] := by decide
  have h3 : canon [⟨10, 20⟩, ⟨0, 10⟩] = [⟨0, 20⟩] := by
    rw [← mergeS_canon (s := [⟨0, 10⟩, ⟨10, 20⟩]) (List.Perm.swap _ _ _) (by simp) (by simp)]
    decide
  unfold nf grp; rw [h1, h2]
  simp [cgroups, h3, listedL, factL]
theorem awA_L : normL awA = [factL 0 20 [1]] := by
  unfold normL finL; rw [awA_nf]; decide
theorem awA_E : normE awA = 0 := by
  unfold normE finE; rw [awA_nf]; decide
theorem awB_L : normL awB = awB := by unfold normL finL awB; rw [nf_one]; decide
theorem awC_L : normL awC = awC := by unfold normL finL awC; rw [nf_one]; decide
theorem aw_join : joinF [(1, 0)] awB awC = [factL 5 10 [1, 2, 3]] := by decide
theorem aw_L : joinL awB awC [(1, 0)] = [factL 5 10 [1, 2, 3]] := by
  unfold joinL finL; rw [awB_L, awC_L, aw_join, nf_one]; decide
theorem aw_E : joinE awB awC [(1, 0)] = 0 := by
  unfold joinE finE; rw [awB_L, awC_L, aw_join, nf_one]; decide
theorem aw_len : (joinF [(1, 0)] (normL awB) (normL awC)).length ≤ 20 := by rw [awB_L, awC_L, aw_join]; decide
theorem ch_no {l : List Fact} {x : Int} (h : x ∈ endsL l) (k : decide (atL l (x - 1) = atL l x) = true) : False := by rw [atL_change h] at k; cases k
theorem len0 {l : List Fact} {t : Int} (h : atL l t = []) : Cmp.b .eql (((atL l t).length : Nat) : Int) 0 = true := by rw [h]; rfl
end Go.Civ
set_option linter.unusedVariables false
set_option linter.unusedSimpArgs false
set_option maxRecDepth 100000
set_option maxHeartbeats 4000000
namespace Go.Civ
open Go.Proofs


theorem c_awake {G : GH} {w : World} (hG : G.In w)   : CL Tryz.prog (nat_lit 11) #[] [] w G fun _ _ r => r = .bool true := by
  refine calls_of_go ft [] Tryz.func11 rfl rfl ?_
  have hS := St.start (X := []) hG
  refine WL.buildSlice _ [(0, [.int .i64 1])] [.int .i64 1] hS sl38 rfl rfl rfl rfl (fun z hz => by match z, hz with | [z0], _ => rfl) (fun b1 w1 hn1 hS1 => ?_)
  obtain ⟨G1, hle1, hs1, hS2⟩ := St.sealSl (E := Enc.int) (by_ := 8) (l := ([1] : List Int)) hS1 hn1 ⟨[.int .i64 1], _, rfl, ⟨rfl, (show I64 1 from by constructor <;> decide)⟩, rfl⟩ rfl (by simp [reach]) (by simp [reach])
  refine WL.cA hS2 hb51 rfl rfl rfl (c_fact hS2.imm 10 20 [1] _ hs1 (by constructor <;> decide) (by constructor <;> decide) (by simp)) (fun w2 G2 r1 hpost1 hS3 hle2 => ?_)
  obtain ⟨cs1, rfl, hr1⟩ := hpost1
  obtain ⟨v1, rfl, hs2, hb1, hb2⟩ := FactE_open hr1
  refine WL.buildSlice _ [(0, [.int .i64 1])] [.int .i64 1] hS3 sl38 rfl rfl rfl rfl (fun z hz => by match z, hz with | [z0], _ => rfl) (fun b2 w3 hn2 hS4 => ?_)
  obtain ⟨G3, hle3, hs3, hS5⟩ := St.sealSl (E := Enc.int) (by_ := 8) (l := ([1] : List Int)) hS4 hn2 ⟨[.int .i64 1], _, rfl, ⟨rfl, (show I64 1 from by constructor <;> decide)⟩, rfl⟩ rfl (by simp [reach]) (by simp [reach])
  refine WL.cA hS5 hb51 rfl rfl rfl (c_fact hS5.imm 0 10 [1] _ hs3 (by constructor <;> decide) (by constructor <;> decide) (by simp)) (fun w4 G4 r2 hpost2 hS6 hle4 => ?_)
  obtain ⟨cs2, rfl, hr2⟩ := hpost2
  obtain ⟨v2, rfl, hs4, hb3, hb4⟩ := FactE_open hr2
  refine WL.buildSlice _ [(0, [v1, .int .i64 ((factL 10 20 [1]).t.a), .int .i64 ((factL 10 20 [1]).t.b)]), (1, [v2, .int .i64 ((factL 0 10 [1]).t.a), .int .i64 ((factL 0 10 [1]).t.b)])] [v1, .int .i64 ((factL 10 20 [1]).t.a), .int .i64 ((factL 10 20 [1]).t.b), v2, .int .i64 ((factL 0 10 [1]).t.a), .int .i64 ((factL 0 10 [1]).t.b)] hS6 sl22 rfl rfl rfl rfl (fun z hz => by match z, hz with | [z0, z1, z2, z3, z4, z5], _ => rfl) (fun b3 w5 hn3 hS7 => ?_)
  obtain ⟨G5, hle5, hs5, hS8⟩ := St.sealSl (E := FactE) (by_ := 40) (l := ([(factL 10 20 [1]), (factL 0 10 [1])] : List Fact)) hS7 hn3 ⟨[v1, .int .i64 ((factL 10 20 [1]).t.a), .int .i64 ((factL 10 20 [1]).t.b)], _, rfl, (FactE_mk (factL 10 20 [1]) (hs2.mono (hle3.trans hle4)) hb1 hb2), ⟨[v2, .int .i64 ((factL 0 10 [1]).t.a), .int .i64 ((factL 0 10 [1]).t.b)], _, rfl, (FactE_mk (factL 0 10 [1]) hs4 hb3 hb4), rfl⟩⟩ rfl (by simp [reach]) (by simp [reach])
  refine WL.cA hS8 hb32 rfl rfl rfl (c_Normal hS8.imm [(factL 10 20 [1]), (factL 0 10 [1])] _ hs5 ) ?_
  rintro w6 G6 _ ⟨r4, _, rfl, hs6, rfl⟩ hS9 hle6
  refine WL.buildSlice _ [(0, [.int .i64 1]), (1, [.int .i64 2])] [.int .i64 1, .int .i64 2] hS9 sl38 rfl rfl rfl rfl (fun z hz => by match z, hz with | [z0, z1], _ => rfl) (fun b4 w7 hn4 hS10 => ?_)
  obtain ⟨G7, hle7, hs7, hS11⟩ := St.sealSl (E := Enc.int) (by_ := 8) (l := ([1, 2] : List Int)) hS10 hn4 ⟨[.int .i64 1], _, rfl, ⟨rfl, (show I64 1 from by constructor <;> decide)⟩, ⟨[.int .i64 2], _, rfl, ⟨rfl, (show I64 2 from by constructor <;> decide)⟩, rfl⟩⟩ rfl (by simp [reach]) (by simp [reach])
  refine WL.cA hS11 hb51 rfl rfl rfl (c_fact hS11.imm 0 10 [1, 2] _ hs7 (by constructor <;> decide) (by constructor <;> decide) (by simp)) (fun w8 G8 r6 hpost4 hS12 hle8 => ?_)
  obtain ⟨cs3, rfl, hr3⟩ := hpost4
  obtain ⟨v3, rfl, hs8, hb5, hb6⟩ := FactE_open hr3
  refine WL.buildSlice _ [(0, [v3, .int .i64 ((factL 0 10 [1, 2]).t.a), .int .i64 ((factL 0 10 [1, 2]).t.b)])] [v3, .int .i64 ((factL 0 10 [1, 2]).t.a), .int .i64 ((factL 0 10 [1, 2]).t.b)] hS12 sl22 rfl rfl rfl rfl (fun z hz => by match z, hz with | [z0, z1, z2], _ => rfl) (fun b5 w9 hn5 hS13 => ?_)
  refine WL.buildSlice _ [(0, [.int .i64 2]), (1, [.int .i64 3])] [.int .i64 2, .int .i64 3] hS13 sl38 rfl rfl rfl rfl (fun z hz => by match z, hz with | [z0, z1], _ => rfl) (fun b6 w10 hn6 hS14 => ?_)
  obtain ⟨G9, hle9, hs9, hS15⟩ := St.sealSl (E := Enc.int) (by_ := 8) (l := ([2, 3] : List Int)) hS14 hn6 ⟨[.int .i64 2], _, rfl, ⟨rfl, (show I64 2 from by constructor <;> decide)⟩, ⟨[.int .i64 3], _, rfl, ⟨rfl, (show I64 3 from by constructor <;> decide)⟩, rfl⟩⟩ rfl (by simp [reach]) (by simp [reach])
  refine WL.cA hS15 hb51 rfl rfl rfl (c_fact hS15.imm 5 15 [2, 3] _ hs9 (by constructor <;> decide) (by constructor <;> decide) (by simp)) (fun w11 G10 r7 hpost5 hS16 hle10 => ?_)
  obtain ⟨cs4, rfl, hr4⟩ := hpost5
  obtain ⟨v4, rfl, hs10, hb7, hb8⟩ := FactE_open hr4
  refine WL.buildSlice _ [(0, [v4, .int .i64 ((factL 5 15 [2, 3]).t.a), .int .i64 ((factL 5 15 [2, 3]).t.b)])] [v4, .int .i64 ((factL 5 15 [2, 3]).t.a), .int .i64 ((factL 5 15 [2, 3]).t.b)] hS16 sl22 rfl rfl rfl rfl (fun z hz => by match z, hz with | [z0, z1, z2], _ => rfl) (fun b7 w12 hn7 hS17 => ?_)
  refine WL.buildArr _ [(0, [.int .i64 1]), (1, [.int .i64 0])] [.int .i64 1, .int .i64 0] ti87 ul87 ti3 rfl rfl rfl rfl ?_
  refine WL.buildSlice _ [(0, [.int .i64 1, .int .i64 0])] [.int .i64 1, .int .i64 0] hS17 sl88 rfl rfl rfl rfl (fun z hz => by match z, hz with | [z0, z1], _ => rfl) (fun b8 w13 hn8 hS18 => ?_)
  obtain ⟨G11, hle11, hs11, hS19⟩ := St.sealSlAt (E := FactE) (by_ := 40) (l := ([(factL 0 10 [1, 2])] : List Fact)) hS18 2 rfl hn5 ⟨[v3, .int .i64 ((factL 0 10 [1, 2]).t.a), .int .i64 ((factL 0 10 [1, 2]).t.b)], _, rfl, (FactE_mk (factL 0 10 [1, 2]) (hs8.mono (hle9.trans hle10)) hb5 hb6), rfl⟩ rfl (by simp [reach]) (by simp [reach])
  obtain ⟨G12, hle12, hs12, hS20⟩ := St.sealSlAt (E := FactE) (by_ := 40) (l := ([(factL 5 15 [2, 3])] : List Fact)) hS19 1 rfl hn7 ⟨[v4, .int .i64 ((factL 5 15 [2, 3]).t.a), .int .i64 ((factL 5 15 [2, 3]).t.b)], _, rfl, (FactE_mk (factL 5 15 [2, 3]) (hs10.mono hle11) hb7 hb8), rfl⟩ rfl (by simp [reach]) (by simp [reach])
  obtain ⟨G13, hle13, hs13, hS21⟩ := St.sealSl (E := PairE) (by_ := 16) (l := ([(1, 0)] : List (Int × Int))) hS20 hn8 ⟨[.int .i64 1, .int .i64 0], _, rfl, (PairE_mk (1, 0) (show I64 1 from by constructor <;> decide) (show I64 0 from by constructor <;> decide)), rfl⟩ rfl (by simp [reach]) (by simp [reach])
  refine WL.cA hS21 hb52 rfl rfl rfl (c_Join hS21.imm [(factL 0 10 [1, 2])] [(factL 5 15 [2, 3])] [(1, 0)] _ (hs11.mono (hle12.trans hle13)) _ (hs12.mono hle13) _ hs13 ) ?_
  rintro w14 G14 _ ⟨r9, _, rfl, hs14, rfl⟩ hS22 hle14
  refine WL.eqlS (normE [(factL 10 20 [1]), (factL 0 10 [1])]) 0 rfl rfl rfl (fun h1 => ?_) (fun h1 => ?_)
  · refine WL.buildSlice _ [(0, [.int .i64 1])] [.int .i64 1] hS22 sl38 rfl rfl rfl rfl (fun z hz => by match z, hz with | [z0], _ => rfl) (fun b9 w15 hn9 hS23 => ?_)
    obtain ⟨G15, hle15, hs15, hS24⟩ := St.sealSl (E := Enc.int) (by_ := 8) (l := ([1] : List Int)) hS23 hn9 ⟨[.int .i64 1], _, rfl, ⟨rfl, (show I64 1 from by constructor <;> decide)⟩, rfl⟩ rfl (by simp [reach]) (by simp [reach])
    refine WL.cA hS24 hb51 rfl rfl rfl (c_fact hS24.imm 0 20 [1] _ hs15 (by constructor <;> decide) (by constructor <;> decide) (by simp)) (fun w16 G16 r11 hpost7 hS25 hle16 => ?_)
    obtain ⟨cs5, rfl, hr5⟩ := hpost7
    obtain ⟨v5, rfl, hs16, hb9, hb10⟩ := FactE_open hr5
    refine WL.buildSlice _ [(0, [v5, .int .i64 ((factL 0 20 [1]).t.a), .int .i64 ((factL 0 20 [1]).t.b)])] [v5, .int .i64 ((factL 0 20 [1]).t.a), .int .i64 ((factL 0 20 [1]).t.b)] hS25 sl22 rfl rfl rfl rfl (fun z hz => by match z, hz with | [z0, z1, z2], _ => rfl) (fun b10 w17 hn10 hS26 => ?_)
    obtain ⟨G17, hle17, hs17, hS27⟩ := St.sealSl (E := FactE) (by_ := 40) (l := ([(factL 0 20 [1])] : List Fact)) hS26 hn10 ⟨[v5, .int .i64 ((factL 0 20 [1]).t.a), .int .i64 ((factL 0 20 [1]).t.b)], _, rfl, (FactE_mk (factL 0 20 [1]) hs16 hb9 hb10), rfl⟩ rfl (by simp [reach]) (by simp [reach])
    refine WL.cV hS27 hb30 rfl rfl rfl (c_rSame hS27.imm (normL [(factL 10 20 [1]), (factL 0 10 [1])]) [(factL 0 20 [1])] _ (hs6.mono ((((((((((hle7.trans hle8).trans hle9).trans hle10).trans hle11).trans hle12).trans hle13).trans hle14).trans hle15).trans hle16).trans hle17)) _ hs17 ) (fun w18 G18 hS28 hle18 => ?_)
    refine WL.split (fun (h2 : (decide ((normL [(factL 10 20 [1]), (factL 0 10 [1])]) = [(factL 0 20 [1])])) = true) => ?_) (fun (h2 : (decide ((normL [(factL 10 20 [1]), (factL 0 10 [1])]) = [(factL 0 20 [1])])) = false) => ?_)
    · refine WL.eqlS (joinE [(factL 0 10 [1, 2])] [(factL 5 15 [2, 3])] [(1, 0)]) 0 rfl rfl rfl (fun h3 => ?_) (fun h3 => ?_)
      · refine WL.buildSlice _ [(0, [.int .i64 1]), (1, [.int .i64 2]), (2, [.int .i64 3])] [.int .i64 1, .int .i64 2, .int .i64 3] hS28 sl38 rfl rfl rfl rfl (fun z hz => by match z, hz with | [z0, z1, z2], _ => rfl) (fun b11 w19 hn11 hS29 => ?_)
        obtain ⟨G19, hle19, hs18, hS30⟩ := St.sealSl (E := Enc.int) (by_ := 8) (l := ([1, 2, 3] : List Int)) hS29 hn11 ⟨[.int .i64 1], _, rfl, ⟨rfl, (show I64 1 from by constructor <;> decide)⟩, ⟨[.int .i64 2], _, rfl, ⟨rfl, (show I64 2 from by constructor <;> decide)⟩, ⟨[.int .i64 3], _, rfl, ⟨rfl, (show I64 3 from by constructor <;> decide)⟩, rfl⟩⟩⟩ rfl (by simp [reach]) (by simp [reach])
        refine WL.cA hS30 hb51 rfl rfl rfl (c_fact hS30.imm 5 10 [1, 2, 3] _ hs18 (by constructor <;> decide) (by constructor <;> decide) (by simp)) (fun w20 G20 r12 hpost8 hS31 hle20 => ?_)
        obtain ⟨cs6, rfl, hr6⟩ := hpost8
        obtain ⟨v6, rfl, hs19, hb11, hb12⟩ := FactE_open hr6
        refine WL.buildSlice _ [(0, [v6, .int .i64 ((factL 5 10 [1, 2, 3]).t.a), .int .i64 ((factL 5 10 [1, 2, 3]).t.b)])] [v6, .int .i64 ((factL 5 10 [1, 2, 3]).t.a), .int .i64 ((factL 5 10 [1, 2, 3]).t.b)] hS31 sl22 rfl rfl rfl rfl (fun z hz => by match z, hz with | [z0, z1, z2], _ => rfl) (fun b12 w21 hn12 hS32 => ?_)
        obtain ⟨G21, hle21, hs20, hS33⟩ := St.sealSl (E := FactE) (by_ := 40) (l := ([(factL 5 10 [1, 2, 3])] : List Fact)) hS32 hn12 ⟨[v6, .int .i64 ((factL 5 10 [1, 2, 3]).t.a), .int .i64 ((factL 5 10 [1, 2, 3]).t.b)], _, rfl, (FactE_mk (factL 5 10 [1, 2, 3]) hs19 hb11 hb12), rfl⟩ rfl (by simp [reach]) (by simp [reach])
        refine WL.cV hS33 hb30 rfl rfl rfl (c_rSame hS33.imm (joinL [(factL 0 10 [1, 2])] [(factL 5 15 [2, 3])] [(1, 0)]) [(factL 5 10 [1, 2, 3])] _ (hs14.mono ((((((hle15.trans hle16).trans hle17).trans hle18).trans hle19).trans hle20).trans hle21)) _ hs20 ) (fun w22 G22 hS34 hle22 => ?_)
        exact RB hS34 rfl (by exact decide_eq_true aw_L)
      exact RB hS28 rfl (by exact absurd aw_E (by assumption))
    exact RB hS28 rfl (by exact absurd awA_L (of_decide_eq_false (by assumption)))
  exact RB hS22 rfl (by exact absurd awA_E (by assumption))
end Go.Civ
