/- Walks, printed by specs38.py. -/
import Derived.Test.YtapjalhjfblonaaGreatProg
import Derived.KernelRfl
import Derived.WalkKit
import Derived.Test.YtapjalhjfblonaaGreatWj
import Derived.Test.YtapjalhjfblonaaGreatCiv20
set_option linter.unusedVariables false
set_option linter.unusedSimpArgs false
set_option maxRecDepth 100000
set_option maxHeartbeats 4000000
namespace Go.Civ
open Go.Proofs
theorem sl88 : TSl Tryz.prog (nat_lit 88) (nat_lit 87) ⟨true, 2, 16, .agg #[.int .i64 0, .int .i64 0]⟩ := ⟨ul88, ti87⟩
theorem sl89 : TSl Tryz.prog (nat_lit 89) (nat_lit 22) ⟨false, 1, 24, .slice none 0 0⟩ := ⟨ul89, ti22⟩
theorem hb11 : HasBody Tryz.prog (nat_lit 11) := hasBody_of Tryz.func11 (by decide) rfl
theorem hb12 : HasBody Tryz.prog (nat_lit 12) := hasBody_of Tryz.func12 (by decide) rfl
theorem hb30 : HasBody Tryz.prog (nat_lit 30) := hasBody_of Tryz.func30 (by decide) rfl
theorem hb33 : HasBody Tryz.prog (nat_lit 33) := hasBody_of Tryz.func33 (by decide) rfl
theorem hb36 : HasBody Tryz.prog (nat_lit 36) := hasBody_of Tryz.func36 (by decide) rfl
theorem hb44 : HasBody Tryz.prog (nat_lit 44) := hasBody_of Tryz.func44 (by decide) rfl
theorem hb45 : HasBody Tryz.prog (nat_lit 45) := hasBody_of Tryz.func45 (by decide) rfl
theorem hb46 : HasBody Tryz.prog (nat_lit 46) := hasBody_of Tryz.func46 (by decide) rfl
theorem hb51 : HasBody Tryz.prog (nat_lit 51) := hasBody_of Tryz.func51 (by decide) rfl
theorem hb52 : HasBody Tryz.prog (nat_lit 52) := hasBody_of Tryz.func52 (by decide) rfl

theorem c_awake (G : GH) (w : World) (hG : G.In w)   : Calls Tryz.prog (nat_lit 11) #[] w fun e w' => ∃ r G', e = .returned r ∧ Res [] w G w' G' ∧ r = .bool true := by
  refine calls_of_WC (N := 46) Tryz.func11 rfl rfl rfl ?_
  have hS := St.start (X := []) hG
  refine WC.seq ?_
  refine WC.region rfl ?_
  refine WL.assign rfl ?_
  refine WL.nil ?_
  refine WC.seq ?_
  refine WC.region rfl ?_
  refine WL.buildSlice _ [(0, [.int .i64 1])] [.int .i64 1] hS sl38 rfl rfl rfl rfl (fun z hz => by match z, hz with | [z0], _ => rfl) (fun b1 w1 hn1 hS1 => ?_)
  obtain ⟨G1, hle1, hs1, hS2⟩ := St.sealSl (E := Enc.int) (by_ := 8) (l := ([1] : List Int)) hS1 hn1 ⟨[.int .i64 1], _, rfl, ⟨rfl, (show I64 1 from by constructor <;> decide)⟩, rfl⟩ rfl (by simp [reach]) (by simp [reach])
  refine WL.callF [.int .i64 10, .int .i64 20, .slice (some ⟨b1, 0, none⟩) 1 1] #[] hb51 rfl rfl rfl ((c_fact _ _ hS2.imm 10 20 [1] _ hs1 (by constructor <;> decide) (by constructor <;> decide) (by simp)).mono ?_)
  rintro e w2 ⟨r1, G2, rfl, hres1, hpost1⟩
  refine ⟨_, rfl, ?_⟩
  have hS3 := hS2.call hres1
  have hle2 := hres1.le
  obtain ⟨cs1, rfl, hr1⟩ := hpost1
  obtain ⟨v1, rfl, hs2, hb1, hb2⟩ := FactE_open hr1
  refine WL.buildSlice _ [(0, [.int .i64 1])] [.int .i64 1] hS3 sl38 rfl rfl rfl rfl (fun z hz => by match z, hz with | [z0], _ => rfl) (fun b2 w3 hn2 hS4 => ?_)
  obtain ⟨G3, hle3, hs3, hS5⟩ := St.sealSl (E := Enc.int) (by_ := 8) (l := ([1] : List Int)) hS4 hn2 ⟨[.int .i64 1], _, rfl, ⟨rfl, (show I64 1 from by constructor <;> decide)⟩, rfl⟩ rfl (by simp [reach]) (by simp [reach])
  refine WL.callF [.int .i64 0, .int .i64 10, .slice (some ⟨b2, 0, none⟩) 1 1] #[] hb51 rfl rfl rfl ((c_fact _ _ hS5.imm 0 10 [1] _ hs3 (by constructor <;> decide) (by constructor <;> decide) (by simp)).mono ?_)
  rintro e w4 ⟨r2, G4, rfl, hres2, hpost2⟩
  refine ⟨_, rfl, ?_⟩
  have hS6 := hS5.call hres2
  have hle4 := hres2.le
  obtain ⟨cs2, rfl, hr2⟩ := hpost2
  obtain ⟨v2, rfl, hs4, hb3, hb4⟩ := FactE_open hr2
  refine WL.buildSlice _ [(0, [v1, .int .i64 ((factL 10 20 [1]).t.a), .int .i64 ((factL 10 20 [1]).t.b)]), (1, [v2, .int .i64 ((factL 0 10 [1]).t.a), .int .i64 ((factL 0 10 [1]).t.b)])] [v1, .int .i64 ((factL 10 20 [1]).t.a), .int .i64 ((factL 10 20 [1]).t.b), v2, .int .i64 ((factL 0 10 [1]).t.a), .int .i64 ((factL 0 10 [1]).t.b)] hS6 sl22 rfl rfl rfl rfl (fun z hz => by match z, hz with | [z0, z1, z2, z3, z4, z5], _ => rfl) (fun b3 w5 hn3 hS7 => ?_)
  obtain ⟨G5, hle5, hs5, hS8⟩ := St.sealSl (E := FactE) (by_ := 40) (l := ([(factL 10 20 [1]), (factL 0 10 [1])] : List Fact)) hS7 hn3 ⟨[v1, .int .i64 ((factL 10 20 [1]).t.a), .int .i64 ((factL 10 20 [1]).t.b)], _, rfl, (FactE_mk (factL 10 20 [1]) (hs2.mono (hle3.trans hle4)) hb1 hb2), ⟨[v2, .int .i64 ((factL 0 10 [1]).t.a), .int .i64 ((factL 0 10 [1]).t.b)], _, rfl, (FactE_mk (factL 0 10 [1]) hs4 hb3 hb4), rfl⟩⟩ rfl (by simp [reach]) (by simp [reach])
  refine WL.callF [.slice (some ⟨b3, 0, none⟩) 2 2] #[] hb32 rfl rfl rfl ((c_Normal _ _ hS8.imm [(factL 10 20 [1]), (factL 0 10 [1])] _ hs5 (by simp)).mono ?_)
  rintro e w6 ⟨r3, G6, rfl, hres3, hpost3⟩
  refine ⟨_, rfl, ?_⟩
  have hS9 := hS8.call hres3
  have hle6 := hres3.le
  obtain ⟨r4, r5, rfl, hs6, rfl⟩ := hpost3
  refine WL.move rfl ?_
  refine WL.extract _ _ rfl rfl rfl ?_
  refine WL.extract _ _ rfl rfl rfl ?_
  refine WL.assign rfl ?_
  refine WL.assign rfl ?_
  refine WL.nil ?_
  refine WC.seq ?_
  refine WC.region rfl ?_
  refine WL.buildSlice _ [(0, [.int .i64 1]), (1, [.int .i64 2])] [.int .i64 1, .int .i64 2] hS9 sl38 rfl rfl rfl rfl (fun z hz => by match z, hz with | [z0, z1], _ => rfl) (fun b4 w7 hn4 hS10 => ?_)
  obtain ⟨G7, hle7, hs7, hS11⟩ := St.sealSl (E := Enc.int) (by_ := 8) (l := ([1, 2] : List Int)) hS10 hn4 ⟨[.int .i64 1], _, rfl, ⟨rfl, (show I64 1 from by constructor <;> decide)⟩, ⟨[.int .i64 2], _, rfl, ⟨rfl, (show I64 2 from by constructor <;> decide)⟩, rfl⟩⟩ rfl (by simp [reach]) (by simp [reach])
  refine WL.callF [.int .i64 0, .int .i64 10, .slice (some ⟨b4, 0, none⟩) 2 2] #[] hb51 rfl rfl rfl ((c_fact _ _ hS11.imm 0 10 [1, 2] _ hs7 (by constructor <;> decide) (by constructor <;> decide) (by simp)).mono ?_)
  rintro e w8 ⟨r6, G8, rfl, hres4, hpost4⟩
  refine ⟨_, rfl, ?_⟩
  have hS12 := hS11.call hres4
  have hle8 := hres4.le
  obtain ⟨cs3, rfl, hr3⟩ := hpost4
  obtain ⟨v3, rfl, hs8, hb5, hb6⟩ := FactE_open hr3
  refine WL.buildSlice _ [(0, [v3, .int .i64 ((factL 0 10 [1, 2]).t.a), .int .i64 ((factL 0 10 [1, 2]).t.b)])] [v3, .int .i64 ((factL 0 10 [1, 2]).t.a), .int .i64 ((factL 0 10 [1, 2]).t.b)] hS12 sl22 rfl rfl rfl rfl (fun z hz => by match z, hz with | [z0, z1, z2], _ => rfl) (fun b5 w9 hn5 hS13 => ?_)
  refine WL.buildSlice _ [(0, [.int .i64 2]), (1, [.int .i64 3])] [.int .i64 2, .int .i64 3] hS13 sl38 rfl rfl rfl rfl (fun z hz => by match z, hz with | [z0, z1], _ => rfl) (fun b6 w10 hn6 hS14 => ?_)
  obtain ⟨G9, hle9, hs9, hS15⟩ := St.sealSl (E := Enc.int) (by_ := 8) (l := ([2, 3] : List Int)) hS14 hn6 ⟨[.int .i64 2], _, rfl, ⟨rfl, (show I64 2 from by constructor <;> decide)⟩, ⟨[.int .i64 3], _, rfl, ⟨rfl, (show I64 3 from by constructor <;> decide)⟩, rfl⟩⟩ rfl (by simp [reach]) (by simp [reach])
  refine WL.callF [.int .i64 5, .int .i64 15, .slice (some ⟨b6, 0, none⟩) 2 2] #[] hb51 rfl rfl rfl ((c_fact _ _ hS15.imm 5 15 [2, 3] _ hs9 (by constructor <;> decide) (by constructor <;> decide) (by simp)).mono ?_)
  rintro e w11 ⟨r7, G10, rfl, hres5, hpost5⟩
  refine ⟨_, rfl, ?_⟩
  have hS16 := hS15.call hres5
  have hle10 := hres5.le
  obtain ⟨cs4, rfl, hr4⟩ := hpost5
  obtain ⟨v4, rfl, hs10, hb7, hb8⟩ := FactE_open hr4
  refine WL.buildSlice _ [(0, [v4, .int .i64 ((factL 5 15 [2, 3]).t.a), .int .i64 ((factL 5 15 [2, 3]).t.b)])] [v4, .int .i64 ((factL 5 15 [2, 3]).t.a), .int .i64 ((factL 5 15 [2, 3]).t.b)] hS16 sl22 rfl rfl rfl rfl (fun z hz => by match z, hz with | [z0, z1, z2], _ => rfl) (fun b7 w12 hn7 hS17 => ?_)
  refine WL.buildArr _ [(0, [.int .i64 1]), (1, [.int .i64 0])] [.int .i64 1, .int .i64 0] ti87 ul87 ti3 rfl rfl rfl rfl ?_
  refine WL.buildSlice _ [(0, [.int .i64 1, .int .i64 0])] [.int .i64 1, .int .i64 0] hS17 sl88 rfl rfl rfl rfl (fun z hz => by match z, hz with | [z0, z1], _ => rfl) (fun b8 w13 hn8 hS18 => ?_)
  obtain ⟨G11, hle11, hs11, hS19⟩ := St.sealSlAt (E := FactE) (by_ := 40) (l := ([(factL 0 10 [1, 2])] : List Fact)) hS18 2 rfl hn5 ⟨[v3, .int .i64 ((factL 0 10 [1, 2]).t.a), .int .i64 ((factL 0 10 [1, 2]).t.b)], _, rfl, (FactE_mk (factL 0 10 [1, 2]) (hs8.mono (hle9.trans hle10)) hb5 hb6), rfl⟩ rfl (by simp [reach]) (by simp [reach])
  obtain ⟨G12, hle12, hs12, hS20⟩ := St.sealSlAt (E := FactE) (by_ := 40) (l := ([(factL 5 15 [2, 3])] : List Fact)) hS19 1 rfl hn7 ⟨[v4, .int .i64 ((factL 5 15 [2, 3]).t.a), .int .i64 ((factL 5 15 [2, 3]).t.b)], _, rfl, (FactE_mk (factL 5 15 [2, 3]) (hs10.mono hle11) hb7 hb8), rfl⟩ rfl (by simp [reach]) (by simp [reach])
  obtain ⟨G13, hle13, hs13, hS21⟩ := St.sealSl (E := PairE) (by_ := 16) (l := ([(1, 0)] : List (Int × Int))) hS20 hn8 ⟨[.int .i64 1, .int .i64 0], _, rfl, (PairE_mk (1, 0) (show I64 1 from by constructor <;> decide) (show I64 0 from by constructor <;> decide)), rfl⟩ rfl (by simp [reach]) (by simp [reach])
  refine WL.callF [.slice (some ⟨b5, 0, none⟩) 1 1, .slice (some ⟨b7, 0, none⟩) 1 1, .slice (some ⟨b8, 0, none⟩) 1 1] #[] hb52 rfl rfl rfl ((c_Join _ _ hS21.imm [(factL 0 10 [1, 2])] [(factL 5 15 [2, 3])] [(1, 0)] _ (hs11.mono (hle12.trans hle13)) _ (hs12.mono hle13) _ hs13 (by simp) (by simp) aw_len).mono ?_)
  rintro e w14 ⟨r8, G14, rfl, hres6, hpost6⟩
  refine ⟨_, rfl, ?_⟩
  have hS22 := hS21.call hres6
  have hle14 := hres6.le
  obtain ⟨r9, r10, rfl, hs14, rfl⟩ := hpost6
  refine WL.move rfl ?_
  refine WL.extract _ _ rfl rfl rfl ?_
  refine WL.extract _ _ rfl rfl rfl ?_
  refine WL.assign rfl ?_
  refine WL.assign rfl ?_
  refine WL.nil ?_
  refine WC.seq ?_
  refine WC.region rfl ?_
  refine WL.move rfl ?_
  refine WL.cmpS .eql rfl .i64 (normE [(factL 10 20 [1]), (factL 0 10 [1])]) 0 rfl rfl rfl (fun (h1 : (normE [(factL 10 20 [1]), (factL 0 10 [1])]) = 0) => ?_) (fun (h1 : (normE [(factL 10 20 [1]), (factL 0 10 [1])]) ≠ 0) => ?_)
  · refine WL.move rfl ?_
    refine WL.move rfl ?_
    refine WL.buildSlice _ [(0, [.int .i64 1])] [.int .i64 1] hS22 sl38 rfl rfl rfl rfl (fun z hz => by match z, hz with | [z0], _ => rfl) (fun b9 w15 hn9 hS23 => ?_)
    obtain ⟨G15, hle15, hs15, hS24⟩ := St.sealSl (E := Enc.int) (by_ := 8) (l := ([1] : List Int)) hS23 hn9 ⟨[.int .i64 1], _, rfl, ⟨rfl, (show I64 1 from by constructor <;> decide)⟩, rfl⟩ rfl (by simp [reach]) (by simp [reach])
    refine WL.callF [.int .i64 0, .int .i64 20, .slice (some ⟨b9, 0, none⟩) 1 1] #[] hb51 rfl rfl rfl ((c_fact _ _ hS24.imm 0 20 [1] _ hs15 (by constructor <;> decide) (by constructor <;> decide) (by simp)).mono ?_)
    rintro e w16 ⟨r11, G16, rfl, hres7, hpost7⟩
    refine ⟨_, rfl, ?_⟩
    have hS25 := hS24.call hres7
    have hle16 := hres7.le
    obtain ⟨cs5, rfl, hr5⟩ := hpost7
    obtain ⟨v5, rfl, hs16, hb9, hb10⟩ := FactE_open hr5
    refine WL.buildSlice _ [(0, [v5, .int .i64 ((factL 0 20 [1]).t.a), .int .i64 ((factL 0 20 [1]).t.b)])] [v5, .int .i64 ((factL 0 20 [1]).t.a), .int .i64 ((factL 0 20 [1]).t.b)] hS25 sl22 rfl rfl rfl rfl (fun z hz => by match z, hz with | [z0, z1, z2], _ => rfl) (fun b10 w17 hn10 hS26 => ?_)
    obtain ⟨G17, hle17, hs17, hS27⟩ := St.sealSl (E := FactE) (by_ := 40) (l := ([(factL 0 20 [1])] : List Fact)) hS26 hn10 ⟨[v5, .int .i64 ((factL 0 20 [1]).t.a), .int .i64 ((factL 0 20 [1]).t.b)], _, rfl, (FactE_mk (factL 0 20 [1]) hs16 hb9 hb10), rfl⟩ rfl (by simp [reach]) (by simp [reach])
    refine WL.callF [r4, .slice (some ⟨b10, 0, none⟩) 1 1] #[] hb30 rfl rfl rfl ((c_rSame _ _ hS27.imm (normL [(factL 10 20 [1]), (factL 0 10 [1])]) [(factL 0 20 [1])] _ (hs6.mono ((((((((((hle7.trans hle8).trans hle9).trans hle10).trans hle11).trans hle12).trans hle13).trans hle14).trans hle15).trans hle16).trans hle17)) _ hs17 ).mono ?_)
    rintro e w18 ⟨r12, G18, rfl, hres8, hpost8⟩
    refine ⟨_, rfl, ?_⟩
    have hS28 := hS27.call hres8
    have hle18 := hres8.le
    subst hpost8
    refine WL.split (fun (h2 : (decide ((normL [(factL 10 20 [1]), (factL 0 10 [1])]) = [(factL 0 20 [1])])) = true) => ?_) (fun (h2 : (decide ((normL [(factL 10 20 [1]), (factL 0 10 [1])]) = [(factL 0 20 [1])])) = false) => ?_)
    · refine WL.pickT rfl rfl ?_
      refine WL.move rfl ?_
      refine WL.move rfl ?_
      refine WL.cmpS .eql rfl .i64 (joinE [(factL 0 10 [1, 2])] [(factL 5 15 [2, 3])] [(1, 0)]) 0 rfl rfl rfl (fun (h3 : (joinE [(factL 0 10 [1, 2])] [(factL 5 15 [2, 3])] [(1, 0)]) = 0) => ?_) (fun (h3 : (joinE [(factL 0 10 [1, 2])] [(factL 5 15 [2, 3])] [(1, 0)]) ≠ 0) => ?_)
      · refine WL.pickT rfl rfl ?_
        refine WL.move rfl ?_
        refine WL.move rfl ?_
        refine WL.buildSlice _ [(0, [.int .i64 1]), (1, [.int .i64 2]), (2, [.int .i64 3])] [.int .i64 1, .int .i64 2, .int .i64 3] hS28 sl38 rfl rfl rfl rfl (fun z hz => by match z, hz with | [z0, z1, z2], _ => rfl) (fun b11 w19 hn11 hS29 => ?_)
        obtain ⟨G19, hle19, hs18, hS30⟩ := St.sealSl (E := Enc.int) (by_ := 8) (l := ([1, 2, 3] : List Int)) hS29 hn11 ⟨[.int .i64 1], _, rfl, ⟨rfl, (show I64 1 from by constructor <;> decide)⟩, ⟨[.int .i64 2], _, rfl, ⟨rfl, (show I64 2 from by constructor <;> decide)⟩, ⟨[.int .i64 3], _, rfl, ⟨rfl, (show I64 3 from by constructor <;> decide)⟩, rfl⟩⟩⟩ rfl (by simp [reach]) (by simp [reach])
        refine WL.callF [.int .i64 5, .int .i64 10, .slice (some ⟨b11, 0, none⟩) 3 3] #[] hb51 rfl rfl rfl ((c_fact _ _ hS30.imm 5 10 [1, 2, 3] _ hs18 (by constructor <;> decide) (by constructor <;> decide) (by simp)).mono ?_)
        rintro e w20 ⟨r13, G20, rfl, hres9, hpost9⟩
        refine ⟨_, rfl, ?_⟩
        have hS31 := hS30.call hres9
        have hle20 := hres9.le
        obtain ⟨cs6, rfl, hr6⟩ := hpost9
        obtain ⟨v6, rfl, hs19, hb11, hb12⟩ := FactE_open hr6
        refine WL.buildSlice _ [(0, [v6, .int .i64 ((factL 5 10 [1, 2, 3]).t.a), .int .i64 ((factL 5 10 [1, 2, 3]).t.b)])] [v6, .int .i64 ((factL 5 10 [1, 2, 3]).t.a), .int .i64 ((factL 5 10 [1, 2, 3]).t.b)] hS31 sl22 rfl rfl rfl rfl (fun z hz => by match z, hz with | [z0, z1, z2], _ => rfl) (fun b12 w21 hn12 hS32 => ?_)
        obtain ⟨G21, hle21, hs20, hS33⟩ := St.sealSl (E := FactE) (by_ := 40) (l := ([(factL 5 10 [1, 2, 3])] : List Fact)) hS32 hn12 ⟨[v6, .int .i64 ((factL 5 10 [1, 2, 3]).t.a), .int .i64 ((factL 5 10 [1, 2, 3]).t.b)], _, rfl, (FactE_mk (factL 5 10 [1, 2, 3]) hs19 hb11 hb12), rfl⟩ rfl (by simp [reach]) (by simp [reach])
        refine WL.callF [r9, .slice (some ⟨b12, 0, none⟩) 1 1] #[] hb30 rfl rfl rfl ((c_rSame _ _ hS33.imm (joinL [(factL 0 10 [1, 2])] [(factL 5 15 [2, 3])] [(1, 0)]) [(factL 5 10 [1, 2, 3])] _ (hs14.mono ((((((hle15.trans hle16).trans hle17).trans hle18).trans hle19).trans hle20).trans hle21)) _ hs20 ).mono ?_)
        rintro e w22 ⟨r14, G22, rfl, hres10, hpost10⟩
        refine ⟨_, rfl, ?_⟩
        have hS34 := hS33.call hres10
        have hle22 := hres10.le
        subst hpost10
        refine WL.pickT rfl rfl ?_
        refine WL.assign rfl ?_
        refine WL.nil ?_
        refine WC.ret ?_
        exact ⟨.bool (decide ((joinL [(factL 0 10 [1, 2])] [(factL 5 15 [2, 3])] [(1, 0)]) = [(factL 5 10 [1, 2, 3])])), rfl, .bool (decide ((joinL [(factL 0 10 [1, 2])] [(factL 5 15 [2, 3])] [(1, 0)]) = [(factL 5 10 [1, 2, 3])])), _, rfl, hS34.res, (congrArg Value.bool (by first | rfl | exact absurd awA_E (by assumption) | exact absurd awA_L (of_decide_eq_false (by assumption)) | exact absurd aw_E (by assumption) | exact absurd aw_L (of_decide_eq_false (by assumption)) | exact decide_eq_true aw_L))⟩
      refine WL.pickT rfl rfl ?_
      refine WL.move rfl ?_
      refine WL.no rfl rfl ?_
      refine WL.no rfl rfl ?_
      refine WL.no rfl rfl ?_
      refine WL.no rfl rfl ?_
      refine WL.no rfl rfl ?_
      refine WL.pickF rfl rfl ?_
      refine WL.assign rfl ?_
      refine WL.nil ?_
      refine WC.ret ?_
      exact ⟨.bool false, rfl, .bool false, _, rfl, hS28.res, (congrArg Value.bool (by first | rfl | exact absurd awA_E (by assumption) | exact absurd awA_L (of_decide_eq_false (by assumption)) | exact absurd aw_E (by assumption) | exact absurd aw_L (of_decide_eq_false (by assumption)) | exact decide_eq_true aw_L))⟩
    refine WL.pickT rfl rfl ?_
    refine WL.move rfl ?_
    refine WL.no rfl rfl ?_
    refine WL.no rfl rfl ?_
    refine WL.pickF rfl rfl ?_
    refine WL.move rfl ?_
    refine WL.no rfl rfl ?_
    refine WL.no rfl rfl ?_
    refine WL.no rfl rfl ?_
    refine WL.no rfl rfl ?_
    refine WL.no rfl rfl ?_
    refine WL.pickF rfl rfl ?_
    refine WL.assign rfl ?_
    refine WL.nil ?_
    refine WC.ret ?_
    exact ⟨.bool false, rfl, .bool false, _, rfl, hS28.res, (congrArg Value.bool (by first | rfl | exact absurd awA_E (by assumption) | exact absurd awA_L (of_decide_eq_false (by assumption)) | exact absurd aw_E (by assumption) | exact absurd aw_L (of_decide_eq_false (by assumption)) | exact decide_eq_true aw_L))⟩
  refine WL.move rfl ?_
  refine WL.no rfl rfl ?_
  refine WL.no rfl rfl ?_
  refine WL.no rfl rfl ?_
  refine WL.no rfl rfl ?_
  refine WL.no rfl rfl ?_
  refine WL.pickF rfl rfl ?_
  refine WL.move rfl ?_
  refine WL.no rfl rfl ?_
  refine WL.no rfl rfl ?_
  refine WL.pickF rfl rfl ?_
  refine WL.move rfl ?_
  refine WL.no rfl rfl ?_
  refine WL.no rfl rfl ?_
  refine WL.no rfl rfl ?_
  refine WL.no rfl rfl ?_
  refine WL.no rfl rfl ?_
  refine WL.pickF rfl rfl ?_
  refine WL.assign rfl ?_
  refine WL.nil ?_
  refine WC.ret ?_
  exact ⟨.bool false, rfl, .bool false, _, rfl, hS22.res, (congrArg Value.bool (by first | rfl | exact absurd awA_E (by assumption) | exact absurd awA_L (of_decide_eq_false (by assumption)) | exact absurd aw_E (by assumption) | exact absurd aw_L (of_decide_eq_false (by assumption)) | exact decide_eq_true aw_L))⟩

theorem c_AlgebraEnds (G : GH) (w : World) (hG : G.In w) (l : List Fact) (t : Int) (vl : Value) (hvl : Sl FactE 40 G vl l)  : Calls Tryz.prog (nat_lit 9) #[vl, .int .i64 t] w fun e w' => ∃ r G', e = .returned r ∧ Res [] w G w' G' ∧ r = .bool true := by
  refine calls_of_WC (N := 92) Tryz.func9 rfl rfl rfl ?_
  have hS := St.start (X := []) hG
  refine WC.seq ?_
  refine WC.region rfl ?_
  refine WL.assign rfl ?_
  refine WL.nil ?_
  refine WC.seq ?_
  refine WC.seq ?_
  refine WC.region rfl ?_
  refine WL.callF [] #[] hb11 rfl rfl rfl ((c_awake _ _ hS.imm   ).mono ?_)
  rintro e w1 ⟨r1, G1, rfl, hres1, hpost1⟩
  refine ⟨_, rfl, ?_⟩
  have hS1 := hS.call hres1
  have hle1 := hres1.le
  subst hpost1
  refine WL.not true rfl rfl ?_
  refine WL.nil ?_
  refine WC.condF rfl ?_
  refine WC.skip ?_
  refine WC.seq ?_
  refine WC.seq ?_
  refine WC.region rfl ?_
  refine WL.move rfl ?_
  refine WL.buildSlice _ [(0, [vl])] [vl] hS1 sl89 rfl rfl rfl (by show [(0, (vl : Value).cells.toList)] = _; simp only [(hvl.mono hle1).cells1] <;> rfl) (fun z hz => by match z, hz with | [z0], _ => rfl) (fun b1 w2 hn1 hS2 => ?_)
  obtain ⟨G2, hle2, hs1, hS3⟩ := St.sealSl (E := (FactE.slice 40)) (by_ := 24) (l := ([l] : List (List Fact))) hS2 hn1 ⟨[vl], _, rfl, ⟨_, rfl, (hvl.mono hle1)⟩, rfl⟩ rfl (by simp [reach]) (by simp [reach])
  refine WL.callF [.slice (some ⟨b1, 0, none⟩) 1 1] #[] hb12 rfl rfl rfl ((c_great _ _ hS3.imm [l] _ hs1 ).mono ?_)
  rintro e w3 ⟨r2, G3, rfl, hres2, hpost2⟩
  refine ⟨_, rfl, ?_⟩
  have hS4 := hS3.call hres2
  have hle3 := hres2.le
  subst hpost2
  refine WL.split (fun (h1 : ([l].any greatB) = true) => ?_) (fun (h1 : ([l].any greatB) = false) => ?_)
  · refine WL.move rfl ?_
    refine WL.no rfl rfl ?_
    refine WL.no rfl rfl ?_
    refine WL.no rfl rfl ?_
    refine WL.pickT rfl rfl ?_
    refine WL.nil ?_
    refine WC.condT rfl ?_
    refine WC.seq ?_
    refine WC.region rfl ?_
    refine WL.assign rfl ?_
    refine WL.nil ?_
    refine WC.ret ?_
    exact ⟨.bool true, rfl, .bool true, _, rfl, hS4.res, (congrArg Value.bool (by first | rfl | (exfalso; omega) | exact absurd (sortedB_inc (endsL_inc l)) (Bool.eq_false_iff.1 (by assumption)) | exact absurd h7 (endsL_ne hx2 hx1 (by omega)) | exact (ch_no hEm (by assumption)).elim | exact len0 (lastLe_none (by rw [← hk9]; omega)) | exact decide_eq_true (lastLe_some (by rw [← hk9]; assumption))))⟩
  refine WL.move rfl ?_
  refine WL.move rfl ?_
  refine WL.callF [vl] #[] hb33 rfl rfl rfl ((c_rfValid _ _ hS4.imm l _ (hvl.mono ((hle1.trans hle2).trans hle3)) ).mono ?_)
  rintro e w4 ⟨r3, G4, rfl, hres3, hpost3⟩
  refine ⟨_, rfl, ?_⟩
  have hS5 := hS4.call hres3
  have hle4 := hres3.le
  subst hpost3
  refine WL.split (fun (h2 : (rvalidB l) = true) => ?_) (fun (h2 : (rvalidB l) = false) => ?_)
  · refine WL.not true rfl rfl ?_
    refine WL.pickF rfl rfl ?_
    refine WL.nil ?_
    refine WC.condF rfl ?_
    refine WC.skip ?_
    refine WC.seq ?_
    have h20 : l.length ≤ 20 := great_le (by assumption)
    refine WC.region rfl ?_
    refine WL.move rfl ?_
    refine WL.callF [vl] #[] hb44 rfl rfl rfl ((c_Ends _ _ hS5.imm l _ (hvl.mono (((hle1.trans hle2).trans hle3).trans hle4)) h20).mono ?_)
    rintro e w5 ⟨r4, G5, rfl, hres4, hpost4⟩
    refine ⟨_, rfl, ?_⟩
    have hS6 := hS5.call hres4
    have hle5 := hres4.le
    refine WL.assign rfl ?_
    refine WL.nil ?_
    refine WC.seq ?_
    refine WC.seq ?_
    have hEl := endsL_len l
    refine WC.region rfl ?_
    refine WL.move rfl ?_
    refine WL.callF [r4] #[] hb45 rfl rfl rfl ((c_IsSorted _ _ hS6.imm (endsL l) _ hpost4 ).mono ?_)
    rintro e w6 ⟨r5, G6, rfl, hres5, hpost5⟩
    refine ⟨_, rfl, ?_⟩
    have hS7 := hS6.call hres5
    have hle6 := hres5.le
    subst hpost5
    refine WL.split (fun (h3 : (sortedB (endsL l)) = true) => ?_) (fun (h3 : (sortedB (endsL l)) = false) => ?_)
    · refine WL.not true rfl rfl ?_
      refine WL.move rfl ?_
      refine WL.move rfl ?_
      have bd1 := hpost4.bound
      refine WL.lenSl (hpost4.mono hle6) ul38 rfl rfl ?_
      refine WL.move rfl ?_
      have bd2 := hvl.bound
      refine WL.lenSl (hvl.mono (((((hle1.trans hle2).trans hle3).trans hle4).trans hle5).trans hle6)) ul22 rfl rfl ?_
      refine WL.mulN 2 l.length (by have hreach : reach = 140737488355328 := rfl; omega) rfl rfl rfl ?_
      refine WL.cmpS .gtr rfl .i64 (((endsL l).length : Nat) : Int) ((2 * l.length : Nat) : Int) rfl rfl rfl (fun (h4 : ((2 * l.length : Nat) : Int) < (((endsL l).length : Nat) : Int)) => ?_) (fun (h4 : (((endsL l).length : Nat) : Int) ≤ ((2 * l.length : Nat) : Int)) => ?_)
      · refine WL.pickF rfl rfl ?_
        refine WL.nil ?_
        refine WC.condT rfl ?_
        refine WC.seq ?_
        refine WC.region rfl ?_
        refine WL.assign rfl ?_
        refine WL.nil ?_
        refine WC.ret ?_
        exact ⟨.bool false, rfl, .bool false, _, rfl, hS7.res, (congrArg Value.bool (by first | rfl | (exfalso; omega) | exact absurd (sortedB_inc (endsL_inc l)) (Bool.eq_false_iff.1 (by assumption)) | exact absurd h7 (endsL_ne hx2 hx1 (by omega)) | exact (ch_no hEm (by assumption)).elim | exact len0 (lastLe_none (by rw [← hk9]; omega)) | exact decide_eq_true (lastLe_some (by rw [← hk9]; assumption))))⟩
      refine WL.pickF rfl rfl ?_
      refine WL.nil ?_
      refine WC.condF rfl ?_
      refine WC.skip ?_
      refine WC.seq ?_
      refine WC.seq ?_
      refine WC.region rfl ?_
      refine WL.move rfl ?_
      have bd3 := hpost4.bound
      refine WL.lenSl (hpost4.mono hle6) ul38 rfl rfl ?_
      refine WL.move rfl ?_
      refine WL.nil ?_
      refine WC.block ?_
      refine WC.loop (γ := Nat) (fun m ρ1 w1 => ∃ (k1 : Nat), ∃ (G7 : GH), m = (endsL l).length - k1 ∧ G6.le G7 ∧ St w [] G G7 [] w1 ∧ ρ1 0 = vl ∧ ρ1 1 = .int .i64 t ∧ ρ1 5 = r4 ∧ ρ1 34 = r4 ∧ ρ1 35 = .int .i64 (((endsL l).length : Nat) : Int) ∧ ρ1 36 = .int .i64 ((k1 : Nat) : Int) ∧ k1 ≤ (endsL l).length) (fun m => m) _ ⟨0, G6, rfl, (G6.le_refl), hS7, rfl, rfl, rfl, rfl, rfl, rfl, (by omega)⟩ ?_
      rintro m ρ1 w7 ⟨k1, G7, rfl, hle7, hS8, e1, e2, e3, e4, e5, e6, f1⟩
      refine WC.set (d := 0) e1 ?_
      refine WC.set (d := 1) e2 ?_
      refine WC.set (d := 5) e3 ?_
      refine WC.set (d := 34) e4 ?_
      refine WC.set (d := 35) e5 ?_
      refine WC.set (d := 36) e6 ?_
      refine WC.seq ?_
      refine WC.region rfl ?_
      refine WL.cmpS .lss rfl .i64 ((k1 : Nat) : Int) (((endsL l).length : Nat) : Int) rfl rfl rfl (fun (h5 : ((k1 : Nat) : Int) < (((endsL l).length : Nat) : Int)) => ?_) (fun (h5 : (((endsL l).length : Nat) : Int) ≤ ((k1 : Nat) : Int)) => ?_)
      · refine WL.nil ?_
        refine WC.seq ?_
        refine WC.condT rfl ?_
        refine WC.skip ?_
        refine WC.seq ?_
        refine WC.block ?_
        refine WC.seq ?_
        refine WC.region rfl ?_
        refine WL.move rfl ?_
        refine WL.indexAddr (hpost4.mono (hle6.trans hle7)) k1 (by omega) ul38 ti3 rfl rfl rfl rfl (fun p1 x1 hx1 he1 => ?_)
        obtain ⟨cs1, hc1, hr1⟩ := he1
        obtain ⟨rfl, hb1⟩ := hr1
        refine WL.loadG1 hS8 hc1 ti3 rfl rfl rfl ?_
        refine WL.assign rfl ?_
        refine WL.assign rfl ?_
        refine WL.nil ?_
        refine WC.seq ?_
        have hEm := List.mem_of_getElem? hx1
        have hEb := endsL_bound hEm
        refine WC.region rfl ?_
        refine WL.move rfl ?_
        refine WL.cmpS .gtr rfl .i64 ((k1 : Nat) : Int) 0 rfl rfl rfl (fun (h6 : 0 < ((k1 : Nat) : Int)) => ?_) (fun (h6 : ((k1 : Nat) : Int) ≤ 0) => ?_)
        · refine WL.move rfl ?_
          refine WL.move rfl ?_
          refine WL.move rfl ?_
          refine WL.decr k1 (by omega) (by have hreach : reach = 140737488355328 := rfl; omega) rfl rfl rfl ?_
          refine WL.indexAddr (hpost4.mono (hle6.trans hle7)) (k1 - 1) (by omega) ul38 ti3 rfl rfl rfl rfl (fun p2 x2 hx2 he2 => ?_)
          obtain ⟨cs2, hc2, hr2⟩ := he2
          obtain ⟨rfl, hb2⟩ := hr2
          refine WL.loadG1 hS8 hc2 ti3 rfl rfl rfl ?_
          refine WL.move rfl ?_
          refine WL.cmpS .eql rfl .i64 x2 x1 rfl rfl rfl (fun (h7 : x2 = x1) => ?_) (fun (h7 : x2 ≠ x1) => ?_)
          · refine WL.pickT rfl rfl ?_
            refine WL.move rfl ?_
            refine WL.no rfl rfl ?_
            refine WL.no rfl rfl ?_
            refine WL.no rfl rfl ?_
            refine WL.no rfl rfl ?_
            refine WL.no rfl rfl ?_
            refine WL.no rfl rfl ?_
            refine WL.no rfl rfl ?_
            refine WL.no rfl rfl ?_
            refine WL.pickT rfl rfl ?_
            refine WL.nil ?_
            refine WC.condT rfl ?_
            refine WC.seq ?_
            refine WC.region rfl ?_
            refine WL.assign rfl ?_
            refine WL.nil ?_
            refine WC.ret ?_
            exact ⟨.bool false, rfl, .bool false, _, rfl, hS8.res, (congrArg Value.bool (by first | rfl | (exfalso; omega) | exact absurd (sortedB_inc (endsL_inc l)) (Bool.eq_false_iff.1 (by assumption)) | exact absurd h7 (endsL_ne hx2 hx1 (by omega)) | exact (ch_no hEm (by assumption)).elim | exact len0 (lastLe_none (by rw [← hk9]; omega)) | exact decide_eq_true (lastLe_some (by rw [← hk9]; assumption))))⟩
          refine WL.pickT rfl rfl ?_
          refine WL.move rfl ?_
          refine WL.move rfl ?_
          refine WL.move rfl ?_
          have hi1 : I64 (x1 - 1) := by  have := hb1.1; have := hb1.2; constructor <;> omega
          refine WL.ar .sub rfl x1 1 rfl rfl rfl hi1 ?_
          refine WL.callF [vl, .int .i64 (x1 - 1)] #[] hb36 rfl rfl rfl ((c_At _ _ hS8.imm l (x1 - 1) _ (hvl.mono ((((((hle1.trans hle2).trans hle3).trans hle4).trans hle5).trans hle6).trans hle7)) h20).mono ?_)
          rintro e w8 ⟨r6, G8, rfl, hres6, hpost6⟩
          refine ⟨_, rfl, ?_⟩
          have hS9 := hS8.call hres6
          have hle8 := hres6.le
          refine WL.move rfl ?_
          refine WL.move rfl ?_
          refine WL.callF [vl, .int .i64 x1] #[] hb36 rfl rfl rfl ((c_At _ _ hS9.imm l x1 _ (hvl.mono (((((((hle1.trans hle2).trans hle3).trans hle4).trans hle5).trans hle6).trans hle7).trans hle8)) h20).mono ?_)
          rintro e w9 ⟨r7, G9, rfl, hres7, hpost7⟩
          refine ⟨_, rfl, ?_⟩
          have hS10 := hS9.call hres7
          have hle9 := hres7.le
          refine WL.callF [r6, r7] #[] hb46 rfl rfl rfl ((c_lists _ _ hS10.imm (atL l (x1 - 1)) (atL l x1) _ (hpost6.mono hle9) _ hpost7 ).mono ?_)
          rintro e w10 ⟨r8, G10, rfl, hres8, hpost8⟩
          refine ⟨_, rfl, ?_⟩
          have hS11 := hS10.call hres8
          have hle10 := hres8.le
          subst hpost8
          refine WL.split (fun (h8 : (decide ((atL l (x1 - 1)) = (atL l x1))) = true) => ?_) (fun (h8 : (decide ((atL l (x1 - 1)) = (atL l x1))) = false) => ?_)
          · refine WL.pickF rfl rfl ?_
            refine WL.nil ?_
            refine WC.condT rfl ?_
            refine WC.seq ?_
            refine WC.region rfl ?_
            refine WL.assign rfl ?_
            refine WL.nil ?_
            refine WC.ret ?_
            exact ⟨.bool false, rfl, .bool false, _, rfl, hS11.res, (congrArg Value.bool (by first | rfl | (exfalso; omega) | exact absurd (sortedB_inc (endsL_inc l)) (Bool.eq_false_iff.1 (by assumption)) | exact absurd h7 (endsL_ne hx2 hx1 (by omega)) | exact (ch_no hEm (by assumption)).elim | exact len0 (lastLe_none (by rw [← hk9]; omega)) | exact decide_eq_true (lastLe_some (by rw [← hk9]; assumption))))⟩
          refine WL.pickF rfl rfl ?_
          refine WL.nil ?_
          refine WC.condF rfl ?_
          refine WC.skip ?_
          refine WC.region rfl ?_
          refine WL.incr k1 (by have hreach : reach = 140737488355328 := rfl; omega) rfl rfl rfl ?_
          refine WL.move rfl ?_
          refine WL.nil ?_
          exact ⟨_, ⟨k1 + 1, G10, rfl, (hle7.trans ((hle8.trans hle9).trans hle10)), hS11, rfl, rfl, rfl, rfl, rfl, rfl, (by omega)⟩, (show (endsL l).length - (k1 + 1) < (endsL l).length - k1 by omega)⟩
        refine WL.move rfl ?_
        refine WL.no rfl rfl ?_
        refine WL.no rfl rfl ?_
        refine WL.no rfl rfl ?_
        refine WL.no rfl rfl ?_
        refine WL.no rfl rfl ?_
        refine WL.no rfl rfl ?_
        refine WL.no rfl rfl ?_
        refine WL.pickF rfl rfl ?_
        refine WL.move rfl ?_
        refine WL.move rfl ?_
        refine WL.move rfl ?_
        have hi2 : I64 (x1 - 1) := by  have := hb1.1; have := hb1.2; constructor <;> omega
        refine WL.ar .sub rfl x1 1 rfl rfl rfl hi2 ?_
        refine WL.callF [vl, .int .i64 (x1 - 1)] #[] hb36 rfl rfl rfl ((c_At _ _ hS8.imm l (x1 - 1) _ (hvl.mono ((((((hle1.trans hle2).trans hle3).trans hle4).trans hle5).trans hle6).trans hle7)) h20).mono ?_)
        rintro e w11 ⟨r9, G11, rfl, hres9, hpost9⟩
        refine ⟨_, rfl, ?_⟩
        have hS12 := hS8.call hres9
        have hle11 := hres9.le
        refine WL.move rfl ?_
        refine WL.move rfl ?_
        refine WL.callF [vl, .int .i64 x1] #[] hb36 rfl rfl rfl ((c_At _ _ hS12.imm l x1 _ (hvl.mono (((((((hle1.trans hle2).trans hle3).trans hle4).trans hle5).trans hle6).trans hle7).trans hle11)) h20).mono ?_)
        rintro e w12 ⟨r10, G12, rfl, hres10, hpost10⟩
        refine ⟨_, rfl, ?_⟩
        have hS13 := hS12.call hres10
        have hle12 := hres10.le
        refine WL.callF [r9, r10] #[] hb46 rfl rfl rfl ((c_lists _ _ hS13.imm (atL l (x1 - 1)) (atL l x1) _ (hpost9.mono hle12) _ hpost10 ).mono ?_)
        rintro e w13 ⟨r11, G13, rfl, hres11, hpost11⟩
        refine ⟨_, rfl, ?_⟩
        have hS14 := hS13.call hres11
        have hle13 := hres11.le
        subst hpost11
        refine WL.split (fun (h9 : (decide ((atL l (x1 - 1)) = (atL l x1))) = true) => ?_) (fun (h9 : (decide ((atL l (x1 - 1)) = (atL l x1))) = false) => ?_)
        · refine WL.pickF rfl rfl ?_
          refine WL.nil ?_
          refine WC.condT rfl ?_
          refine WC.seq ?_
          refine WC.region rfl ?_
          refine WL.assign rfl ?_
          refine WL.nil ?_
          refine WC.ret ?_
          exact ⟨.bool false, rfl, .bool false, _, rfl, hS14.res, (congrArg Value.bool (by first | rfl | (exfalso; omega) | exact absurd (sortedB_inc (endsL_inc l)) (Bool.eq_false_iff.1 (by assumption)) | exact absurd h7 (endsL_ne hx2 hx1 (by omega)) | exact (ch_no hEm (by assumption)).elim | exact len0 (lastLe_none (by rw [← hk9]; omega)) | exact decide_eq_true (lastLe_some (by rw [← hk9]; assumption))))⟩
        refine WL.pickF rfl rfl ?_
        refine WL.nil ?_
        refine WC.condF rfl ?_
        refine WC.skip ?_
        refine WC.region rfl ?_
        refine WL.incr k1 (by have hreach : reach = 140737488355328 := rfl; omega) rfl rfl rfl ?_
        refine WL.move rfl ?_
        refine WL.nil ?_
        exact ⟨_, ⟨k1 + 1, G13, rfl, (hle7.trans ((hle11.trans hle12).trans hle13)), hS14, rfl, rfl, rfl, rfl, rfl, rfl, (by omega)⟩, (show (endsL l).length - (k1 + 1) < (endsL l).length - k1 by omega)⟩
      refine WL.nil ?_
      refine WC.seq ?_
      refine WC.condF rfl ?_
      refine WC.exit ?_
      refine WC.seq ?_
      refine WC.region rfl ?_
      refine WL.assign rfl ?_
      refine WL.nil ?_
      refine WC.seq ?_
      refine WC.seq ?_
      refine WC.region rfl ?_
      refine WL.move rfl ?_
      have bd4 := hpost4.bound
      refine WL.lenSl (hpost4.mono (hle6.trans hle7)) ul38 rfl rfl ?_
      refine WL.move rfl ?_
      refine WL.nil ?_
      refine WC.block ?_
      refine WC.loop (γ := Nat) (fun m ρ1 w1 => ∃ (k2 : Nat), ∃ (vk : Value), ∃ (G14 : GH), m = (endsL l).length - k2 ∧ G7.le G14 ∧ St w [] G G14 [] w1 ∧ ρ1 0 = vl ∧ ρ1 1 = .int .i64 t ∧ ρ1 8 = vk ∧ ρ1 63 = r4 ∧ ρ1 64 = .int .i64 (((endsL l).length : Nat) : Int) ∧ ρ1 65 = .int .i64 ((k2 : Nat) : Int) ∧ k2 ≤ (endsL l).length ∧ Sl Enc.int 8 G14 vk (lastLe t ((endsL l).take k2))) (fun m => m) _ ⟨0, .slice none 0 0, G7, rfl, (G7.le_refl), hS8, rfl, rfl, rfl, rfl, rfl, rfl, (by omega), (Sl.cast (Sl.nil Enc.int 8 G7) (by simp [lastLe]))⟩ ?_
      rintro m ρ1 w14 ⟨k2, vk, G14, rfl, hle14, hS15, e7, e8, e9, e10, e11, e12, f2, f3⟩
      refine WC.set (d := 0) e7 ?_
      refine WC.set (d := 1) e8 ?_
      refine WC.set (d := 8) e9 ?_
      refine WC.set (d := 63) e10 ?_
      refine WC.set (d := 64) e11 ?_
      refine WC.set (d := 65) e12 ?_
      have hLl := lastLe_len t ((endsL l).take k2)
      refine WC.seq ?_
      refine WC.region rfl ?_
      refine WL.cmpS .lss rfl .i64 ((k2 : Nat) : Int) (((endsL l).length : Nat) : Int) rfl rfl rfl (fun (h10 : ((k2 : Nat) : Int) < (((endsL l).length : Nat) : Int)) => ?_) (fun (h10 : (((endsL l).length : Nat) : Int) ≤ ((k2 : Nat) : Int)) => ?_)
      · refine WL.nil ?_
        refine WC.seq ?_
        refine WC.condT rfl ?_
        refine WC.skip ?_
        refine WC.seq ?_
        refine WC.block ?_
        refine WC.seq ?_
        refine WC.region rfl ?_
        refine WL.indexAddr (hpost4.mono ((hle6.trans hle7).trans hle14)) k2 (by omega) ul38 ti3 rfl rfl rfl rfl (fun p3 x3 hx3 he3 => ?_)
        obtain ⟨cs3, hc3, hr3⟩ := he3
        obtain ⟨rfl, hb3⟩ := hr3
        refine WL.loadG1 hS15 hc3 ti3 rfl rfl rfl ?_
        refine WL.assign rfl ?_
        refine WL.nil ?_
        refine WC.seq ?_
        refine WC.region rfl ?_
        refine WL.move rfl ?_
        refine WL.move rfl ?_
        refine WL.cmpS .leq rfl .i64 x3 t rfl rfl rfl (fun (h11 : x3 ≤ t) => ?_) (fun (h11 : t < x3) => ?_)
        · refine WL.nil ?_
          refine WC.condT rfl ?_
          refine WC.region rfl ?_
          refine WL.move rfl ?_
          refine WL.buildSlice _ [(0, [.int .i64 x3])] [.int .i64 x3] hS15 sl38 rfl rfl rfl rfl (fun z hz => by match z, hz with | [z0], _ => rfl) (fun b2 w15 hn2 hS16 => ?_)
          refine WL.assign rfl ?_
          refine WL.nil ?_
          refine WC.region rfl ?_
          refine WL.incr k2 (by have hreach : reach = 140737488355328 := rfl; omega) rfl rfl rfl ?_
          refine WL.move rfl ?_
          refine WL.nil ?_
          obtain ⟨G15, hle15, hs2, hS17⟩ := St.sealSl (E := Enc.int) (by_ := 8) (l := ([x3] : List Int)) hS16 hn2 ⟨[.int .i64 x3], _, rfl, ⟨rfl, hb3⟩, rfl⟩ rfl (by simp [reach]) (by simp [reach])
          exact ⟨_, ⟨k2 + 1, .slice (some ⟨b2, 0, none⟩) 1 1, G15, rfl, (hle14.trans hle15), hS17, rfl, rfl, rfl, rfl, rfl, rfl, (by omega), (Sl.cast hs2 (by rw [lastLe_take (by assumption)]; first | rw [if_pos (by omega)] | rw [if_neg (by omega)]))⟩, (show (endsL l).length - (k2 + 1) < (endsL l).length - k2 by omega)⟩
        refine WL.nil ?_
        refine WC.condF rfl ?_
        refine WC.skip ?_
        refine WC.region rfl ?_
        refine WL.incr k2 (by have hreach : reach = 140737488355328 := rfl; omega) rfl rfl rfl ?_
        refine WL.move rfl ?_
        refine WL.nil ?_
        exact ⟨_, ⟨k2 + 1, vk, G14, rfl, hle14, hS15, rfl, rfl, rfl, rfl, rfl, rfl, (by omega), (Sl.cast f3 (by rw [lastLe_take (by assumption)]; first | rw [if_pos (by omega)] | rw [if_neg (by omega)]))⟩, (show (endsL l).length - (k2 + 1) < (endsL l).length - k2 by omega)⟩
      refine WL.nil ?_
      refine WC.seq ?_
      refine WC.condF rfl ?_
      refine WC.exit ?_
      refine WC.seq ?_
      refine WC.seq ?_
      have hk9 : lastLe t ((endsL l).take k2) = lastLe t (endsL l) := by rw [List.take_of_length_le (by omega)]
      refine WC.region rfl ?_
      refine WL.move rfl ?_
      have bd5 := f3.bound
      refine WL.lenSl f3 ul38 rfl rfl ?_
      refine WL.cmpS .eql rfl .i64 (((lastLe t ((endsL l).take k2)).length : Nat) : Int) 0 rfl rfl rfl (fun (h12 : (((lastLe t ((endsL l).take k2)).length : Nat) : Int) = 0) => ?_) (fun (h12 : (((lastLe t ((endsL l).take k2)).length : Nat) : Int) ≠ 0) => ?_)
      · refine WL.nil ?_
        refine WC.condT rfl ?_
        refine WC.seq ?_
        refine WC.region rfl ?_
        refine WL.move rfl ?_
        refine WL.move rfl ?_
        refine WL.callF [vl, .int .i64 t] #[] hb36 rfl rfl rfl ((c_At _ _ hS15.imm l t _ (hvl.mono (((((((hle1.trans hle2).trans hle3).trans hle4).trans hle5).trans hle6).trans hle7).trans hle14)) h20).mono ?_)
        rintro e w16 ⟨r12, G16, rfl, hres12, hpost12⟩
        refine ⟨_, rfl, ?_⟩
        have hS18 := hS15.call hres12
        have hle16 := hres12.le
        have bd6 := hpost12.bound
        refine WL.lenSl hpost12 ul67 rfl rfl ?_
        refine WL.cmp .eql rfl .i64 (((atL l t).length : Nat) : Int) 0 rfl rfl rfl ?_
        refine WL.assign rfl ?_
        refine WL.nil ?_
        refine WC.ret ?_
        exact ⟨.bool (Cmp.b .eql (((atL l t).length : Nat) : Int) 0), rfl, .bool (Cmp.b .eql (((atL l t).length : Nat) : Int) 0), _, rfl, hS18.res, (congrArg Value.bool (by first | rfl | (exfalso; omega) | exact absurd (sortedB_inc (endsL_inc l)) (Bool.eq_false_iff.1 (by assumption)) | exact absurd h7 (endsL_ne hx2 hx1 (by omega)) | exact (ch_no hEm (by assumption)).elim | exact len0 (lastLe_none (by rw [← hk9]; omega)) | exact decide_eq_true (lastLe_some (by rw [← hk9]; assumption))))⟩
      refine WL.nil ?_
      refine WC.condF rfl ?_
      refine WC.skip ?_
      refine WC.seq ?_
      obtain ⟨p4, x4, hx4, he4, ep1⟩ := Sl.at f3 0 (by omega)
      obtain ⟨cs4, hc4, hr4⟩ := he4
      obtain ⟨rfl, hb4⟩ := hr4
      refine WC.draw ⟨[0, 0, 3, 0, 0, 16, 48, 127, 255, 511], [0, 1, 3, 4, 5], [6], [], [2, 7, 8, 9]⟩ (St w [] G G14 []) [(83, vl), (84, .int .i64 t), (86, vl), (87, vk), (88, .pointer (some p4)), (89, .int .i64 x4)] mixed (by kernel_rfl) (by kernel_rfl) rfl (hS15.draw _) _ rfl ?_ ?_ ?_ (fun w8 hS8 => ?_)
      · refine ⟨fun wq hSw => ?_, ⟨fun wq hSw => ?_, ⟨fun wq hSw => ?_, ⟨fun wq hSw => ?_, ⟨fun wq hSw => ?_, trivial⟩⟩⟩⟩⟩
        · refine WL.move rfl ?_
          exact WL.nil ⟨upd_self rfl, rfl⟩
        · refine WL.move rfl ?_
          exact WL.nil ⟨upd_self rfl, rfl⟩
        · refine WL.move rfl ?_
          exact WL.nil ⟨upd_self rfl, rfl⟩
        · refine WL.move rfl ?_
          exact WL.nil ⟨upd_self rfl, rfl⟩
        · refine WL.indexAddrP 0 ep1 ul38 ti3 rfl rfl rfl rfl ?_
          exact WL.nil ⟨upd_self rfl, rfl⟩
      · refine ⟨fun wq hSw => ?_, trivial⟩
        · refine WL.loadG1 hSw hc4 ti3 rfl rfl rfl ?_
          exact WL.nil ⟨upd_self rfl, rfl⟩
      · exact trivial
      have hS19 := hS8
      refine TL.step rfl ?_
      refine WL.callF [vl, .int .i64 t] #[] hb36 rfl rfl rfl ((c_At _ _ hS19.imm l t _ (hvl.mono (((((((hle1.trans hle2).trans hle3).trans hle4).trans hle5).trans hle6).trans hle7).trans hle14)) h20).mono ?_)
      rintro e w18 ⟨r13, G17, rfl, hres13, hpost13⟩
      refine ⟨_, rfl, ?_⟩
      have hS20 := hS19.call hres13
      have hle17 := hres13.le
      refine WL.nil ⟨fun _ => hS20.down hS19.le hle17, ?_⟩
      refine TL.step rfl ?_
      refine WL.callF [vl, .int .i64 x4] #[] hb36 rfl rfl rfl ((c_At _ _ hS20.imm l x4 _ (hvl.mono ((((((((hle1.trans hle2).trans hle3).trans hle4).trans hle5).trans hle6).trans hle7).trans hle14).trans hle17)) h20).mono ?_)
      rintro e w19 ⟨r14, G18, rfl, hres14, hpost14⟩
      refine ⟨_, rfl, ?_⟩
      have hS21 := hS20.call hres14
      have hle18 := hres14.le
      refine WL.nil ⟨fun h => absurd h (by decide), ?_⟩
      refine TL.step rfl ?_
      refine WL.callF [r13, r14] #[] hb46 rfl rfl rfl ((c_lists _ _ hS21.imm (atL l t) (atL l x4) _ (hpost13.mono hle18) _ hpost14 ).mono ?_)
      rintro e w20 ⟨r15, G19, rfl, hres15, hpost15⟩
      refine ⟨_, rfl, ?_⟩
      have hS22 := hS21.call hres15
      have hle19 := hres15.le
      subst hpost15
      refine WL.nil ⟨fun h => absurd h (by decide), ?_⟩
      refine TL.step rfl ?_
      refine WL.assign rfl ?_
      refine WL.nil ⟨fun h => absurd h (by decide), ?_⟩
      refine WC.ret ?_
      exact ⟨.bool (decide ((atL l t) = (atL l x4))), rfl, .bool (decide ((atL l t) = (atL l x4))), _, rfl, hS22.res, (congrArg Value.bool (by first | rfl | (exfalso; omega) | exact absurd (sortedB_inc (endsL_inc l)) (Bool.eq_false_iff.1 (by assumption)) | exact absurd h7 (endsL_ne hx2 hx1 (by omega)) | exact (ch_no hEm (by assumption)).elim | exact len0 (lastLe_none (by rw [← hk9]; omega)) | exact decide_eq_true (lastLe_some (by rw [← hk9]; assumption))))⟩
    refine WL.not false rfl rfl ?_
    refine WL.move rfl ?_
    refine WL.no rfl rfl ?_
    refine WL.no rfl rfl ?_
    refine WL.no rfl rfl ?_
    refine WL.no rfl rfl ?_
    refine WL.no rfl rfl ?_
    refine WL.no rfl rfl ?_
    refine WL.pickT rfl rfl ?_
    refine WL.nil ?_
    refine WC.condT rfl ?_
    refine WC.seq ?_
    refine WC.region rfl ?_
    refine WL.assign rfl ?_
    refine WL.nil ?_
    refine WC.ret ?_
    exact ⟨.bool false, rfl, .bool false, _, rfl, hS7.res, (congrArg Value.bool (by first | rfl | (exfalso; omega) | exact absurd (sortedB_inc (endsL_inc l)) (Bool.eq_false_iff.1 (by assumption)) | exact absurd h7 (endsL_ne hx2 hx1 (by omega)) | exact (ch_no hEm (by assumption)).elim | exact len0 (lastLe_none (by rw [← hk9]; omega)) | exact decide_eq_true (lastLe_some (by rw [← hk9]; assumption))))⟩
  refine WL.not false rfl rfl ?_
  refine WL.pickF rfl rfl ?_
  refine WL.nil ?_
  refine WC.condT rfl ?_
  refine WC.seq ?_
  refine WC.region rfl ?_
  refine WL.assign rfl ?_
  refine WL.nil ?_
  refine WC.ret ?_
  exact ⟨.bool true, rfl, .bool true, _, rfl, hS5.res, (congrArg Value.bool (by first | rfl | (exfalso; omega) | exact absurd (sortedB_inc (endsL_inc l)) (Bool.eq_false_iff.1 (by assumption)) | exact absurd h7 (endsL_ne hx2 hx1 (by omega)) | exact (ch_no hEm (by assumption)).elim | exact len0 (lastLe_none (by rw [← hk9]; omega)) | exact decide_eq_true (lastLe_some (by rw [← hk9]; assumption))))⟩
end Go.Civ
