/- Walks, printed by specs38.py. -/
import Derived.Test.YtapjalhjfblonaaGreatProg
import Derived.KernelRfl
import Derived.WalkKit
import Derived.Test.YtapjalhjfblonaaGreatWj
import Derived.Test.YtapjalhjfblonaaGreatCiv20
set_option linter.unusedVariables false
set_option linter.unusedSimpArgs false
set_option maxRecDepth 100000
set_option maxHeartbeats 4000000
namespace Go.Civ
open Go.Proofs


theorem c_awake (G : GH) (w : World) (hG : G.In w)   : Calls Tryz.prog (nat_lit 11) #[] w fun e w' => ∃ r G', e = .returned r ∧ Res [] w G w' G' ∧ r = .bool true := by
 refine calls_of_WC (N := 46) Tryz.func11 rfl rfl rfl ?_
 have hS := St.start (X := []) hG
 refine WC.seq <| WC.region rfl <| WL.assign rfl <| WL.nil <| WC.seq <| WC.region rfl ?_
 refine WL.buildSlice _ [(0, [.int .i64 1])] [.int .i64 1] hS sl38 rfl rfl rfl rfl (fun z hz => by match z, hz with | [z0], _ => rfl) (fun b1 w1 hn1 hS1 => ?_)
 obtain ⟨G1, hle1, hs1, hS2⟩ := St.sealSl (E := Enc.int) (by_ := 8) (l := ([1] : List Int)) hS1 hn1 ⟨[.int .i64 1], _, rfl, ⟨rfl, (show I64 1 from by constructor <;> decide)⟩, rfl⟩ rfl (by simp [reach]) (by simp [reach])
 refine WL.callF [.int .i64 10, .int .i64 20, .slice (some ⟨b1, 0, none⟩) 1 1] #[] hb51 rfl rfl rfl ((c_fact _ _ hS2.imm 10 20 [1] _ hs1 (by constructor <;> decide) (by constructor <;> decide) (by simp)).mono ?_)
 rintro e w2 ⟨r1, G2, rfl, hres1, hpost1⟩
 refine ⟨_, rfl, ?_⟩
 have hS3 := hS2.call hres1
 have hle2 := hres1.le
 obtain ⟨cs1, rfl, hr1⟩ := hpost1
 obtain ⟨v1, rfl, hs2, hb1, hb2⟩ := FactE_open hr1
 refine WL.buildSlice _ [(0, [.int .i64 1])] [.int .i64 1] hS3 sl38 rfl rfl rfl rfl (fun z hz => by match z, hz with | [z0], _ => rfl) (fun b2 w3 hn2 hS4 => ?_)
 obtain ⟨G3, hle3, hs3, hS5⟩ := St.sealSl (E := Enc.int) (by_ := 8) (l := ([1] : List Int)) hS4 hn2 ⟨[.int .i64 1], _, rfl, ⟨rfl, (show I64 1 from by constructor <;> decide)⟩, rfl⟩ rfl (by simp [reach]) (by simp [reach])
 refine WL.callF [.int .i64 0, .int .i64 10, .slice (some ⟨b2, 0, none⟩) 1 1] #[] hb51 rfl rfl rfl ((c_fact _ _ hS5.imm 0 10 [1] _ hs3 (by constructor <;> decide) (by constructor <;> decide) (by simp)).mono ?_)
 rintro e w4 ⟨r2, G4, rfl, hres2, hpost2⟩
 refine ⟨_, rfl, ?_⟩
 have hS6 := hS5.call hres2
 have hle4 := hres2.le
 obtain ⟨cs2, rfl, hr2⟩ := hpost2
 obtain ⟨v2, rfl, hs4, hb3, hb4⟩ := FactE_open hr2
 refine WL.buildSlice _ [(0, [v1, .int .i64 ((factL 10 20 [1]).t.a), .int .i64 ((factL 10 20 [1]).t.b)]), (1, [v2, .int .i64 ((factL 0 10 [1]).t.a), .int .i64 ((factL 0 10 [1]).t.b)])] [v1, .int .i64 ((factL 10 20 [1]).t.a), .int .i64 ((factL 10 20 [1]).t.b), v2, .int .i64 ((factL 0 10 [1]).t.a), .int .i64 ((factL 0 10 [1]).t.b)] hS6 sl22 rfl rfl rfl rfl (fun z hz => by match z, hz with | [z0, z1, z2, z3, z4, z5], _ => rfl) (fun b3 w5 hn3 hS7 => ?_)
 obtain ⟨G5, hle5, hs5, hS8⟩ := St.sealSl (E := FactE) (by_ := 40) (l := ([(factL 10 20 [1]), (factL 0 10 [1])] : List Fact)) hS7 hn3 ⟨[v1, .int .i64 ((factL 10 20 [1]).t.a), .int .i64 ((factL 10 20 [1]).t.b)], _, rfl, (FactE_mk (factL 10 20 [1]) (hs2.mono (hle3.trans hle4)) hb1 hb2), ⟨[v2, .int .i64 ((factL 0 10 [1]).t.a), .int .i64 ((factL 0 10 [1]).t.b)], _, rfl, (FactE_mk (factL 0 10 [1]) hs4 hb3 hb4), rfl⟩⟩ rfl (by simp [reach]) (by simp [reach])
 refine WL.callF [.slice (some ⟨b3, 0, none⟩) 2 2] #[] hb32 rfl rfl rfl ((c_Normal _ _ hS8.imm [(factL 10 20 [1]), (factL 0 10 [1])] _ hs5 ).mono ?_)
 rintro e w6 ⟨r3, G6, rfl, hres3, hpost3⟩
 refine ⟨_, rfl, ?_⟩
 have hS9 := hS8.call hres3
 have hle6 := hres3.le
 obtain ⟨r4, r5, rfl, hs6, rfl⟩ := hpost3
 refine WL.move rfl <| WL.extract _ _ rfl rfl rfl <| WL.extract _ _ rfl rfl rfl <| WL.assign rfl <| WL.assign rfl <| WL.nil <| WC.seq <| WC.region rfl ?_
 refine WL.buildSlice _ [(0, [.int .i64 1]), (1, [.int .i64 2])] [.int .i64 1, .int .i64 2] hS9 sl38 rfl rfl rfl rfl (fun z hz => by match z, hz with | [z0, z1], _ => rfl) (fun b4 w7 hn4 hS10 => ?_)
 obtain ⟨G7, hle7, hs7, hS11⟩ := St.sealSl (E := Enc.int) (by_ := 8) (l := ([1, 2] : List Int)) hS10 hn4 ⟨[.int .i64 1], _, rfl, ⟨rfl, (show I64 1 from by constructor <;> decide)⟩, ⟨[.int .i64 2], _, rfl, ⟨rfl, (show I64 2 from by constructor <;> decide)⟩, rfl⟩⟩ rfl (by simp [reach]) (by simp [reach])
 refine WL.callF [.int .i64 0, .int .i64 10, .slice (some ⟨b4, 0, none⟩) 2 2] #[] hb51 rfl rfl rfl ((c_fact _ _ hS11.imm 0 10 [1, 2] _ hs7 (by constructor <;> decide) (by constructor <;> decide) (by simp)).mono ?_)
 rintro e w8 ⟨r6, G8, rfl, hres4, hpost4⟩
 refine ⟨_, rfl, ?_⟩
 have hS12 := hS11.call hres4
 have hle8 := hres4.le
 obtain ⟨cs3, rfl, hr3⟩ := hpost4
 obtain ⟨v3, rfl, hs8, hb5, hb6⟩ := FactE_open hr3
 refine WL.buildSlice _ [(0, [v3, .int .i64 ((factL 0 10 [1, 2]).t.a), .int .i64 ((factL 0 10 [1, 2]).t.b)])] [v3, .int .i64 ((factL 0 10 [1, 2]).t.a), .int .i64 ((factL 0 10 [1, 2]).t.b)] hS12 sl22 rfl rfl rfl rfl (fun z hz => by match z, hz with | [z0, z1, z2], _ => rfl) (fun b5 w9 hn5 hS13 => ?_)
 refine WL.buildSlice _ [(0, [.int .i64 2]), (1, [.int .i64 3])] [.int .i64 2, .int .i64 3] hS13 sl38 rfl rfl rfl rfl (fun z hz => by match z, hz with | [z0, z1], _ => rfl) (fun b6 w10 hn6 hS14 => ?_)
 obtain ⟨G9, hle9, hs9, hS15⟩ := St.sealSl (E := Enc.int) (by_ := 8) (l := ([2, 3] : List Int)) hS14 hn6 ⟨[.int .i64 2], _, rfl, ⟨rfl, (show I64 2 from by constructor <;> decide)⟩, ⟨[.int .i64 3], _, rfl, ⟨rfl, (show I64 3 from by constructor <;> decide)⟩, rfl⟩⟩ rfl (by simp [reach]) (by simp [reach])
 refine WL.callF [.int .i64 5, .int .i64 15, .slice (some ⟨b6, 0, none⟩) 2 2] #[] hb51 rfl rfl rfl ((c_fact _ _ hS15.imm 5 15 [2, 3] _ hs9 (by constructor <;> decide) (by constructor <;> decide) (by simp)).mono ?_)
 rintro e w11 ⟨r7, G10, rfl, hres5, hpost5⟩
 refine ⟨_, rfl, ?_⟩
 have hS16 := hS15.call hres5
 have hle10 := hres5.le
 obtain ⟨cs4, rfl, hr4⟩ := hpost5
 obtain ⟨v4, rfl, hs10, hb7, hb8⟩ := FactE_open hr4
 refine WL.buildSlice _ [(0, [v4, .int .i64 ((factL 5 15 [2, 3]).t.a), .int .i64 ((factL 5 15 [2, 3]).t.b)])] [v4, .int .i64 ((factL 5 15 [2, 3]).t.a), .int .i64 ((factL 5 15 [2, 3]).t.b)] hS16 sl22 rfl rfl rfl rfl (fun z hz => by match z, hz with | [z0, z1, z2], _ => rfl) (fun b7 w12 hn7 hS17 => ?_)
 refine WL.buildArr _ [(0, [.int .i64 1]), (1, [.int .i64 0])] [.int .i64 1, .int .i64 0] ti87 ul87 ti3 rfl rfl rfl rfl ?_
 refine WL.buildSlice _ [(0, [.int .i64 1, .int .i64 0])] [.int .i64 1, .int .i64 0] hS17 sl88 rfl rfl rfl rfl (fun z hz => by match z, hz with | [z0, z1], _ => rfl) (fun b8 w13 hn8 hS18 => ?_)
 obtain ⟨G11, hle11, hs11, hS19⟩ := St.sealSlAt (E := FactE) (by_ := 40) (l := ([(factL 0 10 [1, 2])] : List Fact)) hS18 2 rfl hn5 ⟨[v3, .int .i64 ((factL 0 10 [1, 2]).t.a), .int .i64 ((factL 0 10 [1, 2]).t.b)], _, rfl, (FactE_mk (factL 0 10 [1, 2]) (hs8.mono (hle9.trans hle10)) hb5 hb6), rfl⟩ rfl (by simp [reach]) (by simp [reach])
 obtain ⟨G12, hle12, hs12, hS20⟩ := St.sealSlAt (E := FactE) (by_ := 40) (l := ([(factL 5 15 [2, 3])] : List Fact)) hS19 1 rfl hn7 ⟨[v4, .int .i64 ((factL 5 15 [2, 3]).t.a), .int .i64 ((factL 5 15 [2, 3]).t.b)], _, rfl, (FactE_mk (factL 5 15 [2, 3]) (hs10.mono hle11) hb7 hb8), rfl⟩ rfl (by simp [reach]) (by simp [reach])
 obtain ⟨G13, hle13, hs13, hS21⟩ := St.sealSl (E := PairE) (by_ := 16) (l := ([(1, 0)] : List (Int × Int))) hS20 hn8 ⟨[.int .i64 1, .int .i64 0], _, rfl, (PairE_mk (1, 0) (show I64 1 from by constructor <;> decide) (show I64 0 from by constructor <;> decide)), rfl⟩ rfl (by simp [reach]) (by simp [reach])
 refine WL.callF [.slice (some ⟨b5, 0, none⟩) 1 1, .slice (some ⟨b7, 0, none⟩) 1 1, .slice (some ⟨b8, 0, none⟩) 1 1] #[] hb52 rfl rfl rfl ((c_Join _ _ hS21.imm [(factL 0 10 [1, 2])] [(factL 5 15 [2, 3])] [(1, 0)] _ (hs11.mono (hle12.trans hle13)) _ (hs12.mono hle13) _ hs13 ).mono ?_)
 rintro e w14 ⟨r8, G14, rfl, hres6, hpost6⟩
 refine ⟨_, rfl, ?_⟩
 have hS22 := hS21.call hres6
 have hle14 := hres6.le
 obtain ⟨r9, r10, rfl, hs14, rfl⟩ := hpost6
 refine WL.move rfl <| WL.extract _ _ rfl rfl rfl <| WL.extract _ _ rfl rfl rfl <| WL.assign rfl <| WL.assign rfl <| WL.nil <| WC.seq <| WC.region rfl <| WL.move rfl ?_
 refine WL.eqlS (normE [(factL 10 20 [1]), (factL 0 10 [1])]) 0 rfl rfl rfl (fun h1 => ?_) (fun h1 => ?_)
 ·refine WL.move rfl <| WL.move rfl ?_
  refine WL.buildSlice _ [(0, [.int .i64 1])] [.int .i64 1] hS22 sl38 rfl rfl rfl rfl (fun z hz => by match z, hz with | [z0], _ => rfl) (fun b9 w15 hn9 hS23 => ?_)
  obtain ⟨G15, hle15, hs15, hS24⟩ := St.sealSl (E := Enc.int) (by_ := 8) (l := ([1] : List Int)) hS23 hn9 ⟨[.int .i64 1], _, rfl, ⟨rfl, (show I64 1 from by constructor <;> decide)⟩, rfl⟩ rfl (by simp [reach]) (by simp [reach])
  refine WL.callF [.int .i64 0, .int .i64 20, .slice (some ⟨b9, 0, none⟩) 1 1] #[] hb51 rfl rfl rfl ((c_fact _ _ hS24.imm 0 20 [1] _ hs15 (by constructor <;> decide) (by constructor <;> decide) (by simp)).mono ?_)
  rintro e w16 ⟨r11, G16, rfl, hres7, hpost7⟩
  refine ⟨_, rfl, ?_⟩
  have hS25 := hS24.call hres7
  have hle16 := hres7.le
  obtain ⟨cs5, rfl, hr5⟩ := hpost7
  obtain ⟨v5, rfl, hs16, hb9, hb10⟩ := FactE_open hr5
  refine WL.buildSlice _ [(0, [v5, .int .i64 ((factL 0 20 [1]).t.a), .int .i64 ((factL 0 20 [1]).t.b)])] [v5, .int .i64 ((factL 0 20 [1]).t.a), .int .i64 ((factL 0 20 [1]).t.b)] hS25 sl22 rfl rfl rfl rfl (fun z hz => by match z, hz with | [z0, z1, z2], _ => rfl) (fun b10 w17 hn10 hS26 => ?_)
  obtain ⟨G17, hle17, hs17, hS27⟩ := St.sealSl (E := FactE) (by_ := 40) (l := ([(factL 0 20 [1])] : List Fact)) hS26 hn10 ⟨[v5, .int .i64 ((factL 0 20 [1]).t.a), .int .i64 ((factL 0 20 [1]).t.b)], _, rfl, (FactE_mk (factL 0 20 [1]) hs16 hb9 hb10), rfl⟩ rfl (by simp [reach]) (by simp [reach])
  refine WL.callF [r4, .slice (some ⟨b10, 0, none⟩) 1 1] #[] hb30 rfl rfl rfl ((c_rSame _ _ hS27.imm (normL [(factL 10 20 [1]), (factL 0 10 [1])]) [(factL 0 20 [1])] _ (hs6.mono ((((((((((hle7.trans hle8).trans hle9).trans hle10).trans hle11).trans hle12).trans hle13).trans hle14).trans hle15).trans hle16).trans hle17)) _ hs17 ).mono ?_)
  rintro e w18 ⟨r12, G18, rfl, hres8, hpost8⟩
  refine ⟨_, rfl, ?_⟩
  have hS28 := hS27.call hres8
  have hle18 := hres8.le
  subst hpost8
  refine WL.split (fun (h2 : (decide ((normL [(factL 10 20 [1]), (factL 0 10 [1])]) = [(factL 0 20 [1])])) = true) => ?_) (fun (h2 : (decide ((normL [(factL 10 20 [1]), (factL 0 10 [1])]) = [(factL 0 20 [1])])) = false) => ?_)
  ·refine WL.pickT rfl rfl <| WL.move rfl <| WL.move rfl ?_
   refine WL.eqlS (joinE [(factL 0 10 [1, 2])] [(factL 5 15 [2, 3])] [(1, 0)]) 0 rfl rfl rfl (fun h3 => ?_) (fun h3 => ?_)
   ·refine WL.pickT rfl rfl <| WL.move rfl <| WL.move rfl ?_
    refine WL.buildSlice _ [(0, [.int .i64 1]), (1, [.int .i64 2]), (2, [.int .i64 3])] [.int .i64 1, .int .i64 2, .int .i64 3] hS28 sl38 rfl rfl rfl rfl (fun z hz => by match z, hz with | [z0, z1, z2], _ => rfl) (fun b11 w19 hn11 hS29 => ?_)
    obtain ⟨G19, hle19, hs18, hS30⟩ := St.sealSl (E := Enc.int) (by_ := 8) (l := ([1, 2, 3] : List Int)) hS29 hn11 ⟨[.int .i64 1], _, rfl, ⟨rfl, (show I64 1 from by constructor <;> decide)⟩, ⟨[.int .i64 2], _, rfl, ⟨rfl, (show I64 2 from by constructor <;> decide)⟩, ⟨[.int .i64 3], _, rfl, ⟨rfl, (show I64 3 from by constructor <;> decide)⟩, rfl⟩⟩⟩ rfl (by simp [reach]) (by simp [reach])
    refine WL.callF [.int .i64 5, .int .i64 10, .slice (some ⟨b11, 0, none⟩) 3 3] #[] hb51 rfl rfl rfl ((c_fact _ _ hS30.imm 5 10 [1, 2, 3] _ hs18 (by constructor <;> decide) (by constructor <;> decide) (by simp)).mono ?_)
    rintro e w20 ⟨r13, G20, rfl, hres9, hpost9⟩
    refine ⟨_, rfl, ?_⟩
    have hS31 := hS30.call hres9
    have hle20 := hres9.le
    obtain ⟨cs6, rfl, hr6⟩ := hpost9
    obtain ⟨v6, rfl, hs19, hb11, hb12⟩ := FactE_open hr6
    refine WL.buildSlice _ [(0, [v6, .int .i64 ((factL 5 10 [1, 2, 3]).t.a), .int .i64 ((factL 5 10 [1, 2, 3]).t.b)])] [v6, .int .i64 ((factL 5 10 [1, 2, 3]).t.a), .int .i64 ((factL 5 10 [1, 2, 3]).t.b)] hS31 sl22 rfl rfl rfl rfl (fun z hz => by match z, hz with | [z0, z1, z2], _ => rfl) (fun b12 w21 hn12 hS32 => ?_)
    obtain ⟨G21, hle21, hs20, hS33⟩ := St.sealSl (E := FactE) (by_ := 40) (l := ([(factL 5 10 [1, 2, 3])] : List Fact)) hS32 hn12 ⟨[v6, .int .i64 ((factL 5 10 [1, 2, 3]).t.a), .int .i64 ((factL 5 10 [1, 2, 3]).t.b)], _, rfl, (FactE_mk (factL 5 10 [1, 2, 3]) hs19 hb11 hb12), rfl⟩ rfl (by simp [reach]) (by simp [reach])
    refine WL.callF [r9, .slice (some ⟨b12, 0, none⟩) 1 1] #[] hb30 rfl rfl rfl ((c_rSame _ _ hS33.imm (joinL [(factL 0 10 [1, 2])] [(factL 5 15 [2, 3])] [(1, 0)]) [(factL 5 10 [1, 2, 3])] _ (hs14.mono ((((((hle15.trans hle16).trans hle17).trans hle18).trans hle19).trans hle20).trans hle21)) _ hs20 ).mono ?_)
    rintro e w22 ⟨r14, G22, rfl, hres10, hpost10⟩
    refine ⟨_, rfl, ?_⟩
    have hS34 := hS33.call hres10
    have hle22 := hres10.le
    subst hpost10
    refine WL.pickT rfl rfl <| WL.assign rfl <| WL.nil <| WC.ret ?_
    exact ⟨_, rfl, _, _, rfl, hS34.res, (congrArg Value.bool (by exact decide_eq_true aw_L))⟩
   refine WL.pickT rfl rfl <| WL.move rfl <| WL.no rfl rfl <| WL.no rfl rfl <| WL.no rfl rfl <| WL.no rfl rfl <| WL.no rfl rfl <| WL.pickF rfl rfl <| WL.assign rfl <| WL.nil <| WC.ret ?_
   exact ⟨_, rfl, _, _, rfl, hS28.res, (congrArg Value.bool (by exact absurd aw_E (by assumption)))⟩
  refine WL.pickT rfl rfl <| WL.move rfl <| WL.no rfl rfl <| WL.no rfl rfl <| WL.pickF rfl rfl <| WL.move rfl <| WL.no rfl rfl <| WL.no rfl rfl <| WL.no rfl rfl <| WL.no rfl rfl <| WL.no rfl rfl <| WL.pickF rfl rfl <| WL.assign rfl <| WL.nil <| WC.ret ?_
  exact ⟨_, rfl, _, _, rfl, hS28.res, (congrArg Value.bool (by exact absurd awA_L (of_decide_eq_false (by assumption))))⟩
 refine WL.move rfl <| WL.no rfl rfl <| WL.no rfl rfl <| WL.no rfl rfl <| WL.no rfl rfl <| WL.no rfl rfl <| WL.pickF rfl rfl <| WL.move rfl <| WL.no rfl rfl <| WL.no rfl rfl <| WL.pickF rfl rfl <| WL.move rfl <| WL.no rfl rfl <| WL.no rfl rfl <| WL.no rfl rfl <| WL.no rfl rfl <| WL.no rfl rfl <| WL.pickF rfl rfl <| WL.assign rfl <| WL.nil <| WC.ret ?_
 exact ⟨_, rfl, _, _, rfl, hS22.res, (congrArg Value.bool (by exact absurd awA_E (by assumption)))⟩
end Go.Civ
