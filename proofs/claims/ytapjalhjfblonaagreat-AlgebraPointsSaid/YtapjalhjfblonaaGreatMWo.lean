/-
  DERIVED: THE SHELF's CONTRACTS AT THIS DUMP, IN PLAIN WORDS (tools/lay-plain.mjs out of 'YtapjalhjfblonaaGreatShelf3.lean', which tools/lay-shelf.mjs wrote): THE SAME DECLARATIONS UNDER THE SAME NAMES: 'import', 'namespace', 'open', 'def', 'theorem' AND NOTHING ELSE: no command of the shelf's: FOR A HAND-IN. Each laying: the table of numbers ('.._ren') and one theorem, a field a fact of the dump's own or the kernel's comparison; each contract: ONE APPLICATION.
-/
import Derived.Shelf.Spec.SlicesGrow
import Derived.Ground.Names8Prog
import Derived.Test.YtapjalhjfblonaaGreatProg
import Derived.Test.YtapjalhjfblonaaGreatMCiv12
import Derived.KernelRfl
import Derived.WalkKit
import Derived.Test.YtapjalhjfblonaaGreatMWt
import Derived.Test.YtapjalhjfblonaaGreatMCiv27
namespace Go.Proofs
open Go.Shelf
def Tryz.growV_ren : Go.Shelf.Ren := ⟨fun | 4 => 123 | n => n, fun | 22 => 61 | 25 => 34 | 3 => 3 | 4 => 4 | 9 => 9 | 20 => 20 | 0 => 0 | n => n, fun | n => n⟩
theorem Tryz.growV : Go.Proofs.Lays8.n4 Tryz.prog Tryz.growV_ren := {
  mixed := by kernel_rfl
  f4 := ⟨Tryz.f123.name, by decide, Tryz.func123.trans (congrArg some (by kernel_rfl))⟩
  t0 := Tryz.underlying0
  a0 := Tryz.isAgg0
  z0 := Tryz.sizeOf0
  v0 := Tryz.zeroValue0
  t3 := Tryz.underlying3
  a3 := Tryz.isAgg3
  z3 := Tryz.sizeOf3
  v3 := Tryz.zeroValue3
  t4 := Tryz.underlying4
  a4 := Tryz.isAgg4
  z4 := Tryz.sizeOf4
  v4 := Tryz.zeroValue4
  t9 := Tryz.underlying9
  a9 := Tryz.isAgg9
  z9 := Tryz.sizeOf9
  v9 := Tryz.zeroValue9
  t20 := Tryz.underlying20
  a20 := Tryz.isAgg20
  z20 := Tryz.sizeOf20
  v20 := Tryz.zeroValue20
  t22 := Tryz.underlying61
  a22 := Tryz.isAgg61
  z22 := Tryz.sizeOf61
  v22 := Tryz.zeroValue61 }
def Tryz.growF_ren : Go.Shelf.Ren := ⟨fun | 4 => 132 | n => n, fun | 22 => 22 | 25 => 63 | 3 => 3 | 4 => 4 | 9 => 9 | 20 => 20 | 0 => 0 | n => n, fun | n => n⟩
theorem Tryz.growF : Go.Proofs.Lays8.n4 Tryz.prog Tryz.growF_ren := {
  mixed := by kernel_rfl
  f4 := ⟨Tryz.f132.name, by decide, Tryz.func132.trans (congrArg some (by kernel_rfl))⟩
  t0 := Tryz.underlying0
  a0 := Tryz.isAgg0
  z0 := Tryz.sizeOf0
  v0 := Tryz.zeroValue0
  t3 := Tryz.underlying3
  a3 := Tryz.isAgg3
  z3 := Tryz.sizeOf3
  v3 := Tryz.zeroValue3
  t4 := Tryz.underlying4
  a4 := Tryz.isAgg4
  z4 := Tryz.sizeOf4
  v4 := Tryz.zeroValue4
  t9 := Tryz.underlying9
  a9 := Tryz.isAgg9
  z9 := Tryz.sizeOf9
  v9 := Tryz.zeroValue9
  t20 := Tryz.underlying20
  a20 := Tryz.isAgg20
  z20 := Tryz.sizeOf20
  v20 := Tryz.zeroValue20
  t22 := Tryz.underlying22
  a22 := Tryz.isAgg22
  z22 := Tryz.sizeOf22
  v22 := Tryz.zeroValue22 }
def Tryz.growVV_ren : Go.Shelf.Ren := ⟨fun | 4 => 97 | n => n, fun | 22 => 67 | 25 => 61 | 3 => 3 | 4 => 4 | 9 => 9 | 20 => 20 | 0 => 0 | n => n, fun | n => n⟩
theorem Tryz.growVV : Go.Proofs.Lays8.n4 Tryz.prog Tryz.growVV_ren := {
  mixed := by kernel_rfl
  f4 := ⟨Tryz.f97.name, by decide, Tryz.func97.trans (congrArg some (by kernel_rfl))⟩
  t0 := Tryz.underlying0
  a0 := Tryz.isAgg0
  z0 := Tryz.sizeOf0
  v0 := Tryz.zeroValue0
  t3 := Tryz.underlying3
  a3 := Tryz.isAgg3
  z3 := Tryz.sizeOf3
  v3 := Tryz.zeroValue3
  t4 := Tryz.underlying4
  a4 := Tryz.isAgg4
  z4 := Tryz.sizeOf4
  v4 := Tryz.zeroValue4
  t9 := Tryz.underlying9
  a9 := Tryz.isAgg9
  z9 := Tryz.sizeOf9
  v9 := Tryz.zeroValue9
  t20 := Tryz.underlying20
  a20 := Tryz.isAgg20
  z20 := Tryz.sizeOf20
  v20 := Tryz.zeroValue20
  t22 := Tryz.underlying67
  a22 := Tryz.isAgg67
  z22 := Tryz.sizeOf67
  v22 := Tryz.zeroValue67 }
end Go.Proofs
set_option linter.unusedVariables false
namespace Go.Civ
open Go.Proofs Go.Shelf Go.RowKit

theorem grow_row {P : Program} {τ : Ren} (L : Lays8.n4 P τ) {α : Type} (E : Enc α) (by_ : Nat) (i0 : TypeInfo) (z : Value) (hi0 : P.info? (τ.t 25) = some i0) (hz0 : i0.zero = some z) (hs : i0.size = E.n) (hp : 0 < E.n) (hzc : z.cells.size = E.n) (hb : i0.bytes = by_)
    (G : GH) (w : World) (hG : G.In w) (n : Nat) (h1 : n * by_ ≤ reach) (h2 : n ≤ 1000000000) :
    Calls P (τ.f 4) #[.slice none 0 0, .int .i64 (n : Int)] w fun e w' => ∃ r G', e = .returned r ∧ Res [] w G w' G' ∧ ∃ o, Row E by_ (τ.t 25) G' r ([] : List α) o ∧ Fresh w w' G' o := by
  rcases Nat.eq_zero_or_pos n with h0 | hpos
  · subst h0
    exact (Any8.slices_Grow_room L none 0 0 0 w (Nat.le_refl _) (by omega) (by omega) (by omega)).mono fun e w' ⟨he, hw⟩ => by
      subst hw
      exact ⟨_, G, he, Res.refl hG, none, Row.nil E by_ _ G, fun p hp => (by cases hp)⟩
  · have hreach : reach = 140737488355328 := rfl
    refine (Any8.slices_Grow_grow L i0 z hi0 hz0 (by omega) none 0 0 n [] w (Nat.le_refl _) (by omega) (by rw [hb, Nat.zero_add]; omega) (by omega) (by simp) (fun _ => rfl) (fun a ha => by cases ha)).mono fun e w' ⟨he, hw⟩ => ?_
    have hge := grownCap_ge w (0 + n) 0 (τ.t 25)
    have hmax := grownCap_le_maxLen w (0 + n) 0 (τ.t 25) (by unfold maxLen; omega)
    obtain ⟨cap, hcap⟩ : ∃ cap, cap = grownCap w (0 + n) 0 (τ.t 25) := ⟨_, rfl⟩
    rw [← hcap] at he hw hge hmax
    have hS' := ((St.start (X := []) hG).same (w' := w.drew) rfl rfl rfl rfl).alloc (τ.t 25) ((Builtin.zeroCells z.cells (0 + n - 0)).toList ++ (Builtin.zeroCells z.cells (cap - (0 + n))).toList)
    have e1 : (([] : List Value).toArray ++ Builtin.zeroCells z.cells (0 + n - 0) ++ Builtin.zeroCells z.cells (cap - (0 + n))) = ((Builtin.zeroCells z.cells (0 + n - 0)).toList ++ (Builtin.zeroCells z.cells (cap - (0 + n))).toList).toArray := Array.ext' (by simp)
    rw [e1] at hw
    have hw2 : w' = { w.drew with heap := w.drew.heap.push (.cells ((Builtin.zeroCells z.cells (0 + n - 0)).toList ++ (Builtin.zeroCells z.cells (cap - (0 + n))).toList).toArray (τ.t 25)) } := hw
    rw [← hw2] at hS'
    refine ⟨_, G, he, hS'.res, some (w.heap.size, τ.t 25, (Builtin.zeroCells z.cells (0 + n - 0)).toList ++ (Builtin.zeroCells z.cells (cap - (0 + n))).toList), .inr ⟨w.heap.size, _, cap, [], rfl, rfl, Nat.zero_le _, hmax, ?_, rfl, by simp, by simp, by simp⟩, hS'.freshAt 0 rfl⟩
    rw [List.length_append, zeroCells_len, zeroCells_len, hzc, ← Nat.add_mul]; congr 1; omega
theorem grow_rowT {P : Program} {τ : Ren} (L : Lays8.n4 P τ) {α : Type} (E : Enc α) (by_ : Nat) (ti : TI) (ht : tinfo P (τ.t 25) = some ti) (hs : ti.size = E.n) (hp : 0 < E.n) (hzc : ti.zero.cells.size = E.n) (hb : ti.bytes = by_)
    (G : GH) (w : World) (hG : G.In w) (n : Nat) (h1 : n * by_ ≤ reach) (h2 : n ≤ 1000000000) :
    Calls P (τ.f 4) #[.slice none 0 0, .int .i64 (n : Int)] w fun e w' => ∃ r G', e = .returned r ∧ Res [] w G w' G' ∧ ∃ o, Row E by_ (τ.t 25) G' r ([] : List α) o ∧ Fresh w w' G' o := by
  obtain ⟨ds, i, _, k2, k3, _, k5, k6⟩ := tinfo_parts ht
  exact grow_row L E by_ i ti.zero k2 k3 (k5.trans hs) hp hzc (k6.trans hb) G w hG n h1 h2
theorem bound_n {n by_ : Nat} (h : n ≤ 1000000000) (k : by_ ≤ 100) : n * by_ ≤ reach := Nat.le_trans (Nat.mul_le_mul h k) (by simp [reach])
theorem c_GrowV {G : GH} {w : World} (hG : G.In w) (n : Nat) (hn : n ≤ 1000000000) : Calls Tryz.prog (nat_lit 123) #[.slice none 0 0, .int .i64 ((n : Nat) : Int)] w fun e w' => ∃ r G', e = .returned r ∧ Res [] w G w' G' ∧ ∃ o, Row ValE 32 (nat_lit 34) G' r ([] : List Val) o ∧ Fresh w w' G' o :=
  grow_rowT Tryz.growV ValE 32 ⟨true, 3, 32, .agg #[.int .i64 0, .int .i64 0, strV []]⟩ (by kernel_rfl) rfl (by decide) rfl rfl G w hG n (bound_n hn (by decide)) hn
theorem c_GrowF {G : GH} {w : World} (hG : G.In w) (n : Nat) (hn : n ≤ 1000000000) : Calls Tryz.prog (nat_lit 132) #[.slice none 0 0, .int .i64 ((n : Nat) : Int)] w fun e w' => ∃ r G', e = .returned r ∧ Res [] w G w' G' ∧ ∃ o, Row FactE 40 (nat_lit 63) G' r ([] : List Fact) o ∧ Fresh w w' G' o :=
  grow_rowT Tryz.growF FactE 40 ⟨true, 3, 40, .agg #[.slice none 0 0, .int .i64 0, .int .i64 0]⟩ (by kernel_rfl) rfl (by decide) rfl rfl G w hG n (bound_n hn (by decide)) hn
theorem c_GrowVV {G : GH} {w : World} (hG : G.In w) (n : Nat) (hn : n ≤ 1000000000) : Calls Tryz.prog (nat_lit 97) #[.slice none 0 0, .int .i64 ((n : Nat) : Int)] w fun e w' => ∃ r G', e = .returned r ∧ Res [] w G w' G' ∧ ∃ o, Row (ValE.slice 32) 24 (nat_lit 61) G' r ([] : List (List Val)) o ∧ Fresh w w' G' o :=
  grow_rowT Tryz.growVV (ValE.slice 32) 24 ⟨false, 1, 24, .slice none 0 0⟩ (by kernel_rfl) rfl (by decide) rfl rfl G w hG n (bound_n hn (by decide)) hn
end Go.Civ
set_option linter.unusedVariables false
set_option linter.unusedSimpArgs false
set_option maxRecDepth 100000
set_option maxHeartbeats 4000000
namespace Go.Civ
open Go.Proofs


theorem c_ConcatV {G : GH} {w : World} (hG : G.In w) (l : List (List Val)) (vl : Value) (hvl : Sl (ValE.slice 32) 24 G vl l) (hl : l.flatten.length ≤ 1000000) : CL Tryz.prog (nat_lit 60) #[vl] [] w G fun G' _ r => Sl ValE 32 G' r l.flatten := by
  refine calls_of_go ft [] Tryz.func60 rfl rfl ?_
  have hS := St.start (X := []) hG
  have bd1 := hvl.bound
  refine WL.lenSl hvl ul67 rfl rfl ?_
  refine LP.go ft [] (fun m ρ1 w1 => ∃ (k1 : Nat), ∃ (sz : Nat), ∃ (G1 : GH), m = l.length - k1 ∧ G.le G1 ∧ St w [] G G1 [] w1 ∧ FR ρ1 [(0, vl), (3, .int .i64 (sz : Int)), (9, vl), (10, .int .i64 (l.length : Int)), (11, .int .i64 (k1 : Int))] ∧ k1 ≤ l.length ∧ sz = (l.take k1).flatten.length) _ ⟨0, 0, G, rfl, (G.le_refl), hS, ⟨rfl, rfl, rfl, rfl, rfl, trivial⟩, (by omega), (by simp)⟩ ?_
  rintro m ρ1 w1 ⟨k1, sz, G1, rfl, hle1, hS1, hF9, f1, f2⟩
  refine hF9.set ?_
  clear hF9
  have hf9 := flat_le l k1
  refine WL.lssS (k1 : Int) (l.length : Int) rfl rfl rfl (fun h1 => ?_) (fun h1 => ?_)
  · refine WL.indexAddr (hvl.mono hle1) k1 (by omega) ul67 ti61 rfl rfl rfl rfl (fun p1 x1 hx1 he1 => ?_)
    obtain ⟨cs1, hc1, hr1⟩ := he1
    obtain ⟨v1, rfl, hs1⟩ := hr1
    refine WL.loadG1 hS1 hc1 ti61 rfl rfl rfl ?_
    have bd2 := hs1.bound
    refine WL.lenSl hs1 ul61 rfl rfl ?_
    refine WL.addN sz x1.length (by have hreach : reach = 140737488355328 := rfl; omega) rfl rfl rfl ?_
    refine WL.lssS ((sz + x1.length : Nat) : Int) 0 rfl rfl rfl (fun h2 => ?_) (fun h2 => ?_)
    · exact absurd h2 (by omega)
    refine WL.incr k1 (by have hreach : reach = 140737488355328 := rfl; omega) rfl rfl rfl ?_
    exact BK.mk' _ ⟨k1 + 1, sz + x1.length, G1, rfl, hle1, hS1, ⟨rfl, rfl, rfl, rfl, rfl, trivial⟩, (by omega), (by rw [flat_take (by assumption), List.length_append]; omega)⟩ (show l.length - (k1 + 1) < l.length - k1 by omega)
  refine WL.cR hb123 rfl rfl rfl (c_GrowV hS1.imm sz  (by omega)) (fun w2 G2 r1 hres1 hpost1 => ?_)
  have hS2 := hS1.call hres1
  have hle2 := hres1.le
  obtain ⟨o1, hr2, hf1⟩ := hpost1
  have hS3 := hS1.adoptO hres1 hf1
  have bd3 := hvl.bound
  refine WL.lenSl (hvl.mono (hle1.trans hle2)) ul67 rfl rfl ?_
  refine LP.go ft [] (fun m ρ1 w1 => ∃ (k2 : Nat), ∃ (v2 : Value) (o2 : OB), ∃ (G3 : GH), m = l.length - k2 ∧ G2.le G3 ∧ St w [] G G3 [o2] w1 ∧ Row ValE 32 34 G3 v2 ((l.take k2).flatten) o2 ∧ FR ρ1 [(6, v2), (25, vl), (26, .int .i64 (l.length : Int)), (27, .int .i64 (k2 : Int))] ∧ k2 ≤ l.length) _ ⟨0, r1, o1, G2, rfl, (G2.le_refl), hS3, (Row.cast hr2 (by simp)), ⟨rfl, rfl, rfl, rfl, trivial⟩, (by omega)⟩ ?_
  rintro m ρ1 w3 ⟨k2, v2, o2, G3, rfl, hle3, hS4, hr3, hF9, f3⟩
  refine hF9.set ?_
  clear hF9
  have hf8 := flat_le l k2
  refine WL.lssS (k2 : Int) (l.length : Int) rfl rfl rfl (fun h3 => ?_) (fun h3 => ?_)
  · refine WL.indexAddr (hvl.mono ((hle1.trans hle2).trans hle3)) k2 (by omega) ul67 ti61 rfl rfl rfl rfl (fun p2 x2 hx2 he2 => ?_)
    obtain ⟨cs2, hc2, hr4⟩ := he2
    obtain ⟨v3, rfl, hs2⟩ := hr4
    refine WL.loadG1 hS4 hc2 ti61 rfl rfl rfl ?_
    refine WL.pushSl sl61 rfl rfl rfl hr3 hS4 0 rfl hs2 (by have hf7 := flat_le l (k2 + 1); rw [flat_take (by assumption), List.length_append] at hf7; have hreach : reach = 140737488355328 := rfl; (dsimp only; omega)) (by have hf7 := flat_le l (k2 + 1); rw [flat_take (by assumption), List.length_append] at hf7; have hreach : reach = 140737488355328 := rfl; omega) rfl rfl rfl (fun v4 o3 w4 hr5 hS5 => ?_)
    refine WL.incr k2 (by have hreach : reach = 140737488355328 := rfl; omega) rfl rfl rfl ?_
    exact BK.mk' _ ⟨k2 + 1, v4, o3, G3, rfl, hle3, hS5, (Row.cast hr5 (by exact (flat_take (by assumption)).symm)), ⟨rfl, rfl, rfl, rfl, trivial⟩, (by omega)⟩ (show l.length - (k2 + 1) < l.length - k2 by omega)
  obtain ⟨G4, hle4, hs3, hS6⟩ := Row.freeze hr3 hS4 0 rfl
  exact RT hS6 rfl (Sl.cast hs3 (by exact flat_all (by omega)))

theorem c_ConcatF {G : GH} {w : World} (hG : G.In w) (l : List (List Fact)) (vl : Value) (hvl : Sl (FactE.slice 40) 24 G vl l) (hl : l.flatten.length ≤ 1000000) : CL Tryz.prog (nat_lit 74) #[vl] [] w G fun G' _ r => Sl FactE 40 G' r l.flatten := by
  refine calls_of_go ft [] Tryz.func74 rfl rfl ?_
  have hS := St.start (X := []) hG
  have bd1 := hvl.bound
  refine WL.lenSl hvl ul89 rfl rfl ?_
  refine LP.go ft [] (fun m ρ1 w1 => ∃ (k1 : Nat), ∃ (sz : Nat), ∃ (G1 : GH), m = l.length - k1 ∧ G.le G1 ∧ St w [] G G1 [] w1 ∧ FR ρ1 [(0, vl), (3, .int .i64 (sz : Int)), (9, vl), (10, .int .i64 (l.length : Int)), (11, .int .i64 (k1 : Int))] ∧ k1 ≤ l.length ∧ sz = (l.take k1).flatten.length) _ ⟨0, 0, G, rfl, (G.le_refl), hS, ⟨rfl, rfl, rfl, rfl, rfl, trivial⟩, (by omega), (by simp)⟩ ?_
  rintro m ρ1 w1 ⟨k1, sz, G1, rfl, hle1, hS1, hF9, f1, f2⟩
  refine hF9.set ?_
  clear hF9
  have hf9 := flat_le l k1
  refine WL.lssS (k1 : Int) (l.length : Int) rfl rfl rfl (fun h1 => ?_) (fun h1 => ?_)
  · refine WL.indexAddr (hvl.mono hle1) k1 (by omega) ul89 ti22 rfl rfl rfl rfl (fun p1 x1 hx1 he1 => ?_)
    obtain ⟨cs1, hc1, hr1⟩ := he1
    obtain ⟨v1, rfl, hs1⟩ := hr1
    refine WL.loadG1 hS1 hc1 ti22 rfl rfl rfl ?_
    have bd2 := hs1.bound
    refine WL.lenSl hs1 ul22 rfl rfl ?_
    refine WL.addN sz x1.length (by have hreach : reach = 140737488355328 := rfl; omega) rfl rfl rfl ?_
    refine WL.lssS ((sz + x1.length : Nat) : Int) 0 rfl rfl rfl (fun h2 => ?_) (fun h2 => ?_)
    · exact absurd h2 (by omega)
    refine WL.incr k1 (by have hreach : reach = 140737488355328 := rfl; omega) rfl rfl rfl ?_
    exact BK.mk' _ ⟨k1 + 1, sz + x1.length, G1, rfl, hle1, hS1, ⟨rfl, rfl, rfl, rfl, rfl, trivial⟩, (by omega), (by rw [flat_take (by assumption), List.length_append]; omega)⟩ (show l.length - (k1 + 1) < l.length - k1 by omega)
  refine WL.cR hb132 rfl rfl rfl (c_GrowF hS1.imm sz  (by omega)) (fun w2 G2 r1 hres1 hpost1 => ?_)
  have hS2 := hS1.call hres1
  have hle2 := hres1.le
  obtain ⟨o1, hr2, hf1⟩ := hpost1
  have hS3 := hS1.adoptO hres1 hf1
  have bd3 := hvl.bound
  refine WL.lenSl (hvl.mono (hle1.trans hle2)) ul89 rfl rfl ?_
  refine LP.go ft [] (fun m ρ1 w1 => ∃ (k2 : Nat), ∃ (v2 : Value) (o2 : OB), ∃ (G3 : GH), m = l.length - k2 ∧ G2.le G3 ∧ St w [] G G3 [o2] w1 ∧ Row FactE 40 63 G3 v2 ((l.take k2).flatten) o2 ∧ FR ρ1 [(6, v2), (25, vl), (26, .int .i64 (l.length : Int)), (27, .int .i64 (k2 : Int))] ∧ k2 ≤ l.length) _ ⟨0, r1, o1, G2, rfl, (G2.le_refl), hS3, (Row.cast hr2 (by simp)), ⟨rfl, rfl, rfl, rfl, trivial⟩, (by omega)⟩ ?_
  rintro m ρ1 w3 ⟨k2, v2, o2, G3, rfl, hle3, hS4, hr3, hF9, f3⟩
  refine hF9.set ?_
  clear hF9
  have hf8 := flat_le l k2
  refine WL.lssS (k2 : Int) (l.length : Int) rfl rfl rfl (fun h3 => ?_) (fun h3 => ?_)
  · refine WL.indexAddr (hvl.mono ((hle1.trans hle2).trans hle3)) k2 (by omega) ul89 ti22 rfl rfl rfl rfl (fun p2 x2 hx2 he2 => ?_)
    obtain ⟨cs2, hc2, hr4⟩ := he2
    obtain ⟨v3, rfl, hs2⟩ := hr4
    refine WL.loadG1 hS4 hc2 ti22 rfl rfl rfl ?_
    refine WL.pushSl sl22 rfl rfl rfl hr3 hS4 0 rfl hs2 (by have hf7 := flat_le l (k2 + 1); rw [flat_take (by assumption), List.length_append] at hf7; have hreach : reach = 140737488355328 := rfl; (dsimp only; omega)) (by have hf7 := flat_le l (k2 + 1); rw [flat_take (by assumption), List.length_append] at hf7; have hreach : reach = 140737488355328 := rfl; omega) rfl rfl rfl (fun v4 o3 w4 hr5 hS5 => ?_)
    refine WL.incr k2 (by have hreach : reach = 140737488355328 := rfl; omega) rfl rfl rfl ?_
    exact BK.mk' _ ⟨k2 + 1, v4, o3, G3, rfl, hle3, hS5, (Row.cast hr5 (by exact (flat_take (by assumption)).symm)), ⟨rfl, rfl, rfl, rfl, trivial⟩, (by omega)⟩ (show l.length - (k2 + 1) < l.length - k2 by omega)
  obtain ⟨G4, hle4, hs3, hS6⟩ := Row.freeze hr3 hS4 0 rfl
  exact RT hS6 rfl (Sl.cast hs3 (by exact flat_all (by omega)))

theorem c_r10Line {G : GH} {w : World} (hG : G.In w) (x : Int)  : CL Tryz.prog (nat_lit 163) #[.int .i64 x] [] w G fun _ _ r => r = .bool (lineB x) := by
  refine calls_of_go ft [] Tryz.func163 rfl rfl ?_
  have hS := St.start (X := []) hG
  refine WL.geqS x (-4398046511104) rfl rfl rfl (fun h1 => ?_) (fun h1 => ?_)
  · refine WL.cmp .leq rfl .i64 x 4398046511104 rfl rfl rfl ?_
    exact RB hS rfl (by unfold lineB; simp [Cmp.b] <;> omega)
  exact RB hS rfl (by unfold lineB; simp [Cmp.b] <;> omega)

theorem c_r10Valid {G : GH} {w : World} (hG : G.In w) (x : Span) (cx : List Value) (hcx : SpanE.rep G x cx)  : CL Tryz.prog (nat_lit 124) #[.agg cx.toArray] [] w G fun _ _ r => r = .bool (spanV x) := by
  refine calls_of_go ft [] Tryz.func124 rfl rfl ?_
  have hS := St.start (X := []) hG
  obtain ⟨rfl, hb1, hb2⟩ := SpanE_open hcx
  refine WL.boxG [.int .i64 x.a, .int .i64 x.b] _ hS rfl rfl rfl (fun p1 w1 G1 hle1 hsp1 hc1 hS1 => ?_)
  refine WL.loadG1 hS1 (Cells.drop 0 hc1) ti3 rfl rfl rfl ?_
  refine WL.cV hS1 hb163 rfl rfl rfl (c_r10Line hS1.imm x.a  ) (fun w2 G2 hS2 hle2 => ?_)
  refine WL.split (fun (h1 : (lineB x.a) = true) => ?_) (fun (h1 : (lineB x.a) = false) => ?_)
  · refine WL.loadG1 hS2 (Cells.drop 1 (hc1.mono hle2)) ti3 rfl rfl rfl ?_
    refine WL.cV hS2 hb163 rfl rfl rfl (c_r10Line hS2.imm x.b  ) (fun w3 G3 hS3 hle3 => ?_)
    refine WL.split (fun (h2 : (lineB x.b) = true) => ?_) (fun (h2 : (lineB x.b) = false) => ?_)
    · refine WL.loadG1 hS3 (Cells.drop 0 (hc1.mono (hle2.trans hle3))) ti3 rfl rfl rfl ?_
      refine WL.loadG1 hS3 (Cells.drop 1 (hc1.mono (hle2.trans hle3))) ti3 rfl rfl rfl ?_
      refine WL.cmp .lss rfl .i64 x.a x.b rfl rfl rfl ?_
      exact RB hS3 rfl (by unfold spanV; simp_all [Cmp.b] <;> (first | omega | (intros; omega) | (rw [Bool.eq_iff_iff]; simp <;> omega) | (rw [Bool.eq_iff_iff]; simp_all <;> omega)))
    exact RB hS3 rfl (by unfold spanV; simp_all [Cmp.b] <;> (first | omega | (intros; omega) | (rw [Bool.eq_iff_iff]; simp <;> omega) | (rw [Bool.eq_iff_iff]; simp_all <;> omega)))
  exact RB hS2 rfl (by unfold spanV; simp_all [Cmp.b] <;> (first | omega | (intros; omega) | (rw [Bool.eq_iff_iff]; simp <;> omega) | (rw [Bool.eq_iff_iff]; simp_all <;> omega)))
end Go.Civ
