/- slices.Grow of a slice that is nil: the library's contract, told of rows. -/
import Derived.Test.YtapjalhjfblonaaGreatShelf3
import Derived.Test.YtapjalhjfblonaaGreatCiv12
set_option linter.unusedVariables false
namespace Go.Civ
open Go.Proofs Go.Shelf Go.RowKit

theorem grow_row {P : Program} {τ : Ren} (L : Lays8.n4 P τ) {α : Type} (E : Enc α) (by_ : Nat) (i0 : TypeInfo) (z : Value) (hi0 : P.info? (τ.t 25) = some i0) (hz0 : i0.zero = some z) (hs : i0.size = E.n) (hp : 0 < E.n) (hzc : z.cells.size = E.n) (hb : i0.bytes = by_)
    (G : GH) (w : World) (hG : G.In w) (n : Nat) (h1 : n * by_ ≤ reach) (h2 : n ≤ 1000000000) :
    Calls P (τ.f 4) #[.slice none 0 0, .int .i64 (n : Int)] w fun e w' => ∃ r G', e = .returned r ∧ Res [] w G w' G' ∧ ∃ o, Row E by_ (τ.t 25) G' r ([] : List α) o ∧ Fresh w w' G' o := by
  rcases Nat.eq_zero_or_pos n with h0 | hpos
  · subst h0
    exact (Any8.slices_Grow_room L none 0 0 0 w (Nat.le_refl _) (by omega) (by omega) (by omega)).mono fun e w' ⟨he, hw⟩ => by
      subst hw
      exact ⟨_, G, he, Res.refl hG, none, Row.nil E by_ _ G, fun p hp => (by cases hp)⟩
  · have hreach : reach = 140737488355328 := rfl
    refine (Any8.slices_Grow_grow L i0 z hi0 hz0 (by omega) none 0 0 n [] w (Nat.le_refl _) (by omega) (by rw [hb, Nat.zero_add]; omega) (by omega) (by simp) (fun _ => rfl) (fun a ha => by cases ha)).mono fun e w' ⟨he, hw⟩ => ?_
    have hge := grownCap_ge w (0 + n) 0 (τ.t 25)
    have hmax := grownCap_le_maxLen w (0 + n) 0 (τ.t 25) (by unfold maxLen; omega)
    obtain ⟨cap, hcap⟩ : ∃ cap, cap = grownCap w (0 + n) 0 (τ.t 25) := ⟨_, rfl⟩
    rw [← hcap] at he hw hge hmax
    have hS' := ((St.start (X := []) hG).same (w' := w.drew) rfl rfl rfl rfl).alloc (τ.t 25) ((Builtin.zeroCells z.cells (0 + n - 0)).toList ++ (Builtin.zeroCells z.cells (cap - (0 + n))).toList)
    have e1 : (([] : List Value).toArray ++ Builtin.zeroCells z.cells (0 + n - 0) ++ Builtin.zeroCells z.cells (cap - (0 + n))) = ((Builtin.zeroCells z.cells (0 + n - 0)).toList ++ (Builtin.zeroCells z.cells (cap - (0 + n))).toList).toArray := Array.ext' (by simp)
    rw [e1] at hw
    have hw2 : w' = { w.drew with heap := w.drew.heap.push (.cells ((Builtin.zeroCells z.cells (0 + n - 0)).toList ++ (Builtin.zeroCells z.cells (cap - (0 + n))).toList).toArray (τ.t 25)) } := hw
    rw [← hw2] at hS'
    refine ⟨_, G, he, hS'.res, some (w.heap.size, τ.t 25, (Builtin.zeroCells z.cells (0 + n - 0)).toList ++ (Builtin.zeroCells z.cells (cap - (0 + n))).toList), .inr ⟨w.heap.size, _, cap, [], rfl, rfl, Nat.zero_le _, hmax, ?_, rfl, by simp, by simp, by simp⟩, hS'.freshAt 0 rfl⟩
    rw [List.length_append, zeroCells_len, zeroCells_len, hzc, ← Nat.add_mul]; congr 1; omega
theorem grow_rowT {P : Program} {τ : Ren} (L : Lays8.n4 P τ) {α : Type} (E : Enc α) (by_ : Nat) (ti : TI) (ht : tinfo P (τ.t 25) = some ti) (hs : ti.size = E.n) (hp : 0 < E.n) (hzc : ti.zero.cells.size = E.n) (hb : ti.bytes = by_)
    (G : GH) (w : World) (hG : G.In w) (n : Nat) (h1 : n * by_ ≤ reach) (h2 : n ≤ 1000000000) :
    Calls P (τ.f 4) #[.slice none 0 0, .int .i64 (n : Int)] w fun e w' => ∃ r G', e = .returned r ∧ Res [] w G w' G' ∧ ∃ o, Row E by_ (τ.t 25) G' r ([] : List α) o ∧ Fresh w w' G' o := by
  obtain ⟨ds, i, _, k2, k3, _, k5, k6⟩ := tinfo_parts ht
  exact grow_row L E by_ i ti.zero k2 k3 (k5.trans hs) hp hzc (k6.trans hb) G w hG n h1 h2
theorem bound_n {n by_ : Nat} (h : n ≤ 1000000000) (k : by_ ≤ 100) : n * by_ ≤ reach := Nat.le_trans (Nat.mul_le_mul h k) (by simp [reach])
theorem c_GrowV (G : GH) (w : World) (hG : G.In w) (n : Nat) (hn : n ≤ 1000000000) : Calls Tryz.prog (nat_lit 123) #[.slice none 0 0, .int .i64 ((n : Nat) : Int)] w fun e w' => ∃ r G', e = .returned r ∧ Res [] w G w' G' ∧ ∃ o, Row ValE 32 (nat_lit 34) G' r ([] : List Val) o ∧ Fresh w w' G' o :=
  grow_rowT Tryz.growV ValE 32 ⟨true, 3, 32, .agg #[.int .i64 0, .int .i64 0, strV []]⟩ (by kernel_rfl) rfl (by decide) rfl rfl G w hG n (bound_n hn (by decide)) hn
theorem c_GrowF (G : GH) (w : World) (hG : G.In w) (n : Nat) (hn : n ≤ 1000000000) : Calls Tryz.prog (nat_lit 132) #[.slice none 0 0, .int .i64 ((n : Nat) : Int)] w fun e w' => ∃ r G', e = .returned r ∧ Res [] w G w' G' ∧ ∃ o, Row FactE 40 (nat_lit 63) G' r ([] : List Fact) o ∧ Fresh w w' G' o :=
  grow_rowT Tryz.growF FactE 40 ⟨true, 3, 40, .agg #[.slice none 0 0, .int .i64 0, .int .i64 0]⟩ (by kernel_rfl) rfl (by decide) rfl rfl G w hG n (bound_n hn (by decide)) hn
theorem c_GrowVV (G : GH) (w : World) (hG : G.In w) (n : Nat) (hn : n ≤ 1000000000) : Calls Tryz.prog (nat_lit 97) #[.slice none 0 0, .int .i64 ((n : Nat) : Int)] w fun e w' => ∃ r G', e = .returned r ∧ Res [] w G w' G' ∧ ∃ o, Row (ValE.slice 32) 24 (nat_lit 61) G' r ([] : List (List Val)) o ∧ Fresh w w' G' o :=
  grow_rowT Tryz.growVV (ValE.slice 32) 24 ⟨false, 1, 24, .slice none 0 0⟩ (by kernel_rfl) rfl (by decide) rfl rfl G w hG n (bound_n hn (by decide)) hn
end Go.Civ
