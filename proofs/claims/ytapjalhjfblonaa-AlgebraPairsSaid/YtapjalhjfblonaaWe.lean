/- Walks, printed by specs38.py. -/
import Derived.Test.YtapjalhjfblonaaProg
import Derived.KernelRfl
import Derived.WalkKit
import Derived.Test.YtapjalhjfblonaaWd
import Derived.Test.YtapjalhjfblonaaCiv12
set_option linter.unusedVariables false
set_option linter.unusedSimpArgs false
set_option maxRecDepth 100000
set_option maxHeartbeats 4000000
namespace Go.Civ
open Go.Proofs


theorem c_CloneF (G : GH) (w : World) (hG : G.In w) (l : List Fact) (vl : Value) (hvl : Sl FactE 40 G vl l)  : Calls Try.prog (nat_lit 57) #[vl] w fun e w' => ∃ r G', e = .returned r ∧ Res [] w G w' G' ∧ ∃ o, Row FactE 40 (nat_lit 43) G' r l o ∧ Fresh w w' G' o := by
  refine calls_of_WC (N := 8) Try.func57 rfl rfl rfl ?_
  have hS := St.start (X := []) hG
  refine WC.seq <| WC.region rfl <| WL.assign rfl <| WL.nil <| WC.seq <| WC.seq <| WC.region rfl <| WL.move rfl ?_
  refine WL.nilEq hvl ul22 rfl rfl rfl (fun h1 => ?_) ?_
  · refine WL.nil <| WC.condT rfl <| WC.seq <| WC.region rfl <| WL.assign rfl <| WL.nil ?_
    refine WC.ret ?_
    exact ⟨.slice none 0 0, rfl, .slice none 0 0, _, rfl, hS.res, ⟨none, Row.cast (Row.nil _ _ _ _) (by exact Eq.symm (by assumption)), fun _ h => by cases h⟩⟩
  refine WL.nil <| WC.condF rfl <| WC.skip <| WC.seq <| WC.region rfl ?_
  refine WL.buildSlice _ [] [] hS sl22 rfl rfl rfl rfl (fun z hz => by match z, hz with | [], _ => rfl) (fun b1 w1 hn1 hS1 => ?_)
  refine WL.move rfl ?_
  have hr1 := Row.empty FactE 40 43 G b1
  refine WL.pushSl sl22 rfl rfl rfl hr1 hS1 0 rfl hvl (by have hreach : reach = 140737488355328 := rfl; have := hvl.bytes; have := hvl.bound; simp only [List.length_nil, Nat.zero_add]; omega) (by have hreach : reach = 140737488355328 := rfl; have := hvl.bytes; have := hvl.bound; simp only [List.length_nil, Nat.zero_add]; omega) rfl rfl rfl (fun v1 o1 w2 hr2 hS2 => ?_)
  refine WL.assign rfl <| WL.nil ?_
  refine WC.ret ?_
  exact ⟨v1, rfl, v1, _, rfl, hS2.res, ⟨_, Row.cast hr2 (by rfl), hS2.freshAt 0 rfl⟩⟩

theorem c_CloneS (G : GH) (w : World) (hG : G.In w) (l : List Span) (vl : Value) (hvl : Sl SpanE 16 G vl l)  : Calls Try.prog (nat_lit 68) #[vl] w fun e w' => ∃ r G', e = .returned r ∧ Res [] w G w' G' ∧ ∃ o, Row SpanE 16 (nat_lit 41) G' r l o ∧ Fresh w w' G' o := by
  refine calls_of_WC (N := 8) Try.func68 rfl rfl rfl ?_
  have hS := St.start (X := []) hG
  refine WC.seq <| WC.region rfl <| WL.assign rfl <| WL.nil <| WC.seq <| WC.seq <| WC.region rfl <| WL.move rfl ?_
  refine WL.nilEq hvl ul80 rfl rfl rfl (fun h1 => ?_) ?_
  · refine WL.nil <| WC.condT rfl <| WC.seq <| WC.region rfl <| WL.assign rfl <| WL.nil ?_
    refine WC.ret ?_
    exact ⟨.slice none 0 0, rfl, .slice none 0 0, _, rfl, hS.res, ⟨none, Row.cast (Row.nil _ _ _ _) (by exact Eq.symm (by assumption)), fun _ h => by cases h⟩⟩
  refine WL.nil <| WC.condF rfl <| WC.skip <| WC.seq <| WC.region rfl ?_
  refine WL.buildSlice _ [] [] hS sl80 rfl rfl rfl rfl (fun z hz => by match z, hz with | [], _ => rfl) (fun b1 w1 hn1 hS1 => ?_)
  refine WL.move rfl ?_
  have hr1 := Row.empty SpanE 16 41 G b1
  refine WL.pushSl sl80 rfl rfl rfl hr1 hS1 0 rfl hvl (by have hreach : reach = 140737488355328 := rfl; have := hvl.bytes; have := hvl.bound; simp only [List.length_nil, Nat.zero_add]; omega) (by have hreach : reach = 140737488355328 := rfl; have := hvl.bytes; have := hvl.bound; simp only [List.length_nil, Nat.zero_add]; omega) rfl rfl rfl (fun v1 o1 w2 hr2 hS2 => ?_)
  refine WL.assign rfl <| WL.nil ?_
  refine WC.ret ?_
  exact ⟨v1, rfl, v1, _, rfl, hS2.res, ⟨_, Row.cast hr2 (by rfl), hS2.freshAt 0 rfl⟩⟩

theorem c_CloneV (G : GH) (w : World) (hG : G.In w) (l : List Val) (vl : Value) (hvl : Sl ValE 32 G vl l)  : Calls Try.prog (nat_lit 9) #[vl] w fun e w' => ∃ r G', e = .returned r ∧ Res [] w G w' G' ∧ ∃ o, Row ValE 32 (nat_lit 35) G' r l o ∧ Fresh w w' G' o := by
  refine calls_of_WC (N := 8) Try.func9 rfl rfl rfl ?_
  have hS := St.start (X := []) hG
  refine WC.seq <| WC.region rfl <| WL.assign rfl <| WL.nil <| WC.seq <| WC.seq <| WC.region rfl <| WL.move rfl ?_
  refine WL.nilEq hvl ul32 rfl rfl rfl (fun h1 => ?_) ?_
  · refine WL.nil <| WC.condT rfl <| WC.seq <| WC.region rfl <| WL.assign rfl <| WL.nil ?_
    refine WC.ret ?_
    exact ⟨.slice none 0 0, rfl, .slice none 0 0, _, rfl, hS.res, ⟨none, Row.cast (Row.nil _ _ _ _) (by exact Eq.symm (by assumption)), fun _ h => by cases h⟩⟩
  refine WL.nil <| WC.condF rfl <| WC.skip <| WC.seq <| WC.region rfl ?_
  refine WL.buildSlice _ [] [] hS sl32 rfl rfl rfl rfl (fun z hz => by match z, hz with | [], _ => rfl) (fun b1 w1 hn1 hS1 => ?_)
  refine WL.move rfl ?_
  have hr1 := Row.empty ValE 32 35 G b1
  refine WL.pushSl sl32 rfl rfl rfl hr1 hS1 0 rfl hvl (by have hreach : reach = 140737488355328 := rfl; have := hvl.bytes; have := hvl.bound; simp only [List.length_nil, Nat.zero_add]; omega) (by have hreach : reach = 140737488355328 := rfl; have := hvl.bytes; have := hvl.bound; simp only [List.length_nil, Nat.zero_add]; omega) rfl rfl rfl (fun v1 o1 w2 hr2 hS2 => ?_)
  refine WL.assign rfl <| WL.nil ?_
  refine WC.ret ?_
  exact ⟨v1, rfl, v1, _, rfl, hS2.res, ⟨_, Row.cast hr2 (by rfl), hS2.freshAt 0 rfl⟩⟩
end Go.Civ
