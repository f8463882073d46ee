/- Walks, printed by specs38.py. -/
import Derived.Test.YtapjalhjfblonaaGreatProg
import Derived.KernelRfl
import Derived.WalkKit
import Derived.Test.YtapjalhjfblonaaGreatWd
import Derived.Test.YtapjalhjfblonaaGreatCiv12
set_option linter.unusedVariables false
set_option linter.unusedSimpArgs false
set_option maxRecDepth 100000
set_option maxHeartbeats 4000000
namespace Go.Civ
open Go.Proofs


theorem c_CloneF (G : GH) (w : World) (hG : G.In w) (l : List Fact) (vl : Value) (hvl : Sl FactE 40 G vl l)  : Calls Tryz.prog (nat_lit 138) #[vl] w fun e w' => ∃ r G', e = .returned r ∧ Res [] w G w' G' ∧ ∃ o, Row FactE 40 (nat_lit 63) G' r l o ∧ Fresh w w' G' o := by
 refine calls_of_WC (N := 8) Tryz.func138 rfl rfl rfl ?_
 have hS := St.start (X := []) hG
 refine WC.seq <| WC.region rfl <| WL.assign rfl <| WL.nil <| WC.seq <| WC.seq <| WC.region rfl <| WL.move rfl ?_
 refine WL.nilEq hvl ul22 rfl rfl rfl (fun h1 => ?_) ?_
 ·refine WL.nil <| WC.condT rfl <| WC.seq <| WC.region rfl <| WL.assign rfl <| WL.nil <| WC.ret ?_
  exact ⟨_, rfl, _, _, rfl, hS.res, ⟨none, Row.cast (Row.nil _ _ _ _) (by exact Eq.symm (by assumption)), fun _ h => by cases h⟩⟩
 refine WL.nil <| WC.condF rfl <| WC.skip <| WC.seq <| WC.region rfl ?_
 refine WL.buildSlice _ [] [] hS sl22 rfl rfl rfl rfl (fun z hz => by match z, hz with | [], _ => rfl) (fun b1 w1 hn1 hS1 => ?_)
 refine WL.move rfl ?_
 have hr1 := Row.empty FactE 40 63 G b1
 refine WL.pushSl sl22 rfl rfl rfl hr1 hS1 0 rfl hvl (by have hreach : reach = 140737488355328 := rfl; have := hvl.bytes; have := hvl.bound; simp only [List.length_nil, Nat.zero_add]; omega) (by have hreach : reach = 140737488355328 := rfl; have := hvl.bytes; have := hvl.bound; simp only [List.length_nil, Nat.zero_add]; omega) rfl rfl rfl (fun v1 o1 w2 hr2 hS2 => ?_)
 refine WL.assign rfl <| WL.nil <| WC.ret ?_
 exact ⟨_, rfl, _, _, rfl, hS2.res, ⟨_, Row.cast hr2 (by rfl), hS2.freshAt 0 rfl⟩⟩

theorem c_CloneS (G : GH) (w : World) (hG : G.In w) (l : List Span) (vl : Value) (hvl : Sl SpanE 16 G vl l)  : Calls Tryz.prog (nat_lit 169) #[vl] w fun e w' => ∃ r G', e = .returned r ∧ Res [] w G w' G' ∧ ∃ o, Row SpanE 16 (nat_lit 46) G' r l o ∧ Fresh w w' G' o := by
 refine calls_of_WC (N := 8) Tryz.func169 rfl rfl rfl ?_
 have hS := St.start (X := []) hG
 refine WC.seq <| WC.region rfl <| WL.assign rfl <| WL.nil <| WC.seq <| WC.seq <| WC.region rfl <| WL.move rfl ?_
 refine WL.nilEq hvl ul111 rfl rfl rfl (fun h1 => ?_) ?_
 ·refine WL.nil <| WC.condT rfl <| WC.seq <| WC.region rfl <| WL.assign rfl <| WL.nil <| WC.ret ?_
  exact ⟨_, rfl, _, _, rfl, hS.res, ⟨none, Row.cast (Row.nil _ _ _ _) (by exact Eq.symm (by assumption)), fun _ h => by cases h⟩⟩
 refine WL.nil <| WC.condF rfl <| WC.skip <| WC.seq <| WC.region rfl ?_
 refine WL.buildSlice _ [] [] hS sl111 rfl rfl rfl rfl (fun z hz => by match z, hz with | [], _ => rfl) (fun b1 w1 hn1 hS1 => ?_)
 refine WL.move rfl ?_
 have hr1 := Row.empty SpanE 16 46 G b1
 refine WL.pushSl sl111 rfl rfl rfl hr1 hS1 0 rfl hvl (by have hreach : reach = 140737488355328 := rfl; have := hvl.bytes; have := hvl.bound; simp only [List.length_nil, Nat.zero_add]; omega) (by have hreach : reach = 140737488355328 := rfl; have := hvl.bytes; have := hvl.bound; simp only [List.length_nil, Nat.zero_add]; omega) rfl rfl rfl (fun v1 o1 w2 hr2 hS2 => ?_)
 refine WL.assign rfl <| WL.nil <| WC.ret ?_
 exact ⟨_, rfl, _, _, rfl, hS2.res, ⟨_, Row.cast hr2 (by rfl), hS2.freshAt 0 rfl⟩⟩

theorem c_CloneV (G : GH) (w : World) (hG : G.In w) (l : List Val) (vl : Value) (hvl : Sl ValE 32 G vl l)  : Calls Tryz.prog (nat_lit 111) #[vl] w fun e w' => ∃ r G', e = .returned r ∧ Res [] w G w' G' ∧ ∃ o, Row ValE 32 (nat_lit 34) G' r l o ∧ Fresh w w' G' o := by
 refine calls_of_WC (N := 8) Tryz.func111 rfl rfl rfl ?_
 have hS := St.start (X := []) hG
 refine WC.seq <| WC.region rfl <| WL.assign rfl <| WL.nil <| WC.seq <| WC.seq <| WC.region rfl <| WL.move rfl ?_
 refine WL.nilEq hvl ul61 rfl rfl rfl (fun h1 => ?_) ?_
 ·refine WL.nil <| WC.condT rfl <| WC.seq <| WC.region rfl <| WL.assign rfl <| WL.nil <| WC.ret ?_
  exact ⟨_, rfl, _, _, rfl, hS.res, ⟨none, Row.cast (Row.nil _ _ _ _) (by exact Eq.symm (by assumption)), fun _ h => by cases h⟩⟩
 refine WL.nil <| WC.condF rfl <| WC.skip <| WC.seq <| WC.region rfl ?_
 refine WL.buildSlice _ [] [] hS sl61 rfl rfl rfl rfl (fun z hz => by match z, hz with | [], _ => rfl) (fun b1 w1 hn1 hS1 => ?_)
 refine WL.move rfl ?_
 have hr1 := Row.empty ValE 32 34 G b1
 refine WL.pushSl sl61 rfl rfl rfl hr1 hS1 0 rfl hvl (by have hreach : reach = 140737488355328 := rfl; have := hvl.bytes; have := hvl.bound; simp only [List.length_nil, Nat.zero_add]; omega) (by have hreach : reach = 140737488355328 := rfl; have := hvl.bytes; have := hvl.bound; simp only [List.length_nil, Nat.zero_add]; omega) rfl rfl rfl (fun v1 o1 w2 hr2 hS2 => ?_)
 refine WL.assign rfl <| WL.nil <| WC.ret ?_
 exact ⟨_, rfl, _, _, rfl, hS2.res, ⟨_, Row.cast hr2 (by rfl), hS2.freshAt 0 rfl⟩⟩
end Go.Civ
