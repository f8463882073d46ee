/- Walks, printed by specs38.py. -/
import Derived.Test.YtapjalhjfblonaaGreatProg
import Derived.KernelRfl
import Derived.WalkKit
import Derived.Test.YtapjalhjfblonaaGreatWm
import Derived.Test.YtapjalhjfblonaaGreatWj
import Derived.Test.YtapjalhjfblonaaGreatCiv27
set_option linter.unusedVariables false
set_option linter.unusedSimpArgs false
set_option maxRecDepth 100000
set_option maxHeartbeats 4000000
namespace Go.Civ
open Go.Proofs


theorem c_rdone (G : GH) (w : World) (hG : G.In w) (l : List Fact) (vl : Value) (hvl : Sl FactE 40 G vl l) (hg : Good l) (hl : l.length ≤ 1000) : Calls Tryz.prog (nat_lit 64) #[vl] w fun e w' => ∃ r G', e = .returned r ∧ Res [] w G w' G' ∧ ∃ r0 r1, r = .tuple #[r0, r1] ∧ Sl FactE 40 G' r0 (doneL l) ∧ r1 = .int .i64 (doneE l) := by
 refine calls_of_WC (N := 11) Tryz.func64 rfl rfl rfl ?_
 have hS := St.start (X := []) hG
 refine WC.seq <| WC.region rfl <| WL.assign rfl <| WL.assign rfl <| WL.nil <| WC.seq <| WC.region rfl <| WL.move rfl ?_
 refine WL.callF [vl] #[] hb47 rfl rfl rfl ((c_rNormal _ _ hS.imm l _ hvl hg hl).mono ?_)
 rintro e w1 ⟨r1, G1, rfl, hres1, hpost1⟩
 refine ⟨_, rfl, ?_⟩
 have hS1 := hS.call hres1
 have hle1 := hres1.le
 refine WL.assign rfl <| WL.nil <| WC.seq <| WC.seq <| WC.region rfl <| WL.move rfl ?_
 have bd1 := hpost1.bound
 refine WL.lenSl hpost1 ul22 rfl rfl ?_
 refine WL.gtrS (((rnf l).length : Nat) : Int) 1000 rfl rfl rfl (fun h1 => ?_) (fun h1 => ?_)
 ·refine WL.nil <| WC.condT rfl <| WC.seq <| WC.region rfl <| WL.assign rfl <| WL.assign rfl <| WL.nil <| WC.ret ?_
  exact ⟨_, rfl, _, _, rfl, hS1.res, (.slice none 0 0), (.int .i64 5), rfl, (Sl.cast (Sl.nil FactE 40 G1) (by (unfold doneL; rw [if_pos (by omega)]))), (congrArg (Value.int .i64) (by (unfold doneE; rw [if_pos (by omega)])))⟩
 refine WL.nil <| WC.condF rfl <| WC.skip <| WC.seq <| WC.region rfl <| WL.move rfl <| WL.assign rfl <| WL.assign rfl <| WL.nil <| WC.ret ?_
 exact ⟨_, rfl, _, _, rfl, hS1.res, r1, (.int .i64 0), rfl, (Sl.cast hpost1 (by (unfold doneL; rw [if_neg (by omega)]))), (congrArg (Value.int .i64) (by (unfold doneE; rw [if_neg (by omega)])))⟩

theorem c_same (G : GH) (w : World) (hG : G.In w) (a : List Fact) (ea : Int) (b : List Fact) (eb : Int) (va : Value) (hva : Sl FactE 40 G va a) (vb : Value) (hvb : Sl FactE 40 G vb b)  : Calls Tryz.prog (nat_lit 15) #[va, .int .i64 ea, vb, .int .i64 eb] w fun e w' => ∃ r G', e = .returned r ∧ Res [] w G w' G' ∧ r = .bool (decide (ea = eb) && decide (a = b)) := by
 refine calls_of_WC (N := 17) Tryz.func15 rfl rfl rfl ?_
 have hS := St.start (X := []) hG
 refine WC.seq <| WC.region rfl <| WL.assign rfl <| WL.nil <| WC.seq <| WC.region rfl <| WL.move rfl <| WL.move rfl ?_
 refine WL.eqlS ea eb rfl rfl rfl (fun h1 => ?_) (fun h1 => ?_)
 ·refine WL.move rfl <| WL.move rfl <| WL.move rfl ?_
  refine WL.callF [va, vb] #[] hb30 rfl rfl rfl ((c_rSame _ _ hS.imm a b _ hva _ hvb ).mono ?_)
  rintro e w1 ⟨r1, G1, rfl, hres1, hpost1⟩
  refine ⟨_, rfl, ?_⟩
  have hS1 := hS.call hres1
  have hle1 := hres1.le
  subst hpost1
  refine WL.pickT rfl rfl <| WL.assign rfl <| WL.nil <| WC.ret ?_
  exact ⟨_, rfl, _, _, rfl, hS1.res, (congrArg Value.bool (by (rw [decide_eq_true (by assumption : ea = eb)]; rfl)))⟩
 refine WL.move rfl <| WL.no rfl rfl <| WL.no rfl rfl <| WL.no rfl rfl <| WL.pickF rfl rfl <| WL.assign rfl <| WL.nil <| WC.ret ?_
 exact ⟨_, rfl, _, _, rfl, hS.res, (congrArg Value.bool (by (rw [decide_eq_false (by assumption : ea ≠ eb)]; rfl)))⟩
end Go.Civ
