/- Walks, printed by specs38.py. -/
import Derived.Test.YtapjalhjfblonaaGreatProg
import Derived.KernelRfl
import Derived.WalkKit
import Derived.Test.YtapjalhjfblonaaGreatWza
import Derived.Test.YtapjalhjfblonaaGreatWz9
import Derived.Test.YtapjalhjfblonaaGreatWz8
import Derived.Test.YtapjalhjfblonaaGreatWk
set_option linter.unusedVariables false
set_option linter.unusedSimpArgs false
set_option maxRecDepth 100000
set_option maxHeartbeats 4000000
namespace Go.Civ
open Go.Proofs


theorem c_AlgebraSelects (G : GH) (w : World) (hG : G.In w) (d : Nat) (l : List Fact) (cs : List Col) (c : Cond) (ps : List Int) (vl : Value) (hvl : Sl FactE 40 G vl l) (vs : Value) (hvs : Sl ColE 24 G vs cs) (cc : List Value) (hcc : (CondE d).rep G c cc) (vp : Value) (hvp : Sl Enc.int 8 G vp ps)  : Calls Tryz.prog (nat_lit 4) #[vl, vs, .agg cc.toArray, vp] w fun e w' => ∃ r G', e = .returned r ∧ Res [] w G w' G' ∧ r = .bool true := by
 refine calls_of_WC (N := 74) Tryz.func4 rfl rfl rfl ?_
 have hS := St.start (X := []) hG
 obtain ⟨lv1, rfl, hb1, hb2, hb3, hb4, hb5, hb6, ho1⟩ := CondE_open hcc
 refine WC.seq <| WC.region rfl ?_
 refine WL.boxG [.int .i64 c.kind, strV c.col, strV c.oth, .int .i64 c.v.k, .int .i64 c.v.n, strV c.v.s, lv1] _ hS rfl rfl rfl (fun p1 w1 G1 hle1 hsp1 hc1 hS1 => ?_)
 refine WL.assign rfl <| WL.nil <| WC.seq <| WC.seq <| WC.region rfl ?_
 refine WL.callF [] #[] hb11 rfl rfl rfl ((c_awake _ _ hS1.imm   ).mono ?_)
 rintro e w2 ⟨r1, G2, rfl, hres1, hpost1⟩
 refine ⟨_, rfl, ?_⟩
 have hS2 := hS1.call hres1
 have hle2 := hres1.le
 subst hpost1
 refine WL.not true rfl rfl <| WL.nil <| WC.condF rfl <| WC.skip <| WC.seq <| WC.seq <| WC.region rfl <| WL.move rfl ?_
 refine WL.buildSlice _ [(0, [vl])] [vl] hS2 sl89 rfl rfl rfl (by show [(0, (vl : Value).cells.toList)] = _; simp only [(hvl.mono (hle1.trans hle2)).cells1] <;> rfl) (fun z hz => by match z, hz with | [z0], _ => rfl) (fun b1 w3 hn1 hS3 => ?_)
 obtain ⟨G3, hle3, hs1, hS4⟩ := St.sealSl (E := (FactE.slice 40)) (by_ := 24) (l := ([l] : List (List Fact))) hS3 hn1 ⟨[vl], _, rfl, ⟨_, rfl, (hvl.mono (hle1.trans hle2))⟩, rfl⟩ rfl (by simp [reach]) (by simp [reach])
 refine WL.callF [.slice (some ⟨b1, 0, none⟩) 1 1] #[] hb12 rfl rfl rfl ((c_great _ _ hS4.imm [l] _ hs1 ).mono ?_)
 rintro e w4 ⟨r2, G4, rfl, hres2, hpost2⟩
 refine ⟨_, rfl, ?_⟩
 have hS5 := hS4.call hres2
 have hle4 := hres2.le
 subst hpost2
 refine WL.split (fun (h1 : ([l].any greatB) = true) => ?_) (fun (h1 : ([l].any greatB) = false) => ?_)
 ·refine WL.move rfl <| WL.no rfl rfl <| WL.no rfl rfl <| WL.no rfl rfl <| WL.pickT rfl rfl <| WL.move rfl <| WL.no rfl rfl <| WL.no rfl rfl <| WL.no rfl rfl <| WL.pickT rfl rfl <| WL.move rfl <| WL.no rfl rfl <| WL.no rfl rfl <| WL.pickT rfl rfl <| WL.nil <| WC.condT rfl <| WC.seq <| WC.region rfl <| WL.assign rfl <| WL.nil <| WC.ret ?_
  exact ⟨_, rfl, _, _, rfl, hS5.res, (congrArg Value.bool (by first | rfl | (simp [hq9.1, hq9.2, hp9.1, hp9.2] at *; done) | (exfalso; simp [hq9.1, hq9.2] at *; done)))⟩
 refine WL.move rfl <| WL.move rfl ?_
 have bd1 := hvs.bound
 refine WL.lenSl (hvs.mono (((hle1.trans hle2).trans hle3).trans hle4)) ul32 rfl rfl ?_
 refine WL.gtrS (cs.length : Int) 10 rfl rfl rfl (fun h2 => ?_) (fun h2 => ?_)
 ·refine WL.pickF rfl rfl <| WL.move rfl <| WL.no rfl rfl <| WL.no rfl rfl <| WL.no rfl rfl <| WL.pickT rfl rfl <| WL.move rfl <| WL.no rfl rfl <| WL.no rfl rfl <| WL.pickT rfl rfl <| WL.nil <| WC.condT rfl <| WC.seq <| WC.region rfl <| WL.assign rfl <| WL.nil <| WC.ret ?_
  exact ⟨_, rfl, _, _, rfl, hS5.res, (congrArg Value.bool (by first | rfl | (simp [hq9.1, hq9.2, hp9.1, hp9.2] at *; done) | (exfalso; simp [hq9.1, hq9.2] at *; done)))⟩
 refine WL.pickF rfl rfl <| WL.move rfl <| WL.move rfl ?_
 have bd2 := hvp.bound
 refine WL.lenSl (hvp.mono (((hle1.trans hle2).trans hle3).trans hle4)) ul38 rfl rfl ?_
 refine WL.gtrS (ps.length : Int) 10 rfl rfl rfl (fun h3 => ?_) (fun h3 => ?_)
 ·refine WL.pickF rfl rfl <| WL.move rfl <| WL.no rfl rfl <| WL.no rfl rfl <| WL.pickT rfl rfl <| WL.nil <| WC.condT rfl <| WC.seq <| WC.region rfl <| WL.assign rfl <| WL.nil <| WC.ret ?_
  exact ⟨_, rfl, _, _, rfl, hS5.res, (congrArg Value.bool (by first | rfl | (simp [hq9.1, hq9.2, hp9.1, hp9.2] at *; done) | (exfalso; simp [hq9.1, hq9.2] at *; done)))⟩
 refine WL.pickF rfl rfl <| WL.move rfl <| WL.loadGAt hS5 (hc1.mono ((hle2.trans hle3).trans hle4)) [.int .i64 c.kind, strV c.col, strV c.oth, .int .i64 c.v.k, .int .i64 c.v.n, strV c.v.s, lv1] ti37 rfl rfl rfl rfl rfl ?_
 refine WL.callF [.agg #[.int .i64 c.kind, strV c.col, strV c.oth, .int .i64 c.v.k, .int .i64 c.v.n, strV c.v.s, lv1]] #[] hb16 rfl rfl rfl ((c_deep _ _ hS5.imm _ c _ ((CondE _).mono (((hle1.trans hle2).trans hle3).trans hle4) hcc) ).mono ?_)
 rintro e w5 ⟨r3, G5, rfl, hres3, hpost3⟩
 refine ⟨_, rfl, ?_⟩
 have hS6 := hS5.call hres3
 have hle5 := hres3.le
 subst hpost3
 refine WL.split (fun (h4 : (decide (20 < cntF d c 0)) = true) => ?_) (fun (h4 : (decide (20 < cntF d c 0)) = false) => ?_)
 ·refine WL.pickF rfl rfl <| WL.nil <| WC.condT rfl <| WC.seq <| WC.region rfl <| WL.assign rfl <| WL.nil <| WC.ret ?_
  exact ⟨_, rfl, _, _, rfl, hS6.res, (congrArg Value.bool (by first | rfl | (simp [hq9.1, hq9.2, hp9.1, hp9.2] at *; done) | (exfalso; simp [hq9.1, hq9.2] at *; done)))⟩
 refine WL.pickF rfl rfl <| WL.nil <| WC.condF rfl <| WC.skip <| WC.seq ?_
 have hq9 := sel_eq (d := d) (c := c) (cs := cs) (l := l)
 have hp9 := prj_eq (l := l) (ps := ps)
 refine WC.region rfl <| WL.move rfl <| WL.move rfl <| WL.loadGAt hS6 (hc1.mono (((hle2.trans hle3).trans hle4).trans hle5)) [.int .i64 c.kind, strV c.col, strV c.oth, .int .i64 c.v.k, .int .i64 c.v.n, strV c.v.s, lv1] ti37 rfl rfl rfl rfl rfl ?_
 refine WL.callF [vl, vs, .agg #[.int .i64 c.kind, strV c.col, strV c.oth, .int .i64 c.v.k, .int .i64 c.v.n, strV c.v.s, lv1]] #[] hb17 rfl rfl rfl ((c_Select _ _ hS6.imm _ l cs c _ (hvl.mono ((((hle1.trans hle2).trans hle3).trans hle4).trans hle5)) _ (hvs.mono ((((hle1.trans hle2).trans hle3).trans hle4).trans hle5)) _ ((CondE _).mono ((((hle1.trans hle2).trans hle3).trans hle4).trans hle5) hcc) ).mono ?_)
 rintro e w6 ⟨r4, G6, rfl, hres4, hpost4⟩
 refine ⟨_, rfl, ?_⟩
 have hS7 := hS6.call hres4
 have hle6 := hres4.le
 obtain ⟨r5, r6, rfl, hs2, rfl⟩ := hpost4
 refine WL.move rfl <| WL.extract _ _ rfl rfl rfl <| WL.extract _ _ rfl rfl rfl <| WL.assign rfl <| WL.assign rfl <| WL.nil <| WC.seq <| WC.region rfl <| WL.move rfl <| WL.move rfl <| WL.loadGAt hS7 (hc1.mono ((((hle2.trans hle3).trans hle4).trans hle5).trans hle6)) [.int .i64 c.kind, strV c.col, strV c.oth, .int .i64 c.v.k, .int .i64 c.v.n, strV c.v.s, lv1] ti37 rfl rfl rfl rfl rfl ?_
 refine WL.callF [vl, vs, .agg #[.int .i64 c.kind, strV c.col, strV c.oth, .int .i64 c.v.k, .int .i64 c.v.n, strV c.v.s, lv1]] #[] hb18 rfl rfl rfl ((c_rSelect _ _ hS7.imm _ l cs c _ (hvl.mono (((((hle1.trans hle2).trans hle3).trans hle4).trans hle5).trans hle6)) _ (hvs.mono (((((hle1.trans hle2).trans hle3).trans hle4).trans hle5).trans hle6)) _ ((CondE _).mono (((((hle1.trans hle2).trans hle3).trans hle4).trans hle5).trans hle6) hcc) ).mono ?_)
 rintro e w7 ⟨r7, G7, rfl, hres5, hpost5⟩
 refine ⟨_, rfl, ?_⟩
 have hS8 := hS7.call hres5
 have hle7 := hres5.le
 obtain ⟨r8, r9, rfl, hs3, rfl⟩ := hpost5
 refine WL.move rfl <| WL.extract _ _ rfl rfl rfl <| WL.extract _ _ rfl rfl rfl <| WL.assign rfl <| WL.assign rfl <| WL.nil <| WC.seq <| WC.region rfl <| WL.move rfl <| WL.move rfl ?_
 refine WL.callF [vl, vp] #[] hb19 rfl rfl rfl ((c_Project _ _ hS8.imm l ps _ (hvl.mono ((((((hle1.trans hle2).trans hle3).trans hle4).trans hle5).trans hle6).trans hle7)) _ (hvp.mono ((((((hle1.trans hle2).trans hle3).trans hle4).trans hle5).trans hle6).trans hle7)) ).mono ?_)
 rintro e w8 ⟨r10, G8, rfl, hres6, hpost6⟩
 refine ⟨_, rfl, ?_⟩
 have hS9 := hS8.call hres6
 have hle8 := hres6.le
 obtain ⟨r11, r12, rfl, hs4, rfl⟩ := hpost6
 refine WL.move rfl <| WL.extract _ _ rfl rfl rfl <| WL.extract _ _ rfl rfl rfl <| WL.assign rfl <| WL.assign rfl <| WL.nil <| WC.seq <| WC.region rfl <| WL.move rfl <| WL.move rfl ?_
 refine WL.callF [vl, vp] #[] hb20 rfl rfl rfl ((c_rProject _ _ hS9.imm l ps _ (hvl.mono (((((((hle1.trans hle2).trans hle3).trans hle4).trans hle5).trans hle6).trans hle7).trans hle8)) _ (hvp.mono (((((((hle1.trans hle2).trans hle3).trans hle4).trans hle5).trans hle6).trans hle7).trans hle8)) ).mono ?_)
 rintro e w9 ⟨r13, G9, rfl, hres7, hpost7⟩
 refine ⟨_, rfl, ?_⟩
 have hS10 := hS9.call hres7
 have hle9 := hres7.le
 obtain ⟨r14, r15, rfl, hs5, rfl⟩ := hpost7
 refine WL.move rfl <| WL.extract _ _ rfl rfl rfl <| WL.extract _ _ rfl rfl rfl <| WL.assign rfl <| WL.assign rfl <| WL.nil <| WC.seq <| WC.region rfl <| WL.move rfl <| WL.move rfl <| WL.move rfl <| WL.move rfl ?_
 refine WL.callF [r5, .int .i64 (selE d c cs l), r8, .int .i64 (rselE d c cs l)] #[] hb15 rfl rfl rfl ((c_same _ _ hS10.imm (selL d c cs l) (selE d c cs l) (rselL d c cs l) (rselE d c cs l) _ (hs2.mono ((hle7.trans hle8).trans hle9)) _ (hs3.mono (hle8.trans hle9)) ).mono ?_)
 rintro e w10 ⟨r16, G10, rfl, hres8, hpost8⟩
 refine ⟨_, rfl, ?_⟩
 have hS11 := hS10.call hres8
 have hle10 := hres8.le
 subst hpost8
 refine WL.split (fun (h5 : (decide ((selE d c cs l) = (rselE d c cs l)) && decide ((selL d c cs l) = (rselL d c cs l))) = true) => ?_) (fun (h5 : (decide ((selE d c cs l) = (rselE d c cs l)) && decide ((selL d c cs l) = (rselL d c cs l))) = false) => ?_)
 ·refine WL.move rfl <| WL.move rfl <| WL.move rfl <| WL.move rfl <| WL.move rfl ?_
  refine WL.callF [r11, .int .i64 (prjE l ps), r14, .int .i64 (rprjE l ps)] #[] hb15 rfl rfl rfl ((c_same _ _ hS11.imm (prjL l ps) (prjE l ps) (rprjL l ps) (rprjE l ps) _ (hs4.mono (hle9.trans hle10)) _ (hs5.mono hle10) ).mono ?_)
  rintro e w11 ⟨r17, G11, rfl, hres9, hpost9⟩
  refine ⟨_, rfl, ?_⟩
  have hS12 := hS11.call hres9
  have hle11 := hres9.le
  subst hpost9
  refine WL.pickT rfl rfl <| WL.assign rfl <| WL.nil <| WC.ret ?_
  exact ⟨_, rfl, _, _, rfl, hS12.res, (congrArg Value.bool (by first | rfl | (simp [hq9.1, hq9.2, hp9.1, hp9.2] at *; done) | (exfalso; simp [hq9.1, hq9.2] at *; done)))⟩
 refine WL.move rfl <| WL.no rfl rfl <| WL.no rfl rfl <| WL.no rfl rfl <| WL.no rfl rfl <| WL.no rfl rfl <| WL.pickF rfl rfl <| WL.assign rfl <| WL.nil <| WC.ret ?_
 exact ⟨_, rfl, _, _, rfl, hS11.res, (congrArg Value.bool (by first | rfl | (simp [hq9.1, hq9.2, hp9.1, hp9.2] at *; done) | (exfalso; simp [hq9.1, hq9.2] at *; done)))⟩
end Go.Civ
