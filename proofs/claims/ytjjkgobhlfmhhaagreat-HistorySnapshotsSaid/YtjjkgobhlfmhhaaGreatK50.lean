/- Lemmas: Lh. -/
import Derived.Test.YtjjkgobhlfmhhaaGreatK27
import Derived.Test.YtjjkgobhlfmhhaaGreatK45
import Derived.Test.YtjjkgobhlfmhhaaGreatProg
import Derived.KernelRfl
import Derived.WalkKit
set_option linter.unusedVariables false
set_option linter.unusedSimpArgs false
set_option maxRecDepth 100000
set_option maxHeartbeats 4000000
namespace Go.Civ
open Go.Proofs
theorem c_HistorySnapshots {G : GH} {w : World} (hG : G.In w) (t : Table) (v : List Val) (at_ tx : Int) (ct : List Value) (hct : TableE.rep G t ct) (vv : Value) (hvv : Sl ValE 32 G vv v) : CL Tryz.prog (nat_lit 8) #[.agg ct.toArray,vv, .int .i64 at_, .int .i64 tx] [] w G fun _ _ r=>r = .bool true:=by
 refine calls_of_go ft [] Tryz.func8 rfl rfl ?_
 have hS:=St.start (X:=[]) hG
 obtain ⟨v1,v2,v3,rfl,hb1,hs1,hb2,hs2,hs3,hb3⟩:=TableE_open hct
 refine WL.boxG [strV t.s.name,v1, .int .i64 t.s.key,v2,v3, .int .i64 t.last] _ hS rfl rfl rfl (fun p1 w1 G1 hle1 hsp1 hc1 hS1=>?_)
 refine WL.boxG [vv] _ hS1 rfl rfl (hvv.mono hle1).cells1 (fun p2 w2 G2 hle2 hsp2 hc2 hS2=>?_)
 refine WL.cV hS2 hb13 rfl rfl rfl (c_awake hS2.imm) (fun w3 G3 hS3 hle3=>?_)
 refine WL.loadG1 hS3 (Cells.drop 4 (hc1.mono (hle2.trans hle3))) ti26 rfl rfl rfl ?_
 refine WL.cV hS3 hb14 rfl rfl rfl (c_great hS3.imm t.rows _ (hs3.mono ((hle1.trans hle2).trans hle3))) (fun w4 G4 hS4 hle4=>?_)
 refine WL.split (fun (h1 : (greatH t.rows) = true)=>?_) (fun (h1 : (greatH t.rows) = false)=>?_)
 ·exact RB hS4 rfl (by with_reducible rfl)
 refine WL.loadG1 hS4 (hc2.mono (hle3.trans hle4)) ti36 rfl rfl rfl ?_
 have bd1:=hvv.bound
 refine WL.lenSl (hvv.mono (((hle1.trans hle2).trans hle3).trans hle4)) ul36 rfl rfl ?_
 refine WL.gtrS (v.length : Int) 8 rfl rfl rfl (fun h2=>?_) (fun h2=>?_)
 ·exact RB hS4 rfl (by with_reducible rfl)
 have hgr:=great_no (by assumption : greatH t.rows = false)
 refine dr [(3,true),(6,false),(7,false),(8,false)] [(23, .agg #[strV t.s.name,v1, .int .i64 t.s.key,v2,v3, .int .i64 t.last]),(27, .agg #[strV t.s.name,v1, .int .i64 t.s.key,v2,v3, .int .i64 t.last])] hS4 ⟨fun _ hSw=>WL.loadGAt hSw (hc1.mono ((hle2.trans hle3).trans hle4)) [strV t.s.name,v1, .int .i64 t.s.key,v2,v3, .int .i64 t.last] ti28 rfl rfl rfl rfl rfl <| nu rfl rfl,fun _ hSw=>WL.loadGAt hSw (hc1.mono ((hle2.trans hle3).trans hle4)) [strV t.s.name,v1, .int .i64 t.s.key,v2,v3, .int .i64 t.last] ti28 rfl rfl rfl rfl rfl <| nu rfl rfl,trivial⟩ (fun w5 hS5=>?_)
 refine WL.cA hS5 hb31 rfl rfl rfl (c_Snapshot hS5.imm t at_ tx _ (TableE_mk t hb1 (hs1.mono (((hle1.trans hle2).trans hle3).trans hle4)) hb2 (hs2.mono (((hle1.trans hle2).trans hle3).trans hle4)) (hs3.mono (((hle1.trans hle2).trans hle3).trans hle4)) hb3)) (fun w6 G5 r1 hpost1 hS6 hle5=>?_)
 refine ⟨hS6.down hS5.le hle5,?_⟩
 refine WL.cA hS6 hb30 rfl rfl rfl (c_hAt hS6.imm t tx _ (TableE_mk t hb1 (hs1.mono ((((hle1.trans hle2).trans hle3).trans hle4).trans hle5)) hb2 (hs2.mono ((((hle1.trans hle2).trans hle3).trans hle4).trans hle5)) (hs3.mono ((((hle1.trans hle2).trans hle3).trans hle4).trans hle5)) hb3)) (fun w7 G6 r2 hpost2 hS7 hle6=>?_)
 refine WL.loadGAt hS7 (hc1.mono ((((hle2.trans hle3).trans hle4).trans hle5).trans hle6)) [strV t.s.name,v1, .int .i64 t.s.key,v2,v3, .int .i64 t.last] ti28 rfl rfl rfl rfl rfl <| WL.loadG1 hS7 (hc2.mono (((hle3.trans hle4).trans hle5).trans hle6)) ti36 rfl rfl rfl ?_
 refine WL.cV hS7 hb39 rfl rfl rfl (c_hHas hS7.imm t v at_ tx _ (TableE_mk t hb1 (hs1.mono (((((hle1.trans hle2).trans hle3).trans hle4).trans hle5).trans hle6)) hb2 (hs2.mono (((((hle1.trans hle2).trans hle3).trans hle4).trans hle5).trans hle6)) (hs3.mono (((((hle1.trans hle2).trans hle3).trans hle4).trans hle5).trans hle6)) hb3) _ (hvv.mono (((((hle1.trans hle2).trans hle3).trans hle4).trans hle5).trans hle6))) (fun w9 G7 hS8 hle7=>?_)
 refine WL.loadGAt hS8 (hc1.mono (((((hle2.trans hle3).trans hle4).trans hle5).trans hle6).trans hle7)) [strV t.s.name,v1, .int .i64 t.s.key,v2,v3, .int .i64 t.last] ti28 rfl rfl rfl rfl rfl ?_
 refine WL.cV hS8 hb16 rfl rfl rfl (c_valid hS8.imm t _ (TableE_mk t hb1 (hs1.mono ((((((hle1.trans hle2).trans hle3).trans hle4).trans hle5).trans hle6).trans hle7)) hb2 (hs2.mono ((((((hle1.trans hle2).trans hle3).trans hle4).trans hle5).trans hle6).trans hle7)) (hs3.mono ((((((hle1.trans hle2).trans hle3).trans hle4).trans hle5).trans hle6).trans hle7)) hb3)) (fun w10 G9 hS9 hle9=>?_)
 refine WL.split (fun (h3 : (validT t) = true)=>?_) (fun (h3 : (validT t) = false)=>?_)
 ·refine WL.cV hS9 hb23 rfl rfl rfl (c_rTime hS9.imm tx) (fun w11 G10 hS10 hle10=>?_)
  refine WL.split (fun (h4 : (instB tx) = true)=>?_) (fun (h4 : (instB tx) = false)=>?_)
  ·refine WL.loadG1 hS10 (Cells.drop 4 (hc1.mono (((((((hle2.trans hle3).trans hle4).trans hle5).trans hle6).trans hle7).trans hle9).trans hle10))) ti26 rfl rfl rfl ?_
   refine WL.cA hS10 hb41 rfl rfl rfl (c_rAt hS10.imm t.rows tx _ (hs3.mono ((((((((hle1.trans hle2).trans hle3).trans hle4).trans hle5).trans hle6).trans hle7).trans hle9).trans hle10)) (by omega)) (fun w12 G11 r3 hpost3 hS11 hle11=>?_)
   refine WL.cV hS11 hb40 rfl rfl rfl (c_rFacts hS11.imm (atH t tx) (ratH t.rows tx (valsH t.rows)) _ (hpost2.mono (((hle7.trans hle9).trans hle10).trans hle11)) _ hpost3) (fun w13 G12 hS12 hle12=>?_)
   refine WL.split (fun (h5 : (decide ((atH t tx) = (ratH t.rows tx (valsH t.rows)))) = true)=>?_) (fun (h5 : (decide ((atH t tx) = (ratH t.rows tx (valsH t.rows)))) = false)=>?_)
   ·refine WL.cV hS12 hb23 rfl rfl rfl (c_rTime hS12.imm at_) (fun w14 G13 hS13 hle13=>?_)
    refine WL.split (fun (h6 : (instB at_) = true)=>?_) (fun (h6 : (instB at_) = false)=>?_)
    ·refine WL.loadG1 hS13 (Cells.drop 4 (hc1.mono ((((((((((hle2.trans hle3).trans hle4).trans hle5).trans hle6).trans hle7).trans hle9).trans hle10).trans hle11).trans hle12).trans hle13))) ti26 rfl rfl rfl ?_
     refine WL.cA hS13 hb42 rfl rfl rfl (c_rSnapshot hS13.imm t.rows at_ tx _ (hs3.mono (((((((((((hle1.trans hle2).trans hle3).trans hle4).trans hle5).trans hle6).trans hle7).trans hle9).trans hle10).trans hle11).trans hle12).trans hle13)) (by omega)) (fun w15 G14 r4 hpost4 hS14 hle14=>?_)
     refine WL.cV hS14 hb43 rfl rfl rfl (c_rLists hS14.imm (snapH t at_ tx) (rsnapH t.rows at_ tx) _ (hpost1.mono (((((((hle6.trans hle7).trans hle9).trans hle10).trans hle11).trans hle12).trans hle13).trans hle14)) _ hpost4) (fun w16 G15 hS15 hle15=>?_)
     refine WL.split (fun (h7 : (decide ((snapH t at_ tx) = (rsnapH t.rows at_ tx))) = true)=>?_) (fun (h7 : (decide ((snapH t at_ tx) = (rsnapH t.rows at_ tx))) = false)=>?_)
     ·refine WL.cV hS15 hb44 rfl rfl rfl (c_ContainsVV hS15.imm (rsnapH t.rows at_ tx) (fun x8=>decide (x8 = v)) _ (hpost4.mono hle15) 45 #[.pointer (some p2)] ⟨hb45,fun G8 w8 v8 x8 hle8 hG8 hon8 hA8=>by exact c_snp1 hG8 v x8 v8 hA8 vv ((hvv.mono (((((((((((((hle1.trans hle2).trans hle3).trans hle4).trans hle5).trans hle6).trans hle7).trans hle9).trans hle10).trans hle11).trans hle12).trans hle13).trans hle14).trans hle15)).mono hle8) p2 ((hc2.mono (((((((((((hle3.trans hle4).trans hle5).trans hle6).trans hle7).trans hle9).trans hle10).trans hle11).trans hle12).trans hle13).trans hle14).trans hle15)).mono hle8)⟩) (fun w17 G16 hS16 hle16=>?_)
      refine WL.boolEq (hasH t v at_ tx) ((rsnapH t.rows at_ tx).any (fun x8=>decide (x8 = v))) ul4 rfl rfl rfl ?_
      exact RB hS16 rfl (by (rw [has_law (t:=t) (a:=at_) (x:=tx) (by assumption) (by assumption) (by assumption)]; exact beq_self_eq_true _))
     exact RB hS15 rfl (by exact absurd (snap_law (t:=t) (a:=at_) (x:=tx) (by assumption) (by assumption) (by assumption)) (of_decide_eq_false (by assumption)))
    have bd2:=hpost1.bound
    refine WL.lenSl (hpost1.mono ((((((hle6.trans hle7).trans hle9).trans hle10).trans hle11).trans hle12).trans hle13)) ul56 rfl rfl ?_
    refine WL.eqlS (((snapH t at_ tx).length : Nat) : Int) 0 rfl rfl rfl (fun h8=>?_) (fun h8=>?_)
    ·exact RB hS13 rfl (by (rw [has_z (t:=t) (a:=at_) (x:=tx) (by first | exact .inl (by assumption) | exact .inr (.inl (by assumption)) | exact .inr (.inr (by first | assumption | omega)))]; rfl))
    exact RB hS13 rfl (by exact absurd (snap_zl (t:=t) (a:=at_) (x:=tx) (by first | exact .inl (by assumption) | exact .inr (.inl (by assumption)) | exact .inr (.inr (by first | assumption | omega)))) (by assumption))
   exact RB hS12 rfl (by exact absurd (at_law (t:=t) (x:=tx) (by assumption) (by assumption)) (of_decide_eq_false (by assumption)))
  have bd3:=hpost1.bound
  refine WL.lenSl (hpost1.mono (((hle6.trans hle7).trans hle9).trans hle10)) ul56 rfl rfl ?_
  refine WL.eqlS (((snapH t at_ tx).length : Nat) : Int) 0 rfl rfl rfl (fun h9=>?_) (fun h9=>?_)
  ·have bd4:=hpost2.bound
   refine WL.lenSl (hpost2.mono ((hle7.trans hle9).trans hle10)) ul57 rfl rfl ?_
   refine WL.eqlS (((atH t tx).length : Nat) : Int) 0 rfl rfl rfl (fun h10=>?_) (fun h10=>?_)
   ·exact RB hS10 rfl (by (rw [has_z (t:=t) (a:=at_) (x:=tx) (by first | exact .inl (by assumption) | exact .inr (.inl (by assumption)) | exact .inr (.inr (by first | assumption | omega)))]; rfl))
   exact RB hS10 rfl (by exact absurd (at_z (t:=t) (x:=tx) (by first | exact .inl (by assumption) | exact .inr (by assumption))) (by assumption))
  exact RB hS10 rfl (by exact absurd (snap_zl (t:=t) (a:=at_) (x:=tx) (by first | exact .inl (by assumption) | exact .inr (.inl (by assumption)) | exact .inr (.inr (by first | assumption | omega)))) (by assumption))
 have bd5:=hpost1.bound
 refine WL.lenSl (hpost1.mono ((hle6.trans hle7).trans hle9)) ul56 rfl rfl ?_
 refine WL.eqlS (((snapH t at_ tx).length : Nat) : Int) 0 rfl rfl rfl (fun h11=>?_) (fun h11=>?_)
 ·have bd6:=hpost2.bound
  refine WL.lenSl (hpost2.mono (hle7.trans hle9)) ul57 rfl rfl ?_
  refine WL.eqlS (((atH t tx).length : Nat) : Int) 0 rfl rfl rfl (fun h12=>?_) (fun h12=>?_)
  ·exact RB hS9 rfl (by (rw [has_z (t:=t) (a:=at_) (x:=tx) (by first | exact .inl (by assumption) | exact .inr (.inl (by assumption)) | exact .inr (.inr (by first | assumption | omega)))]; rfl))
  exact RB hS9 rfl (by exact absurd (at_z (t:=t) (x:=tx) (by first | exact .inl (by assumption) | exact .inr (by assumption))) (by assumption))
 exact RB hS9 rfl (by exact absurd (snap_zl (t:=t) (a:=at_) (x:=tx) (by first | exact .inl (by assumption) | exact .inr (.inl (by assumption)) | exact .inr (.inr (by first | assumption | omega)))) (by assumption))
end Go.Civ
