/- Lemmas: Le. -/
import Derived.Test.YtjjkgobhlfmhhaaGreatK27
import Derived.Test.YtjjkgobhlfmhhaaGreatK45
import Derived.Test.YtjjkgobhlfmhhaaGreatProg
import Derived.KernelRfl
import Derived.WalkKit
set_option linter.unusedVariables false
set_option linter.unusedSimpArgs false
set_option maxRecDepth 100000
set_option maxHeartbeats 4000000
namespace Go.Civ
open Go.Proofs
theorem c_HistoryValid {G : GH} {w : World} (hG : G.In w) (t : Table) (ct : List Value) (hct : TableE.rep G t ct) : CL Tryz.prog (nat_lit 3) #[.agg ct.toArray] [] w G fun _ _ r=>r = .bool true:=by
 refine calls_of_go ft [] Tryz.func3 rfl rfl ?_
 have hS:=St.start (X:=[]) hG
 obtain ⟨v1,v2,v3,rfl,hb1,hs1,hb2,hs2,hs3,hb3⟩:=TableE_open hct
 refine WL.boxG [strV t.s.name,v1, .int .i64 t.s.key,v2,v3, .int .i64 t.last] _ hS rfl rfl rfl (fun p1 w1 G1 hle1 hsp1 hc1 hS1=>?_)
 refine WL.cV hS1 hb13 rfl rfl rfl (c_awake hS1.imm) (fun w2 G2 hS2 hle2=>?_)
 refine WL.loadG1 hS2 (Cells.drop 4 (hc1.mono hle2)) ti26 rfl rfl rfl ?_
 refine WL.cV hS2 hb14 rfl rfl rfl (c_great hS2.imm t.rows _ (hs3.mono (hle1.trans hle2))) (fun w3 G3 hS3 hle3=>?_)
 refine WL.split (fun (h1 : (greatH t.rows) = true)=>?_) (fun (h1 : (greatH t.rows) = false)=>?_)
 ·exact RB hS3 rfl (by rfl)
 rcases Bool.eq_false_or_eq_true (!((validT t) == (validT t))) with h2 | h2
 ·exact (ne_self h2).elim
 refine dr [] [(10, .agg #[strV t.s.name,v1, .int .i64 t.s.key,v2,v3, .int .i64 t.last]),(11, .bool (validT t)),(12, .agg #[strV t.s.name,v1, .int .i64 t.s.key,v2,v3, .int .i64 t.last]),(13, .bool (validT t)),(14, .bool false)] hS3 ⟨fun _ hSw=>WL.loadGAt hSw (hc1.mono (hle2.trans hle3)) [strV t.s.name,v1, .int .i64 t.s.key,v2,v3, .int .i64 t.last] ti28 rfl rfl rfl rfl rfl <| nu rfl rfl,fun _ hSw=>WL.callD hSw hb15 rfl rfl rfl (c_hValid hSw.imm t _ (TableE_mk t hb1 (hs1.mono ((hle1.trans hle2).trans hle3)) hb2 (hs2.mono ((hle1.trans hle2).trans hle3)) (hs3.mono ((hle1.trans hle2).trans hle3)) hb3)) rfl,fun _ hSw=>WL.loadGAt hSw (hc1.mono (hle2.trans hle3)) [strV t.s.name,v1, .int .i64 t.s.key,v2,v3, .int .i64 t.last] ti28 rfl rfl rfl rfl rfl <| nu rfl rfl,fun _ hSw=>WL.callD hSw hb16 rfl rfl rfl (c_valid hSw.imm t _ (TableE_mk t hb1 (hs1.mono ((hle1.trans hle2).trans hle3)) hb2 (hs2.mono ((hle1.trans hle2).trans hle3)) (hs3.mono ((hle1.trans hle2).trans hle3)) hb3)) rfl,fun _=>WL.boolNe (validT t) (validT t) ul4 rfl rfl rfl <| nu (congrArg Value.bool h2.symm) rfl,trivial⟩ (fun w4 hS4=>?_)
 refine WL.loadGAt hS4 (Cells.drop 0 (hc1.mono (hle2.trans hle3))) [strV t.s.name,v1, .int .i64 t.s.key,v2] ti25 rfl rfl rfl rfl rfl <| WL.cA hS4 hb17 rfl rfl rfl (c_hNew hS4.imm t.s _ (SchemaE_mk t.s hb1 (hs1.mono ((hle1.trans hle2).trans hle3)) hb2 (hs2.mono ((hle1.trans hle2).trans hle3)))) ?_
 rintro w5 G4 _ ⟨r2,_,rfl,hs4,rfl⟩ hS5 hle4
 obtain ⟨cs1,rfl,hr1⟩:=hs4
 obtain ⟨v4,v5,v6,rfl,hb4,hs5,hb5,hs6,hs7,hb6⟩:=TableE_open hr1
 refine WL.alloc hS5 ti28 rfl rfl (fun b1 w6 hn1 hS6=>?_)
 refine WL.store hS6 0 _ _ _ 0 _ [strV ((newT t.s).s.name),v4, .int .i64 ((newT t.s).s.key),v5,v6, .int .i64 ((newT t.s).last)] [strV ((newT t.s).s.name),v4, .int .i64 ((newT t.s).s.key),v5,v6, .int .i64 ((newT t.s).last)] _ rfl rfl ti28 rfl (Nat.le_of_ble_eq_true rfl) (by simp only [List.all_cons,List.all_nil,hs5.oneC,hs6.oneC,hs7.oneC,Bool.true_and] <;> rfl) rfl rfl rfl rfl rfl (fun w7 hS7=>?_)
 obtain ⟨G5,hle5,hc2,hS8⟩:=hS7.shutB hn1
 refine WL.loadGAt hS8 (Cells.drop 0 (hc1.mono (((hle2.trans hle3).trans hle4).trans hle5))) [strV t.s.name,v1, .int .i64 t.s.key,v2] ti25 rfl rfl rfl rfl rfl ?_
 refine WL.cV hS8 hb18 rfl rfl rfl (c_sValid hS8.imm t.s _ (SchemaE_mk t.s hb1 (hs1.mono ((((hle1.trans hle2).trans hle3).trans hle4).trans hle5)) hb2 (hs2.mono ((((hle1.trans hle2).trans hle3).trans hle4).trans hle5)))) (fun w9 G6 hS9 hle6=>?_)
 refine WL.split (fun (h3 : (schB t.s) = true)=>?_) (fun (h3 : (schB t.s) = false)=>?_)
 ·refine WL.eqlS (newE t.s) 0 rfl rfl rfl (fun h4=>?_) (fun h4=>?_)
  ·refine WL.loadG1 hS9 (Cells.drop 4 (hc2.mono hle6)) ti26 rfl rfl rfl ?_
   have bd1:=hs7.bound
   refine WL.lenSl (hs7.mono (hle5.trans hle6)) ul26 rfl rfl ?_
   refine WL.eqlS ((((newT t.s).rows).length : Nat) : Int) 0 rfl rfl rfl (fun h5=>?_) (fun h5=>?_)
   ·refine WL.loadG1 hS9 (Cells.drop 5 (hc2.mono hle6)) ti3 rfl rfl rfl ?_
    refine WL.eqlS ((newT t.s).last) (-62135596801) rfl rfl rfl (fun h6=>?_) (fun h6=>?_)
    ·refine WL.loadGAt hS9 (hc2.mono hle6) [strV ((newT t.s).s.name),v4, .int .i64 ((newT t.s).s.key),v5,v6, .int .i64 ((newT t.s).last)] ti28 rfl rfl rfl rfl rfl ?_
     refine WL.cV hS9 hb15 rfl rfl rfl (c_hValid hS9.imm (newT t.s) _ (TableE_mk (newT t.s) hb4 (hs5.mono (hle5.trans hle6)) hb5 (hs6.mono (hle5.trans hle6)) (hs7.mono (hle5.trans hle6)) hb6)) (fun w10 G7 hS10 hle7=>?_)
     exact RB hS10 rfl (by exact newT_valid (by assumption))
    exact RB hS9 rfl (by exact absurd (nt_last (by assumption)) (by assumption))
   exact RB hS9 rfl (by exact absurd (nt_rows (by assumption)) (by assumption))
  exact RB hS9 rfl (by exact absurd (newT_yes (by assumption)).2 (by assumption))
 refine WL.eqlS (newE t.s) 1 rfl rfl rfl (fun h7=>?_) (fun h7=>?_)
 ·refine WL.loadGAt hS9 (hc2.mono hle6) [strV ((newT t.s).s.name),v4, .int .i64 ((newT t.s).s.key),v5,v6, .int .i64 ((newT t.s).last)] ti28 rfl rfl rfl rfl rfl ?_
  refine WL.cV hS9 hb19 rfl rfl rfl (c_nothing hS9.imm (newT t.s) _ (TableE_mk (newT t.s) hb4 (hs5.mono (hle5.trans hle6)) hb5 (hs6.mono (hle5.trans hle6)) (hs7.mono (hle5.trans hle6)) hb6)) (fun w11 G9 hS11 hle9=>?_)
  exact RB hS11 rfl (by exact nt_noth (by assumption))
 exact RB hS9 rfl (by exact absurd (newT_no (by assumption)).2 (by assumption))
end Go.Civ
