/- Lemmas: Lk. -/
import Derived.Test.YtjjkgobhlfmhhaaGreatK28
import Derived.Test.YtjjkgobhlfmhhaaGreatK45
import Derived.Test.YtjjkgobhlfmhhaaGreatProg
import Derived.KernelRfl
import Derived.WalkKit
set_option linter.unusedVariables false
set_option linter.unusedSimpArgs false
set_option maxRecDepth 100000
set_option maxHeartbeats 4000000
namespace Go.Civ
open Go.Proofs
theorem c_HistoryNormal {G : GH} {w : World} (hG : G.In w) (l : List HRow) (vl : Value) (hvl : Sl HRowE 56 G vl l) : CL Tryz.prog (nat_lit 7) #[vl] [] w G fun _ _ r=>r = .bool true:=by
 refine calls_of_go ft [] Tryz.func7 rfl rfl ?_
 have hS:=St.start (X:=[]) hG
 refine WL.cV hS hb13 rfl rfl rfl (c_awake hS.imm) (fun w1 G1 hS1 hle1=>?_)
 refine WL.cV hS1 hb14 rfl rfl rfl (c_great hS1.imm l _ (hvl.mono hle1)) (fun w2 G2 hS2 hle2=>?_)
 refine WL.split (fun (h1 : (greatH l) = true)=>?_) (fun (h1 : (greatH l) = false)=>?_)
 ·exact RB hS2 rfl (by with_reducible rfl)
 have hgr:=great_no (by assumption : greatH l = false)
 refine WL.cA hS2 hb33 rfl rfl rfl (c_hNormal hS2.imm l _ (hvl.mono (hle1.trans hle2)) (by exact le1000 hgr.2)) ?_
 rintro w3 G3 _ ⟨r2,_,rfl,hs1,rfl⟩ hS3 hle3
 refine WL.cV hS3 hb34 rfl rfl rfl (c_ContainsR hS3.imm l (fun x8=>!goodB x8) _ (hvl.mono ((hle1.trans hle2).trans hle3)) 35 #[] ⟨hb35,fun G8 w8 v8 x8 hle8 hG8 hon8 hA8=>by obtain ⟨cs_x8,rfl,hr_x8⟩:=hA8; exact c_nrm1 hG8 x8 cs_x8 hr_x8⟩) (fun w4 G4 hS4 hle4=>?_)
 refine WL.split (fun (h2 : (l.any (fun x8=>!goodB x8)) = true)=>?_) (fun (h2 : (l.any (fun x8=>!goodB x8)) = false)=>?_)
 ·refine WL.eqlS (NormE l) 1 rfl rfl rfl (fun h3=>?_) (fun h3=>?_)
  ·have bd1:=hs1.bound
   refine WL.lenSl (hs1.mono hle4) ul26 rfl rfl <| WL.cmp .eql rfl .i64 (((NormL l).length : Nat) : Int) 0 rfl rfl rfl ?_
   exact RB hS4 rfl (by exact (nrm_bad hgr.1 (by assumption)).2)
  exact RB hS4 rfl (by exact absurd (nrm_bad hgr.1 (by assumption)).1 (by assumption))
 refine WL.cA hS4 hb37 rfl rfl rfl (c_rNormal hS4.imm l _ (hvl.mono (((hle1.trans hle2).trans hle3).trans hle4)) (by omega)) (fun w5 G5 r4 hpost2 hS5 hle5=>?_)
 have bd2:=hpost2.bound
 refine WL.lenSl hpost2 ul26 rfl rfl ?_
 refine WL.gtrS (((rnormH l).length : Nat) : Int) 500 rfl rfl rfl (fun h4=>?_) (fun h4=>?_)
 ·refine WL.eqlS (NormE l) 5 rfl rfl rfl (fun h5=>?_) (fun h5=>?_)
  ·have bd3:=hs1.bound
   refine WL.lenSl (hs1.mono (hle4.trans hle5)) ul26 rfl rfl <| WL.cmp .eql rfl .i64 (((NormL l).length : Nat) : Int) 0 rfl rfl rfl ?_
   exact RB hS5 rfl (by exact (nrm_full hgr.1 (by assumption) (by assumption)).2)
  exact RB hS5 rfl (by exact absurd (nrm_full hgr.1 (by assumption) (by assumption)).1 (by assumption))
 refine WL.cA hS5 hb33 rfl rfl rfl (c_hNormal hS5.imm (NormL l) _ (hs1.mono (hle4.trans hle5)) (by exact nrm_len hgr.2)) ?_
 rintro w6 G6 _ ⟨r6,_,rfl,hs2,rfl⟩ hS6 hle6
 refine WL.eqlS (NormE l) 0 rfl rfl rfl (fun h6=>?_) (fun h6=>?_)
 ·refine WL.cV hS6 hb38 rfl rfl rfl (c_rEqual hS6.imm (NormL l) (rnormH l) _ (hs1.mono ((hle4.trans hle5).trans hle6)) _ (hpost2.mono hle6)) (fun w7 G7 hS7 hle7=>?_)
  refine WL.split (fun (h7 : (decide ((NormL l) = (rnormH l))) = true)=>?_) (fun (h7 : (decide ((NormL l) = (rnormH l))) = false)=>?_)
  ·refine WL.eqlS (NormE (NormL l)) 0 rfl rfl rfl (fun h8=>?_) (fun h8=>?_)
   ·refine WL.cV hS7 hb38 rfl rfl rfl (c_rEqual hS7.imm (NormL (NormL l)) (NormL l) _ (hs2.mono hle7) _ (hs1.mono (((hle4.trans hle5).trans hle6).trans hle7))) (fun w9 G9 hS8 hle9=>?_)
    exact RB hS8 rfl (by exact decide_eq_true (nrm_ok hgr.1 (by assumption) (by assumption)).2.2.2)
   exact RB hS7 rfl (by exact absurd (nrm_ok hgr.1 (by assumption) (by assumption)).2.2.1 (by assumption))
  exact RB hS7 rfl (by exact absurd (nrm_ok hgr.1 (by assumption) (by assumption)).2.1 (of_decide_eq_false (by assumption)))
 exact RB hS6 rfl (by exact absurd (nrm_ok hgr.1 (by assumption) (by assumption)).1 (by assumption))
end Go.Civ
