/- Lemmas: Wr, Civ56, Civ57, Sc. -/
import Derived.Test.YtjjkgobhlfmhhaaGreatK12
import Derived.Test.YtjjkgobhlfmhhaaGreatK16
import Derived.Test.YtjjkgobhlfmhhaaGreatK19
import Derived.Test.YtjjkgobhlfmhhaaGreatK20
import Derived.Test.YtjjkgobhlfmhhaaGreatK22
import Derived.Test.YtjjkgobhlfmhhaaGreatProg
import Derived.KernelRfl
import Derived.WalkKit
set_option linter.unusedVariables false
set_option linter.unusedSimpArgs false
set_option maxRecDepth 100000
set_option maxHeartbeats 4000000
namespace Go.Civ
open Go.Proofs
theorem c_rCompare {G : GH} {w : World} (hG : G.In w) (x y : Val) (cx : List Value) (hcx : ValE.rep G x cx) (cy : List Value) (hcy : ValE.rep G y cy) : CL Tryz.prog (nat_lit 180) #[.agg cx.toArray, .agg cy.toArray] [] w G fun _ _ r=>r = .int .i64 (cmpV x y):=by
 refine calls_of_go ft [] Tryz.func180 rfl rfl ?_
 have hS:=St.start (X:=[]) hG
 obtain ⟨rfl,hb1,hb2,hb3⟩:=ValE_open hcx
 obtain ⟨rfl,hb4,hb5,hb6⟩:=ValE_open hcy
 refine WL.boxG [.int .i64 x.k, .int .i64 x.n,strV x.s] _ hS rfl rfl rfl (fun p1 w1 G1 hle1 hsp1 hc1 hS1=>?_)
 refine WL.boxG [.int .i64 y.k, .int .i64 y.n,strV y.s] _ hS1 rfl rfl rfl (fun p2 w2 G2 hle2 hsp2 hc2 hS2=>?_)
 refine WL.loadG1 hS2 (Cells.drop 0 (hc1.mono hle2)) ti3 rfl rfl rfl <| WL.loadG1 hS2 (Cells.drop 0 hc2) ti3 rfl rfl rfl ?_
 refine WL.neqS x.k y.k rfl rfl rfl (fun h1=>?_) (fun h1=>?_)
 ·refine WL.loadG1 hS2 (Cells.drop 0 (hc1.mono hle2)) ti3 rfl rfl rfl <| WL.loadG1 hS2 (Cells.drop 0 hc2) ti3 rfl rfl rfl ?_
  refine WL.cV hS2 hb181 rfl rfl rfl (c_sign hS2.imm x.k y.k) (fun w3 G3 hS3 hle3=>?_)
  exact RI hS3 rfl (by exact (cmpV_k (by assumption)).symm)
 refine WL.loadG1 hS2 (Cells.drop 1 (hc1.mono hle2)) ti3 rfl rfl rfl <| WL.loadG1 hS2 (Cells.drop 1 hc2) ti3 rfl rfl rfl ?_
 refine WL.neqS x.n y.n rfl rfl rfl (fun h2=>?_) (fun h2=>?_)
 ·refine WL.loadG1 hS2 (Cells.drop 1 (hc1.mono hle2)) ti3 rfl rfl rfl <| WL.loadG1 hS2 (Cells.drop 1 hc2) ti3 rfl rfl rfl ?_
  refine WL.cV hS2 hb181 rfl rfl rfl (c_sign hS2.imm x.n y.n) (fun w4 G4 hS4 hle4=>?_)
  exact RI hS4 rfl (by exact (cmpV_n (by assumption) (by assumption)).symm)
 refine LP.go ft [] (fun m ρ1 w1=>∃ (k1 : Nat),∃ (G5 : GH),m = x.s.length - k1 ∧ G2.le G5 ∧ St w [] G G5 [] w1 ∧ FR ρ1 [(2, .pointer (some p1)),(3, .pointer (some p2)),(5, .int .i64 (k1 : Int))] ∧ k1 ≤ x.s.length ∧ ∀ j,j < k1 → ∀ c d,x.s[j]? = some c → y.s[j]? = some d → c = d) _ ⟨0,G2,rfl,(G2.le_refl),hS2,⟨rfl,rfl,rfl,trivial⟩,(by omega),(by intro j hj; omega)⟩ ?_
 rintro m ρ1 w5 ⟨k1,G5,rfl,hle5,hS5,hF9,f1,f2⟩
 refine hF9.set ?_
 clear hF9
 refine WL.loadG1 hS5 (Cells.drop 2 (hc1.mono (hle2.trans hle5))) ti9 rfl rfl rfl <| WL.lenStr x.s ul9 rfl rfl ?_
 refine WL.lssS (k1 : Int) (x.s.length : Int) rfl rfl rfl (fun h3=>?_) (fun h3=>?_)
 ·refine WL.loadG1 hS5 (Cells.drop 2 (hc2.mono hle5)) ti9 rfl rfl rfl <| WL.lenStr y.s ul9 rfl rfl ?_
  refine WL.lssS (k1 : Int) (y.s.length : Int) rfl rfl rfl (fun h4=>?_) (fun h4=>?_)
  ·obtain ⟨c1,hx1⟩ : ∃ c,x.s[k1]? = some c:=⟨_,List.getElem?_eq_getElem (by omega)⟩
   obtain ⟨c2,hx2⟩ : ∃ c,y.s[k1]? = some c:=⟨_,List.getElem?_eq_getElem (by omega)⟩
   rcases Cmp.dec .neq (c1.toNat : Int) (c2.toNat : Int) with ⟨hb7,q1⟩ | ⟨hb7,q1⟩
   ·have h5 : (c1.toNat : Int) ≠ (c2.toNat : Int):=q1
    clear q1
    refine dr [] [(41,strV x.s),(43, .int .u8 (c1.toNat : Int)),(45,strV y.s),(47, .int .u8 (c2.toNat : Int)),(48, .bool true)] hS5 ⟨fun _ hSw=>WL.loadG1 hSw (Cells.drop 2 (hc1.mono (hle2.trans hle5))) ti9 rfl rfl rfl <| nu rfl rfl,fun _=>WL.indexStrP x.s k1 c1 hx1 ul9 rfl rfl rfl <| nu rfl rfl,fun _ hSw=>WL.loadG1 hSw (Cells.drop 2 (hc2.mono hle5)) ti9 rfl rfl rfl <| nu rfl rfl,fun _=>WL.indexStrP y.s k1 c2 hx2 ul9 rfl rfl rfl <| nu rfl rfl,fun _=>WL.cmpV .neq rfl .u8 (c1.toNat : Int) (c2.toNat : Int) _ hb7 rfl rfl rfl <| nu rfl rfl,trivial⟩ (fun w6 hS6=>?_)
    obtain ⟨c3,hx3⟩ : ∃ c,x.s[k1]? = some c:=⟨_,List.getElem?_eq_getElem (by omega)⟩
    obtain rfl : c1 = c3:=Option.some.inj (hx1.symm.trans hx3)
    obtain ⟨c4,hx4⟩ : ∃ c,y.s[k1]? = some c:=⟨_,List.getElem?_eq_getElem (by omega)⟩
    obtain rfl : c2 = c4:=Option.some.inj (hx2.symm.trans hx4)
    refine dr [(11,false)] [(50,strV x.s),(52, .int .u8 (c1.toNat : Int)),(53, .int .i64 (c1.toNat : Int)),(55,strV y.s),(57, .int .u8 (c2.toNat : Int)),(58, .int .i64 (c2.toNat : Int)),(59, .int .i64 (sgn (c1.toNat : Int) (c2.toNat : Int)))] hS6 ⟨fun _ hSw=>WL.loadG1 hSw (Cells.drop 2 (hc1.mono (hle2.trans hle5))) ti9 rfl rfl rfl <| nu rfl rfl,fun _=>WL.indexStrP x.s k1 c1 hx1 ul9 rfl rfl rfl <| nu rfl rfl,fun _=>WL.u8int (c1.toNat : Int) ul5 ul3 (u8bd c1) rfl rfl <| nu rfl rfl,fun _ hSw=>WL.loadG1 hSw (Cells.drop 2 (hc2.mono hle5)) ti9 rfl rfl rfl <| nu rfl rfl,fun _=>WL.indexStrP y.s k1 c2 hx2 ul9 rfl rfl rfl <| nu rfl rfl,fun _=>WL.u8int (c2.toNat : Int) ul5 ul3 (u8bd c2) rfl rfl <| nu rfl rfl,fun _ hSw=>WL.callD hSw hb181 rfl rfl rfl (c_sign hSw.imm (c1.toNat : Int) (c2.toNat : Int)) rfl,trivial⟩ (fun w7 hS7=>?_)
    exact RI hS7 rfl (by (rw [cmpV_s (by assumption) (by assumption)]; first | exact (cmpS_at (by assumption) (by assumption) (by assumption) (by assumption)).symm | exact (cmpS_end (by assumption) (by omega)).symm))
   have h5 : (c1.toNat : Int) = (c2.toNat : Int):=q1
   clear q1
   refine dr [] [(41,strV x.s),(43, .int .u8 (c1.toNat : Int)),(45,strV y.s),(47, .int .u8 (c2.toNat : Int)),(48, .bool false)] hS5 ⟨fun _ hSw=>WL.loadG1 hSw (Cells.drop 2 (hc1.mono (hle2.trans hle5))) ti9 rfl rfl rfl <| nu rfl rfl,fun _=>WL.indexStrP x.s k1 c1 hx1 ul9 rfl rfl rfl <| nu rfl rfl,fun _ hSw=>WL.loadG1 hSw (Cells.drop 2 (hc2.mono hle5)) ti9 rfl rfl rfl <| nu rfl rfl,fun _=>WL.indexStrP y.s k1 c2 hx2 ul9 rfl rfl rfl <| nu rfl rfl,fun _=>WL.cmpV .neq rfl .u8 (c1.toNat : Int) (c2.toNat : Int) _ hb7 rfl rfl rfl <| nu rfl rfl,trivial⟩ (fun w9 hS8=>?_)
   refine WL.incr k1 (by have hreach : reach = 140737488355328:=rfl; omega) rfl rfl rfl ?_
   exact BK.mk' _ ⟨k1 + 1,G5,rfl,hle5,hS8,⟨rfl,rfl,rfl,trivial⟩,(by omega),(by exact lt_step2 (by assumption) (by assumption) (by assumption) (u8_eq (by assumption)))⟩ (show x.s.length - (k1 + 1) < x.s.length - k1 by omega)
  refine WL.loadG1 hS5 (Cells.drop 2 (hc1.mono (hle2.trans hle5))) ti9 rfl rfl rfl <| WL.lenStr x.s ul9 rfl rfl <| WL.loadG1 hS5 (Cells.drop 2 (hc2.mono hle5)) ti9 rfl rfl rfl <| WL.lenStr y.s ul9 rfl rfl ?_
  refine WL.cV hS5 hb181 rfl rfl rfl (c_sign hS5.imm (x.s.length : Int) (y.s.length : Int)) (fun w10 G6 hS9 hle6=>?_)
  exact RI hS9 rfl (by (rw [cmpV_s (by assumption) (by assumption)]; first | exact (cmpS_at (by assumption) (by assumption) (by assumption) (by assumption)).symm | exact (cmpS_end (by assumption) (by omega)).symm))
 refine WL.loadG1 hS5 (Cells.drop 2 (hc1.mono (hle2.trans hle5))) ti9 rfl rfl rfl <| WL.lenStr x.s ul9 rfl rfl <| WL.loadG1 hS5 (Cells.drop 2 (hc2.mono hle5)) ti9 rfl rfl rfl <| WL.lenStr y.s ul9 rfl rfl ?_
 refine WL.cV hS5 hb181 rfl rfl rfl (c_sign hS5.imm (x.s.length : Int) (y.s.length : Int)) (fun w11 G7 hS10 hle7=>?_)
 exact RI hS10 rfl (by (rw [cmpV_s (by assumption) (by assumption)]; first | exact (cmpS_at (by assumption) (by assumption) (by assumption) (by assumption)).symm | exact (cmpS_end (by assumption) (by omega)).symm))
theorem c_rOrder {G : GH} {w : World} (hG : G.In w) (a b : List Val) (va : Value) (hva : Sl ValE 32 G va a) (vb : Value) (hvb : Sl ValE 32 G vb b) : CL Tryz.prog (nat_lit 137) #[va,vb] [] w G fun _ _ r=>r = .int .i64 (cmpL cmpV a b):=by
 refine calls_of_go ft [] Tryz.func137 rfl rfl ?_
 have hS:=St.start (X:=[]) hG
 refine LP.go ft [] (fun m ρ1 w1=>∃ (k1 : Nat),∃ (G1 : GH),m = a.length - k1 ∧ G.le G1 ∧ St w [] G G1 [] w1 ∧ FR ρ1 [(0,va),(1,vb),(5, .int .i64 (k1 : Int))] ∧ k1 ≤ a.length ∧ ∀ j,j < k1 → ∀ x y,a[j]? = some x → b[j]? = some y → cmpV x y = 0) _ ⟨0,G,rfl,(G.le_refl),hS,⟨rfl,rfl,rfl,trivial⟩,(by omega),(by intro j hj; omega)⟩ ?_
 rintro m ρ1 w1 ⟨k1,G1,rfl,hle1,hS1,hF9,f1,f2⟩
 refine hF9.set ?_
 clear hF9
 have bd1:=hva.bound
 refine WL.lenSl (hva.mono hle1) ul36 rfl rfl ?_
 refine WL.lssS (k1 : Int) (a.length : Int) rfl rfl rfl (fun h1=>?_) (fun h1=>?_)
 ·have bd2:=hvb.bound
  refine WL.lenSl (hvb.mono hle1) ul36 rfl rfl ?_
  refine WL.lssS (k1 : Int) (b.length : Int) rfl rfl rfl (fun h2=>?_) (fun h2=>?_)
  ·obtain ⟨p1,x1,hx1,he1,ep1⟩:=Sl.at (hva.mono hle1) k1 (by omega)
   obtain ⟨cs1,hc1,hr1⟩:=he1
   obtain ⟨rfl,hb1,hb2,hb3⟩:=ValE_open hr1
   obtain ⟨p2,x2,hx2,he2,ep2⟩:=Sl.at (hvb.mono hle1) k1 (by omega)
   obtain ⟨cs2,hc2,hr2⟩:=he2
   obtain ⟨rfl,hb4,hb5,hb6⟩:=ValE_open hr2
   refine dr [(9,false)] [(21, .pointer (some p1)),(22, .agg #[.int .i64 x1.k, .int .i64 x1.n,strV x1.s]),(25, .pointer (some p2)),(26, .agg #[.int .i64 x2.k, .int .i64 x2.n,strV x2.s]),(27, .int .i64 (cmpV x1 x2))] hS1 ⟨fun _=>WL.indexAddrP k1 ep1 ul36 ti48 rfl rfl rfl rfl <| nu rfl rfl,fun _ hSw=>WL.loadGAt hSw hc1 [.int .i64 x1.k, .int .i64 x1.n,strV x1.s] ti48 rfl rfl rfl rfl rfl <| nu rfl rfl,fun _=>WL.indexAddrP k1 ep2 ul36 ti48 rfl rfl rfl rfl <| nu rfl rfl,fun _ hSw=>WL.loadGAt hSw hc2 [.int .i64 x2.k, .int .i64 x2.n,strV x2.s] ti48 rfl rfl rfl rfl rfl <| nu rfl rfl,fun _ hSw=>WL.callD hSw hb180 rfl rfl rfl (c_rCompare hSw.imm x1 x2 _ (ValE_mk x1 hb1 hb2 hb3) _ (ValE_mk x2 hb4 hb5 hb6)) rfl,trivial⟩ (fun w2 hS2=>?_)
   refine WL.neqS (cmpV x1 x2) 0 rfl rfl rfl (fun h3=>?_) (fun h3=>?_)
   ·exact RI hS2 rfl (by exact (cmpL_at (by assumption) (by assumption) (by assumption) (by assumption)).symm)
   refine WL.incr k1 (by have hreach : reach = 140737488355328:=rfl; omega) rfl rfl rfl ?_
   exact BK.mk' _ ⟨k1 + 1,G1,rfl,hle1,hS2,⟨rfl,rfl,rfl,trivial⟩,(by omega),(by exact lt_step2 (by assumption) (by assumption) (by assumption) (by assumption))⟩ (show a.length - (k1 + 1) < a.length - k1 by omega)
  have bd3:=hva.bound
  refine WL.lenSl (hva.mono hle1) ul36 rfl rfl ?_
  have bd4:=hvb.bound
  refine WL.lenSl (hvb.mono hle1) ul36 rfl rfl ?_
  refine WL.cV hS1 hb181 rfl rfl rfl (c_sign hS1.imm (a.length : Int) (b.length : Int)) (fun w3 G2 hS3 hle2=>?_)
  exact RI hS3 rfl (by exact (cmpL_end' (by assumption) (by omega)).symm)
 have bd5:=hva.bound
 refine WL.lenSl (hva.mono hle1) ul36 rfl rfl ?_
 have bd6:=hvb.bound
 refine WL.lenSl (hvb.mono hle1) ul36 rfl rfl ?_
 refine WL.cV hS1 hb181 rfl rfl rfl (c_sign hS1.imm (a.length : Int) (b.length : Int)) (fun w4 G3 hS4 hle3=>?_)
 exact RI hS4 rfl (by exact (cmpL_end' (by assumption) (by omega)).symm)
end Go.Civ
namespace Go.Civ
open Go.RowKit
set_option linter.unusedVariables false
theorem goodB_1 {x : HRow} (h : (x.v.any fun x => !valB x) = true) : false = goodB x := by
  have := any_all h; unfold goodB; rw [this]; rfl
theorem goodB_2 {x : HRow} (h : (x.v.any fun x => !valB x) = false) (h2 : spanB x.r.d = false) : false = goodB x := by
  have := any_all h; unfold goodB; rw [this, h2]; rfl
theorem goodB_3 {x : HRow} (h : (x.v.any fun x => !valB x) = false) (h2 : spanB x.r.d = true) : spanB x.r.x = goodB x := by
  have := any_all h; unfold goodB; rw [this, h2]; simp
def NormL (l : List HRow) : List HRow := if 1000 < l.length then [] else if l.all goodB then (if (normH l).length ≤ 500 then normH l else []) else []
def NormE (l : List HRow) : Int := if 1000 < l.length then 5 else if l.all goodB then (if (normH l).length ≤ 500 then 0 else 5) else 1
theorem good_of_any {l : List HRow} (h : (l.any fun r => !goodB r) = false) : GoodH l := fun r hr => by
  rw [List.any_eq_false] at h; simpa using h r hr
theorem all_of_any {l : List HRow} (h : (l.any fun r => !goodB r) = false) : l.all goodB = true := List.all_eq_true.2 (good_of_any h)
theorem all_of_any' {l : List HRow} (h : (l.any fun r => !goodB r) = true) : l.all goodB = false := by rw [← Bool.not_eq_true, List.all_eq_true]; rw [List.any_eq_true] at h; obtain ⟨r, hr, h1⟩ := h; intro e; rw [e r hr] at h1; cases h1
theorem normL_big {l : List HRow} (h : 1000 < (l.length : Int)) : NormL l = [] ∧ NormE l = 5 := by
  refine ⟨?_, ?_⟩ <;> simp only [NormL, NormE, if_pos (show 1000 < l.length by omega)]
theorem normL_bad {l : List HRow} (h : (l.length : Int) ≤ 1000) (h2 : (l.any fun r => !goodB r) = true) : NormL l = [] ∧ NormE l = 1 := by
  refine ⟨?_, ?_⟩ <;> simp only [NormL, NormE, if_neg (show ¬ 1000 < l.length by omega), all_of_any' h2, Bool.false_eq_true, if_false]
theorem normL_full {l : List HRow} (h : (l.length : Int) ≤ 1000) (h2 : (l.any fun r => !goodB r) = false) (h3 : 500 < ((normH l).length : Int)) : NormL l = [] ∧ NormE l = 5 := by
  refine ⟨?_, ?_⟩ <;> simp only [NormL, NormE, if_neg (show ¬ 1000 < l.length by omega), all_of_any h2, if_neg (show ¬ (normH l).length ≤ 500 by omega), if_true]
theorem normL_ok {l : List HRow} (h : (l.length : Int) ≤ 1000) (h2 : (l.any fun r => !goodB r) = false) (h3 : ((normH l).length : Int) ≤ 500) : NormL l = normH l ∧ NormE l = 0 := by
  refine ⟨?_, ?_⟩ <;> simp only [NormL, NormE, if_neg (show ¬ 1000 < l.length by omega), all_of_any h2, if_pos (show (normH l).length ≤ 500 by omega), if_true]
theorem hrow_eq_v {x y : HRow} (h : decide (x.v = y.v) = false) : false = decide (x = y) := (decide_eq_false fun e => (of_decide_eq_false h) (by rw [e])).symm
theorem hrow_eq_r {x y : HRow} (h : decide (x.v = y.v) = true) : decide (x.r = y.r) = decide (x = y) := decide_eq_decide.2 ⟨fun e => by
  have := of_decide_eq_true h
  cases x; cases y; simp_all, fun e => by rw [e]⟩
end Go.Civ
namespace Go.Civ
open Go.RowKit
set_option linter.unusedVariables false
def validA (t : Table) : Bool := schB t.s && decide (-62135596801 ≤ t.last) && decide (t.last < 253402300800) && decide (t.rows.length ≤ 500)
theorem validA_yes {t : Table} (h1 : schB t.s = true) (h2 : -62135596801 ≤ t.last) (h3 : t.last < 253402300800) (h4 : (t.rows.length : Int) ≤ 500) : validA t = true := by
  unfold validA; rw [h1, decide_eq_true h2, decide_eq_true h3, decide_eq_true (show t.rows.length ≤ 500 by omega)]; rfl
theorem validT_is (t : Table) : validT t = ((validA t && t.rows.all (rowOk t.s t.last)) && decide (t.rows = normH t.rows)) := rfl
theorem validT_a {t : Table} (h : validA t = false) : false = validT t := by rw [validT_is, h]; rfl
theorem validA_1 {t : Table} (h : schB t.s = false) : validA t = false := by unfold validA; rw [h]; rfl
theorem validA_2 {t : Table} (h : t.last < -62135596801) : validA t = false := by unfold validA; rw [decide_eq_false (show ¬ -62135596801 ≤ t.last by omega)]; simp
theorem validA_3 {t : Table} (h : 253402300800 ≤ t.last) : validA t = false := by unfold validA; rw [decide_eq_false (show ¬ t.last < 253402300800 by omega)]; simp
theorem validA_4 {t : Table} (h : 500 < (t.rows.length : Int)) : validA t = false := by unfold validA; rw [decide_eq_false (show ¬ t.rows.length ≤ 500 by omega)]; simp
theorem validT_row {t : Table} {k : Nat} {x : HRow} (h : t.rows[k]? = some x) (hx : rowOk t.s t.last x = false) : false = validT t := by
  rw [validT_is, all_no h hx]; simp
theorem validT_eq {t : Table} (h1 : validA t = true) (h2 : t.rows.all (rowOk t.s t.last) = true) : eqF (fun x y => decide (x = y)) t.rows (normH t.rows) = validT t := by
  rw [validT_is, h1, h2, eqF_eq]; rfl
theorem rowOk_1 {s : Schema} {last : Int} {x : HRow} (h : rowE s x.v ≠ 0) : rowOk s last x = false := by unfold rowOk; rw [decide_eq_false h]; rfl
theorem rowOk_2 {s : Schema} {last : Int} {x : HRow} (h : goodB x = false) : rowOk s last x = false := by unfold rowOk; rw [h]; simp
theorem rowOk_3 {s : Schema} {last : Int} {x : HRow} (h : last < x.r.x.a) : rowOk s last x = false := by unfold rowOk; rw [decide_eq_false (show ¬ x.r.x.a ≤ last by omega)]; simp
theorem rowOk_4 {s : Schema} {last : Int} {x : HRow} (h : last < x.r.x.b) (h2 : x.r.x.b ≠ 253402300800) : rowOk s last x = false := by unfold rowOk; rw [decide_eq_false (show ¬ x.r.x.b ≤ last by omega), decide_eq_false h2]; simp
theorem rowOk_y {s : Schema} {last : Int} {x : HRow} (h1 : rowE s x.v = 0) (h2 : goodB x = true) (h3 : x.r.x.a ≤ last) (h4 : x.r.x.b ≤ last ∨ x.r.x.b = 253402300800) : rowOk s last x = true := by
  unfold rowOk; rw [decide_eq_true h1, h2, decide_eq_true h3]
  rcases h4 with h4 | h4
  · rw [decide_eq_true h4]; rfl
  · rw [decide_eq_true h4]; simp
theorem rows_good {s : Schema} {last : Int} {l : List HRow} (h : l.all (rowOk s last) = true) : GoodH l ∧ ∀ r ∈ l, r.v.length ≤ 8 := by
  rw [List.all_eq_true] at h
  refine ⟨fun r hr => ?_, fun r hr => ?_⟩
  · have := h r hr; unfold rowOk at this; simp only [Bool.and_eq_true, decide_eq_true_eq] at this; exact this.1.1.2
  · have := h r hr; unfold rowOk at this; simp only [Bool.and_eq_true, decide_eq_true_eq] at this; exact (rowE_len this.1.1.1).1
theorem le1000 {l : List HRow} (h : ∀ r ∈ l, r.v.length ≤ 8) : ∀ r ∈ l, r.v.length ≤ 1000 := fun r hr => Nat.le_trans (h r hr) (by decide)
theorem done_yes {t : Table} {tx : Int} {l : List HRow} (h : ((normH l).length : Int) ≤ 500) : (⟨t.s, normH l, tx⟩ : Table) = doneT t tx l ∧ 0 = doneTE l := by
  unfold doneT doneTE; rw [if_pos (by omega), if_pos (by omega)]; exact ⟨rfl, rfl⟩
theorem done_no {t : Table} {tx : Int} {l : List HRow} (h : 500 < ((normH l).length : Int)) : noT = doneT t tx l ∧ 5 = doneTE l := by
  unfold doneT doneTE; rw [if_neg (by omega), if_neg (by omega)]; exact ⟨rfl, rfl⟩
theorem timE_1 {t : Table} {tx : Int} (h : instB tx = false) : 2 = timE t tx := by unfold timE; rw [h]; rfl
theorem timE_2 {t : Table} {tx : Int} (h : instB tx = true) (h2 : tx ≤ t.last) : 6 = timE t tx := by unfold timE; rw [h, if_pos rfl, if_pos h2]
theorem timE_3 {t : Table} {tx : Int} (h : instB tx = true) (h2 : t.last < tx) : 0 = timE t tx := by unfold timE; rw [h, if_pos rfl, if_neg (by omega)]
theorem I64_timE (t : Table) (tx : Int) : I64 (timE t tx) := by unfold timE; split <;> (try split) <;> constructor <;> decide
theorem cmpOr2 (a b : Int) : cmpOr [a, b] = or2 a b := by
  unfold cmpOr or2
  by_cases ha : a = 0
  · by_cases hb : b = 0 <;> simp [ha, hb]
  · simp [ha]
theorem or2_0 {a b : Int} (h : or2 a b = 0) : a = 0 ∧ b = 0 := by unfold or2 at h; split at h <;> omega
theorem timE_0 {t : Table} {tx : Int} (h : timE t tx = 0) : instB tx = true ∧ t.last < tx := by
  unfold timE at h
  split at h
  · rename_i h1; split at h <;> first | omega | exact ⟨h1, by omega⟩
  · omega
theorem instB_parts {x : Int} (h : instB x = true) : -62135596800 ≤ x ∧ x < 253402300800 := by unfold instB at h; simpa using h
theorem insOk_1 {t : Table} {d : Span} (h : validT t = false) : insOk t d = false := by unfold insOk; rw [h]; rfl
theorem insOk_2 {t : Table} {d : Span} (h : spanB d = false) : insOk t d = false := by unfold insOk; rw [h]; simp
theorem insOk_y {t : Table} {d : Span} (h1 : validT t = true) (h2 : spanB d = true) : insOk t d = true := by unfold insOk; rw [h1, h2]; rfl
theorem ins_1 {t : Table} {tx : Int} {v : List Val} {d : Span} (h : insOk t d = false) : noT = insT t tx v d ∧ 1 = insE_ t tx v d := by
  have : insErr t tx v d = 1 := by unfold insErr; rw [h]; rfl
  unfold insT insE_; rw [this]; exact ⟨rfl, rfl⟩
theorem insErr_is {t : Table} {tx : Int} {v : List Val} {d : Span} (h : insOk t d = true) : insErr t tx v d = or2 (rowE t.s v) (timE t tx) := by unfold insErr; rw [h]; rfl
theorem ins_2 {t : Table} {tx : Int} {v : List Val} {d : Span} (h : insOk t d = true) (h2 : cmpOr [rowE t.s v, timE t tx] ≠ 0) : noT = insT t tx v d ∧ cmpOr [rowE t.s v, timE t tx] = insE_ t tx v d := by
  rw [cmpOr2] at *
  unfold insT insE_; rw [insErr_is h, if_neg h2, if_neg h2]; exact ⟨rfl, rfl⟩
theorem ins_3 {t : Table} {tx : Int} {v : List Val} {d : Span} (h : insOk t d = true) (h2 : cmpOr [rowE t.s v, timE t tx] = 0) : doneT t tx (insRows t tx v d) = insT t tx v d ∧ doneTE (insRows t tx v d) = insE_ t tx v d := by
  rw [cmpOr2] at *
  unfold insT insE_; rw [insErr_is h, if_pos h2, if_pos h2]; exact ⟨rfl, rfl⟩
theorem insRows_good {t : Table} {tx : Int} {v : List Val} {d : Span} (h : validT t = true) (hd : spanB d = true) (h2 : cmpOr [rowE t.s v, timE t tx] = 0) :
    GoodH (insRows t tx v d) ∧ (∀ r ∈ insRows t tx v d, r.v.length ≤ 1000) ∧ (insRows t tx v d).length ≤ 501 := by
  obtain ⟨g1, g2, g3, _⟩ := validT_good h
  rw [cmpOr2] at h2
  obtain ⟨e1, e2⟩ := or2_0 h2
  obtain ⟨e3, e4⟩ := timE_0 e2
  have e5 := instB_parts e3
  obtain ⟨r1, r2, _, _⟩ := rowE_len e1
  unfold insRows
  refine ⟨fun r hr => ?_, fun r hr => ?_, by simp; omega⟩
  · rcases List.mem_append.1 hr with hr | hr
    · exact g1 r hr
    · rw [List.mem_singleton.1 hr]
      unfold goodB
      simp only [r2, hd, Bool.true_and]
      unfold spanB
      simp; omega
  · rcases List.mem_append.1 hr with hr | hr
    · exact Nat.le_trans (g3 r hr) (by decide)
    · rw [List.mem_singleton.1 hr]; exact Nat.le_trans r1 (by decide)
def snapP (gs : List HGrp) (at_ tx : Int) : List (List Val) := (gs.filter fun g => inR (timesH g.t tx) at_).map HGrp.v
theorem snapP_yes {gs : List HGrp} {k : Nat} {g : HGrp} {at_ tx : Int} (h : gs[k]? = some g) (hi : inR (timesH g.t tx) at_ = true) : snapP (gs.take (k + 1)) at_ tx = snapP (gs.take k) at_ tx ++ [g.v] := by
  rw [List.take_add_one, h]; unfold snapP; simp [hi]
theorem snapP_no {gs : List HGrp} {k : Nat} {g : HGrp} {at_ tx : Int} (h : gs[k]? = some g) (hi : inR (timesH g.t tx) at_ = false) : snapP (gs.take (k + 1)) at_ tx = snapP (gs.take k) at_ tx := by
  rw [List.take_add_one, h]; unfold snapP; simp [hi]
theorem snapP_len (gs : List HGrp) (k : Nat) (at_ tx : Int) : (snapP (gs.take k) at_ tx).length ≤ gs.length := by
  unfold snapP; rw [List.length_map]; exact Nat.le_trans (List.length_filter_le _ _) (List.length_take_le' _ _)
theorem snap_1 {t : Table} {at_ tx : Int} (h : validT t = false) : [] = snapH t at_ tx := by unfold snapH; rw [h]; rfl
theorem snap_2 {t : Table} {at_ tx : Int} (h : instB at_ = false) : [] = snapH t at_ tx := by unfold snapH; rw [h]; simp
theorem snap_3 {t : Table} {at_ tx : Int} (h : instB tx = false) : [] = snapH t at_ tx := by unfold snapH; rw [h]; simp
theorem snap_y {t : Table} {at_ tx : Int} {k : Nat} (h1 : validT t = true) (h2 : instB at_ = true) (h3 : instB tx = true) (hk : (grpH t.rows).length ≤ k) : snapP ((grpH t.rows).take k) at_ tx = snapH t at_ tx := by
  unfold snapH; rw [h1, h2, h3, List.take_of_length_le hk]; rfl
def factsP (gs : List HGrp) (tx : Int) : List Fact := gs.flatMap fun g => (timesH g.t tx).map (Fact.mk g.v)
theorem factsP_take {gs : List HGrp} {k : Nat} {g : HGrp} {tx : Int} (h : gs[k]? = some g) : factsP (gs.take (k + 1)) tx = factsP (gs.take k) tx ++ (timesH g.t tx).map (Fact.mk g.v) := by
  rw [List.take_add_one, h]; simp [factsP]
theorem factsP_len {gs : List HGrp} {tx : Int} (h : ∀ g ∈ gs, g.t.length ≤ 500) : (factsP gs tx).length ≤ gs.length * 500 := by
  induction gs with
  | nil => simp [factsP]
  | cons g gs ih =>
    have h1 := Nat.le_trans (timesH_len g.t tx) (h g (by simp))
    have h2 := ih fun x hx => h x (by simp [hx])
    simp only [factsP, List.flatMap_cons, List.length_append, List.length_cons, List.length_map] at *
    rw [Nat.add_mul]; omega
theorem factsP_takeLen {l : List HRow} {k : Nat} {tx : Int} (hl : l.length ≤ 500) : (factsP ((grpH l).take k) tx).length ≤ 250000 := by
  have h1 := factsP_len (gs := (grpH l).take k) (tx := tx) fun g hg => Nat.le_trans (grpH_t g (List.mem_of_mem_take hg)) hl
  have h2 := List.length_take_le' k (grpH l)
  have h3 := @grpH_len l
  exact Nat.le_trans h1 (Nat.le_trans (Nat.mul_le_mul_right 500 (show ((grpH l).take k).length ≤ 500 by omega)) (by decide))
theorem at_1 {t : Table} {tx : Int} (h : validT t = false) : [] = atH t tx := by unfold atH; rw [h]; rfl
theorem at_2 {t : Table} {tx : Int} (h : instB tx = false) : [] = atH t tx := by unfold atH; rw [h]; simp
theorem at_y {t : Table} {tx : Int} {k : Nat} (h1 : validT t = true) (h3 : instB tx = true) (hk : (grpH t.rows).length ≤ k) : factsP ((grpH t.rows).take k) tx = atH t tx := by
  unfold atH; rw [h1, h3, List.take_of_length_le hk]; rfl
theorem mapT_take {α β : Type} {f : α → β} {l : List α} {k : Nat} {x : α} (h : l[k]? = some x) : (l.take (k + 1)).map f = (l.take k).map f ++ [f x] := by rw [List.take_add_one, h]; simp
end Go.Civ
namespace Go.Civ
def newT (s : Schema) : Table := if schB s then ⟨s, [], -62135596801⟩ else noT
def newE (s : Schema) : Int := if schB s then 0 else 1
theorem new_y {s : Schema} (h : schB s = true) : (⟨s, [], -62135596801⟩ : Table) = newT s ∧ 0 = newE s := by unfold newT newE; rw [h]; exact ⟨rfl, rfl⟩
theorem new_n {s : Schema} (h : schB s = false) : noT = newT s ∧ 1 = newE s := by unfold newT newE; rw [h]; exact ⟨rfl, rfl⟩
end Go.Civ
namespace Go.Civ
theorem mapT_all {α β : Type} {f : α → β} {l : List α} {k : Nat} (h : l.length ≤ k) : (l.take k).map f = l.map f := by rw [List.take_of_length_le h]
end Go.Civ
set_option linter.unusedVariables false
namespace Go.Civ
open Go.Proofs Go.Shelf Go.RowKit Go.Lib Go.Sort

theorem sortI_eq (l : List Int) : sortI l = sortZ l := rfl
set_option maxHeartbeats 1000000 in
theorem c_Compact {G : GH} {w : World} (hG : G.In w) (l : List Int) (vd : Value) (od : OB) (hvd : Row Enc.int 8 (nat_lit 3) G vd l od) (hod : Lent w G od) :
    Calls Tryz.prog (nat_lit 160) #[vd] w fun e w' => ∃ r G', e = .returned r ∧ Res (blk od) w G w' G' ∧ ∃ (o' : OB), Row Enc.int 8 (nat_lit 3) G' r (compact l) o' ∧ Lent w' G' o' ∧ blk o' = blk od := by
  rcases hvd with ⟨rfl, rfl, rfl⟩ | ⟨b, cs, cap, xs, rfl, rfl, h3, h4, h5, h6, h7, h8, h9⟩
  · exact (Any.slices_Compact_int_empty Tryz.laysCompact none 0 w).mono fun e w' ⟨he, hw⟩ => by
      subst hw
      exact ⟨_, G, he, Res.refl hG, none, .inl ⟨rfl, rfl, rfl⟩, fun p hp => (by cases hp), rfl⟩
  · obtain ⟨hb1, hb2⟩ := hod _ rfl
    obtain ⟨rfl, hI⟩ := flatInt_cells l xs h6
    have hE : Enc.int.n = 1 := rfl
    rw [hE, Nat.mul_one] at h5 h7
    have hcell : ∀ t, t < l.length → cs[t]? = some (.int .i64 l[t]!) := fun t ht => by
      have := congrArg (·[t]?) h7
      simp only [List.getElem?_take, if_pos ht, List.getElem?_map] at this
      rw [this, List.getElem?_eq_getElem ht, getElem!_pos l t ht]; rfl
    have hH : Holds (Value.int .i64) w b 0 l.toArray := fun t ht => by
      have ht' : t < l.length := by simpa using ht
      refine ⟨?_, ?_⟩
      · rw [Nat.zero_add]
        simp only [World.cell?, hb1, objOf]
        have := hcell t ht'
        rw [getElem!_pos l t ht'] at this
        rw [getElem!_pos l.toArray t ht]
        simpa using this
      · simp [World.frozen?, hb1, objOf]
    have hcon := Any.slices_Compact_int Tryz.laysCompact b 0 cap l w hH (by unfold reach at h9; omega) h3
    refine hcon.mono fun e w' ⟨he, q, hw⟩ => ?_
    have hlen := compact_len l
    have hbl : b < w.heap.size := (Array.getElem?_eq_some_iff.1 hb1).1
    obtain ⟨z, hz⟩ : ∃ z : List Int, z = compact l ++ List.replicate (l.length - (compact l).length) 0 := ⟨_, rfl⟩
    have hzl : z.length = l.length := by subst hz; simp; omega
    rw [← hz] at hw
    obtain ⟨cs', hcs'⟩ : ∃ cs' : List Value, cs' = (putCells (Value.int .i64) 0 z.toArray cs.toArray).toList := ⟨_, rfl⟩
    have hget : ∀ k, w'.heap[k]? = if b = k then some (.cells cs'.toArray (nat_lit 3) (0, 0)) else w.heap[k]? := fun k => by
      subst hw
      have hah : (Go.Sort.ahead w q).heap = w.heap := rfl
      simp only [putRow, mapBlock, hah]
      rw [Array.getElem?_modify]
      by_cases hkb : b = k
      · subst hkb
        rw [if_pos rfl, if_pos rfl, hb1]
        simp [objOf, onCells, hcs']
      · rw [if_neg hkb, if_neg hkb]
    have hres : Res [b] w G w' G := by
      refine ⟨?_, G.le_refl, fun _ _ => rfl, fun k o hk => ?_⟩
      · refine ⟨by subst hw; rfl, by subst hw; rfl, by subst hw; rfl, by subst hw; exact Nat.le_add_right _ _, ?_, fun k hk hkb => ?_⟩
        · subst hw
          have hah : (Go.Sort.ahead w q).heap = w.heap := rfl
          simp [putRow, mapBlock]
          try simp [hah]
        · rw [hget, if_neg (by simpa [eq_comm] using hkb)]
      · have hkb : b ≠ k := fun e => by subst e; simp only at hb2; rw [hb2] at hk; cases hk
        rw [hget, if_neg hkb]; exact hG k o hk
    have hI' : ∀ x ∈ compact l, I64 x := fun x hx => by
      unfold compact compactUpTo at hx
      obtain ⟨j, hj, rfl⟩ := List.mem_map.1 hx
      have hj' : j < l.length := by simpa using (List.mem_filter.1 hj).1
      rw [getElem!_pos l.toArray j (by simpa using hj')]
      exact hI _ (by simp)
    have hby : (compact l).length * 8 ≤ reach := Nat.le_trans (Nat.mul_le_mul_right _ hlen) h8
    refine ⟨_, G, he, hres, some (b, nat_lit 3, cs'), .inr ⟨b, cs', cap, (compact l).map (Value.int .i64), rfl, rfl, Nat.le_trans hlen h3, h4, ?_, flatInt _ hI', ?_, hby, Nat.le_trans hlen h9⟩, fun p hp => ?_, rfl⟩
    · subst hcs'; rw [hE]; simpa [putCells] using h5
    · rw [hE, Nat.mul_one]
      apply List.ext_getElem?
      intro t
      rw [List.getElem?_take]
      by_cases ht : t < (compact l).length
      · have htc : t < cs.length := by omega
        have htz : z[t]? = (compact l)[t]? := by rw [hz, List.getElem?_append_left ht]
        have htz' : t < z.length := by omega
        rw [if_pos ht, hcs']
        simp only [putCells, Array.getElem?_toList, Array.getElem?_mapIdx]
        simp only [List.getElem?_toArray]
        rw [List.getElem?_eq_getElem htc, List.getElem?_map, ← htz, List.getElem?_eq_getElem htz']
        simp [htz']
      · rw [if_neg ht, List.getElem?_eq_none]
        simp; omega
    · obtain rfl := Option.some.inj hp
      exact ⟨by rw [hget, if_pos rfl]; rfl, hb2⟩
end Go.Civ
