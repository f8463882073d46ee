/- Lemmas: Wr, Wg3. -/
import Derived.Test.YtjjkgobhlfmhhaaGreatU15
import Derived.Test.YtjjkgobhlfmhhaaGreatU22
import Derived.Test.YtjjkgobhlfmhhaaGreatU25
import Derived.Test.YtjjkgobhlfmhhaaGreatProg
import Derived.KernelRfl
import Derived.WalkKit
set_option linter.unusedVariables false
set_option linter.unusedSimpArgs false
set_option maxRecDepth 100000
set_option maxHeartbeats 4000000
namespace Go.Civ
open Go.Proofs
theorem c_rCompare {G : GH} {w : World} (hG : G.In w) (x y : Val) (cx : List Value) (hcx : ValE.rep G x cx) (cy : List Value) (hcy : ValE.rep G y cy) : CL Tryz.prog (nat_lit 180) #[.agg cx.toArray, .agg cy.toArray] [] w G fun _ _ r=>r = .int .i64 (cmpV x y):=by
 refine calls_of_go ft [] Tryz.func180 rfl rfl ?_
 have hS:=St.start (X:=[]) hG
 obtain ⟨rfl,hb1,hb2,hb3⟩:=ValE_open hcx
 obtain ⟨rfl,hb4,hb5,hb6⟩:=ValE_open hcy
 refine WL.boxG [.int .i64 x.k, .int .i64 x.n,strV x.s] _ hS rfl rfl rfl (fun p1 w1 G1 hle1 hsp1 hc1 hS1=>?_)
 refine WL.boxG [.int .i64 y.k, .int .i64 y.n,strV y.s] _ hS1 rfl rfl rfl (fun p2 w2 G2 hle2 hsp2 hc2 hS2=>?_)
 refine WL.loadG1 hS2 (Cells.drop 0 (hc1.mono hle2)) ti3 rfl rfl rfl <| WL.loadG1 hS2 (Cells.drop 0 hc2) ti3 rfl rfl rfl ?_
 refine WL.neqS x.k y.k rfl rfl rfl (fun h1=>?_) (fun h1=>?_)
 ·refine WL.loadG1 hS2 (Cells.drop 0 (hc1.mono hle2)) ti3 rfl rfl rfl <| WL.loadG1 hS2 (Cells.drop 0 hc2) ti3 rfl rfl rfl ?_
  refine WL.cV hS2 hb181 rfl rfl rfl (c_sign hS2.imm x.k y.k) (fun w3 G3 hS3 hle3=>?_)
  exact RI hS3 rfl (by exact (cmpV_k (by assumption)).symm)
 refine WL.loadG1 hS2 (Cells.drop 1 (hc1.mono hle2)) ti3 rfl rfl rfl <| WL.loadG1 hS2 (Cells.drop 1 hc2) ti3 rfl rfl rfl ?_
 refine WL.neqS x.n y.n rfl rfl rfl (fun h2=>?_) (fun h2=>?_)
 ·refine WL.loadG1 hS2 (Cells.drop 1 (hc1.mono hle2)) ti3 rfl rfl rfl <| WL.loadG1 hS2 (Cells.drop 1 hc2) ti3 rfl rfl rfl ?_
  refine WL.cV hS2 hb181 rfl rfl rfl (c_sign hS2.imm x.n y.n) (fun w4 G4 hS4 hle4=>?_)
  exact RI hS4 rfl (by exact (cmpV_n (by assumption) (by assumption)).symm)
 refine LP.go ft [] (fun m ρ1 w1=>∃ (k1 : Nat),∃ (G5 : GH),m = x.s.length - k1 ∧ G2.le G5 ∧ St w [] G G5 [] w1 ∧ FR ρ1 [(2, .pointer (some p1)),(3, .pointer (some p2)),(5, .int .i64 (k1 : Int))] ∧ k1 ≤ x.s.length ∧ ∀ j,j < k1 → ∀ c d,x.s[j]? = some c → y.s[j]? = some d → c = d) _ ⟨0,G2,rfl,(G2.le_refl),hS2,⟨rfl,rfl,rfl,trivial⟩,(by omega),(by intro j hj; omega)⟩ ?_
 rintro m ρ1 w5 ⟨k1,G5,rfl,hle5,hS5,hF9,f1,f2⟩
 refine hF9.set ?_
 clear hF9
 refine WL.loadG1 hS5 (Cells.drop 2 (hc1.mono (hle2.trans hle5))) ti9 rfl rfl rfl <| WL.lenStr x.s ul9 rfl rfl ?_
 refine WL.lssS (k1 : Int) (x.s.length : Int) rfl rfl rfl (fun h3=>?_) (fun h3=>?_)
 ·refine WL.loadG1 hS5 (Cells.drop 2 (hc2.mono hle5)) ti9 rfl rfl rfl <| WL.lenStr y.s ul9 rfl rfl ?_
  refine WL.lssS (k1 : Int) (y.s.length : Int) rfl rfl rfl (fun h4=>?_) (fun h4=>?_)
  ·obtain ⟨c1,hx1⟩ : ∃ c,x.s[k1]? = some c:=⟨_,List.getElem?_eq_getElem (by omega)⟩
   obtain ⟨c2,hx2⟩ : ∃ c,y.s[k1]? = some c:=⟨_,List.getElem?_eq_getElem (by omega)⟩
   rcases Cmp.dec .neq (c1.toNat : Int) (c2.toNat : Int) with ⟨hb7,q1⟩ | ⟨hb7,q1⟩
   ·have h5 : (c1.toNat : Int) ≠ (c2.toNat : Int):=q1
    clear q1
    refine dr [] [(41,strV x.s),(43, .int .u8 (c1.toNat : Int)),(45,strV y.s),(47, .int .u8 (c2.toNat : Int)),(48, .bool true)] hS5 ⟨fun _ hSw=>WL.loadG1 hSw (Cells.drop 2 (hc1.mono (hle2.trans hle5))) ti9 rfl rfl rfl <| nu rfl rfl,fun _=>WL.indexStrP x.s k1 c1 hx1 ul9 rfl rfl rfl <| nu rfl rfl,fun _ hSw=>WL.loadG1 hSw (Cells.drop 2 (hc2.mono hle5)) ti9 rfl rfl rfl <| nu rfl rfl,fun _=>WL.indexStrP y.s k1 c2 hx2 ul9 rfl rfl rfl <| nu rfl rfl,fun _=>WL.cmpV .neq rfl .u8 (c1.toNat : Int) (c2.toNat : Int) _ hb7 rfl rfl rfl <| nu rfl rfl,trivial⟩ (fun w6 hS6=>?_)
    obtain ⟨c3,hx3⟩ : ∃ c,x.s[k1]? = some c:=⟨_,List.getElem?_eq_getElem (by omega)⟩
    obtain rfl : c1 = c3:=Option.some.inj (hx1.symm.trans hx3)
    obtain ⟨c4,hx4⟩ : ∃ c,y.s[k1]? = some c:=⟨_,List.getElem?_eq_getElem (by omega)⟩
    obtain rfl : c2 = c4:=Option.some.inj (hx2.symm.trans hx4)
    refine dr [(11,false)] [(50,strV x.s),(52, .int .u8 (c1.toNat : Int)),(53, .int .i64 (c1.toNat : Int)),(55,strV y.s),(57, .int .u8 (c2.toNat : Int)),(58, .int .i64 (c2.toNat : Int)),(59, .int .i64 (sgn (c1.toNat : Int) (c2.toNat : Int)))] hS6 ⟨fun _ hSw=>WL.loadG1 hSw (Cells.drop 2 (hc1.mono (hle2.trans hle5))) ti9 rfl rfl rfl <| nu rfl rfl,fun _=>WL.indexStrP x.s k1 c1 hx1 ul9 rfl rfl rfl <| nu rfl rfl,fun _=>WL.u8int (c1.toNat : Int) ul5 ul3 (u8bd c1) rfl rfl <| nu rfl rfl,fun _ hSw=>WL.loadG1 hSw (Cells.drop 2 (hc2.mono hle5)) ti9 rfl rfl rfl <| nu rfl rfl,fun _=>WL.indexStrP y.s k1 c2 hx2 ul9 rfl rfl rfl <| nu rfl rfl,fun _=>WL.u8int (c2.toNat : Int) ul5 ul3 (u8bd c2) rfl rfl <| nu rfl rfl,fun _ hSw=>WL.callD hSw hb181 rfl rfl rfl (c_sign hSw.imm (c1.toNat : Int) (c2.toNat : Int)) rfl,trivial⟩ (fun w7 hS7=>?_)
    exact RI hS7 rfl (by (rw [cmpV_s (by assumption) (by assumption)]; first | exact (cmpS_at (by assumption) (by assumption) (by assumption) (by assumption)).symm | exact (cmpS_end (by assumption) (by omega)).symm))
   have h5 : (c1.toNat : Int) = (c2.toNat : Int):=q1
   clear q1
   refine dr [] [(41,strV x.s),(43, .int .u8 (c1.toNat : Int)),(45,strV y.s),(47, .int .u8 (c2.toNat : Int)),(48, .bool false)] hS5 ⟨fun _ hSw=>WL.loadG1 hSw (Cells.drop 2 (hc1.mono (hle2.trans hle5))) ti9 rfl rfl rfl <| nu rfl rfl,fun _=>WL.indexStrP x.s k1 c1 hx1 ul9 rfl rfl rfl <| nu rfl rfl,fun _ hSw=>WL.loadG1 hSw (Cells.drop 2 (hc2.mono hle5)) ti9 rfl rfl rfl <| nu rfl rfl,fun _=>WL.indexStrP y.s k1 c2 hx2 ul9 rfl rfl rfl <| nu rfl rfl,fun _=>WL.cmpV .neq rfl .u8 (c1.toNat : Int) (c2.toNat : Int) _ hb7 rfl rfl rfl <| nu rfl rfl,trivial⟩ (fun w9 hS8=>?_)
   refine WL.incr k1 (by have hreach : reach = 140737488355328:=rfl; omega) rfl rfl rfl ?_
   exact BK.mk' _ ⟨k1 + 1,G5,rfl,hle5,hS8,⟨rfl,rfl,rfl,trivial⟩,(by omega),(by exact lt_step2 (by assumption) (by assumption) (by assumption) (u8_eq (by assumption)))⟩ (show x.s.length - (k1 + 1) < x.s.length - k1 by omega)
  refine WL.loadG1 hS5 (Cells.drop 2 (hc1.mono (hle2.trans hle5))) ti9 rfl rfl rfl <| WL.lenStr x.s ul9 rfl rfl <| WL.loadG1 hS5 (Cells.drop 2 (hc2.mono hle5)) ti9 rfl rfl rfl <| WL.lenStr y.s ul9 rfl rfl ?_
  refine WL.cV hS5 hb181 rfl rfl rfl (c_sign hS5.imm (x.s.length : Int) (y.s.length : Int)) (fun w10 G6 hS9 hle6=>?_)
  exact RI hS9 rfl (by (rw [cmpV_s (by assumption) (by assumption)]; first | exact (cmpS_at (by assumption) (by assumption) (by assumption) (by assumption)).symm | exact (cmpS_end (by assumption) (by omega)).symm))
 refine WL.loadG1 hS5 (Cells.drop 2 (hc1.mono (hle2.trans hle5))) ti9 rfl rfl rfl <| WL.lenStr x.s ul9 rfl rfl <| WL.loadG1 hS5 (Cells.drop 2 (hc2.mono hle5)) ti9 rfl rfl rfl <| WL.lenStr y.s ul9 rfl rfl ?_
 refine WL.cV hS5 hb181 rfl rfl rfl (c_sign hS5.imm (x.s.length : Int) (y.s.length : Int)) (fun w11 G7 hS10 hle7=>?_)
 exact RI hS10 rfl (by (rw [cmpV_s (by assumption) (by assumption)]; first | exact (cmpS_at (by assumption) (by assumption) (by assumption) (by assumption)).symm | exact (cmpS_end (by assumption) (by omega)).symm))
theorem c_rOrder {G : GH} {w : World} (hG : G.In w) (a b : List Val) (va : Value) (hva : Sl ValE 32 G va a) (vb : Value) (hvb : Sl ValE 32 G vb b) : CL Tryz.prog (nat_lit 137) #[va,vb] [] w G fun _ _ r=>r = .int .i64 (cmpL cmpV a b):=by
 refine calls_of_go ft [] Tryz.func137 rfl rfl ?_
 have hS:=St.start (X:=[]) hG
 refine LP.go ft [] (fun m ρ1 w1=>∃ (k1 : Nat),∃ (G1 : GH),m = a.length - k1 ∧ G.le G1 ∧ St w [] G G1 [] w1 ∧ FR ρ1 [(0,va),(1,vb),(5, .int .i64 (k1 : Int))] ∧ k1 ≤ a.length ∧ ∀ j,j < k1 → ∀ x y,a[j]? = some x → b[j]? = some y → cmpV x y = 0) _ ⟨0,G,rfl,(G.le_refl),hS,⟨rfl,rfl,rfl,trivial⟩,(by omega),(by intro j hj; omega)⟩ ?_
 rintro m ρ1 w1 ⟨k1,G1,rfl,hle1,hS1,hF9,f1,f2⟩
 refine hF9.set ?_
 clear hF9
 have bd1:=hva.bound
 refine WL.lenSl (hva.mono hle1) ul36 rfl rfl ?_
 refine WL.lssS (k1 : Int) (a.length : Int) rfl rfl rfl (fun h1=>?_) (fun h1=>?_)
 ·have bd2:=hvb.bound
  refine WL.lenSl (hvb.mono hle1) ul36 rfl rfl ?_
  refine WL.lssS (k1 : Int) (b.length : Int) rfl rfl rfl (fun h2=>?_) (fun h2=>?_)
  ·obtain ⟨p1,x1,hx1,he1,ep1⟩:=Sl.at (hva.mono hle1) k1 (by omega)
   obtain ⟨cs1,hc1,hr1⟩:=he1
   obtain ⟨rfl,hb1,hb2,hb3⟩:=ValE_open hr1
   obtain ⟨p2,x2,hx2,he2,ep2⟩:=Sl.at (hvb.mono hle1) k1 (by omega)
   obtain ⟨cs2,hc2,hr2⟩:=he2
   obtain ⟨rfl,hb4,hb5,hb6⟩:=ValE_open hr2
   refine dr [(9,false)] [(21, .pointer (some p1)),(22, .agg #[.int .i64 x1.k, .int .i64 x1.n,strV x1.s]),(25, .pointer (some p2)),(26, .agg #[.int .i64 x2.k, .int .i64 x2.n,strV x2.s]),(27, .int .i64 (cmpV x1 x2))] hS1 ⟨fun _=>WL.indexAddrP k1 ep1 ul36 ti48 rfl rfl rfl rfl <| nu rfl rfl,fun _ hSw=>WL.loadGAt hSw hc1 [.int .i64 x1.k, .int .i64 x1.n,strV x1.s] ti48 rfl rfl rfl rfl rfl <| nu rfl rfl,fun _=>WL.indexAddrP k1 ep2 ul36 ti48 rfl rfl rfl rfl <| nu rfl rfl,fun _ hSw=>WL.loadGAt hSw hc2 [.int .i64 x2.k, .int .i64 x2.n,strV x2.s] ti48 rfl rfl rfl rfl rfl <| nu rfl rfl,fun _ hSw=>WL.callD hSw hb180 rfl rfl rfl (c_rCompare hSw.imm x1 x2 _ (ValE_mk x1 hb1 hb2 hb3) _ (ValE_mk x2 hb4 hb5 hb6)) rfl,trivial⟩ (fun w2 hS2=>?_)
   refine WL.neqS (cmpV x1 x2) 0 rfl rfl rfl (fun h3=>?_) (fun h3=>?_)
   ·exact RI hS2 rfl (by exact (cmpL_at (by assumption) (by assumption) (by assumption) (by assumption)).symm)
   refine WL.incr k1 (by have hreach : reach = 140737488355328:=rfl; omega) rfl rfl rfl ?_
   exact BK.mk' _ ⟨k1 + 1,G1,rfl,hle1,hS2,⟨rfl,rfl,rfl,trivial⟩,(by omega),(by exact lt_step2 (by assumption) (by assumption) (by assumption) (by assumption))⟩ (show a.length - (k1 + 1) < a.length - k1 by omega)
  have bd3:=hva.bound
  refine WL.lenSl (hva.mono hle1) ul36 rfl rfl ?_
  have bd4:=hvb.bound
  refine WL.lenSl (hvb.mono hle1) ul36 rfl rfl ?_
  refine WL.cV hS1 hb181 rfl rfl rfl (c_sign hS1.imm (a.length : Int) (b.length : Int)) (fun w3 G2 hS3 hle2=>?_)
  exact RI hS3 rfl (by exact (cmpL_end' (by assumption) (by omega)).symm)
 have bd5:=hva.bound
 refine WL.lenSl (hva.mono hle1) ul36 rfl rfl ?_
 have bd6:=hvb.bound
 refine WL.lenSl (hvb.mono hle1) ul36 rfl rfl ?_
 refine WL.cV hS1 hb181 rfl rfl rfl (c_sign hS1.imm (a.length : Int) (b.length : Int)) (fun w4 G3 hS4 hle3=>?_)
 exact RI hS4 rfl (by exact (cmpL_end' (by assumption) (by omega)).symm)
end Go.Civ
set_option linter.unusedVariables false
set_option linter.unusedSimpArgs false
set_option maxRecDepth 100000
set_option maxHeartbeats 4000000
namespace Go.Civ
open Go.Proofs
theorem c_gnormal {G : GH} {w : World} (hG : G.In w) (x : HGrp) (cx : List Value) (hcx : HGrpE.rep G x cx) (hgood : GoodH x.t) (hl : x.t.length ≤ 2000) : CL Tryz.prog (nat_lit 120) #[.agg cx.toArray] [] w G fun G' _ r=>Sl HRowE 56 G' r (normG x):=by
 refine calls_of_go ft [] Tryz.func120 rfl rfl ?_
 have hS:=St.start (X:=[]) hG
 obtain ⟨v1,v2,rfl,hs1,hs2⟩:=HGrpE_open hcx
 refine WL.boxG [v1,v2] _ hS rfl rfl rfl (fun p1 w1 G1 hle1 hsp1 hc1 hS1=>?_)
 refine WL.loadG1 hS1 (Cells.drop 1 hc1) ti26 rfl rfl rfl ?_
 have bd1:=hs2.bound
 refine WL.lenSl (hs2.mono hle1) ul26 rfl rfl ?_
 have hS3:=hS1.pad
 refine LP.go ft [] (fun m ρ1 w1=>∃ (k1 : Nat),∃ (v3 : Value) (o1 : OB),∃ (G2 : GH),m = x.t.length - k1 ∧ G1.le G2 ∧ St w [] G G2 [o1] w1 ∧ Row Enc.int 8 3 G2 v3 (flatX (x.t.take k1)) o1 ∧ FR ρ1 [(1, .pointer (some p1)),(3,v3),(14,v2),(15, .int .i64 (x.t.length : Int)),(16, .int .i64 (k1 : Int))] ∧ k1 ≤ x.t.length) _ ⟨0,(.slice none 0 0),none,G1,rfl,(G1.le_refl),hS3,(Row.nil Enc.int 8 3 G1),⟨rfl,rfl,rfl,rfl,rfl,trivial⟩,(by omega)⟩ ?_
 rintro m ρ1 w2 ⟨k1,v3,o1,G2,rfl,hle2,hS2,hr1,hF9,f1⟩
 refine hF9.set ?_
 clear hF9
 have hfl:=flatX_takeLen x.t k1
 refine WL.lssS (k1 : Int) (x.t.length : Int) rfl rfl rfl (fun h1=>?_) (fun h1=>?_)
 ·refine WL.indexAddr (hs2.mono (hle1.trans hle2)) k1 (by omega) ul26 ti64 rfl rfl rfl rfl (fun p2 x1 hx1 he1=>?_)
  obtain ⟨cs1,hc2,hr2⟩:=he1
  obtain ⟨v4,rfl,hs3,hb1,hb2,hb3,hb4⟩:=HRowE_open hr2
  refine WL.loadGAt hS2 hc2 [v4, .int .i64 x1.r.d.a, .int .i64 x1.r.d.b, .int .i64 x1.r.x.a, .int .i64 x1.r.x.b] ti64 rfl rfl rfl rfl rfl ?_
  refine WL.alloc hS2 ti64 rfl rfl (fun b1 w3 hn1 hS4=>?_)
  refine WL.store hS4 0 _ _ _ 0 _ [v4, .int .i64 x1.r.d.a, .int .i64 x1.r.d.b, .int .i64 x1.r.x.a, .int .i64 x1.r.x.b] [v4, .int .i64 x1.r.d.a, .int .i64 x1.r.d.b, .int .i64 x1.r.x.a, .int .i64 x1.r.x.b] _ rfl rfl ti64 rfl (Nat.le_of_ble_eq_true rfl) (by simp only [List.all_cons,List.all_nil,hs3.oneC,Bool.true_and] <;> rfl) rfl rfl rfl rfl rfl (fun w4 hS5=>?_)
  obtain ⟨G3,hle3,hc3,hS6⟩:=hS5.shutB hn1
  refine WL.loadG1 hS6 (Cells.drop 0 (Cells.drop 2 (Cells.drop 1 hc3))) ti3 rfl rfl rfl <| WL.loadG1 hS6 (Cells.drop 1 (Cells.drop 2 (Cells.drop 1 hc3))) ti3 rfl rfl rfl ?_
  refine WL.buildSlice _ [(0,[.int .i64 x1.r.x.a]),(1,[.int .i64 x1.r.x.b])] [.int .i64 x1.r.x.a, .int .i64 x1.r.x.b] hS6 sl135 rfl rfl rfl rfl (fun z hz=>by match z,hz with | [z0,z1],_=>rfl) (fun b2 w5 hn2 hS7=>?_)
  refine WL.push (m:=([x1.r.x.a,x1.r.x.b] : List Int)) sl135 rfl rfl rfl (hr1.mono hle3) hS7 1 rfl 0 _ _ _ _ _ rfl ⟨[.int .i64 x1.r.x.a],_,rfl,⟨rfl,hb3⟩,⟨[.int .i64 x1.r.x.b],_,rfl,⟨rfl,hb4⟩,rfl⟩⟩ rfl (by have hreach : reach = 140737488355328:=rfl; simp only [List.length_cons,List.length_nil]; omega) (by have hreach : reach = 140737488355328:=rfl; simp only [List.length_cons,List.length_nil]; omega) rfl rfl rfl (fun v5 o2 w6 hr3 hS8=>?_)
  have hS9:=hS8.tail
  refine WL.incr k1 (by have hreach : reach = 140737488355328:=rfl; omega) rfl rfl rfl ?_
  exact BK.mk' _ ⟨k1 + 1,v5,o2,G3,rfl,(hle2.trans hle3),hS9,(Row.cast hr3 (by (rw [flatX_take (by assumption)]))),⟨rfl,rfl,rfl,rfl,rfl,trivial⟩,(by omega)⟩ (show x.t.length - (k1 + 1) < x.t.length - k1 by omega)
 refine WL.cR hb159 rfl rfl rfl (c_SortI hS2.imm (flatX (x.t.take k1)) _ _ hr1 (hS2.lentAt 0 rfl)) (fun w7 G4 r1 hres1 hpost1=>?_)
 have hle4:=hres1.le
 obtain ⟨rfl,l1,o3,hr4,hf1,hq1⟩:=hpost1
 have hS11:=hS2.callRow 0 rfl hres1 hr1 hr4 hf1
 refine WL.cR hb160 rfl rfl rfl (c_Compact hS11.imm l1 _ _ hr4 (hS11.lentAt 0 rfl)) (fun w9 G5 r2 hres2 hpost2=>?_)
 have hle5:=hres2.le
 obtain ⟨o4,hr5,hf2,hq2⟩:=hpost2
 have hS13:=hS11.callRowR 0 rfl hres2 hr4 hr5 hf2 hq2
 refine WL.alloc hS13 ti26 rfl rfl (fun b3 w10 hn3 hS14=>?_)
 refine WL.alloc hS14 ti129 rfl rfl (fun b4 w11 hn4 hS15=>?_)
 refine WL.alloc hS15 ti3 rfl rfl (fun b5 w12 hn5 hS16=>?_)
 refine WL.store hS16 0 _ _ _ 0 _ [.int .i64 0] [.int .i64 0] _ rfl rfl ti3 rfl (Nat.le_of_ble_eq_true rfl) rfl rfl rfl rfl rfl rfl (fun w13 hS17=>?_)
 have hS18:=hS17.pad
 have hcut:=Row.cast (l':=cutsL x.t) hr5 (by rw [hq1,sortI_eq]; exact cuts_eq (by omega))
 have hcl:=cutsL_len x.t
 have hci:=cutsL_i64 hgood
 have bd2:=hcut.bound
 refine WL.lenRow hcut ul135 rfl rfl ?_
 refine LP.go ft [] (fun m ρ1 w1=>∃ (k2 : Nat),∃ (nv : Value),∃ (nw : List Span),∃ (fr : Int),∃ (v6 : Value) (o5 : OB),∃ (G6 : GH),m = (cutsL x.t).length - k2 ∧ G5.le G6 ∧ St w [] G G6 [o5,some (b5,3,[.int .i64 fr]),some (b4,129,[nv]),some (b3,26,[v6]),o4] w1 ∧ Row HRowE 56 64 G6 v6 ((runN x.v (timesH x.t) ((cutsL x.t).take k2)).out) o5 ∧ FR ρ1 [(1, .pointer (some p1)),(6, .pointer (some ⟨b3,0,none⟩)),(7, .pointer (some ⟨b4,0,none⟩)),(8, .pointer (some ⟨b5,0,none⟩)),(9, .func (.func 161) #[] #[.pointer (some ⟨b4,0,none⟩), .pointer (some ⟨b3,0,none⟩), .pointer (some p1), .pointer (some ⟨b5,0,none⟩)]),(37,r2),(38, .int .i64 (((cutsL x.t).length : Nat) : Int)),(39, .int .i64 (k2 : Int))] ∧ k2 ≤ (cutsL x.t).length ∧ Sl SpanE 16 G6 nv nw ∧ nw = (runN x.v (timesH x.t) ((cutsL x.t).take k2)).now ∧ fr = (runN x.v (timesH x.t) ((cutsL x.t).take k2)).fr ∧ I64 fr) _ ⟨0, .slice none 0 0,[],0,(.slice none 0 0),none,G5,rfl,(G5.le_refl),hS18,(Row.cast (Row.nil HRowE 56 64 G5) (by simp [runN])),⟨rfl,rfl,rfl,rfl,rfl,rfl,rfl,rfl,trivial⟩,(by omega),(Sl.nil SpanE 16 G5),(by simp [runN]),(by simp [runN]),(I64_0)⟩ ?_
 rintro m ρ1 w14 ⟨k2,nv,nw,fr,v6,o5,G6,rfl,hle6,hS19,hr6,hF9,f2,f3,f4,f5,f6⟩
 refine hF9.set ?_
 clear hF9
 have hnw:=(by assumption : nw = (runN x.v (timesH x.t) ((cutsL x.t).take k2)).now)
 have hfr:=(by assumption : fr = (runN x.v (timesH x.t) ((cutsL x.t).take k2)).fr)
 have hnb:=norm_bound (g:=x) hl k2
 have hnl : nw.length ≤ 2000:=by rw [hnw]; exact hnb.2
 refine WL.lssS (k2 : Int) (((cutsL x.t).length : Nat) : Int) rfl rfl rfl (fun h2=>?_) (fun h2=>?_)
 ·refine WL.indexAddrRow (hcut.mono hle6) k2 (by omega) ul135 ti3 rfl rfl rfl rfl (fun p3 x2 ec1 hx2 hr7 ra1=>?_)
  obtain ⟨rfl,hb5⟩:=hr7
  refine WL.loadR1' ra1 hS19 4 rfl _ rfl ti3 rfl rfl rfl ?_
  have hc64:=hci _ (List.mem_of_getElem? (by assumption : (cutsL x.t)[k2]? = some _))
  refine WL.loadG1 hS19 (Cells.drop 1 (hc1.mono (((hle2.trans hle4).trans hle5).trans hle6))) ti26 rfl rfl rfl ?_
  refine WL.cA hS19 hb93 rfl rfl rfl (c_htimes hS19.imm x.t x2 _ (hs2.mono ((((hle1.trans hle2).trans hle4).trans hle5).trans hle6)) hgood hl) (fun w15 G7 r3 hpost3 hS20 hle7=>?_)
  refine WL.loadO1 hS20 2 _ _ _ 0 _ rfl rfl ti129 rfl rfl rfl ?_
  refine WL.cV hS20 hb162 rfl rfl rfl (c_SlEqualS hS20.imm nw (timesH x.t x2) _ (f3.mono hle7) _ hpost3) (fun w16 G9 hS21 hle9=>?_)
  refine WL.split (fun (h3 : (decide (nw = (timesH x.t x2))) = true)=>?_) (fun (h3 : (decide (nw = (timesH x.t x2))) = false)=>?_)
  ·refine WL.incr k2 (by have hreach : reach = 140737488355328:=rfl; omega) rfl rfl rfl ?_
   exact BK.mk' _ ⟨k2 + 1,nv,nw,fr,v6,o5,G9,rfl,(hle6.trans (hle7.trans hle9)),hS21,(Row.cast (hr6.mono (hle7.trans hle9)) (by (exact (congrArg NS.out (run_same (by assumption) (by rw [← hnw]; exact of_decide_eq_true (by assumption)))).symm))),⟨rfl,rfl,rfl,rfl,rfl,rfl,rfl,rfl,trivial⟩,(by omega),((f3.mono (hle7.trans hle9))),(by (rw [run_same (by assumption) (by rw [← hnw]; exact of_decide_eq_true (by assumption))]; exact hnw)),(by (rw [run_same (by assumption) (by rw [← hnw]; exact of_decide_eq_true (by assumption))]; exact hfr)),(by assumption)⟩ (show (cutsL x.t).length - (k2 + 1) < (cutsL x.t).length - k2 by omega)
  have hP1 : St w [] G G9 [some (b4,129,[nv]),some (b3,26,[v6]),some (b5,3,[.int .i64 fr]),o5,o4] w16:=hS21.pick [2,3,1,0,4]
  refine WL.callF [.int .i64 x2, .pointer (some ⟨b4,0,none⟩), .pointer (some ⟨b3,0,none⟩), .pointer (some p1), .pointer (some ⟨b5,0,none⟩)] #[.pointer (some ⟨b4,0,none⟩), .pointer (some ⟨b3,0,none⟩), .pointer (some p1), .pointer (some ⟨b5,0,none⟩)] hb161 rfl rfl rfl ((c_flush x.v fr x2 ((runN x.v (timesH x.t) ((cutsL x.t).take k2)).out) nw _ _ _ _ _ _ (f3.mono (hle7.trans hle9)) (hr6.mono (hle7.trans hle9)) hP1 _ (hs1.mono ((((((hle1.trans hle2).trans hle4).trans hle5).trans hle6).trans hle7).trans hle9)) _ _ (hc1.mono (((((hle2.trans hle4).trans hle5).trans hle6).trans hle7).trans hle9)) hc64 f6 (by omega)).mono ?_)
  rintro e14 w17 ⟨G10,v7,o6,rfl,hle10,hS22,hr8⟩
  refine ⟨_,rfl,?_⟩
  refine WL.store hS22 0 _ _ _ 0 _ [r3] [r3] _ rfl (hpost3.mono (hle9.trans hle10)).cells1 ti129 rfl (Nat.le_of_ble_eq_true rfl) (by simp only [List.all_cons,List.all_nil,(hpost3.mono (hle9.trans hle10)).oneC,Bool.true_and] <;> rfl) rfl rfl rfl rfl rfl (fun w18 hS23=>?_)
  refine WL.store hS23 2 _ _ _ 0 _ [.int .i64 x2] [.int .i64 x2] _ rfl rfl ti3 rfl (Nat.le_of_ble_eq_true rfl) rfl rfl rfl rfl rfl rfl (fun w19 hS24=>?_)
  refine WL.incr k2 (by have hreach : reach = 140737488355328:=rfl; omega) rfl rfl rfl ?_
  have hP2 : St w [] G G10 [o6,some (b5,3,[.int .i64 x2]),some (b4,129,[r3]),some (b3,26,[v7]),o4] w19:=hS24.pick [3,2,0,1,4]
  exact BK.mk' _ ⟨k2 + 1,r3,timesH x.t x2,x2,v7,o6,G10,rfl,(hle6.trans ((hle7.trans hle9).trans hle10)),hP2,(Row.cast hr8 (by ((rw [run_new (by assumption) (by rw [← hnw]; exact of_decide_eq_false (by assumption))]; simp only [hnw,hfr])))),⟨rfl,rfl,rfl,rfl,rfl,rfl,rfl,rfl,trivial⟩,(by omega),((hpost3.mono (hle9.trans hle10))),(by (rw [run_new (by assumption) (by rw [← hnw]; exact of_decide_eq_false (by assumption))])),(by (rw [run_new (by assumption) (by rw [← hnw]; exact of_decide_eq_false (by assumption))])),(by assumption)⟩ (show (cutsL x.t).length - (k2 + 1) < (cutsL x.t).length - k2 by omega)
 refine WL.loadO1 hS19 3 _ _ _ 0 _ rfl rfl ti26 rfl rfl rfl ?_
 obtain ⟨G11,hle11,hs4,hS25⟩:=Row.freeze hr6 hS19 0 rfl
 exact RT hS25 rfl (Sl.cast hs4 (by exact normG_all (by omega)))
end Go.Civ
