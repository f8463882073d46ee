/- Lemmas: Wn3. -/
import Derived.Test.YtjjkgobhlfmhhaaGreatQ14
import Derived.Test.YtjjkgobhlfmhhaaGreatQ35
import Derived.Test.YtjjkgobhlfmhhaaGreatQ42
import Derived.Test.YtjjkgobhlfmhhaaGreatQ45
import Derived.Test.YtjjkgobhlfmhhaaGreatProg
import Derived.KernelRfl
import Derived.WalkKit
set_option linter.unusedVariables false
set_option linter.unusedSimpArgs false
set_option maxRecDepth 100000
set_option maxHeartbeats 4000000
namespace Go.Civ
open Go.Proofs
theorem c_CloneLL {G : GH} {w : World} (hG : G.In w) (l : List (List Val)) (vl : Value) (hvl : Sl (ValE.slice 32) 24 G vl l) : CL Tryz.prog (nat_lit 51) #[vl] [] w G fun G' w' r=>∃ o,Row (ValE.slice 32) 24 (nat_lit 36) G' r l o ∧ Fresh w w' G' o:=by
 refine calls_of_go ft [] Tryz.func51 rfl rfl ?_
 have hS:=St.start (X:=[]) hG
 refine WL.nilEq hvl ul56 rfl rfl rfl (fun h1=>?_) ?_
 ·exact RT hS rfl ⟨none,Row.cast (Row.nil _ _ _ _) (by exact Eq.symm (by assumption)),fun _ h=>by cases h⟩
 refine WL.buildSlice _ [] [] hS sl56 rfl rfl rfl rfl (fun z hz=>by match z,hz with | [],_=>rfl) (fun b1 w1 hn1 hS1=>?_)
 have hr1:=Row.empty (ValE.slice 32) 24 36 G b1
 refine WL.pushSl sl56 rfl rfl rfl hr1 hS1 0 rfl hvl (by have hreach : reach = 140737488355328:=rfl; have:=hvl.bytes; have:=hvl.bound; simp only [List.length_nil,Nat.zero_add]; omega) (by have hreach : reach = 140737488355328:=rfl; have:=hvl.bytes; have:=hvl.bound; simp only [List.length_nil,Nat.zero_add]; omega) rfl rfl rfl (fun v1 o1 w2 hr2 hS2=>?_)
 exact RT hS2 rfl ⟨_,Row.cast hr2 (by rfl),hS2.freshAt 0 rfl⟩
theorem c_IndexRow {G : GH} {w : World} (hG : G.In w) (l : VV) (pf : List Val → Bool) (vl : Value) (ol : OB) (hvl : Row (ValE.slice 32) 24 (nat_lit 36) G vl l ol) (hol : Lent w G ol) (fid : Nat) (fcap : Array Value) (hf : FnB Tryz.prog (Sl ValE 32) fid fcap G (fun x=>x ∈ l) pf) : CL Tryz.prog (nat_lit 105) #[vl, .func (.func fid) #[] fcap] (blk ol) w G fun G' w' r=>r = .int .i64 (idxF pf l) ∧ Row (ValE.slice 32) 24 (nat_lit 36) G' vl l ol ∧ Lent w' G' ol:=by
 refine calls_of_go ft [] Tryz.func105 rfl rfl ?_
 have hS:=St.lentO hG hol
 have bd1:=hvl.bound
 refine WL.lenRow hvl ul56 rfl rfl ?_
 refine LP.go ft [] (fun m ρ1 w1=>∃ (k1 : Nat),∃ (G1 : GH),m = l.length - k1 ∧ G.le G1 ∧ St w (blk ol) G G1 [ol] w1 ∧ FR ρ1 [(0,vl),(1, .func (.func fid) #[] fcap),(7, .int .i64 (l.length : Int)),(8, .int .i64 (k1 : Int))] ∧ k1 ≤ l.length ∧ ∀ j,j < k1 → ∀ x,l[j]? = some x → pf x = false) _ ⟨0,G,rfl,(G.le_refl),hS,⟨rfl,rfl,rfl,rfl,trivial⟩,(by omega),(by intro j hj; omega)⟩ ?_
 rintro m ρ1 w1 ⟨k1,G1,rfl,hle1,hS1,hF9,f1,f2⟩
 refine hF9.set ?_
 clear hF9
 refine WL.lssS (k1 : Int) (l.length : Int) rfl rfl rfl (fun h1=>?_) (fun h1=>?_)
 ·refine WL.indexAddrRow (hvl.mono hle1) k1 (by omega) ul56 ti36 rfl rfl rfl rfl (fun p1 x1 ec1 hx1 hr1 ra1=>?_)
  obtain ⟨v1,rfl,hs1⟩:=hr1
  refine WL.loadR1' ra1 hS1 0 rfl _ rfl ti36 rfl rfl rfl ?_
  refine WL.cV hS1 hf.body rfl rfl rfl (hf.call _ _ v1 x1 hle1 hS1.imm (List.mem_of_getElem? (by assumption)) hs1) (fun w2 G2 hS2 hle2=>?_)
  refine WL.split (fun (h2 : (pf x1) = true)=>?_) (fun (h2 : (pf x1) = false)=>?_)
  ·exact RT hS2 rfl ⟨congrArg (Value.int .i64) (by exact (idxF_some _ (by assumption) (by assumption) (by assumption)).symm),(hvl.mono (hle1.trans hle2)),hS2.lentAt 0 rfl⟩
  refine WL.incr k1 (by have hreach : reach = 140737488355328:=rfl; omega) rfl rfl rfl ?_
  exact BK.mk' _ ⟨k1 + 1,G2,rfl,(hle1.trans hle2),hS2,⟨rfl,rfl,rfl,rfl,trivial⟩,(by omega),(by exact lt_step (by assumption) (by assumption) (by assumption))⟩ (show l.length - (k1 + 1) < l.length - k1 by omega)
 exact RT hS1 rfl ⟨congrArg (Value.int .i64) (by exact (idxF_none' (by assumption) (by omega)).symm),(hvl.mono hle1),hS1.lentAt 0 rfl⟩
theorem c_ContainsRow {G : GH} {w : World} (hG : G.In w) (l : VV) (pf : List Val → Bool) (vl : Value) (ol : OB) (hvl : Row (ValE.slice 32) 24 (nat_lit 36) G vl l ol) (hol : Lent w G ol) (fid : Nat) (fcap : Array Value) (hf : FnB Tryz.prog (Sl ValE 32) fid fcap G (fun x=>x ∈ l) pf) : CL Tryz.prog (nat_lit 44) #[vl, .func (.func fid) #[] fcap] (blk ol) w G fun G' w' r=>r = .bool (l.any pf) ∧ Row (ValE.slice 32) 24 (nat_lit 36) G' vl l ol ∧ Lent w' G' ol:=by
 refine calls_of_go ft [] Tryz.func44 rfl rfl ?_
 have hS:=St.lentO hG hol
 refine WL.cR hb105 rfl rfl rfl (c_IndexRow hS.imm l pf _ _ hvl (hS.lentAt 0 rfl) fid fcap (hf.up (G.le_refl))) (fun w1 G1 r1 hres1 hpost1=>?_)
 have hle1:=hres1.le
 obtain ⟨rfl,hr1,hf1⟩:=hpost1
 have hS2:=hS.callRow 0 rfl hres1 hvl hr1 hf1
 refine WL.cmp .geq rfl .i64 (idxF pf l) 0 rfl rfl rfl ?_
 exact RT hS2 rfl ⟨congrArg Value.bool (by exact idxF_any _ _),(hvl.mono hle1),hS2.lentAt 0 rfl⟩
theorem c_pts1 {G : GH} {w : World} (hG : G.In w) (v l : List Val) (vl : Value) (hvl : Sl ValE 32 G vl l) (vv : Value) (hvv : Sl ValE 32 G vv v) (pv : Addr) (hpv : Cells G pv [vv]) : CL Tryz.prog (nat_lit 52) #[vl, .pointer (some pv)] [] w G fun _ _ r=>r = .bool (decide (l = v)):=by
 refine calls_of_go ft [] Tryz.func52 rfl rfl ?_
 have hS:=St.start (X:=[]) hG
 refine WL.loadG1 hS hpv ti36 rfl rfl rfl ?_
 refine WL.cV hS hb46 rfl rfl rfl (c_vSame hS.imm l v _ hvl _ hvv) (fun w1 G1 hS1 hle1=>?_)
 exact RB hS1 rfl (by rfl)
theorem c_pts2 {G : GH} {w : World} (hG : G.In w) (v l : List Val) (vl : Value) (hvl : Sl ValE 32 G vl l) (vv : Value) (hvv : Sl ValE 32 G vv v) (pv : Addr) (hpv : Cells G pv [vv]) : CL Tryz.prog (nat_lit 55) #[vl, .pointer (some pv)] [] w G fun _ _ r=>r = .bool (decide (l = v)):=by
 refine calls_of_go ft [] Tryz.func55 rfl rfl ?_
 have hS:=St.start (X:=[]) hG
 refine WL.loadG1 hS hpv ti36 rfl rfl rfl ?_
 refine WL.cV hS hb46 rfl rfl rfl (c_vSame hS.imm l v _ hvl _ hvv) (fun w1 G1 hS1 hle1=>?_)
 exact RB hS1 rfl (by rfl)
theorem c_pts3 {G : GH} {w : World} (hG : G.In w) (x : Table) (e : Int) (want : VV) (at_ later past : Int) (nm : List UInt8) (cols : List Col) (key : Int) (fks : List Foreign) (rows : List HRow) (last : Int) (cx : List Value) (hcx : TableE.rep G x cx) (vw : Value) (hvw : Sl (ValE.slice 32) 24 G vw want) (pa : Addr) (hpa : Cells G pa [.int .i64 at_]) (pl : Addr) (hpl : Cells G pl [.int .i64 later]) (pp : Addr) (hpp : Cells G pp [.int .i64 past]) (vcl : Value) (hvcl : Sl ColE 24 G vcl cols) (vf : Value) (hvf : Sl ForeignE 40 G vf fks) (vr : Value) (hvr : Sl HRowE 56 G vr rows) (pt : Addr) (hpt : Cells G pt [strV nm,vcl, .int .i64 key,vf,vr, .int .i64 last]) (hnm : nm.length ≤ reach) (hkey : I64 key) (hlast : I64 last) (hc : e = 0 → PtOk (Table.mk (Schema.mk nm cols key fks) rows last) x want at_ later past) : CL Tryz.prog (nat_lit 56) #[.agg cx.toArray, .int .i64 e,vw, .pointer (some pa), .pointer (some pl), .pointer (some pp), .pointer (some pt)] [] w G fun _ _ r=>r = .bool true:=by
 refine calls_of_go ft [] Tryz.func56 rfl rfl ?_
 have hS:=St.start (X:=[]) hG
 obtain ⟨v1,v2,v3,rfl,hb1,hs1,hb2,hs2,hs3,hb3⟩:=TableE_open hcx
 refine WL.boxG [strV x.s.name,v1, .int .i64 x.s.key,v2,v3, .int .i64 x.last] _ hS rfl rfl rfl (fun p1 w1 G1 hle1 hsp1 hc1 hS1=>?_)
 refine WL.neqS e 0 rfl rfl rfl (fun h1=>?_) (fun h1=>?_)
 ·exact RB hS1 rfl (by rfl)
 have hPt:=hc (by assumption)
 refine WL.cR hb51 rfl rfl rfl (c_CloneLL hS1.imm want _ (hvw.mono hle1)) (fun w2 G2 r1 hres1 hpost1=>?_)
 have hS2:=hS1.call hres1
 have hle2:=hres1.le
 obtain ⟨o1,hr1,hf1⟩:=hpost1
 have hS3:=hS1.adoptO hres1 hf1
 refine WL.cR hb57 rfl rfl rfl (c_SortVV hS3.imm want _ _ hr1 (hS3.lentAt 0 rfl) hPt.vals) (fun w3 G3 r2 hres2 hpost2=>?_)
 have hle3:=hres2.le
 obtain ⟨rfl,l1,o2,hr2,hf2,hq1⟩:=hpost2
 have hS5:=hS3.callRow 0 rfl hres2 hr1 hr2 hf2
 obtain ⟨G4,hle4,hs4,hS6⟩:=Row.freeze hr2 hS5 0 rfl
 have hso:=sorted_snap hPt.inc hq1.1 hq1.2 hPt.nd hPt.vals hPt.mem
 rcases Bool.eq_false_or_eq_true (validT x) with h2 | h2
 ·refine drT [6,8,9,10,11,12,13,14,15,16,17,18,19,20,21] [(17, .agg #[strV x.s.name,v1, .int .i64 x.s.key,v2,v3, .int .i64 x.last]),(18, .bool true),(20, .agg #[strV x.s.name,v1, .int .i64 x.s.key,v2,v3, .int .i64 x.last]),(21, .int .i64 at_),(22, .int .i64 later)] hS6 ⟨fun _ hSw=>WL.loadGAt hSw (hc1.mono ((hle2.trans hle3).trans hle4)) [strV x.s.name,v1, .int .i64 x.s.key,v2,v3, .int .i64 x.last] ti28 rfl rfl rfl rfl rfl <| nu rfl rfl,fun _ hSw=>WL.callD hSw hb15 rfl rfl rfl (c_hValid hSw.imm x _ (TableE_mk x hb1 (hs1.mono (((hle1.trans hle2).trans hle3).trans hle4)) hb2 (hs2.mono (((hle1.trans hle2).trans hle3).trans hle4)) (hs3.mono (((hle1.trans hle2).trans hle3).trans hle4)) hb3)) (congrArg Value.bool h2.symm),fun _ hSw=>WL.loadGAt hSw (hc1.mono ((hle2.trans hle3).trans hle4)) [strV x.s.name,v1, .int .i64 x.s.key,v2,v3, .int .i64 x.last] ti28 rfl rfl rfl rfl rfl <| nu rfl rfl,fun _ hSw=>WL.loadG1 hSw (hpa.mono (((hle1.trans hle2).trans hle3).trans hle4)) ti3 rfl rfl rfl <| nu rfl rfl,fun _ hSw=>WL.loadG1 hSw (hpl.mono (((hle1.trans hle2).trans hle3).trans hle4)) ti3 rfl rfl rfl <| nu rfl rfl,trivial⟩ (fun w4 hS7=>?_)
  refine TGI.toTG (I:=fun w9=>GH.In G4 w9) _ _ _ _ ?_
  refine TGI.fork 14 [6,8,9,10,11,12,13,14,15,16,17,18,19,20,21] [6] rfl rfl (by decide) (by decide) (TAI.cons rfl ?_ TAI.nil)
  refine WL.cA hS7 hb31 rfl rfl rfl (c_Snapshot hS7.imm x at_ later _ (TableE_mk x hb1 (hs1.mono (((hle1.trans hle2).trans hle3).trans hle4)) hb2 (hs2.mono (((hle1.trans hle2).trans hle3).trans hle4)) (hs3.mono (((hle1.trans hle2).trans hle3).trans hle4)) hb3)) (fun w5 G5 r3 hpost3 hS8 hle5=>?_)
  refine ⟨fun h=>absurd h (by decide),(hS8.imm.down hle5),?_⟩
  refine TGI.fork 13 [8,9,10,11,12,13,14,15,16,17,18,19,20,21] [8] rfl rfl (by decide) (by decide) (TAI.cons rfl ?_ TAI.nil)
  refine WL.cV hS8 hb32 rfl rfl rfl (c_lsame hS8.imm (snapH x at_ later) l1 _ hpost3 _ (hs4.mono hle5)) (fun w6 G6 hS9 hle6=>?_)
  refine WL.split (fun (h3 : (decide ((snapH x at_ later) = l1)) = true)=>?_) (fun (h3 : (decide ((snapH x at_ later) = l1)) = false)=>?_)
  ·refine ⟨fun h=>absurd h (by decide),(hS9.imm.down (hle5.trans hle6)),?_⟩
   refine TGI.quiet 12 [9,10,11,12,13,14,15,16,17,18,19,20,21] 9 rfl rfl rfl rfl rfl (by decide) (hS9.imm.down (hle5.trans hle6)) (fun w9 _ K9 k9=>WL.pickT rfl rfl k9) ?_
   refine TGI.quiet 11 [10,11,12,13,14,15,16,17,18,19,20,21] 10 rfl rfl rfl rfl rfl (by decide) (hS9.imm.down (hle5.trans hle6)) (fun w9 _ K9 k9=>WL.move rfl k9) ?_
   refine TGI.quiet 10 [11,12,13,14,15,16,17,18,19,20,21] 11 rfl rfl rfl rfl rfl (by decide) (hS9.imm.down (hle5.trans hle6)) (fun w9 i9 K9 k9=>WL.loadGAt (St.start (X:=[]) i9) (hc1.mono ((hle2.trans hle3).trans hle4)) [strV x.s.name,v1, .int .i64 x.s.key,v2,v3, .int .i64 x.last] ti28 rfl rfl rfl rfl rfl k9) ?_
   refine TGI.quiet 9 [12,13,14,15,16,17,18,19,20,21] 12 rfl rfl rfl rfl rfl (by decide) (hS9.imm.down (hle5.trans hle6)) (fun w9 i9 K9 k9=>WL.loadG1 (St.start (X:=[]) i9) (hpa.mono (((hle1.trans hle2).trans hle3).trans hle4)) ti3 rfl rfl rfl k9) ?_
   refine TGI.quiet 8 [13,14,15,16,17,18,19,20,21] 13 rfl rfl rfl rfl rfl (by decide) (hS9.imm.down (hle5.trans hle6)) (fun w9 i9 K9 k9=>WL.loadG1 (St.start (X:=[]) i9) (hpp.mono (((hle1.trans hle2).trans hle3).trans hle4)) ti3 rfl rfl rfl k9) ?_
   refine TGI.quiet 7 [14,15,16,17,18,19,20,21] 15 rfl rfl rfl rfl rfl (by decide) (hS9.imm.down (hle5.trans hle6)) (fun w9 i9 K9 k9=>WL.loadGAt (St.start (X:=[]) i9) (hpt.mono (((hle1.trans hle2).trans hle3).trans hle4)) [strV nm,vcl, .int .i64 key,vf,vr, .int .i64 last] ti28 rfl rfl rfl rfl rfl k9) ?_
   refine TGI.quiet 6 [14,16,17,18,19,20,21] 16 rfl rfl rfl rfl rfl (by decide) (hS9.imm.down (hle5.trans hle6)) (fun w9 i9 K9 k9=>WL.loadG1 (St.start (X:=[]) i9) (hpa.mono (((hle1.trans hle2).trans hle3).trans hle4)) ti3 rfl rfl rfl k9) ?_
   refine TGI.quiet 5 [14,17,18,19,20,21] 17 rfl rfl rfl rfl rfl (by decide) (hS9.imm.down (hle5.trans hle6)) (fun w9 i9 K9 k9=>WL.loadG1 (St.start (X:=[]) i9) (hpp.mono (((hle1.trans hle2).trans hle3).trans hle4)) ti3 rfl rfl rfl k9) ?_
   refine TGI.fork 4 [14,18,19,20,21] [14] rfl rfl (by decide) (by decide) (TAI.cons rfl ?_ TAI.nil)
   refine WL.cA hS9 hb31 rfl rfl rfl (c_Snapshot hS9.imm x at_ past _ (TableE_mk x hb1 (hs1.mono (((((hle1.trans hle2).trans hle3).trans hle4).trans hle5).trans hle6)) hb2 (hs2.mono (((((hle1.trans hle2).trans hle3).trans hle4).trans hle5).trans hle6)) (hs3.mono (((((hle1.trans hle2).trans hle3).trans hle4).trans hle5).trans hle6)) hb3)) (fun w7 G7 r4 hpost4 hS10 hle7=>?_)
   refine ⟨fun h=>absurd h (by decide),(hS10.imm.down ((hle5.trans hle6).trans hle7)),?_⟩
   refine TGI.fork 3 [18,19,20,21] [18] rfl rfl (by decide) (by decide) (TAI.cons rfl ?_ TAI.nil)
   refine WL.cA hS10 hb31 rfl rfl rfl (c_Snapshot hS10.imm (Table.mk (Schema.mk nm cols key fks) rows last) at_ past _ (TableE_mk (Table.mk (Schema.mk nm cols key fks) rows last) hnm (hvcl.mono ((((((hle1.trans hle2).trans hle3).trans hle4).trans hle5).trans hle6).trans hle7)) hkey (hvf.mono ((((((hle1.trans hle2).trans hle3).trans hle4).trans hle5).trans hle6).trans hle7)) (hvr.mono ((((((hle1.trans hle2).trans hle3).trans hle4).trans hle5).trans hle6).trans hle7)) hlast)) (fun w9 G9 r5 hpost5 hS11 hle9=>?_)
   refine ⟨fun h=>absurd h (by decide),(hS11.imm.down (((hle5.trans hle6).trans hle7).trans hle9)),?_⟩
   refine TGI.fork 2 [19,20,21] [19] rfl rfl (by decide) (by decide) (TAI.cons rfl ?_ TAI.nil)
   refine WL.cV hS11 hb32 rfl rfl rfl (c_lsame hS11.imm (snapH x at_ past) (snapH (Table.mk (Schema.mk nm cols key fks) rows last) at_ past) _ (hpost4.mono hle9) _ hpost5) (fun w10 G10 hS12 hle10=>?_)
   refine ⟨fun h=>absurd h (by decide),(hS12.imm.down ((((hle5.trans hle6).trans hle7).trans hle9).trans hle10)),?_⟩
   refine TGI.quiet 1 [20,21] 20 rfl rfl rfl rfl rfl (by decide) (hS12.imm.down ((((hle5.trans hle6).trans hle7).trans hle9).trans hle10)) (fun w9 _ K9 k9=>WL.pickT rfl rfl k9) ?_
   refine TGI.quiet 0 [21] 21 rfl rfl rfl rfl rfl (by decide) (hS12.imm.down ((((hle5.trans hle6).trans hle7).trans hle9).trans hle10)) (fun w9 _ K9 k9=>WL.assign rfl k9) ?_
   refine TGI.fin rfl ?_
   exact RB hS12 rfl (by exact decide_eq_true hPt.past)
  exact absurd hso (of_decide_eq_false h3)
 exact absurd hPt.valid (by rw [h2]; decide)
end Go.Civ
