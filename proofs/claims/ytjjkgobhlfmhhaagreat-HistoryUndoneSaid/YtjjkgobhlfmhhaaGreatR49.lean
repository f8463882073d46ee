/- Lemmas: Wn2, Wn3, Wn4. -/
import Derived.Test.YtjjkgobhlfmhhaaGreatR11
import Derived.Test.YtjjkgobhlfmhhaaGreatR37
import Derived.Test.YtjjkgobhlfmhhaaGreatR45
import Derived.Test.YtjjkgobhlfmhhaaGreatR48
import Derived.Test.YtjjkgobhlfmhhaaGreatProg
import Derived.KernelRfl
import Derived.WalkKit
set_option linter.unusedVariables false
set_option linter.unusedSimpArgs false
set_option maxRecDepth 100000
set_option maxHeartbeats 4000000
namespace Go.Civ
open Go.Proofs
theorem c_EqualLL {G : GH} {w : World} (hG : G.In w) (a b : List (List Val)) (pf : (List Val) → (List Val) → Bool) (va : Value) (hva : Sl (ValE.slice 32) 24 G va a) (vb : Value) (hvb : Sl (ValE.slice 32) 24 G vb b) (fid : Nat) (fcap : Array Value) (hf : FnB2 Tryz.prog (Sl ValE 32) (Sl ValE 32) fid fcap G (fun x y=>x ∈ a ∧ y ∈ b) pf) : CL Tryz.prog (nat_lit 95) #[va,vb, .func (.func fid) #[] fcap] [] w G fun _ _ r=>r = .bool (eqF pf a b):=by
 refine calls_of_go ft [] Tryz.func95 rfl rfl ?_
 have hS:=St.start (X:=[]) hG
 have bd1:=hva.bound
 refine WL.lenSl hva ul56 rfl rfl ?_
 have bd2:=hvb.bound
 refine WL.lenSl hvb ul56 rfl rfl ?_
 refine WL.neqS (a.length : Int) (b.length : Int) rfl rfl rfl (fun h1=>?_) (fun h1=>?_)
 ·exact RB hS rfl (by exact (eqF_len (by omega)).symm)
 have bd3:=hva.bound
 refine WL.lenSl hva ul56 rfl rfl ?_
 refine LP.go ft [] (fun m ρ1 w1=>∃ (k1 : Nat),∃ (G1 : GH),m = a.length - k1 ∧ G.le G1 ∧ St w [] G G1 [] w1 ∧ FR ρ1 [(1,vb),(2, .func (.func fid) #[] fcap),(15,va),(16, .int .i64 (a.length : Int)),(17, .int .i64 (k1 : Int))] ∧ k1 ≤ a.length ∧ ∀ j,j < k1 → ∀ x y,a[j]? = some x → b[j]? = some y → pf x y = true) _ ⟨0,G,rfl,(G.le_refl),hS,⟨rfl,rfl,rfl,rfl,rfl,trivial⟩,(by omega),(by intro j hj; omega)⟩ ?_
 rintro m ρ1 w1 ⟨k1,G1,rfl,hle1,hS1,hF9,f1,f2⟩
 refine hF9.set ?_
 clear hF9
 refine WL.lssS (k1 : Int) (a.length : Int) rfl rfl rfl (fun h2=>?_) (fun h2=>?_)
 ·refine WL.indexAddr (hva.mono hle1) k1 (by omega) ul56 ti36 rfl rfl rfl rfl (fun p1 x1 hx1 he1=>?_)
  obtain ⟨cs1,hc1,hr1⟩:=he1
  obtain ⟨v1,rfl,hs1⟩:=hr1
  refine WL.loadG1 hS1 hc1 ti36 rfl rfl rfl ?_
  refine WL.indexAddr (hvb.mono hle1) k1 (by omega) ul56 ti36 rfl rfl rfl rfl (fun p2 x2 hx2 he2=>?_)
  obtain ⟨cs2,hc2,hr2⟩:=he2
  obtain ⟨v2,rfl,hs2⟩:=hr2
  refine WL.loadG1 hS1 hc2 ti36 rfl rfl rfl ?_
  refine WL.cV hS1 hf.body rfl rfl rfl (hf.call _ _ v1 v2 x1 x2 hle1 hS1.imm ⟨(List.mem_of_getElem? hx1),(List.mem_of_getElem? hx2)⟩ hs1 hs2) (fun w2 G2 hS2 hle2=>?_)
  refine WL.split (fun (h3 : (pf x1 x2) = true)=>?_) (fun (h3 : (pf x1 x2) = false)=>?_)
  ·refine WL.incr k1 (by have hreach : reach = 140737488355328:=rfl; omega) rfl rfl rfl ?_
   exact BK.mk' _ ⟨k1 + 1,G2,rfl,(hle1.trans hle2),hS2,⟨rfl,rfl,rfl,rfl,rfl,trivial⟩,(by omega),(by exact lt_step2 (by assumption) (by assumption) (by assumption) (by simp_all))⟩ (show a.length - (k1 + 1) < a.length - k1 by omega)
  exact RB hS2 rfl (by exact (eqF_no (by assumption) (by assumption) (by simp_all)).symm)
 exact RB hS1 rfl (by exact (eqF_yes (by omega) (by assumption) (by omega)).symm)
theorem c_lsame {G : GH} {w : World} (hG : G.In w) (a b : VV) (va : Value) (hva : Sl (ValE.slice 32) 24 G va a) (vb : Value) (hvb : Sl (ValE.slice 32) 24 G vb b) : CL Tryz.prog (nat_lit 32) #[va,vb] [] w G fun _ _ r=>r = .bool (decide (a = b)):=by
 refine calls_of_go ft [] Tryz.func32 rfl rfl ?_
 have hS:=St.start (X:=[]) hG
 refine WL.cV hS hb95 rfl rfl rfl (c_EqualLL hS.imm a b (fun x8 y8=>decide (x8 = y8)) _ hva _ hvb 46 #[] ⟨hb46,fun G8 w8 v8 u8 x8 y8 hle8 hG8 hon8 hA8 hB8=>by exact c_vSame hG8 x8 y8 v8 hA8 u8 hB8⟩) (fun w1 G1 hS1 hle1=>?_)
 exact RB hS1 rfl (by exact eqF_eq)
end Go.Civ
set_option linter.unusedVariables false
set_option linter.unusedSimpArgs false
set_option maxRecDepth 100000
set_option maxHeartbeats 4000000
namespace Go.Civ
open Go.Proofs
theorem c_CloneLL {G : GH} {w : World} (hG : G.In w) (l : List (List Val)) (vl : Value) (hvl : Sl (ValE.slice 32) 24 G vl l) : CL Tryz.prog (nat_lit 51) #[vl] [] w G fun G' w' r=>∃ o,Row (ValE.slice 32) 24 (nat_lit 36) G' r l o ∧ Fresh w w' G' o:=by
 refine calls_of_go ft [] Tryz.func51 rfl rfl ?_
 have hS:=St.start (X:=[]) hG
 refine WL.nilEq hvl ul56 rfl rfl rfl (fun h1=>?_) ?_
 ·exact RT hS rfl ⟨none,Row.cast (Row.nil _ _ _ _) (by exact Eq.symm (by assumption)),fun _ h=>by cases h⟩
 refine WL.buildSlice _ [] [] hS sl56 rfl rfl rfl rfl (fun z hz=>by match z,hz with | [],_=>rfl) (fun b1 w1 hn1 hS1=>?_)
 have hr1:=Row.empty (ValE.slice 32) 24 36 G b1
 refine WL.pushSl sl56 rfl rfl rfl hr1 hS1 0 rfl hvl (by have hreach : reach = 140737488355328:=rfl; have:=hvl.bytes; have:=hvl.bound; simp only [List.length_nil,Nat.zero_add]; omega) (by have hreach : reach = 140737488355328:=rfl; have:=hvl.bytes; have:=hvl.bound; simp only [List.length_nil,Nat.zero_add]; omega) rfl rfl rfl (fun v1 o1 w2 hr2 hS2=>?_)
 exact RT hS2 rfl ⟨_,Row.cast hr2 (by rfl),hS2.freshAt 0 rfl⟩
theorem c_IndexRow {G : GH} {w : World} (hG : G.In w) (l : VV) (pf : List Val → Bool) (vl : Value) (ol : OB) (hvl : Row (ValE.slice 32) 24 (nat_lit 36) G vl l ol) (hol : Lent w G ol) (fid : Nat) (fcap : Array Value) (hf : FnB Tryz.prog (Sl ValE 32) fid fcap G (fun x=>x ∈ l) pf) : CL Tryz.prog (nat_lit 105) #[vl, .func (.func fid) #[] fcap] (blk ol) w G fun G' w' r=>r = .int .i64 (idxF pf l) ∧ Row (ValE.slice 32) 24 (nat_lit 36) G' vl l ol ∧ Lent w' G' ol:=by
 refine calls_of_go ft [] Tryz.func105 rfl rfl ?_
 have hS:=St.lentO hG hol
 have bd1:=hvl.bound
 refine WL.lenRow hvl ul56 rfl rfl ?_
 refine LP.go ft [] (fun m ρ1 w1=>∃ (k1 : Nat),∃ (G1 : GH),m = l.length - k1 ∧ G.le G1 ∧ St w (blk ol) G G1 [ol] w1 ∧ FR ρ1 [(0,vl),(1, .func (.func fid) #[] fcap),(7, .int .i64 (l.length : Int)),(8, .int .i64 (k1 : Int))] ∧ k1 ≤ l.length ∧ ∀ j,j < k1 → ∀ x,l[j]? = some x → pf x = false) _ ⟨0,G,rfl,(G.le_refl),hS,⟨rfl,rfl,rfl,rfl,trivial⟩,(by omega),(by intro j hj; omega)⟩ ?_
 rintro m ρ1 w1 ⟨k1,G1,rfl,hle1,hS1,hF9,f1,f2⟩
 refine hF9.set ?_
 clear hF9
 refine WL.lssS (k1 : Int) (l.length : Int) rfl rfl rfl (fun h1=>?_) (fun h1=>?_)
 ·refine WL.indexAddrRow (hvl.mono hle1) k1 (by omega) ul56 ti36 rfl rfl rfl rfl (fun p1 x1 ec1 hx1 hr1 ra1=>?_)
  obtain ⟨v1,rfl,hs1⟩:=hr1
  refine WL.loadR1' ra1 hS1 0 rfl _ rfl ti36 rfl rfl rfl ?_
  refine WL.cV hS1 hf.body rfl rfl rfl (hf.call _ _ v1 x1 hle1 hS1.imm (List.mem_of_getElem? (by assumption)) hs1) (fun w2 G2 hS2 hle2=>?_)
  refine WL.split (fun (h2 : (pf x1) = true)=>?_) (fun (h2 : (pf x1) = false)=>?_)
  ·exact RT hS2 rfl ⟨congrArg (Value.int .i64) (by exact (idxF_some _ (by assumption) (by assumption) (by assumption)).symm),(hvl.mono (hle1.trans hle2)),hS2.lentAt 0 rfl⟩
  refine WL.incr k1 (by have hreach : reach = 140737488355328:=rfl; omega) rfl rfl rfl ?_
  exact BK.mk' _ ⟨k1 + 1,G2,rfl,(hle1.trans hle2),hS2,⟨rfl,rfl,rfl,rfl,trivial⟩,(by omega),(by exact lt_step (by assumption) (by assumption) (by assumption))⟩ (show l.length - (k1 + 1) < l.length - k1 by omega)
 exact RT hS1 rfl ⟨congrArg (Value.int .i64) (by exact (idxF_none' (by assumption) (by omega)).symm),(hvl.mono hle1),hS1.lentAt 0 rfl⟩
end Go.Civ
set_option linter.unusedVariables false
set_option linter.unusedSimpArgs false
set_option maxRecDepth 100000
set_option maxHeartbeats 4000000
namespace Go.Civ
open Go.Proofs
theorem c_DeleteRow {G : GH} {w : World} (hG : G.In w) (l : VV) (pf : List Val → Bool) (vl : Value) (ol : OB) (hvl : Row (ValE.slice 32) 24 (nat_lit 36) G vl l ol) (hol : Lent w G ol) (fid : Nat) (fcap : Array Value) (hf : FnB Tryz.prog (Sl ValE 32) fid fcap G (fun x=>x ∈ l) pf) : CL Tryz.prog (nat_lit 60) #[vl, .func (.func fid) #[] fcap] (blk ol) w G fun G' w' r=>∃ (o' : OB),Row (ValE.slice 32) 24 (nat_lit 36) G' r (l.filter fun x=>!pf x) o' ∧ RowOut w w' G' ol o':=by
 refine calls_of_go ft [] Tryz.func60 rfl rfl ?_
 have hS:=St.lentO hG hol
 refine WL.cR hb105 rfl rfl rfl (c_IndexRow hS.imm l pf _ _ hvl (hS.lentAt 0 rfl) fid fcap (hf.up (G.le_refl))) (fun w1 G1 r1 hres1 hpost1=>?_)
 have hle1:=hres1.le
 obtain ⟨rfl,hr1,hf1⟩:=hpost1
 have hS2:=hS.callRow 0 rfl hres1 hvl hr1 hf1
 refine WL.eqlS (idxF pf l) (-1) rfl rfl rfl (fun h1=>?_) (fun h1=>?_)
 ·exact RT hS2 rfl ⟨_,Row.cast hr1 (by first | exact idx_none (by assumption) | (rw [(by assumption : i1 = (dS pf l n0 k1).2)]; exact dS_end hy0 hp0 hq0 (by assumption) (by assumption) (by omega))),hS2.rowOut 0 rfl⟩
 obtain ⟨n0,hn0,y0,hy0,hp0,hq0⟩:=idx_nat (by assumption : idxF pf l ≠ -1)
 have hnl0:=(List.getElem?_eq_some_iff.1 hy0).1
 have hbd0:=hvl.bound
 refine set1 (d:=5) (congrArg (Value.int .i64) hn0) ?_
 refine WL.incr n0 (by have hreach : reach = 140737488355328:=rfl; omega) rfl rfl rfl ?_
 refine LP.go ft [] (fun m ρ1 w1=>∃ (k1 : Nat),∃ (i1 : Nat),∃ (v1 : Value) (o1 : OB),∃ (G2 : GH),m = l.length - k1 ∧ G1.le G2 ∧ St w (blk ol) G G2 [o1] w1 ∧ Row (ValE.slice 32) 24 36 G2 v1 ((dS pf l n0 k1).1) o1 ∧ FR ρ1 [(0,v1),(1, .func (.func fid) #[] fcap),(5, .int .i64 (i1 : Int)),(6, .int .i64 (k1 : Int))] ∧ k1 ≤ l.length ∧ n0 + 1 ≤ k1 ∧ i1 = (dS pf l n0 k1).2) _ ⟨n0 + 1,n0,vl,ol,G1,rfl,(G1.le_refl),hS2,(Row.cast hr1 (by (rw [dS_0]))),⟨rfl,rfl,rfl,rfl,trivial⟩,(by omega),(by omega),(by rw [dS_0])⟩ ?_
 rintro m ρ1 w2 ⟨k1,i1,v1,o1,G2,rfl,hle2,hS3,hr2,hF9,f1,f2,f3⟩
 refine hF9.set ?_
 clear hF9
 have hI9:=dS_inv hy0 hp0 hq0 k1 (by assumption) (by assumption)
 have hI1:=hI9.len
 have hI2:=hI9.lt
 have bd1:=hr2.bound
 refine WL.lenRow hr2 ul56 rfl rfl ?_
 refine WL.lssS (k1 : Int) ((((dS pf l n0 k1).1).length : Nat) : Int) rfl rfl rfl (fun h2=>?_) (fun h2=>?_)
 ·refine WL.indexAddrRow hr2 k1 (by first | omega | (simp only [List.length_append,List.length_take,List.length_replicate]; omega)) ul56 ti36 rfl rfl rfl rfl (fun p1 x1 ec1 hx1 hr3 ra1=>?_)
  obtain ⟨v2,rfl,hs1⟩:=hr3
  refine WL.loadR1' ra1 hS3 0 rfl _ rfl ti36 rfl rfl rfl ?_
  have hlk9:=dS_mem hy0 hp0 hq0 (by assumption : n0 + 1 ≤ k1) (by omega) (by assumption : (dS pf l n0 k1).1[k1]? = some _)
  refine WL.cV hS3 hf.body rfl rfl rfl (hf.call _ _ v2 x1 (hle1.trans hle2) hS3.imm (List.mem_of_getElem? hlk9) hs1) (fun w3 G3 hS4 hle3=>?_)
  refine WL.split (fun (h3 : (pf x1) = true)=>?_) (fun (h3 : (pf x1) = false)=>?_)
  ·refine WL.incr k1 (by have hreach : reach = 140737488355328:=rfl; omega) rfl rfl rfl ?_
   exact BK.mk' _ ⟨k1 + 1,i1,v1,o1,G3,rfl,(hle2.trans hle3),hS4,(Row.cast (hr2.mono hle3) (by (first | rw [dS_yes (n:=n0) (k:=k1) (by assumption) hlk9 (by assumption)] | rw [dS_no (n:=n0) (k:=k1) (by assumption) hlk9 (by assumption),(by assumption : i1 = (dS pf l n0 k1).2)]))),⟨rfl,rfl,rfl,rfl,trivial⟩,(by omega),(by omega),(by first | (rw [dS_yes (n:=n0) (k:=k1) (by assumption) hlk9 (by assumption)]; assumption) | (rw [dS_no (n:=n0) (k:=k1) (by assumption) hlk9 (by assumption),(by assumption : i1 = (dS pf l n0 k1).2)]))⟩ (show l.length - (k1 + 1) < l.length - k1 by omega)
  refine WL.indexAddrRow (hr2.mono hle3) i1 (by first | omega | (simp only [List.length_append,List.length_take,List.length_replicate]; omega)) ul56 ti36 rfl rfl rfl rfl (fun p2 x2 ec2 hx2 hr4 ra2=>?_)
  obtain ⟨v3,rfl,hs2⟩:=hr4
  refine WL.storeR0 (hr2.mono hle3) ra2 hS4 0 rfl (by omega) rfl 0 _ [v2] x1 [v2] (hs1.mono hle3).cells1 ti36 rfl (Nat.le_of_ble_eq_true rfl) (by simp only [List.all_cons,List.all_nil,(hs1.mono hle3).oneC,Bool.true_and] <;> rfl) rfl ⟨_,rfl,(hs1.mono hle3)⟩ rfl rfl rfl rfl (fun o2 w4 hr5 hS5=>?_)
  refine WL.incr i1 (by have hreach : reach = 140737488355328:=rfl; omega) rfl rfl rfl ?_
  refine WL.incr k1 (by have hreach : reach = 140737488355328:=rfl; omega) rfl rfl rfl ?_
  exact BK.mk' _ ⟨k1 + 1,i1 + 1,v1,o2,G3,rfl,(hle2.trans hle3),hS5,(Row.cast hr5 (by (first | rw [dS_yes (n:=n0) (k:=k1) (by assumption) hlk9 (by assumption)] | rw [dS_no (n:=n0) (k:=k1) (by assumption) hlk9 (by assumption),(by assumption : i1 = (dS pf l n0 k1).2)]))),⟨rfl,rfl,rfl,rfl,trivial⟩,(by omega),(by omega),(by first | (rw [dS_yes (n:=n0) (k:=k1) (by assumption) hlk9 (by assumption)]; assumption) | (rw [dS_no (n:=n0) (k:=k1) (by assumption) hlk9 (by assumption),(by assumption : i1 = (dS pf l n0 k1).2)]))⟩ (show l.length - (k1 + 1) < l.length - k1 by omega)
 refine WL.sliceTail hr2 i1 (by first | omega | (simp only [List.length_append,List.length_take,List.length_replicate]; omega)) ul56 ti36 rfl rfl rfl rfl (fun v4 hr6=>?_)
 refine WL.clearTail hr2 hr6 rfl hS3 0 rfl (.slice none 0 0) [] ul56 ti36 rfl rfl rfl ⟨.slice none 0 0,rfl,Sl.nil _ _ _⟩ rfl rfl (fun o3 w5 hr7 hS6=>?_)
 refine WL.sliceHead hr7 i1 (by first | omega | (simp only [List.length_append,List.length_take,List.length_replicate]; omega)) ul56 ti36 rfl rfl rfl rfl (fun v5 hr8=>?_)
 exact RT hS6 rfl ⟨_,Row.cast hr8 (by first | exact idx_none (by assumption) | (rw [(by assumption : i1 = (dS pf l n0 k1).2)]; exact dS_end hy0 hp0 hq0 (by assumption) (by assumption) (by omega))),hS6.rowOut 0 rfl⟩
theorem c_und1 {G : GH} {w : World} (hG : G.In w) (x : HRow) (v : List Val) (p : Span) (cx : List Value) (hcx : HRowE.rep G x cx) (vv : Value) (hvv : Sl ValE 32 G vv v) (pv : Addr) (hpv : Cells G pv [vv]) (pd : Addr) (hpd : Cells G pd [.int .i64 p.a, .int .i64 p.b]) : CL Tryz.prog (nat_lit 59) #[.agg cx.toArray, .pointer (some pv), .pointer (some pd)] [] w G fun _ _ r=>r = .bool (thereB v p x):=by
 refine calls_of_go ft [] Tryz.func59 rfl rfl ?_
 have hS:=St.start (X:=[]) hG
 obtain ⟨v1,rfl,hs1,hb1,hb2,hb3,hb4⟩:=HRowE_open hcx
 refine WL.boxG [v1, .int .i64 x.r.d.a, .int .i64 x.r.d.b, .int .i64 x.r.x.a, .int .i64 x.r.x.b] _ hS rfl rfl rfl (fun p1 w1 G1 hle1 hsp1 hc1 hS1=>?_)
 refine WL.loadG1 hS1 (Cells.drop 0 hc1) ti36 rfl rfl rfl <| WL.loadG1 hS1 (hpv.mono hle1) ti36 rfl rfl rfl ?_
 refine WL.cV hS1 hb46 rfl rfl rfl (c_vSame hS1.imm x.v v _ (hs1.mono hle1) _ (hvv.mono hle1)) (fun w2 G2 hS2 hle2=>?_)
 refine WL.split (fun (h1 : (decide (x.v = v)) = true)=>?_) (fun (h1 : (decide (x.v = v)) = false)=>?_)
 ·refine WL.loadG1 hS2 (Cells.drop 1 (Cells.drop 2 (Cells.drop 1 (hc1.mono hle2)))) ti3 rfl rfl rfl ?_
  refine WL.eqlS x.r.x.b 253402300800 rfl rfl rfl (fun h2=>?_) (fun h2=>?_)
  ·refine WL.loadG1 hS2 (Cells.drop 0 (Cells.drop 0 (Cells.drop 1 (hc1.mono hle2)))) ti3 rfl rfl rfl <| WL.loadG1 hS2 (Cells.drop 1 (hpd.mono (hle1.trans hle2))) ti3 rfl rfl rfl ?_
   refine WL.lssS x.r.d.a p.b rfl rfl rfl (fun h3=>?_) (fun h3=>?_)
   ·refine WL.loadG1 hS2 (Cells.drop 0 (hpd.mono (hle1.trans hle2))) ti3 rfl rfl rfl <| WL.loadG1 hS2 (Cells.drop 1 (Cells.drop 0 (Cells.drop 1 (hc1.mono hle2)))) ti3 rfl rfl rfl <| WL.cmp .lss rfl .i64 p.a x.r.d.b rfl rfl rfl ?_
    exact RB hS2 rfl (by unfold thereB; simp_all [Cmp.b] <;> (first | omega | (intros; omega) | (rw [Bool.eq_iff_iff]; simp <;> omega) | (rw [Bool.eq_iff_iff]; simp_all <;> omega)))
   exact RB hS2 rfl (by unfold thereB; simp_all [Cmp.b] <;> (first | omega | (intros; omega) | (rw [Bool.eq_iff_iff]; simp <;> omega) | (rw [Bool.eq_iff_iff]; simp_all <;> omega)))
  exact RB hS2 rfl (by unfold thereB; simp_all [Cmp.b] <;> (first | omega | (intros; omega) | (rw [Bool.eq_iff_iff]; simp <;> omega) | (rw [Bool.eq_iff_iff]; simp_all <;> omega)))
 exact RB hS2 rfl (by unfold thereB; simp_all [Cmp.b] <;> (first | omega | (intros; omega) | (rw [Bool.eq_iff_iff]; simp <;> omega) | (rw [Bool.eq_iff_iff]; simp_all <;> omega)))
theorem c_und2 {G : GH} {w : World} (hG : G.In w) (l v : List Val) (i1 i2 i3 i4 : Int) (vl : Value) (hvl : Sl ValE 32 G vl l) (vv : Value) (hvv : Sl ValE 32 G vv v) (pr : Addr) (hpr : Cells G pr [vv, .int .i64 i1, .int .i64 i2, .int .i64 i3, .int .i64 i4]) : CL Tryz.prog (nat_lit 61) #[vl, .pointer (some pr)] [] w G fun _ _ r=>r = .bool (decide (l = v)):=by
 refine calls_of_go ft [] Tryz.func61 rfl rfl ?_
 have hS:=St.start (X:=[]) hG
 refine WL.loadG1 hS (Cells.drop 0 hpr) ti36 rfl rfl rfl ?_
 refine WL.cV hS hb46 rfl rfl rfl (c_vSame hS.imm l v _ hvl _ hvv) (fun w1 G1 hS1 hle1=>?_)
 exact RB hS1 rfl (by rfl)
end Go.Civ
