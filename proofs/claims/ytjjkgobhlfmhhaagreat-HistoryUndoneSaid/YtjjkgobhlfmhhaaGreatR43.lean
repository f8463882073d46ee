/- Lemmas: Wj4, Wm2. -/
import Derived.Test.YtjjkgobhlfmhhaaGreatR16
import Derived.Test.YtjjkgobhlfmhhaaGreatR29
import Derived.Test.YtjjkgobhlfmhhaaGreatR37
import Derived.Test.YtjjkgobhlfmhhaaGreatR41
import Derived.Test.YtjjkgobhlfmhhaaGreatR42
import Derived.Test.YtjjkgobhlfmhhaaGreatProg
import Derived.KernelRfl
import Derived.WalkKit
set_option linter.unusedVariables false
set_option linter.unusedSimpArgs false
set_option maxRecDepth 100000
set_option maxHeartbeats 4000000
namespace Go.Civ
open Go.Proofs
theorem c_vHolds {G : GH} {w : World} (hG : G.In w) (d : Nat) (c : Cond) (ns : List (List UInt8)) (l : List Val) (cc : List Value) (hcc : (CondE d).rep G c cc) (vn : Value) (hvn : Sl Enc.str 16 G vn ns) (vl : Value) (hvl : Sl ValE 32 G vl l) : CL Tryz.prog (nat_lit 53) #[.agg cc.toArray,vn,vl] [] w G fun _ _ r=>∃ r0 r1,r = .tuple #[r0,r1] ∧ r0 = .bool (hldB d c ns l) ∧ r1 = .int .i64 (hldE d c ns l):=by
 refine calls_of_go ft [] Tryz.func53 rfl rfl ?_
 have hS:=St.start (X:=[]) hG
 obtain ⟨lv1,rfl,hb1,hb2,hb3,hb4,hb5,hb6,ho1⟩:=CondE_open hcc
 refine WL.boxG [.int .i64 c.kind,strV c.col,strV c.oth, .int .i64 c.v.k, .int .i64 c.v.n,strV c.v.s,lv1] _ hS rfl rfl rfl (fun p1 w1 G1 hle1 hsp1 hc1 hS1=>?_)
 have bd1:=hvn.bound
 refine WL.lenSl (hvn.mono hle1) ul89 rfl rfl ?_
 have bd2:=hvl.bound
 refine WL.lenSl (hvl.mono hle1) ul36 rfl rfl ?_
 refine WL.neqS (ns.length : Int) (l.length : Int) rfl rfl rfl (fun h1=>?_) (fun h1=>?_)
 ·exact RT hS1 rfl ⟨_,_,rfl,(congrArg Value.bool (by exact (hld_no (by first | exact .inl (by omega) | exact .inr (.inl (by omega)) | exact .inr (.inr (by assumption)))).1.symm)),(congrArg (Value.int .i64) (by exact (hld_no (by first | exact .inl (by omega) | exact .inr (.inl (by omega)) | exact .inr (.inr (by assumption)))).2.symm))⟩
 have bd3:=hvn.bound
 refine WL.lenSl (hvn.mono hle1) ul89 rfl rfl ?_
 refine WL.gtrS (ns.length : Int) 100 rfl rfl rfl (fun h2=>?_) (fun h2=>?_)
 ·exact RT hS1 rfl ⟨_,_,rfl,(congrArg Value.bool (by exact (hld_no (by first | exact .inl (by omega) | exact .inr (.inl (by omega)) | exact .inr (.inr (by assumption)))).1.symm)),(congrArg (Value.int .i64) (by exact (hld_no (by first | exact .inl (by omega) | exact .inr (.inl (by omega)) | exact .inr (.inr (by assumption)))).2.symm))⟩
 refine WL.cV hS1 hb113 rfl rfl rfl (c_all hS1.imm l _ (hvl.mono hle1)) (fun w2 G2 hS2 hle2=>?_)
 refine WL.split (fun (h3 : (l.all valB) = true)=>?_) (fun (h3 : (l.all valB) = false)=>?_)
 ·have bd4:=hvn.bound
  refine WL.lenSl (hvn.mono (hle1.trans hle2)) ul89 rfl rfl ?_
  have hS4:=hS2.pad
  refine LP.go ft [] (fun m ρ1 w1=>∃ (k1 : Nat),∃ (v1 : Value) (o1 : OB),∃ (G3 : GH),m = ns.length - k1 ∧ G2.le G3 ∧ St w [] G G3 [o1] w1 ∧ Row ColE 24 86 G3 v1 (colsN ns l k1) o1 ∧ FR ρ1 [(2,vl),(3, .pointer (some p1)),(8,v1),(27,vn),(28, .int .i64 (ns.length : Int)),(29, .int .i64 (k1 : Int))] ∧ k1 ≤ ns.length) _ ⟨0,(.slice none 0 0),none,G2,rfl,(G2.le_refl),hS4,(Row.cast (Row.nil ColE 24 86 G2) (by simp [colsN])),⟨rfl,rfl,rfl,rfl,rfl,rfl,trivial⟩,(by omega)⟩ ?_
  rintro m ρ1 w3 ⟨k1,v1,o1,G3,rfl,hle3,hS3,hr1,hF9,f1⟩
  refine hF9.set ?_
  clear hF9
  have hcl8:=colsN_len ns l k1
  refine WL.lssS (k1 : Int) (ns.length : Int) rfl rfl rfl (fun h4=>?_) (fun h4=>?_)
  ·refine WL.indexAddr (hvn.mono ((hle1.trans hle2).trans hle3)) k1 (by omega) ul89 ti9 rfl rfl rfl rfl (fun p2 x1 hx1 he1=>?_)
   obtain ⟨cs1,hc2,hr2⟩:=he1
   obtain ⟨rfl,hb7⟩:=hr2
   refine WL.loadG1 hS3 hc2 ti9 rfl rfl rfl ?_
   refine WL.indexAddr (hvl.mono ((hle1.trans hle2).trans hle3)) k1 (by omega) ul36 ti48 rfl rfl rfl rfl (fun p3 x2 hx2 he2=>?_)
   obtain ⟨cs2,hc3,hr3⟩:=he2
   obtain ⟨rfl,hb8,hb9,hb10⟩:=ValE_open hr3
   refine WL.loadG1 hS3 (Cells.drop 0 hc3) ti3 rfl rfl rfl <| WL.build _ [(0,[strV x1]),(1,[.int .i64 x2.k])] [strV x1, .int .i64 x2.k] ti86 rfl fl86 rfl rfl rfl rfl ?_
   refine WL.buildSlice _ [(0,[strV x1, .int .i64 x2.k])] [strV x1, .int .i64 x2.k] hS3 sl22 rfl rfl rfl rfl (fun z hz=>by match z,hz with | [z0,z1],_=>rfl) (fun b1 w4 hn1 hS5=>?_)
   refine WL.push (m:=([(Col.mk x1 x2.k)] : List Col)) sl22 rfl rfl rfl hr1 hS5 1 rfl 0 _ _ _ _ _ rfl ⟨[strV x1, .int .i64 x2.k],_,rfl,(ColE_mk (Col.mk x1 x2.k) hb7 hb8),rfl⟩ rfl (by have hreach : reach = 140737488355328:=rfl; simp only [List.length_append,List.length_cons,List.length_nil]; omega) (by have hreach : reach = 140737488355328:=rfl; simp only [List.length_append,List.length_cons,List.length_nil]; omega) rfl rfl rfl (fun v2 o2 w5 hr4 hS6=>?_)
   have hS7:=hS6.tail
   refine WL.incr k1 (by have hreach : reach = 140737488355328:=rfl; omega) rfl rfl rfl ?_
   exact BK.mk' _ ⟨k1 + 1,v2,o2,G3,rfl,hle3,hS7,(Row.cast hr4 (by (exact (colsN_step (by assumption) (by assumption)).symm))),⟨rfl,rfl,rfl,rfl,rfl,rfl,trivial⟩,(by omega)⟩ (show ns.length - (k1 + 1) < ns.length - k1 by omega)
  have hcn9 : colsN ns l k1 = colsOf ns l:=colsN_all (by omega)
  refine WL.loadGAt hS3 (hc1.mono (hle2.trans hle3)) [.int .i64 c.kind,strV c.col,strV c.oth, .int .i64 c.v.k, .int .i64 c.v.n,strV c.v.s,lv1] ti51 rfl rfl rfl rfl rfl ?_
  obtain ⟨G4,hle4,hs1,hS8⟩:=Row.freeze hr1 hS3 0 rfl
  refine WL.cV hS8 hb28 rfl rfl rfl (c_Check hS8.imm _ c (colsN ns l k1) _ ((CondE _).mono (((hle1.trans hle2).trans hle3).trans hle4) hcc) _ hs1) (fun w6 G5 hS9 hle5=>?_)
  refine WL.neqS (checkF d c (colsN ns l k1)) 0 rfl rfl rfl (fun h5=>?_) (fun h5=>?_)
  ·exact RT hS9 rfl ⟨_,_,rfl,(congrArg Value.bool (by exact (hld_err' hcn9 (hld_g (by omega) (by omega) (by assumption)) (by assumption)).1.symm)),(congrArg (Value.int .i64) (by exact (hld_err' hcn9 (hld_g (by omega) (by omega) (by assumption)) (by assumption)).2.symm))⟩
  have hwt:=check_well (by assumption : checkF d c (colsN ns l k1) = 0)
  have hcl9 : l.length = (colsN ns l k1).length:=by rw [hcn9,colsOf_len (by omega)]
  refine WL.loadGAt hS9 (hc1.mono (((hle2.trans hle3).trans hle4).trans hle5)) [.int .i64 c.kind,strV c.col,strV c.oth, .int .i64 c.v.k, .int .i64 c.v.n,strV c.v.s,lv1] ti51 rfl rfl rfl rfl rfl ?_
  refine WL.cV hS9 hb114 rfl rfl rfl (c_meaning _ hS9.imm c (colsN ns l k1) l _ ((CondE _).mono ((((hle1.trans hle2).trans hle3).trans hle4).trans hle5) hcc) _ (hs1.mono hle5) _ (hvl.mono ((((hle1.trans hle2).trans hle3).trans hle4).trans hle5)) hwt.1 hwt.2 hcl9) (fun w7 G6 hS10 hle6=>?_)
  exact RT hS10 rfl ⟨_,_,rfl,(congrArg Value.bool (by exact (hld_ok' hcn9 (hld_g (by omega) (by omega) (by assumption)) (by assumption)).1.symm)),(congrArg (Value.int .i64) (by exact (hld_ok' hcn9 (hld_g (by omega) (by omega) (by assumption)) (by assumption)).2.symm))⟩
 exact RT hS2 rfl ⟨_,_,rfl,(congrArg Value.bool (by exact (hld_no (by first | exact .inl (by omega) | exact .inr (.inl (by omega)) | exact .inr (.inr (by assumption)))).1.symm)),(congrArg (Value.int .i64) (by exact (hld_no (by first | exact .inl (by omega) | exact .inr (.inl (by omega)) | exact .inr (.inr (by assumption)))).2.symm))⟩
end Go.Civ
set_option linter.unusedVariables false
set_option linter.unusedSimpArgs false
set_option maxRecDepth 100000
set_option maxHeartbeats 4000000
namespace Go.Civ
open Go.Proofs
theorem c_rTime {G : GH} {w : World} (hG : G.In w) (x : Int) : CL Tryz.prog (nat_lit 23) #[.int .i64 x] [] w G fun _ _ r=>r = .bool (instB x):=by
 refine calls_of_go ft [] Tryz.func23 rfl rfl ?_
 have hS:=St.start (X:=[]) hG
 refine WL.geqS x (-62135596800) rfl rfl rfl (fun h1=>?_) (fun h1=>?_)
 ·refine WL.cmp .lss rfl .i64 x 253402300800 rfl rfl rfl ?_
  exact RB hS rfl (by unfold instB; simp_all [Cmp.b] <;> (first | omega | (intros; omega) | (rw [Bool.eq_iff_iff]; simp <;> omega) | (rw [Bool.eq_iff_iff]; simp_all <;> omega)))
 exact RB hS rfl (by unfold instB; simp_all [Cmp.b] <;> (omega))
theorem c_rEqual {G : GH} {w : World} (hG : G.In w) (a b : List HRow) (va : Value) (hva : Sl HRowE 56 G va a) (vb : Value) (hvb : Sl HRowE 56 G vb b) : CL Tryz.prog (nat_lit 38) #[va,vb] [] w G fun _ _ r=>r = .bool (decide (a = b)):=by
 refine calls_of_go ft [7] Tryz.func38 rfl rfl ?_
 have hS:=St.start (X:=[]) hG
 have bd1:=hva.bound
 refine WL.lenSl hva ul26 rfl rfl ?_
 have bd2:=hvb.bound
 refine WL.lenSl hvb ul26 rfl rfl ?_
 refine WL.neqS (a.length : Int) (b.length : Int) rfl rfl rfl (fun h1=>?_) (fun h1=>?_)
 ·exact RB hS rfl (by rw [← eqF_eq]; first | exact (eqF_len (by omega)).symm | exact (eqF_no (f:=fun (x y : HRow)=>decide (x = y)) (by assumption) (by assumption) (decide_eq_false (by rintro rfl; first | exact absurd rfl (by assumption) | simp_all))).symm | exact (eqF_yes (by omega) (by assumption) (by omega)).symm)
 refine LP.go ft [7] (fun m ρ1 w1=>∃ (k1 : Nat),∃ (G1 : GH),m = a.length - k1 ∧ G.le G1 ∧ St w [] G G1 [] w1 ∧ FR ρ1 [(0,va),(1,vb),(5, .int .i64 (k1 : Int))] ∧ k1 ≤ a.length ∧ ∀ j,j < k1 → ∀ x y,a[j]? = some x → b[j]? = some y → decide (x = y) = true) _ ⟨0,G,rfl,(G.le_refl),hS,⟨rfl,rfl,rfl,trivial⟩,(by omega),(by intro j hj; omega)⟩ ?_
 rintro m ρ1 w1 ⟨k1,G1,rfl,hle1,hS1,hF9,f1,f2⟩
 refine hF9.set ?_
 clear hF9
 have bd3:=hva.bound
 refine WL.lenSl (hva.mono hle1) ul26 rfl rfl ?_
 refine WL.lssS (k1 : Int) (a.length : Int) rfl rfl rfl (fun h2=>?_) (fun h2=>?_)
 ·refine JN.go ft [7] (fun ρ1 w1=>∃ (x9 : HRow),∃ (y9 : HRow),∃ (q6 : Addr),∃ (q7 : Addr),∃ (u6 : Value),∃ (u7 : Value),∃ (G2 : GH),G1.le G2 ∧ St w [] G G2 [] w1 ∧ FR ρ1 [(0,va),(1,vb),(5, .int .i64 (k1 : Int)),(6, .pointer (some q6)),(7, .pointer (some q7))] ∧ a[k1]? = some x9 ∧ b[k1]? = some y9 ∧ Cells G2 q6 [u6, .int .i64 x9.r.d.a, .int .i64 x9.r.d.b, .int .i64 x9.r.x.a, .int .i64 x9.r.x.b] ∧ Sl ValE 32 G2 u6 x9.v ∧ Cells G2 q7 [u7, .int .i64 y9.r.d.a, .int .i64 y9.r.d.b, .int .i64 y9.r.x.a, .int .i64 y9.r.x.b] ∧ Sl ValE 32 G2 u7 y9.v) ?_ ?_
  ·obtain ⟨p1,x1,hx1,he1,ep1⟩:=Sl.at (hva.mono hle1) k1 (by omega)
   obtain ⟨cs1,hc1,hr1⟩:=he1
   obtain ⟨v1,rfl,hs1,hb1,hb2,hb3,hb4⟩:=HRowE_open hr1
   obtain ⟨p2,x2,hx2,he2,ep2⟩:=Sl.at (hvb.mono hle1) k1 (by omega)
   obtain ⟨cs2,hc2,hr2⟩:=he2
   obtain ⟨v2,rfl,hs2,hb5,hb6,hb7,hb8⟩:=HRowE_open hr2
   refine drT [8,9,10,11] [(21, .pointer (some p1)),(22, .agg #[v1, .int .i64 x1.r.d.a, .int .i64 x1.r.d.b, .int .i64 x1.r.x.a, .int .i64 x1.r.x.b]),(25, .pointer (some p2)),(26, .agg #[v2, .int .i64 x2.r.d.a, .int .i64 x2.r.d.b, .int .i64 x2.r.x.a, .int .i64 x2.r.x.b])] hS1 ⟨fun _=>WL.indexAddrP k1 ep1 ul26 ti64 rfl rfl rfl rfl <| nu rfl rfl,fun _ hSw=>WL.loadGAt hSw hc1 [v1, .int .i64 x1.r.d.a, .int .i64 x1.r.d.b, .int .i64 x1.r.x.a, .int .i64 x1.r.x.b] ti64 rfl rfl rfl rfl rfl <| nu rfl rfl,fun _=>WL.indexAddrP k1 ep2 ul26 ti64 rfl rfl rfl rfl <| nu rfl rfl,fun _ hSw=>WL.loadGAt hSw hc2 [v2, .int .i64 x2.r.d.a, .int .i64 x2.r.d.b, .int .i64 x2.r.x.a, .int .i64 x2.r.x.b] ti64 rfl rfl rfl rfl rfl <| nu rfl rfl,trivial⟩ (fun w3 hS3=>?_)
   refine TG.fork 3 [8,9,10,11] [8,9] rfl rfl (by decide) (by decide) (TA.cons rfl ?_ (TA.cons rfl ?_ TA.nil))
   ·refine WL.alloc hS3 ti64 rfl rfl (fun b1 w4 hn1 hS4=>?_)
    refine ⟨fun _=>hS4.tail.down hS3.le (G1.le_refl),?_⟩
    refine TG.fork 2 [9,10,11] [9] rfl rfl (by decide) (by decide) (TA.cons rfl ?_ TA.nil)
    refine WL.alloc hS4 ti64 rfl rfl (fun b2 w5 hn2 hS5=>?_)
    refine ⟨fun _=>hS5.tail.tail.down hS3.le (G1.le_refl),?_⟩
    refine TG.fork 1 [10,11] [10] rfl rfl (by decide) (by decide) (TA.cons rfl ?_ TA.nil)
    refine WL.store hS5 1 _ _ _ 0 _ [v1, .int .i64 x1.r.d.a, .int .i64 x1.r.d.b, .int .i64 x1.r.x.a, .int .i64 x1.r.x.b] [v1, .int .i64 x1.r.d.a, .int .i64 x1.r.d.b, .int .i64 x1.r.x.a, .int .i64 x1.r.x.b] _ rfl rfl ti64 rfl (Nat.le_of_ble_eq_true rfl) (by simp only [List.all_cons,List.all_nil,hs1.oneC,Bool.true_and] <;> rfl) rfl rfl rfl rfl rfl (fun w6 hS6=>?_)
    obtain ⟨G3,hle3,hc3,hS7⟩:=hS6.sealAt 1 rfl hn1
    refine ⟨fun _=>hS7.tail.tail.down hS3.le hle3,?_⟩
    refine TG.fork 0 [11] [11] rfl rfl (by decide) (by decide) (TA.cons rfl ?_ TA.nil)
    refine WL.store hS7 0 _ _ _ 0 _ [v2, .int .i64 x2.r.d.a, .int .i64 x2.r.d.b, .int .i64 x2.r.x.a, .int .i64 x2.r.x.b] [v2, .int .i64 x2.r.d.a, .int .i64 x2.r.d.b, .int .i64 x2.r.x.a, .int .i64 x2.r.x.b] _ rfl rfl ti64 rfl (Nat.le_of_ble_eq_true rfl) (by simp only [List.all_cons,List.all_nil,(hs2.mono hle3).oneC,Bool.true_and] <;> rfl) rfl rfl rfl rfl rfl (fun w7 hS8=>?_)
    obtain ⟨G4,hle4,hc4,hS9⟩:=hS8.shutB hn2
    refine ⟨fun h=>absurd h (by decide),?_⟩
    refine TG.fin rfl ?_
    have hS10:=hS9.tail
    exact ⟨x1,x2,(⟨b1,0,none⟩ : Addr),(⟨b2,0,none⟩ : Addr),v1,v2,G4,(hle3.trans hle4),hS10,⟨rfl,rfl,rfl,rfl,rfl,trivial⟩,(hx1),(hx2),((hc3.mono hle4)),((hs1.mono (hle3.trans hle4))),(hc4),((hs2.mono (hle3.trans hle4)))⟩
   refine WL.alloc hS3 ti64 rfl rfl (fun b3 w9 hn3 hS11=>?_)
   refine ⟨fun _=>hS11.tail.down hS3.le (G1.le_refl),?_⟩
   refine TG.fork 2 [8,10,11] [8] rfl rfl (by decide) (by decide) (TA.cons rfl ?_ TA.nil)
   refine WL.alloc hS11 ti64 rfl rfl (fun b4 w10 hn4 hS12=>?_)
   refine ⟨fun _=>hS12.tail.tail.down hS3.le (G1.le_refl),?_⟩
   refine TG.fork 1 [10,11] [10] rfl rfl (by decide) (by decide) (TA.cons rfl ?_ TA.nil)
   refine WL.store hS12 0 _ _ _ 0 _ [v1, .int .i64 x1.r.d.a, .int .i64 x1.r.d.b, .int .i64 x1.r.x.a, .int .i64 x1.r.x.b] [v1, .int .i64 x1.r.d.a, .int .i64 x1.r.d.b, .int .i64 x1.r.x.a, .int .i64 x1.r.x.b] _ rfl rfl ti64 rfl (Nat.le_of_ble_eq_true rfl) (by simp only [List.all_cons,List.all_nil,hs1.oneC,Bool.true_and] <;> rfl) rfl rfl rfl rfl rfl (fun w11 hS13=>?_)
   obtain ⟨G5,hle5,hc5,hS14⟩:=hS13.shutB hn4
   refine ⟨fun _=>hS14.tail.down hS3.le hle5,?_⟩
   refine TG.fork 0 [11] [11] rfl rfl (by decide) (by decide) (TA.cons rfl ?_ TA.nil)
   refine WL.store hS14 0 _ _ _ 0 _ [v2, .int .i64 x2.r.d.a, .int .i64 x2.r.d.b, .int .i64 x2.r.x.a, .int .i64 x2.r.x.b] [v2, .int .i64 x2.r.d.a, .int .i64 x2.r.d.b, .int .i64 x2.r.x.a, .int .i64 x2.r.x.b] _ rfl rfl ti64 rfl (Nat.le_of_ble_eq_true rfl) (by simp only [List.all_cons,List.all_nil,(hs2.mono hle5).oneC,Bool.true_and] <;> rfl) rfl rfl rfl rfl rfl (fun w12 hS15=>?_)
   obtain ⟨G6,hle6,hc6,hS16⟩:=hS15.shutB hn3
   refine ⟨fun h=>absurd h (by decide),?_⟩
   refine TG.fin rfl ?_
   exact ⟨x1,x2,(⟨b4,0,none⟩ : Addr),(⟨b3,0,none⟩ : Addr),v1,v2,G6,(hle5.trans hle6),hS16,⟨rfl,rfl,rfl,rfl,rfl,trivial⟩,(hx1),(hx2),((hc5.mono hle6)),((hs1.mono (hle5.trans hle6))),(hc6),((hs2.mono (hle5.trans hle6)))⟩
  rintro ρ1 w2 ⟨x9,y9,q6,q7,u6,u7,G2,hle2,hS2,hF9,f3,f4,f5,f6,f7,f8⟩
  refine hF9.set ?_
  refine WL.loadG1 hS2 (Cells.drop 0 f5) ti36 rfl rfl rfl <| WL.loadG1 hS2 (Cells.drop 0 f7) ti36 rfl rfl rfl ?_
  refine WL.cV hS2 hb103 rfl rfl rfl (c_Same hS2.imm x9.v y9.v _ f6 _ f8) (fun w13 G7 hS17 hle7=>?_)
  refine WL.split (fun (h3 : (decide (x9.v = y9.v)) = true)=>?_) (fun (h3 : (decide (x9.v = y9.v)) = false)=>?_)
  ·refine WL.loadG1 hS17 (Cells.drop 0 (Cells.drop 0 (Cells.drop 1 (f5.mono hle7)))) ti3 rfl rfl rfl <| WL.loadG1 hS17 (Cells.drop 0 (Cells.drop 0 (Cells.drop 1 (f7.mono hle7)))) ti3 rfl rfl rfl ?_
   refine WL.neqS x9.r.d.a y9.r.d.a rfl rfl rfl (fun h4=>?_) (fun h4=>?_)
   ·exact RB hS17 rfl (by rw [← eqF_eq]; first | exact (eqF_len (by omega)).symm | exact (eqF_no (f:=fun (x y : HRow)=>decide (x = y)) (by assumption) (by assumption) (decide_eq_false (by rintro rfl; first | exact absurd rfl (by assumption) | simp_all))).symm | exact (eqF_yes (by omega) (by assumption) (by omega)).symm)
   refine WL.loadG1 hS17 (Cells.drop 1 (Cells.drop 0 (Cells.drop 1 (f5.mono hle7)))) ti3 rfl rfl rfl <| WL.loadG1 hS17 (Cells.drop 1 (Cells.drop 0 (Cells.drop 1 (f7.mono hle7)))) ti3 rfl rfl rfl ?_
   refine WL.neqS x9.r.d.b y9.r.d.b rfl rfl rfl (fun h5=>?_) (fun h5=>?_)
   ·exact RB hS17 rfl (by rw [← eqF_eq]; first | exact (eqF_len (by omega)).symm | exact (eqF_no (f:=fun (x y : HRow)=>decide (x = y)) (by assumption) (by assumption) (decide_eq_false (by rintro rfl; first | exact absurd rfl (by assumption) | simp_all))).symm | exact (eqF_yes (by omega) (by assumption) (by omega)).symm)
   refine WL.loadG1 hS17 (Cells.drop 0 (Cells.drop 2 (Cells.drop 1 (f5.mono hle7)))) ti3 rfl rfl rfl <| WL.loadG1 hS17 (Cells.drop 0 (Cells.drop 2 (Cells.drop 1 (f7.mono hle7)))) ti3 rfl rfl rfl ?_
   refine WL.neqS x9.r.x.a y9.r.x.a rfl rfl rfl (fun h6=>?_) (fun h6=>?_)
   ·exact RB hS17 rfl (by rw [← eqF_eq]; first | exact (eqF_len (by omega)).symm | exact (eqF_no (f:=fun (x y : HRow)=>decide (x = y)) (by assumption) (by assumption) (decide_eq_false (by rintro rfl; first | exact absurd rfl (by assumption) | simp_all))).symm | exact (eqF_yes (by omega) (by assumption) (by omega)).symm)
   refine WL.loadG1 hS17 (Cells.drop 1 (Cells.drop 2 (Cells.drop 1 (f5.mono hle7)))) ti3 rfl rfl rfl <| WL.loadG1 hS17 (Cells.drop 1 (Cells.drop 2 (Cells.drop 1 (f7.mono hle7)))) ti3 rfl rfl rfl ?_
   refine WL.neqS x9.r.x.b y9.r.x.b rfl rfl rfl (fun h7=>?_) (fun h7=>?_)
   ·exact RB hS17 rfl (by rw [← eqF_eq]; first | exact (eqF_len (by omega)).symm | exact (eqF_no (f:=fun (x y : HRow)=>decide (x = y)) (by assumption) (by assumption) (decide_eq_false (by rintro rfl; first | exact absurd rfl (by assumption) | simp_all))).symm | exact (eqF_yes (by omega) (by assumption) (by omega)).symm)
   refine WL.incr k1 (by have hreach : reach = 140737488355328:=rfl; omega) rfl rfl rfl ?_
   exact BK.mk' _ ⟨k1 + 1,G7,rfl,(hle1.trans (hle2.trans hle7)),hS17,⟨rfl,rfl,rfl,trivial⟩,(by omega),(by exact lt_step2 (by assumption) (by assumption) (by assumption) (decide_eq_true (hrow_ext (by assumption) (by assumption) (by assumption) (by assumption) (by assumption))))⟩ (show a.length - (k1 + 1) < a.length - k1 by omega)
  exact RB hS17 rfl (by rw [← eqF_eq]; first | exact (eqF_len (by omega)).symm | exact (eqF_no (f:=fun (x y : HRow)=>decide (x = y)) (by assumption) (by assumption) (decide_eq_false (by rintro rfl; first | exact absurd rfl (by assumption) | simp_all))).symm | exact (eqF_yes (by omega) (by assumption) (by omega)).symm)
 exact RB hS1 rfl (by rw [← eqF_eq]; first | exact (eqF_len (by omega)).symm | exact (eqF_no (f:=fun (x y : HRow)=>decide (x = y)) (by assumption) (by assumption) (decide_eq_false (by rintro rfl; first | exact absurd rfl (by assumption) | simp_all))).symm | exact (eqF_yes (by omega) (by assumption) (by omega)).symm)
end Go.Civ
