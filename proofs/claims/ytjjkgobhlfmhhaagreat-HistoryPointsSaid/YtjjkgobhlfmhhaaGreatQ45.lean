/- Lemmas: Wj4, Wm2, Wm3, Wm4, Wn0, Wn2. -/
import Derived.Test.YtjjkgobhlfmhhaaGreatQ17
import Derived.Test.YtjjkgobhlfmhhaaGreatQ29
import Derived.Test.YtjjkgobhlfmhhaaGreatQ40
import Derived.Test.YtjjkgobhlfmhhaaGreatQ42
import Derived.Test.YtjjkgobhlfmhhaaGreatQ43
import Derived.Test.YtjjkgobhlfmhhaaGreatQ44
import Derived.Test.YtjjkgobhlfmhhaaGreatProg
import Derived.KernelRfl
import Derived.WalkKit
set_option linter.unusedVariables false
set_option linter.unusedSimpArgs false
set_option maxRecDepth 100000
set_option maxHeartbeats 4000000
namespace Go.Civ
open Go.Proofs
theorem c_vHolds {G : GH} {w : World} (hG : G.In w) (d : Nat) (c : Cond) (ns : List (List UInt8)) (l : List Val) (cc : List Value) (hcc : (CondE d).rep G c cc) (vn : Value) (hvn : Sl Enc.str 16 G vn ns) (vl : Value) (hvl : Sl ValE 32 G vl l) : CL Tryz.prog (nat_lit 53) #[.agg cc.toArray,vn,vl] [] w G fun _ _ r=>∃ r0 r1,r = .tuple #[r0,r1] ∧ r0 = .bool (hldB d c ns l) ∧ r1 = .int .i64 (hldE d c ns l):=by
 refine calls_of_go ft [] Tryz.func53 rfl rfl ?_
 have hS:=St.start (X:=[]) hG
 obtain ⟨lv1,rfl,hb1,hb2,hb3,hb4,hb5,hb6,ho1⟩:=CondE_open hcc
 refine WL.boxG [.int .i64 c.kind,strV c.col,strV c.oth, .int .i64 c.v.k, .int .i64 c.v.n,strV c.v.s,lv1] _ hS rfl rfl rfl (fun p1 w1 G1 hle1 hsp1 hc1 hS1=>?_)
 have bd1:=hvn.bound
 refine WL.lenSl (hvn.mono hle1) ul89 rfl rfl ?_
 have bd2:=hvl.bound
 refine WL.lenSl (hvl.mono hle1) ul36 rfl rfl ?_
 refine WL.neqS (ns.length : Int) (l.length : Int) rfl rfl rfl (fun h1=>?_) (fun h1=>?_)
 ·exact RT hS1 rfl ⟨_,_,rfl,(congrArg Value.bool (by exact (hld_no (by first | exact .inl (by omega) | exact .inr (.inl (by omega)) | exact .inr (.inr (by assumption)))).1.symm)),(congrArg (Value.int .i64) (by exact (hld_no (by first | exact .inl (by omega) | exact .inr (.inl (by omega)) | exact .inr (.inr (by assumption)))).2.symm))⟩
 have bd3:=hvn.bound
 refine WL.lenSl (hvn.mono hle1) ul89 rfl rfl ?_
 refine WL.gtrS (ns.length : Int) 100 rfl rfl rfl (fun h2=>?_) (fun h2=>?_)
 ·exact RT hS1 rfl ⟨_,_,rfl,(congrArg Value.bool (by exact (hld_no (by first | exact .inl (by omega) | exact .inr (.inl (by omega)) | exact .inr (.inr (by assumption)))).1.symm)),(congrArg (Value.int .i64) (by exact (hld_no (by first | exact .inl (by omega) | exact .inr (.inl (by omega)) | exact .inr (.inr (by assumption)))).2.symm))⟩
 refine WL.cV hS1 hb113 rfl rfl rfl (c_all hS1.imm l _ (hvl.mono hle1)) (fun w2 G2 hS2 hle2=>?_)
 refine WL.split (fun (h3 : (l.all valB) = true)=>?_) (fun (h3 : (l.all valB) = false)=>?_)
 ·have bd4:=hvn.bound
  refine WL.lenSl (hvn.mono (hle1.trans hle2)) ul89 rfl rfl ?_
  have hS4:=hS2.pad
  refine LP.go ft [] (fun m ρ1 w1=>∃ (k1 : Nat),∃ (v1 : Value) (o1 : OB),∃ (G3 : GH),m = ns.length - k1 ∧ G2.le G3 ∧ St w [] G G3 [o1] w1 ∧ Row ColE 24 86 G3 v1 (colsN ns l k1) o1 ∧ FR ρ1 [(2,vl),(3, .pointer (some p1)),(8,v1),(27,vn),(28, .int .i64 (ns.length : Int)),(29, .int .i64 (k1 : Int))] ∧ k1 ≤ ns.length) _ ⟨0,(.slice none 0 0),none,G2,rfl,(G2.le_refl),hS4,(Row.cast (Row.nil ColE 24 86 G2) (by simp [colsN])),⟨rfl,rfl,rfl,rfl,rfl,rfl,trivial⟩,(by omega)⟩ ?_
  rintro m ρ1 w3 ⟨k1,v1,o1,G3,rfl,hle3,hS3,hr1,hF9,f1⟩
  refine hF9.set ?_
  clear hF9
  have hcl8:=colsN_len ns l k1
  refine WL.lssS (k1 : Int) (ns.length : Int) rfl rfl rfl (fun h4=>?_) (fun h4=>?_)
  ·refine WL.indexAddr (hvn.mono ((hle1.trans hle2).trans hle3)) k1 (by omega) ul89 ti9 rfl rfl rfl rfl (fun p2 x1 hx1 he1=>?_)
   obtain ⟨cs1,hc2,hr2⟩:=he1
   obtain ⟨rfl,hb7⟩:=hr2
   refine WL.loadG1 hS3 hc2 ti9 rfl rfl rfl ?_
   refine WL.indexAddr (hvl.mono ((hle1.trans hle2).trans hle3)) k1 (by omega) ul36 ti48 rfl rfl rfl rfl (fun p3 x2 hx2 he2=>?_)
   obtain ⟨cs2,hc3,hr3⟩:=he2
   obtain ⟨rfl,hb8,hb9,hb10⟩:=ValE_open hr3
   refine WL.loadG1 hS3 (Cells.drop 0 hc3) ti3 rfl rfl rfl <| WL.build _ [(0,[strV x1]),(1,[.int .i64 x2.k])] [strV x1, .int .i64 x2.k] ti86 rfl fl86 rfl rfl rfl rfl ?_
   refine WL.buildSlice _ [(0,[strV x1, .int .i64 x2.k])] [strV x1, .int .i64 x2.k] hS3 sl22 rfl rfl rfl rfl (fun z hz=>by match z,hz with | [z0,z1],_=>rfl) (fun b1 w4 hn1 hS5=>?_)
   refine WL.push (m:=([(Col.mk x1 x2.k)] : List Col)) sl22 rfl rfl rfl hr1 hS5 1 rfl 0 _ _ _ _ _ rfl ⟨[strV x1, .int .i64 x2.k],_,rfl,(ColE_mk (Col.mk x1 x2.k) hb7 hb8),rfl⟩ rfl (by have hreach : reach = 140737488355328:=rfl; simp only [List.length_append,List.length_cons,List.length_nil]; omega) (by have hreach : reach = 140737488355328:=rfl; simp only [List.length_append,List.length_cons,List.length_nil]; omega) rfl rfl rfl (fun v2 o2 w5 hr4 hS6=>?_)
   have hS7:=hS6.tail
   refine WL.incr k1 (by have hreach : reach = 140737488355328:=rfl; omega) rfl rfl rfl ?_
   exact BK.mk' _ ⟨k1 + 1,v2,o2,G3,rfl,hle3,hS7,(Row.cast hr4 (by (exact (colsN_step (by assumption) (by assumption)).symm))),⟨rfl,rfl,rfl,rfl,rfl,rfl,trivial⟩,(by omega)⟩ (show ns.length - (k1 + 1) < ns.length - k1 by omega)
  have hcn9 : colsN ns l k1 = colsOf ns l:=colsN_all (by omega)
  refine WL.loadGAt hS3 (hc1.mono (hle2.trans hle3)) [.int .i64 c.kind,strV c.col,strV c.oth, .int .i64 c.v.k, .int .i64 c.v.n,strV c.v.s,lv1] ti51 rfl rfl rfl rfl rfl ?_
  obtain ⟨G4,hle4,hs1,hS8⟩:=Row.freeze hr1 hS3 0 rfl
  refine WL.cV hS8 hb28 rfl rfl rfl (c_Check hS8.imm _ c (colsN ns l k1) _ ((CondE _).mono (((hle1.trans hle2).trans hle3).trans hle4) hcc) _ hs1) (fun w6 G5 hS9 hle5=>?_)
  refine WL.neqS (checkF d c (colsN ns l k1)) 0 rfl rfl rfl (fun h5=>?_) (fun h5=>?_)
  ·exact RT hS9 rfl ⟨_,_,rfl,(congrArg Value.bool (by exact (hld_err' hcn9 (hld_g (by omega) (by omega) (by assumption)) (by assumption)).1.symm)),(congrArg (Value.int .i64) (by exact (hld_err' hcn9 (hld_g (by omega) (by omega) (by assumption)) (by assumption)).2.symm))⟩
  have hwt:=check_well (by assumption : checkF d c (colsN ns l k1) = 0)
  have hcl9 : l.length = (colsN ns l k1).length:=by rw [hcn9,colsOf_len (by omega)]
  refine WL.loadGAt hS9 (hc1.mono (((hle2.trans hle3).trans hle4).trans hle5)) [.int .i64 c.kind,strV c.col,strV c.oth, .int .i64 c.v.k, .int .i64 c.v.n,strV c.v.s,lv1] ti51 rfl rfl rfl rfl rfl ?_
  refine WL.cV hS9 hb114 rfl rfl rfl (c_meaning _ hS9.imm c (colsN ns l k1) l _ ((CondE _).mono ((((hle1.trans hle2).trans hle3).trans hle4).trans hle5) hcc) _ (hs1.mono hle5) _ (hvl.mono ((((hle1.trans hle2).trans hle3).trans hle4).trans hle5)) hwt.1 hwt.2 hcl9) (fun w7 G6 hS10 hle6=>?_)
  exact RT hS10 rfl ⟨_,_,rfl,(congrArg Value.bool (by exact (hld_ok' hcn9 (hld_g (by omega) (by omega) (by assumption)) (by assumption)).1.symm)),(congrArg (Value.int .i64) (by exact (hld_ok' hcn9 (hld_g (by omega) (by omega) (by assumption)) (by assumption)).2.symm))⟩
 exact RT hS2 rfl ⟨_,_,rfl,(congrArg Value.bool (by exact (hld_no (by first | exact .inl (by omega) | exact .inr (.inl (by omega)) | exact .inr (.inr (by assumption)))).1.symm)),(congrArg (Value.int .i64) (by exact (hld_no (by first | exact .inl (by omega) | exact .inr (.inl (by omega)) | exact .inr (.inr (by assumption)))).2.symm))⟩
end Go.Civ
set_option linter.unusedVariables false
set_option linter.unusedSimpArgs false
set_option maxRecDepth 100000
set_option maxHeartbeats 4000000
namespace Go.Civ
open Go.Proofs
theorem c_rTime {G : GH} {w : World} (hG : G.In w) (x : Int) : CL Tryz.prog (nat_lit 23) #[.int .i64 x] [] w G fun _ _ r=>r = .bool (instB x):=by
 refine calls_of_go ft [] Tryz.func23 rfl rfl ?_
 have hS:=St.start (X:=[]) hG
 refine WL.geqS x (-62135596800) rfl rfl rfl (fun h1=>?_) (fun h1=>?_)
 ·refine WL.cmp .lss rfl .i64 x 253402300800 rfl rfl rfl ?_
  exact RB hS rfl (by unfold instB; simp_all [Cmp.b] <;> (first | omega | (intros; omega) | (rw [Bool.eq_iff_iff]; simp <;> omega) | (rw [Bool.eq_iff_iff]; simp_all <;> omega)))
 exact RB hS rfl (by unfold instB; simp_all [Cmp.b] <;> (omega))
end Go.Civ
set_option linter.unusedVariables false
set_option linter.unusedSimpArgs false
set_option maxRecDepth 100000
set_option maxHeartbeats 4000000
namespace Go.Civ
open Go.Proofs
theorem c_great1 {G : GH} {w : World} (hG : G.In w) (x : HRow) (cx : List Value) (hcx : HRowE.rep G x cx) : CL Tryz.prog (nat_lit 63) #[.agg cx.toArray] [] w G fun _ _ r=>r = .bool (longB x):=by
 refine calls_of_go ft [] Tryz.func63 rfl rfl ?_
 have hS:=St.start (X:=[]) hG
 obtain ⟨v1,rfl,hs1,hb1,hb2,hb3,hb4⟩:=HRowE_open hcx
 refine WL.boxG [v1, .int .i64 x.r.d.a, .int .i64 x.r.d.b, .int .i64 x.r.x.a, .int .i64 x.r.x.b] _ hS rfl rfl rfl (fun p1 w1 G1 hle1 hsp1 hc1 hS1=>?_)
 refine WL.loadG1 hS1 (Cells.drop 0 hc1) ti36 rfl rfl rfl ?_
 have bd1:=hs1.bound
 refine WL.lenSl (hs1.mono hle1) ul36 rfl rfl <| WL.cmp .gtr rfl .i64 (x.v.length : Int) 8 rfl rfl rfl ?_
 exact RB hS1 rfl (by rfl)
theorem c_great {G : GH} {w : World} (hG : G.In w) (l : List HRow) (vl : Value) (hvl : Sl HRowE 56 G vl l) : CL Tryz.prog (nat_lit 14) #[vl] [] w G fun _ _ r=>r = .bool (greatH l):=by
 refine calls_of_go ft [] Tryz.func14 rfl rfl ?_
 have hS:=St.start (X:=[]) hG
 have bd1:=hvl.bound
 refine WL.lenSl hvl ul26 rfl rfl ?_
 refine WL.gtrS (l.length : Int) 24 rfl rfl rfl (fun h1=>?_) (fun h1=>?_)
 ·exact RB hS rfl (by exact great_1 (by assumption))
 refine WL.cV hS hb34 rfl rfl rfl (c_ContainsR hS.imm l (fun x8=>longB x8) _ hvl 63 #[] ⟨hb63,fun G8 w8 v8 x8 hle8 hG8 hon8 hA8=>by obtain ⟨cs_x8,rfl,hr_x8⟩:=hA8; exact c_great1 hG8 x8 cs_x8 hr_x8⟩) (fun w1 G1 hS1 hle1=>?_)
 exact RB hS1 rfl (by exact great_2 (by omega))
theorem c_column {G : GH} {w : World} (hG : G.In w) : CL Tryz.prog (nat_lit 62) #[] [] w G fun G' _ r=>Is SchemaE G' r colT:=by
 refine calls_of_goR ft [] Tryz.func62 rfl rfl ?_
 have hS:=St.start (X:=[]) hG
 refine WL.alloc hS ti25 rfl rfl (fun b1 w1 hn1 hS1=>?_)
 refine WL.build _ [(0,[strV [97]]),(1,[.int .i64 1])] [strV [97], .int .i64 1] ti86 rfl fl86 rfl rfl rfl rfl ?_
 refine WL.buildSlice _ [(0,[strV [97], .int .i64 1])] [strV [97], .int .i64 1] hS1 sl22 rfl rfl rfl rfl (fun z hz=>by match z,hz with | [z0,z1],_=>rfl) (fun b2 w2 hn2 hS2=>?_)
 obtain ⟨G1,hle1,hs1,hS3⟩:=St.sealSl (E:=ColE) (by_:=24) (l:=([(Col.mk [97] 1)] : List Col)) hS2 hn2 ⟨[strV [97], .int .i64 1],_,rfl,(ColE_mk (Col.mk [97] 1) (by simp [reach]) (show I64 1 from by constructor <;> decide)),rfl⟩ rfl (by simp [reach]) (by simp [reach])
 refine WL.build _ [(0,[strV [116]]),(1,[.slice (some ⟨b2,0,none⟩) 1 1]),(2,[.int .i64 1])] [strV [116], .slice (some ⟨b2,0,none⟩) 1 1, .int .i64 1, .slice none 0 0] ti25 rfl fl25 rfl rfl rfl rfl ?_
 refine WL.store hS3 0 _ _ _ 0 _ [strV [116], .slice (some ⟨b2,0,none⟩) 1 1, .int .i64 1, .slice none 0 0] [strV [116], .slice (some ⟨b2,0,none⟩) 1 1, .int .i64 1, .slice none 0 0] _ rfl rfl ti25 rfl (Nat.le_of_ble_eq_true rfl) (by simp only [List.all_cons,List.all_nil,hs1.oneC,Bool.true_and] <;> rfl) rfl rfl rfl rfl rfl (fun w3 hS4=>?_)
 obtain ⟨G2,hle2,hc1,hS5⟩:=hS4.shutB hn1
 exact RTR [.agg #[strV [116], .slice (some ⟨b2,0,none⟩) 1 1, .int .i64 1, .slice none 0 0]] hS5 ⟨_,_,_,rfl,rfl,hS5.loadC hc1 ti25 rfl rfl,rfl⟩ (Is.cast ⟨_,rfl,(SchemaE_mk (Schema.mk [116] [(Col.mk [97] 1)] 1 []) (by simp [reach]) (hs1.mono hle2) (show I64 1 from by constructor <;> decide) (Sl.nil ForeignE 40 G2))⟩ (by rfl))
end Go.Civ
set_option linter.unusedVariables false
set_option linter.unusedSimpArgs false
set_option maxRecDepth 100000
set_option maxHeartbeats 4000000
namespace Go.Civ
open Go.Proofs
theorem c_EqualLL {G : GH} {w : World} (hG : G.In w) (a b : List (List Val)) (pf : (List Val) → (List Val) → Bool) (va : Value) (hva : Sl (ValE.slice 32) 24 G va a) (vb : Value) (hvb : Sl (ValE.slice 32) 24 G vb b) (fid : Nat) (fcap : Array Value) (hf : FnB2 Tryz.prog (Sl ValE 32) (Sl ValE 32) fid fcap G (fun x y=>x ∈ a ∧ y ∈ b) pf) : CL Tryz.prog (nat_lit 95) #[va,vb, .func (.func fid) #[] fcap] [] w G fun _ _ r=>r = .bool (eqF pf a b):=by
 refine calls_of_go ft [] Tryz.func95 rfl rfl ?_
 have hS:=St.start (X:=[]) hG
 have bd1:=hva.bound
 refine WL.lenSl hva ul56 rfl rfl ?_
 have bd2:=hvb.bound
 refine WL.lenSl hvb ul56 rfl rfl ?_
 refine WL.neqS (a.length : Int) (b.length : Int) rfl rfl rfl (fun h1=>?_) (fun h1=>?_)
 ·exact RB hS rfl (by exact (eqF_len (by omega)).symm)
 have bd3:=hva.bound
 refine WL.lenSl hva ul56 rfl rfl ?_
 refine LP.go ft [] (fun m ρ1 w1=>∃ (k1 : Nat),∃ (G1 : GH),m = a.length - k1 ∧ G.le G1 ∧ St w [] G G1 [] w1 ∧ FR ρ1 [(1,vb),(2, .func (.func fid) #[] fcap),(15,va),(16, .int .i64 (a.length : Int)),(17, .int .i64 (k1 : Int))] ∧ k1 ≤ a.length ∧ ∀ j,j < k1 → ∀ x y,a[j]? = some x → b[j]? = some y → pf x y = true) _ ⟨0,G,rfl,(G.le_refl),hS,⟨rfl,rfl,rfl,rfl,rfl,trivial⟩,(by omega),(by intro j hj; omega)⟩ ?_
 rintro m ρ1 w1 ⟨k1,G1,rfl,hle1,hS1,hF9,f1,f2⟩
 refine hF9.set ?_
 clear hF9
 refine WL.lssS (k1 : Int) (a.length : Int) rfl rfl rfl (fun h2=>?_) (fun h2=>?_)
 ·refine WL.indexAddr (hva.mono hle1) k1 (by omega) ul56 ti36 rfl rfl rfl rfl (fun p1 x1 hx1 he1=>?_)
  obtain ⟨cs1,hc1,hr1⟩:=he1
  obtain ⟨v1,rfl,hs1⟩:=hr1
  refine WL.loadG1 hS1 hc1 ti36 rfl rfl rfl ?_
  refine WL.indexAddr (hvb.mono hle1) k1 (by omega) ul56 ti36 rfl rfl rfl rfl (fun p2 x2 hx2 he2=>?_)
  obtain ⟨cs2,hc2,hr2⟩:=he2
  obtain ⟨v2,rfl,hs2⟩:=hr2
  refine WL.loadG1 hS1 hc2 ti36 rfl rfl rfl ?_
  refine WL.cV hS1 hf.body rfl rfl rfl (hf.call _ _ v1 v2 x1 x2 hle1 hS1.imm ⟨(List.mem_of_getElem? hx1),(List.mem_of_getElem? hx2)⟩ hs1 hs2) (fun w2 G2 hS2 hle2=>?_)
  refine WL.split (fun (h3 : (pf x1 x2) = true)=>?_) (fun (h3 : (pf x1 x2) = false)=>?_)
  ·refine WL.incr k1 (by have hreach : reach = 140737488355328:=rfl; omega) rfl rfl rfl ?_
   exact BK.mk' _ ⟨k1 + 1,G2,rfl,(hle1.trans hle2),hS2,⟨rfl,rfl,rfl,rfl,rfl,trivial⟩,(by omega),(by exact lt_step2 (by assumption) (by assumption) (by assumption) (by simp_all))⟩ (show a.length - (k1 + 1) < a.length - k1 by omega)
  exact RB hS2 rfl (by exact (eqF_no (by assumption) (by assumption) (by simp_all)).symm)
 exact RB hS1 rfl (by exact (eqF_yes (by omega) (by assumption) (by omega)).symm)
theorem c_lsame {G : GH} {w : World} (hG : G.In w) (a b : VV) (va : Value) (hva : Sl (ValE.slice 32) 24 G va a) (vb : Value) (hvb : Sl (ValE.slice 32) 24 G vb b) : CL Tryz.prog (nat_lit 32) #[va,vb] [] w G fun _ _ r=>r = .bool (decide (a = b)):=by
 refine calls_of_go ft [] Tryz.func32 rfl rfl ?_
 have hS:=St.start (X:=[]) hG
 refine WL.cV hS hb95 rfl rfl rfl (c_EqualLL hS.imm a b (fun x8 y8=>decide (x8 = y8)) _ hva _ hvb 46 #[] ⟨hb46,fun G8 w8 v8 u8 x8 y8 hle8 hG8 hon8 hA8 hB8=>by exact c_vSame hG8 x8 y8 v8 hA8 u8 hB8⟩) (fun w1 G1 hS1 hle1=>?_)
 exact RB hS1 rfl (by exact eqF_eq)
end Go.Civ
