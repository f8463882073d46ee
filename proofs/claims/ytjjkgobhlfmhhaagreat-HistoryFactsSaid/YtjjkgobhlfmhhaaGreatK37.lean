/- Lemmas: Wj4, Wl0. -/
import Derived.Test.YtjjkgobhlfmhhaaGreatK20
import Derived.Test.YtjjkgobhlfmhhaaGreatK27
import Derived.Test.YtjjkgobhlfmhhaaGreatK32
import Derived.Test.YtjjkgobhlfmhhaaGreatK35
import Derived.Test.YtjjkgobhlfmhhaaGreatK36
import Derived.Test.YtjjkgobhlfmhhaaGreatProg
import Derived.KernelRfl
import Derived.WalkKit
set_option linter.unusedVariables false
set_option linter.unusedSimpArgs false
set_option maxRecDepth 100000
set_option maxHeartbeats 4000000
namespace Go.Civ
open Go.Proofs
theorem c_vHolds {G : GH} {w : World} (hG : G.In w) (d : Nat) (c : Cond) (ns : List (List UInt8)) (l : List Val) (cc : List Value) (hcc : (CondE d).rep G c cc) (vn : Value) (hvn : Sl Enc.str 16 G vn ns) (vl : Value) (hvl : Sl ValE 32 G vl l) : CL Tryz.prog (nat_lit 53) #[.agg cc.toArray,vn,vl] [] w G fun _ _ r=>∃ r0 r1,r = .tuple #[r0,r1] ∧ r0 = .bool (hldB d c ns l) ∧ r1 = .int .i64 (hldE d c ns l):=by
 refine calls_of_go ft [] Tryz.func53 rfl rfl ?_
 have hS:=St.start (X:=[]) hG
 obtain ⟨lv1,rfl,hb1,hb2,hb3,hb4,hb5,hb6,ho1⟩:=CondE_open hcc
 refine WL.boxG [.int .i64 c.kind,strV c.col,strV c.oth, .int .i64 c.v.k, .int .i64 c.v.n,strV c.v.s,lv1] _ hS rfl rfl rfl (fun p1 w1 G1 hle1 hsp1 hc1 hS1=>?_)
 have bd1:=hvn.bound
 refine WL.lenSl (hvn.mono hle1) ul89 rfl rfl ?_
 have bd2:=hvl.bound
 refine WL.lenSl (hvl.mono hle1) ul36 rfl rfl ?_
 refine WL.neqS (ns.length : Int) (l.length : Int) rfl rfl rfl (fun h1=>?_) (fun h1=>?_)
 ·exact RT hS1 rfl ⟨_,_,rfl,(congrArg Value.bool (by exact (hld_no (by first | exact .inl (by omega) | exact .inr (.inl (by omega)) | exact .inr (.inr (by assumption)))).1.symm)),(congrArg (Value.int .i64) (by exact (hld_no (by first | exact .inl (by omega) | exact .inr (.inl (by omega)) | exact .inr (.inr (by assumption)))).2.symm))⟩
 have bd3:=hvn.bound
 refine WL.lenSl (hvn.mono hle1) ul89 rfl rfl ?_
 refine WL.gtrS (ns.length : Int) 100 rfl rfl rfl (fun h2=>?_) (fun h2=>?_)
 ·exact RT hS1 rfl ⟨_,_,rfl,(congrArg Value.bool (by exact (hld_no (by first | exact .inl (by omega) | exact .inr (.inl (by omega)) | exact .inr (.inr (by assumption)))).1.symm)),(congrArg (Value.int .i64) (by exact (hld_no (by first | exact .inl (by omega) | exact .inr (.inl (by omega)) | exact .inr (.inr (by assumption)))).2.symm))⟩
 refine WL.cV hS1 hb113 rfl rfl rfl (c_all hS1.imm l _ (hvl.mono hle1)) (fun w2 G2 hS2 hle2=>?_)
 refine WL.split (fun (h3 : (l.all valB) = true)=>?_) (fun (h3 : (l.all valB) = false)=>?_)
 ·have bd4:=hvn.bound
  refine WL.lenSl (hvn.mono (hle1.trans hle2)) ul89 rfl rfl ?_
  have hS4:=hS2.pad
  refine LP.go ft [] (fun m ρ1 w1=>∃ (k1 : Nat),∃ (v1 : Value) (o1 : OB),∃ (G3 : GH),m = ns.length - k1 ∧ G2.le G3 ∧ St w [] G G3 [o1] w1 ∧ Row ColE 24 86 G3 v1 (colsN ns l k1) o1 ∧ FR ρ1 [(2,vl),(3, .pointer (some p1)),(8,v1),(27,vn),(28, .int .i64 (ns.length : Int)),(29, .int .i64 (k1 : Int))] ∧ k1 ≤ ns.length) _ ⟨0,(.slice none 0 0),none,G2,rfl,(G2.le_refl),hS4,(Row.cast (Row.nil ColE 24 86 G2) (by simp [colsN])),⟨rfl,rfl,rfl,rfl,rfl,rfl,trivial⟩,(by omega)⟩ ?_
  rintro m ρ1 w3 ⟨k1,v1,o1,G3,rfl,hle3,hS3,hr1,hF9,f1⟩
  refine hF9.set ?_
  clear hF9
  have hcl8:=colsN_len ns l k1
  refine WL.lssS (k1 : Int) (ns.length : Int) rfl rfl rfl (fun h4=>?_) (fun h4=>?_)
  ·refine WL.indexAddr (hvn.mono ((hle1.trans hle2).trans hle3)) k1 (by omega) ul89 ti9 rfl rfl rfl rfl (fun p2 x1 hx1 he1=>?_)
   obtain ⟨cs1,hc2,hr2⟩:=he1
   obtain ⟨rfl,hb7⟩:=hr2
   refine WL.loadG1 hS3 hc2 ti9 rfl rfl rfl ?_
   refine WL.indexAddr (hvl.mono ((hle1.trans hle2).trans hle3)) k1 (by omega) ul36 ti48 rfl rfl rfl rfl (fun p3 x2 hx2 he2=>?_)
   obtain ⟨cs2,hc3,hr3⟩:=he2
   obtain ⟨rfl,hb8,hb9,hb10⟩:=ValE_open hr3
   refine WL.loadG1 hS3 (Cells.drop 0 hc3) ti3 rfl rfl rfl <| WL.build _ [(0,[strV x1]),(1,[.int .i64 x2.k])] [strV x1, .int .i64 x2.k] ti86 rfl fl86 rfl rfl rfl rfl ?_
   refine WL.buildSlice _ [(0,[strV x1, .int .i64 x2.k])] [strV x1, .int .i64 x2.k] hS3 sl22 rfl rfl rfl rfl (fun z hz=>by match z,hz with | [z0,z1],_=>rfl) (fun b1 w4 hn1 hS5=>?_)
   refine WL.push (m:=([(Col.mk x1 x2.k)] : List Col)) sl22 rfl rfl rfl hr1 hS5 1 rfl 0 _ _ _ _ _ rfl ⟨[strV x1, .int .i64 x2.k],_,rfl,(ColE_mk (Col.mk x1 x2.k) hb7 hb8),rfl⟩ rfl (by have hreach : reach = 140737488355328:=rfl; simp only [List.length_append,List.length_cons,List.length_nil]; omega) (by have hreach : reach = 140737488355328:=rfl; simp only [List.length_append,List.length_cons,List.length_nil]; omega) rfl rfl rfl (fun v2 o2 w5 hr4 hS6=>?_)
   have hS7:=hS6.tail
   refine WL.incr k1 (by have hreach : reach = 140737488355328:=rfl; omega) rfl rfl rfl ?_
   exact BK.mk' _ ⟨k1 + 1,v2,o2,G3,rfl,hle3,hS7,(Row.cast hr4 (by (exact (colsN_step (by assumption) (by assumption)).symm))),⟨rfl,rfl,rfl,rfl,rfl,rfl,trivial⟩,(by omega)⟩ (show ns.length - (k1 + 1) < ns.length - k1 by omega)
  have hcn9 : colsN ns l k1 = colsOf ns l:=colsN_all (by omega)
  refine WL.loadGAt hS3 (hc1.mono (hle2.trans hle3)) [.int .i64 c.kind,strV c.col,strV c.oth, .int .i64 c.v.k, .int .i64 c.v.n,strV c.v.s,lv1] ti51 rfl rfl rfl rfl rfl ?_
  obtain ⟨G4,hle4,hs1,hS8⟩:=Row.freeze hr1 hS3 0 rfl
  refine WL.cV hS8 hb28 rfl rfl rfl (c_Check hS8.imm _ c (colsN ns l k1) _ ((CondE _).mono (((hle1.trans hle2).trans hle3).trans hle4) hcc) _ hs1) (fun w6 G5 hS9 hle5=>?_)
  refine WL.neqS (checkF d c (colsN ns l k1)) 0 rfl rfl rfl (fun h5=>?_) (fun h5=>?_)
  ·exact RT hS9 rfl ⟨_,_,rfl,(congrArg Value.bool (by exact (hld_err' hcn9 (hld_g (by omega) (by omega) (by assumption)) (by assumption)).1.symm)),(congrArg (Value.int .i64) (by exact (hld_err' hcn9 (hld_g (by omega) (by omega) (by assumption)) (by assumption)).2.symm))⟩
  have hwt:=check_well (by assumption : checkF d c (colsN ns l k1) = 0)
  have hcl9 : l.length = (colsN ns l k1).length:=by rw [hcn9,colsOf_len (by omega)]
  refine WL.loadGAt hS9 (hc1.mono (((hle2.trans hle3).trans hle4).trans hle5)) [.int .i64 c.kind,strV c.col,strV c.oth, .int .i64 c.v.k, .int .i64 c.v.n,strV c.v.s,lv1] ti51 rfl rfl rfl rfl rfl ?_
  refine WL.cV hS9 hb114 rfl rfl rfl (c_meaning _ hS9.imm c (colsN ns l k1) l _ ((CondE _).mono ((((hle1.trans hle2).trans hle3).trans hle4).trans hle5) hcc) _ (hs1.mono hle5) _ (hvl.mono ((((hle1.trans hle2).trans hle3).trans hle4).trans hle5)) hwt.1 hwt.2 hcl9) (fun w7 G6 hS10 hle6=>?_)
  exact RT hS10 rfl ⟨_,_,rfl,(congrArg Value.bool (by exact (hld_ok' hcn9 (hld_g (by omega) (by omega) (by assumption)) (by assumption)).1.symm)),(congrArg (Value.int .i64) (by exact (hld_ok' hcn9 (hld_g (by omega) (by omega) (by assumption)) (by assumption)).2.symm))⟩
 exact RT hS2 rfl ⟨_,_,rfl,(congrArg Value.bool (by exact (hld_no (by first | exact .inl (by omega) | exact .inr (.inl (by omega)) | exact .inr (.inr (by assumption)))).1.symm)),(congrArg (Value.int .i64) (by exact (hld_no (by first | exact .inl (by omega) | exact .inr (.inl (by omega)) | exact .inr (.inr (by assumption)))).2.symm))⟩
theorem c_rHolds {G : GH} {w : World} (hG : G.In w) (d : Nat) (c : Cond) (ns : List (List UInt8)) (l : List Val) (cc : List Value) (hcc : (CondE d).rep G c cc) (vn : Value) (hvn : Sl Enc.str 16 G vn ns) (vl : Value) (hvl : Sl ValE 32 G vl l) : CL Tryz.prog (nat_lit 129) #[.agg cc.toArray,vn,vl] [] w G fun _ _ r=>∃ r0 r1,r = .tuple #[r0,r1] ∧ r0 = .bool (hldB d c ns l) ∧ r1 = .int .i64 (hldE d c ns l):=by
 refine calls_of_go ft [] Tryz.func129 rfl rfl ?_
 have hS:=St.start (X:=[]) hG
 obtain ⟨lv1,rfl,hb1,hb2,hb3,hb4,hb5,hb6,ho1⟩:=CondE_open hcc
 refine WL.boxG [.int .i64 c.kind,strV c.col,strV c.oth, .int .i64 c.v.k, .int .i64 c.v.n,strV c.v.s,lv1] _ hS rfl rfl rfl (fun p1 w1 G1 hle1 hsp1 hc1 hS1=>?_)
 have bd1:=hvn.bound
 refine WL.lenSl (hvn.mono hle1) ul89 rfl rfl ?_
 have bd2:=hvl.bound
 refine WL.lenSl (hvl.mono hle1) ul36 rfl rfl ?_
 refine WL.neqS (ns.length : Int) (l.length : Int) rfl rfl rfl (fun h1=>?_) (fun h1=>?_)
 ·exact RT hS1 rfl ⟨_,_,rfl,(congrArg Value.bool (by exact (hld_no (by first | exact .inl (by omega) | exact .inr (.inl (by omega)) | exact .inr (.inr (by assumption)))).1.symm)),(congrArg (Value.int .i64) (by exact (hld_no (by first | exact .inl (by omega) | exact .inr (.inl (by omega)) | exact .inr (.inr (by assumption)))).2.symm))⟩
 have bd3:=hvn.bound
 refine WL.lenSl (hvn.mono hle1) ul89 rfl rfl ?_
 refine WL.gtrS (ns.length : Int) 100 rfl rfl rfl (fun h2=>?_) (fun h2=>?_)
 ·exact RT hS1 rfl ⟨_,_,rfl,(congrArg Value.bool (by exact (hld_no (by first | exact .inl (by omega) | exact .inr (.inl (by omega)) | exact .inr (.inr (by assumption)))).1.symm)),(congrArg (Value.int .i64) (by exact (hld_no (by first | exact .inl (by omega) | exact .inr (.inl (by omega)) | exact .inr (.inr (by assumption)))).2.symm))⟩
 refine WL.cV hS1 hb166 rfl rfl rfl (c_rAll hS1.imm l _ (hvl.mono hle1)) (fun w2 G2 hS2 hle2=>?_)
 refine WL.split (fun (h3 : (l.all valB) = true)=>?_) (fun (h3 : (l.all valB) = false)=>?_)
 ·have hS4:=hS2.pad
  refine LP.go ft [] (fun m ρ1 w1=>∃ (k1 : Nat),∃ (v1 : Value) (o1 : OB),∃ (G3 : GH),m = l.length - k1 ∧ G2.le G3 ∧ St w [] G G3 [o1] w1 ∧ Row ColE 24 86 G3 v1 (colsN ns l k1) o1 ∧ FR ρ1 [(1,vn),(2,vl),(3, .pointer (some p1)),(8,v1),(9, .int .i64 (k1 : Int))] ∧ k1 ≤ l.length) _ ⟨0,(.slice none 0 0),none,G2,rfl,(G2.le_refl),hS4,(Row.cast (Row.nil ColE 24 86 G2) (by simp [colsN])),⟨rfl,rfl,rfl,rfl,rfl,trivial⟩,(by omega)⟩ ?_
  rintro m ρ1 w3 ⟨k1,v1,o1,G3,rfl,hle3,hS3,hr1,hF9,f1⟩
  refine hF9.set ?_
  clear hF9
  have hcl8:=colsN_len ns l k1
  have bd4:=hvl.bound
  refine WL.lenSl (hvl.mono ((hle1.trans hle2).trans hle3)) ul36 rfl rfl ?_
  refine WL.lssS (k1 : Int) (l.length : Int) rfl rfl rfl (fun h4=>?_) (fun h4=>?_)
  ·obtain ⟨p2,x1,hx1,he1,ep1⟩:=Sl.at (hvn.mono ((hle1.trans hle2).trans hle3)) k1 (by omega)
   obtain ⟨cs1,hc2,hr2⟩:=he1
   obtain ⟨rfl,hb7⟩:=hr2
   obtain ⟨p3,x2,hx2,he2,ep2⟩:=Sl.at (hvl.mono ((hle1.trans hle2).trans hle3)) k1 (by omega)
   obtain ⟨cs2,hc3,hr3⟩:=he2
   obtain ⟨rfl,hb8,hb9,hb10⟩:=ValE_open hr3
   refine dr [(11,false),(12,false),(13,false)] [(35, .pointer (some p2)),(36,strV x1),(39, .pointer (some p3)),(41, .int .i64 x2.k),(42, .agg #[strV x1, .int .i64 x2.k])] hS3 ⟨fun _=>WL.indexAddrP k1 ep1 ul89 ti9 rfl rfl rfl rfl <| nu rfl rfl,fun _ hSw=>WL.loadG1 hSw hc2 ti9 rfl rfl rfl <| nu rfl rfl,fun _=>WL.indexAddrP k1 ep2 ul36 ti48 rfl rfl rfl rfl <| nu rfl rfl,fun _ hSw=>WL.loadG1 hSw (Cells.drop 0 hc3) ti3 rfl rfl rfl <| nu rfl rfl,fun _=>WL.build _ [(0,[strV x1]),(1,[.int .i64 x2.k])] [strV x1, .int .i64 x2.k] ti86 rfl fl86 rfl rfl rfl rfl <| nu rfl rfl,trivial⟩ (fun w4 hS5=>?_)
   refine WL.buildSlice _ [(0,[strV x1, .int .i64 x2.k])] [strV x1, .int .i64 x2.k] hS5 sl22 rfl rfl rfl rfl (fun z hz=>by match z,hz with | [z0,z1],_=>rfl) (fun b1 w5 hn1 hS6=>?_)
   refine WL.push (m:=([(Col.mk x1 x2.k)] : List Col)) sl22 rfl rfl rfl hr1 hS6 1 rfl 0 _ _ _ _ _ rfl ⟨[strV x1, .int .i64 x2.k],_,rfl,(ColE_mk (Col.mk x1 x2.k) hb7 hb8),rfl⟩ rfl (by have hreach : reach = 140737488355328:=rfl; simp only [List.length_append,List.length_cons,List.length_nil]; omega) (by have hreach : reach = 140737488355328:=rfl; simp only [List.length_append,List.length_cons,List.length_nil]; omega) rfl rfl rfl (fun v2 o2 w6 hr4 hS7=>?_)
   have hS8:=hS7.tail
   refine WL.incr k1 (by have hreach : reach = 140737488355328:=rfl; omega) rfl rfl rfl ?_
   exact BK.mk' _ ⟨k1 + 1,v2,o2,G3,rfl,hle3,hS8,(Row.cast hr4 (by (exact (colsN_step (by assumption) (by assumption)).symm))),⟨rfl,rfl,rfl,rfl,rfl,trivial⟩,(by omega)⟩ (show l.length - (k1 + 1) < l.length - k1 by omega)
  have hcn9 : colsN ns l k1 = colsOf ns l:=colsN_all (by omega)
  refine WL.loadGAt hS3 (hc1.mono (hle2.trans hle3)) [.int .i64 c.kind,strV c.col,strV c.oth, .int .i64 c.v.k, .int .i64 c.v.n,strV c.v.s,lv1] ti51 rfl rfl rfl rfl rfl ?_
  obtain ⟨G4,hle4,hs1,hS9⟩:=Row.freeze hr1 hS3 0 rfl
  refine WL.cV hS9 hb167 rfl rfl rfl (c_rCheck33 hS9.imm _ c (colsN ns l k1) _ ((CondE _).mono (((hle1.trans hle2).trans hle3).trans hle4) hcc) _ hs1) (fun w7 G5 hS10 hle5=>?_)
  refine WL.neqS (checkF d c (colsN ns l k1)) 0 rfl rfl rfl (fun h5=>?_) (fun h5=>?_)
  ·exact RT hS10 rfl ⟨_,_,rfl,(congrArg Value.bool (by exact (hld_err' hcn9 (hld_g (by omega) (by omega) (by assumption)) (by assumption)).1.symm)),(congrArg (Value.int .i64) (by exact (hld_err' hcn9 (hld_g (by omega) (by omega) (by assumption)) (by assumption)).2.symm))⟩
  have hwt:=check_well (by assumption : checkF d c (colsN ns l k1) = 0)
  have hcl9 : l.length = (colsN ns l k1).length:=by rw [hcn9,colsOf_len (by omega)]
  refine WL.loadGAt hS10 (hc1.mono (((hle2.trans hle3).trans hle4).trans hle5)) [.int .i64 c.kind,strV c.col,strV c.oth, .int .i64 c.v.k, .int .i64 c.v.n,strV c.v.s,lv1] ti51 rfl rfl rfl rfl rfl ?_
  refine WL.cV hS10 hb168 rfl rfl rfl (c_rMeaning _ hS10.imm c (colsN ns l k1) l _ ((CondE _).mono ((((hle1.trans hle2).trans hle3).trans hle4).trans hle5) hcc) _ (hs1.mono hle5) _ (hvl.mono ((((hle1.trans hle2).trans hle3).trans hle4).trans hle5)) hwt.1 hwt.2 hcl9) (fun w9 G6 hS11 hle6=>?_)
  exact RT hS11 rfl ⟨_,_,rfl,(congrArg Value.bool (by exact (hld_ok' hcn9 (hld_g (by omega) (by omega) (by assumption)) (by assumption)).1.symm)),(congrArg (Value.int .i64) (by exact (hld_ok' hcn9 (hld_g (by omega) (by omega) (by assumption)) (by assumption)).2.symm))⟩
 exact RT hS2 rfl ⟨_,_,rfl,(congrArg Value.bool (by exact (hld_no (by first | exact .inl (by omega) | exact .inr (.inl (by omega)) | exact .inr (.inr (by assumption)))).1.symm)),(congrArg (Value.int .i64) (by exact (hld_no (by first | exact .inl (by omega) | exact .inr (.inl (by omega)) | exact .inr (.inr (by assumption)))).2.symm))⟩
end Go.Civ
set_option linter.unusedVariables false
set_option linter.unusedSimpArgs false
set_option maxRecDepth 100000
set_option maxHeartbeats 4000000
namespace Go.Civ
open Go.Proofs
theorem c_Snapshot {G : GH} {w : World} (hG : G.In w) (t : Table) (at_ tx : Int) (ct : List Value) (hct : TableE.rep G t ct) : CL Tryz.prog (nat_lit 31) #[.agg ct.toArray, .int .i64 at_, .int .i64 tx] [] w G fun G' _ r=>Sl (ValE.slice 32) 24 G' r (snapH t at_ tx):=by
 refine calls_of_go ft [] Tryz.func31 rfl rfl ?_
 have hS:=St.start (X:=[]) hG
 obtain ⟨v1,v2,v3,rfl,hb1,hs1,hb2,hs2,hs3,hb3⟩:=TableE_open hct
 refine WL.boxG [strV t.s.name,v1, .int .i64 t.s.key,v2,v3, .int .i64 t.last] _ hS rfl rfl rfl (fun p1 w1 G1 hle1 hsp1 hc1 hS1=>?_)
 refine WL.loadGAt hS1 hc1 [strV t.s.name,v1, .int .i64 t.s.key,v2,v3, .int .i64 t.last] ti28 rfl rfl rfl rfl rfl ?_
 refine WL.cV hS1 hb15 rfl rfl rfl (c_hValid hS1.imm t _ (TableE_mk t hb1 (hs1.mono hle1) hb2 (hs2.mono hle1) (hs3.mono hle1) hb3)) (fun w2 G2 hS2 hle2=>?_)
 refine WL.split (fun (h1 : (validT t) = true)=>?_) (fun (h1 : (validT t) = false)=>?_)
 ·refine WL.cV hS2 hb91 rfl rfl rfl (c_instant hS2.imm at_) (fun w3 G3 hS3 hle3=>?_)
  refine WL.split (fun (h2 : (instB at_) = true)=>?_) (fun (h2 : (instB at_) = false)=>?_)
  ·refine WL.cV hS3 hb91 rfl rfl rfl (c_instant hS3.imm tx) (fun w4 G4 hS4 hle4=>?_)
   refine WL.split (fun (h3 : (instB tx) = true)=>?_) (fun (h3 : (instB tx) = false)=>?_)
   ·obtain ⟨hg9,hn9,h89,_⟩:=validT_good (by assumption : validT t = true)
    have hgl:=@grpH_len t.rows
    refine WL.loadG1 hS4 (Cells.drop 4 (hc1.mono ((hle2.trans hle3).trans hle4))) ti26 rfl rfl rfl ?_
    refine WL.cA hS4 hb92 rfl rfl rfl (c_groups hS4.imm t.rows _ (hs3.mono (((hle1.trans hle2).trans hle3).trans hle4)) hg9 (le1000 h89) (Nat.le_trans hn9 (by decide))) (fun w5 G5 r1 hpost1 hS5 hle5=>?_)
    have bd1:=hpost1.bound
    refine WL.lenSl hpost1 ul125 rfl rfl ?_
    have hS7:=hS5.pad
    refine LP.go ft [] (fun m ρ1 w1=>∃ (k1 : Nat),∃ (v4 : Value) (o1 : OB),∃ (G6 : GH),m = (grpH t.rows).length - k1 ∧ G5.le G6 ∧ St w [] G G6 [o1] w1 ∧ Row (ValE.slice 32) 24 36 G6 v4 (snapP ((grpH t.rows).take k1) at_ tx) o1 ∧ FR ρ1 [(1, .int .i64 at_),(2, .int .i64 tx),(7,v4),(25,r1),(26, .int .i64 (((grpH t.rows).length : Nat) : Int)),(27, .int .i64 (k1 : Int))] ∧ k1 ≤ (grpH t.rows).length) _ ⟨0,(.slice none 0 0),none,G5,rfl,(G5.le_refl),hS7,(Row.cast (Row.nil (ValE.slice 32) 24 36 G5) (by rfl)),⟨rfl,rfl,rfl,rfl,rfl,rfl,trivial⟩,(by omega)⟩ ?_
    rintro m ρ1 w6 ⟨k1,v4,o1,G6,rfl,hle6,hS6,hr1,hF9,f1⟩
    refine hF9.set ?_
    clear hF9
    have hsl:=snapP_len (grpH t.rows) k1 at_ tx
    refine WL.lssS (k1 : Int) (((grpH t.rows).length : Nat) : Int) rfl rfl rfl (fun h4=>?_) (fun h4=>?_)
    ·refine WL.indexAddr (hpost1.mono hle6) k1 (by omega) ul125 ti128 rfl rfl rfl rfl (fun p2 x1 hx1 he1=>?_)
     obtain ⟨cs1,hc2,hr2⟩:=he1
     obtain ⟨v5,v6,rfl,hs4,hs5⟩:=HGrpE_open hr2
     refine WL.loadGAt hS6 hc2 [v5,v6] ti128 rfl rfl rfl rfl rfl ?_
     refine WL.alloc hS6 ti128 rfl rfl (fun b1 w7 hn1 hS8=>?_)
     refine WL.store hS8 0 _ _ _ 0 _ [v5,v6] [v5,v6] _ rfl rfl ti128 rfl (Nat.le_of_ble_eq_true rfl) (by simp only [List.all_cons,List.all_nil,hs4.oneC,hs5.oneC,Bool.true_and] <;> rfl) rfl rfl rfl rfl rfl (fun w9 hS9=>?_)
     obtain ⟨G7,hle7,hc3,hS10⟩:=hS9.shutB hn1
     have hok9:=grpH_ok hg9 (Nat.le_trans hn9 (by decide)) (by assumption : (grpH t.rows)[k1]? = some _)
     refine WL.loadG1 hS10 (Cells.drop 1 hc3) ti26 rfl rfl rfl ?_
     refine WL.cA hS10 hb93 rfl rfl rfl (c_htimes hS10.imm x1.t tx _ (hs5.mono hle7) hok9.1 hok9.2) (fun w10 G9 r2 hpost2 hS11 hle9=>?_)
     refine WL.cV hS11 hb94 rfl rfl rfl (c_runsHas hS11.imm (timesH x1.t tx) at_ _ hpost2 (timesH_can hok9.1 _) (timesH_V hok9.1 _) (Nat.le_trans (timesH_len _ _) hok9.2)) (fun w11 G10 hS12 hle10=>?_)
     refine WL.split (fun (h5 : (inR (timesH x1.t tx) at_) = true)=>?_) (fun (h5 : (inR (timesH x1.t tx) at_) = false)=>?_)
     ·refine WL.loadG1 hS12 (Cells.drop 0 (hc3.mono (hle9.trans hle10))) ti36 rfl rfl rfl ?_
      refine WL.cA hS12 hb54 rfl rfl rfl (c_CloneVs hS12.imm x1.v _ (hs4.mono ((hle7.trans hle9).trans hle10))) (fun w12 G11 r3 hpost3 hS13 hle11=>?_)
      refine WL.buildSlice _ [(0,[r3])] [r3] hS13 sl56 rfl rfl rfl (by show [(0,(r3 : Value).cells.toList)] = _; simp only [hpost3.cells1] <;> rfl) (fun z hz=>by match z,hz with | [z0],_=>rfl) (fun b2 w13 hn2 hS14=>?_)
      refine WL.push (m:=([x1.v] : List (List Val))) sl56 rfl rfl rfl (hr1.mono (((hle7.trans hle9).trans hle10).trans hle11)) hS14 1 rfl 0 _ _ _ _ _ rfl ⟨[r3],_,rfl,⟨_,rfl,hpost3⟩,rfl⟩ rfl (by have hreach : reach = 140737488355328:=rfl; simp only [List.length_append,List.length_cons,List.length_nil]; omega) (by have hreach : reach = 140737488355328:=rfl; simp only [List.length_append,List.length_cons,List.length_nil]; omega) rfl rfl rfl (fun v7 o2 w14 hr3 hS15=>?_)
      have hS16:=hS15.tail
      refine WL.incr k1 (by have hreach : reach = 140737488355328:=rfl; omega) rfl rfl rfl ?_
      exact BK.mk' _ ⟨k1 + 1,v7,o2,G11,rfl,(hle6.trans (((hle7.trans hle9).trans hle10).trans hle11)),hS16,(Row.cast hr3 (by (exact (snapP_yes (by assumption) (by assumption)).symm))),⟨rfl,rfl,rfl,rfl,rfl,rfl,trivial⟩,(by omega)⟩ (show (grpH t.rows).length - (k1 + 1) < (grpH t.rows).length - k1 by omega)
     refine WL.incr k1 (by have hreach : reach = 140737488355328:=rfl; omega) rfl rfl rfl ?_
     exact BK.mk' _ ⟨k1 + 1,v4,o1,G10,rfl,(hle6.trans ((hle7.trans hle9).trans hle10)),hS12,(Row.cast (hr1.mono ((hle7.trans hle9).trans hle10)) (by (exact (snapP_no (by assumption) (by assumption)).symm))),⟨rfl,rfl,rfl,rfl,rfl,rfl,trivial⟩,(by omega)⟩ (show (grpH t.rows).length - (k1 + 1) < (grpH t.rows).length - k1 by omega)
    obtain ⟨G12,hle12,hs6,hS17⟩:=Row.freeze hr1 hS6 0 rfl
    exact RT hS17 rfl (Sl.cast hs6 (by exact snap_y (by assumption) (by assumption) (by assumption) (by omega)))
   exact RT hS4 rfl (Sl.cast (Sl.nil (ValE.slice 32) 24 G4) (by exact snap_3 (by assumption)))
  exact RT hS3 rfl (Sl.cast (Sl.nil (ValE.slice 32) 24 G3) (by exact snap_2 (by assumption)))
 exact RT hS2 rfl (Sl.cast (Sl.nil (ValE.slice 32) 24 G2) (by exact snap_1 (by assumption)))
theorem c_hAt {G : GH} {w : World} (hG : G.In w) (t : Table) (tx : Int) (ct : List Value) (hct : TableE.rep G t ct) : CL Tryz.prog (nat_lit 30) #[.agg ct.toArray, .int .i64 tx] [] w G fun G' _ r=>Sl FactE 40 G' r (atH t tx):=by
 refine calls_of_go ft [] Tryz.func30 rfl rfl ?_
 have hS:=St.start (X:=[]) hG
 obtain ⟨v1,v2,v3,rfl,hb1,hs1,hb2,hs2,hs3,hb3⟩:=TableE_open hct
 refine WL.boxG [strV t.s.name,v1, .int .i64 t.s.key,v2,v3, .int .i64 t.last] _ hS rfl rfl rfl (fun p1 w1 G1 hle1 hsp1 hc1 hS1=>?_)
 refine WL.loadGAt hS1 hc1 [strV t.s.name,v1, .int .i64 t.s.key,v2,v3, .int .i64 t.last] ti28 rfl rfl rfl rfl rfl ?_
 refine WL.cV hS1 hb15 rfl rfl rfl (c_hValid hS1.imm t _ (TableE_mk t hb1 (hs1.mono hle1) hb2 (hs2.mono hle1) (hs3.mono hle1) hb3)) (fun w2 G2 hS2 hle2=>?_)
 refine WL.split (fun (h1 : (validT t) = true)=>?_) (fun (h1 : (validT t) = false)=>?_)
 ·refine WL.cV hS2 hb91 rfl rfl rfl (c_instant hS2.imm tx) (fun w3 G3 hS3 hle3=>?_)
  refine WL.split (fun (h2 : (instB tx) = true)=>?_) (fun (h2 : (instB tx) = false)=>?_)
  ·obtain ⟨hg9,hn9,h89,_⟩:=validT_good (by assumption : validT t = true)
   have hgl:=@grpH_len t.rows
   refine WL.loadG1 hS3 (Cells.drop 4 (hc1.mono (hle2.trans hle3))) ti26 rfl rfl rfl ?_
   refine WL.cA hS3 hb92 rfl rfl rfl (c_groups hS3.imm t.rows _ (hs3.mono ((hle1.trans hle2).trans hle3)) hg9 (le1000 h89) (Nat.le_trans hn9 (by decide))) (fun w4 G4 r1 hpost1 hS4 hle4=>?_)
   have bd1:=hpost1.bound
   refine WL.lenSl hpost1 ul125 rfl rfl ?_
   have hS6:=hS4.pad
   refine LP.go ft [] (fun m ρ1 w1=>∃ (k1 : Nat),∃ (v4 : Value) (o1 : OB),∃ (G5 : GH),m = (grpH t.rows).length - k1 ∧ G4.le G5 ∧ St w [] G G5 [o1] w1 ∧ Row FactE 40 60 G5 v4 (factsP ((grpH t.rows).take k1) tx) o1 ∧ FR ρ1 [(1, .int .i64 tx),(5,v4),(20,r1),(21, .int .i64 (((grpH t.rows).length : Nat) : Int)),(22, .int .i64 (k1 : Int))] ∧ k1 ≤ (grpH t.rows).length) _ ⟨0,(.slice none 0 0),none,G4,rfl,(G4.le_refl),hS6,(Row.cast (Row.nil FactE 40 60 G4) (by rfl)),⟨rfl,rfl,rfl,rfl,rfl,trivial⟩,(by omega)⟩ ?_
   rintro m ρ1 w5 ⟨k1,v4,o1,G5,rfl,hle5,hS5,hr1,hF9,f1⟩
   refine hF9.set ?_
   clear hF9
   have hfl:=factsP_takeLen (k:=k1) (tx:=tx) hn9
   refine WL.lssS (k1 : Int) (((grpH t.rows).length : Nat) : Int) rfl rfl rfl (fun h3=>?_) (fun h3=>?_)
   ·refine WL.indexAddr (hpost1.mono hle5) k1 (by omega) ul125 ti128 rfl rfl rfl rfl (fun p2 x1 hx1 he1=>?_)
    obtain ⟨cs1,hc2,hr2⟩:=he1
    obtain ⟨v5,v6,rfl,hs4,hs5⟩:=HGrpE_open hr2
    refine WL.loadGAt hS5 hc2 [v5,v6] ti128 rfl rfl rfl rfl rfl ?_
    refine WL.alloc hS5 ti128 rfl rfl (fun b1 w6 hn1 hS7=>?_)
    refine WL.store hS7 0 _ _ _ 0 _ [v5,v6] [v5,v6] _ rfl rfl ti128 rfl (Nat.le_of_ble_eq_true rfl) (by simp only [List.all_cons,List.all_nil,hs4.oneC,hs5.oneC,Bool.true_and] <;> rfl) rfl rfl rfl rfl rfl (fun w7 hS8=>?_)
    obtain ⟨G6,hle6,hc3,hS9⟩:=hS8.shutB hn1
    have hok9:=grpH_ok hg9 (Nat.le_trans hn9 (by decide)) (by assumption : (grpH t.rows)[k1]? = some _)
    refine WL.loadG1 hS9 (Cells.drop 1 hc3) ti26 rfl rfl rfl ?_
    refine WL.cA hS9 hb93 rfl rfl rfl (c_htimes hS9.imm x1.t tx _ (hs5.mono hle6) hok9.1 hok9.2) (fun w9 G7 r2 hpost2 hS10 hle7=>?_)
    have bd2:=hpost2.bound
    refine WL.lenSl hpost2 ul129 rfl rfl ?_
    refine LP.go ft [] (fun m ρ1 w1=>∃ (k2 : Nat),∃ (v7 : Value) (o2 : OB),∃ (G9 : GH),m = (timesH x1.t tx).length - k2 ∧ G7.le G9 ∧ St w [] G G9 [o2] w1 ∧ Row FactE 40 60 G9 v7 (factsP ((grpH t.rows).take k1) tx ++ ((timesH x1.t tx).take k2).map (Fact.mk x1.v)) o2 ∧ FR ρ1 [(1, .int .i64 tx),(5,v7),(7, .pointer (some (⟨b1,0,none⟩ : Addr))),(20,r1),(21, .int .i64 (((grpH t.rows).length : Nat) : Int)),(22, .int .i64 (k1 : Int)),(29,r2),(30, .int .i64 (((timesH x1.t tx).length : Nat) : Int)),(31, .int .i64 (k2 : Int))] ∧ k2 ≤ (timesH x1.t tx).length) _ ⟨0,v4,o1,G7,rfl,(G7.le_refl),hS10,(Row.cast (hr1.mono (hle6.trans hle7)) (by simp)),⟨rfl,rfl,rfl,rfl,rfl,rfl,rfl,rfl,rfl,trivial⟩,(by omega)⟩ ?_
    rintro m ρ1 w10 ⟨k2,v7,o2,G9,rfl,hle9,hS11,hr3,hF9,f2⟩
    refine hF9.set ?_
    clear hF9
    have htl:=Nat.le_trans (timesH_len x1.t tx) hok9.2
    refine WL.lssS (k2 : Int) (((timesH x1.t tx).length : Nat) : Int) rfl rfl rfl (fun h4=>?_) (fun h4=>?_)
    ·refine WL.indexAddr (hpost2.mono hle9) k2 (by omega) ul129 ti38 rfl rfl rfl rfl (fun p3 x2 hx2 he2=>?_)
     obtain ⟨cs2,hc4,hr4⟩:=he2
     obtain ⟨rfl,hb4,hb5⟩:=SpanE_open hr4
     refine WL.loadGAt hS11 hc4 [.int .i64 x2.a, .int .i64 x2.b] ti38 rfl rfl rfl rfl rfl ?_
     refine WL.alloc hS11 ti38 rfl rfl (fun b2 w11 hn2 hS12=>?_)
     refine WL.store hS12 0 _ _ _ 0 _ [.int .i64 x2.a, .int .i64 x2.b] [.int .i64 x2.a, .int .i64 x2.b] _ rfl rfl ti38 rfl (Nat.le_of_ble_eq_true rfl) rfl rfl rfl rfl rfl rfl (fun w12 hS13=>?_)
     obtain ⟨G10,hle10,hc5,hS14⟩:=hS13.shutB hn2
     refine dr [(3,true),(5,false),(6,false),(7,false),(8,false)] [(37,v5),(39, .agg #[.int .i64 x2.a, .int .i64 x2.b])] hS14 ⟨fun _ hSw=>WL.loadG1 hSw (Cells.drop 0 (hc3.mono ((hle7.trans hle9).trans hle10))) ti36 rfl rfl rfl <| nu rfl rfl,fun _ hSw=>WL.loadGAt hSw hc5 [.int .i64 x2.a, .int .i64 x2.b] ti38 rfl rfl rfl rfl rfl <| nu rfl rfl,trivial⟩ (fun w13 hS15=>?_)
     refine WL.cA hS15 hb54 rfl rfl rfl (c_CloneVs hS15.imm x1.v _ (hs4.mono (((hle6.trans hle7).trans hle9).trans hle10))) (fun w14 G11 r3 hpost3 hS16 hle11=>?_)
     refine ⟨hS16.down hS15.le hle11,?_⟩
     refine WL.build _ [(0,[r3]),(1,[.int .i64 x2.a, .int .i64 x2.b])] [r3, .int .i64 x2.a, .int .i64 x2.b] ti60 rfl fl60 rfl rfl (by show [(0,(r3 : Value).cells.toList),(1,(.agg #[.int .i64 x2.a, .int .i64 x2.b] : Value).cells.toList)] = _; simp only [hpost3.cells1] <;> rfl) rfl ?_
     refine WL.buildSlice _ [(0,[r3, .int .i64 x2.a, .int .i64 x2.b])] [r3, .int .i64 x2.a, .int .i64 x2.b] hS16 sl57 rfl rfl rfl rfl (fun z hz=>by match z,hz with | [z0,z1,z2],_=>rfl) (fun b3 w15 hn3 hS17=>?_)
     refine WL.push (m:=([(Fact.mk x1.v x2)] : List Fact)) sl57 rfl rfl rfl (hr3.mono (hle10.trans hle11)) hS17 1 rfl 0 _ _ _ _ _ rfl ⟨[r3, .int .i64 x2.a, .int .i64 x2.b],_,rfl,(FactE_mk (Fact.mk x1.v x2) hpost3 hb4 hb5),rfl⟩ rfl (by have hreach : reach = 140737488355328:=rfl; simp only [List.length_append,List.length_map,List.length_take,List.length_cons,List.length_nil]; omega) (by have hreach : reach = 140737488355328:=rfl; simp only [List.length_append,List.length_map,List.length_take,List.length_cons,List.length_nil]; omega) rfl rfl rfl (fun v9 o3 w16 hr5 hS18=>?_)
     have hS19:=hS18.tail
     refine WL.incr k2 (by have hreach : reach = 140737488355328:=rfl; omega) rfl rfl rfl ?_
     exact BK.mk' _ ⟨k2 + 1,v9,o3,G11,rfl,(hle9.trans (hle10.trans hle11)),hS19,(Row.cast hr5 (by (rw [mapT_take (by assumption),List.append_assoc]))),⟨rfl,rfl,rfl,rfl,rfl,rfl,rfl,rfl,rfl,trivial⟩,(by omega)⟩ (show (timesH x1.t tx).length - (k2 + 1) < (timesH x1.t tx).length - k2 by omega)
    refine WL.incr k1 (by have hreach : reach = 140737488355328:=rfl; omega) rfl rfl rfl ?_
    exact BK.mk' _ ⟨k1 + 1,v7,o2,G9,rfl,(hle5.trans ((hle6.trans hle7).trans hle9)),hS11,(Row.cast hr3 (by (rw [factsP_take (by assumption),mapT_all (by omega)]))),⟨rfl,rfl,rfl,rfl,rfl,trivial⟩,(by omega)⟩ (show (grpH t.rows).length - (k1 + 1) < (grpH t.rows).length - k1 by omega)
   obtain ⟨G12,hle12,hs6,hS20⟩:=Row.freeze hr1 hS5 0 rfl
   exact RT hS20 rfl (Sl.cast hs6 (by exact at_y (by assumption) (by assumption) (by omega)))
  exact RT hS3 rfl (Sl.cast (Sl.nil FactE 40 G3) (by exact at_2 (by assumption)))
 exact RT hS2 rfl (Sl.cast (Sl.nil FactE 40 G2) (by exact at_1 (by assumption)))
theorem c_hHas1 {G : GH} {w : World} (hG : G.In w) (v l : List Val) (vl : Value) (hvl : Sl ValE 32 G vl l) (vv : Value) (hvv : Sl ValE 32 G vv v) (pv : Addr) (hpv : Cells G pv [vv]) : CL Tryz.prog (nat_lit 104) #[vl, .pointer (some pv)] [] w G fun _ _ r=>r = .bool (decide (l = v)):=by
 refine calls_of_go ft [] Tryz.func104 rfl rfl ?_
 have hS:=St.start (X:=[]) hG
 refine WL.loadG1 hS hpv ti36 rfl rfl rfl ?_
 refine WL.cV hS hb46 rfl rfl rfl (c_vSame hS.imm l v _ hvl _ hvv) (fun w1 G1 hS1 hle1=>?_)
 exact RB hS1 rfl (by rfl)
theorem c_hHas {G : GH} {w : World} (hG : G.In w) (t : Table) (v : List Val) (at_ tx : Int) (ct : List Value) (hct : TableE.rep G t ct) (vv : Value) (hvv : Sl ValE 32 G vv v) : CL Tryz.prog (nat_lit 39) #[.agg ct.toArray,vv, .int .i64 at_, .int .i64 tx] [] w G fun _ _ r=>r = .bool (hasH t v at_ tx):=by
 refine calls_of_go ft [] Tryz.func39 rfl rfl ?_
 have hS:=St.start (X:=[]) hG
 obtain ⟨v1,v2,v3,rfl,hb1,hs1,hb2,hs2,hs3,hb3⟩:=TableE_open hct
 refine WL.boxG [strV t.s.name,v1, .int .i64 t.s.key,v2,v3, .int .i64 t.last] _ hS rfl rfl rfl (fun p1 w1 G1 hle1 hsp1 hc1 hS1=>?_)
 refine WL.boxG [vv] _ hS1 rfl rfl (hvv.mono hle1).cells1 (fun p2 w2 G2 hle2 hsp2 hc2 hS2=>?_)
 refine WL.loadGAt hS2 (hc1.mono hle2) [strV t.s.name,v1, .int .i64 t.s.key,v2,v3, .int .i64 t.last] ti28 rfl rfl rfl rfl rfl ?_
 refine WL.cA hS2 hb31 rfl rfl rfl (c_Snapshot hS2.imm t at_ tx _ (TableE_mk t hb1 (hs1.mono (hle1.trans hle2)) hb2 (hs2.mono (hle1.trans hle2)) (hs3.mono (hle1.trans hle2)) hb3)) (fun w3 G3 r1 hpost1 hS3 hle3=>?_)
 refine WL.cV hS3 hb44 rfl rfl rfl (c_ContainsVV hS3.imm (snapH t at_ tx) (fun x8=>decide (x8 = v)) _ hpost1 104 #[.pointer (some p2)] ⟨hb104,fun G8 w8 v8 x8 hle8 hG8 hon8 hA8=>by exact c_hHas1 hG8 v x8 v8 hA8 vv ((hvv.mono ((hle1.trans hle2).trans hle3)).mono hle8) p2 ((hc2.mono hle3).mono hle8)⟩) (fun w4 G4 hS4 hle4=>?_)
 exact RB hS4 rfl (by rfl)
end Go.Civ
