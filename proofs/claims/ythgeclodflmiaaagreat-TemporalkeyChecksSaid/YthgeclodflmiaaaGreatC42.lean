/- Lemmas. -/
import Derived.Test.YthgeclodflmiaaaGreatC25
import Derived.Test.YthgeclodflmiaaaGreatC34
import Derived.Test.YthgeclodflmiaaaGreatProg
import Derived.KernelRfl
import Derived.WalkKit
set_option linter.unusedVariables false
set_option linter.unusedSimpArgs false
set_option maxRecDepth 100000
set_option maxHeartbeats 4000000
namespace Go.Civ
open Go.Proofs
theorem ZoH {G : GH} {w : World} (hG : G.In w) (l : List Schema) (pf : Schema → Bool) (vl : Value) (hvl : Sl SchemaE 72 G vl l) (fid : Nat) (fcap : Array Value) (hf : FnB Tryz.prog (Is SchemaE) fid fcap G (fun x=>x ∈ l) pf) : CL Tryz.prog (nat_lit 156) #[vl, .func (.func fid) #[] fcap] [] w G fun _ _ r=>r = .int .i64 (Xe pf l):=by
 refine Zh ft [] Tryz.func156 rfl rfl ?_
 have hS:=St.start (X:=[]) hG
 have bd1:=hvl.bound
 refine Zl hvl ZcB rfl rfl ?_
 refine LP.go ft [] (fun m ρ1 w1=>∃ (k1 : Nat),∃ (G1 : GH),m = l.length - k1 ∧ G.le G1 ∧ St w [] G G1 [] w1 ∧ FR ρ1 [(0,vl),(1, .func (.func fid) #[] fcap),(7, .int .i64 (l.length : Int)),(8, .int .i64 (k1 : Int))] ∧ k1 ≤ l.length ∧ ∀ j,j < k1 → ∀ x,l[j]? = some x → pf x = false) _ ⟨0,G,rfl,(G.le_refl),hS,⟨rfl,rfl,rfl,rfl,trivial⟩,(by omega),(by intro j hj; omega)⟩ ?_
 rintro m ρ1 w1 ⟨k1,G1,rfl,hle1,hS1,hF9,f1,f2⟩
 refine hF9.set ?_
 clear hF9
 refine Zm (k1 : Int) (l.length : Int) rfl rfl rfl (fun h1=>?_) (fun h1=>?_)
 ·refine WL.indexAddr (hvl.mono hle1) k1 (by omega) ZcB Y5 rfl rfl rfl rfl (fun p1 x1 hx1 he1=>?_)
  obtain ⟨cs1,hc1,hr1⟩:=he1
  obtain ⟨v1,v2,rfl,hb1,hs1,hb2,hs2⟩:=Yk hr1
  refine Zd hS1 hc1 [Zc x1.name,v1, .int .i64 x1.key,v2] Y5 rfl rfl rfl rfl rfl ?_
  refine Zn hS1 hf.body rfl rfl rfl (hf.call _ _ (.agg #[Zc x1.name,v1, .int .i64 x1.key,v2]) x1 hle1 hS1.imm (List.mem_of_getElem? hx1) ⟨_,rfl,(Yg x1 hb1 hs1 hb2 hs2)⟩) (fun w2 G2 hS2 hle2=>?_)
  refine WL.split (fun (h2 : (pf x1) = true)=>?_) (fun (h2 : (pf x1) = false)=>?_)
  ·exact RI hS2 rfl (by first | exact (Qy _ ‹_› ‹_› ‹_›).symm | exact (XX ‹_› (by omega)).symm)
  refine Zj k1 (by have hreach : reach = 140737488355328:=rfl; omega) rfl rfl rfl ?_
  exact BK.mk' _ ⟨k1 + 1,G2,rfl,(hle1.trans hle2),hS2,⟨rfl,rfl,rfl,rfl,trivial⟩,(by omega),(by exact Yj ‹_› ‹_› ‹_›)⟩ (show l.length - (k1 + 1) < l.length - k1 by omega)
 exact RI hS1 rfl (by first | exact (Qy _ ‹_› ‹_› ‹_›).symm | exact (XX ‹_› (by omega)).symm)
theorem Zsu {G : GH} {w : World} (hG : G.In w) (y : Schema) (nm : List UInt8) (cy : List Value) (hcy : SchemaE.rep G y cy) (pn : Addr) (hpn : XL G pn [Zc nm]) : CL Tryz.prog (nat_lit 157) #[.agg cy.toArray, .pointer (some pn)] [] w G fun _ _ r=>r = .bool (decide (y.name = nm)):=by
 refine Zh ft [] Tryz.func157 rfl rfl ?_
 have hS:=St.start (X:=[]) hG
 obtain ⟨v1,v2,rfl,hb1,hs1,hb2,hs2⟩:=Yk hcy
 refine Z3 [Zc y.name,v1, .int .i64 y.key,v2] _ hS rfl rfl rfl (fun p1 w1 G1 hle1 hsp1 hc1 hS1=>?_)
 refine Za hS1 (XL.drop 0 hc1) YM rfl rfl rfl <| Za hS1 (hpn.mono hle1) YM rfl rfl rfl <| YX .eql rfl y.name nm rfl rfl rfl ?_
 exact RB hS1 rfl (by simp [SCmp.b])
theorem Zhi {G : GH} {w : World} (hG : G.In w) (l : List Schema) (nm : List UInt8) (vl : Value) (hvl : Sl SchemaE 72 G vl l) (hnm : nm.length ≤ reach) : CL Tryz.prog (nat_lit 102) #[vl,Zc nm] [] w G fun G' _ r=>∃ r0 r1,r = .tuple #[r0,r1] ∧ Is SchemaE G' r0 ((Yf l nm).getD Xv) ∧ r1 = .bool ((Yf l nm).isSome):=by
 refine Y8 ft [] Tryz.func102 rfl rfl ?_
 have hS:=St.start (X:=[]) hG
 refine Z3 [Zc nm] _ hS rfl rfl rfl (fun p1 w1 G1 hle1 hsp1 hc1 hS1=>?_)
 refine WL.alloc hS1 Y5 rfl rfl (fun b1 w2 hn1 hS2=>?_)
 refine Zn hS2 Zuw rfl rfl rfl (ZoH hS2.imm l (fun x8=>decide (x8.name = nm)) _ (hvl.mono hle1) 157 #[.pointer (some p1)] ⟨Zux,fun G8 w8 v8 x8 hle8 hG8 hon8 hA8=>by obtain ⟨cs_x8,rfl,hr_x8⟩:=hA8; exact Zsu hG8 x8 nm cs_x8 hr_x8 p1 (hc1.mono hle8)⟩) (fun w3 G2 hS3 hle2=>?_)
 refine Zm (Xe (fun x8=>decide (x8.name = nm)) l) 0 rfl rfl rfl (fun h1=>?_) (fun h1=>?_)
 ·refine WL.build _ [] [Zc [], .slice none 0 0, .int .i64 0, .slice none 0 0] Y5 rfl ZsA rfl rfl rfl rfl ?_
  refine WL.store hS3 0 _ _ _ 0 _ [Zc [], .slice none 0 0, .int .i64 0, .slice none 0 0] [Zc [], .slice none 0 0, .int .i64 0, .slice none 0 0] _ rfl rfl Y5 rfl (Nat.le_of_ble_eq_true rfl) rfl rfl rfl rfl rfl rfl (fun w4 hS4=>?_)
  exact X0 [.agg #[Zc [], .slice none 0 0, .int .i64 0, .slice none 0 0], .bool false] hS4 ⟨_,_,_,rfl,rfl,hS4.loadA 0 _ _ _ 0 [Zc [], .slice none 0 0, .int .i64 0, .slice none 0 0] rfl rfl rfl Y5 rfl,⟨_,rfl,rfl⟩⟩ ⟨_,_,rfl,(Is.cast ⟨_,rfl,(Yg (Schema.mk [] [] 0 []) (by simp [reach]) (Sl.nil ColE 24 G2) Yl (Sl.nil ForeignE 40 G2))⟩ (by first | exact (Zca ‹_›).1 | exact (Zca ‹_›).2 | exact (Zbk ‹_› ‹_›).1 | exact (Zbk ‹_› ‹_›).2)),(congrArg Value.bool (by first | exact (Zca ‹_›).1 | exact (Zca ‹_›).2 | exact (Zbk ‹_› ‹_›).1 | exact (Zbk ‹_› ‹_›).2))⟩
 have hix:=Zfh (by assumption : 0 ≤ Xe (fun x8=>decide (x8.name = nm)) l)
 refine WL.indexAddr (hvl.mono (hle1.trans hle2)) (((Xe (fun x8=>decide (x8.name = nm)) l)).toNat) (by first | exact hix.1 | omega) ZcB Y5 rfl rfl rfl (congrArg (Value.int .i64) (Int.toNat_of_nonneg (by omega)).symm) (fun p2 x1 hx1 he1=>?_)
 obtain ⟨cs1,hc2,hr1⟩:=he1
 obtain ⟨v1,v2,rfl,hb1,hs1,hb2,hs2⟩:=Yk hr1
 refine Zd hS3 hc2 [Zc x1.name,v1, .int .i64 x1.key,v2] Y5 rfl rfl rfl rfl rfl ?_
 refine WL.store hS3 0 _ _ _ 0 _ [Zc x1.name,v1, .int .i64 x1.key,v2] [Zc x1.name,v1, .int .i64 x1.key,v2] _ rfl rfl Y5 rfl (Nat.le_of_ble_eq_true rfl) (by simp only [List.all_cons,List.all_nil,hs1.oneC,hs2.oneC,Bool.true_and] <;> rfl) rfl rfl rfl rfl rfl (fun w5 hS5=>?_)
 exact X0 [.agg #[Zc x1.name,v1, .int .i64 x1.key,v2], .bool true] hS5 ⟨_,_,_,rfl,rfl,hS5.loadA 0 _ _ _ 0 [Zc x1.name,v1, .int .i64 x1.key,v2] rfl rfl rfl Y5 rfl,⟨_,rfl,rfl⟩⟩ ⟨_,_,rfl,(Is.cast ⟨_,rfl,(Yg x1 hb1 hs1 hb2 hs2)⟩ (by first | exact (Zca ‹_›).1 | exact (Zca ‹_›).2 | exact (Zbk ‹_› ‹_›).1 | exact (Zbk ‹_› ‹_›).2)),(congrArg Value.bool (by first | exact (Zca ‹_›).1 | exact (Zca ‹_›).2 | exact (Zbk ‹_› ‹_›).1 | exact (Zbk ‹_› ‹_›).2))⟩
theorem Zsv {G : GH} {w : World} (hG : G.In w) (x : Schema) (f : Foreign) (t : Schema) (cs : List Value) (hcs : SchemaE.rep G x cs) (cf : List Value) (hcf : ForeignE.rep G f cf) (cu : List Value) (hcu : SchemaE.rep G t cu) (ka : ∀ c ∈ f.cols,0 ≤ Xf (x.cols.map Col.name) c) (kt : t.key ≤ t.cols.length) : CL Tryz.prog (nat_lit 103) #[.agg cs.toArray, .agg cf.toArray, .agg cu.toArray] [] w G fun _ _ r=>r = .bool (ZaJ x f t):=by
 refine Zh ft [] Tryz.func103 rfl rfl ?_
 have hS:=St.start (X:=[]) hG
 obtain ⟨v1,v2,rfl,hb1,hs1,hb2,hs2⟩:=Yk hcs
 obtain ⟨v3,rfl,hs3,hb3⟩:=XC hcf
 obtain ⟨v4,v5,rfl,hb4,hs4,hb5,hs5⟩:=Yk hcu
 refine Z3 [Zc x.name,v1, .int .i64 x.key,v2] _ hS rfl rfl rfl (fun p1 w1 G1 hle1 hsp1 hc1 hS1=>?_)
 refine Z3 [v3,Zc f.table] _ hS1 rfl rfl rfl (fun p2 w2 G2 hle2 hsp2 hc2 hS2=>?_)
 refine Z3 [Zc t.name,v4, .int .i64 t.key,v5] _ hS2 rfl rfl rfl (fun p3 w3 G3 hle3 hsp3 hc3 hS3=>?_)
 refine Za hS3 (XL.drop 0 (hc2.mono hle3)) ZdP rfl rfl rfl ?_
 have bd1:=hs3.bound
 refine Zl (hs3.mono ((hle1.trans hle2).trans hle3)) Zav rfl rfl <| Za hS3 (XL.drop 2 hc3) Zr rfl rfl rfl ?_
 refine Xn (f.cols.length : Int) t.key rfl rfl rfl (fun h1=>?_) (fun h1=>?_)
 ·exact RB hS3 rfl (by first | exact Zk5 ‹_› | exact Zk6 ‹_› (Zky ‹_› ‹_› ‹_›) | exact Zk7 ‹_› ‹_› (by omega))
 refine Za hS3 (XL.drop 0 (hc2.mono hle3)) ZdP rfl rfl rfl ?_
 have bd2:=hs3.bound
 refine Zl (hs3.mono ((hle1.trans hle2).trans hle3)) Zav rfl rfl ?_
 refine LP.go ft [] (fun m ρ1 w1=>∃ (k1 : Nat),∃ (G4 : GH),m = f.cols.length - k1 ∧ G3.le G4 ∧ St w [] G G4 [] w1 ∧ FR ρ1 [(3, .pointer (some p1)),(5, .pointer (some p3)),(16,v3),(17, .int .i64 (f.cols.length : Int)),(18, .int .i64 (k1 : Int))] ∧ k1 ≤ f.cols.length ∧ ∀ j,j < k1 → ∀ c,f.cols[j]? = some c → ZcR x t j c = true) _ ⟨0,G3,rfl,(G3.le_refl),hS3,⟨rfl,rfl,rfl,rfl,rfl,trivial⟩,(by omega),(by intro j hj; omega)⟩ ?_
 rintro m ρ1 w4 ⟨k1,G4,rfl,hle4,hS4,hF9,f1,f2⟩
 refine hF9.set ?_
 clear hF9
 refine Zm (k1 : Int) (f.cols.length : Int) rfl rfl rfl (fun h2=>?_) (fun h2=>?_)
 ·refine WL.indexAddr (hs3.mono (((hle1.trans hle2).trans hle3).trans hle4)) k1 (by omega) Zav YM rfl rfl rfl rfl (fun p4 x1 hx1 he1=>?_)
  obtain ⟨cs1,hc4,hr1⟩:=he1
  obtain ⟨rfl,hb6⟩:=hr1
  refine Za hS4 hc4 YM rfl rfl rfl ?_
  have hix9:=ka x1 (List.mem_of_getElem? hx1)
  have hlt9:=Zkx hix9
  obtain ⟨p5,x2,hx2,he2,ep1⟩:=Sl.at (hs1.mono (((hle1.trans hle2).trans hle3).trans hle4)) (((Xf (x.cols.map Col.name) x1)).toNat) (by omega)
  obtain ⟨cs2,hc5,hr2⟩:=he2
  obtain ⟨rfl,hb7,hb8⟩:=Zap hr2
  obtain ⟨p6,x3,hx3,he3,ep2⟩:=Sl.at (hs4.mono (((hle1.trans hle2).trans hle3).trans hle4)) k1 (by omega)
  obtain ⟨cs3,hc6,hr3⟩:=he3
  obtain ⟨rfl,hb9,hb10⟩:=Zap hr3
  rcases Cmp.dec .neq x2.kind x3.kind with ⟨YL,q1⟩ | ⟨YL,q1⟩
  ·have h3 : x2.kind ≠ x3.kind:=q1
   clear q1
   refine dr [] [(24,v1),(25, .agg #[Zc x.name,v1, .int .i64 x.key,v2]),(27, .int .i64 (Xf (x.cols.map Col.name) x1)),(28, .pointer (some p5)),(30, .int .i64 x2.kind),(32,v4),(34, .pointer (some p6)),(36, .int .i64 x3.kind),(37, .bool true)] hS4 ⟨fun _ hSw=>Za hSw (XL.drop 1 (hc1.mono ((hle2.trans hle3).trans hle4))) Zce rfl rfl rfl <| nu rfl rfl,fun _ hSw=>Zd hSw (hc1.mono ((hle2.trans hle3).trans hle4)) [Zc x.name,v1, .int .i64 x.key,v2] Y5 rfl rfl rfl rfl rfl <| nu rfl rfl,fun _ hSw=>ZO hSw Zg4 rfl rfl rfl (ZcN hSw.imm x x1 _ (Yg x hb1 (hs1.mono (((hle1.trans hle2).trans hle3).trans hle4)) hb2 (hs2.mono (((hle1.trans hle2).trans hle3).trans hle4)))) rfl,fun _=>Zi (((Xf (x.cols.map Col.name) x1)).toNat) ep1 ZaN XN rfl rfl rfl (congrArg (Value.int .i64) (Int.toNat_of_nonneg (by omega)).symm) <| nu rfl rfl,fun _ hSw=>Za hSw (XL.drop 1 hc5) Zr rfl rfl rfl <| nu rfl rfl,fun _ hSw=>Za hSw (XL.drop 1 (hc3.mono hle4)) Zce rfl rfl rfl <| nu rfl rfl,fun _=>Zi k1 ep2 ZaN XN rfl rfl rfl rfl <| nu rfl rfl,fun _ hSw=>Za hSw (XL.drop 1 hc6) Zr rfl rfl rfl <| nu rfl rfl,fun _=>WL.cmpV .neq rfl .i64 x2.kind x3.kind _ YL rfl rfl rfl <| nu rfl rfl,trivial⟩ (fun w5 hS5=>?_)
   exact RB hS5 rfl (by first | exact Zk5 ‹_› | exact Zk6 ‹_› (Zky ‹_› ‹_› ‹_›) | exact Zk7 ‹_› ‹_› (by omega))
  have h3 : x2.kind = x3.kind:=q1
  clear q1
  refine dr [] [(24,v1),(25, .agg #[Zc x.name,v1, .int .i64 x.key,v2]),(27, .int .i64 (Xf (x.cols.map Col.name) x1)),(28, .pointer (some p5)),(30, .int .i64 x2.kind),(32,v4),(34, .pointer (some p6)),(36, .int .i64 x3.kind),(37, .bool false)] hS4 ⟨fun _ hSw=>Za hSw (XL.drop 1 (hc1.mono ((hle2.trans hle3).trans hle4))) Zce rfl rfl rfl <| nu rfl rfl,fun _ hSw=>Zd hSw (hc1.mono ((hle2.trans hle3).trans hle4)) [Zc x.name,v1, .int .i64 x.key,v2] Y5 rfl rfl rfl rfl rfl <| nu rfl rfl,fun _ hSw=>ZO hSw Zg4 rfl rfl rfl (ZcN hSw.imm x x1 _ (Yg x hb1 (hs1.mono (((hle1.trans hle2).trans hle3).trans hle4)) hb2 (hs2.mono (((hle1.trans hle2).trans hle3).trans hle4)))) rfl,fun _=>Zi (((Xf (x.cols.map Col.name) x1)).toNat) ep1 ZaN XN rfl rfl rfl (congrArg (Value.int .i64) (Int.toNat_of_nonneg (by omega)).symm) <| nu rfl rfl,fun _ hSw=>Za hSw (XL.drop 1 hc5) Zr rfl rfl rfl <| nu rfl rfl,fun _ hSw=>Za hSw (XL.drop 1 (hc3.mono hle4)) Zce rfl rfl rfl <| nu rfl rfl,fun _=>Zi k1 ep2 ZaN XN rfl rfl rfl rfl <| nu rfl rfl,fun _ hSw=>Za hSw (XL.drop 1 hc6) Zr rfl rfl rfl <| nu rfl rfl,fun _=>WL.cmpV .neq rfl .i64 x2.kind x3.kind _ YL rfl rfl rfl <| nu rfl rfl,trivial⟩ (fun w6 hS6=>?_)
  refine Zj k1 (by have hreach : reach = 140737488355328:=rfl; omega) rfl rfl rfl ?_
  exact BK.mk' _ ⟨k1 + 1,G4,rfl,hle4,hS6,⟨rfl,rfl,rfl,rfl,rfl,trivial⟩,(by omega),(by exact ZbH (P:=fun j c=>ZcR x t j c = true) ‹_› ‹_› (ZtB ‹_› ‹_› ‹_›))⟩ (show f.cols.length - (k1 + 1) < f.cols.length - k1 by omega)
 exact RB hS4 rfl (by first | exact Zk5 ‹_› | exact Zk6 ‹_› (Zky ‹_› ‹_› ‹_›) | exact Zk7 ‹_› ‹_› (by omega))
theorem ZoI {G : GH} {w : World} (hG : G.In w) (l : List Schema) (vl : Value) (hvl : Sl SchemaE 72 G vl l) : CL Tryz.prog (nat_lit 44) #[vl] [] w G fun _ _ r=>∃ r0 r1,r = .tuple #[r0,r1] ∧ r0 = Zc ((Xu l).1) ∧ r1 = .int .i64 ((Xu l).2):=by
 refine Zh ft [] Tryz.func44 rfl rfl ?_
 have hS:=St.start (X:=[]) hG
 have bd1:=hvl.bound
 refine Zl hvl ZcB rfl rfl ?_
 refine YZ (l.length : Int) 8 rfl rfl rfl (fun h1=>?_) (fun h1=>?_)
 ·exact RT hS rfl ⟨_,_,rfl,(congrArg Zc (by first | exact (YT (by omega)).1 | exact (YT (by omega)).2 | exact (YU (r:=(_,_)) (by omega) ‹_› ‹_› (by first | exact YD ‹_› | exact YE ‹_› ‹_›)).1 | exact (YU (r:=(_,_)) (by omega) ‹_› ‹_› (by first | exact YD ‹_› | exact YE ‹_› ‹_›)).2 | exact (YV (r:=(_,_)) (by omega) ‹_› (by omega) ‹_› ‹_› ‹_› ‹_› (by first | exact YF ‹_› | exact Y0 ‹_› ‹_›)).1 | exact (YV (r:=(_,_)) (by omega) ‹_› (by omega) ‹_› ‹_› ‹_› ‹_› (by first | exact YF ‹_› | exact Y0 ‹_› ‹_›)).2 | exact (YW (by omega) ‹_› (by omega) ‹_› (by omega)).1 | exact (YW (by omega) ‹_› (by omega) ‹_› (by omega)).2)),(congrArg (Value.int .i64) (by first | exact (YT (by omega)).1 | exact (YT (by omega)).2 | exact (YU (r:=(_,_)) (by omega) ‹_› ‹_› (by first | exact YD ‹_› | exact YE ‹_› ‹_›)).1 | exact (YU (r:=(_,_)) (by omega) ‹_› ‹_› (by first | exact YD ‹_› | exact YE ‹_› ‹_›)).2 | exact (YV (r:=(_,_)) (by omega) ‹_› (by omega) ‹_› ‹_› ‹_› ‹_› (by first | exact YF ‹_› | exact Y0 ‹_› ‹_›)).1 | exact (YV (r:=(_,_)) (by omega) ‹_› (by omega) ‹_› ‹_› ‹_› ‹_› (by first | exact YF ‹_› | exact Y0 ‹_› ‹_›)).2 | exact (YW (by omega) ‹_› (by omega) ‹_› (by omega)).1 | exact (YW (by omega) ‹_› (by omega) ‹_› (by omega)).2))⟩
 have bd2:=hvl.bound
 refine Zl hvl ZcB rfl rfl ?_
 refine LP.go ft [] (fun m ρ1 w1=>∃ (k1 : Nat),∃ (G1 : GH),m = l.length - k1 ∧ G.le G1 ∧ St w [] G G1 [] w1 ∧ FR ρ1 [(0,vl),(17,vl),(18, .int .i64 (l.length : Int)),(19, .int .i64 (k1 : Int))] ∧ k1 ≤ l.length ∧ ∀ j,j < k1 → ∀ x,l[j]? = some x → Ql l j x = none) _ ⟨0,G,rfl,(G.le_refl),hS,⟨rfl,rfl,rfl,rfl,trivial⟩,(by omega),(by intro j hj; omega)⟩ ?_
 rintro m ρ1 w1 ⟨k1,G1,rfl,hle1,hS1,hF9,f1,f2⟩
 refine hF9.set ?_
 clear hF9
 refine Zm (k1 : Int) (l.length : Int) rfl rfl rfl (fun h2=>?_) (fun h2=>?_)
 ·refine WL.indexAddr (hvl.mono hle1) k1 (by omega) ZcB Y5 rfl rfl rfl rfl (fun p1 x1 hx1 he1=>?_)
  obtain ⟨cs1,hc1,hr1⟩:=he1
  have qo1:=Yk hr1
  obtain ⟨v1,v2,rfl,hb1,hs1,hb2,hs2⟩:=qo1
  refine Zd hS1 hc1 [Zc x1.name,v1, .int .i64 x1.key,v2] Y5 rfl rfl rfl rfl rfl ?_
  refine WL.alloc hS1 Y5 rfl rfl (fun b1 w2 hn1 hS2=>?_)
  refine WL.store hS2 0 _ _ _ 0 _ [Zc x1.name,v1, .int .i64 x1.key,v2] [Zc x1.name,v1, .int .i64 x1.key,v2] _ rfl rfl Y5 rfl (Nat.le_of_ble_eq_true rfl) (by simp only [List.all_cons,List.all_nil,hs1.oneC,hs2.oneC,Bool.true_and] <;> rfl) rfl rfl rfl rfl rfl (fun w3 hS3=>?_)
  have qo2:=hS3.shutB hn1
  obtain ⟨G2,hle2,hc2,hS4⟩:=qo2
  refine Zd hS4 hc2 [Zc x1.name,v1, .int .i64 x1.key,v2] Y5 rfl rfl rfl rfl rfl ?_
  refine Zn hS4 ZlS rfl rfl rfl (Zem hS4.imm x1 _ (Yg x1 hb1 (hs1.mono hle2) hb2 (hs2.mono hle2))) (fun w4 G3 hS5 hle3=>?_)
  refine WL.split (fun (h3 : (Yu x1) = true)=>?_) (fun (h3 : (Yu x1) = false)=>?_)
  ·refine drT [2,5,6,7,8,9,10,11] [(34,Zc x1.name)] hS5 ⟨fun _ hSw=>Za hSw (XL.drop 0 (hc2.mono hle3)) YM rfl rfl rfl <| nu rfl rfl,trivial⟩ (fun w5 hS6=>?_)
   refine TG.fork 7 [2,5,6,7,8,9,10,11] [2,9] rfl rfl (by decide) (by decide) (TA.cons rfl ?_ (TA.cons rfl ?_ TA.nil))
   ·refine Ym (hvl.mono ((hle1.trans hle2).trans hle3)) k1 (by omega) ZcB Y5 rfl rfl rfl rfl (fun v3 hs3=>?_)
    refine ⟨fun _=>hS6.down hS6.le (G3.le_refl),?_⟩
    refine TG.fork 6 [5,6,7,8,9,10,11] [5,9] rfl rfl (by decide) (by decide) (TA.cons rfl ?_ (TA.cons rfl ?_ TA.nil))
    ·refine Z8 hS6 ZiI rfl rfl rfl (Zhi hS6.imm (l.take k1) x1.name _ hs3 ‹_›) ?_
     rintro w6 G4 _ ⟨r2,_,rfl,hs4,rfl⟩ hS7 hle4
     obtain ⟨cs2,rfl,hr2⟩:=hs4
     have qo3:=Yk hr2
     obtain ⟨v4,v5,rfl,hb3,hs5,hb4,hs6⟩:=qo3
     refine ⟨fun h=>absurd h (by decide),?_⟩
     refine TG.quiet 5 [6,7,8,9,10,11] 6 rfl rfl rfl rfl rfl (by decide) (fun w9 K9 k9=>WL.move rfl k9) ?_
     refine TG.quiet 4 [7,8,9,10,11] 7 rfl rfl rfl rfl rfl (by decide) (fun w9 K9 k9=>WL.extract _ _ rfl rfl rfl k9) ?_
     refine TG.quiet 3 [8,9,10,11] 8 rfl rfl rfl rfl rfl (by decide) (fun w9 K9 k9=>WL.extract _ _ rfl rfl rfl k9) ?_
     refine TG.fork 2 [9,10,11] [9] rfl rfl (by decide) (by decide) (TA.cons rfl ?_ TA.nil)
     refine WL.alloc hS7 Y5 rfl rfl (fun b2 w7 hn2 hS8=>?_)
     refine ⟨fun _=>hS8.tail.down hS6.le hle4,?_⟩
     refine TG.fork 1 [10,11] [10] rfl rfl (by decide) (by decide) (TA.cons rfl ?_ TA.nil)
     refine WL.store hS8 0 _ _ _ 0 _ [Zc (((Yf (l.take k1) x1.name).getD Xv).name),v4, .int .i64 (((Yf (l.take k1) x1.name).getD Xv).key),v5] [Zc (((Yf (l.take k1) x1.name).getD Xv).name),v4, .int .i64 (((Yf (l.take k1) x1.name).getD Xv).key),v5] _ rfl rfl Y5 rfl (Nat.le_of_ble_eq_true rfl) (by simp only [List.all_cons,List.all_nil,hs5.oneC,hs6.oneC,Bool.true_and] <;> rfl) rfl rfl rfl rfl rfl (fun w9 hS9=>?_)
     have qo4:=hS9.shutB hn2
     obtain ⟨G5,hle5,hc3,hS10⟩:=qo4
     refine ⟨fun h=>absurd h (by decide),?_⟩
     refine TG.fork 0 [11] [11] rfl rfl (by decide) (by decide) (TA.cons rfl ?_ TA.nil)
     refine WL.assign rfl ?_
     refine ⟨fun h=>absurd h (by decide),?_⟩
     refine TG.fin rfl ?_
     refine X8 (d:=7) rfl (fun (h4 : ((Yf (l.take k1) x1.name).isSome) = true)=>?_) (fun (h4 : ((Yf (l.take k1) x1.name).isSome) = false)=>?_)
     ·refine Za hS10 (XL.drop 0 (hc2.mono ((hle3.trans hle4).trans hle5))) YM rfl rfl rfl ?_
      exact RT hS10 rfl ⟨_,_,rfl,(congrArg Zc (by first | exact (YT (by omega)).1 | exact (YT (by omega)).2 | exact (YU (r:=(_,_)) (by omega) ‹_› ‹_› (by first | exact YD ‹_› | exact YE ‹_› ‹_›)).1 | exact (YU (r:=(_,_)) (by omega) ‹_› ‹_› (by first | exact YD ‹_› | exact YE ‹_› ‹_›)).2 | exact (YV (r:=(_,_)) (by omega) ‹_› (by omega) ‹_› ‹_› ‹_› ‹_› (by first | exact YF ‹_› | exact Y0 ‹_› ‹_›)).1 | exact (YV (r:=(_,_)) (by omega) ‹_› (by omega) ‹_› ‹_› ‹_› ‹_› (by first | exact YF ‹_› | exact Y0 ‹_› ‹_›)).2 | exact (YW (by omega) ‹_› (by omega) ‹_› (by omega)).1 | exact (YW (by omega) ‹_› (by omega) ‹_› (by omega)).2)),(congrArg (Value.int .i64) (by first | exact (YT (by omega)).1 | exact (YT (by omega)).2 | exact (YU (r:=(_,_)) (by omega) ‹_› ‹_› (by first | exact YD ‹_› | exact YE ‹_› ‹_›)).1 | exact (YU (r:=(_,_)) (by omega) ‹_› ‹_› (by first | exact YD ‹_› | exact YE ‹_› ‹_›)).2 | exact (YV (r:=(_,_)) (by omega) ‹_› (by omega) ‹_› ‹_› ‹_› ‹_› (by first | exact YF ‹_› | exact Y0 ‹_› ‹_›)).1 | exact (YV (r:=(_,_)) (by omega) ‹_› (by omega) ‹_› ‹_› ‹_› ‹_› (by first | exact YF ‹_› | exact Y0 ‹_› ‹_›)).2 | exact (YW (by omega) ‹_› (by omega) ‹_› (by omega)).1 | exact (YW (by omega) ‹_› (by omega) ‹_› (by omega)).2))⟩
     refine Zj k1 (by have hreach : reach = 140737488355328:=rfl; omega) rfl rfl rfl ?_
     exact BK.mk' _ ⟨k1 + 1,G5,rfl,(hle1.trans (((hle2.trans hle3).trans hle4).trans hle5)),hS10,⟨rfl,rfl,rfl,rfl,trivial⟩,(by omega),(by exact ZbH (P:=fun j x=>Ql l j x = none) ‹_› ‹_› (Zk8 ‹_› ‹_›))⟩ (show l.length - (k1 + 1) < l.length - k1 by omega)
    refine WL.alloc hS6 Y5 rfl rfl (fun b3 w10 hn3 hS11=>?_)
    refine ⟨fun _=>hS11.tail.down hS6.le (G3.le_refl),?_⟩
    refine TG.fork 5 [5,6,7,8,10,11] [5] rfl rfl (by decide) (by decide) (TA.cons rfl ?_ TA.nil)
    refine Z8 hS11 ZiI rfl rfl rfl (Zhi hS11.imm (l.take k1) x1.name _ hs3 ‹_›) ?_
    rintro w11 G6 _ ⟨r5,_,rfl,hs7,rfl⟩ hS12 hle6
    obtain ⟨cs3,rfl,hr3⟩:=hs7
    have qo5:=Yk hr3
    obtain ⟨v6,v7,rfl,hb5,hs8,hb6,hs9⟩:=qo5
    refine ⟨fun h=>absurd h (by decide),?_⟩
    refine TG.quiet 4 [6,7,8,10,11] 6 rfl rfl rfl rfl rfl (by decide) (fun w9 K9 k9=>WL.move rfl k9) ?_
    refine TG.quiet 3 [7,8,10,11] 7 rfl rfl rfl rfl rfl (by decide) (fun w9 K9 k9=>WL.extract _ _ rfl rfl rfl k9) ?_
    refine TG.quiet 2 [8,10,11] 8 rfl rfl rfl rfl rfl (by decide) (fun w9 K9 k9=>WL.extract _ _ rfl rfl rfl k9) ?_
    refine TG.fork 1 [10,11] [10] rfl rfl (by decide) (by decide) (TA.cons rfl ?_ TA.nil)
    refine WL.store hS12 0 _ _ _ 0 _ [Zc (((Yf (l.take k1) x1.name).getD Xv).name),v6, .int .i64 (((Yf (l.take k1) x1.name).getD Xv).key),v7] [Zc (((Yf (l.take k1) x1.name).getD Xv).name),v6, .int .i64 (((Yf (l.take k1) x1.name).getD Xv).key),v7] _ rfl rfl Y5 rfl (Nat.le_of_ble_eq_true rfl) (by simp only [List.all_cons,List.all_nil,hs8.oneC,hs9.oneC,Bool.true_and] <;> rfl) rfl rfl rfl rfl rfl (fun w12 hS13=>?_)
    have qo6:=hS13.shutB hn3
    obtain ⟨G7,hle7,hc4,hS14⟩:=qo6
    refine ⟨fun h=>absurd h (by decide),?_⟩
    refine TG.fork 0 [11] [11] rfl rfl (by decide) (by decide) (TA.cons rfl ?_ TA.nil)
    refine WL.assign rfl ?_
    refine ⟨fun h=>absurd h (by decide),?_⟩
    refine TG.fin rfl ?_
    refine X8 (d:=7) rfl (fun (h5 : ((Yf (l.take k1) x1.name).isSome) = true)=>?_) (fun (h5 : ((Yf (l.take k1) x1.name).isSome) = false)=>?_)
    ·refine Za hS14 (XL.drop 0 (hc2.mono ((hle3.trans hle6).trans hle7))) YM rfl rfl rfl ?_
     exact RT hS14 rfl ⟨_,_,rfl,(congrArg Zc (by first | exact (YT (by omega)).1 | exact (YT (by omega)).2 | exact (YU (r:=(_,_)) (by omega) ‹_› ‹_› (by first | exact YD ‹_› | exact YE ‹_› ‹_›)).1 | exact (YU (r:=(_,_)) (by omega) ‹_› ‹_› (by first | exact YD ‹_› | exact YE ‹_› ‹_›)).2 | exact (YV (r:=(_,_)) (by omega) ‹_› (by omega) ‹_› ‹_› ‹_› ‹_› (by first | exact YF ‹_› | exact Y0 ‹_› ‹_›)).1 | exact (YV (r:=(_,_)) (by omega) ‹_› (by omega) ‹_› ‹_› ‹_› ‹_› (by first | exact YF ‹_› | exact Y0 ‹_› ‹_›)).2 | exact (YW (by omega) ‹_› (by omega) ‹_› (by omega)).1 | exact (YW (by omega) ‹_› (by omega) ‹_› (by omega)).2)),(congrArg (Value.int .i64) (by first | exact (YT (by omega)).1 | exact (YT (by omega)).2 | exact (YU (r:=(_,_)) (by omega) ‹_› ‹_› (by first | exact YD ‹_› | exact YE ‹_› ‹_›)).1 | exact (YU (r:=(_,_)) (by omega) ‹_› ‹_› (by first | exact YD ‹_› | exact YE ‹_› ‹_›)).2 | exact (YV (r:=(_,_)) (by omega) ‹_› (by omega) ‹_› ‹_› ‹_› ‹_› (by first | exact YF ‹_› | exact Y0 ‹_› ‹_›)).1 | exact (YV (r:=(_,_)) (by omega) ‹_› (by omega) ‹_› ‹_› ‹_› ‹_› (by first | exact YF ‹_› | exact Y0 ‹_› ‹_›)).2 | exact (YW (by omega) ‹_› (by omega) ‹_› (by omega)).1 | exact (YW (by omega) ‹_› (by omega) ‹_› (by omega)).2))⟩
    refine Zj k1 (by have hreach : reach = 140737488355328:=rfl; omega) rfl rfl rfl ?_
    exact BK.mk' _ ⟨k1 + 1,G7,rfl,(hle1.trans (((hle2.trans hle3).trans hle6).trans hle7)),hS14,⟨rfl,rfl,rfl,rfl,trivial⟩,(by omega),(by exact ZbH (P:=fun j x=>Ql l j x = none) ‹_› ‹_› (Zk8 ‹_› ‹_›))⟩ (show l.length - (k1 + 1) < l.length - k1 by omega)
   refine WL.alloc hS6 Y5 rfl rfl (fun b4 w13 hn4 hS15=>?_)
   refine ⟨fun _=>hS15.tail.down hS6.le (G3.le_refl),?_⟩
   refine TG.fork 6 [2,5,6,7,8,10,11] [2] rfl rfl (by decide) (by decide) (TA.cons rfl ?_ TA.nil)
   refine Ym (hvl.mono ((hle1.trans hle2).trans hle3)) k1 (by omega) ZcB Y5 rfl rfl rfl rfl (fun v9 hs10=>?_)
   refine ⟨fun _=>hS15.tail.down hS6.le (G3.le_refl),?_⟩
   refine TG.fork 5 [5,6,7,8,10,11] [5] rfl rfl (by decide) (by decide) (TA.cons rfl ?_ TA.nil)
   refine Z8 hS15 ZiI rfl rfl rfl (Zhi hS15.imm (l.take k1) x1.name _ hs10 ‹_›) ?_
   rintro w14 G9 _ ⟨r8,_,rfl,hs11,rfl⟩ hS16 hle9
   obtain ⟨cs4,rfl,hr4⟩:=hs11
   have qo7:=Yk hr4
   obtain ⟨v10,v11,rfl,hb7,hs12,hb8,hs13⟩:=qo7
   refine ⟨fun h=>absurd h (by decide),?_⟩
   refine TG.quiet 4 [6,7,8,10,11] 6 rfl rfl rfl rfl rfl (by decide) (fun w9 K9 k9=>WL.move rfl k9) ?_
   refine TG.quiet 3 [7,8,10,11] 7 rfl rfl rfl rfl rfl (by decide) (fun w9 K9 k9=>WL.extract _ _ rfl rfl rfl k9) ?_
   refine TG.quiet 2 [8,10,11] 8 rfl rfl rfl rfl rfl (by decide) (fun w9 K9 k9=>WL.extract _ _ rfl rfl rfl k9) ?_
   refine TG.fork 1 [10,11] [10] rfl rfl (by decide) (by decide) (TA.cons rfl ?_ TA.nil)
   refine WL.store hS16 0 _ _ _ 0 _ [Zc (((Yf (l.take k1) x1.name).getD Xv).name),v10, .int .i64 (((Yf (l.take k1) x1.name).getD Xv).key),v11] [Zc (((Yf (l.take k1) x1.name).getD Xv).name),v10, .int .i64 (((Yf (l.take k1) x1.name).getD Xv).key),v11] _ rfl rfl Y5 rfl (Nat.le_of_ble_eq_true rfl) (by simp only [List.all_cons,List.all_nil,hs12.oneC,hs13.oneC,Bool.true_and] <;> rfl) rfl rfl rfl rfl rfl (fun w15 hS17=>?_)
   have qo8:=hS17.shutB hn4
   obtain ⟨G10,hle10,hc5,hS18⟩:=qo8
   refine ⟨fun h=>absurd h (by decide),?_⟩
   refine TG.fork 0 [11] [11] rfl rfl (by decide) (by decide) (TA.cons rfl ?_ TA.nil)
   refine WL.assign rfl ?_
   refine ⟨fun h=>absurd h (by decide),?_⟩
   refine TG.fin rfl ?_
   refine X8 (d:=7) rfl (fun (h6 : ((Yf (l.take k1) x1.name).isSome) = true)=>?_) (fun (h6 : ((Yf (l.take k1) x1.name).isSome) = false)=>?_)
   ·refine Za hS18 (XL.drop 0 (hc2.mono ((hle3.trans hle9).trans hle10))) YM rfl rfl rfl ?_
    exact RT hS18 rfl ⟨_,_,rfl,(congrArg Zc (by first | exact (YT (by omega)).1 | exact (YT (by omega)).2 | exact (YU (r:=(_,_)) (by omega) ‹_› ‹_› (by first | exact YD ‹_› | exact YE ‹_› ‹_›)).1 | exact (YU (r:=(_,_)) (by omega) ‹_› ‹_› (by first | exact YD ‹_› | exact YE ‹_› ‹_›)).2 | exact (YV (r:=(_,_)) (by omega) ‹_› (by omega) ‹_› ‹_› ‹_› ‹_› (by first | exact YF ‹_› | exact Y0 ‹_› ‹_›)).1 | exact (YV (r:=(_,_)) (by omega) ‹_› (by omega) ‹_› ‹_› ‹_› ‹_› (by first | exact YF ‹_› | exact Y0 ‹_› ‹_›)).2 | exact (YW (by omega) ‹_› (by omega) ‹_› (by omega)).1 | exact (YW (by omega) ‹_› (by omega) ‹_› (by omega)).2)),(congrArg (Value.int .i64) (by first | exact (YT (by omega)).1 | exact (YT (by omega)).2 | exact (YU (r:=(_,_)) (by omega) ‹_› ‹_› (by first | exact YD ‹_› | exact YE ‹_› ‹_›)).1 | exact (YU (r:=(_,_)) (by omega) ‹_› ‹_› (by first | exact YD ‹_› | exact YE ‹_› ‹_›)).2 | exact (YV (r:=(_,_)) (by omega) ‹_› (by omega) ‹_› ‹_› ‹_› ‹_› (by first | exact YF ‹_› | exact Y0 ‹_› ‹_›)).1 | exact (YV (r:=(_,_)) (by omega) ‹_› (by omega) ‹_› ‹_› ‹_› ‹_› (by first | exact YF ‹_› | exact Y0 ‹_› ‹_›)).2 | exact (YW (by omega) ‹_› (by omega) ‹_› (by omega)).1 | exact (YW (by omega) ‹_› (by omega) ‹_› (by omega)).2))⟩
   refine Zj k1 (by have hreach : reach = 140737488355328:=rfl; omega) rfl rfl rfl ?_
   exact BK.mk' _ ⟨k1 + 1,G10,rfl,(hle1.trans (((hle2.trans hle3).trans hle9).trans hle10)),hS18,⟨rfl,rfl,rfl,rfl,trivial⟩,(by omega),(by exact ZbH (P:=fun j x=>Ql l j x = none) ‹_› ‹_› (Zk8 ‹_› ‹_›))⟩ (show l.length - (k1 + 1) < l.length - k1 by omega)
  refine Za hS5 (XL.drop 0 (hc2.mono hle3)) YM rfl rfl rfl ?_
  exact RT hS5 rfl ⟨_,_,rfl,(congrArg Zc (by first | exact (YT (by omega)).1 | exact (YT (by omega)).2 | exact (YU (r:=(_,_)) (by omega) ‹_› ‹_› (by first | exact YD ‹_› | exact YE ‹_› ‹_›)).1 | exact (YU (r:=(_,_)) (by omega) ‹_› ‹_› (by first | exact YD ‹_› | exact YE ‹_› ‹_›)).2 | exact (YV (r:=(_,_)) (by omega) ‹_› (by omega) ‹_› ‹_› ‹_› ‹_› (by first | exact YF ‹_› | exact Y0 ‹_› ‹_›)).1 | exact (YV (r:=(_,_)) (by omega) ‹_› (by omega) ‹_› ‹_› ‹_› ‹_› (by first | exact YF ‹_› | exact Y0 ‹_› ‹_›)).2 | exact (YW (by omega) ‹_› (by omega) ‹_› (by omega)).1 | exact (YW (by omega) ‹_› (by omega) ‹_› (by omega)).2)),(congrArg (Value.int .i64) (by first | exact (YT (by omega)).1 | exact (YT (by omega)).2 | exact (YU (r:=(_,_)) (by omega) ‹_› ‹_› (by first | exact YD ‹_› | exact YE ‹_› ‹_›)).1 | exact (YU (r:=(_,_)) (by omega) ‹_› ‹_› (by first | exact YD ‹_› | exact YE ‹_› ‹_›)).2 | exact (YV (r:=(_,_)) (by omega) ‹_› (by omega) ‹_› ‹_› ‹_› ‹_› (by first | exact YF ‹_› | exact Y0 ‹_› ‹_›)).1 | exact (YV (r:=(_,_)) (by omega) ‹_› (by omega) ‹_› ‹_› ‹_› ‹_› (by first | exact YF ‹_› | exact Y0 ‹_› ‹_›)).2 | exact (YW (by omega) ‹_› (by omega) ‹_› (by omega)).1 | exact (YW (by omega) ‹_› (by omega) ‹_› (by omega)).2))⟩
 have hva:=ZoF (by assumption : ∀ j,j < k1 → ∀ x,l[j]? = some x → Ql l j x = none) (by omega)
 have bd3:=hvl.bound
 refine Zl (hvl.mono hle1) ZcB rfl rfl ?_
 refine LP.go ft [] (fun m ρ1 w1=>∃ (k2 : Nat),∃ (G11 : GH),m = l.length - k2 ∧ G1.le G11 ∧ St w [] G G11 [] w1 ∧ FR ρ1 [(0,vl),(42,vl),(43, .int .i64 (l.length : Int)),(44, .int .i64 (k2 : Int))] ∧ k2 ≤ l.length ∧ ∀ j,j < k2 → ∀ s,l[j]? = some s → s.fks.findSome? (Za6 l s) = none) _ ⟨0,G1,rfl,(G1.le_refl),hS1,⟨rfl,rfl,rfl,rfl,trivial⟩,(by omega),(by intro j hj; omega)⟩ ?_
 rintro m ρ1 w16 ⟨k2,G11,rfl,hle11,hS19,hF9,f3,f4⟩
 refine hF9.set ?_
 clear hF9
 refine Zm (k2 : Int) (l.length : Int) rfl rfl rfl (fun h7=>?_) (fun h7=>?_)
 ·refine WL.indexAddr (hvl.mono (hle1.trans hle11)) k2 (by omega) ZcB Y5 rfl rfl rfl rfl (fun p2 x2 hx2 he2=>?_)
  obtain ⟨cs5,hc6,hr5⟩:=he2
  have qo9:=Yk hr5
  obtain ⟨v12,v13,rfl,hb9,hs14,hb10,hs15⟩:=qo9
  refine Zd hS19 hc6 [Zc x2.name,v12, .int .i64 x2.key,v13] Y5 rfl rfl rfl rfl rfl ?_
  refine WL.alloc hS19 Y5 rfl rfl (fun b5 w17 hn5 hS20=>?_)
  refine WL.store hS20 0 _ _ _ 0 _ [Zc x2.name,v12, .int .i64 x2.key,v13] [Zc x2.name,v12, .int .i64 x2.key,v13] _ rfl rfl Y5 rfl (Nat.le_of_ble_eq_true rfl) (by simp only [List.all_cons,List.all_nil,hs14.oneC,hs15.oneC,Bool.true_and] <;> rfl) rfl rfl rfl rfl rfl (fun w18 hS21=>?_)
  have qo10:=hS21.shutB hn5
  obtain ⟨G12,hle12,hc7,hS22⟩:=qo10
  refine Za hS22 (XL.drop 3 hc7) Zhl rfl rfl rfl ?_
  have bd4:=hs15.bound
  refine Zl (hs15.mono hle12) Zdr rfl rfl ?_
  refine LP.go ft [] (fun m ρ1 w1=>∃ (k3 : Nat),∃ (G13 : GH),m = x2.fks.length - k3 ∧ G12.le G13 ∧ St w [] G G13 [] w1 ∧ FR ρ1 [(0,vl),(9, .pointer (some (⟨b5,0,none⟩ : Addr))),(42,vl),(43, .int .i64 (l.length : Int)),(44, .int .i64 (k2 : Int)),(49,v13),(50, .int .i64 (x2.fks.length : Int)),(51, .int .i64 (k3 : Int))] ∧ k3 ≤ x2.fks.length ∧ ∀ j,j < k3 → ∀ f,x2.fks[j]? = some f → Za6 l x2 f = none) _ ⟨0,G12,rfl,(G12.le_refl),hS22,⟨rfl,rfl,rfl,rfl,rfl,rfl,rfl,rfl,trivial⟩,(by omega),(by intro j hj; omega)⟩ ?_
  rintro m ρ1 w19 ⟨k3,G13,rfl,hle13,hS23,hF9,f5,f6⟩
  refine hF9.set ?_
  clear hF9
  refine Zm (k3 : Int) (x2.fks.length : Int) rfl rfl rfl (fun h8=>?_) (fun h8=>?_)
  ·refine WL.indexAddr (hs15.mono (hle12.trans hle13)) k3 (by omega) Zdr QJ rfl rfl rfl rfl (fun p3 x3 hx3 he3=>?_)
   obtain ⟨cs6,hc8,hr6⟩:=he3
   have qo11:=XC hr6
   obtain ⟨v14,rfl,hs16,YL⟩:=qo11
   refine Zd hS23 hc8 [v14,Zc x3.table] QJ rfl rfl rfl rfl rfl ?_
   refine WL.alloc hS23 QJ rfl rfl (fun b6 w20 hn6 hS24=>?_)
   refine WL.store hS24 0 _ _ _ 0 _ [v14,Zc x3.table] [v14,Zc x3.table] _ rfl rfl QJ rfl (Nat.le_of_ble_eq_true rfl) (by simp only [List.all_cons,List.all_nil,hs16.oneC,Bool.true_and] <;> rfl) rfl rfl rfl rfl rfl (fun w21 hS25=>?_)
   have qo12:=hS25.shutB hn6
   obtain ⟨G14,hle14,hc9,hS26⟩:=qo12
   refine Za hS26 (XL.drop 1 hc9) YM rfl rfl rfl ?_
   refine Z8 hS26 ZiI rfl rfl rfl (Zhi hS26.imm l x3.table _ (hvl.mono ((((hle1.trans hle11).trans hle12).trans hle13).trans hle14)) ‹_›) ?_
   rintro w22 G15 _ ⟨r11,_,rfl,hs17,rfl⟩ hS27 hle15
   obtain ⟨cs7,rfl,hr7⟩:=hs17
   have qo13:=Yk hr7
   obtain ⟨v15,v16,rfl,Xl,hs18,X2,hs19⟩:=qo13
   refine WL.alloc hS27 Y5 rfl rfl (fun b7 w23 hn7 hS28=>?_)
   refine WL.store hS28 0 _ _ _ 0 _ [Zc (((Yf l x3.table).getD Xv).name),v15, .int .i64 (((Yf l x3.table).getD Xv).key),v16] [Zc (((Yf l x3.table).getD Xv).name),v15, .int .i64 (((Yf l x3.table).getD Xv).key),v16] _ rfl rfl Y5 rfl (Nat.le_of_ble_eq_true rfl) (by simp only [List.all_cons,List.all_nil,hs18.oneC,hs19.oneC,Bool.true_and] <;> rfl) rfl rfl rfl rfl rfl (fun w24 hS29=>?_)
   have qo14:=hS29.shutB hn7
   obtain ⟨G16,hle16,hc10,hS30⟩:=qo14
   refine X8 (d:=61) rfl (fun (h9 : ((Yf l x3.table).isSome) = true)=>?_) (fun (h9 : ((Yf l x3.table).isSome) = false)=>?_)
   ·refine Zd hS30 (hc7.mono (((hle13.trans hle14).trans hle15).trans hle16)) [Zc x2.name,v12, .int .i64 x2.key,v13] Y5 rfl rfl rfl rfl rfl <| Zd hS30 (hc9.mono (hle15.trans hle16)) [v14,Zc x3.table] QJ rfl rfl rfl rfl rfl <| Zd hS30 hc10 [Zc (((Yf l x3.table).getD Xv).name),v15, .int .i64 (((Yf l x3.table).getD Xv).key),v16] Y5 rfl rfl rfl rfl rfl ?_
    refine Zn hS30 Zug rfl rfl rfl (Zsv hS30.imm x2 x3 (Schema.mk (((Yf l x3.table).getD Xv).name) (((Yf l x3.table).getD Xv).cols) (((Yf l x3.table).getD Xv).key) (((Yf l x3.table).getD Xv).fks)) _ (Yg x2 hb9 (hs14.mono ((((hle12.trans hle13).trans hle14).trans hle15).trans hle16)) hb10 (hs15.mono ((((hle12.trans hle13).trans hle14).trans hle15).trans hle16))) _ (ZaU x3 (hs16.mono ((hle14.trans hle15).trans hle16)) YL) _ (Yg (Schema.mk (((Yf l x3.table).getD Xv).name) (((Yf l x3.table).getD Xv).cols) (((Yf l x3.table).getD Xv).key) (((Yf l x3.table).getD Xv).fks)) Xl (hs18.mono hle16) X2 (hs19.mono hle16)) (Zss (hva _ (List.mem_of_getElem? (by assumption : l[k2]? = some _))) (List.mem_of_getElem? ‹_›)) (Zgh (hva _ (Zl3 ‹_›).1)).2) (fun w25 G17 hS31 hle17=>?_)
    refine WL.split (fun (h10 : (ZaJ x2 x3 (Schema.mk (((Yf l x3.table).getD Xv).name) (((Yf l x3.table).getD Xv).cols) (((Yf l x3.table).getD Xv).key) (((Yf l x3.table).getD Xv).fks))) = true)=>?_) (fun (h10 : (ZaJ x2 x3 (Schema.mk (((Yf l x3.table).getD Xv).name) (((Yf l x3.table).getD Xv).cols) (((Yf l x3.table).getD Xv).key) (((Yf l x3.table).getD Xv).fks))) = false)=>?_)
    ·refine Zj k3 (by have hreach : reach = 140737488355328:=rfl; omega) rfl rfl rfl ?_
     exact BK.mk' _ ⟨k3 + 1,G17,rfl,(hle13.trans (((hle14.trans hle15).trans hle16).trans hle17)),hS31,⟨rfl,rfl,rfl,rfl,rfl,rfl,rfl,rfl,trivial⟩,(by omega),(by exact Yj ‹_› ‹_› (ZtL ‹_› ‹_›))⟩ (show x2.fks.length - (k3 + 1) < x2.fks.length - k3 by omega)
    refine Za hS31 (XL.drop 1 (hc9.mono ((hle15.trans hle16).trans hle17))) YM rfl rfl rfl ?_
    exact RT hS31 rfl ⟨_,_,rfl,(congrArg Zc (by first | exact (YT (by omega)).1 | exact (YT (by omega)).2 | exact (YU (r:=(_,_)) (by omega) ‹_› ‹_› (by first | exact YD ‹_› | exact YE ‹_› ‹_›)).1 | exact (YU (r:=(_,_)) (by omega) ‹_› ‹_› (by first | exact YD ‹_› | exact YE ‹_› ‹_›)).2 | exact (YV (r:=(_,_)) (by omega) ‹_› (by omega) ‹_› ‹_› ‹_› ‹_› (by first | exact YF ‹_› | exact Y0 ‹_› ‹_›)).1 | exact (YV (r:=(_,_)) (by omega) ‹_› (by omega) ‹_› ‹_› ‹_› ‹_› (by first | exact YF ‹_› | exact Y0 ‹_› ‹_›)).2 | exact (YW (by omega) ‹_› (by omega) ‹_› (by omega)).1 | exact (YW (by omega) ‹_› (by omega) ‹_› (by omega)).2)),(congrArg (Value.int .i64) (by first | exact (YT (by omega)).1 | exact (YT (by omega)).2 | exact (YU (r:=(_,_)) (by omega) ‹_› ‹_› (by first | exact YD ‹_› | exact YE ‹_› ‹_›)).1 | exact (YU (r:=(_,_)) (by omega) ‹_› ‹_› (by first | exact YD ‹_› | exact YE ‹_› ‹_›)).2 | exact (YV (r:=(_,_)) (by omega) ‹_› (by omega) ‹_› ‹_› ‹_› ‹_› (by first | exact YF ‹_› | exact Y0 ‹_› ‹_›)).1 | exact (YV (r:=(_,_)) (by omega) ‹_› (by omega) ‹_› ‹_› ‹_› ‹_› (by first | exact YF ‹_› | exact Y0 ‹_› ‹_›)).2 | exact (YW (by omega) ‹_› (by omega) ‹_› (by omega)).1 | exact (YW (by omega) ‹_› (by omega) ‹_› (by omega)).2))⟩
   refine Za hS30 (XL.drop 1 (hc9.mono (hle15.trans hle16))) YM rfl rfl rfl ?_
   exact RT hS30 rfl ⟨_,_,rfl,(congrArg Zc (by first | exact (YT (by omega)).1 | exact (YT (by omega)).2 | exact (YU (r:=(_,_)) (by omega) ‹_› ‹_› (by first | exact YD ‹_› | exact YE ‹_› ‹_›)).1 | exact (YU (r:=(_,_)) (by omega) ‹_› ‹_› (by first | exact YD ‹_› | exact YE ‹_› ‹_›)).2 | exact (YV (r:=(_,_)) (by omega) ‹_› (by omega) ‹_› ‹_› ‹_› ‹_› (by first | exact YF ‹_› | exact Y0 ‹_› ‹_›)).1 | exact (YV (r:=(_,_)) (by omega) ‹_› (by omega) ‹_› ‹_› ‹_› ‹_› (by first | exact YF ‹_› | exact Y0 ‹_› ‹_›)).2 | exact (YW (by omega) ‹_› (by omega) ‹_› (by omega)).1 | exact (YW (by omega) ‹_› (by omega) ‹_› (by omega)).2)),(congrArg (Value.int .i64) (by first | exact (YT (by omega)).1 | exact (YT (by omega)).2 | exact (YU (r:=(_,_)) (by omega) ‹_› ‹_› (by first | exact YD ‹_› | exact YE ‹_› ‹_›)).1 | exact (YU (r:=(_,_)) (by omega) ‹_› ‹_› (by first | exact YD ‹_› | exact YE ‹_› ‹_›)).2 | exact (YV (r:=(_,_)) (by omega) ‹_› (by omega) ‹_› ‹_› ‹_› ‹_› (by first | exact YF ‹_› | exact Y0 ‹_› ‹_›)).1 | exact (YV (r:=(_,_)) (by omega) ‹_› (by omega) ‹_› ‹_› ‹_› ‹_› (by first | exact YF ‹_› | exact Y0 ‹_› ‹_›)).2 | exact (YW (by omega) ‹_› (by omega) ‹_› (by omega)).1 | exact (YW (by omega) ‹_› (by omega) ‹_› (by omega)).2))⟩
  refine Zj k2 (by have hreach : reach = 140737488355328:=rfl; omega) rfl rfl rfl ?_
  exact BK.mk' _ ⟨k2 + 1,G13,rfl,(hle11.trans (hle12.trans hle13)),hS23,⟨rfl,rfl,rfl,rfl,trivial⟩,(by omega),(by exact Yj ‹_› ‹_› (ZbN ‹_› (by omega)))⟩ (show l.length - (k2 + 1) < l.length - k2 by omega)
 exact RT hS19 rfl ⟨_,_,rfl,(congrArg Zc (by first | exact (YT (by omega)).1 | exact (YT (by omega)).2 | exact (YU (r:=(_,_)) (by omega) ‹_› ‹_› (by first | exact YD ‹_› | exact YE ‹_› ‹_›)).1 | exact (YU (r:=(_,_)) (by omega) ‹_› ‹_› (by first | exact YD ‹_› | exact YE ‹_› ‹_›)).2 | exact (YV (r:=(_,_)) (by omega) ‹_› (by omega) ‹_› ‹_› ‹_› ‹_› (by first | exact YF ‹_› | exact Y0 ‹_› ‹_›)).1 | exact (YV (r:=(_,_)) (by omega) ‹_› (by omega) ‹_› ‹_› ‹_› ‹_› (by first | exact YF ‹_› | exact Y0 ‹_› ‹_›)).2 | exact (YW (by omega) ‹_› (by omega) ‹_› (by omega)).1 | exact (YW (by omega) ‹_› (by omega) ‹_› (by omega)).2)),(congrArg (Value.int .i64) (by first | exact (YT (by omega)).1 | exact (YT (by omega)).2 | exact (YU (r:=(_,_)) (by omega) ‹_› ‹_› (by first | exact YD ‹_› | exact YE ‹_› ‹_›)).1 | exact (YU (r:=(_,_)) (by omega) ‹_› ‹_› (by first | exact YD ‹_› | exact YE ‹_› ‹_›)).2 | exact (YV (r:=(_,_)) (by omega) ‹_› (by omega) ‹_› ‹_› ‹_› ‹_› (by first | exact YF ‹_› | exact Y0 ‹_› ‹_›)).1 | exact (YV (r:=(_,_)) (by omega) ‹_› (by omega) ‹_› ‹_› ‹_› ‹_› (by first | exact YF ‹_› | exact Y0 ‹_› ‹_›)).2 | exact (YW (by omega) ‹_› (by omega) ‹_› (by omega)).1 | exact (YW (by omega) ‹_› (by omega) ‹_› (by omega)).2))⟩
end Go.Civ
