/- Lemmas. -/
import Derived.Test.YthgeclodflmiaaaGreatC20
import Derived.Test.YthgeclodflmiaaaGreatC25
import Derived.Test.YthgeclodflmiaaaGreatC27
import Derived.Test.YthgeclodflmiaaaGreatC28
import Derived.Test.YthgeclodflmiaaaGreatC32
import Derived.Test.YthgeclodflmiaaaGreatC38
import Derived.Test.YthgeclodflmiaaaGreatProg
import Derived.KernelRfl
import Derived.WalkKit
set_option linter.unusedVariables false
set_option linter.unusedSimpArgs false
set_option maxRecDepth 100000
set_option maxHeartbeats 4000000
namespace Go.Civ
open Go.Proofs
theorem ZoD {G : GH} {w : World} (hG : G.In w) (s : Schema) (nm : List UInt8) (cs : List Value) (hcs : SchemaE.rep G s cs) : CL Tryz.prog (nat_lit 28) #[.agg cs.toArray,Zc nm] [] w G fun _ _ r=>r = .int .i64 (Xf (s.cols.map Col.name) nm):=by
 refine Zh ft [] Tryz.func28 rfl rfl ?_
 have hS:=St.start (X:=[]) hG
 obtain ⟨v1,v2,rfl,hb1,hs1,hb2,hs2⟩:=Yk hcs
 refine Z3 [Zc s.name,v1, .int .i64 s.key,v2] _ hS rfl rfl rfl (fun p1 w1 G1 hle1 hsp1 hc1 hS1=>?_)
 refine LP.go ft [] (fun m ρ1 w1=>∃ (k1 : Nat),∃ (G2 : GH),m = s.cols.length - k1 ∧ G1.le G2 ∧ St w [] G G2 [] w1 ∧ FR ρ1 [(1,Zc nm),(2, .pointer (some p1)),(5, .int .i64 (k1 : Int))] ∧ k1 ≤ s.cols.length ∧ ∀ j,j < k1 → ∀ x,s.cols[j]? = some x → decide (x.name = nm) = false) _ ⟨0,G1,rfl,(G1.le_refl),hS1,⟨rfl,rfl,rfl,trivial⟩,(by omega),(by intro j hj; omega)⟩ ?_
 rintro m ρ1 w2 ⟨k1,G2,rfl,hle2,hS2,hF9,f1,f2⟩
 refine hF9.set ?_
 clear hF9
 refine Za hS2 (XL.drop 1 (hc1.mono hle2)) Zce rfl rfl rfl ?_
 have bd1:=hs1.bound
 refine Zl (hs1.mono (hle1.trans hle2)) ZaN rfl rfl ?_
 refine Zm (k1 : Int) (s.cols.length : Int) rfl rfl rfl (fun h1=>?_) (fun h1=>?_)
 ·refine Za hS2 (XL.drop 1 (hc1.mono hle2)) Zce rfl rfl rfl ?_
  refine WL.indexAddr (hs1.mono (hle1.trans hle2)) k1 (by omega) ZaN XN rfl rfl rfl rfl (fun p2 x1 hx1 he1=>?_)
  obtain ⟨cs1,hc2,hr1⟩:=he1
  obtain ⟨rfl,hb3,hb4⟩:=Zap hr1
  refine Za hS2 (XL.drop 0 hc2) YM rfl rfl rfl <| YX .eql rfl x1.name nm rfl rfl rfl ?_
  refine WL.split (fun h0=>?_) (fun h0=>?_)
  ·have h2 : x1.name = nm:=by simpa [SCmp.b] using h0
   clear h0
   exact RI hS2 rfl (by exact ZtG ‹_› ‹_› ‹_›)
  have h2 : x1.name ≠ nm:=by simpa [SCmp.b] using h0
  clear h0
  refine Zj k1 (by have hreach : reach = 140737488355328:=rfl; omega) rfl rfl rfl ?_
  exact BK.mk' _ ⟨k1 + 1,G2,rfl,hle2,hS2,⟨rfl,rfl,rfl,trivial⟩,(by omega),(by exact Yj ‹_› ‹_› (decide_eq_false ‹_›))⟩ (show s.cols.length - (k1 + 1) < s.cols.length - k1 by omega)
 exact RI hS2 rfl (by exact ZtH ‹_› (by omega))
theorem Zsr {G : GH} {w : World} (hG : G.In w) (s : Schema) (f : Foreign) (v : List Val) (cs : List Value) (hcs : SchemaE.rep G s cs) (cf : List Value) (hcf : ForeignE.rep G f cf) (vv : Value) (hvv : Sl ValE 32 G vv v) (ka : ∀ c ∈ f.cols,0 ≤ Xf (s.cols.map Col.name) c) (kb : s.cols.length ≤ v.length) (kc : f.cols.length ≤ 1000) : CL Tryz.prog (nat_lit 37) #[.agg cs.toArray, .agg cf.toArray,vv] [] w G fun G' _ r=>Sl ValE 32 G' r (Zb4 s f.cols v):=by
 refine Zh ft [] Tryz.func37 rfl rfl ?_
 have hS:=St.start (X:=[]) hG
 obtain ⟨v1,v2,rfl,hb1,hs1,hb2,hs2⟩:=Yk hcs
 obtain ⟨v3,rfl,hs3,hb3⟩:=XC hcf
 refine Z3 [Zc s.name,v1, .int .i64 s.key,v2] _ hS rfl rfl rfl (fun p1 w1 G1 hle1 hsp1 hc1 hS1=>?_)
 refine Z3 [v3,Zc f.table] _ hS1 rfl rfl rfl (fun p2 w2 G2 hle2 hsp2 hc2 hS2=>?_)
 have hS4:=hS2.pad
 refine LP.go ft [] (fun m ρ1 w1=>∃ (k1 : Nat),∃ (v4 : Value) (o1 : OB),∃ (G3 : GH),m = f.cols.length - k1 ∧ G2.le G3 ∧ St w [] G G3 [o1] w1 ∧ Yb ValE 32 58 G3 v4 (Zb4 s (f.cols.take k1) v) o1 ∧ FR ρ1 [(2,vv),(3, .pointer (some p1)),(4, .pointer (some p2)),(7,v4),(8, .int .i64 (k1 : Int))] ∧ k1 ≤ f.cols.length) _ ⟨0,(.slice none 0 0),none,G2,rfl,(G2.le_refl),hS4,(Yb.cast (Yb.nil ValE 32 58 G2) (by rfl)),⟨rfl,rfl,rfl,rfl,rfl,trivial⟩,(by omega)⟩ ?_
 rintro m ρ1 w3 ⟨k1,v4,o1,G3,rfl,hle3,hS3,hr1,hF9,f1⟩
 refine hF9.set ?_
 clear hF9
 have hrl:=Zq3 (s:=s) (v:=v) f.cols k1
 refine Za hS3 (XL.drop 0 (hc2.mono hle3)) ZdP rfl rfl rfl ?_
 have bd1:=hs3.bound
 refine Zl (hs3.mono ((hle1.trans hle2).trans hle3)) Zav rfl rfl ?_
 refine Zm (k1 : Int) (f.cols.length : Int) rfl rfl rfl (fun h1=>?_) (fun h1=>?_)
 ·obtain ⟨cv,hcv⟩:=Za1 (l:=f.cols) (k:=k1) (by omega)
  have hix9:=ka cv (List.mem_of_getElem? hcv)
  have hlt9:=Zkx hix9
  have hfl:=(by assumption : Sl Enc.str 16 G _ f.cols).bytes
  obtain ⟨p3,x1,hx1,he1,ep1⟩:=Sl.at (hs3.mono ((hle1.trans hle2).trans hle3)) k1 (by omega)
  obtain rfl : cv = x1:=Option.some.inj (hcv.symm.trans hx1)
  obtain ⟨cs1,hc3,hr2⟩:=he1
  obtain ⟨rfl,hb4⟩:=hr2
  obtain ⟨p4,x2,hx2,he2,ep2⟩:=Sl.at (hvv.mono ((hle1.trans hle2).trans hle3)) (((Xf (s.cols.map Col.name) cv)).toNat) (by omega)
  obtain ⟨cs2,hc4,hr3⟩:=he2
  obtain ⟨rfl,hb5,hb6,hb7⟩:=Y4 hr3
  refine dr [(11,false),(12,false),(13,false)] [(18, .agg #[Zc s.name,v1, .int .i64 s.key,v2]),(20,v3),(22, .pointer (some p3)),(23,Zc cv),(24, .int .i64 (Xf (s.cols.map Col.name) cv)),(25, .pointer (some p4)),(26, .agg #[.int .i64 x2.k, .int .i64 x2.n,Zc x2.s])] hS3 ⟨fun _ hSw=>Zd hSw (hc1.mono (hle2.trans hle3)) [Zc s.name,v1, .int .i64 s.key,v2] Y5 rfl rfl rfl rfl rfl <| nu rfl rfl,fun _ hSw=>Za hSw (XL.drop 0 (hc2.mono hle3)) ZdP rfl rfl rfl <| nu rfl rfl,fun _=>Zi k1 ep1 Zav YM rfl rfl rfl rfl <| nu rfl rfl,fun _ hSw=>Za hSw hc3 YM rfl rfl rfl <| nu rfl rfl,fun _ hSw=>ZO hSw ZlQ rfl rfl rfl (ZoD hSw.imm s cv _ (Yg s hb1 (hs1.mono ((hle1.trans hle2).trans hle3)) hb2 (hs2.mono ((hle1.trans hle2).trans hle3)))) rfl,fun _=>Zi (((Xf (s.cols.map Col.name) cv)).toNat) ep2 Yz Ye rfl rfl rfl (congrArg (Value.int .i64) (Int.toNat_of_nonneg (by omega)).symm) <| nu rfl rfl,fun _ hSw=>Zd hSw hc4 [.int .i64 x2.k, .int .i64 x2.n,Zc x2.s] Ye rfl rfl rfl rfl rfl <| nu rfl rfl,trivial⟩ (fun w4 hS5=>?_)
  refine WL.buildSlice _ [(0,[.int .i64 x2.k, .int .i64 x2.n,Zc x2.s])] [.int .i64 x2.k, .int .i64 x2.n,Zc x2.s] hS5 Zjw rfl rfl rfl rfl (fun z hz=>by match z,hz with | [z0,z1,z2],_=>rfl) (fun b1 w5 hn1 hS6=>?_)
  refine WL.push (m:=([x2] : List Val)) Zjw rfl rfl rfl hr1 hS6 1 rfl 0 _ _ _ _ _ rfl ⟨[.int .i64 x2.k, .int .i64 x2.n,Zc x2.s],_,rfl,(Qs x2 hb5 hb6 hb7),rfl⟩ rfl (by have hreach : reach = 140737488355328:=rfl; simp only [List.length_append,List.length_cons,List.length_nil]; omega) (by have hreach : reach = 140737488355328:=rfl; simp only [List.length_append,List.length_cons,List.length_nil]; omega) rfl rfl rfl (fun v5 o2 w6 hr4 hS7=>?_)
  have hS8:=hS7.tail
  refine Zj k1 (by have hreach : reach = 140737488355328:=rfl; omega) rfl rfl rfl ?_
  exact BK.mk' _ ⟨k1 + 1,v5,o2,G3,rfl,hle3,hS8,(Yb.cast hr4 (by (exact (Zo8 hcv ‹_›).symm))),⟨rfl,rfl,rfl,rfl,rfl,trivial⟩,(by omega)⟩ (show f.cols.length - (k1 + 1) < f.cols.length - k1 by omega)
 obtain ⟨G4,hle4,hs4,hS9⟩:=Yb.freeze hr1 hS3 0 rfl
 exact RT hS9 rfl (Sl.cast hs4 (by rw [List.take_of_length_le (by omega)]))
theorem Zq6 {G : GH} {w : World} (hG : G.In w) (s : Schema) (l : VV) (key : List Val) (cs : List Value) (hcs : SchemaE.rep G s cs) (vl : Value) (hvl : Sl (ValE.slice 32) 24 G vl l) (vk : Value) (hvk : Sl ValE 32 G vk key) (k0 : 0 ≤ s.key) (hk : ∀ v ∈ l,s.key ≤ v.length) : CL Tryz.prog (nat_lit 95) #[.agg cs.toArray,vl,vk] [] w G fun _ _ r=>r = .bool (l.any fun u=>decide (u.take s.key.toNat = key)):=by
 refine Zh ft [] Tryz.func95 rfl rfl ?_
 have hS:=St.start (X:=[]) hG
 obtain ⟨v1,v2,rfl,hb1,hs1,hb2,hs2⟩:=Yk hcs
 refine Z3 [Zc s.name,v1, .int .i64 s.key,v2] _ hS rfl rfl rfl (fun p1 w1 G1 hle1 hsp1 hc1 hS1=>?_)
 refine LP.go ft [] (fun m ρ1 w1=>∃ (k1 : Nat),∃ (G2 : GH),m = l.length - k1 ∧ G1.le G2 ∧ St w [] G G2 [] w1 ∧ FR ρ1 [(1,vl),(2,vk),(3, .pointer (some p1)),(7, .int .i64 (k1 : Int))] ∧ k1 ≤ l.length ∧ ∀ j,j < k1 → ∀ u,l[j]? = some u → decide (u.take s.key.toNat = key) = false) _ ⟨0,G1,rfl,(G1.le_refl),hS1,⟨rfl,rfl,rfl,rfl,trivial⟩,(by omega),(by intro j hj; omega)⟩ ?_
 rintro m ρ1 w2 ⟨k1,G2,rfl,hle2,hS2,hF9,f1,f2⟩
 refine hF9.set ?_
 clear hF9
 have bd1:=hvl.bound
 refine Zl (hvl.mono (hle1.trans hle2)) X9 rfl rfl ?_
 refine Zm (k1 : Int) (l.length : Int) rfl rfl rfl (fun h1=>?_) (fun h1=>?_)
 ·obtain ⟨p2,x1,hx1,he1,ep1⟩:=Sl.at (hvl.mono (hle1.trans hle2)) k1 (by omega)
  obtain ⟨cs1,hc2,hr1⟩:=he1
  obtain ⟨v3,rfl,hs3⟩:=hr1
  refine dr [(5,false),(7,false)] [(14, .agg #[Zc s.name,v1, .int .i64 s.key,v2]),(17, .pointer (some p2)),(18,v3)] hS2 ⟨fun _ hSw=>Zd hSw (hc1.mono hle2) [Zc s.name,v1, .int .i64 s.key,v2] Y5 rfl rfl rfl rfl rfl <| nu rfl rfl,fun _=>Zi k1 ep1 X9 ZN rfl rfl rfl rfl <| nu rfl rfl,fun _ hSw=>Za hSw hc2 ZN rfl rfl rfl <| nu rfl rfl,trivial⟩ (fun w3 hS3=>?_)
  refine Z8 hS3 Zpl rfl rfl rfl (Zk2 hS3.imm s x1 _ (Yg s hb1 (hs1.mono (hle1.trans hle2)) hb2 (hs2.mono (hle1.trans hle2))) _ hs3 k0 (hk _ (List.mem_of_getElem? ‹_›))) (fun w4 G3 r1 hpost1 hS4 hle3=>?_)
  refine Zn hS4 ZsP rfl rfl rfl (Zng hS4.imm (x1.take s.key.toNat) key _ hpost1 _ (hvk.mono ((hle1.trans hle2).trans hle3))) (fun w5 G4 hS5 hle4=>?_)
  refine WL.split (fun (h2 : (decide ((x1.take s.key.toNat) = key)) = true)=>?_) (fun (h2 : (decide ((x1.take s.key.toNat) = key)) = false)=>?_)
  ·exact RB hS5 rfl (by exact Zq4 ‹_› ‹_›)
  refine Zj k1 (by have hreach : reach = 140737488355328:=rfl; omega) rfl rfl rfl ?_
  exact BK.mk' _ ⟨k1 + 1,G4,rfl,(hle2.trans (hle3.trans hle4)),hS5,⟨rfl,rfl,rfl,rfl,trivial⟩,(by omega),(by exact Yj ‹_› ‹_› ‹_›)⟩ (show l.length - (k1 + 1) < l.length - k1 by omega)
 exact RB hS2 rfl (by exact (Zlo ‹_› (by omega)).symm)
end Go.Civ
set_option linter.unusedVariables false
set_option linter.unusedSimpArgs false
set_option maxRecDepth 100000
set_option maxHeartbeats 4000000
namespace Go.Civ
open Go.Proofs
theorem Zi4 {G : GH} {w : World} (hG : G.In w) (x : Link) (v : List Val) (y : HRow) (cx : List Value) (hcx : Zhf.rep G x cx) (vv : Value) (hvv : Sl ValE 32 G vv v) (cr : List Value) (hcr : HRowE.rep G y cr) (ka : ∀ c ∈ x.f.cols,0 ≤ Xf (x.t.s.cols.map Col.name) c) (kb : x.t.s.cols.length ≤ v.length) (kc : x.f.cols.length ≤ y.v.length) : CL Tryz.prog (nat_lit 144) #[.agg cx.toArray,vv, .agg cr.toArray] [] w G fun _ _ r=>r = .bool (mtB x.t.s x.f.cols v y.v):=by
 refine Zh ft [] Tryz.func144 rfl rfl ?_
 have hS:=St.start (X:=[]) hG
 obtain ⟨v1,v2,v3,v4,v5,v6,v7,rfl,hb1,hs1,hb2,hs2,hs3,hb3,hb4,hs4,hb5,hs5,hs6,hb6,hs7,hb7⟩:=Zew hcx
 obtain ⟨v9,rfl,hs8,hb8,hb9,hb10,YL⟩:=Z7 hcr
 refine Z3 [Zc x.t.s.name,v1, .int .i64 x.t.s.key,v2,v3, .int .i64 x.t.last,Zc x.o.s.name,v4, .int .i64 x.o.s.key,v5,v6, .int .i64 x.o.last,v7,Zc x.f.table] _ hS rfl rfl rfl (fun p1 w1 G1 hle1 hsp1 hc1 hS1=>?_)
 refine Z3 [v9, .int .i64 y.r.d.a, .int .i64 y.r.d.b, .int .i64 y.r.x.a, .int .i64 y.r.x.b] _ hS1 rfl rfl rfl (fun p2 w2 G2 hle2 hsp2 hc2 hS2=>?_)
 refine Za hS2 (XL.drop 0 (XL.drop 12 (hc1.mono hle2))) ZdP rfl rfl rfl ?_
 have bd1:=hs7.bound
 refine Zl (hs7.mono (hle1.trans hle2)) Zav rfl rfl ?_
 refine LP.go ft [] (fun m ρ1 w1=>∃ (k1 : Nat),∃ (G3 : GH),m = x.f.cols.length - k1 ∧ G2.le G3 ∧ St w [] G G3 [] w1 ∧ FR ρ1 [(1,vv),(3, .pointer (some p1)),(5, .pointer (some p2)),(11,v7),(12, .int .i64 (x.f.cols.length : Int)),(13, .int .i64 (k1 : Int))] ∧ k1 ≤ x.f.cols.length ∧ ∀ j,j < k1 → ∀ c,x.f.cols[j]? = some c → y.v[j]? = some (ZdO v (Xf (x.t.s.cols.map Col.name) c))) _ ⟨0,G2,rfl,(G2.le_refl),hS2,⟨rfl,rfl,rfl,rfl,rfl,rfl,trivial⟩,(by omega),(by intro j hj; omega)⟩ ?_
 rintro m ρ1 w3 ⟨k1,G3,rfl,hle3,hS3,hF9,f1,f2⟩
 refine hF9.set ?_
 clear hF9
 refine Zm (k1 : Int) (x.f.cols.length : Int) rfl rfl rfl (fun h1=>?_) (fun h1=>?_)
 ·refine WL.indexAddr (hs7.mono ((hle1.trans hle2).trans hle3)) k1 (by omega) Zav YM rfl rfl rfl rfl (fun p3 x1 hx1 he1=>?_)
  obtain ⟨cs1,hc3,hr1⟩:=he1
  obtain ⟨rfl,Xl⟩:=hr1
  refine Za hS3 hc3 YM rfl rfl rfl ?_
  have hix9:=ka x1 (List.mem_of_getElem? hx1)
  have hlt9:=Zkx hix9
  obtain ⟨p4,x2,hx2,he2,ep1⟩:=Sl.at (hvv.mono ((hle1.trans hle2).trans hle3)) (((Xf (x.t.s.cols.map Col.name) x1)).toNat) (by omega)
  obtain ⟨cs2,hc4,hr2⟩:=he2
  obtain ⟨rfl,X2,Qg,Q8⟩:=Y4 hr2
  obtain ⟨p5,x3,hx3,he3,ep2⟩:=Sl.at (hs8.mono ((hle1.trans hle2).trans hle3)) k1 (by omega)
  obtain ⟨cs3,hc5,hr3⟩:=he3
  obtain ⟨rfl,QS,QK,ZaO⟩:=Y4 hr3
  rcases Classical.em (x2 = x3) with h2 | h2
  ·refine dr [] [(21, .agg #[Zc x.t.s.name,v1, .int .i64 x.t.s.key,v2]),(23, .int .i64 (Xf (x.t.s.cols.map Col.name) x1)),(24, .pointer (some p4)),(25, .agg #[.int .i64 x2.k, .int .i64 x2.n,Zc x2.s]),(27,v9),(29, .pointer (some p5)),(30, .agg #[.int .i64 x3.k, .int .i64 x3.n,Zc x3.s]),(31, .bool false)] hS3 ⟨fun _ hSw=>Zd hSw (XL.drop 0 (XL.drop 0 (hc1.mono (hle2.trans hle3)))) [Zc x.t.s.name,v1, .int .i64 x.t.s.key,v2] Y5 rfl rfl rfl rfl rfl <| nu rfl rfl,fun _ hSw=>ZO hSw Zg4 rfl rfl rfl (ZcN hSw.imm x.t.s x1 _ (Yg x.t.s hb1 (hs1.mono ((hle1.trans hle2).trans hle3)) hb2 (hs2.mono ((hle1.trans hle2).trans hle3)))) rfl,fun _=>Zi (((Xf (x.t.s.cols.map Col.name) x1)).toNat) ep1 Yz Ye rfl rfl rfl (congrArg (Value.int .i64) (Int.toNat_of_nonneg (by omega)).symm) <| nu rfl rfl,fun _ hSw=>Zd hSw hc4 [.int .i64 x2.k, .int .i64 x2.n,Zc x2.s] Ye rfl rfl rfl rfl rfl <| nu rfl rfl,fun _ hSw=>Za hSw (XL.drop 0 (hc2.mono hle3)) ZN rfl rfl rfl <| nu rfl rfl,fun _=>Zi k1 ep2 Yz Ye rfl rfl rfl rfl <| nu rfl rfl,fun _ hSw=>Zd hSw hc5 [.int .i64 x3.k, .int .i64 x3.n,Zc x3.s] Ye rfl rfl rfl rfl rfl <| nu rfl rfl,fun _=>Q0 false (Zcz x2 x3) Zfo (by simp [h2]) rfl rfl rfl <| nu rfl rfl,trivial⟩ (fun w4 hS4=>?_)
   refine Zj k1 (by have hreach : reach = 140737488355328:=rfl; omega) rfl rfl rfl ?_
   exact BK.mk' _ ⟨k1 + 1,G3,rfl,hle3,hS4,⟨rfl,rfl,rfl,rfl,rfl,rfl,trivial⟩,(by omega),(by exact Zsm ‹_› ‹_› ‹_› ‹_› ‹_›)⟩ (show x.f.cols.length - (k1 + 1) < x.f.cols.length - k1 by omega)
  refine dr [] [(21, .agg #[Zc x.t.s.name,v1, .int .i64 x.t.s.key,v2]),(23, .int .i64 (Xf (x.t.s.cols.map Col.name) x1)),(24, .pointer (some p4)),(25, .agg #[.int .i64 x2.k, .int .i64 x2.n,Zc x2.s]),(27,v9),(29, .pointer (some p5)),(30, .agg #[.int .i64 x3.k, .int .i64 x3.n,Zc x3.s]),(31, .bool true)] hS3 ⟨fun _ hSw=>Zd hSw (XL.drop 0 (XL.drop 0 (hc1.mono (hle2.trans hle3)))) [Zc x.t.s.name,v1, .int .i64 x.t.s.key,v2] Y5 rfl rfl rfl rfl rfl <| nu rfl rfl,fun _ hSw=>ZO hSw Zg4 rfl rfl rfl (ZcN hSw.imm x.t.s x1 _ (Yg x.t.s hb1 (hs1.mono ((hle1.trans hle2).trans hle3)) hb2 (hs2.mono ((hle1.trans hle2).trans hle3)))) rfl,fun _=>Zi (((Xf (x.t.s.cols.map Col.name) x1)).toNat) ep1 Yz Ye rfl rfl rfl (congrArg (Value.int .i64) (Int.toNat_of_nonneg (by omega)).symm) <| nu rfl rfl,fun _ hSw=>Zd hSw hc4 [.int .i64 x2.k, .int .i64 x2.n,Zc x2.s] Ye rfl rfl rfl rfl rfl <| nu rfl rfl,fun _ hSw=>Za hSw (XL.drop 0 (hc2.mono hle3)) ZN rfl rfl rfl <| nu rfl rfl,fun _=>Zi k1 ep2 Yz Ye rfl rfl rfl rfl <| nu rfl rfl,fun _ hSw=>Zd hSw hc5 [.int .i64 x3.k, .int .i64 x3.n,Zc x3.s] Ye rfl rfl rfl rfl rfl <| nu rfl rfl,fun _=>Q0 true (Zcz x2 x3) Zfo (by simp [h2]) rfl rfl rfl <| nu rfl rfl,trivial⟩ (fun w5 hS5=>?_)
  exact RB hS5 rfl (by exact ZuQ ‹_› ‹_› ‹_› ‹_›)
 exact RB hS3 rfl (by exact ZtC (by omega) ‹_› (by omega))
theorem ZtN {G : GH} {w : World} (hG : G.In w) (x : Link) (v : List Val) (d : Span) (tx : Int) (cx : List Value) (hcx : Zhf.rep G x cx) (vv : Value) (hvv : Sl ValE 32 G vv v) (cd : List Value) (hcd : SpanE.rep G d cd) (hk : LinkOk x) (hlen : x.t.s.cols.length ≤ v.length) (hd : ZM d = true) : CL Tryz.prog (nat_lit 93) #[.agg cx.toArray,vv, .agg cd.toArray, .int .i64 tx] [] w G fun G' _ r=>Sl SpanE 16 G' r (XV (lM x) x.o.rows v d tx):=by
 refine Zh ft [] Tryz.func93 rfl rfl ?_
 have hS:=St.start (X:=[]) hG
 obtain ⟨v1,v2,v3,v4,v5,v6,v7,rfl,hb1,hs1,hb2,hs2,hs3,hb3,hb4,hs4,hb5,hs5,hs6,hb6,hs7,hb7⟩:=Zew hcx
 obtain ⟨rfl,hb8,hb9⟩:=ZP hcd
 refine Z3 [Zc x.t.s.name,v1, .int .i64 x.t.s.key,v2,v3, .int .i64 x.t.last,Zc x.o.s.name,v4, .int .i64 x.o.s.key,v5,v6, .int .i64 x.o.last,v7,Zc x.f.table] _ hS rfl rfl rfl (fun p1 w1 G1 hle1 hsp1 hc1 hS1=>?_)
 refine Z3 [.int .i64 d.a, .int .i64 d.b] _ hS1 rfl rfl rfl (fun p2 w2 G2 hle2 hsp2 hc2 hS2=>?_)
 obtain ⟨hg9,hn9,h89,he9⟩:=ZW hk.o
 refine Za hS2 (XL.drop 4 (XL.drop 6 (hc1.mono hle2))) YJ rfl rfl rfl ?_
 have bd1:=hs6.bound
 refine Zl (hs6.mono (hle1.trans hle2)) Yn rfl rfl ?_
 have hS4:=hS2.pad
 refine LP.go ft [] (fun m ρ1 w1=>∃ (k1 : Nat),∃ (v9 : Value) (o1 : OB),∃ (G3 : GH),m = x.o.rows.length - k1 ∧ G2.le G3 ∧ St w [] G G3 [o1] w1 ∧ Yb SpanE 16 33 G3 v9 (Za4 (lM x) (x.o.rows.take k1) v tx) o1 ∧ FR ρ1 [(1,vv),(3, .int .i64 tx),(4, .pointer (some p1)),(6, .pointer (some p2)),(9,v9),(18,v6),(19, .int .i64 (x.o.rows.length : Int)),(20, .int .i64 (k1 : Int))] ∧ k1 ≤ x.o.rows.length) _ ⟨0,(.slice none 0 0),none,G2,rfl,(G2.le_refl),hS4,(Yb.cast (Yb.nil SpanE 16 33 G2) (by rfl)),⟨rfl,rfl,rfl,rfl,rfl,rfl,rfl,rfl,trivial⟩,(by omega)⟩ ?_
 rintro m ρ1 w3 ⟨k1,v9,o1,G3,rfl,hle3,hS3,hr1,hF9,f1⟩
 refine hF9.set ?_
 clear hF9
 have hcl:=Zkz (M:=lM x) x.o.rows v tx k1
 refine Zm (k1 : Int) (x.o.rows.length : Int) rfl rfl rfl (fun h1=>?_) (fun h1=>?_)
 ·refine WL.indexAddr (hs6.mono ((hle1.trans hle2).trans hle3)) k1 (by omega) Yn Zt rfl rfl rfl rfl (fun p3 x1 hx1 he1=>?_)
  obtain ⟨cs1,hc3,hr2⟩:=he1
  obtain ⟨v10,rfl,hs8,hb10,YL,Xl,X2⟩:=Z7 hr2
  refine Zd hS3 hc3 [v10, .int .i64 x1.r.d.a, .int .i64 x1.r.d.b, .int .i64 x1.r.x.a, .int .i64 x1.r.x.b] Zt rfl rfl rfl rfl rfl ?_
  refine WL.alloc hS3 Zt rfl rfl (fun b1 w4 hn1 hS5=>?_)
  refine WL.store hS5 0 _ _ _ 0 _ [v10, .int .i64 x1.r.d.a, .int .i64 x1.r.d.b, .int .i64 x1.r.x.a, .int .i64 x1.r.x.b] [v10, .int .i64 x1.r.d.a, .int .i64 x1.r.d.b, .int .i64 x1.r.x.a, .int .i64 x1.r.x.b] _ rfl rfl Zt rfl (Nat.le_of_ble_eq_true rfl) (by simp only [List.all_cons,List.all_nil,hs8.oneC,Bool.true_and] <;> rfl) rfl rfl rfl rfl rfl (fun w5 hS6=>?_)
  obtain ⟨G4,hle4,hc4,hS7⟩:=hS6.shutB hn1
  refine Zd hS7 (XL.drop 2 (XL.drop 1 hc4)) [.int .i64 x1.r.x.a, .int .i64 x1.r.x.b] Zz rfl rfl rfl rfl rfl ?_
  refine Zn hS7 QE rfl rfl rfl (QF hS7.imm x1.r.x tx _ (Zw x1.r.x Xl X2)) (fun w6 G5 hS8 hle5=>?_)
  refine WL.split (fun (h2 : (X1 tx x1.r.x) = true)=>?_) (fun (h2 : (X1 tx x1.r.x) = false)=>?_)
  ·refine Zd hS8 (hc1.mono (((hle2.trans hle3).trans hle4).trans hle5)) [Zc x.t.s.name,v1, .int .i64 x.t.s.key,v2,v3, .int .i64 x.t.last,Zc x.o.s.name,v4, .int .i64 x.o.s.key,v5,v6, .int .i64 x.o.last,v7,Zc x.f.table] ZiG rfl rfl rfl rfl rfl <| Zd hS8 (hc4.mono hle5) [v10, .int .i64 x1.r.d.a, .int .i64 x1.r.d.b, .int .i64 x1.r.x.a, .int .i64 x1.r.x.b] Zt rfl rfl rfl rfl rfl ?_
   refine Zn hS8 ZqN rfl rfl rfl (Zi4 hS8.imm x v x1 _ (ZcS x hb1 (hs1.mono ((((hle1.trans hle2).trans hle3).trans hle4).trans hle5)) hb2 (hs2.mono ((((hle1.trans hle2).trans hle3).trans hle4).trans hle5)) (hs3.mono ((((hle1.trans hle2).trans hle3).trans hle4).trans hle5)) hb3 hb4 (hs4.mono ((((hle1.trans hle2).trans hle3).trans hle4).trans hle5)) hb5 (hs5.mono ((((hle1.trans hle2).trans hle3).trans hle4).trans hle5)) (hs6.mono ((((hle1.trans hle2).trans hle3).trans hle4).trans hle5)) hb6 (hs7.mono ((((hle1.trans hle2).trans hle3).trans hle4).trans hle5)) hb7) _ (hvv.mono ((((hle1.trans hle2).trans hle3).trans hle4).trans hle5)) _ (Ya x1 (hs8.mono (hle4.trans hle5)) hb10 YL Xl X2) hk.cols hlen (hk.olen (List.mem_of_getElem? (by assumption : x.o.rows[k1]? = some _)))) (fun w7 G6 hS9 hle6=>?_)
   refine WL.split (fun (h3 : (mtB x.t.s x.f.cols v x1.v) = true)=>?_) (fun (h3 : (mtB x.t.s x.f.cols v x1.v) = false)=>?_)
   ·refine Zd hS9 (XL.drop 0 (XL.drop 1 (hc4.mono (hle5.trans hle6)))) [.int .i64 x1.r.d.a, .int .i64 x1.r.d.b] Zz rfl rfl rfl rfl rfl ?_
    refine WL.buildSlice _ [(0,[.int .i64 x1.r.d.a, .int .i64 x1.r.d.b])] [.int .i64 x1.r.d.a, .int .i64 x1.r.d.b] hS9 YH rfl rfl rfl rfl (fun z hz=>by match z,hz with | [z0,z1],_=>rfl) (fun b2 w9 hn2 hS10=>?_)
    refine WL.push (m:=([x1.r.d] : List Span)) YH rfl rfl rfl (hr1.mono ((hle4.trans hle5).trans hle6)) hS10 1 rfl 0 _ _ _ _ _ rfl ⟨[.int .i64 x1.r.d.a, .int .i64 x1.r.d.b],_,rfl,(Zw x1.r.d hb10 YL),rfl⟩ rfl (by have hreach : reach = 140737488355328:=rfl; simp only [List.length_append,List.length_cons,List.length_nil]; omega) (by have hreach : reach = 140737488355328:=rfl; simp only [List.length_append,List.length_cons,List.length_nil]; omega) rfl rfl rfl (fun v11 o2 w10 hr3 hS11=>?_)
    have hS12:=hS11.tail
    refine Zj k1 (by have hreach : reach = 140737488355328:=rfl; omega) rfl rfl rfl ?_
    exact BK.mk' _ ⟨k1 + 1,v11,o2,G6,rfl,(hle3.trans ((hle4.trans hle5).trans hle6)),hS12,(Yb.cast hr3 (by (exact (Zqw ‹_› ‹_› ‹_›).symm))),⟨rfl,rfl,rfl,rfl,rfl,rfl,rfl,rfl,trivial⟩,(by omega)⟩ (show x.o.rows.length - (k1 + 1) < x.o.rows.length - k1 by omega)
   refine Zj k1 (by have hreach : reach = 140737488355328:=rfl; omega) rfl rfl rfl ?_
   exact BK.mk' _ ⟨k1 + 1,v9,o1,G6,rfl,(hle3.trans ((hle4.trans hle5).trans hle6)),hS9,(Yb.cast (hr1.mono ((hle4.trans hle5).trans hle6)) (by (exact (Zlx ‹_› (by first | exact .inl ‹_› | exact .inr ‹_›)).symm))),⟨rfl,rfl,rfl,rfl,rfl,rfl,rfl,rfl,trivial⟩,(by omega)⟩ (show x.o.rows.length - (k1 + 1) < x.o.rows.length - k1 by omega)
  refine Zj k1 (by have hreach : reach = 140737488355328:=rfl; omega) rfl rfl rfl ?_
  exact BK.mk' _ ⟨k1 + 1,v9,o1,G5,rfl,(hle3.trans (hle4.trans hle5)),hS8,(Yb.cast (hr1.mono (hle4.trans hle5)) (by (exact (Zlx ‹_› (by first | exact .inl ‹_› | exact .inr ‹_›)).symm))),⟨rfl,rfl,rfl,rfl,rfl,rfl,rfl,rfl,trivial⟩,(by omega)⟩ (show x.o.rows.length - (k1 + 1) < x.o.rows.length - k1 by omega)
 obtain ⟨G7,hle7,hs9,hS13⟩:=Yb.freeze hr1 hS3 0 rfl
 refine Z8 hS13 ZqM rfl rfl rfl (ZjQ hS13.imm (Za4 (lM x) (x.o.rows.take k1) v tx) _ hs9 (by rw [List.take_of_length_le (by omega)]; exact Zdo hg9) (by omega)) ?_
 rintro w11 G9 _ ⟨r2,_,rfl,hs10,rfl⟩ hS14 hle9
 refine Zd hS14 (hc2.mono ((hle3.trans hle7).trans hle9)) [.int .i64 d.a, .int .i64 d.b] Zz rfl rfl rfl rfl rfl ?_
 refine WL.buildSlice _ [(0,[.int .i64 d.a, .int .i64 d.b])] [.int .i64 d.a, .int .i64 d.b] hS14 YH rfl rfl rfl rfl (fun z hz=>by match z,hz with | [z0,z1],_=>rfl) (fun b3 w12 hn3 hS15=>?_)
 obtain ⟨G10,hle10,hs11,hS16⟩:=St.sealSl (E:=SpanE) (by_:=16) (l:=([d] : List Span)) hS15 hn3 ⟨[.int .i64 d.a, .int .i64 d.b],_,rfl,(Zw d hb8 hb9),rfl⟩ rfl (by simp [reach]) (by simp [reach])
 refine Z8 hS16 ZsO rfl rfl rfl (Zlh hS16.imm [d] (Q1 (Za4 (lM x) (x.o.rows.take k1) v tx)) _ hs11 _ (hs10.mono hle10) (ZdE (YB hd)) (XP (fun s hs=>YB (Zdo (fun r hr=>hg9 r (List.mem_of_mem_take hr)) s hs))).can (by intro s hs; rw [List.mem_singleton.1 hs]; exact Zc0 hd) (fun s hs=>Zc0 (ZgE (Zdo (fun r hr=>hg9 r (List.mem_of_mem_take hr))) s hs)) (by simp) (Nat.le_trans ZeA (by omega))) ?_
 rintro w13 G11 _ ⟨r5,_,rfl,hs12,rfl⟩ hS17 hle11
 exact RT hS17 rfl (Sl.cast hs12 (by rw [List.take_of_length_le (by omega)]; rfl))
end Go.Civ
