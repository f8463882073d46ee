/- Lemmas. -/
import Derived.Test.YthgeclodflmiaaaGreatP31
import Derived.Test.YthgeclodflmiaaaGreatP34
import Derived.Test.YthgeclodflmiaaaGreatProg
import Derived.KernelRfl
import Derived.WalkKit
set_option linter.unusedVariables false
set_option linter.unusedSimpArgs false
set_option maxRecDepth 100000
set_option maxHeartbeats 4000000
namespace Go.Civ
open Go.Proofs
theorem ZbD {G : GH} {w : World} (hG : G.In w) (s : Schema) (nm : List UInt8) (cs : List Value) (hcs : SchemaE.rep G s cs) : CL Tryz.prog (nat_lit 28) #[.agg cs.toArray,Zd nm] [] w G fun _ _ r=>r = .int .i64 (Yy (s.cols.map Col.name) nm):=by
 refine Zg ft [] Tryz.func28 rfl rfl ?_
 have hS:=St.start (X:=[]) hG
 obtain ⟨v1,v2,rfl,hb1,hs1,hb2,hs2⟩:=YJ hcs
 refine Zu [Zd s.name,v1, .int .i64 s.key,v2] _ hS rfl rfl rfl (fun p1 w1 G1 hle1 hsp1 hc1 hS1=>?_)
 refine LP.go ft [] (fun m ρ1 w1=>∃ (k1 : Nat),∃ (G2 : GH),m = s.cols.length - k1 ∧ G1.le G2 ∧ St w [] G G2 [] w1 ∧ FR ρ1 [(1,Zd nm),(2, .pointer (some p1)),(5, .int .i64 (k1 : Int))] ∧ k1 ≤ s.cols.length ∧ ∀ j,j < k1 → ∀ x,s.cols[j]? = some x → decide (x.name = nm) = false) _ ⟨0,G1,rfl,(G1.le_refl),hS1,⟨rfl,rfl,rfl,trivial⟩,(by omega),(by intro j hj; omega)⟩ ?_
 rintro m ρ1 w2 ⟨k1,G2,rfl,hle2,hS2,hF9,f1,f2⟩
 refine hF9.set ?_
 clear hF9
 refine Zb hS2 (Xl.drop 1 (hc1.mono hle2)) QM rfl rfl rfl ?_
 have bd1:=hs1.bound
 refine Zi (hs1.mono (hle1.trans hle2)) Qa rfl rfl ?_
 refine Zq (k1 : Int) (s.cols.length : Int) rfl rfl rfl (fun h1=>?_) (fun h1=>?_)
 ·refine Zb hS2 (Xl.drop 1 (hc1.mono hle2)) QM rfl rfl rfl ?_
  refine WL.indexAddr (hs1.mono (hle1.trans hle2)) k1 (by omega) Qa Xe rfl rfl rfl rfl (fun p2 x1 hx1 he1=>?_)
  obtain ⟨cs1,hc2,hr1⟩:=he1
  obtain ⟨rfl,hb3,hb4⟩:=Qg hr1
  refine Zb hS2 (Xl.drop 0 hc2) Yw rfl rfl rfl <| Xr .eql rfl x1.name nm rfl rfl rfl ?_
  refine WL.split (fun h0=>?_) (fun h0=>?_)
  ·have h2 : x1.name = nm:=by simpa [SCmp.b] using h0
   clear h0
   exact RI hS2 rfl (by exact Zs1 ‹_› ‹_› ‹_›)
  have h2 : x1.name ≠ nm:=by simpa [SCmp.b] using h0
  clear h0
  refine Zk k1 (by have hreach : reach = 140737488355328:=rfl; omega) rfl rfl rfl ?_
  exact BK.mk' _ ⟨k1 + 1,G2,rfl,hle2,hS2,⟨rfl,rfl,rfl,trivial⟩,(by omega),(by exact YV ‹_› ‹_› (decide_eq_false ‹_›))⟩ (show s.cols.length - (k1 + 1) < s.cols.length - k1 by omega)
 exact RI hS2 rfl (by exact Zs2 ‹_› (by omega))
theorem ZkL {G : GH} {w : World} (hG : G.In w) (s : Schema) (f : Foreign) (v : List Val) (cs : List Value) (hcs : SchemaE.rep G s cs) (cf : List Value) (hcf : ForeignE.rep G f cf) (vv : Value) (hvv : Sl ValE 32 G vv v) (ka : ∀ c ∈ f.cols,0 ≤ Yy (s.cols.map Col.name) c) (kb : s.cols.length ≤ v.length) (kc : f.cols.length ≤ 1000) : CL Tryz.prog (nat_lit 37) #[.agg cs.toArray, .agg cf.toArray,vv] [] w G fun G' _ r=>Sl ValE 32 G' r (YY s f.cols v):=by
 refine Zg ft [] Tryz.func37 rfl rfl ?_
 have hS:=St.start (X:=[]) hG
 obtain ⟨v1,v2,rfl,hb1,hs1,hb2,hs2⟩:=YJ hcs
 obtain ⟨v3,rfl,hs3,hb3⟩:=Y1 hcf
 refine Zu [Zd s.name,v1, .int .i64 s.key,v2] _ hS rfl rfl rfl (fun p1 w1 G1 hle1 hsp1 hc1 hS1=>?_)
 refine Zu [v3,Zd f.table] _ hS1 rfl rfl rfl (fun p2 w2 G2 hle2 hsp2 hc2 hS2=>?_)
 have hS4:=hS2.pad
 refine LP.go ft [] (fun m ρ1 w1=>∃ (k1 : Nat),∃ (v4 : Value) (o1 : OB),∃ (G3 : GH),m = f.cols.length - k1 ∧ G2.le G3 ∧ St w [] G G3 [o1] w1 ∧ ZS ValE 32 58 G3 v4 (YY s (f.cols.take k1) v) o1 ∧ FR ρ1 [(2,vv),(3, .pointer (some p1)),(4, .pointer (some p2)),(7,v4),(8, .int .i64 (k1 : Int))] ∧ k1 ≤ f.cols.length) _ ⟨0,(.slice none 0 0),none,G2,rfl,(G2.le_refl),hS4,(ZS.cast (ZS.nil ValE 32 58 G2) (by rfl)),⟨rfl,rfl,rfl,rfl,rfl,trivial⟩,(by omega)⟩ ?_
 rintro m ρ1 w3 ⟨k1,v4,o1,G3,rfl,hle3,hS3,hr1,hF9,f1⟩
 refine hF9.set ?_
 clear hF9
 have hrl:=ZfK (s:=s) (v:=v) f.cols k1
 refine Zb hS3 (Xl.drop 0 (hc2.mono hle3)) XM rfl rfl rfl ?_
 have bd1:=hs3.bound
 refine Zi (hs3.mono ((hle1.trans hle2).trans hle3)) Y8 rfl rfl ?_
 refine Zq (k1 : Int) (f.cols.length : Int) rfl rfl rfl (fun h1=>?_) (fun h1=>?_)
 ·obtain ⟨cv,hcv⟩:=Zjy (l:=f.cols) (k:=k1) (by omega)
  have hix9:=ka cv (List.mem_of_getElem? hcv)
  have hlt9:=Zdg hix9
  have hfl:=(by assumption : Sl Enc.str 16 G _ f.cols).bytes
  obtain ⟨p3,x1,hx1,he1,ep1⟩:=Sl.at (hs3.mono ((hle1.trans hle2).trans hle3)) k1 (by omega)
  obtain rfl : cv = x1:=Option.some.inj (hcv.symm.trans hx1)
  obtain ⟨cs1,hc3,hr2⟩:=he1
  obtain ⟨rfl,hb4⟩:=hr2
  obtain ⟨p4,x2,hx2,he2,ep2⟩:=Sl.at (hvv.mono ((hle1.trans hle2).trans hle3)) (((Yy (s.cols.map Col.name) cv)).toNat) (by omega)
  obtain ⟨cs2,hc4,hr3⟩:=he2
  obtain ⟨rfl,hb5,hb6,hb7⟩:=Yv hr3
  refine dr [(11,false),(12,false),(13,false)] [(18, .agg #[Zd s.name,v1, .int .i64 s.key,v2]),(20,v3),(22, .pointer (some p3)),(23,Zd cv),(24, .int .i64 (Yy (s.cols.map Col.name) cv)),(25, .pointer (some p4)),(26, .agg #[.int .i64 x2.k, .int .i64 x2.n,Zd x2.s])] hS3 ⟨fun _ hSw=>Zc hSw (hc1.mono (hle2.trans hle3)) [Zd s.name,v1, .int .i64 s.key,v2] Xg rfl rfl rfl rfl rfl <| nu rfl rfl,fun _ hSw=>Zb hSw (Xl.drop 0 (hc2.mono hle3)) XM rfl rfl rfl <| nu rfl rfl,fun _=>Zn k1 ep1 Y8 Yw rfl rfl rfl rfl <| nu rfl rfl,fun _ hSw=>Zb hSw hc3 Yw rfl rfl rfl <| nu rfl rfl,fun _ hSw=>ZH hSw ZiQ rfl rfl rfl (ZbD hSw.imm s cv _ (ZL s hb1 (hs1.mono ((hle1.trans hle2).trans hle3)) hb2 (hs2.mono ((hle1.trans hle2).trans hle3)))) rfl,fun _=>Zn (((Yy (s.cols.map Col.name) cv)).toNat) ep2 Ys Ya rfl rfl rfl (congrArg (Value.int .i64) (Int.toNat_of_nonneg (by omega)).symm) <| nu rfl rfl,fun _ hSw=>Zc hSw hc4 [.int .i64 x2.k, .int .i64 x2.n,Zd x2.s] Ya rfl rfl rfl rfl rfl <| nu rfl rfl,trivial⟩ (fun w4 hS5=>?_)
  refine WL.buildSlice _ [(0,[.int .i64 x2.k, .int .i64 x2.n,Zd x2.s])] [.int .i64 x2.k, .int .i64 x2.n,Zd x2.s] hS5 Zdt rfl rfl rfl rfl (fun z hz=>by match z,hz with | [z0,z1,z2],_=>rfl) (fun b1 w5 hn1 hS6=>?_)
  refine WL.push (m:=([x2] : List Val)) Zdt rfl rfl rfl hr1 hS6 1 rfl 0 _ _ _ _ _ rfl ⟨[.int .i64 x2.k, .int .i64 x2.n,Zd x2.s],_,rfl,(Qb x2 hb5 hb6 hb7),rfl⟩ rfl (by have hreach : reach = 140737488355328:=rfl; simp only [List.length_append,List.length_cons,List.length_nil]; omega) (by have hreach : reach = 140737488355328:=rfl; simp only [List.length_append,List.length_cons,List.length_nil]; omega) rfl rfl rfl (fun v5 o2 w6 hr4 hS7=>?_)
  have hS8:=hS7.tail
  refine Zk k1 (by have hreach : reach = 140737488355328:=rfl; omega) rfl rfl rfl ?_
  exact BK.mk' _ ⟨k1 + 1,v5,o2,G3,rfl,hle3,hS8,(ZS.cast hr4 (by (exact (ZeJ hcv ‹_›).symm))),⟨rfl,rfl,rfl,rfl,rfl,trivial⟩,(by omega)⟩ (show f.cols.length - (k1 + 1) < f.cols.length - k1 by omega)
 obtain ⟨G4,hle4,hs4,hS9⟩:=ZS.freeze hr1 hS3 0 rfl
 exact RT hS9 rfl (Sl.cast hs4 (by rw [List.take_of_length_le (by omega)]))
theorem Zib {G : GH} {w : World} (hG : G.In w) (a b : List (List UInt8)) (va : Value) (hva : Sl Enc.str 16 G va a) (vb : Value) (hvb : Sl Enc.str 16 G vb b) : CL Tryz.prog (nat_lit 94) #[va,vb] [] w G fun _ _ r=>r = .bool (decide (a = b)):=by
 refine Zg ft [] Tryz.func94 rfl rfl ?_
 have hS:=St.start (X:=[]) hG
 have bd1:=hva.bound
 refine Zi hva Y8 rfl rfl ?_
 have bd2:=hvb.bound
 refine Zi hvb Y8 rfl rfl ?_
 refine YQ (a.length : Int) (b.length : Int) rfl rfl rfl (fun h1=>?_) (fun h1=>?_)
 ·exact RB hS rfl (by rw [← Qi]; first | exact (Zag (by omega)).symm | exact (ZaG (f:=fun (x y : (List UInt8))=>decide (x = y)) ‹_› ‹_› (decide_eq_false (by rintro rfl; first | exact absurd rfl ‹_› | simp_all))).symm | exact (Za5 (by omega) ‹_› (by omega)).symm)
 refine LP.go ft [] (fun m ρ1 w1=>∃ (k1 : Nat),∃ (G1 : GH),m = a.length - k1 ∧ G.le G1 ∧ St w [] G G1 [] w1 ∧ FR ρ1 [(0,va),(1,vb),(5, .int .i64 (k1 : Int))] ∧ k1 ≤ a.length ∧ ∀ j,j < k1 → ∀ x y,a[j]? = some x → b[j]? = some y → decide (x = y) = true) _ ⟨0,G,rfl,(G.le_refl),hS,⟨rfl,rfl,rfl,trivial⟩,(by omega),(by intro j hj; omega)⟩ ?_
 rintro m ρ1 w1 ⟨k1,G1,rfl,hle1,hS1,hF9,f1,f2⟩
 refine hF9.set ?_
 clear hF9
 have bd3:=hva.bound
 refine Zi (hva.mono hle1) Y8 rfl rfl ?_
 refine Zq (k1 : Int) (a.length : Int) rfl rfl rfl (fun h2=>?_) (fun h2=>?_)
 ·obtain ⟨p1,x1,hx1,he1,ep1⟩:=Sl.at (hva.mono hle1) k1 (by omega)
  obtain ⟨cs1,hc1,hr1⟩:=he1
  obtain ⟨rfl,hb1⟩:=hr1
  obtain ⟨p2,x2,hx2,he2,ep2⟩:=Sl.at (hvb.mono hle1) k1 (by omega)
  obtain ⟨cs2,hc2,hr2⟩:=he2
  obtain ⟨rfl,hb2⟩:=hr2
  rcases Classical.em (x1 = x2) with h3 | h3
  ·refine dr [] [(19, .pointer (some p1)),(20,Zd x1),(23, .pointer (some p2)),(24,Zd x2),(25, .bool false)] hS1 ⟨fun _=>Zn k1 ep1 Y8 Yw rfl rfl rfl rfl <| nu rfl rfl,fun _ hSw=>Zb hSw hc1 Yw rfl rfl rfl <| nu rfl rfl,fun _=>Zn k1 ep2 Y8 Yw rfl rfl rfl rfl <| nu rfl rfl,fun _ hSw=>Zb hSw hc2 Yw rfl rfl rfl <| nu rfl rfl,fun _=>QT .neq rfl x1 x2 false (by simp [h3,SCmp.b]) rfl rfl rfl <| nu rfl rfl,trivial⟩ (fun w2 hS2=>?_)
   refine Zk k1 (by have hreach : reach = 140737488355328:=rfl; omega) rfl rfl rfl ?_
   exact BK.mk' _ ⟨k1 + 1,G1,rfl,hle1,hS2,⟨rfl,rfl,rfl,trivial⟩,(by omega),(by exact Za2 ‹_› ‹_› ‹_› (decide_eq_true (‹_›)))⟩ (show a.length - (k1 + 1) < a.length - k1 by omega)
  refine dr [] [(19, .pointer (some p1)),(20,Zd x1),(23, .pointer (some p2)),(24,Zd x2),(25, .bool true)] hS1 ⟨fun _=>Zn k1 ep1 Y8 Yw rfl rfl rfl rfl <| nu rfl rfl,fun _ hSw=>Zb hSw hc1 Yw rfl rfl rfl <| nu rfl rfl,fun _=>Zn k1 ep2 Y8 Yw rfl rfl rfl rfl <| nu rfl rfl,fun _ hSw=>Zb hSw hc2 Yw rfl rfl rfl <| nu rfl rfl,fun _=>QT .neq rfl x1 x2 true (by simp [h3,SCmp.b]) rfl rfl rfl <| nu rfl rfl,trivial⟩ (fun w3 hS3=>?_)
  exact RB hS3 rfl (by rw [← Qi]; first | exact (Zag (by omega)).symm | exact (ZaG (f:=fun (x y : (List UInt8))=>decide (x = y)) ‹_› ‹_› (decide_eq_false (by rintro rfl; first | exact absurd rfl ‹_› | simp_all))).symm | exact (Za5 (by omega) ‹_› (by omega)).symm)
 exact RB hS1 rfl (by rw [← Qi]; first | exact (Zag (by omega)).symm | exact (ZaG (f:=fun (x y : (List UInt8))=>decide (x = y)) ‹_› ‹_› (decide_eq_false (by rintro rfl; first | exact absurd rfl ‹_› | simp_all))).symm | exact (Za5 (by omega) ‹_› (by omega)).symm)
theorem Zrh {G : GH} {w : World} (hG : G.In w) (t o : Schema) (f : Foreign) (cs : List Value) (hcs : SchemaE.rep G t cs) (cu : List Value) (hcu : SchemaE.rep G o cu) (cf : List Value) (hcf : ForeignE.rep G f cf) (hs : Yl t = true) (ho : Yl o = true) : CL Tryz.prog (nat_lit 32) #[.agg cs.toArray, .agg cu.toArray, .agg cf.toArray] [] w G fun _ _ r=>r = .bool (YP t o f):=by
 refine Zg ft [] Tryz.func32 rfl rfl ?_
 have hS:=St.start (X:=[]) hG
 obtain ⟨v1,v2,rfl,hb1,hs1,hb2,hs2⟩:=YJ hcs
 obtain ⟨v3,v4,rfl,hb3,hs3,hb4,hs4⟩:=YJ hcu
 obtain ⟨v5,rfl,hs5,hb5⟩:=Y1 hcf
 refine Zu [Zd t.name,v1, .int .i64 t.key,v2] _ hS rfl rfl rfl (fun p1 w1 G1 hle1 hsp1 hc1 hS1=>?_)
 refine Zu [Zd o.name,v3, .int .i64 o.key,v4] _ hS1 rfl rfl rfl (fun p2 w2 G2 hle2 hsp2 hc2 hS2=>?_)
 refine Zu [v5,Zd f.table] _ hS2 rfl rfl rfl (fun p3 w3 G3 hle3 hsp3 hc3 hS3=>?_)
 refine LP.go ft [] (fun m ρ1 w1=>∃ (k1 : Nat),∃ (ow : Bool),∃ (G4 : GH),m = t.fks.length - k1 ∧ G3.le G4 ∧ St w [] G G4 [] w1 ∧ FR ρ1 [(3, .pointer (some p1)),(4, .pointer (some p2)),(5, .pointer (some p3)),(7, .bool ow),(8, .int .i64 (k1 : Int))] ∧ k1 ≤ t.fks.length ∧ ow = (t.fks.take k1).any (fun g=>decide (g.table = f.table) && decide (g.cols = f.cols))) _ ⟨0,false,G3,rfl,(G3.le_refl),hS3,⟨rfl,rfl,rfl,rfl,rfl,trivial⟩,(by omega),(by rfl)⟩ ?_
 rintro m ρ1 w4 ⟨k1,ow,G4,rfl,hle4,hS4,hF9,f1,f2⟩
 refine hF9.set ?_
 clear hF9
 refine Zb hS4 (Xl.drop 3 (hc1.mono ((hle2.trans hle3).trans hle4))) ZcN rfl rfl rfl ?_
 have bd1:=hs2.bound
 refine Zi (hs2.mono (((hle1.trans hle2).trans hle3).trans hle4)) ZbH rfl rfl ?_
 refine Zq (k1 : Int) (t.fks.length : Int) rfl rfl rfl (fun h1=>?_) (fun h1=>?_)
 ·obtain ⟨p4,x1,hx1,he1,ep1⟩:=Sl.at (hs2.mono (((hle1.trans hle2).trans hle3).trans hle4)) k1 (by omega)
  obtain ⟨cs1,hc4,hr1⟩:=he1
  obtain ⟨v6,rfl,hs6,hb6⟩:=Y1 hr1
  rcases Classical.em (x1.table = f.table) with h2 | h2
  ·obtain ⟨p5,x2,hx2,he2,ep2⟩:=Sl.at (hs2.mono (((hle1.trans hle2).trans hle3).trans hle4)) k1 (by omega)
   obtain rfl : x1 = x2:=Option.some.inj (hx1.symm.trans hx2)
   obtain ⟨cs2,hc5,hr2⟩:=he2
   obtain ⟨v7,rfl,hs7,hb7⟩:=Y1 hr2
   rcases Bool.eq_false_or_eq_true (decide (x1.cols = f.cols)) with h3 | h3
   ·refine dr [] [(18,v2),(20, .pointer (some p4)),(22,Zd x1.table),(24,Zd f.table),(25, .bool true),(28,v2),(30, .pointer (some p5)),(32,v7),(34,v5),(35, .bool true)] hS4 ⟨fun _ hSw=>Zb hSw (Xl.drop 3 (hc1.mono ((hle2.trans hle3).trans hle4))) ZcN rfl rfl rfl <| nu rfl rfl,fun _=>Zn k1 ep1 ZbH XZ rfl rfl rfl rfl <| nu rfl rfl,fun _ hSw=>Zb hSw (Xl.drop 1 hc4) Yw rfl rfl rfl <| nu rfl rfl,fun _ hSw=>Zb hSw (Xl.drop 1 (hc3.mono hle4)) Yw rfl rfl rfl <| nu rfl rfl,fun _=>QT .eql rfl x1.table f.table true (by simp [h2,SCmp.b]) rfl rfl rfl <| nu rfl rfl,fun _ hSw=>Zb hSw (Xl.drop 3 (hc1.mono ((hle2.trans hle3).trans hle4))) ZcN rfl rfl rfl <| nu rfl rfl,fun _=>Zn k1 ep2 ZbH XZ rfl rfl rfl rfl <| nu rfl rfl,fun _ hSw=>Zb hSw (Xl.drop 0 hc5) XM rfl rfl rfl <| nu rfl rfl,fun _ hSw=>Zb hSw (Xl.drop 0 (hc3.mono hle4)) XM rfl rfl rfl <| nu rfl rfl,fun _ hSw=>ZH hSw ZrD rfl rfl rfl (Zib hSw.imm x1.cols f.cols _ hs7 _ (hs5.mono (((hle1.trans hle2).trans hle3).trans hle4))) (congrArg Value.bool h3.symm),trivial⟩ (fun w5 hS5=>?_)
    refine Zk k1 (by have hreach : reach = 140737488355328:=rfl; omega) rfl rfl rfl ?_
    exact BK.mk' _ ⟨k1 + 1,true,G4,rfl,hle4,hS5,⟨rfl,rfl,rfl,rfl,rfl,trivial⟩,(by omega),(by exact Zs3 (ow:=ow) ‹_› ‹_› ‹_›)⟩ (show t.fks.length - (k1 + 1) < t.fks.length - k1 by omega)
   refine dr [] [(18,v2),(20, .pointer (some p4)),(22,Zd x1.table),(24,Zd f.table),(25, .bool true),(28,v2),(30, .pointer (some p5)),(32,v7),(34,v5),(35, .bool false)] hS4 ⟨fun _ hSw=>Zb hSw (Xl.drop 3 (hc1.mono ((hle2.trans hle3).trans hle4))) ZcN rfl rfl rfl <| nu rfl rfl,fun _=>Zn k1 ep1 ZbH XZ rfl rfl rfl rfl <| nu rfl rfl,fun _ hSw=>Zb hSw (Xl.drop 1 hc4) Yw rfl rfl rfl <| nu rfl rfl,fun _ hSw=>Zb hSw (Xl.drop 1 (hc3.mono hle4)) Yw rfl rfl rfl <| nu rfl rfl,fun _=>QT .eql rfl x1.table f.table true (by simp [h2,SCmp.b]) rfl rfl rfl <| nu rfl rfl,fun _ hSw=>Zb hSw (Xl.drop 3 (hc1.mono ((hle2.trans hle3).trans hle4))) ZcN rfl rfl rfl <| nu rfl rfl,fun _=>Zn k1 ep2 ZbH XZ rfl rfl rfl rfl <| nu rfl rfl,fun _ hSw=>Zb hSw (Xl.drop 0 hc5) XM rfl rfl rfl <| nu rfl rfl,fun _ hSw=>Zb hSw (Xl.drop 0 (hc3.mono hle4)) XM rfl rfl rfl <| nu rfl rfl,fun _ hSw=>ZH hSw ZrD rfl rfl rfl (Zib hSw.imm x1.cols f.cols _ hs7 _ (hs5.mono (((hle1.trans hle2).trans hle3).trans hle4))) (congrArg Value.bool h3.symm),trivial⟩ (fun w6 hS6=>?_)
   refine Zk k1 (by have hreach : reach = 140737488355328:=rfl; omega) rfl rfl rfl ?_
   exact BK.mk' _ ⟨k1 + 1,ow,G4,rfl,hle4,hS6,⟨rfl,rfl,rfl,rfl,rfl,trivial⟩,(by omega),(by exact ZnI ‹_› ‹_› (by first | exact .inl ‹_› | exact .inr ‹_›))⟩ (show t.fks.length - (k1 + 1) < t.fks.length - k1 by omega)
  refine dr [] [(18,v2),(20, .pointer (some p4)),(22,Zd x1.table),(24,Zd f.table),(25, .bool false)] hS4 ⟨fun _ hSw=>Zb hSw (Xl.drop 3 (hc1.mono ((hle2.trans hle3).trans hle4))) ZcN rfl rfl rfl <| nu rfl rfl,fun _=>Zn k1 ep1 ZbH XZ rfl rfl rfl rfl <| nu rfl rfl,fun _ hSw=>Zb hSw (Xl.drop 1 hc4) Yw rfl rfl rfl <| nu rfl rfl,fun _ hSw=>Zb hSw (Xl.drop 1 (hc3.mono hle4)) Yw rfl rfl rfl <| nu rfl rfl,fun _=>QT .eql rfl x1.table f.table false (by simp [h2,SCmp.b]) rfl rfl rfl <| nu rfl rfl,trivial⟩ (fun w7 hS7=>?_)
  refine Zk k1 (by have hreach : reach = 140737488355328:=rfl; omega) rfl rfl rfl ?_
  exact BK.mk' _ ⟨k1 + 1,ow,G4,rfl,hle4,hS7,⟨rfl,rfl,rfl,rfl,rfl,trivial⟩,(by omega),(by exact ZnI ‹_› ‹_› (by first | exact .inl ‹_› | exact .inr ‹_›))⟩ (show t.fks.length - (k1 + 1) < t.fks.length - k1 by omega)
 have how : ow = ZeH t f:=by rw [(by assumption : ow = (t.fks.take k1).any (fun g=>decide (g.table = f.table) && decide (g.cols = f.cols))),List.take_of_length_le (by omega)]; rfl
 refine XA (d:=7) rfl (fun (h4 : ow = true)=>?_) (fun (h4 : ow = false)=>?_)
 ·refine Zb hS4 (Xl.drop 1 (hc3.mono hle4)) Yw rfl rfl rfl <| Zb hS4 (Xl.drop 0 (hc2.mono (hle3.trans hle4))) Yw rfl rfl rfl <| Xr .neq rfl f.table o.name rfl rfl rfl ?_
  refine WL.split (fun h0=>?_) (fun h0=>?_)
  ·have h5 : f.table ≠ o.name:=by simpa [SCmp.b] using h0
   clear h0
   exact RB hS4 rfl (by exact Zn8 ‹_›)
  have h5 : f.table = o.name:=by simpa [SCmp.b] using h0
  clear h0
  refine Zb hS4 (Xl.drop 0 (hc3.mono hle4)) XM rfl rfl rfl ?_
  have bd2:=hs5.bound
  refine Zi (hs5.mono (((hle1.trans hle2).trans hle3).trans hle4)) Y8 rfl rfl <| Zb hS4 (Xl.drop 2 (hc2.mono (hle3.trans hle4))) Z7 rfl rfl rfl ?_
  refine YQ (f.cols.length : Int) o.key rfl rfl rfl (fun h6=>?_) (fun h6=>?_)
  ·exact RB hS4 rfl (by exact Zn9 ‹_›)
  have hown : ZeH t f = true:=how.symm.trans ‹_›
  have hkk:=(ZdN ho).2
  refine LP.go ft [] (fun m ρ1 w1=>∃ (k2 : Nat),∃ (G5 : GH),m = f.cols.length - k2 ∧ G4.le G5 ∧ St w [] G G5 [] w1 ∧ FR ρ1 [(3, .pointer (some p1)),(4, .pointer (some p2)),(5, .pointer (some p3)),(9, .int .i64 (k2 : Int))] ∧ k2 ≤ f.cols.length ∧ ∀ j,j < k2 → ∀ c,f.cols[j]? = some c → Zbu t o j c = true) _ ⟨0,G4,rfl,(G4.le_refl),hS4,⟨rfl,rfl,rfl,rfl,trivial⟩,(by omega),(by intro j hj; omega)⟩ ?_
  rintro m ρ1 w9 ⟨k2,G5,rfl,hle5,hS8,hF9,f3,f4⟩
  refine hF9.set ?_
  clear hF9
  refine Zb hS8 (Xl.drop 0 (hc3.mono (hle4.trans hle5))) XM rfl rfl rfl ?_
  have bd3:=hs5.bound
  refine Zi (hs5.mono ((((hle1.trans hle2).trans hle3).trans hle4).trans hle5)) Y8 rfl rfl ?_
  refine Zq (k2 : Int) (f.cols.length : Int) rfl rfl rfl (fun h7=>?_) (fun h7=>?_)
  ·obtain ⟨cv,hcv⟩:=Zjy (l:=f.cols) (k:=k2) (by omega)
   have hix9:=ZfH hs hown cv (List.mem_of_getElem? hcv)
   have hlt9:=Zdg hix9
   obtain ⟨p6,x3,hx3,he3,ep3⟩:=Sl.at (hs5.mono ((((hle1.trans hle2).trans hle3).trans hle4).trans hle5)) k2 (by omega)
   obtain rfl : cv = x3:=Option.some.inj (hcv.symm.trans hx3)
   obtain ⟨cs3,hc6,hr3⟩:=he3
   obtain ⟨rfl,hb8⟩:=hr3
   obtain ⟨p7,x4,hx4,he4,ep4⟩:=Sl.at (hs1.mono ((((hle1.trans hle2).trans hle3).trans hle4).trans hle5)) (((Yy (t.cols.map Col.name) cv)).toNat) (by omega)
   obtain ⟨cs4,hc7,hr4⟩:=he4
   obtain ⟨rfl,hb9,hb10⟩:=Qg hr4
   obtain ⟨p8,x5,hx5,he5,ep5⟩:=Sl.at (hs3.mono ((((hle1.trans hle2).trans hle3).trans hle4).trans hle5)) k2 (by omega)
   obtain ⟨cs5,hc8,hr5⟩:=he5
   obtain ⟨rfl,Yq,Xu⟩:=Qg hr5
   rcases Cmp.dec .neq x4.kind x5.kind with ⟨Xv,q1⟩ | ⟨Xv,q1⟩
   ·have h8 : x4.kind ≠ x5.kind:=q1
    clear q1
    refine dr [] [(62,v1),(63, .agg #[Zd t.name,v1, .int .i64 t.key,v2]),(65,v5),(67, .pointer (some p6)),(68,Zd cv),(69, .int .i64 (Yy (t.cols.map Col.name) cv)),(70, .pointer (some p7)),(72, .int .i64 x4.kind),(74,v3),(76, .pointer (some p8)),(78, .int .i64 x5.kind),(79, .bool true)] hS8 ⟨fun _ hSw=>Zb hSw (Xl.drop 1 (hc1.mono (((hle2.trans hle3).trans hle4).trans hle5))) QM rfl rfl rfl <| nu rfl rfl,fun _ hSw=>Zc hSw (hc1.mono (((hle2.trans hle3).trans hle4).trans hle5)) [Zd t.name,v1, .int .i64 t.key,v2] Xg rfl rfl rfl rfl rfl <| nu rfl rfl,fun _ hSw=>Zb hSw (Xl.drop 0 (hc3.mono (hle4.trans hle5))) XM rfl rfl rfl <| nu rfl rfl,fun _=>Zn k2 ep3 Y8 Yw rfl rfl rfl rfl <| nu rfl rfl,fun _ hSw=>Zb hSw hc6 Yw rfl rfl rfl <| nu rfl rfl,fun _ hSw=>ZH hSw ZiQ rfl rfl rfl (ZbD hSw.imm t cv _ (ZL t hb1 (hs1.mono ((((hle1.trans hle2).trans hle3).trans hle4).trans hle5)) hb2 (hs2.mono ((((hle1.trans hle2).trans hle3).trans hle4).trans hle5)))) rfl,fun _=>Zn (((Yy (t.cols.map Col.name) cv)).toNat) ep4 Qa Xe rfl rfl rfl (congrArg (Value.int .i64) (Int.toNat_of_nonneg (by omega)).symm) <| nu rfl rfl,fun _ hSw=>Zb hSw (Xl.drop 1 hc7) Z7 rfl rfl rfl <| nu rfl rfl,fun _ hSw=>Zb hSw (Xl.drop 1 (hc2.mono ((hle3.trans hle4).trans hle5))) QM rfl rfl rfl <| nu rfl rfl,fun _=>Zn k2 ep5 Qa Xe rfl rfl rfl rfl <| nu rfl rfl,fun _ hSw=>Zb hSw (Xl.drop 1 hc8) Z7 rfl rfl rfl <| nu rfl rfl,fun _=>WL.cmpV .neq rfl .i64 x4.kind x5.kind _ Xv rfl rfl rfl <| nu rfl rfl,trivial⟩ (fun w10 hS9=>?_)
    exact RB hS9 rfl (by exact ZnA ‹_› (Zn5 ‹_› ‹_› ‹_›))
   have h8 : x4.kind = x5.kind:=q1
   clear q1
   refine dr [] [(62,v1),(63, .agg #[Zd t.name,v1, .int .i64 t.key,v2]),(65,v5),(67, .pointer (some p6)),(68,Zd cv),(69, .int .i64 (Yy (t.cols.map Col.name) cv)),(70, .pointer (some p7)),(72, .int .i64 x4.kind),(74,v3),(76, .pointer (some p8)),(78, .int .i64 x5.kind),(79, .bool false)] hS8 ⟨fun _ hSw=>Zb hSw (Xl.drop 1 (hc1.mono (((hle2.trans hle3).trans hle4).trans hle5))) QM rfl rfl rfl <| nu rfl rfl,fun _ hSw=>Zc hSw (hc1.mono (((hle2.trans hle3).trans hle4).trans hle5)) [Zd t.name,v1, .int .i64 t.key,v2] Xg rfl rfl rfl rfl rfl <| nu rfl rfl,fun _ hSw=>Zb hSw (Xl.drop 0 (hc3.mono (hle4.trans hle5))) XM rfl rfl rfl <| nu rfl rfl,fun _=>Zn k2 ep3 Y8 Yw rfl rfl rfl rfl <| nu rfl rfl,fun _ hSw=>Zb hSw hc6 Yw rfl rfl rfl <| nu rfl rfl,fun _ hSw=>ZH hSw ZiQ rfl rfl rfl (ZbD hSw.imm t cv _ (ZL t hb1 (hs1.mono ((((hle1.trans hle2).trans hle3).trans hle4).trans hle5)) hb2 (hs2.mono ((((hle1.trans hle2).trans hle3).trans hle4).trans hle5)))) rfl,fun _=>Zn (((Yy (t.cols.map Col.name) cv)).toNat) ep4 Qa Xe rfl rfl rfl (congrArg (Value.int .i64) (Int.toNat_of_nonneg (by omega)).symm) <| nu rfl rfl,fun _ hSw=>Zb hSw (Xl.drop 1 hc7) Z7 rfl rfl rfl <| nu rfl rfl,fun _ hSw=>Zb hSw (Xl.drop 1 (hc2.mono ((hle3.trans hle4).trans hle5))) QM rfl rfl rfl <| nu rfl rfl,fun _=>Zn k2 ep5 Qa Xe rfl rfl rfl rfl <| nu rfl rfl,fun _ hSw=>Zb hSw (Xl.drop 1 hc8) Z7 rfl rfl rfl <| nu rfl rfl,fun _=>WL.cmpV .neq rfl .i64 x4.kind x5.kind _ Xv rfl rfl rfl <| nu rfl rfl,trivial⟩ (fun w11 hS10=>?_)
   refine Zk k2 (by have hreach : reach = 140737488355328:=rfl; omega) rfl rfl rfl ?_
   exact BK.mk' _ ⟨k2 + 1,G5,rfl,hle5,hS10,⟨rfl,rfl,rfl,rfl,trivial⟩,(by omega),(by exact Zd2 (P:=fun j c=>Zbu t o j c = true) ‹_› ‹_› (Zn4 ‹_› ‹_› ‹_›))⟩ (show f.cols.length - (k2 + 1) < f.cols.length - k2 by omega)
  exact RB hS8 rfl (by exact ZnB hown ‹_› ‹_› ‹_› (by omega))
 exact RB hS4 rfl (by exact Zn7 (how.symm.trans ‹_›))
end Go.Civ
