/- Lemmas. -/
import Derived.Test.YthgeclodflmiaaaGreatP26
import Derived.Test.YthgeclodflmiaaaGreatP30
import Derived.Test.YthgeclodflmiaaaGreatP31
import Derived.Test.YthgeclodflmiaaaGreatP33
import Derived.Test.YthgeclodflmiaaaGreatProg
import Derived.KernelRfl
import Derived.WalkKit
set_option linter.unusedVariables false
set_option linter.unusedSimpArgs false
set_option maxRecDepth 100000
set_option maxHeartbeats 4000000
namespace Go.Civ
open Go.Proofs
theorem Zia {G : GH} {w : World} (hG : G.In w) (x : Link) (v : List Val) (y : HRow) (cx : List Value) (hcx : ZgM.rep G x cx) (vv : Value) (hvv : Sl ValE 32 G vv v) (cr : List Value) (hcr : HRowE.rep G y cr) (ka : ∀ c ∈ x.f.cols,0 ≤ Yy (x.t.s.cols.map Col.name) c) (kb : x.t.s.cols.length ≤ v.length) (kc : x.f.cols.length ≤ y.v.length) : CL Tryz.prog (nat_lit 144) #[.agg cx.toArray,vv, .agg cr.toArray] [] w G fun _ _ r=>r = .bool (XY x.t.s x.f.cols v y.v):=by
 refine Zg ft [] Tryz.func144 rfl rfl ?_
 have hS:=St.start (X:=[]) hG
 obtain ⟨v1,v2,v3,v4,v5,v6,v7,rfl,hb1,hs1,hb2,hs2,hs3,hb3,hb4,hs4,hb5,hs5,hs6,hb6,hs7,hb7⟩:=ZdM hcx
 obtain ⟨v9,rfl,hs8,hb8,hb9,hb10,Yq⟩:=ZK hcr
 refine Zu [Zd x.t.s.name,v1, .int .i64 x.t.s.key,v2,v3, .int .i64 x.t.last,Zd x.o.s.name,v4, .int .i64 x.o.s.key,v5,v6, .int .i64 x.o.last,v7,Zd x.f.table] _ hS rfl rfl rfl (fun p1 w1 G1 hle1 hsp1 hc1 hS1=>?_)
 refine Zu [v9, .int .i64 y.r.d.a, .int .i64 y.r.d.b, .int .i64 y.r.x.a, .int .i64 y.r.x.b] _ hS1 rfl rfl rfl (fun p2 w2 G2 hle2 hsp2 hc2 hS2=>?_)
 refine Zb hS2 (Xl.drop 0 (Xl.drop 12 (hc1.mono hle2))) XM rfl rfl rfl ?_
 have bd1:=hs7.bound
 refine Zi (hs7.mono (hle1.trans hle2)) Y8 rfl rfl ?_
 refine LP.go ft [] (fun m ρ1 w1=>∃ (k1 : Nat),∃ (G3 : GH),m = x.f.cols.length - k1 ∧ G2.le G3 ∧ St w [] G G3 [] w1 ∧ FR ρ1 [(1,vv),(3, .pointer (some p1)),(5, .pointer (some p2)),(11,v7),(12, .int .i64 (x.f.cols.length : Int)),(13, .int .i64 (k1 : Int))] ∧ k1 ≤ x.f.cols.length ∧ ∀ j,j < k1 → ∀ c,x.f.cols[j]? = some c → y.v[j]? = some (Zdr v (Yy (x.t.s.cols.map Col.name) c))) _ ⟨0,G2,rfl,(G2.le_refl),hS2,⟨rfl,rfl,rfl,rfl,rfl,rfl,trivial⟩,(by omega),(by intro j hj; omega)⟩ ?_
 rintro m ρ1 w3 ⟨k1,G3,rfl,hle3,hS3,hF9,f1,f2⟩
 refine hF9.set ?_
 clear hF9
 refine Zq (k1 : Int) (x.f.cols.length : Int) rfl rfl rfl (fun h1=>?_) (fun h1=>?_)
 ·refine WL.indexAddr (hs7.mono ((hle1.trans hle2).trans hle3)) k1 (by omega) Y8 Yw rfl rfl rfl rfl (fun p3 x1 hx1 he1=>?_)
  obtain ⟨cs1,hc3,hr1⟩:=he1
  obtain ⟨rfl,Xu⟩:=hr1
  refine Zb hS3 hc3 Yw rfl rfl rfl ?_
  have hix9:=ka x1 (List.mem_of_getElem? hx1)
  have hlt9:=Zdg hix9
  obtain ⟨p4,x2,hx2,he2,ep1⟩:=Sl.at (hvv.mono ((hle1.trans hle2).trans hle3)) (((Yy (x.t.s.cols.map Col.name) x1)).toNat) (by omega)
  obtain ⟨cs2,hc4,hr2⟩:=he2
  obtain ⟨rfl,Xv,QN,ZaJ⟩:=Yv hr2
  obtain ⟨p5,x3,hx3,he3,ep2⟩:=Sl.at (hs8.mono ((hle1.trans hle2).trans hle3)) k1 (by omega)
  obtain ⟨cs3,hc5,hr3⟩:=he3
  obtain ⟨rfl,ZbI,Zbk,ZbJ⟩:=Yv hr3
  rcases Classical.em (x2 = x3) with h2 | h2
  ·refine dr [] [(21, .agg #[Zd x.t.s.name,v1, .int .i64 x.t.s.key,v2]),(23, .int .i64 (Yy (x.t.s.cols.map Col.name) x1)),(24, .pointer (some p4)),(25, .agg #[.int .i64 x2.k, .int .i64 x2.n,Zd x2.s]),(27,v9),(29, .pointer (some p5)),(30, .agg #[.int .i64 x3.k, .int .i64 x3.n,Zd x3.s]),(31, .bool false)] hS3 ⟨fun _ hSw=>Zc hSw (Xl.drop 0 (Xl.drop 0 (hc1.mono (hle2.trans hle3)))) [Zd x.t.s.name,v1, .int .i64 x.t.s.key,v2] Xg rfl rfl rfl rfl rfl <| nu rfl rfl,fun _ hSw=>ZH hSw Zgi rfl rfl rfl (Zcx hSw.imm x.t.s x1 _ (ZL x.t.s hb1 (hs1.mono ((hle1.trans hle2).trans hle3)) hb2 (hs2.mono ((hle1.trans hle2).trans hle3)))) rfl,fun _=>Zn (((Yy (x.t.s.cols.map Col.name) x1)).toNat) ep1 Ys Ya rfl rfl rfl (congrArg (Value.int .i64) (Int.toNat_of_nonneg (by omega)).symm) <| nu rfl rfl,fun _ hSw=>Zc hSw hc4 [.int .i64 x2.k, .int .i64 x2.n,Zd x2.s] Ya rfl rfl rfl rfl rfl <| nu rfl rfl,fun _ hSw=>Zb hSw (Xl.drop 0 (hc2.mono hle3)) ZG rfl rfl rfl <| nu rfl rfl,fun _=>Zn k1 ep2 Ys Ya rfl rfl rfl rfl <| nu rfl rfl,fun _ hSw=>Zc hSw hc5 [.int .i64 x3.k, .int .i64 x3.n,Zd x3.s] Ya rfl rfl rfl rfl rfl <| nu rfl rfl,fun _=>Zah false (ZeS x2 x3) Ziq (by simp [h2]) rfl rfl rfl <| nu rfl rfl,trivial⟩ (fun w4 hS4=>?_)
   refine Zk k1 (by have hreach : reach = 140737488355328:=rfl; omega) rfl rfl rfl ?_
   exact BK.mk' _ ⟨k1 + 1,G3,rfl,hle3,hS4,⟨rfl,rfl,rfl,rfl,rfl,rfl,trivial⟩,(by omega),(by exact Zrf ‹_› ‹_› ‹_› ‹_› ‹_›)⟩ (show x.f.cols.length - (k1 + 1) < x.f.cols.length - k1 by omega)
  refine dr [] [(21, .agg #[Zd x.t.s.name,v1, .int .i64 x.t.s.key,v2]),(23, .int .i64 (Yy (x.t.s.cols.map Col.name) x1)),(24, .pointer (some p4)),(25, .agg #[.int .i64 x2.k, .int .i64 x2.n,Zd x2.s]),(27,v9),(29, .pointer (some p5)),(30, .agg #[.int .i64 x3.k, .int .i64 x3.n,Zd x3.s]),(31, .bool true)] hS3 ⟨fun _ hSw=>Zc hSw (Xl.drop 0 (Xl.drop 0 (hc1.mono (hle2.trans hle3)))) [Zd x.t.s.name,v1, .int .i64 x.t.s.key,v2] Xg rfl rfl rfl rfl rfl <| nu rfl rfl,fun _ hSw=>ZH hSw Zgi rfl rfl rfl (Zcx hSw.imm x.t.s x1 _ (ZL x.t.s hb1 (hs1.mono ((hle1.trans hle2).trans hle3)) hb2 (hs2.mono ((hle1.trans hle2).trans hle3)))) rfl,fun _=>Zn (((Yy (x.t.s.cols.map Col.name) x1)).toNat) ep1 Ys Ya rfl rfl rfl (congrArg (Value.int .i64) (Int.toNat_of_nonneg (by omega)).symm) <| nu rfl rfl,fun _ hSw=>Zc hSw hc4 [.int .i64 x2.k, .int .i64 x2.n,Zd x2.s] Ya rfl rfl rfl rfl rfl <| nu rfl rfl,fun _ hSw=>Zb hSw (Xl.drop 0 (hc2.mono hle3)) ZG rfl rfl rfl <| nu rfl rfl,fun _=>Zn k1 ep2 Ys Ya rfl rfl rfl rfl <| nu rfl rfl,fun _ hSw=>Zc hSw hc5 [.int .i64 x3.k, .int .i64 x3.n,Zd x3.s] Ya rfl rfl rfl rfl rfl <| nu rfl rfl,fun _=>Zah true (ZeS x2 x3) Ziq (by simp [h2]) rfl rfl rfl <| nu rfl rfl,trivial⟩ (fun w5 hS5=>?_)
  exact RB hS5 rfl (by exact Ztz ‹_› ‹_› ‹_› ‹_›)
 exact RB hS3 rfl (by exact Zsx (by omega) ‹_› (by omega))
theorem ZnL {G : GH} {w : World} (hG : G.In w) (x : Link) (v : List Val) (d : Span) (tx : Int) (cx : List Value) (hcx : ZgM.rep G x cx) (vv : Value) (hvv : Sl ValE 32 G vv v) (cd : List Value) (hcd : SpanE.rep G d cd) (hk : LinkOk x) (hlen : x.t.s.cols.length ≤ v.length) (hd : ZC d = true) : CL Tryz.prog (nat_lit 93) #[.agg cx.toArray,vv, .agg cd.toArray, .int .i64 tx] [] w G fun G' _ r=>Sl SpanE 16 G' r (Yk (lM x) x.o.rows v d tx):=by
 refine Zg ft [] Tryz.func93 rfl rfl ?_
 have hS:=St.start (X:=[]) hG
 obtain ⟨v1,v2,v3,v4,v5,v6,v7,rfl,hb1,hs1,hb2,hs2,hs3,hb3,hb4,hs4,hb5,hs5,hs6,hb6,hs7,hb7⟩:=ZdM hcx
 obtain ⟨rfl,hb8,hb9⟩:=ZF hcd
 refine Zu [Zd x.t.s.name,v1, .int .i64 x.t.s.key,v2,v3, .int .i64 x.t.last,Zd x.o.s.name,v4, .int .i64 x.o.s.key,v5,v6, .int .i64 x.o.last,v7,Zd x.f.table] _ hS rfl rfl rfl (fun p1 w1 G1 hle1 hsp1 hc1 hS1=>?_)
 refine Zu [.int .i64 d.a, .int .i64 d.b] _ hS1 rfl rfl rfl (fun p2 w2 G2 hle2 hsp2 hc2 hS2=>?_)
 obtain ⟨hg9,hn9,h89,he9⟩:=ZE hk.o
 refine Zb hS2 (Xl.drop 4 (Xl.drop 6 (hc1.mono hle2))) YW rfl rfl rfl ?_
 have bd1:=hs6.bound
 refine Zi (hs6.mono (hle1.trans hle2)) YB rfl rfl ?_
 have hS4:=hS2.pad
 refine LP.go ft [] (fun m ρ1 w1=>∃ (k1 : Nat),∃ (v9 : Value) (o1 : OB),∃ (G3 : GH),m = x.o.rows.length - k1 ∧ G2.le G3 ∧ St w [] G G3 [o1] w1 ∧ ZS SpanE 16 33 G3 v9 (Qw (lM x) (x.o.rows.take k1) v tx) o1 ∧ FR ρ1 [(1,vv),(3, .int .i64 tx),(4, .pointer (some p1)),(6, .pointer (some p2)),(9,v9),(18,v6),(19, .int .i64 (x.o.rows.length : Int)),(20, .int .i64 (k1 : Int))] ∧ k1 ≤ x.o.rows.length) _ ⟨0,(.slice none 0 0),none,G2,rfl,(G2.le_refl),hS4,(ZS.cast (ZS.nil SpanE 16 33 G2) (by rfl)),⟨rfl,rfl,rfl,rfl,rfl,rfl,rfl,rfl,trivial⟩,(by omega)⟩ ?_
 rintro m ρ1 w3 ⟨k1,v9,o1,G3,rfl,hle3,hS3,hr1,hF9,f1⟩
 refine hF9.set ?_
 clear hF9
 have hcl:=ZjL (M:=lM x) x.o.rows v tx k1
 refine Zq (k1 : Int) (x.o.rows.length : Int) rfl rfl rfl (fun h1=>?_) (fun h1=>?_)
 ·refine WL.indexAddr (hs6.mono ((hle1.trans hle2).trans hle3)) k1 (by omega) YB Zx rfl rfl rfl rfl (fun p3 x1 hx1 he1=>?_)
  obtain ⟨cs1,hc3,hr2⟩:=he1
  obtain ⟨v10,rfl,hs8,hb10,Yq,Xu,Xv⟩:=ZK hr2
  refine Zc hS3 hc3 [v10, .int .i64 x1.r.d.a, .int .i64 x1.r.d.b, .int .i64 x1.r.x.a, .int .i64 x1.r.x.b] Zx rfl rfl rfl rfl rfl ?_
  refine WL.alloc hS3 Zx rfl rfl (fun b1 w4 hn1 hS5=>?_)
  refine WL.store hS5 0 _ _ _ 0 _ [v10, .int .i64 x1.r.d.a, .int .i64 x1.r.d.b, .int .i64 x1.r.x.a, .int .i64 x1.r.x.b] [v10, .int .i64 x1.r.d.a, .int .i64 x1.r.d.b, .int .i64 x1.r.x.a, .int .i64 x1.r.x.b] _ rfl rfl Zx rfl (Nat.le_of_ble_eq_true rfl) (by simp only [List.all_cons,List.all_nil,hs8.oneC,Bool.true_and] <;> rfl) rfl rfl rfl rfl rfl (fun w5 hS6=>?_)
  obtain ⟨G4,hle4,hc4,hS7⟩:=hS6.shutB hn1
  refine Zc hS7 (Xl.drop 2 (Xl.drop 1 hc4)) [.int .i64 x1.r.x.a, .int .i64 x1.r.x.b] Zt rfl rfl rfl rfl rfl ?_
  refine Zj hS7 Qy rfl rfl rfl (Qz hS7.imm x1.r.x tx _ (Zs x1.r.x Xu Xv)) (fun w6 G5 hS8 hle5=>?_)
  refine WL.split (fun (h2 : (Xf tx x1.r.x) = true)=>?_) (fun (h2 : (Xf tx x1.r.x) = false)=>?_)
  ·refine Zc hS8 (hc1.mono (((hle2.trans hle3).trans hle4).trans hle5)) [Zd x.t.s.name,v1, .int .i64 x.t.s.key,v2,v3, .int .i64 x.t.last,Zd x.o.s.name,v4, .int .i64 x.o.s.key,v5,v6, .int .i64 x.o.last,v7,Zd x.f.table] Zgh rfl rfl rfl rfl rfl <| Zc hS8 (hc4.mono hle5) [v10, .int .i64 x1.r.d.a, .int .i64 x1.r.d.b, .int .i64 x1.r.x.a, .int .i64 x1.r.x.b] Zx rfl rfl rfl rfl rfl ?_
   refine Zj hS8 ZpE rfl rfl rfl (Zia hS8.imm x v x1 _ (Zcz x hb1 (hs1.mono ((((hle1.trans hle2).trans hle3).trans hle4).trans hle5)) hb2 (hs2.mono ((((hle1.trans hle2).trans hle3).trans hle4).trans hle5)) (hs3.mono ((((hle1.trans hle2).trans hle3).trans hle4).trans hle5)) hb3 hb4 (hs4.mono ((((hle1.trans hle2).trans hle3).trans hle4).trans hle5)) hb5 (hs5.mono ((((hle1.trans hle2).trans hle3).trans hle4).trans hle5)) (hs6.mono ((((hle1.trans hle2).trans hle3).trans hle4).trans hle5)) hb6 (hs7.mono ((((hle1.trans hle2).trans hle3).trans hle4).trans hle5)) hb7) _ (hvv.mono ((((hle1.trans hle2).trans hle3).trans hle4).trans hle5)) _ (ZM x1 (hs8.mono (hle4.trans hle5)) hb10 Yq Xu Xv) hk.cols hlen (hk.olen (List.mem_of_getElem? (by assumption : x.o.rows[k1]? = some _)))) (fun w7 G6 hS9 hle6=>?_)
   refine WL.split (fun (h3 : (XY x.t.s x.f.cols v x1.v) = true)=>?_) (fun (h3 : (XY x.t.s x.f.cols v x1.v) = false)=>?_)
   ·refine Zc hS9 (Xl.drop 0 (Xl.drop 1 (hc4.mono (hle5.trans hle6)))) [.int .i64 x1.r.d.a, .int .i64 x1.r.d.b] Zt rfl rfl rfl rfl rfl ?_
    refine WL.buildSlice _ [(0,[.int .i64 x1.r.d.a, .int .i64 x1.r.d.b])] [.int .i64 x1.r.d.a, .int .i64 x1.r.d.b] hS9 Yn rfl rfl rfl rfl (fun z hz=>by match z,hz with | [z0,z1],_=>rfl) (fun b2 w9 hn2 hS10=>?_)
    refine WL.push (m:=([x1.r.d] : List Span)) Yn rfl rfl rfl (hr1.mono ((hle4.trans hle5).trans hle6)) hS10 1 rfl 0 _ _ _ _ _ rfl ⟨[.int .i64 x1.r.d.a, .int .i64 x1.r.d.b],_,rfl,(Zs x1.r.d hb10 Yq),rfl⟩ rfl (by have hreach : reach = 140737488355328:=rfl; simp only [List.length_append,List.length_cons,List.length_nil]; omega) (by have hreach : reach = 140737488355328:=rfl; simp only [List.length_append,List.length_cons,List.length_nil]; omega) rfl rfl rfl (fun v11 o2 w10 hr3 hS11=>?_)
    have hS12:=hS11.tail
    refine Zk k1 (by have hreach : reach = 140737488355328:=rfl; omega) rfl rfl rfl ?_
    exact BK.mk' _ ⟨k1 + 1,v11,o2,G6,rfl,(hle3.trans ((hle4.trans hle5).trans hle6)),hS12,(ZS.cast hr3 (by (exact (Zpp ‹_› ‹_› ‹_›).symm))),⟨rfl,rfl,rfl,rfl,rfl,rfl,rfl,rfl,trivial⟩,(by omega)⟩ (show x.o.rows.length - (k1 + 1) < x.o.rows.length - k1 by omega)
   refine Zk k1 (by have hreach : reach = 140737488355328:=rfl; omega) rfl rfl rfl ?_
   exact BK.mk' _ ⟨k1 + 1,v9,o1,G6,rfl,(hle3.trans ((hle4.trans hle5).trans hle6)),hS9,(ZS.cast (hr1.mono ((hle4.trans hle5).trans hle6)) (by (exact (ZkF ‹_› (by first | exact .inl ‹_› | exact .inr ‹_›)).symm))),⟨rfl,rfl,rfl,rfl,rfl,rfl,rfl,rfl,trivial⟩,(by omega)⟩ (show x.o.rows.length - (k1 + 1) < x.o.rows.length - k1 by omega)
  refine Zk k1 (by have hreach : reach = 140737488355328:=rfl; omega) rfl rfl rfl ?_
  exact BK.mk' _ ⟨k1 + 1,v9,o1,G5,rfl,(hle3.trans (hle4.trans hle5)),hS8,(ZS.cast (hr1.mono (hle4.trans hle5)) (by (exact (ZkF ‹_› (by first | exact .inl ‹_› | exact .inr ‹_›)).symm))),⟨rfl,rfl,rfl,rfl,rfl,rfl,rfl,rfl,trivial⟩,(by omega)⟩ (show x.o.rows.length - (k1 + 1) < x.o.rows.length - k1 by omega)
 obtain ⟨G7,hle7,hs9,hS13⟩:=ZS.freeze hr1 hS3 0 rfl
 refine Z3 hS13 ZpD rfl rfl rfl (Zju hS13.imm (Qw (lM x) (x.o.rows.take k1) v tx) _ hs9 (by rw [List.take_of_length_le (by omega)]; exact ZcK hg9) (by omega)) ?_
 rintro w11 G9 _ ⟨r2,_,rfl,hs10,rfl⟩ hS14 hle9
 refine Zc hS14 (hc2.mono ((hle3.trans hle7).trans hle9)) [.int .i64 d.a, .int .i64 d.b] Zt rfl rfl rfl rfl rfl ?_
 refine WL.buildSlice _ [(0,[.int .i64 d.a, .int .i64 d.b])] [.int .i64 d.a, .int .i64 d.b] hS14 Yn rfl rfl rfl rfl (fun z hz=>by match z,hz with | [z0,z1],_=>rfl) (fun b3 w12 hn3 hS15=>?_)
 obtain ⟨G10,hle10,hs11,hS16⟩:=St.sealSl (E:=SpanE) (by_:=16) (l:=([d] : List Span)) hS15 hn3 ⟨[.int .i64 d.a, .int .i64 d.b],_,rfl,(Zs d hb8 hb9),rfl⟩ rfl (by simp [reach]) (by simp [reach])
 refine Z3 hS16 ZrA rfl rfl rfl (Zkz hS16.imm [d] (XD (Qw (lM x) (x.o.rows.take k1) v tx)) _ hs11 _ (hs10.mono hle10) (Zdf (Yp hd)) (X5 (fun s hs=>Yp (ZcK (fun r hr=>hg9 r (List.mem_of_mem_take hr)) s hs))).can (by intro s hs; rw [List.mem_singleton.1 hs]; exact Zbm hd) (fun s hs=>Zbm (Zgr (ZcK (fun r hr=>hg9 r (List.mem_of_mem_take hr))) s hs)) (by simp) (Nat.le_trans Zb9 (by omega))) ?_
 rintro w13 G11 _ ⟨r5,_,rfl,hs12,rfl⟩ hS17 hle11
 exact RT hS17 rfl (Sl.cast hs12 (by rw [List.take_of_length_le (by omega)]; rfl))
theorem ZnM {G : GH} {w : World} (hG : G.In w) (a b : List (List UInt8)) (va : Value) (hva : Sl Enc.str 16 G va a) (vb : Value) (hvb : Sl Enc.str 16 G vb b) : CL Tryz.prog (nat_lit 143) #[va,vb] [] w G fun _ _ r=>r = .bool (decide (a = b)):=by
 refine Zg ft [] Tryz.func143 rfl rfl ?_
 have hS:=St.start (X:=[]) hG
 have bd1:=hva.bound
 refine Zi hva Y8 rfl rfl ?_
 have bd2:=hvb.bound
 refine Zi hvb Y8 rfl rfl ?_
 refine YQ (a.length : Int) (b.length : Int) rfl rfl rfl (fun h1=>?_) (fun h1=>?_)
 ·exact RB hS rfl (by rw [← Qi]; exact (Zag (by omega)).symm)
 have bd3:=hva.bound
 refine Zi hva Y8 rfl rfl ?_
 refine LP.go ft [] (fun m ρ1 w1=>∃ (k1 : Nat),∃ (G1 : GH),m = a.length - k1 ∧ G.le G1 ∧ St w [] G G1 [] w1 ∧ FR ρ1 [(0,va),(1,vb),(12, .int .i64 (a.length : Int)),(13, .int .i64 (k1 : Int))] ∧ k1 ≤ a.length ∧ ∀ j,j < k1 → ∀ x y,a[j]? = some x → b[j]? = some y → decide (x = y) = true) _ ⟨0,G,rfl,(G.le_refl),hS,⟨rfl,rfl,rfl,rfl,trivial⟩,(by omega),(by intro j hj; omega)⟩ ?_
 rintro m ρ1 w1 ⟨k1,G1,rfl,hle1,hS1,hF9,f1,f2⟩
 refine hF9.set ?_
 clear hF9
 refine Zq (k1 : Int) (a.length : Int) rfl rfl rfl (fun h2=>?_) (fun h2=>?_)
 ·obtain ⟨p1,x1,hx1,he1,ep1⟩:=Sl.at (hva.mono hle1) k1 (by omega)
  obtain ⟨cs1,hc1,hr1⟩:=he1
  obtain ⟨rfl,hb1⟩:=hr1
  obtain ⟨p2,x2,hx2,he2,ep2⟩:=Sl.at (hvb.mono hle1) k1 (by omega)
  obtain ⟨cs2,hc2,hr2⟩:=he2
  obtain ⟨rfl,hb2⟩:=hr2
  rcases Classical.em (x1 = x2) with h3 | h3
  ·refine dr [] [(18, .pointer (some p1)),(19,Zd x1),(22, .pointer (some p2)),(23,Zd x2),(24, .bool false)] hS1 ⟨fun _=>Zn k1 ep1 Y8 Yw rfl rfl rfl rfl <| nu rfl rfl,fun _ hSw=>Zb hSw hc1 Yw rfl rfl rfl <| nu rfl rfl,fun _=>Zn k1 ep2 Y8 Yw rfl rfl rfl rfl <| nu rfl rfl,fun _ hSw=>Zb hSw hc2 Yw rfl rfl rfl <| nu rfl rfl,fun _=>QT .neq rfl x1 x2 false (by simp [h3,SCmp.b]) rfl rfl rfl <| nu rfl rfl,trivial⟩ (fun w2 hS2=>?_)
   refine Zk k1 (by have hreach : reach = 140737488355328:=rfl; omega) rfl rfl rfl ?_
   exact BK.mk' _ ⟨k1 + 1,G1,rfl,hle1,hS2,⟨rfl,rfl,rfl,rfl,trivial⟩,(by omega),(by exact Za2 ‹_› ‹_› ‹_› (by simp_all))⟩ (show a.length - (k1 + 1) < a.length - k1 by omega)
  refine dr [] [(18, .pointer (some p1)),(19,Zd x1),(22, .pointer (some p2)),(23,Zd x2),(24, .bool true)] hS1 ⟨fun _=>Zn k1 ep1 Y8 Yw rfl rfl rfl rfl <| nu rfl rfl,fun _ hSw=>Zb hSw hc1 Yw rfl rfl rfl <| nu rfl rfl,fun _=>Zn k1 ep2 Y8 Yw rfl rfl rfl rfl <| nu rfl rfl,fun _ hSw=>Zb hSw hc2 Yw rfl rfl rfl <| nu rfl rfl,fun _=>QT .neq rfl x1 x2 true (by simp [h3,SCmp.b]) rfl rfl rfl <| nu rfl rfl,trivial⟩ (fun w3 hS3=>?_)
  exact RB hS3 rfl (by rw [← Qi]; exact (ZaG (f:=fun (x y : List UInt8)=>decide (x = y)) ‹_› ‹_› (by simp_all)).symm)
 exact RB hS1 rfl (by rw [← Qi]; exact (Za5 (by omega) ‹_› (by omega)).symm)
theorem ZnN {G : GH} {w : World} (hG : G.In w) (l : List Foreign) (pf : Foreign → Bool) (vl : Value) (hvl : Sl ForeignE 40 G vl l) (fid : Nat) (fcap : Array Value) (hf : FnB Tryz.prog (Is ForeignE) fid fcap G (fun x=>x ∈ l) pf) : CL Tryz.prog (nat_lit 191) #[vl, .func (.func fid) #[] fcap] [] w G fun _ _ r=>r = .int .i64 (Q6 pf l):=by
 refine Zg ft [] Tryz.func191 rfl rfl ?_
 have hS:=St.start (X:=[]) hG
 have bd1:=hvl.bound
 refine Zi hvl ZbH rfl rfl ?_
 refine LP.go ft [] (fun m ρ1 w1=>∃ (k1 : Nat),∃ (G1 : GH),m = l.length - k1 ∧ G.le G1 ∧ St w [] G G1 [] w1 ∧ FR ρ1 [(0,vl),(1, .func (.func fid) #[] fcap),(7, .int .i64 (l.length : Int)),(8, .int .i64 (k1 : Int))] ∧ k1 ≤ l.length ∧ ∀ j,j < k1 → ∀ x,l[j]? = some x → pf x = false) _ ⟨0,G,rfl,(G.le_refl),hS,⟨rfl,rfl,rfl,rfl,trivial⟩,(by omega),(by intro j hj; omega)⟩ ?_
 rintro m ρ1 w1 ⟨k1,G1,rfl,hle1,hS1,hF9,f1,f2⟩
 refine hF9.set ?_
 clear hF9
 refine Zq (k1 : Int) (l.length : Int) rfl rfl rfl (fun h1=>?_) (fun h1=>?_)
 ·refine WL.indexAddr (hvl.mono hle1) k1 (by omega) ZbH XZ rfl rfl rfl rfl (fun p1 x1 hx1 he1=>?_)
  obtain ⟨cs1,hc1,hr1⟩:=he1
  obtain ⟨v1,rfl,hs1,hb1⟩:=Y1 hr1
  refine Zc hS1 hc1 [v1,Zd x1.table] XZ rfl rfl rfl rfl rfl ?_
  refine Zj hS1 hf.body rfl rfl rfl (hf.call _ _ (.agg #[v1,Zd x1.table]) x1 hle1 hS1.imm (List.mem_of_getElem? hx1) ⟨_,rfl,(Xc x1 hs1 hb1)⟩) (fun w2 G2 hS2 hle2=>?_)
  refine WL.split (fun (h2 : (pf x1) = true)=>?_) (fun (h2 : (pf x1) = false)=>?_)
  ·exact RI hS2 rfl (by exact (QU _ ‹_› ‹_› ‹_›).symm)
  refine Zk k1 (by have hreach : reach = 140737488355328:=rfl; omega) rfl rfl rfl ?_
  exact BK.mk' _ ⟨k1 + 1,G2,rfl,(hle1.trans hle2),hS2,⟨rfl,rfl,rfl,rfl,trivial⟩,(by omega),(by exact YV ‹_› ‹_› ‹_›)⟩ (show l.length - (k1 + 1) < l.length - k1 by omega)
 exact RI hS1 rfl (by exact (Q7 ‹_› (by omega)).symm)
theorem ZjR {G : GH} {w : World} (hG : G.In w) (l : List Foreign) (pf : Foreign → Bool) (vl : Value) (hvl : Sl ForeignE 40 G vl l) (fid : Nat) (fcap : Array Value) (hf : FnB Tryz.prog (Is ForeignE) fid fcap G (fun x=>x ∈ l) pf) : CL Tryz.prog (nat_lit 141) #[vl, .func (.func fid) #[] fcap] [] w G fun _ _ r=>r = .bool (l.any pf):=by
 refine Zg ft [] Tryz.func141 rfl rfl ?_
 have hS:=St.start (X:=[]) hG
 refine Zj hS Zto rfl rfl rfl (ZnN hS.imm l pf _ hvl fid fcap (hf.up (G.le_refl))) (fun w1 G1 hS1 hle1=>?_)
 refine ZY .geq rfl .i64 (Q6 pf l) 0 rfl rfl rfl ?_
 exact RB hS1 rfl (by exact Zbh _ _)
theorem Zrg {G : GH} {w : World} (hG : G.In w) (y : Foreign) (fc : List (List UInt8)) (ftb : List UInt8) (cy : List Value) (hcy : ForeignE.rep G y cy) (vc : Value) (hvc : Sl Enc.str 16 G vc fc) (pf : Addr) (hpf : Xl G pf [vc,Zd ftb]) : CL Tryz.prog (nat_lit 142) #[.agg cy.toArray, .pointer (some pf)] [] w G fun _ _ r=>r = .bool (decide (y.table = ftb) && decide (y.cols = fc)):=by
 refine Zg ft [] Tryz.func142 rfl rfl ?_
 have hS:=St.start (X:=[]) hG
 obtain ⟨v1,rfl,hs1,hb1⟩:=Y1 hcy
 refine Zu [v1,Zd y.table] _ hS rfl rfl rfl (fun p1 w1 G1 hle1 hsp1 hc1 hS1=>?_)
 refine Zb hS1 (Xl.drop 1 hc1) Yw rfl rfl rfl <| Zb hS1 (Xl.drop 1 (hpf.mono hle1)) Yw rfl rfl rfl <| Xr .eql rfl y.table ftb rfl rfl rfl ?_
 refine WL.split (fun h0=>?_) (fun h0=>?_)
 ·have h1 : y.table = ftb:=by simpa [SCmp.b] using h0
  clear h0
  refine Zb hS1 (Xl.drop 0 hc1) XM rfl rfl rfl <| Zb hS1 (Xl.drop 0 (hpf.mono hle1)) XM rfl rfl rfl ?_
  refine Zj hS1 ZsY rfl rfl rfl (ZnM hS1.imm y.cols fc _ (hs1.mono hle1) _ (hvc.mono hle1)) (fun w2 G2 hS2 hle2=>?_)
  exact RB hS2 rfl (by simp_all [SCmp.b])
 have h1 : y.table ≠ ftb:=by simpa [SCmp.b] using h0
 clear h0
 exact RB hS1 rfl (by simp_all [SCmp.b])
theorem ZnO {G : GH} {w : World} (hG : G.In w) (t o : Schema) (f : Foreign) (cs : List Value) (hcs : SchemaE.rep G t cs) (cu : List Value) (hcu : SchemaE.rep G o cu) (cf : List Value) (hcf : ForeignE.rep G f cf) (hs : Yl t = true) (ho : Yl o = true) : CL Tryz.prog (nat_lit 90) #[.agg cs.toArray, .agg cu.toArray, .agg cf.toArray] [] w G fun _ _ r=>r = .bool (YP t o f):=by
 refine Zg ft [] Tryz.func90 rfl rfl ?_
 have hS:=St.start (X:=[]) hG
 obtain ⟨v1,v2,rfl,hb1,hs1,hb2,hs2⟩:=YJ hcs
 obtain ⟨v3,v4,rfl,hb3,hs3,hb4,hs4⟩:=YJ hcu
 obtain ⟨v5,rfl,hs5,hb5⟩:=Y1 hcf
 refine Zu [Zd t.name,v1, .int .i64 t.key,v2] _ hS rfl rfl rfl (fun p1 w1 G1 hle1 hsp1 hc1 hS1=>?_)
 refine Zu [Zd o.name,v3, .int .i64 o.key,v4] _ hS1 rfl rfl rfl (fun p2 w2 G2 hle2 hsp2 hc2 hS2=>?_)
 refine Zu [v5,Zd f.table] _ hS2 rfl rfl rfl (fun p3 w3 G3 hle3 hsp3 hc3 hS3=>?_)
 refine Zb hS3 (Xl.drop 3 (hc1.mono (hle2.trans hle3))) ZcN rfl rfl rfl ?_
 refine Zj hS3 ZsW rfl rfl rfl (ZjR hS3.imm t.fks (fun x8=>(decide (x8.table = f.table) && decide (x8.cols = f.cols))) _ (hs2.mono ((hle1.trans hle2).trans hle3)) 142 #[.pointer (some p3)] ⟨ZsX,fun G8 w8 v8 x8 hle8 hG8 hon8 hA8=>by obtain ⟨cs_x8,rfl,hr_x8⟩:=hA8; exact Zrg hG8 x8 f.cols f.table cs_x8 hr_x8 v5 ((hs5.mono ((hle1.trans hle2).trans hle3)).mono hle8) p3 (hc3.mono hle8)⟩) (fun w4 G4 hS4 hle4=>?_)
 refine WL.split (fun (h1 : (t.fks.any (fun x8=>(decide (x8.table = f.table) && decide (x8.cols = f.cols)))) = true)=>?_) (fun (h1 : (t.fks.any (fun x8=>(decide (x8.table = f.table) && decide (x8.cols = f.cols)))) = false)=>?_)
 ·refine Zb hS4 (Xl.drop 1 (hc3.mono hle4)) Yw rfl rfl rfl <| Zb hS4 (Xl.drop 0 (hc2.mono (hle3.trans hle4))) Yw rfl rfl rfl <| Xr .neq rfl f.table o.name rfl rfl rfl ?_
  refine WL.split (fun h0=>?_) (fun h0=>?_)
  ·have h2 : f.table ≠ o.name:=by simpa [SCmp.b] using h0
   clear h0
   exact RB hS4 rfl (by exact Zn8 ‹_›)
  have h2 : f.table = o.name:=by simpa [SCmp.b] using h0
  clear h0
  refine Zb hS4 (Xl.drop 0 (hc3.mono hle4)) XM rfl rfl rfl ?_
  have bd1:=hs5.bound
  refine Zi (hs5.mono (((hle1.trans hle2).trans hle3).trans hle4)) Y8 rfl rfl <| Zb hS4 (Xl.drop 2 (hc2.mono (hle3.trans hle4))) Z7 rfl rfl rfl ?_
  refine YQ (f.cols.length : Int) o.key rfl rfl rfl (fun h3=>?_) (fun h3=>?_)
  ·exact RB hS4 rfl (by exact Zn9 ‹_›)
  refine Zb hS4 (Xl.drop 0 (hc3.mono hle4)) XM rfl rfl rfl ?_
  have bd2:=hs5.bound
  refine Zi (hs5.mono (((hle1.trans hle2).trans hle3).trans hle4)) Y8 rfl rfl ?_
  refine LP.go ft [] (fun m ρ1 w1=>∃ (k1 : Nat),∃ (G5 : GH),m = f.cols.length - k1 ∧ G4.le G5 ∧ St w [] G G5 [] w1 ∧ FR ρ1 [(3, .pointer (some p1)),(4, .pointer (some p2)),(32,v5),(33, .int .i64 (f.cols.length : Int)),(34, .int .i64 (k1 : Int))] ∧ k1 ≤ f.cols.length ∧ ∀ j,j < k1 → ∀ c,f.cols[j]? = some c → Zbu t o j c = true) _ ⟨0,G4,rfl,(G4.le_refl),hS4,⟨rfl,rfl,rfl,rfl,rfl,trivial⟩,(by omega),(by intro j hj; omega)⟩ ?_
  rintro m ρ1 w5 ⟨k1,G5,rfl,hle5,hS5,hF9,f1,f2⟩
  refine hF9.set ?_
  clear hF9
  refine Zq (k1 : Int) (f.cols.length : Int) rfl rfl rfl (fun h4=>?_) (fun h4=>?_)
  ·refine WL.indexAddr (hs5.mono ((((hle1.trans hle2).trans hle3).trans hle4).trans hle5)) k1 (by omega) Y8 Yw rfl rfl rfl rfl (fun p4 x1 hx1 he1=>?_)
   obtain ⟨cs1,hc4,hr1⟩:=he1
   obtain ⟨rfl,hb6⟩:=hr1
   refine Zb hS5 hc4 Yw rfl rfl rfl ?_
   have hix9:=ZfH hs (by assumption : ZeH t f = true) x1 (List.mem_of_getElem? hx1)
   have hlt9:=Zdg hix9
   have hkk:=(ZdN ho).2
   obtain ⟨p5,x2,hx2,he2,ep1⟩:=Sl.at (hs1.mono ((((hle1.trans hle2).trans hle3).trans hle4).trans hle5)) (((Yy (t.cols.map Col.name) x1)).toNat) (by omega)
   obtain ⟨cs2,hc5,hr2⟩:=he2
   obtain ⟨rfl,hb7,hb8⟩:=Qg hr2
   obtain ⟨p6,x3,hx3,he3,ep2⟩:=Sl.at (hs3.mono ((((hle1.trans hle2).trans hle3).trans hle4).trans hle5)) k1 (by omega)
   obtain ⟨cs3,hc6,hr3⟩:=he3
   obtain ⟨rfl,hb9,hb10⟩:=Qg hr3
   rcases Cmp.dec .neq x2.kind x3.kind with ⟨Yq,q1⟩ | ⟨Yq,q1⟩
   ·have h5 : x2.kind ≠ x3.kind:=q1
    clear q1
    refine dr [] [(40,v1),(41, .agg #[Zd t.name,v1, .int .i64 t.key,v2]),(43, .int .i64 (Yy (t.cols.map Col.name) x1)),(44, .pointer (some p5)),(46, .int .i64 x2.kind),(48,v3),(50, .pointer (some p6)),(52, .int .i64 x3.kind),(53, .bool true)] hS5 ⟨fun _ hSw=>Zb hSw (Xl.drop 1 (hc1.mono (((hle2.trans hle3).trans hle4).trans hle5))) QM rfl rfl rfl <| nu rfl rfl,fun _ hSw=>Zc hSw (hc1.mono (((hle2.trans hle3).trans hle4).trans hle5)) [Zd t.name,v1, .int .i64 t.key,v2] Xg rfl rfl rfl rfl rfl <| nu rfl rfl,fun _ hSw=>ZH hSw Zgi rfl rfl rfl (Zcx hSw.imm t x1 _ (ZL t hb1 (hs1.mono ((((hle1.trans hle2).trans hle3).trans hle4).trans hle5)) hb2 (hs2.mono ((((hle1.trans hle2).trans hle3).trans hle4).trans hle5)))) rfl,fun _=>Zn (((Yy (t.cols.map Col.name) x1)).toNat) ep1 Qa Xe rfl rfl rfl (congrArg (Value.int .i64) (Int.toNat_of_nonneg (by omega)).symm) <| nu rfl rfl,fun _ hSw=>Zb hSw (Xl.drop 1 hc5) Z7 rfl rfl rfl <| nu rfl rfl,fun _ hSw=>Zb hSw (Xl.drop 1 (hc2.mono ((hle3.trans hle4).trans hle5))) QM rfl rfl rfl <| nu rfl rfl,fun _=>Zn k1 ep2 Qa Xe rfl rfl rfl rfl <| nu rfl rfl,fun _ hSw=>Zb hSw (Xl.drop 1 hc6) Z7 rfl rfl rfl <| nu rfl rfl,fun _=>WL.cmpV .neq rfl .i64 x2.kind x3.kind _ Yq rfl rfl rfl <| nu rfl rfl,trivial⟩ (fun w6 hS6=>?_)
    exact RB hS6 rfl (by exact ZnA ‹_› (Zn5 ‹_› ‹_› ‹_›))
   have h5 : x2.kind = x3.kind:=q1
   clear q1
   refine dr [] [(40,v1),(41, .agg #[Zd t.name,v1, .int .i64 t.key,v2]),(43, .int .i64 (Yy (t.cols.map Col.name) x1)),(44, .pointer (some p5)),(46, .int .i64 x2.kind),(48,v3),(50, .pointer (some p6)),(52, .int .i64 x3.kind),(53, .bool false)] hS5 ⟨fun _ hSw=>Zb hSw (Xl.drop 1 (hc1.mono (((hle2.trans hle3).trans hle4).trans hle5))) QM rfl rfl rfl <| nu rfl rfl,fun _ hSw=>Zc hSw (hc1.mono (((hle2.trans hle3).trans hle4).trans hle5)) [Zd t.name,v1, .int .i64 t.key,v2] Xg rfl rfl rfl rfl rfl <| nu rfl rfl,fun _ hSw=>ZH hSw Zgi rfl rfl rfl (Zcx hSw.imm t x1 _ (ZL t hb1 (hs1.mono ((((hle1.trans hle2).trans hle3).trans hle4).trans hle5)) hb2 (hs2.mono ((((hle1.trans hle2).trans hle3).trans hle4).trans hle5)))) rfl,fun _=>Zn (((Yy (t.cols.map Col.name) x1)).toNat) ep1 Qa Xe rfl rfl rfl (congrArg (Value.int .i64) (Int.toNat_of_nonneg (by omega)).symm) <| nu rfl rfl,fun _ hSw=>Zb hSw (Xl.drop 1 hc5) Z7 rfl rfl rfl <| nu rfl rfl,fun _ hSw=>Zb hSw (Xl.drop 1 (hc2.mono ((hle3.trans hle4).trans hle5))) QM rfl rfl rfl <| nu rfl rfl,fun _=>Zn k1 ep2 Qa Xe rfl rfl rfl rfl <| nu rfl rfl,fun _ hSw=>Zb hSw (Xl.drop 1 hc6) Z7 rfl rfl rfl <| nu rfl rfl,fun _=>WL.cmpV .neq rfl .i64 x2.kind x3.kind _ Yq rfl rfl rfl <| nu rfl rfl,trivial⟩ (fun w7 hS7=>?_)
   refine Zk k1 (by have hreach : reach = 140737488355328:=rfl; omega) rfl rfl rfl ?_
   exact BK.mk' _ ⟨k1 + 1,G5,rfl,hle5,hS7,⟨rfl,rfl,rfl,rfl,rfl,trivial⟩,(by omega),(by exact Zd2 (P:=fun j c=>Zbu t o j c = true) ‹_› ‹_› (Zn4 ‹_› ‹_› ‹_›))⟩ (show f.cols.length - (k1 + 1) < f.cols.length - k1 by omega)
  exact RB hS5 rfl (by exact ZnB ‹_› ‹_› ‹_› ‹_› (by omega))
 exact RB hS4 rfl (by exact Zn7 ‹_›)
end Go.Civ
