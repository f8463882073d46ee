/- Lemmas. -/
import Derived.Test.YthgeclodflmiaaaGreatH20
import Derived.Test.YthgeclodflmiaaaGreatH24
import Derived.Test.YthgeclodflmiaaaGreatH30
import Derived.Test.YthgeclodflmiaaaGreatH32
import Derived.Test.YthgeclodflmiaaaGreatProg
import Derived.KernelRfl
import Derived.WalkKit
set_option linter.unusedVariables false
set_option linter.unusedSimpArgs false
set_option maxRecDepth 100000
set_option maxHeartbeats 4000000
namespace Go.Civ
open Go.Proofs
theorem ZrB {G : GH} {w : World} (hG : G.In w) (l : List Val) (vl : Value) (hvl : Sl ValE 32 G vl l) : CL Tryz.prog (nat_lit 73) #[vl] [] w G fun G' w' r=>∃ o,Ye ValE 32 (nat_lit 58) G' r l o ∧ Ze1 w w' G' o:=by
 refine Zg ft [] Tryz.func73 rfl rfl ?_
 have hS:=St.start (X:=[]) hG
 refine Ze2 hvl Yd rfl rfl rfl (fun h1=>?_) ?_
 ·exact RT hS rfl ⟨none,Ye.cast (Ye.nil _ _ _ _) (by exact Eq.symm ‹_›),fun _ h=>by cases h⟩
 refine WL.buildSlice _ [] [] hS Zk4 rfl rfl rfl rfl (fun z hz=>by match z,hz with | [],_=>rfl) (fun b1 w1 hn1 hS1=>?_)
 have hr1:=Ye.empty ValE 32 58 G b1
 refine YE Zk4 rfl rfl rfl hr1 hS1 0 rfl hvl (by have hreach : reach = 140737488355328:=rfl; have:=hvl.bytes; have:=hvl.bound; simp only [List.length_nil,Nat.zero_add]; omega) (by have hreach : reach = 140737488355328:=rfl; have:=hvl.bytes; have:=hvl.bound; simp only [List.length_nil,Nat.zero_add]; omega) rfl rfl rfl (fun v1 o1 w2 hr2 hS2=>?_)
 exact RT hS2 rfl ⟨_,Ye.cast hr2 (by rfl),hS2.freshAt 0 rfl⟩
theorem ZnM {G : GH} {w : World} (hG : G.In w) (v : List Val) (vv : Value) (hvv : Sl ValE 32 G vv v) : CL Tryz.prog (nat_lit 162) #[vv] [] w G fun G' _ r=>∃ r0 r1,r = .tuple #[r0,r1] ∧ Sl ValE 32 G' r0 (Option.getD (none : Option (List Val)) []) ∧ r1 = .bool ((none : Option (List Val)).isSome):=by
 refine Zg ft [] Tryz.func162 rfl rfl ?_
 have hS:=St.start (X:=[]) hG
 exact RT hS rfl ⟨_,_,rfl,(Sl.cast (Sl.nil ValE 32 G) (by rfl)),(congrArg Value.bool (by rfl))⟩
theorem ZnN {G : GH} {w : World} (hG : G.In w) (v set : List Val) (mask : List Bool) (vv : Value) (hvv : Sl ValE 32 G vv v) (vm : Value) (hvm : Sl Enc.bool 1 G vm mask) (pm : Addr) (hpm : Xw G pm [vm]) (vs : Value) (hvs : Sl ValE 32 G vs set) (ps : Addr) (hps : Xw G ps [vs]) (hm : mask.length ≤ v.length) (hs : mask.length ≤ set.length) : CL Tryz.prog (nat_lit 161) #[vv, .pointer (some pm), .pointer (some ps)] [] w G fun G' _ r=>∃ r0 r1,r = .tuple #[r0,r1] ∧ Sl ValE 32 G' r0 (Option.getD (some (Yc v set mask)) []) ∧ r1 = .bool ((some (Yc v set mask)).isSome):=by
 refine Zg ft [] Tryz.func161 rfl rfl ?_
 have hS:=St.start (X:=[]) hG
 refine Qf Ze5 rfl rfl rfl (ZrB hS.imm v _ hvv) (fun w1 G1 r1 hres1 hpost1=>?_)
 have hS1:=hS.call hres1
 have hle1:=hres1.le
 obtain ⟨o1,hr1,hf1⟩:=hpost1
 have hS2:=hS.adoptO hres1 hf1
 refine Za hS2 (hpm.mono hle1) ZmR rfl rfl rfl ?_
 have bd1:=hvm.bound
 refine Zj (hvm.mono hle1) Zic rfl rfl ?_
 refine LP.go ft [] (fun m ρ1 w1=>∃ (k1 : Nat),∃ (o2 : OB),∃ (G2 : GH),m = mask.length - k1 ∧ G1.le G2 ∧ St w [] G G2 [o2] w1 ∧ Ye ValE 32 58 G2 r1 (Yc v set (mask.take k1)) o2 ∧ FR ρ1 [(2, .pointer (some ps)),(6,r1),(11,vm),(12, .int .i64 (mask.length : Int)),(13, .int .i64 (k1 : Int))] ∧ k1 ≤ mask.length) _ ⟨0,o1,G1,rfl,(G1.le_refl),hS2,(Ye.cast hr1 (by exact (Zf8 _ _).symm)),⟨rfl,rfl,rfl,rfl,rfl,trivial⟩,(by omega)⟩ ?_
 rintro m ρ1 w2 ⟨k1,o2,G2,rfl,hle2,hS3,hr2,hF9,f1⟩
 refine hF9.set ?_
 clear hF9
 have hml:=ZdC v set (mask.take k1)
 refine Zq (k1 : Int) (mask.length : Int) rfl rfl rfl (fun h1=>?_) (fun h1=>?_)
 ·refine WL.indexAddr (hvm.mono (hle1.trans hle2)) k1 (by omega) Zic ti4 rfl rfl rfl rfl (fun p1 x1 hx1 he1=>?_)
  obtain ⟨cs1,hc1,hr3⟩:=he1
  obtain rfl:=hr3
  refine Za hS3 hc1 ti4 rfl rfl rfl ?_
  refine XT (d:=17) rfl (fun (h2 : x1 = true)=>?_) (fun (h2 : x1 = false)=>?_)
  ·refine Za hS3 (hps.mono (hle1.trans hle2)) ZH rfl rfl rfl ?_
   refine WL.indexAddr (hvs.mono (hle1.trans hle2)) k1 (by omega) Yd Z3 rfl rfl rfl rfl (fun p2 x2 hx2 he2=>?_)
   obtain ⟨cs2,hc2,hr4⟩:=he2
   obtain ⟨rfl,hb1,hb2,hb3⟩:=ZV hr4
   refine Zc hS3 hc2 [.int .i64 x2.k, .int .i64 x2.n,Zb x2.s] Z3 rfl rfl rfl rfl rfl ?_
   refine QB hr2 k1 (by omega) Yd Z3 rfl rfl rfl rfl (fun p3 x3 ec1 hx3 hr5 ra1=>?_)
   obtain ⟨rfl,hb4,hb5,hb6⟩:=ZV hr5
   refine Zm9 hr2 ra1 hS3 0 rfl (by omega) rfl 0 _ [.int .i64 x2.k, .int .i64 x2.n,Zb x2.s] x2 [.int .i64 x2.k, .int .i64 x2.n,Zb x2.s] rfl Z3 rfl (Nat.le_of_ble_eq_true rfl) rfl rfl (Y3 x2 hb1 hb2 hb3) rfl rfl rfl rfl (fun o3 w3 hr6 hS4=>?_)
   refine Zl k1 (by have hreach : reach = 140737488355328:=rfl; omega) rfl rfl rfl ?_
   exact BK.mk' _ ⟨k1 + 1,o3,G2,rfl,hle2,hS4,(Ye.cast hr6 (by (exact (Zrk ‹_› ‹_› ‹_› (by omega)).symm))),⟨rfl,rfl,rfl,rfl,rfl,trivial⟩,(by omega)⟩ (show mask.length - (k1 + 1) < mask.length - k1 by omega)
  refine Zl k1 (by have hreach : reach = 140737488355328:=rfl; omega) rfl rfl rfl ?_
  exact BK.mk' _ ⟨k1 + 1,o2,G2,rfl,hle2,hS3,(Ye.cast hr2 (by (exact (Ztv ‹_› ‹_›).symm))),⟨rfl,rfl,rfl,rfl,rfl,trivial⟩,(by omega)⟩ (show mask.length - (k1 + 1) < mask.length - k1 by omega)
 obtain ⟨G3,hle3,hs1,hS5⟩:=Ye.freeze hr2 hS3 0 rfl
 exact RT hS5 rfl ⟨_,_,rfl,(Sl.cast hs1 (by exact Zrj (by omega) _ _)),(congrArg Value.bool (by rfl))⟩
theorem Zlw {G : GH} {w : World} (hG : G.In w) (d : Nat) (t : Table) (tx : Int) (c : Cond) (p : Span) (nx : List Val → Option (List Val)) (ct : List Value) (hct : TableE.rep G t ct) (cc : List Value) (hcc : (Y1 d).rep G c cc) (cp : List Value) (hcp : SpanE.rep G p cp) (fid : Nat) (fcap : Array Value) (hf : FnO Tryz.prog (Sl ValE 32) fid fcap G (fun x=>x.length = t.s.cols.length) nx) (htx64 : Zw tx) (hc : ChgOk t tx p nx) : CL Tryz.prog (nat_lit 160) #[.agg ct.toArray, .int .i64 tx, .agg cc.toArray, .agg cp.toArray, .func (.func fid) #[] fcap] [] w G fun G' _ r=>∃ r0 r1,r = .tuple #[r0,r1] ∧ Is TableE G' r0 (Z1 t tx (Z9 (Yt d c (X1 t)) nx tx p t.rows)) ∧ r1 = .int .i64 (X0 (Z9 (Yt d c (X1 t)) nx tx p t.rows)):=by
 refine YB ft [] Tryz.func160 rfl rfl ?_
 have hS:=St.start (X:=[]) hG
 obtain ⟨v1,v2,v3,rfl,hb1,hs1,hb2,hs2,hs3,hb3⟩:=Zy hct
 obtain ⟨lv1,rfl,hb4,hb5,hb6,hb7,hb8,hb9,ho1⟩:=YS hcc
 obtain ⟨rfl,hb10,YD⟩:=ZE hcp
 refine Zv [Zb t.s.name,v1, .int .i64 t.s.key,v2,v3, .int .i64 t.last] _ hS rfl rfl rfl (fun p1 w1 G1 hle1 hsp1 hc1 hS1=>?_)
 refine Zv [.int .i64 c.kind,Zb c.col,Zb c.oth, .int .i64 c.v.k, .int .i64 c.v.n,Zb c.v.s,lv1] _ hS1 rfl rfl rfl (fun p2 w2 G2 hle2 hsp2 hc2 hS2=>?_)
 refine Zv [.int .i64 p.a, .int .i64 p.b] _ hS2 rfl rfl rfl (fun p3 w3 G3 hle3 hsp3 hc3 hS3=>?_)
 refine WL.alloc hS3 Zm rfl rfl (fun b1 w4 hn1 hS4=>?_)
 refine Zc hS4 (Xw.drop 0 (hc1.mono (hle2.trans hle3))) [Zb t.s.name,v1, .int .i64 t.s.key,v2] ZbX rfl rfl rfl rfl rfl ?_
 refine Z6 hS4 Zwc rfl rfl rfl (Zr1 hS4.imm t.s _ (XB t.s hb1 (hs1.mono ((hle1.trans hle2).trans hle3)) hb2 (hs2.mono ((hle1.trans hle2).trans hle3)))) (fun w5 G4 r1 hpost1 hS5 hle4=>?_)
 have hlen9:=(Y5 hc.valid).2.1
 refine Za hS5 (Xw.drop 4 (hc1.mono ((hle2.trans hle3).trans hle4))) Xg rfl rfl rfl ?_
 have bd1:=hs3.bound
 refine Zj (hs3.mono (((hle1.trans hle2).trans hle3).trans hle4)) Yq rfl rfl ?_
 have hS7:=hS5.pad
 refine LP.go ft [] (fun m ρ1 w1=>∃ (k1 : Nat),∃ (v4 : Value) (o1 : OB),∃ (G5 : GH),m = t.rows.length - k1 ∧ G4.le G5 ∧ St w [] G G5 [o1,some (b1,28,[Zb [], .slice none 0 0, .int .i64 0, .slice none 0 0, .slice none 0 0, .int .i64 0])] w1 ∧ Ye HRowE 56 37 G5 v4 (Z9 (Yt d c (X1 t)) nx tx p (t.rows.take k1)) o1 ∧ FR ρ1 [(1, .int .i64 tx),(4, .func (.func fid) #[] fcap),(5, .pointer (some p1)),(7, .pointer (some p2)),(8, .pointer (some p3)),(10, .pointer (some ⟨b1,0,none⟩)),(12,r1),(13,v4),(30,v3),(31, .int .i64 (t.rows.length : Int)),(32, .int .i64 (k1 : Int))] ∧ k1 ≤ t.rows.length) _ ⟨0,(.slice none 0 0),none,G4,rfl,(G4.le_refl),hS7,(Ye.nil HRowE 56 37 G4),⟨rfl,rfl,rfl,rfl,rfl,rfl,rfl,rfl,rfl,rfl,rfl,trivial⟩,(by omega)⟩ ?_
 rintro m ρ1 w6 ⟨k1,v4,o1,G5,rfl,hle5,hS6,hr1,hF9,f1⟩
 refine hF9.set ?_
 clear hF9
 refine Zq (k1 : Int) (t.rows.length : Int) rfl rfl rfl (fun h1=>?_) (fun h1=>?_)
 ·refine WL.indexAddr (hs3.mono ((((hle1.trans hle2).trans hle3).trans hle4).trans hle5)) k1 (by omega) Yq Zt rfl rfl rfl rfl (fun p4 x1 hx1 he1=>?_)
  obtain ⟨cs1,hc4,hr2⟩:=he1
  obtain ⟨v5,rfl,hs4,YW,Xj,XD,X7⟩:=ZA hr2
  refine Zc hS6 hc4 [v5, .int .i64 x1.r.d.a, .int .i64 x1.r.d.b, .int .i64 x1.r.x.a, .int .i64 x1.r.x.b] Zt rfl rfl rfl rfl rfl ?_
  refine WL.alloc hS6 Zt rfl rfl (fun b2 w7 hn2 hS8=>?_)
  refine WL.store hS8 0 _ _ _ 0 _ [v5, .int .i64 x1.r.d.a, .int .i64 x1.r.d.b, .int .i64 x1.r.x.a, .int .i64 x1.r.x.b] [v5, .int .i64 x1.r.d.a, .int .i64 x1.r.d.b, .int .i64 x1.r.x.a, .int .i64 x1.r.x.b] _ rfl rfl Zt rfl (Nat.le_of_ble_eq_true rfl) (by simp only [List.all_cons,List.all_nil,hs4.oneC,Bool.true_and] <;> rfl) rfl rfl rfl rfl rfl (fun w9 hS9=>?_)
  obtain ⟨G6,hle6,hc5,hS10⟩:=hS9.shutB hn2
  obtain ⟨hr1g,hr8,hra,hrl,hrv,hcl⟩:=QL hc.valid (List.mem_of_getElem? (by assumption : t.rows[k1]? = some x1))
  have hrd:=(Yx hr1g).2.1
  have hsp:=hc.span
  have htx:=Qa hc.inst
  have hcr:=ZdU (hl:=Yt d c (X1 t)) hc k1
  refine Zc hS10 (hc2.mono (((hle3.trans hle4).trans hle5).trans hle6)) [.int .i64 c.kind,Zb c.col,Zb c.oth, .int .i64 c.v.k, .int .i64 c.v.n,Zb c.v.s,lv1] Xp rfl rfl rfl rfl rfl <| Za hS10 (Xw.drop 0 hc5) ZH rfl rfl rfl <| Z6 hS10 Zwd rfl rfl rfl (ZrA hS10.imm _ c (t.s.cols.map Col.name) x1.v _ ((Y1 _).mono (((((hle1.trans hle2).trans hle3).trans hle4).trans hle5).trans hle6) hcc) _ (hpost1.mono (hle5.trans hle6)) _ (hs4.mono hle6)) ?_
  rintro w10 G7 _ ⟨_,_,rfl,rfl,rfl⟩ hS11 hle7
  refine Za hS11 (Xw.drop 1 (Xw.drop 2 (Xw.drop 1 (hc5.mono hle7)))) Zp rfl rfl rfl ?_
  refine Yf x1.r.x.b 253402300800 rfl rfl rfl (fun h2=>?_) (fun h2=>?_)
  ·refine Zc hS11 (hc5.mono hle7) [v5, .int .i64 x1.r.d.a, .int .i64 x1.r.d.b, .int .i64 x1.r.x.a, .int .i64 x1.r.x.b] Zt rfl rfl rfl rfl rfl ?_
   refine WL.buildSlice _ [(0,[v5, .int .i64 x1.r.d.a, .int .i64 x1.r.d.b, .int .i64 x1.r.x.a, .int .i64 x1.r.x.b])] [v5, .int .i64 x1.r.d.a, .int .i64 x1.r.d.b, .int .i64 x1.r.x.a, .int .i64 x1.r.x.b] hS11 Y4 rfl rfl rfl rfl (fun z hz=>by match z,hz with | [z0,z1,z2,z3,z4],_=>rfl) (fun b3 w11 hn3 hS12=>?_)
   refine WL.push (m:=([x1] : List HRow)) Y4 rfl rfl rfl (hr1.mono (hle6.trans hle7)) hS12 1 rfl 0 _ _ _ _ _ rfl ⟨[v5, .int .i64 x1.r.d.a, .int .i64 x1.r.d.b, .int .i64 x1.r.x.a, .int .i64 x1.r.x.b],_,rfl,(ZQ x1 (hs4.mono (hle6.trans hle7)) YW Xj XD X7),rfl⟩ rfl (by have hreach : reach = 140737488355328:=rfl; simp only [List.length_append,List.length_cons,List.length_nil]; omega) (by have hreach : reach = 140737488355328:=rfl; simp only [List.length_append,List.length_cons,List.length_nil]; omega) rfl rfl rfl (fun v6 o2 w12 hr3 hS13=>?_)
   have hS14:=hS13.tail
   refine Zl k1 (by have hreach : reach = 140737488355328:=rfl; omega) rfl rfl rfl ?_
   exact BK.mk' _ ⟨k1 + 1,v6,o2,G7,rfl,(hle5.trans (hle6.trans hle7)),hS14,(Ye.cast hr3 (by (rw [Qz ‹_›]; (rw [ZeH (by first | exact .inl (by omega) | exact .inr (.inl ‹_›) | exact .inr (.inr (.inl (by omega))) | exact .inr (.inr (.inr (by omega))))])))),⟨rfl,rfl,rfl,rfl,rfl,rfl,rfl,rfl,rfl,rfl,rfl,trivial⟩,(by omega)⟩ (show t.rows.length - (k1 + 1) < t.rows.length - k1 by omega)
  refine XT (d:=16) rfl (fun (h3 : (Yt d c (t.s.cols.map Col.name) x1.v) = true)=>?_) (fun (h3 : (Yt d c (t.s.cols.map Col.name) x1.v) = false)=>?_)
  ·refine Za hS11 (Xw.drop 0 (Xw.drop 0 (Xw.drop 1 (hc5.mono hle7)))) Zp rfl rfl rfl <| Za hS11 (Xw.drop 1 (hc3.mono (((hle4.trans hle5).trans hle6).trans hle7))) Zp rfl rfl rfl ?_
   refine Qv x1.r.d.a p.b rfl rfl rfl (fun h4=>?_) (fun h4=>?_)
   ·refine Zc hS11 (hc5.mono hle7) [v5, .int .i64 x1.r.d.a, .int .i64 x1.r.d.b, .int .i64 x1.r.x.a, .int .i64 x1.r.x.b] Zt rfl rfl rfl rfl rfl ?_
    refine WL.buildSlice _ [(0,[v5, .int .i64 x1.r.d.a, .int .i64 x1.r.d.b, .int .i64 x1.r.x.a, .int .i64 x1.r.x.b])] [v5, .int .i64 x1.r.d.a, .int .i64 x1.r.d.b, .int .i64 x1.r.x.a, .int .i64 x1.r.x.b] hS11 Y4 rfl rfl rfl rfl (fun z hz=>by match z,hz with | [z0,z1,z2,z3,z4],_=>rfl) (fun b4 w13 hn4 hS15=>?_)
    refine WL.push (m:=([x1] : List HRow)) Y4 rfl rfl rfl (hr1.mono (hle6.trans hle7)) hS15 1 rfl 0 _ _ _ _ _ rfl ⟨[v5, .int .i64 x1.r.d.a, .int .i64 x1.r.d.b, .int .i64 x1.r.x.a, .int .i64 x1.r.x.b],_,rfl,(ZQ x1 (hs4.mono (hle6.trans hle7)) YW Xj XD X7),rfl⟩ rfl (by have hreach : reach = 140737488355328:=rfl; simp only [List.length_append,List.length_cons,List.length_nil]; omega) (by have hreach : reach = 140737488355328:=rfl; simp only [List.length_append,List.length_cons,List.length_nil]; omega) rfl rfl rfl (fun v7 o3 w14 hr4 hS16=>?_)
    have hS17:=hS16.tail
    refine Zl k1 (by have hreach : reach = 140737488355328:=rfl; omega) rfl rfl rfl ?_
    exact BK.mk' _ ⟨k1 + 1,v7,o3,G7,rfl,(hle5.trans (hle6.trans hle7)),hS17,(Ye.cast hr4 (by (rw [Qz ‹_›]; (rw [ZeH (by first | exact .inl (by omega) | exact .inr (.inl ‹_›) | exact .inr (.inr (.inl (by omega))) | exact .inr (.inr (.inr (by omega))))])))),⟨rfl,rfl,rfl,rfl,rfl,rfl,rfl,rfl,rfl,rfl,rfl,trivial⟩,(by omega)⟩ (show t.rows.length - (k1 + 1) < t.rows.length - k1 by omega)
   refine Za hS11 (Xw.drop 0 (hc3.mono (((hle4.trans hle5).trans hle6).trans hle7))) Zp rfl rfl rfl <| Za hS11 (Xw.drop 1 (Xw.drop 0 (Xw.drop 1 (hc5.mono hle7)))) Zp rfl rfl rfl ?_
   refine Qv p.a x1.r.d.b rfl rfl rfl (fun h5=>?_) (fun h5=>?_)
   ·refine Zc hS11 (hc5.mono hle7) [v5, .int .i64 x1.r.d.a, .int .i64 x1.r.d.b, .int .i64 x1.r.x.a, .int .i64 x1.r.x.b] Zt rfl rfl rfl rfl rfl ?_
    refine WL.buildSlice _ [(0,[v5, .int .i64 x1.r.d.a, .int .i64 x1.r.d.b, .int .i64 x1.r.x.a, .int .i64 x1.r.x.b])] [v5, .int .i64 x1.r.d.a, .int .i64 x1.r.d.b, .int .i64 x1.r.x.a, .int .i64 x1.r.x.b] hS11 Y4 rfl rfl rfl rfl (fun z hz=>by match z,hz with | [z0,z1,z2,z3,z4],_=>rfl) (fun b5 w15 hn5 hS18=>?_)
    refine WL.push (m:=([x1] : List HRow)) Y4 rfl rfl rfl (hr1.mono (hle6.trans hle7)) hS18 1 rfl 0 _ _ _ _ _ rfl ⟨[v5, .int .i64 x1.r.d.a, .int .i64 x1.r.d.b, .int .i64 x1.r.x.a, .int .i64 x1.r.x.b],_,rfl,(ZQ x1 (hs4.mono (hle6.trans hle7)) YW Xj XD X7),rfl⟩ rfl (by have hreach : reach = 140737488355328:=rfl; simp only [List.length_append,List.length_cons,List.length_nil]; omega) (by have hreach : reach = 140737488355328:=rfl; simp only [List.length_append,List.length_cons,List.length_nil]; omega) rfl rfl rfl (fun v9 o4 w16 hr5 hS19=>?_)
    have hS20:=hS19.tail
    refine Zl k1 (by have hreach : reach = 140737488355328:=rfl; omega) rfl rfl rfl ?_
    exact BK.mk' _ ⟨k1 + 1,v9,o4,G7,rfl,(hle5.trans (hle6.trans hle7)),hS20,(Ye.cast hr5 (by (rw [Qz ‹_›]; (rw [ZeH (by first | exact .inl (by omega) | exact .inr (.inl ‹_›) | exact .inr (.inr (.inl (by omega))) | exact .inr (.inr (.inr (by omega))))])))),⟨rfl,rfl,rfl,rfl,rfl,rfl,rfl,rfl,rfl,rfl,rfl,trivial⟩,(by omega)⟩ (show t.rows.length - (k1 + 1) < t.rows.length - k1 by omega)
   refine Zc hS11 (hc5.mono hle7) [v5, .int .i64 x1.r.d.a, .int .i64 x1.r.d.b, .int .i64 x1.r.x.a, .int .i64 x1.r.x.b] Zt rfl rfl rfl rfl rfl ?_
   refine WL.alloc hS11 Zt rfl rfl (fun b6 w17 hn6 hS21=>?_)
   refine WL.store hS21 0 _ _ _ 0 _ [v5, .int .i64 x1.r.d.a, .int .i64 x1.r.d.b, .int .i64 x1.r.x.a, .int .i64 x1.r.x.b] [v5, .int .i64 x1.r.d.a, .int .i64 x1.r.d.b, .int .i64 x1.r.x.a, .int .i64 x1.r.x.b] _ rfl rfl Zt rfl (Nat.le_of_ble_eq_true rfl) (by simp only [List.all_cons,List.all_nil,(hs4.mono (hle6.trans hle7)).oneC,Bool.true_and] <;> rfl) rfl rfl rfl rfl rfl (fun w18 hS22=>?_)
   refine WL.store hS22 0 _ _ _ 4 _ [.int .i64 tx] [v5, .int .i64 x1.r.d.a, .int .i64 x1.r.d.b, .int .i64 x1.r.x.a, .int .i64 tx] _ rfl rfl Zp rfl (Nat.le_of_ble_eq_true rfl) rfl rfl rfl rfl rfl rfl (fun w19 hS23=>?_)
   refine ZD hS23 0 _ _ _ 0 [v5, .int .i64 x1.r.d.a, .int .i64 x1.r.d.b, .int .i64 x1.r.x.a, .int .i64 tx] rfl rfl rfl Zt rfl rfl rfl ?_
   refine WL.buildSlice _ [(0,[v5, .int .i64 x1.r.d.a, .int .i64 x1.r.d.b, .int .i64 x1.r.x.a, .int .i64 tx])] [v5, .int .i64 x1.r.d.a, .int .i64 x1.r.d.b, .int .i64 x1.r.x.a, .int .i64 tx] hS23 Y4 rfl rfl rfl rfl (fun z hz=>by match z,hz with | [z0,z1,z2,z3,z4],_=>rfl) (fun b7 w20 hn7 hS24=>?_)
   refine WL.push (m:=([(HRow.mk x1.v (Rect.mk x1.r.d (Span.mk x1.r.x.a tx)))] : List HRow)) Y4 rfl rfl rfl (hr1.mono (hle6.trans hle7)) hS24 2 rfl 0 _ _ _ _ _ rfl ⟨[v5, .int .i64 x1.r.d.a, .int .i64 x1.r.d.b, .int .i64 x1.r.x.a, .int .i64 tx],_,rfl,(ZQ (HRow.mk x1.v (Rect.mk x1.r.d (Span.mk x1.r.x.a tx))) (hs4.mono (hle6.trans hle7)) YW Xj XD htx64),rfl⟩ rfl (by have hreach : reach = 140737488355328:=rfl; simp only [List.length_append,List.length_cons,List.length_nil]; omega) (by have hreach : reach = 140737488355328:=rfl; simp only [List.length_append,List.length_cons,List.length_nil]; omega) rfl rfl rfl (fun v10 o5 w21 hr6 hS25=>?_)
   have hS26:=hS25.tail
   have htc:=ZcJ hrd hsp (by omega) (by omega)
   have hpl:=ZeO x1.r.d p
   have hpl2 : (ZX 3 [x1.r.d] [p]).length ≤ 2:=by rw [htc]; exact hpl
   refine Zc hS26 (Xw.drop 0 (Xw.drop 1 (hc5.mono hle7))) [.int .i64 x1.r.d.a, .int .i64 x1.r.d.b] Zu rfl rfl rfl rfl rfl ?_
   refine WL.buildSlice _ [(0,[.int .i64 x1.r.d.a, .int .i64 x1.r.d.b])] [.int .i64 x1.r.d.a, .int .i64 x1.r.d.b] hS26 YO rfl rfl rfl rfl (fun z hz=>by match z,hz with | [z0,z1],_=>rfl) (fun b8 w22 hn8 hS27=>?_)
   refine Zc hS27 (hc3.mono (((hle4.trans hle5).trans hle6).trans hle7)) [.int .i64 p.a, .int .i64 p.b] Zu rfl rfl rfl rfl rfl ?_
   refine WL.buildSlice _ [(0,[.int .i64 p.a, .int .i64 p.b])] [.int .i64 p.a, .int .i64 p.b] hS27 YO rfl rfl rfl rfl (fun z hz=>by match z,hz with | [z0,z1],_=>rfl) (fun b9 w23 hn9 hS28=>?_)
   obtain ⟨G9,hle9,hs5,hS29⟩:=St.sealSlAt (E:=SpanE) (by_:=16) (l:=([x1.r.d] : List Span)) hS28 1 rfl hn8 ⟨[.int .i64 x1.r.d.a, .int .i64 x1.r.d.b],_,rfl,(Zs x1.r.d YW Xj),rfl⟩ rfl (by simp [reach]) (by simp [reach])
   obtain ⟨G10,hle10,hs6,hS30⟩:=St.sealSl (E:=SpanE) (by_:=16) (l:=([p] : List Span)) hS29 hn9 ⟨[.int .i64 p.a, .int .i64 p.b],_,rfl,(Zs p hb10 YD),rfl⟩ rfl (by simp [reach]) (by simp [reach])
   refine Z6 hS30 Zuw rfl rfl rfl (Zmh hS30.imm [x1.r.d] [p] _ (hs5.mono hle10) _ hs6 (ZcR (Xb hrd)) (ZcR (Xb hsp)) (by intro s hs; rw [List.mem_singleton.1 hs]; exact ZcN hrd) (by intro s hs; rw [List.mem_singleton.1 hs]; exact ZcN hsp) (by simp) (by simp)) ?_
   rintro w24 G11 _ ⟨r6,_,rfl,hs7,rfl⟩ hS31 hle11
   have bd2:=hs7.bound
   refine Zj hs7 YT rfl rfl ?_
   refine LP.go ft [] (fun m ρ1 w1=>∃ (k2 : Nat),∃ (v11 : Value) (o6 : OB),∃ (G12 : GH),m = (ZX 3 [x1.r.d] [p]).length - k2 ∧ G11.le G12 ∧ St w [] G G12 [none,some (b6,37,[v5, .int .i64 x1.r.d.a, .int .i64 x1.r.d.b, .int .i64 x1.r.x.a, .int .i64 tx]),o6,some (b1,28,[Zb [], .slice none 0 0, .int .i64 0, .slice none 0 0, .slice none 0 0, .int .i64 0])] w1 ∧ Ye HRowE 56 37 G12 v11 ((Z9 (Yt d c (X1 t)) nx tx p (t.rows.take k1) ++ [HRow.mk x1.v (Rect.mk x1.r.d (Span.mk x1.r.x.a tx))]) ++ Xl x1.v ((ZX 3 [x1.r.d] [p]).take k2) tx 253402300800) o6 ∧ FR ρ1 [(1, .int .i64 tx),(4, .func (.func fid) #[] fcap),(5, .pointer (some p1)),(7, .pointer (some p2)),(8, .pointer (some p3)),(10, .pointer (some ⟨b1,0,none⟩)),(12,r1),(13,v11),(15, .pointer (some (⟨b2,0,none⟩ : Addr))),(30,v3),(31, .int .i64 (t.rows.length : Int)),(32, .int .i64 (k1 : Int)),(94,r6),(95, .int .i64 (((ZX 3 [x1.r.d] [p]).length : Nat) : Int)),(96, .int .i64 (k2 : Int))] ∧ k2 ≤ (ZX 3 [x1.r.d] [p]).length) _ ⟨0,v10,o5,G11,rfl,(G11.le_refl),hS31,(Ye.cast (hr6.mono ((hle9.trans hle10).trans hle11)) (by simp [Xl])),⟨rfl,rfl,rfl,rfl,rfl,rfl,rfl,rfl,rfl,rfl,rfl,rfl,rfl,rfl,rfl,trivial⟩,(by omega)⟩ ?_
   rintro m ρ1 w25 ⟨k2,v11,o6,G12,rfl,hle12,hS32,hr7,hF9,f2⟩
   refine hF9.set ?_
   clear hF9
   have hol:=Zcc x1.v ((ZX 3 [x1.r.d] [p]).take k2) tx 253402300800
   have hot:=List.length_take_le' k2 (ZX 3 [x1.r.d] [p])
   refine Zq (k2 : Int) (((ZX 3 [x1.r.d] [p]).length : Nat) : Int) rfl rfl rfl (fun h6=>?_) (fun h6=>?_)
   ·refine WL.indexAddr (hs7.mono hle12) k2 (by omega) YT Zu rfl rfl rfl rfl (fun p5 x2 hx2 he2=>?_)
    obtain ⟨cs2,hc6,hr8⟩:=he2
    obtain ⟨rfl,Qi,Qd⟩:=ZE hr8
    refine Zc hS32 hc6 [.int .i64 x2.a, .int .i64 x2.b] Zu rfl rfl rfl rfl rfl ?_
    refine WL.alloc hS32 Zu rfl rfl (fun b10 w26 hn10 hS33=>?_)
    refine WL.store hS33 0 _ _ _ 0 _ [.int .i64 x2.a, .int .i64 x2.b] [.int .i64 x2.a, .int .i64 x2.b] _ rfl rfl Zu rfl (Nat.le_of_ble_eq_true rfl) rfl rfl rfl rfl rfl rfl (fun w27 hS34=>?_)
    obtain ⟨G13,hle13,hc7,hS35⟩:=hS34.shutB hn10
    refine Za hS35 (Xw.drop 0 (hc5.mono (((((hle7.trans hle9).trans hle10).trans hle11).trans hle12).trans hle13))) ZH rfl rfl rfl <| Zc hS35 hc7 [.int .i64 x2.a, .int .i64 x2.b] Zu rfl rfl rfl rfl rfl <| WL.build _ [(0,[.int .i64 tx]),(1,[.int .i64 253402300800])] [.int .i64 tx, .int .i64 253402300800] Zu rfl X6 rfl rfl rfl rfl <| WL.build _ [(0,[.int .i64 x2.a, .int .i64 x2.b]),(1,[.int .i64 tx, .int .i64 253402300800])] [.int .i64 x2.a, .int .i64 x2.b, .int .i64 tx, .int .i64 253402300800] Zb8 rfl Zdc rfl rfl rfl rfl ?_
    refine WL.build _ [(0,[v5]),(1,[.int .i64 x2.a, .int .i64 x2.b, .int .i64 tx, .int .i64 253402300800])] [v5, .int .i64 x2.a, .int .i64 x2.b, .int .i64 tx, .int .i64 253402300800] Zt rfl Zbr rfl rfl (by show [(0,(v5 : Value).cells.toList),(1,(.agg #[.int .i64 x2.a, .int .i64 x2.b, .int .i64 tx, .int .i64 253402300800] : Value).cells.toList)] = _; simp only [(hs4.mono ((((((hle6.trans hle7).trans hle9).trans hle10).trans hle11).trans hle12).trans hle13)).cells1] <;> rfl) rfl ?_
    refine WL.buildSlice _ [(0,[v5, .int .i64 x2.a, .int .i64 x2.b, .int .i64 tx, .int .i64 253402300800])] [v5, .int .i64 x2.a, .int .i64 x2.b, .int .i64 tx, .int .i64 253402300800] hS35 Y4 rfl rfl rfl rfl (fun z hz=>by match z,hz with | [z0,z1,z2,z3,z4],_=>rfl) (fun b11 w28 hn11 hS36=>?_)
    refine WL.push (m:=([(HRow.mk x1.v (Rect.mk x2 (Span.mk tx 253402300800)))] : List HRow)) Y4 rfl rfl rfl (hr7.mono hle13) hS36 3 rfl 0 _ _ _ _ _ rfl ⟨[v5, .int .i64 x2.a, .int .i64 x2.b, .int .i64 tx, .int .i64 253402300800],_,rfl,(ZQ (HRow.mk x1.v (Rect.mk x2 (Span.mk tx 253402300800))) (hs4.mono ((((((hle6.trans hle7).trans hle9).trans hle10).trans hle11).trans hle12).trans hle13)) Qi Qd htx64 (show Zw 253402300800 from by constructor <;> decide)),rfl⟩ rfl (by have hreach : reach = 140737488355328:=rfl; simp only [List.length_append,List.length_cons,List.length_nil]; omega) (by have hreach : reach = 140737488355328:=rfl; simp only [List.length_append,List.length_cons,List.length_nil]; omega) rfl rfl rfl (fun v12 o7 w29 hr9 hS37=>?_)
    have hS38:=hS37.tail
    refine Zl k2 (by have hreach : reach = 140737488355328:=rfl; omega) rfl rfl rfl ?_
    exact BK.mk' _ ⟨k2 + 1,v12,o7,G13,rfl,(hle12.trans hle13),hS38,(Ye.cast hr9 (by (rw [ZdB ‹_›,List.append_assoc]))),⟨rfl,rfl,rfl,rfl,rfl,rfl,rfl,rfl,rfl,rfl,rfl,rfl,rfl,rfl,rfl,trivial⟩,(by omega)⟩ (show (ZX 3 [x1.r.d] [p]).length - (k2 + 1) < (ZX 3 [x1.r.d] [p]).length - k2 by omega)
   refine Za hS32 (Xw.drop 0 (hc5.mono ((((hle7.trans hle9).trans hle10).trans hle11).trans hle12))) ZH rfl rfl rfl <| Z6 hS32 hf.body rfl rfl rfl (hf.call _ _ v5 x1.v ((((((((((hle1.trans hle2).trans hle3).trans hle4).trans hle5).trans hle6).trans hle7).trans hle9).trans hle10).trans hle11).trans hle12) hS32.imm hrl (hs4.mono (((((hle6.trans hle7).trans hle9).trans hle10).trans hle11).trans hle12))) ?_
   rintro w30 G14 _ ⟨r8,_,rfl,hs8,rfl⟩ hS39 hle14
   refine ZtO (fun (h7 : (nx x1.v).isSome = true)=>?_) (fun (h7 : (nx x1.v).isSome = false)=>?_)
   ·refine ZtL (d:=115) (congrArg (fun b9=>Value.tuple #[r8, .bool b9]) h7) ?_
    refine Za hS39 (Xw.drop 0 (Xw.drop 0 (Xw.drop 1 (hc5.mono (((((hle7.trans hle9).trans hle10).trans hle11).trans hle12).trans hle14))))) Zp rfl rfl rfl <| Za hS39 (Xw.drop 0 (hc3.mono ((((((((hle4.trans hle5).trans hle6).trans hle7).trans hle9).trans hle10).trans hle11).trans hle12).trans hle14))) Zp rfl rfl rfl <| ZfT x1.r.d.a p.a rfl rfl rfl <| Za hS39 (Xw.drop 1 (Xw.drop 0 (Xw.drop 1 (hc5.mono (((((hle7.trans hle9).trans hle10).trans hle11).trans hle12).trans hle14))))) Zp rfl rfl rfl <| Za hS39 (Xw.drop 1 (hc3.mono ((((((((hle4.trans hle5).trans hle6).trans hle7).trans hle9).trans hle10).trans hle11).trans hle12).trans hle14))) Zp rfl rfl rfl <| ZhY x1.r.d.b p.b rfl rfl rfl <| WL.build _ [(0,[.int .i64 (max x1.r.d.a p.a)]),(1,[.int .i64 (min x1.r.d.b p.b)])] [.int .i64 (max x1.r.d.a p.a), .int .i64 (min x1.r.d.b p.b)] Zu rfl X6 rfl rfl rfl rfl ?_
    refine WL.alloc hS39 Zu rfl rfl (fun b12 w31 hn12 hS40=>?_)
    refine WL.store hS40 0 _ _ _ 0 _ [.int .i64 (max x1.r.d.a p.a), .int .i64 (min x1.r.d.b p.b)] [.int .i64 (max x1.r.d.a p.a), .int .i64 (min x1.r.d.b p.b)] _ rfl rfl Zu rfl (Nat.le_of_ble_eq_true rfl) rfl rfl rfl rfl rfl rfl (fun w32 hS41=>?_)
    obtain ⟨G15,hle15,hc8,hS42⟩:=hS41.shutB hn12
    refine Zc hS42 hc8 [.int .i64 (max x1.r.d.a p.a), .int .i64 (min x1.r.d.b p.b)] Zu rfl rfl rfl rfl rfl <| WL.build _ [(0,[.int .i64 tx]),(1,[.int .i64 253402300800])] [.int .i64 tx, .int .i64 253402300800] Zu rfl X6 rfl rfl rfl rfl <| WL.build _ [(0,[.int .i64 (max x1.r.d.a p.a), .int .i64 (min x1.r.d.b p.b)]),(1,[.int .i64 tx, .int .i64 253402300800])] [.int .i64 (max x1.r.d.a p.a), .int .i64 (min x1.r.d.b p.b), .int .i64 tx, .int .i64 253402300800] Zb8 rfl Zdc rfl rfl rfl rfl ?_
    refine WL.build _ [(0,[r8]),(1,[.int .i64 (max x1.r.d.a p.a), .int .i64 (min x1.r.d.b p.b), .int .i64 tx, .int .i64 253402300800])] [r8, .int .i64 (max x1.r.d.a p.a), .int .i64 (min x1.r.d.b p.b), .int .i64 tx, .int .i64 253402300800] Zt rfl Zbr rfl rfl (by show [(0,(r8 : Value).cells.toList),(1,(.agg #[.int .i64 (max x1.r.d.a p.a), .int .i64 (min x1.r.d.b p.b), .int .i64 tx, .int .i64 253402300800] : Value).cells.toList)] = _; simp only [(hs8.mono hle15).cells1] <;> rfl) rfl ?_
    refine WL.buildSlice _ [(0,[r8, .int .i64 (max x1.r.d.a p.a), .int .i64 (min x1.r.d.b p.b), .int .i64 tx, .int .i64 253402300800])] [r8, .int .i64 (max x1.r.d.a p.a), .int .i64 (min x1.r.d.b p.b), .int .i64 tx, .int .i64 253402300800] hS42 Y4 rfl rfl rfl rfl (fun z hz=>by match z,hz with | [z0,z1,z2,z3,z4],_=>rfl) (fun b13 w33 hn13 hS43=>?_)
    refine WL.push (m:=([(HRow.mk ((nx x1.v).getD []) (Rect.mk (Span.mk (max x1.r.d.a p.a) (min x1.r.d.b p.b)) (Span.mk tx 253402300800)))] : List HRow)) Y4 rfl rfl rfl (hr7.mono (hle14.trans hle15)) hS43 3 rfl 0 _ _ _ _ _ rfl ⟨[r8, .int .i64 (max x1.r.d.a p.a), .int .i64 (min x1.r.d.b p.b), .int .i64 tx, .int .i64 253402300800],_,rfl,(ZQ (HRow.mk ((nx x1.v).getD []) (Rect.mk (Span.mk (max x1.r.d.a p.a) (min x1.r.d.b p.b)) (Span.mk tx 253402300800))) (hs8.mono hle15) (Zam YW hb10) (Zs9 Xj YD) htx64 (show Zw 253402300800 from by constructor <;> decide)),rfl⟩ rfl (by have hreach : reach = 140737488355328:=rfl; simp only [List.length_append,List.length_cons,List.length_nil]; omega) (by have hreach : reach = 140737488355328:=rfl; simp only [List.length_append,List.length_cons,List.length_nil]; omega) rfl rfl rfl (fun v13 o8 w34 hr10 hS44=>?_)
    have hS45:=hS44.tail
    refine Zl k1 (by have hreach : reach = 140737488355328:=rfl; omega) rfl rfl rfl ?_
    have hS46:=hS45.tail
    have hS47:=hS46.tail
    exact BK.mk' _ ⟨k1 + 1,v13,o8,G15,rfl,(hle5.trans (((((((hle6.trans hle7).trans hle9).trans hle10).trans hle11).trans hle12).trans hle14).trans hle15)),hS47,(Ye.cast hr10 (by (rw [Qz ‹_›]; (rw [ZiR (by omega) ‹_› (by omega) (by omega)]; first | exact Zmi (by omega) ‹_› | exact Zpc (by omega) ‹_›)))),⟨rfl,rfl,rfl,rfl,rfl,rfl,rfl,rfl,rfl,rfl,rfl,trivial⟩,(by omega)⟩ (show t.rows.length - (k1 + 1) < t.rows.length - k1 by omega)
   refine ZtL (d:=115) (congrArg (fun b9=>Value.tuple #[r8, .bool b9]) h7) ?_
   refine Zl k1 (by have hreach : reach = 140737488355328:=rfl; omega) rfl rfl rfl ?_
   have hS48:=hS39.tail
   have hS49:=hS48.tail
   exact BK.mk' _ ⟨k1 + 1,v11,o6,G14,rfl,(hle5.trans ((((((hle6.trans hle7).trans hle9).trans hle10).trans hle11).trans hle12).trans hle14)),hS49,(Ye.cast (hr7.mono hle14) (by (rw [Qz ‹_›]; (rw [ZiR (by omega) ‹_› (by omega) (by omega)]; first | exact Zmi (by omega) ‹_› | exact Zpc (by omega) ‹_›)))),⟨rfl,rfl,rfl,rfl,rfl,rfl,rfl,rfl,rfl,rfl,rfl,trivial⟩,(by omega)⟩ (show t.rows.length - (k1 + 1) < t.rows.length - k1 by omega)
  refine Zc hS11 (hc5.mono hle7) [v5, .int .i64 x1.r.d.a, .int .i64 x1.r.d.b, .int .i64 x1.r.x.a, .int .i64 x1.r.x.b] Zt rfl rfl rfl rfl rfl ?_
  refine WL.buildSlice _ [(0,[v5, .int .i64 x1.r.d.a, .int .i64 x1.r.d.b, .int .i64 x1.r.x.a, .int .i64 x1.r.x.b])] [v5, .int .i64 x1.r.d.a, .int .i64 x1.r.d.b, .int .i64 x1.r.x.a, .int .i64 x1.r.x.b] hS11 Y4 rfl rfl rfl rfl (fun z hz=>by match z,hz with | [z0,z1,z2,z3,z4],_=>rfl) (fun b14 w35 hn14 hS50=>?_)
  refine WL.push (m:=([x1] : List HRow)) Y4 rfl rfl rfl (hr1.mono (hle6.trans hle7)) hS50 1 rfl 0 _ _ _ _ _ rfl ⟨[v5, .int .i64 x1.r.d.a, .int .i64 x1.r.d.b, .int .i64 x1.r.x.a, .int .i64 x1.r.x.b],_,rfl,(ZQ x1 (hs4.mono (hle6.trans hle7)) YW Xj XD X7),rfl⟩ rfl (by have hreach : reach = 140737488355328:=rfl; simp only [List.length_append,List.length_cons,List.length_nil]; omega) (by have hreach : reach = 140737488355328:=rfl; simp only [List.length_append,List.length_cons,List.length_nil]; omega) rfl rfl rfl (fun v14 o9 w36 hr11 hS51=>?_)
  have hS52:=hS51.tail
  refine Zl k1 (by have hreach : reach = 140737488355328:=rfl; omega) rfl rfl rfl ?_
  exact BK.mk' _ ⟨k1 + 1,v14,o9,G7,rfl,(hle5.trans (hle6.trans hle7)),hS52,(Ye.cast hr11 (by (rw [Qz ‹_›]; (rw [ZeH (by first | exact .inl (by omega) | exact .inr (.inl ‹_›) | exact .inr (.inr (.inl (by omega))) | exact .inr (.inr (.inr (by omega))))])))),⟨rfl,rfl,rfl,rfl,rfl,rfl,rfl,rfl,rfl,rfl,rfl,trivial⟩,(by omega)⟩ (show t.rows.length - (k1 + 1) < t.rows.length - k1 by omega)
 refine Zc hS6 (hc1.mono (((hle2.trans hle3).trans hle4).trans hle5)) [Zb t.s.name,v1, .int .i64 t.s.key,v2,v3, .int .i64 t.last] Zm rfl rfl rfl rfl rfl ?_
 obtain ⟨G16,hle16,hs9,hS53⟩:=Ye.freeze hr1 hS6 0 rfl
 refine Z6 hS53 Zk7 rfl rfl rfl (ZfM hS53.imm t tx (Z9 (Yt d c (X1 t)) nx tx p (t.rows.take k1)) _ (Zi t hb1 (hs1.mono (((((hle1.trans hle2).trans hle3).trans hle4).trans hle5).trans hle16)) hb2 (hs2.mono (((((hle1.trans hle2).trans hle3).trans hle4).trans hle5).trans hle16)) (hs3.mono (((((hle1.trans hle2).trans hle3).trans hle4).trans hle5).trans hle16)) hb3) _ hs9 htx64 (by rw [Zbh (by omega)]; exact (ZaF hc).1) (by rw [Zbh (by omega)]; exact (ZaF hc).2.1) (by rw [Zbh (by omega)]; exact (ZaF hc).2.2)) ?_
 rintro w37 G17 _ ⟨r10,_,rfl,hs10,rfl⟩ hS54 hle17
 obtain ⟨cs3,rfl,hr12⟩:=hs10
 obtain ⟨v15,v16,v17,rfl,Qn,hs11,Q6,hs12,hs13,Zag⟩:=Zy hr12
 refine WL.store hS54 1 _ _ _ 0 _ [Zb ((Z1 t tx (Z9 (Yt d c (X1 t)) nx tx p (t.rows.take k1))).s.name),v15, .int .i64 ((Z1 t tx (Z9 (Yt d c (X1 t)) nx tx p (t.rows.take k1))).s.key),v16,v17, .int .i64 ((Z1 t tx (Z9 (Yt d c (X1 t)) nx tx p (t.rows.take k1))).last)] [Zb ((Z1 t tx (Z9 (Yt d c (X1 t)) nx tx p (t.rows.take k1))).s.name),v15, .int .i64 ((Z1 t tx (Z9 (Yt d c (X1 t)) nx tx p (t.rows.take k1))).s.key),v16,v17, .int .i64 ((Z1 t tx (Z9 (Yt d c (X1 t)) nx tx p (t.rows.take k1))).last)] _ rfl rfl Zm rfl (Nat.le_of_ble_eq_true rfl) (by simp only [List.all_cons,List.all_nil,hs11.oneC,hs12.oneC,hs13.oneC,Bool.true_and] <;> rfl) rfl rfl rfl rfl rfl (fun w38 hS55=>?_)
 obtain ⟨G18,hle18,hc9,hS56⟩:=hS55.sealAt 1 rfl hn1
 exact Xe [.agg #[Zb ((Z1 t tx (Z9 (Yt d c (X1 t)) nx tx p (t.rows.take k1))).s.name),v15, .int .i64 ((Z1 t tx (Z9 (Yt d c (X1 t)) nx tx p (t.rows.take k1))).s.key),v16,v17, .int .i64 ((Z1 t tx (Z9 (Yt d c (X1 t)) nx tx p (t.rows.take k1))).last)], .int .i64 (X0 (Z9 (Yt d c (X1 t)) nx tx p (t.rows.take k1)))] hS56 ⟨_,_,_,rfl,rfl,hS56.loadC hc9 Zm rfl rfl,⟨_,rfl,rfl⟩⟩ ⟨_,_,rfl,(Is.cast ⟨_,rfl,(Zi (Z1 t tx (Z9 (Yt d c (X1 t)) nx tx p (t.rows.take k1))) Qn (hs11.mono hle18) Q6 (hs12.mono hle18) (hs13.mono hle18) Zag)⟩ (by rw [Zbh (by omega)])),(congrArg (Value.int .i64) (by rw [Zbh (by omega)]))⟩
end Go.Civ
