/- Lemmas. -/
import Derived.Test.YthgeclodflmiaaaGreatH32
import Derived.Test.YthgeclodflmiaaaGreatH35
import Derived.Test.YthgeclodflmiaaaGreatH36
import Derived.Test.YthgeclodflmiaaaGreatH37
import Derived.Test.YthgeclodflmiaaaGreatProg
import Derived.KernelRfl
import Derived.WalkKit
set_option linter.unusedVariables false
set_option linter.unusedSimpArgs false
set_option maxRecDepth 100000
set_option maxHeartbeats 4000000
namespace Go.Civ
open Go.Proofs
theorem ZgU {G : GH} {w : World} (hG : G.In w) (t : Table) (ct : List Value) (hct : TableE.rep G t ct) : CL Tryz.prog (nat_lit 13) #[.agg ct.toArray] [] w G fun G' _ r=>∃ r0 r1,r = .tuple #[r0,r1] ∧ Is HRowE G' r0 (YV t) ∧ r1 = .bool (Y6 t):=by
 refine YB ft [] Tryz.func13 rfl rfl ?_
 have hS:=St.start (X:=[]) hG
 obtain ⟨v1,v2,v3,rfl,hb1,hs1,hb2,hs2,hs3,hb3⟩:=Zy hct
 refine Zv [Zb t.s.name,v1, .int .i64 t.s.key,v2,v3, .int .i64 t.last] _ hS rfl rfl rfl (fun p1 w1 G1 hle1 hsp1 hc1 hS1=>?_)
 refine WL.alloc hS1 Zt rfl rfl (fun b1 w2 hn1 hS2=>?_)
 refine Zc hS2 hc1 [Zb t.s.name,v1, .int .i64 t.s.key,v2,v3, .int .i64 t.last] Zm rfl rfl rfl rfl rfl ?_
 refine Zn hS2 XD rfl rfl rfl (ZaH hS2.imm t _ (Zi t hb1 (hs1.mono hle1) hb2 (hs2.mono hle1) (hs3.mono hle1) hb3)) (fun w3 G2 hS3 hle2=>?_)
 refine WL.split (fun (h1 : (Z2 t) = true)=>?_) (fun (h1 : (Z2 t) = false)=>?_)
 ·refine Zc hS3 (hc1.mono hle2) [Zb t.s.name,v1, .int .i64 t.s.key,v2,v3, .int .i64 t.last] Zm rfl rfl rfl rfl rfl ?_
  refine Z6 hS3 Zus rfl rfl rfl (Zg1 hS3.imm t _ (Zi t hb1 (hs1.mono (hle1.trans hle2)) hb2 (hs2.mono (hle1.trans hle2)) (hs3.mono (hle1.trans hle2)) hb3) ‹_›) ?_
  rintro w4 G3 _ ⟨r2,_,rfl,hs4,rfl⟩ hS4 hle3
  obtain ⟨cs1,rfl,hr1⟩:=hs4
  obtain ⟨v4,rfl,hb4,hb5,hs5⟩:=Zcf hr1
  refine WL.alloc hS4 Xr rfl rfl (fun b2 w5 hn2 hS5=>?_)
  refine WL.store hS5 0 _ _ _ 0 _ [.int .i64 ((Yk (Zx t)).tx), .int .i64 ((Yk (Zx t)).vd),v4] [.int .i64 ((Yk (Zx t)).tx), .int .i64 ((Yk (Zx t)).vd),v4] _ rfl rfl Xr rfl (Nat.le_of_ble_eq_true rfl) (by simp only [List.all_cons,List.all_nil,hs5.oneC,Bool.true_and] <;> rfl) rfl rfl rfl rfl rfl (fun w6 hS6=>?_)
  obtain ⟨G4,hle4,hc2,hS7⟩:=hS6.shutB hn2
  refine XT (d:=14) rfl (fun (h2 : ((Zx t).isSome) = true)=>?_) (fun (h2 : ((Zx t).isSome) = false)=>?_)
  ·refine Zc hS7 hc2 [.int .i64 ((Yk (Zx t)).tx), .int .i64 ((Yk (Zx t)).vd),v4] Xr rfl rfl rfl rfl rfl ?_
   refine Z6 hS7 ZwB rfl rfl rfl (Zt3 hS7.imm (Pt.mk ((Yk (Zx t)).tx) ((Yk (Zx t)).vd) ((Yk (Zx t)).v)) _ (Zbk (Pt.mk ((Yk (Zx t)).tx) ((Yk (Zx t)).vd) ((Yk (Zx t)).v)) hb4 hb5 (hs5.mono hle4)) (ZhW ‹_› ‹_›).1 (ZhW ‹_› ‹_›).2) (fun w7 G5 r4 hpost2 hS8 hle5=>?_)
   obtain ⟨cs2,rfl,hr2⟩:=hpost2
   obtain ⟨v5,rfl,hs6,hb6,hb7,hb8,hb9⟩:=ZA hr2
   refine WL.store hS8 0 _ _ _ 0 _ [v5, .int .i64 ((ZN (some (Pt.mk ((Yk (Zx t)).tx) ((Yk (Zx t)).vd) ((Yk (Zx t)).v)))).r.d.a), .int .i64 ((ZN (some (Pt.mk ((Yk (Zx t)).tx) ((Yk (Zx t)).vd) ((Yk (Zx t)).v)))).r.d.b), .int .i64 ((ZN (some (Pt.mk ((Yk (Zx t)).tx) ((Yk (Zx t)).vd) ((Yk (Zx t)).v)))).r.x.a), .int .i64 ((ZN (some (Pt.mk ((Yk (Zx t)).tx) ((Yk (Zx t)).vd) ((Yk (Zx t)).v)))).r.x.b)] [v5, .int .i64 ((ZN (some (Pt.mk ((Yk (Zx t)).tx) ((Yk (Zx t)).vd) ((Yk (Zx t)).v)))).r.d.a), .int .i64 ((ZN (some (Pt.mk ((Yk (Zx t)).tx) ((Yk (Zx t)).vd) ((Yk (Zx t)).v)))).r.d.b), .int .i64 ((ZN (some (Pt.mk ((Yk (Zx t)).tx) ((Yk (Zx t)).vd) ((Yk (Zx t)).v)))).r.x.a), .int .i64 ((ZN (some (Pt.mk ((Yk (Zx t)).tx) ((Yk (Zx t)).vd) ((Yk (Zx t)).v)))).r.x.b)] _ rfl rfl Zt rfl (Nat.le_of_ble_eq_true rfl) (by simp only [List.all_cons,List.all_nil,hs6.oneC,Bool.true_and] <;> rfl) rfl rfl rfl rfl rfl (fun w9 hS9=>?_)
   exact Xe [.agg #[v5, .int .i64 ((ZN (some (Pt.mk ((Yk (Zx t)).tx) ((Yk (Zx t)).vd) ((Yk (Zx t)).v)))).r.d.a), .int .i64 ((ZN (some (Pt.mk ((Yk (Zx t)).tx) ((Yk (Zx t)).vd) ((Yk (Zx t)).v)))).r.d.b), .int .i64 ((ZN (some (Pt.mk ((Yk (Zx t)).tx) ((Yk (Zx t)).vd) ((Yk (Zx t)).v)))).r.x.a), .int .i64 ((ZN (some (Pt.mk ((Yk (Zx t)).tx) ((Yk (Zx t)).vd) ((Yk (Zx t)).v)))).r.x.b)], .bool false] hS9 ⟨_,_,_,rfl,rfl,hS9.loadA 0 _ _ _ 0 [v5, .int .i64 ((ZN (some (Pt.mk ((Yk (Zx t)).tx) ((Yk (Zx t)).vd) ((Yk (Zx t)).v)))).r.d.a), .int .i64 ((ZN (some (Pt.mk ((Yk (Zx t)).tx) ((Yk (Zx t)).vd) ((Yk (Zx t)).v)))).r.d.b), .int .i64 ((ZN (some (Pt.mk ((Yk (Zx t)).tx) ((Yk (Zx t)).vd) ((Yk (Zx t)).v)))).r.x.a), .int .i64 ((ZN (some (Pt.mk ((Yk (Zx t)).tx) ((Yk (Zx t)).vd) ((Yk (Zx t)).v)))).r.x.b)] rfl rfl rfl Zt rfl,⟨_,rfl,rfl⟩⟩ ⟨_,_,rfl,(Is.cast ⟨_,rfl,(ZQ (HRow.mk ((ZN (some (Pt.mk ((Yk (Zx t)).tx) ((Yk (Zx t)).vd) ((Yk (Zx t)).v)))).v) (Rect.mk (Span.mk ((ZN (some (Pt.mk ((Yk (Zx t)).tx) ((Yk (Zx t)).vd) ((Yk (Zx t)).v)))).r.d.a) ((ZN (some (Pt.mk ((Yk (Zx t)).tx) ((Yk (Zx t)).vd) ((Yk (Zx t)).v)))).r.d.b)) (Span.mk ((ZN (some (Pt.mk ((Yk (Zx t)).tx) ((Yk (Zx t)).vd) ((Yk (Zx t)).v)))).r.x.a) ((ZN (some (Pt.mk ((Yk (Zx t)).tx) ((Yk (Zx t)).vd) ((Yk (Zx t)).v)))).r.x.b)))) hs6 hb6 hb7 hb8 hb9)⟩ (by exact (ZpD ‹_› ‹_›).1)),(congrArg Value.bool (by exact (ZpD ‹_› ‹_›).2))⟩
  refine WL.build _ [] [.slice none 0 0, .int .i64 0, .int .i64 0, .int .i64 0, .int .i64 0] Zt rfl Zbr rfl rfl rfl rfl ?_
  refine WL.store hS7 0 _ _ _ 0 _ [.slice none 0 0, .int .i64 0, .int .i64 0, .int .i64 0, .int .i64 0] [.slice none 0 0, .int .i64 0, .int .i64 0, .int .i64 0, .int .i64 0] _ rfl rfl Zt rfl (Nat.le_of_ble_eq_true rfl) rfl rfl rfl rfl rfl rfl (fun w10 hS10=>?_)
  exact Xe [.agg #[.slice none 0 0, .int .i64 0, .int .i64 0, .int .i64 0, .int .i64 0], .bool true] hS10 ⟨_,_,_,rfl,rfl,hS10.loadA 0 _ _ _ 0 [.slice none 0 0, .int .i64 0, .int .i64 0, .int .i64 0, .int .i64 0] rfl rfl rfl Zt rfl,⟨_,rfl,rfl⟩⟩ ⟨_,_,rfl,(Is.cast ⟨_,rfl,(ZQ (HRow.mk [] (Rect.mk (Span.mk 0 0) (Span.mk 0 0))) (Sl.nil ValE 32 G4) ZM ZM ZM ZM)⟩ (by exact (ZpE ‹_› ‹_›).1)),(congrArg Value.bool (by exact (ZpE ‹_› ‹_›).2))⟩
 refine WL.build _ [] [.slice none 0 0, .int .i64 0, .int .i64 0, .int .i64 0, .int .i64 0] Zt rfl Zbr rfl rfl rfl rfl ?_
 refine WL.store hS3 0 _ _ _ 0 _ [.slice none 0 0, .int .i64 0, .int .i64 0, .int .i64 0, .int .i64 0] [.slice none 0 0, .int .i64 0, .int .i64 0, .int .i64 0, .int .i64 0] _ rfl rfl Zt rfl (Nat.le_of_ble_eq_true rfl) rfl rfl rfl rfl rfl rfl (fun w11 hS11=>?_)
 exact Xe [.agg #[.slice none 0 0, .int .i64 0, .int .i64 0, .int .i64 0, .int .i64 0], .bool false] hS11 ⟨_,_,_,rfl,rfl,hS11.loadA 0 _ _ _ 0 [.slice none 0 0, .int .i64 0, .int .i64 0, .int .i64 0, .int .i64 0] rfl rfl rfl Zt rfl,⟨_,rfl,rfl⟩⟩ ⟨_,_,rfl,(Is.cast ⟨_,rfl,(ZQ (HRow.mk [] (Rect.mk (Span.mk 0 0) (Span.mk 0 0))) (Sl.nil ValE 32 G2) ZM ZM ZM ZM)⟩ (by exact (ZpC ‹_›).1)),(congrArg Value.bool (by exact (ZpC ‹_›).2))⟩
theorem Zix {G : GH} {w : World} (hG : G.In w) (t : Table) (ct : List Value) (hct : TableE.rep G t ct) : CL Tryz.prog (nat_lit 72) #[.agg ct.toArray] [] w G fun _ _ r=>r = .bool (Y6 t):=by
 refine Zg ft [] Tryz.func72 rfl rfl ?_
 have hS:=St.start (X:=[]) hG
 obtain ⟨v1,v2,v3,rfl,hb1,hs1,hb2,hs2,hs3,hb3⟩:=Zy hct
 refine Zv [Zb t.s.name,v1, .int .i64 t.s.key,v2,v3, .int .i64 t.last] _ hS rfl rfl rfl (fun p1 w1 G1 hle1 hsp1 hc1 hS1=>?_)
 refine Zc hS1 hc1 [Zb t.s.name,v1, .int .i64 t.s.key,v2,v3, .int .i64 t.last] Zm rfl rfl rfl rfl rfl <| Z6 hS1 Xj rfl rfl rfl (ZgU hS1.imm t _ (Zi t hb1 (hs1.mono hle1) hb2 (hs2.mono hle1) (hs3.mono hle1) hb3)) ?_
 rintro w2 G2 _ ⟨r2,_,rfl,hs4,rfl⟩ hS2 hle2
 obtain ⟨cs1,rfl,hr1⟩:=hs4
 obtain ⟨v4,rfl,hs5,hb4,hb5,hb6,hb7⟩:=ZA hr1
 refine WL.alloc hS2 Zt rfl rfl (fun b1 w3 hn1 hS3=>?_)
 refine WL.store hS3 0 _ _ _ 0 _ [v4, .int .i64 ((YV t).r.d.a), .int .i64 ((YV t).r.d.b), .int .i64 ((YV t).r.x.a), .int .i64 ((YV t).r.x.b)] [v4, .int .i64 ((YV t).r.d.a), .int .i64 ((YV t).r.d.b), .int .i64 ((YV t).r.x.a), .int .i64 ((YV t).r.x.b)] _ rfl rfl Zt rfl (Nat.le_of_ble_eq_true rfl) (by simp only [List.all_cons,List.all_nil,hs5.oneC,Bool.true_and] <;> rfl) rfl rfl rfl rfl rfl (fun w4 hS4=>?_)
 obtain ⟨G3,hle3,hc2,hS5⟩:=hS4.shutB hn1
 exact RB hS5 rfl (by rfl)
theorem Zmt {G : GH} {w : World} (hG : G.In w) (t : Table) (e : Int) (ct : List Value) (hct : TableE.rep G t ct) (hv : e = 0 → Z2 t = true) : CL Tryz.prog (nat_lit 106) #[.agg ct.toArray, .int .i64 e] [] w G fun G' _ r=>∃ r0 r1,r = .tuple #[r0,r1] ∧ Is TableE G' r0 (Xn t e) ∧ r1 = .int .i64 (Zba t e):=by
 refine YB ft [] Tryz.func106 rfl rfl ?_
 have hS:=St.start (X:=[]) hG
 obtain ⟨v1,v2,v3,rfl,hb1,hs1,hb2,hs2,hs3,hb3⟩:=Zy hct
 refine Zv [Zb t.s.name,v1, .int .i64 t.s.key,v2,v3, .int .i64 t.last] _ hS rfl rfl rfl (fun p1 w1 G1 hle1 hsp1 hc1 hS1=>?_)
 refine WL.alloc hS1 Zm rfl rfl (fun b1 w2 hn1 hS2=>?_)
 refine Yf e 0 rfl rfl rfl (fun h1=>?_) (fun h1=>?_)
 ·refine WL.build _ [] [Zb [], .slice none 0 0, .int .i64 0, .slice none 0 0, .slice none 0 0, .int .i64 0] Zm rfl XU rfl rfl rfl rfl ?_
  refine WL.store hS2 0 _ _ _ 0 _ [Zb [], .slice none 0 0, .int .i64 0, .slice none 0 0, .slice none 0 0, .int .i64 0] [Zb [], .slice none 0 0, .int .i64 0, .slice none 0 0, .slice none 0 0, .int .i64 0] _ rfl rfl Zm rfl (Nat.le_of_ble_eq_true rfl) rfl rfl rfl rfl rfl rfl (fun w3 hS3=>?_)
  exact Xe [.agg #[Zb [], .slice none 0 0, .int .i64 0, .slice none 0 0, .slice none 0 0, .int .i64 0], .int .i64 e] hS3 ⟨_,_,_,rfl,rfl,hS3.loadA 0 _ _ _ 0 [Zb [], .slice none 0 0, .int .i64 0, .slice none 0 0, .slice none 0 0, .int .i64 0] rfl rfl rfl Zm rfl,⟨_,rfl,rfl⟩⟩ ⟨_,_,rfl,(Is.cast ⟨_,rfl,(Zi (Table.mk (Schema.mk [] [] 0 []) [] 0) (by simp [reach]) (Sl.nil ColE 24 G1) ZM (Sl.nil ForeignE 40 G1) (Sl.nil HRowE 56 G1) ZM)⟩ (by exact (ZjL ‹_›).1)),(congrArg (Value.int .i64) (by exact (ZjL ‹_›).2))⟩
 refine Zc hS2 hc1 [Zb t.s.name,v1, .int .i64 t.s.key,v2,v3, .int .i64 t.last] Zm rfl rfl rfl rfl rfl ?_
 refine Z6 hS2 Zus rfl rfl rfl (Zg1 hS2.imm t _ (Zi t hb1 (hs1.mono hle1) hb2 (hs2.mono hle1) (hs3.mono hle1) hb3) (hv ‹_›)) ?_
 rintro w4 G2 _ ⟨r2,_,rfl,hs4,rfl⟩ hS4 hle2
 obtain ⟨cs1,rfl,hr1⟩:=hs4
 obtain ⟨v4,rfl,hb4,hb5,hs5⟩:=Zcf hr1
 refine WL.alloc hS4 Xr rfl rfl (fun b2 w5 hn2 hS5=>?_)
 refine WL.store hS5 0 _ _ _ 0 _ [.int .i64 ((Yk (Zx t)).tx), .int .i64 ((Yk (Zx t)).vd),v4] [.int .i64 ((Yk (Zx t)).tx), .int .i64 ((Yk (Zx t)).vd),v4] _ rfl rfl Xr rfl (Nat.le_of_ble_eq_true rfl) (by simp only [List.all_cons,List.all_nil,hs5.oneC,Bool.true_and] <;> rfl) rfl rfl rfl rfl rfl (fun w6 hS6=>?_)
 obtain ⟨G3,hle3,hc2,hS7⟩:=hS6.shutB hn2
 refine XT (d:=16) rfl (fun (h2 : ((Zx t).isSome) = true)=>?_) (fun (h2 : ((Zx t).isSome) = false)=>?_)
 ·refine WL.build _ [] [Zb [], .slice none 0 0, .int .i64 0, .slice none 0 0, .slice none 0 0, .int .i64 0] Zm rfl XU rfl rfl rfl rfl ?_
  refine WL.store hS7 0 _ _ _ 0 _ [Zb [], .slice none 0 0, .int .i64 0, .slice none 0 0, .slice none 0 0, .int .i64 0] [Zb [], .slice none 0 0, .int .i64 0, .slice none 0 0, .slice none 0 0, .int .i64 0] _ rfl rfl Zm rfl (Nat.le_of_ble_eq_true rfl) rfl rfl rfl rfl rfl rfl (fun w7 hS8=>?_)
  exact Xe [.agg #[Zb [], .slice none 0 0, .int .i64 0, .slice none 0 0, .slice none 0 0, .int .i64 0], .int .i64 14] hS8 ⟨_,_,_,rfl,rfl,hS8.loadA 0 _ _ _ 0 [Zb [], .slice none 0 0, .int .i64 0, .slice none 0 0, .slice none 0 0, .int .i64 0] rfl rfl rfl Zm rfl,⟨_,rfl,rfl⟩⟩ ⟨_,_,rfl,(Is.cast ⟨_,rfl,(Zi (Table.mk (Schema.mk [] [] 0 []) [] 0) (by simp [reach]) (Sl.nil ColE 24 G3) ZM (Sl.nil ForeignE 40 G3) (Sl.nil HRowE 56 G3) ZM)⟩ (by exact (ZjM ‹_› ‹_›).1)),(congrArg (Value.int .i64) (by exact (ZjM ‹_› ‹_›).2))⟩
 refine Zc hS7 (hc1.mono (hle2.trans hle3)) [Zb t.s.name,v1, .int .i64 t.s.key,v2,v3, .int .i64 t.last] Zm rfl rfl rfl rfl rfl ?_
 refine WL.store hS7 0 _ _ _ 0 _ [Zb t.s.name,v1, .int .i64 t.s.key,v2,v3, .int .i64 t.last] [Zb t.s.name,v1, .int .i64 t.s.key,v2,v3, .int .i64 t.last] _ rfl rfl Zm rfl (Nat.le_of_ble_eq_true rfl) (by simp only [List.all_cons,List.all_nil,(hs1.mono ((hle1.trans hle2).trans hle3)).oneC,(hs2.mono ((hle1.trans hle2).trans hle3)).oneC,(hs3.mono ((hle1.trans hle2).trans hle3)).oneC,Bool.true_and] <;> rfl) rfl rfl rfl rfl rfl (fun w9 hS9=>?_)
 exact Xe [.agg #[Zb t.s.name,v1, .int .i64 t.s.key,v2,v3, .int .i64 t.last], .int .i64 0] hS9 ⟨_,_,_,rfl,rfl,hS9.loadA 0 _ _ _ 0 [Zb t.s.name,v1, .int .i64 t.s.key,v2,v3, .int .i64 t.last] rfl rfl rfl Zm rfl,⟨_,rfl,rfl⟩⟩ ⟨_,_,rfl,(Is.cast ⟨_,rfl,(Zi t hb1 (hs1.mono ((hle1.trans hle2).trans hle3)) hb2 (hs2.mono ((hle1.trans hle2).trans hle3)) (hs3.mono ((hle1.trans hle2).trans hle3)) hb3)⟩ (by exact (ZjN ‹_› ‹_›).1)),(congrArg (Value.int .i64) (by exact (ZjN ‹_› ‹_›).2))⟩
theorem Zcy {G : GH} {w : World} (hG : G.In w) (t : Table) (tx : Int) (v : List Val) (d : Span) (ct : List Value) (hct : TableE.rep G t ct) (vv : Value) (hvv : Sl ValE 32 G vv v) (cd : List Value) (hcd : SpanE.rep G d cd) (htx64 : Zw tx) : CL Tryz.prog (nat_lit 49) #[.agg ct.toArray, .int .i64 tx,vv, .agg cd.toArray] [] w G fun G' _ r=>∃ r0 r1,r = .tuple #[r0,r1] ∧ Is TableE G' r0 (Zo t tx v d) ∧ r1 = .int .i64 (Qb t tx v d):=by
 refine YB ft [] Tryz.func49 rfl rfl ?_
 have hS:=St.start (X:=[]) hG
 obtain ⟨v1,v2,v3,rfl,hb1,hs1,hb2,hs2,hs3,hb3⟩:=Zy hct
 obtain ⟨rfl,hb4,hb5⟩:=ZE hcd
 refine Zv [Zb t.s.name,v1, .int .i64 t.s.key,v2,v3, .int .i64 t.last] _ hS rfl rfl rfl (fun p1 w1 G1 hle1 hsp1 hc1 hS1=>?_)
 refine Zv [.int .i64 d.a, .int .i64 d.b] _ hS1 rfl rfl rfl (fun p2 w2 G2 hle2 hsp2 hc2 hS2=>?_)
 refine WL.alloc hS2 Zm rfl rfl (fun b1 w3 hn1 hS3=>?_)
 refine Zc hS3 (hc1.mono hle2) [Zb t.s.name,v1, .int .i64 t.s.key,v2,v3, .int .i64 t.last] Zm rfl rfl rfl rfl rfl ?_
 refine Zn hS3 Zq0 rfl rfl rfl (Zix hS3.imm t _ (Zi t hb1 (hs1.mono (hle1.trans hle2)) hb2 (hs2.mono (hle1.trans hle2)) (hs3.mono (hle1.trans hle2)) hb3)) (fun w4 G3 hS4 hle3=>?_)
 refine WL.split (fun (h1 : (Y6 t) = true)=>?_) (fun (h1 : (Y6 t) = false)=>?_)
 ·refine Zc hS4 (hc1.mono (hle2.trans hle3)) [Zb t.s.name,v1, .int .i64 t.s.key,v2,v3, .int .i64 t.last] Zm rfl rfl rfl rfl rfl <| Zc hS4 (hc2.mono hle3) [.int .i64 d.a, .int .i64 d.b] Zu rfl rfl rfl rfl rfl <| Z6 hS4 Zag rfl rfl rfl (ZfO hS4.imm t tx v d _ (Zi t hb1 (hs1.mono ((hle1.trans hle2).trans hle3)) hb2 (hs2.mono ((hle1.trans hle2).trans hle3)) (hs3.mono ((hle1.trans hle2).trans hle3)) hb3) _ (hvv.mono ((hle1.trans hle2).trans hle3)) _ (Zs d hb4 hb5) htx64) ?_
  rintro w5 G4 _ ⟨r2,_,rfl,hs4,rfl⟩ hS5 hle4
  obtain ⟨cs1,rfl,hr1⟩:=hs4
  obtain ⟨v4,v5,v6,rfl,hb6,hs5,hb7,hs6,hs7,hb8⟩:=Zy hr1
  refine Z6 hS5 Zsb rfl rfl rfl (Zmt hS5.imm (ZF t tx v d) (Y2 t tx v d) _ (Zi (ZF t tx v d) hb6 hs5 hb7 hs6 hs7 hb8) Zjs) ?_
  rintro w6 G5 _ ⟨r5,_,rfl,hs8,rfl⟩ hS6 hle5
  obtain ⟨cs2,rfl,hr2⟩:=hs8
  obtain ⟨v7,v9,v10,rfl,hb9,hs9,hb10,hs10,hs11,YD⟩:=Zy hr2
  refine WL.store hS6 0 _ _ _ 0 _ [Zb ((Xn (ZF t tx v d) (Y2 t tx v d)).s.name),v7, .int .i64 ((Xn (ZF t tx v d) (Y2 t tx v d)).s.key),v9,v10, .int .i64 ((Xn (ZF t tx v d) (Y2 t tx v d)).last)] [Zb ((Xn (ZF t tx v d) (Y2 t tx v d)).s.name),v7, .int .i64 ((Xn (ZF t tx v d) (Y2 t tx v d)).s.key),v9,v10, .int .i64 ((Xn (ZF t tx v d) (Y2 t tx v d)).last)] _ rfl rfl Zm rfl (Nat.le_of_ble_eq_true rfl) (by simp only [List.all_cons,List.all_nil,hs9.oneC,hs10.oneC,hs11.oneC,Bool.true_and] <;> rfl) rfl rfl rfl rfl rfl (fun w7 hS7=>?_)
  exact Xe [.agg #[Zb ((Xn (ZF t tx v d) (Y2 t tx v d)).s.name),v7, .int .i64 ((Xn (ZF t tx v d) (Y2 t tx v d)).s.key),v9,v10, .int .i64 ((Xn (ZF t tx v d) (Y2 t tx v d)).last)], .int .i64 (Zba (ZF t tx v d) (Y2 t tx v d))] hS7 ⟨_,_,_,rfl,rfl,hS7.loadA 0 _ _ _ 0 [Zb ((Xn (ZF t tx v d) (Y2 t tx v d)).s.name),v7, .int .i64 ((Xn (ZF t tx v d) (Y2 t tx v d)).s.key),v9,v10, .int .i64 ((Xn (ZF t tx v d) (Y2 t tx v d)).last)] rfl rfl rfl Zm rfl,⟨_,rfl,rfl⟩⟩ ⟨_,_,rfl,(Is.cast ⟨_,rfl,(Zi (Xn (ZF t tx v d) (Y2 t tx v d)) hb9 hs9 hb10 hs10 hs11 YD)⟩ (by exact (ZhV ‹_›).1)),(congrArg (Value.int .i64) (by exact (ZhV ‹_›).2))⟩
 refine WL.build _ [] [Zb [], .slice none 0 0, .int .i64 0, .slice none 0 0, .slice none 0 0, .int .i64 0] Zm rfl XU rfl rfl rfl rfl ?_
 refine WL.store hS4 0 _ _ _ 0 _ [Zb [], .slice none 0 0, .int .i64 0, .slice none 0 0, .slice none 0 0, .int .i64 0] [Zb [], .slice none 0 0, .int .i64 0, .slice none 0 0, .slice none 0 0, .int .i64 0] _ rfl rfl Zm rfl (Nat.le_of_ble_eq_true rfl) rfl rfl rfl rfl rfl rfl (fun w9 hS8=>?_)
 exact Xe [.agg #[Zb [], .slice none 0 0, .int .i64 0, .slice none 0 0, .slice none 0 0, .int .i64 0], .int .i64 1] hS8 ⟨_,_,_,rfl,rfl,hS8.loadA 0 _ _ _ 0 [Zb [], .slice none 0 0, .int .i64 0, .slice none 0 0, .slice none 0 0, .int .i64 0] rfl rfl rfl Zm rfl,⟨_,rfl,rfl⟩⟩ ⟨_,_,rfl,(Is.cast ⟨_,rfl,(Zi (Table.mk (Schema.mk [] [] 0 []) [] 0) (by simp [reach]) (Sl.nil ColE 24 G3) ZM (Sl.nil ForeignE 40 G3) (Sl.nil HRowE 56 G3) ZM)⟩ (by exact (Zp9 ‹_›).1)),(congrArg (Value.int .i64) (by exact (Zp9 ‹_›).2))⟩
theorem ZpI {G : GH} {w : World} (hG : G.In w) (d : Nat) (t : Table) (tx : Int) (c : Cond) (set : List Val) (mask : List Bool) (p : Span) (ct : List Value) (hct : TableE.rep G t ct) (cc : List Value) (hcc : (Y1 d).rep G c cc) (vs : Value) (hvs : Sl ValE 32 G vs set) (vm : Value) (hvm : Sl Enc.bool 1 G vm mask) (cp : List Value) (hcp : SpanE.rep G p cp) (htx64 : Zw tx) : CL Tryz.prog (nat_lit 48) #[.agg ct.toArray, .int .i64 tx, .agg cc.toArray,vs,vm, .agg cp.toArray] [] w G fun G' _ r=>∃ r0 r1,r = .tuple #[r0,r1] ∧ Is TableE G' r0 (Yh d t tx c set mask p) ∧ r1 = .int .i64 (ZbM d t tx c set mask p):=by
 refine YB ft [] Tryz.func48 rfl rfl ?_
 have hS:=St.start (X:=[]) hG
 obtain ⟨v1,v2,v3,rfl,hb1,hs1,hb2,hs2,hs3,hb3⟩:=Zy hct
 obtain ⟨lv1,rfl,hb4,hb5,hb6,hb7,hb8,hb9,ho1⟩:=YS hcc
 obtain ⟨rfl,hb10,YD⟩:=ZE hcp
 refine Zv [Zb t.s.name,v1, .int .i64 t.s.key,v2,v3, .int .i64 t.last] _ hS rfl rfl rfl (fun p1 w1 G1 hle1 hsp1 hc1 hS1=>?_)
 refine Zv [.int .i64 c.kind,Zb c.col,Zb c.oth, .int .i64 c.v.k, .int .i64 c.v.n,Zb c.v.s,lv1] _ hS1 rfl rfl rfl (fun p2 w2 G2 hle2 hsp2 hc2 hS2=>?_)
 refine Zv [.int .i64 p.a, .int .i64 p.b] _ hS2 rfl rfl rfl (fun p3 w3 G3 hle3 hsp3 hc3 hS3=>?_)
 refine WL.alloc hS3 Zm rfl rfl (fun b1 w4 hn1 hS4=>?_)
 refine Zc hS4 (hc1.mono (hle2.trans hle3)) [Zb t.s.name,v1, .int .i64 t.s.key,v2,v3, .int .i64 t.last] Zm rfl rfl rfl rfl rfl ?_
 refine Zn hS4 Zq0 rfl rfl rfl (Zix hS4.imm t _ (Zi t hb1 (hs1.mono ((hle1.trans hle2).trans hle3)) hb2 (hs2.mono ((hle1.trans hle2).trans hle3)) (hs3.mono ((hle1.trans hle2).trans hle3)) hb3)) (fun w5 G4 hS5 hle4=>?_)
 refine WL.split (fun (h1 : (Y6 t) = true)=>?_) (fun (h1 : (Y6 t) = false)=>?_)
 ·refine Zc hS5 (hc1.mono ((hle2.trans hle3).trans hle4)) [Zb t.s.name,v1, .int .i64 t.s.key,v2,v3, .int .i64 t.last] Zm rfl rfl rfl rfl rfl <| Zc hS5 (hc2.mono (hle3.trans hle4)) [.int .i64 c.kind,Zb c.col,Zb c.oth, .int .i64 c.v.k, .int .i64 c.v.n,Zb c.v.s,lv1] Xp rfl rfl rfl rfl rfl <| Zc hS5 (hc3.mono hle4) [.int .i64 p.a, .int .i64 p.b] Zu rfl rfl rfl rfl rfl <| Z6 hS5 Zsc rfl rfl rfl (Zjq hS5.imm _ t tx c set mask p _ (Zi t hb1 (hs1.mono (((hle1.trans hle2).trans hle3).trans hle4)) hb2 (hs2.mono (((hle1.trans hle2).trans hle3).trans hle4)) (hs3.mono (((hle1.trans hle2).trans hle3).trans hle4)) hb3) _ ((Y1 _).mono (((hle1.trans hle2).trans hle3).trans hle4) hcc) _ (hvs.mono (((hle1.trans hle2).trans hle3).trans hle4)) _ (hvm.mono (((hle1.trans hle2).trans hle3).trans hle4)) _ (Zs p hb10 YD) htx64) ?_
  rintro w6 G5 _ ⟨r2,_,rfl,hs4,rfl⟩ hS6 hle5
  obtain ⟨cs1,rfl,hr1⟩:=hs4
  obtain ⟨v4,v5,v6,rfl,YW,hs5,Xj,hs6,hs7,XD⟩:=Zy hr1
  refine Z6 hS6 Zsb rfl rfl rfl (Zmt hS6.imm (YH d t tx c set mask p) (Xv d t tx c set mask p) _ (Zi (YH d t tx c set mask p) YW hs5 Xj hs6 hs7 XD) Zjt) ?_
  rintro w7 G6 _ ⟨r5,_,rfl,hs8,rfl⟩ hS7 hle6
  obtain ⟨cs2,rfl,hr2⟩:=hs8
  obtain ⟨v7,v9,v10,rfl,X7,hs9,Qi,hs10,hs11,Qd⟩:=Zy hr2
  refine WL.store hS7 0 _ _ _ 0 _ [Zb ((Xn (YH d t tx c set mask p) (Xv d t tx c set mask p)).s.name),v7, .int .i64 ((Xn (YH d t tx c set mask p) (Xv d t tx c set mask p)).s.key),v9,v10, .int .i64 ((Xn (YH d t tx c set mask p) (Xv d t tx c set mask p)).last)] [Zb ((Xn (YH d t tx c set mask p) (Xv d t tx c set mask p)).s.name),v7, .int .i64 ((Xn (YH d t tx c set mask p) (Xv d t tx c set mask p)).s.key),v9,v10, .int .i64 ((Xn (YH d t tx c set mask p) (Xv d t tx c set mask p)).last)] _ rfl rfl Zm rfl (Nat.le_of_ble_eq_true rfl) (by simp only [List.all_cons,List.all_nil,hs9.oneC,hs10.oneC,hs11.oneC,Bool.true_and] <;> rfl) rfl rfl rfl rfl rfl (fun w9 hS8=>?_)
  exact Xe [.agg #[Zb ((Xn (YH d t tx c set mask p) (Xv d t tx c set mask p)).s.name),v7, .int .i64 ((Xn (YH d t tx c set mask p) (Xv d t tx c set mask p)).s.key),v9,v10, .int .i64 ((Xn (YH d t tx c set mask p) (Xv d t tx c set mask p)).last)], .int .i64 (Zba (YH d t tx c set mask p) (Xv d t tx c set mask p))] hS8 ⟨_,_,_,rfl,rfl,hS8.loadA 0 _ _ _ 0 [Zb ((Xn (YH d t tx c set mask p) (Xv d t tx c set mask p)).s.name),v7, .int .i64 ((Xn (YH d t tx c set mask p) (Xv d t tx c set mask p)).s.key),v9,v10, .int .i64 ((Xn (YH d t tx c set mask p) (Xv d t tx c set mask p)).last)] rfl rfl rfl Zm rfl,⟨_,rfl,rfl⟩⟩ ⟨_,_,rfl,(Is.cast ⟨_,rfl,(Zi (Xn (YH d t tx c set mask p) (Xv d t tx c set mask p)) X7 hs9 Qi hs10 hs11 Qd)⟩ (by exact (ZpB ‹_›).1)),(congrArg (Value.int .i64) (by exact (ZpB ‹_›).2))⟩
 refine WL.build _ [] [Zb [], .slice none 0 0, .int .i64 0, .slice none 0 0, .slice none 0 0, .int .i64 0] Zm rfl XU rfl rfl rfl rfl ?_
 refine WL.store hS5 0 _ _ _ 0 _ [Zb [], .slice none 0 0, .int .i64 0, .slice none 0 0, .slice none 0 0, .int .i64 0] [Zb [], .slice none 0 0, .int .i64 0, .slice none 0 0, .slice none 0 0, .int .i64 0] _ rfl rfl Zm rfl (Nat.le_of_ble_eq_true rfl) rfl rfl rfl rfl rfl rfl (fun w10 hS9=>?_)
 exact Xe [.agg #[Zb [], .slice none 0 0, .int .i64 0, .slice none 0 0, .slice none 0 0, .int .i64 0], .int .i64 1] hS9 ⟨_,_,_,rfl,rfl,hS9.loadA 0 _ _ _ 0 [Zb [], .slice none 0 0, .int .i64 0, .slice none 0 0, .slice none 0 0, .int .i64 0] rfl rfl rfl Zm rfl,⟨_,rfl,rfl⟩⟩ ⟨_,_,rfl,(Is.cast ⟨_,rfl,(Zi (Table.mk (Schema.mk [] [] 0 []) [] 0) (by simp [reach]) (Sl.nil ColE 24 G4) ZM (Sl.nil ForeignE 40 G4) (Sl.nil HRowE 56 G4) ZM)⟩ (by exact (ZpA ‹_›).1)),(congrArg (Value.int .i64) (by exact (ZpA ‹_›).2))⟩
end Go.Civ
