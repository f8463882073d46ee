/- Lemmas. -/
import Derived.Test.YthgeclodflmiaaaGreatN31
import Derived.Test.YthgeclodflmiaaaGreatN34
import Derived.Test.YthgeclodflmiaaaGreatN35
import Derived.Test.YthgeclodflmiaaaGreatN37
import Derived.Test.YthgeclodflmiaaaGreatN38
import Derived.Test.YthgeclodflmiaaaGreatProg
import Derived.KernelRfl
import Derived.WalkKit
set_option linter.unusedVariables false
set_option linter.unusedSimpArgs false
set_option maxRecDepth 100000
set_option maxHeartbeats 4000000
namespace Go.Civ
open Go.Proofs
theorem Zli {G : GH} {w : World} (hG : G.In w) (t : Table) (ct : List Value) (hct : TableE.rep G t ct) : CL Tryz.prog (nat_lit 13) #[.agg ct.toArray] [] w G fun G' _ r=>∃ r0 r1,r = .tuple #[r0,r1] ∧ Is HRowE G' r0 (Xx t) ∧ r1 = .bool (YA t):=by
 refine YY ft [] Tryz.func13 rfl rfl ?_
 have hS:=St.start (X:=[]) hG
 obtain ⟨v1,v2,v3,rfl,hb1,hs1,hb2,hs2,hs3,hb3⟩:=ZF hct
 refine Z1 [Zb t.s.name,v1, .int .i64 t.s.key,v2,v3, .int .i64 t.last] _ hS rfl rfl rfl (fun p1 w1 G1 hle1 hsp1 hc1 hS1=>?_)
 refine WL.alloc hS1 Zs rfl rfl (fun b1 w2 hn1 hS2=>?_)
 refine Zd hS2 hc1 [Zb t.s.name,v1, .int .i64 t.s.key,v2,v3, .int .i64 t.last] Zw rfl rfl rfl rfl rfl ?_
 refine Zn hS2 Qm rfl rfl rfl (ZcX hS2.imm t _ (Zu t hb1 (hs1.mono hle1) hb2 (hs2.mono hle1) (hs3.mono hle1) hb3)) (fun w3 G2 hS3 hle2=>?_)
 refine WL.split (fun (h1 : (Z3 t) = true)=>?_) (fun (h1 : (Z3 t) = false)=>?_)
 ·refine Zd hS3 (hc1.mono hle2) [Zb t.s.name,v1, .int .i64 t.s.key,v2,v3, .int .i64 t.last] Zw rfl rfl rfl rfl rfl ?_
  refine Z6 hS3 ZtX rfl rfl rfl (Zgm hS3.imm t _ (Zu t hb1 (hs1.mono (hle1.trans hle2)) hb2 (hs2.mono (hle1.trans hle2)) (hs3.mono (hle1.trans hle2)) hb3) ‹_›) ?_
  rintro w4 G3 _ ⟨r2,_,rfl,hs4,rfl⟩ hS4 hle3
  obtain ⟨cs1,rfl,hr1⟩:=hs4
  obtain ⟨v4,rfl,hb4,hb5,hs5⟩:=ZbZ hr1
  refine WL.alloc hS4 Xh rfl rfl (fun b2 w5 hn2 hS5=>?_)
  refine WL.store hS5 0 _ _ _ 0 _ [.int .i64 ((Yr (Zt t)).tx), .int .i64 ((Yr (Zt t)).vd),v4] [.int .i64 ((Yr (Zt t)).tx), .int .i64 ((Yr (Zt t)).vd),v4] _ rfl rfl Xh rfl (Nat.le_of_ble_eq_true rfl) (by simp only [List.all_cons,List.all_nil,hs5.oneC,Bool.true_and] <;> rfl) rfl rfl rfl rfl rfl (fun w6 hS6=>?_)
  obtain ⟨G4,hle4,hc2,hS7⟩:=hS6.shutB hn2
  refine XG (d:=14) rfl (fun (h2 : ((Zt t).isSome) = true)=>?_) (fun (h2 : ((Zt t).isSome) = false)=>?_)
  ·refine Zd hS7 hc2 [.int .i64 ((Yr (Zt t)).tx), .int .i64 ((Yr (Zt t)).vd),v4] Xh rfl rfl rfl rfl rfl ?_
   refine Z6 hS7 Zwt rfl rfl rfl (Ztt hS7.imm (Pt.mk ((Yr (Zt t)).tx) ((Yr (Zt t)).vd) ((Yr (Zt t)).v)) _ (Zbc (Pt.mk ((Yr (Zt t)).tx) ((Yr (Zt t)).vd) ((Yr (Zt t)).v)) hb4 hb5 (hs5.mono hle4)) (ZhL ‹_› ‹_›).1 (ZhL ‹_› ‹_›).2) (fun w7 G5 r4 hpost2 hS8 hle5=>?_)
   obtain ⟨cs2,rfl,hr2⟩:=hpost2
   obtain ⟨v5,rfl,hs6,hb6,hb7,hb8,hb9⟩:=Z8 hr2
   refine WL.store hS8 0 _ _ _ 0 _ [v5, .int .i64 ((Yv (some (Pt.mk ((Yr (Zt t)).tx) ((Yr (Zt t)).vd) ((Yr (Zt t)).v)))).r.d.a), .int .i64 ((Yv (some (Pt.mk ((Yr (Zt t)).tx) ((Yr (Zt t)).vd) ((Yr (Zt t)).v)))).r.d.b), .int .i64 ((Yv (some (Pt.mk ((Yr (Zt t)).tx) ((Yr (Zt t)).vd) ((Yr (Zt t)).v)))).r.x.a), .int .i64 ((Yv (some (Pt.mk ((Yr (Zt t)).tx) ((Yr (Zt t)).vd) ((Yr (Zt t)).v)))).r.x.b)] [v5, .int .i64 ((Yv (some (Pt.mk ((Yr (Zt t)).tx) ((Yr (Zt t)).vd) ((Yr (Zt t)).v)))).r.d.a), .int .i64 ((Yv (some (Pt.mk ((Yr (Zt t)).tx) ((Yr (Zt t)).vd) ((Yr (Zt t)).v)))).r.d.b), .int .i64 ((Yv (some (Pt.mk ((Yr (Zt t)).tx) ((Yr (Zt t)).vd) ((Yr (Zt t)).v)))).r.x.a), .int .i64 ((Yv (some (Pt.mk ((Yr (Zt t)).tx) ((Yr (Zt t)).vd) ((Yr (Zt t)).v)))).r.x.b)] _ rfl rfl Zs rfl (Nat.le_of_ble_eq_true rfl) (by simp only [List.all_cons,List.all_nil,hs6.oneC,Bool.true_and] <;> rfl) rfl rfl rfl rfl rfl (fun w9 hS9=>?_)
   exact XH [.agg #[v5, .int .i64 ((Yv (some (Pt.mk ((Yr (Zt t)).tx) ((Yr (Zt t)).vd) ((Yr (Zt t)).v)))).r.d.a), .int .i64 ((Yv (some (Pt.mk ((Yr (Zt t)).tx) ((Yr (Zt t)).vd) ((Yr (Zt t)).v)))).r.d.b), .int .i64 ((Yv (some (Pt.mk ((Yr (Zt t)).tx) ((Yr (Zt t)).vd) ((Yr (Zt t)).v)))).r.x.a), .int .i64 ((Yv (some (Pt.mk ((Yr (Zt t)).tx) ((Yr (Zt t)).vd) ((Yr (Zt t)).v)))).r.x.b)], .bool false] hS9 ⟨_,_,_,rfl,rfl,hS9.loadA 0 _ _ _ 0 [v5, .int .i64 ((Yv (some (Pt.mk ((Yr (Zt t)).tx) ((Yr (Zt t)).vd) ((Yr (Zt t)).v)))).r.d.a), .int .i64 ((Yv (some (Pt.mk ((Yr (Zt t)).tx) ((Yr (Zt t)).vd) ((Yr (Zt t)).v)))).r.d.b), .int .i64 ((Yv (some (Pt.mk ((Yr (Zt t)).tx) ((Yr (Zt t)).vd) ((Yr (Zt t)).v)))).r.x.a), .int .i64 ((Yv (some (Pt.mk ((Yr (Zt t)).tx) ((Yr (Zt t)).vd) ((Yr (Zt t)).v)))).r.x.b)] rfl rfl rfl Zs rfl,⟨_,rfl,rfl⟩⟩ ⟨_,_,rfl,(Is.cast ⟨_,rfl,(ZJ (HRow.mk ((Yv (some (Pt.mk ((Yr (Zt t)).tx) ((Yr (Zt t)).vd) ((Yr (Zt t)).v)))).v) (Rect.mk (Span.mk ((Yv (some (Pt.mk ((Yr (Zt t)).tx) ((Yr (Zt t)).vd) ((Yr (Zt t)).v)))).r.d.a) ((Yv (some (Pt.mk ((Yr (Zt t)).tx) ((Yr (Zt t)).vd) ((Yr (Zt t)).v)))).r.d.b)) (Span.mk ((Yv (some (Pt.mk ((Yr (Zt t)).tx) ((Yr (Zt t)).vd) ((Yr (Zt t)).v)))).r.x.a) ((Yv (some (Pt.mk ((Yr (Zt t)).tx) ((Yr (Zt t)).vd) ((Yr (Zt t)).v)))).r.x.b)))) hs6 hb6 hb7 hb8 hb9)⟩ (by exact (Zp8 ‹_› ‹_›).1)),(congrArg Value.bool (by exact (Zp8 ‹_› ‹_›).2))⟩
  refine WL.build _ [] [.slice none 0 0, .int .i64 0, .int .i64 0, .int .i64 0, .int .i64 0] Zs rfl Qq rfl rfl rfl rfl ?_
  refine WL.store hS7 0 _ _ _ 0 _ [.slice none 0 0, .int .i64 0, .int .i64 0, .int .i64 0, .int .i64 0] [.slice none 0 0, .int .i64 0, .int .i64 0, .int .i64 0, .int .i64 0] _ rfl rfl Zs rfl (Nat.le_of_ble_eq_true rfl) rfl rfl rfl rfl rfl rfl (fun w10 hS10=>?_)
  exact XH [.agg #[.slice none 0 0, .int .i64 0, .int .i64 0, .int .i64 0, .int .i64 0], .bool true] hS10 ⟨_,_,_,rfl,rfl,hS10.loadA 0 _ _ _ 0 [.slice none 0 0, .int .i64 0, .int .i64 0, .int .i64 0, .int .i64 0] rfl rfl rfl Zs rfl,⟨_,rfl,rfl⟩⟩ ⟨_,_,rfl,(Is.cast ⟨_,rfl,(ZJ (HRow.mk [] (Rect.mk (Span.mk 0 0) (Span.mk 0 0))) (Sl.nil ValE 32 G4) Y5 Y5 Y5 Y5)⟩ (by exact (Zp9 ‹_› ‹_›).1)),(congrArg Value.bool (by exact (Zp9 ‹_› ‹_›).2))⟩
 refine WL.build _ [] [.slice none 0 0, .int .i64 0, .int .i64 0, .int .i64 0, .int .i64 0] Zs rfl Qq rfl rfl rfl rfl ?_
 refine WL.store hS3 0 _ _ _ 0 _ [.slice none 0 0, .int .i64 0, .int .i64 0, .int .i64 0, .int .i64 0] [.slice none 0 0, .int .i64 0, .int .i64 0, .int .i64 0, .int .i64 0] _ rfl rfl Zs rfl (Nat.le_of_ble_eq_true rfl) rfl rfl rfl rfl rfl rfl (fun w11 hS11=>?_)
 exact XH [.agg #[.slice none 0 0, .int .i64 0, .int .i64 0, .int .i64 0, .int .i64 0], .bool false] hS11 ⟨_,_,_,rfl,rfl,hS11.loadA 0 _ _ _ 0 [.slice none 0 0, .int .i64 0, .int .i64 0, .int .i64 0, .int .i64 0] rfl rfl rfl Zs rfl,⟨_,rfl,rfl⟩⟩ ⟨_,_,rfl,(Is.cast ⟨_,rfl,(ZJ (HRow.mk [] (Rect.mk (Span.mk 0 0) (Span.mk 0 0))) (Sl.nil ValE 32 G2) Y5 Y5 Y5 Y5)⟩ (by exact (Zp7 ‹_›).1)),(congrArg Value.bool (by exact (Zp7 ‹_›).2))⟩
theorem Zmo {G : GH} {w : World} (hG : G.In w) (t : Table) (ct : List Value) (hct : TableE.rep G t ct) : CL Tryz.prog (nat_lit 72) #[.agg ct.toArray] [] w G fun _ _ r=>r = .bool (YA t):=by
 refine Zf ft [] Tryz.func72 rfl rfl ?_
 have hS:=St.start (X:=[]) hG
 obtain ⟨v1,v2,v3,rfl,hb1,hs1,hb2,hs2,hs3,hb3⟩:=ZF hct
 refine Z1 [Zb t.s.name,v1, .int .i64 t.s.key,v2,v3, .int .i64 t.last] _ hS rfl rfl rfl (fun p1 w1 G1 hle1 hsp1 hc1 hS1=>?_)
 refine Zd hS1 hc1 [Zb t.s.name,v1, .int .i64 t.s.key,v2,v3, .int .i64 t.last] Zw rfl rfl rfl rfl rfl <| Z6 hS1 XQ rfl rfl rfl (Zli hS1.imm t _ (Zu t hb1 (hs1.mono hle1) hb2 (hs2.mono hle1) (hs3.mono hle1) hb3)) ?_
 rintro w2 G2 _ ⟨r2,_,rfl,hs4,rfl⟩ hS2 hle2
 obtain ⟨cs1,rfl,hr1⟩:=hs4
 obtain ⟨v4,rfl,hs5,hb4,hb5,hb6,hb7⟩:=Z8 hr1
 refine WL.alloc hS2 Zs rfl rfl (fun b1 w3 hn1 hS3=>?_)
 refine WL.store hS3 0 _ _ _ 0 _ [v4, .int .i64 ((Xx t).r.d.a), .int .i64 ((Xx t).r.d.b), .int .i64 ((Xx t).r.x.a), .int .i64 ((Xx t).r.x.b)] [v4, .int .i64 ((Xx t).r.d.a), .int .i64 ((Xx t).r.d.b), .int .i64 ((Xx t).r.x.a), .int .i64 ((Xx t).r.x.b)] _ rfl rfl Zs rfl (Nat.le_of_ble_eq_true rfl) (by simp only [List.all_cons,List.all_nil,hs5.oneC,Bool.true_and] <;> rfl) rfl rfl rfl rfl rfl (fun w4 hS4=>?_)
 obtain ⟨G3,hle3,hc2,hS5⟩:=hS4.shutB hn1
 exact RB hS5 rfl (by rfl)
theorem Zt7 {G : GH} {w : World} (hG : G.In w) (t : Table) (e : Int) (ct : List Value) (hct : TableE.rep G t ct) (hv : e = 0 → Z3 t = true) : CL Tryz.prog (nat_lit 106) #[.agg ct.toArray, .int .i64 e] [] w G fun G' _ r=>∃ r0 r1,r = .tuple #[r0,r1] ∧ Is TableE G' r0 (Qw t e) ∧ r1 = .int .i64 (Zcx t e):=by
 refine YY ft [] Tryz.func106 rfl rfl ?_
 have hS:=St.start (X:=[]) hG
 obtain ⟨v1,v2,v3,rfl,hb1,hs1,hb2,hs2,hs3,hb3⟩:=ZF hct
 refine Z1 [Zb t.s.name,v1, .int .i64 t.s.key,v2,v3, .int .i64 t.last] _ hS rfl rfl rfl (fun p1 w1 G1 hle1 hsp1 hc1 hS1=>?_)
 refine WL.alloc hS1 Zw rfl rfl (fun b1 w2 hn1 hS2=>?_)
 refine Yy e 0 rfl rfl rfl (fun h1=>?_) (fun h1=>?_)
 ·refine WL.build _ [] [Zb [], .slice none 0 0, .int .i64 0, .slice none 0 0, .slice none 0 0, .int .i64 0] Zw rfl Zbm rfl rfl rfl rfl ?_
  refine WL.store hS2 0 _ _ _ 0 _ [Zb [], .slice none 0 0, .int .i64 0, .slice none 0 0, .slice none 0 0, .int .i64 0] [Zb [], .slice none 0 0, .int .i64 0, .slice none 0 0, .slice none 0 0, .int .i64 0] _ rfl rfl Zw rfl (Nat.le_of_ble_eq_true rfl) rfl rfl rfl rfl rfl rfl (fun w3 hS3=>?_)
  exact XH [.agg #[Zb [], .slice none 0 0, .int .i64 0, .slice none 0 0, .slice none 0 0, .int .i64 0], .int .i64 e] hS3 ⟨_,_,_,rfl,rfl,hS3.loadA 0 _ _ _ 0 [Zb [], .slice none 0 0, .int .i64 0, .slice none 0 0, .slice none 0 0, .int .i64 0] rfl rfl rfl Zw rfl,⟨_,rfl,rfl⟩⟩ ⟨_,_,rfl,(Is.cast ⟨_,rfl,(Zu (Table.mk (Schema.mk [] [] 0 []) [] 0) (by simp [reach]) (Sl.nil ColE 24 G1) Y5 (Sl.nil ForeignE 40 G1) (Sl.nil HRowE 56 G1) Y5)⟩ (by exact (Zsp ‹_›).1)),(congrArg (Value.int .i64) (by exact (Zsp ‹_›).2))⟩
 refine Zd hS2 hc1 [Zb t.s.name,v1, .int .i64 t.s.key,v2,v3, .int .i64 t.last] Zw rfl rfl rfl rfl rfl ?_
 refine Z6 hS2 ZtX rfl rfl rfl (Zgm hS2.imm t _ (Zu t hb1 (hs1.mono hle1) hb2 (hs2.mono hle1) (hs3.mono hle1) hb3) (hv ‹_›)) ?_
 rintro w4 G2 _ ⟨r2,_,rfl,hs4,rfl⟩ hS4 hle2
 obtain ⟨cs1,rfl,hr1⟩:=hs4
 obtain ⟨v4,rfl,hb4,hb5,hs5⟩:=ZbZ hr1
 refine WL.alloc hS4 Xh rfl rfl (fun b2 w5 hn2 hS5=>?_)
 refine WL.store hS5 0 _ _ _ 0 _ [.int .i64 ((Yr (Zt t)).tx), .int .i64 ((Yr (Zt t)).vd),v4] [.int .i64 ((Yr (Zt t)).tx), .int .i64 ((Yr (Zt t)).vd),v4] _ rfl rfl Xh rfl (Nat.le_of_ble_eq_true rfl) (by simp only [List.all_cons,List.all_nil,hs5.oneC,Bool.true_and] <;> rfl) rfl rfl rfl rfl rfl (fun w6 hS6=>?_)
 obtain ⟨G3,hle3,hc2,hS7⟩:=hS6.shutB hn2
 refine XG (d:=16) rfl (fun (h2 : ((Zt t).isSome) = true)=>?_) (fun (h2 : ((Zt t).isSome) = false)=>?_)
 ·refine WL.build _ [] [Zb [], .slice none 0 0, .int .i64 0, .slice none 0 0, .slice none 0 0, .int .i64 0] Zw rfl Zbm rfl rfl rfl rfl ?_
  refine WL.store hS7 0 _ _ _ 0 _ [Zb [], .slice none 0 0, .int .i64 0, .slice none 0 0, .slice none 0 0, .int .i64 0] [Zb [], .slice none 0 0, .int .i64 0, .slice none 0 0, .slice none 0 0, .int .i64 0] _ rfl rfl Zw rfl (Nat.le_of_ble_eq_true rfl) rfl rfl rfl rfl rfl rfl (fun w7 hS8=>?_)
  exact XH [.agg #[Zb [], .slice none 0 0, .int .i64 0, .slice none 0 0, .slice none 0 0, .int .i64 0], .int .i64 14] hS8 ⟨_,_,_,rfl,rfl,hS8.loadA 0 _ _ _ 0 [Zb [], .slice none 0 0, .int .i64 0, .slice none 0 0, .slice none 0 0, .int .i64 0] rfl rfl rfl Zw rfl,⟨_,rfl,rfl⟩⟩ ⟨_,_,rfl,(Is.cast ⟨_,rfl,(Zu (Table.mk (Schema.mk [] [] 0 []) [] 0) (by simp [reach]) (Sl.nil ColE 24 G3) Y5 (Sl.nil ForeignE 40 G3) (Sl.nil HRowE 56 G3) Y5)⟩ (by exact (Zsq ‹_› ‹_›).1)),(congrArg (Value.int .i64) (by exact (Zsq ‹_› ‹_›).2))⟩
 refine Zd hS7 (hc1.mono (hle2.trans hle3)) [Zb t.s.name,v1, .int .i64 t.s.key,v2,v3, .int .i64 t.last] Zw rfl rfl rfl rfl rfl ?_
 refine WL.store hS7 0 _ _ _ 0 _ [Zb t.s.name,v1, .int .i64 t.s.key,v2,v3, .int .i64 t.last] [Zb t.s.name,v1, .int .i64 t.s.key,v2,v3, .int .i64 t.last] _ rfl rfl Zw rfl (Nat.le_of_ble_eq_true rfl) (by simp only [List.all_cons,List.all_nil,(hs1.mono ((hle1.trans hle2).trans hle3)).oneC,(hs2.mono ((hle1.trans hle2).trans hle3)).oneC,(hs3.mono ((hle1.trans hle2).trans hle3)).oneC,Bool.true_and] <;> rfl) rfl rfl rfl rfl rfl (fun w9 hS9=>?_)
 exact XH [.agg #[Zb t.s.name,v1, .int .i64 t.s.key,v2,v3, .int .i64 t.last], .int .i64 0] hS9 ⟨_,_,_,rfl,rfl,hS9.loadA 0 _ _ _ 0 [Zb t.s.name,v1, .int .i64 t.s.key,v2,v3, .int .i64 t.last] rfl rfl rfl Zw rfl,⟨_,rfl,rfl⟩⟩ ⟨_,_,rfl,(Is.cast ⟨_,rfl,(Zu t hb1 (hs1.mono ((hle1.trans hle2).trans hle3)) hb2 (hs2.mono ((hle1.trans hle2).trans hle3)) (hs3.mono ((hle1.trans hle2).trans hle3)) hb3)⟩ (by exact (Zsr ‹_› ‹_›).1)),(congrArg (Value.int .i64) (by exact (Zsr ‹_› ‹_›).2))⟩
theorem ZdB {G : GH} {w : World} (hG : G.In w) (t : Table) (tx : Int) (v : List Val) (d : Span) (ct : List Value) (hct : TableE.rep G t ct) (vv : Value) (hvv : Sl ValE 32 G vv v) (cd : List Value) (hcd : SpanE.rep G d cd) (htx64 : Zv tx) : CL Tryz.prog (nat_lit 49) #[.agg ct.toArray, .int .i64 tx,vv, .agg cd.toArray] [] w G fun G' _ r=>∃ r0 r1,r = .tuple #[r0,r1] ∧ Is TableE G' r0 (Z0 t tx v d) ∧ r1 = .int .i64 (Zae t tx v d):=by
 refine YY ft [] Tryz.func49 rfl rfl ?_
 have hS:=St.start (X:=[]) hG
 obtain ⟨v1,v2,v3,rfl,hb1,hs1,hb2,hs2,hs3,hb3⟩:=ZF hct
 obtain ⟨rfl,hb4,hb5⟩:=Z2 hcd
 refine Z1 [Zb t.s.name,v1, .int .i64 t.s.key,v2,v3, .int .i64 t.last] _ hS rfl rfl rfl (fun p1 w1 G1 hle1 hsp1 hc1 hS1=>?_)
 refine Z1 [.int .i64 d.a, .int .i64 d.b] _ hS1 rfl rfl rfl (fun p2 w2 G2 hle2 hsp2 hc2 hS2=>?_)
 refine WL.alloc hS2 Zw rfl rfl (fun b1 w3 hn1 hS3=>?_)
 refine Zd hS3 (hc1.mono hle2) [Zb t.s.name,v1, .int .i64 t.s.key,v2,v3, .int .i64 t.last] Zw rfl rfl rfl rfl rfl ?_
 refine Zn hS3 Zub rfl rfl rfl (Zmo hS3.imm t _ (Zu t hb1 (hs1.mono (hle1.trans hle2)) hb2 (hs2.mono (hle1.trans hle2)) (hs3.mono (hle1.trans hle2)) hb3)) (fun w4 G3 hS4 hle3=>?_)
 refine WL.split (fun (h1 : (YA t) = true)=>?_) (fun (h1 : (YA t) = false)=>?_)
 ·refine Zd hS4 (hc1.mono (hle2.trans hle3)) [Zb t.s.name,v1, .int .i64 t.s.key,v2,v3, .int .i64 t.last] Zw rfl rfl rfl rfl rfl <| Zd hS4 (hc2.mono hle3) [.int .i64 d.a, .int .i64 d.b] Zm rfl rfl rfl rfl rfl <| Z6 hS4 Zes rfl rfl rfl (Zf8 hS4.imm t tx v d _ (Zu t hb1 (hs1.mono ((hle1.trans hle2).trans hle3)) hb2 (hs2.mono ((hle1.trans hle2).trans hle3)) (hs3.mono ((hle1.trans hle2).trans hle3)) hb3) _ (hvv.mono ((hle1.trans hle2).trans hle3)) _ (Zq d hb4 hb5) htx64) ?_
  rintro w5 G4 _ ⟨r2,_,rfl,hs4,rfl⟩ hS5 hle4
  obtain ⟨cs1,rfl,hr1⟩:=hs4
  obtain ⟨v4,v5,v6,rfl,hb6,hs5,hb7,hs6,hs7,hb8⟩:=ZF hr1
  refine Z6 hS5 Zvd rfl rfl rfl (Zt7 hS5.imm (ZP t tx v d) (Yi t tx v d) _ (Zu (ZP t tx v d) hb6 hs5 hb7 hs6 hs7 hb8) Zp6) ?_
  rintro w6 G5 _ ⟨r5,_,rfl,hs8,rfl⟩ hS6 hle5
  obtain ⟨cs2,rfl,hr2⟩:=hs8
  obtain ⟨v7,v9,v10,rfl,hb9,hs9,hb10,hs10,hs11,YV⟩:=ZF hr2
  refine WL.store hS6 0 _ _ _ 0 _ [Zb ((Qw (ZP t tx v d) (Yi t tx v d)).s.name),v7, .int .i64 ((Qw (ZP t tx v d) (Yi t tx v d)).s.key),v9,v10, .int .i64 ((Qw (ZP t tx v d) (Yi t tx v d)).last)] [Zb ((Qw (ZP t tx v d) (Yi t tx v d)).s.name),v7, .int .i64 ((Qw (ZP t tx v d) (Yi t tx v d)).s.key),v9,v10, .int .i64 ((Qw (ZP t tx v d) (Yi t tx v d)).last)] _ rfl rfl Zw rfl (Nat.le_of_ble_eq_true rfl) (by simp only [List.all_cons,List.all_nil,hs9.oneC,hs10.oneC,hs11.oneC,Bool.true_and] <;> rfl) rfl rfl rfl rfl rfl (fun w7 hS7=>?_)
  exact XH [.agg #[Zb ((Qw (ZP t tx v d) (Yi t tx v d)).s.name),v7, .int .i64 ((Qw (ZP t tx v d) (Yi t tx v d)).s.key),v9,v10, .int .i64 ((Qw (ZP t tx v d) (Yi t tx v d)).last)], .int .i64 (Zcx (ZP t tx v d) (Yi t tx v d))] hS7 ⟨_,_,_,rfl,rfl,hS7.loadA 0 _ _ _ 0 [Zb ((Qw (ZP t tx v d) (Yi t tx v d)).s.name),v7, .int .i64 ((Qw (ZP t tx v d) (Yi t tx v d)).s.key),v9,v10, .int .i64 ((Qw (ZP t tx v d) (Yi t tx v d)).last)] rfl rfl rfl Zw rfl,⟨_,rfl,rfl⟩⟩ ⟨_,_,rfl,(Is.cast ⟨_,rfl,(Zu (Qw (ZP t tx v d) (Yi t tx v d)) hb9 hs9 hb10 hs10 hs11 YV)⟩ (by exact (ZhK ‹_›).1)),(congrArg (Value.int .i64) (by exact (ZhK ‹_›).2))⟩
 refine WL.build _ [] [Zb [], .slice none 0 0, .int .i64 0, .slice none 0 0, .slice none 0 0, .int .i64 0] Zw rfl Zbm rfl rfl rfl rfl ?_
 refine WL.store hS4 0 _ _ _ 0 _ [Zb [], .slice none 0 0, .int .i64 0, .slice none 0 0, .slice none 0 0, .int .i64 0] [Zb [], .slice none 0 0, .int .i64 0, .slice none 0 0, .slice none 0 0, .int .i64 0] _ rfl rfl Zw rfl (Nat.le_of_ble_eq_true rfl) rfl rfl rfl rfl rfl rfl (fun w9 hS8=>?_)
 exact XH [.agg #[Zb [], .slice none 0 0, .int .i64 0, .slice none 0 0, .slice none 0 0, .int .i64 0], .int .i64 1] hS8 ⟨_,_,_,rfl,rfl,hS8.loadA 0 _ _ _ 0 [Zb [], .slice none 0 0, .int .i64 0, .slice none 0 0, .slice none 0 0, .int .i64 0] rfl rfl rfl Zw rfl,⟨_,rfl,rfl⟩⟩ ⟨_,_,rfl,(Is.cast ⟨_,rfl,(Zu (Table.mk (Schema.mk [] [] 0 []) [] 0) (by simp [reach]) (Sl.nil ColE 24 G3) Y5 (Sl.nil ForeignE 40 G3) (Sl.nil HRowE 56 G3) Y5)⟩ (by exact (Zp5 ‹_›).1)),(congrArg (Value.int .i64) (by exact (Zp5 ‹_›).2))⟩
end Go.Civ
namespace Go.Civ
open Go.RowKit
set_option linter.unusedVariables false
def Zav (K : Nat) (l : List HRow) (tx : Int) (v : List Val) (d : Span) (k : Nat) : List HRow:=⟨v,⟨d,⟨tx,253402300800⟩⟩⟩ :: (l.take k).flatMap (QB K v tx d)
section
variable {K k : Nat} {l : List HRow} {tx : Int} {v : List Val} {d : Span} {r : HRow}
theorem ZhM (h : l[k]? = some r) : Zav K l tx v d (k + 1) = Zav K l tx v d k ++ QB K v tx d r:=by
 unfold Zav
 rw [List.take_add_one,h]; simp
theorem Zca (h : l[k]? = some r) (hc : r.r.x.b ≠ 253402300800 ∨ decide (r.v.take K = v.take K) = false ∨ decide (Yn 3 [r.r.d] [d] = [r.r.d]) = true) : Zav K l tx v d (k + 1) = Zav K l tx v d k ++ [r]:=by
 rw [ZhM h]
 unfold QB
 rw [if_neg]
 rintro ⟨z1,z2,z3⟩
 rcases hc with hc | hc | hc
 ·exact hc z1
 ·unfold Zad at z2; rw [z2] at hc; cases hc
 ·exact z3 (of_decide_eq_true hc)
theorem Zje (h : l[k]? = some r) (h1 : r.r.x.b = 253402300800) (h2 : decide (r.v.take K = v.take K) = true) (h3 : decide (Yn 3 [r.r.d] [d] = [r.r.d]) = false) :
  Zav K l tx v d (k + 1) = (Zav K l tx v d k ++ YD r.v (Yn 3 [r.r.d] [d]) tx 253402300800) ++ [⟨r.v,⟨r.r.d,⟨r.r.x.a,tx⟩⟩⟩]:=by
 rw [ZhM h,List.append_assoc]
 unfold QB
 rw [if_pos ⟨h1,h2,of_decide_eq_false h3⟩]
theorem ZpD (h : l.length ≤ k) : Zav K l tx v d k = XE K l tx v d:=by unfold Zav XE; rw [List.take_of_length_le h]
theorem ZpE (hg : ZA l) (hd : ZC d = true) : (Zav K l tx v d k).length ≤ 3 * k + 1:=by
 unfold Zav
 rw [List.length_cons]
 have:=Zio (k:=K) (v:=v) (tx:=tx) hg hd k
 omega
theorem Zr7 {r : HRow} (hr : Y0 r = true) (hd : ZC d = true) : (Yn 3 [r.r.d] [d]).length ≤ 4:=by
 have h:=ZiN (kind:=3) (a:=[r.r.d]) (b:=[d])
 simpa using h
theorem Zr8 {α : Type} {l : List α} {x : α} (h : l[k]? = some x) : l.set k x = l:=by
 obtain ⟨h1,h2⟩:=List.getElem?_eq_some_iff.1 h
 rw [← h2]; exact List.set_getElem_self h1
theorem Zlj {t : Table} (H : InsOk t tx v d) : t.s.key ≤ v.length:=by
 have h1:=Qu H.row
 have h2:=Zd8 (YZ H.valid).1
 omega
theorem ZuO {t : Table} (H : InsOk t tx v d) : ∀ r ∈ XE K t.rows tx v d,r.v.length ≤ 1000:=fun r hr=>by
 have h:=Zd9 H r hr
 exact Nat.le_trans (Qu (Xb h).1).1 (by decide)
end
end Go.Civ
namespace Go.Civ
open Go.RowKit
set_option linter.unusedVariables false
def Zlk (x : HRow) : Bool:=decide (20 < (x.v.length : Int))
def ZcZ (t : Table) : Bool:=decide ((t.rows.length : Int) ≤ 24) && decide ((t.s.cols.length : Int) ≤ 10) && decide ((t.s.fks.length : Int) ≤ 10) && !t.rows.any Zlk
def Zcp (t : Table) : Bool:=decide (t.s.name = []) && decide (t.rows.length = 0) && decide (t.last = 0)
theorem Zt8 : Cmp.b .eql (((Z0 (Z9 Qx) 5 (Zg [97]) ⟨0,10⟩).rows.length : Nat) : Int) 1 = true:=by rw [ZfB.1]; rfl
end Go.Civ
set_option linter.unusedVariables false
set_option linter.unusedSimpArgs false
set_option maxRecDepth 100000
set_option maxHeartbeats 4000000
namespace Go.Civ
open Go.Proofs
theorem ZrB {G : GH} {w : World} (hG : G.In w) (x : HRow) (cx : List Value) (hcx : HRowE.rep G x cx) : CL Tryz.prog (nat_lit 59) #[.agg cx.toArray] [] w G fun _ _ r=>r = .bool (Zlk x):=by
 refine Zf ft [] Tryz.func59 rfl rfl ?_
 have hS:=St.start (X:=[]) hG
 obtain ⟨v1,rfl,hs1,hb1,hb2,hb3,hb4⟩:=Z8 hcx
 refine Z1 [v1, .int .i64 x.r.d.a, .int .i64 x.r.d.b, .int .i64 x.r.x.a, .int .i64 x.r.x.b] _ hS rfl rfl rfl (fun p1 w1 G1 hle1 hsp1 hc1 hS1=>?_)
 refine Za hS1 (XZ.drop 0 hc1) ZK rfl rfl rfl ?_
 have bd1:=hs1.bound
 refine Zj (hs1.mono hle1) Yj rfl rfl <| ZO .gtr rfl .i64 (x.v.length : Int) 20 rfl rfl rfl ?_
 exact RB hS1 rfl (by rfl)
theorem Zt9 {G : GH} {w : World} (hG : G.In w) (t : Table) (ct : List Value) (hct : TableE.rep G t ct) : CL Tryz.prog (nat_lit 12) #[.agg ct.toArray] [] w G fun _ _ r=>r = .bool (ZcZ t):=by
 refine Zf ft [] Tryz.func12 rfl rfl ?_
 have hS:=St.start (X:=[]) hG
 obtain ⟨v1,v2,v3,rfl,hb1,hs1,hb2,hs2,hs3,hb3⟩:=ZF hct
 refine Z1 [Zb t.s.name,v1, .int .i64 t.s.key,v2,v3, .int .i64 t.last] _ hS rfl rfl rfl (fun p1 w1 G1 hle1 hsp1 hc1 hS1=>?_)
 refine Za hS1 (XZ.drop 4 hc1) YX rfl rfl rfl ?_
 have bd1:=hs3.bound
 refine Zj (hs3.mono hle1) Yl rfl rfl ?_
 refine Qa (t.rows.length : Int) 24 rfl rfl rfl (fun h1=>?_) (fun h1=>?_)
 ·refine Za hS1 (XZ.drop 1 (XZ.drop 0 hc1)) Zer rfl rfl rfl ?_
  have bd2:=hs1.bound
  refine Zj (hs1.mono hle1) QG rfl rfl ?_
  refine Qa (t.s.cols.length : Int) 10 rfl rfl rfl (fun h2=>?_) (fun h2=>?_)
  ·refine Za hS1 (XZ.drop 3 (XZ.drop 0 hc1)) Zqj rfl rfl rfl ?_
   have bd3:=hs2.bound
   refine Zj (hs2.mono hle1) ZmI rfl rfl ?_
   refine Qa (t.s.fks.length : Int) 10 rfl rfl rfl (fun h3=>?_) (fun h3=>?_)
   ·refine Za hS1 (XZ.drop 4 hc1) YX rfl rfl rfl ?_
    refine Zn hS1 ZtW rfl rfl rfl (Zgl hS1.imm t.rows (fun x8=>Zlk x8) _ (hs3.mono hle1) 59 #[] ⟨Zws,fun G8 w8 v8 x8 hle8 hG8 hon8 hA8=>by obtain ⟨cs_x8,rfl,hr_x8⟩:=hA8; exact ZrB hG8 x8 cs_x8 hr_x8⟩) (fun w2 G2 hS2 hle2=>?_)
    exact RB hS2 rfl (by unfold ZcZ; simp_all [Cmp.b] <;> (first | omega | (intros; omega) | (rw [Bool.eq_iff_iff]; simp <;> omega) | (rw [Bool.eq_iff_iff]; simp_all <;> omega)))
   exact RB hS1 rfl (by unfold ZcZ; simp_all [Cmp.b] <;> (omega))
  exact RB hS1 rfl (by unfold ZcZ; simp_all [Cmp.b] <;> (omega))
 exact RB hS1 rfl (by unfold ZcZ; simp_all [Cmp.b] <;> (omega))
theorem Ziq {G : GH} {w : World} (hG : G.In w) (t : Table) (ct : List Value) (hct : TableE.rep G t ct) : CL Tryz.prog (nat_lit 19) #[.agg ct.toArray] [] w G fun _ _ r=>r = .bool (Zcp t):=by
 refine Zf ft [] Tryz.func19 rfl rfl ?_
 have hS:=St.start (X:=[]) hG
 obtain ⟨v1,v2,v3,rfl,hb1,hs1,hb2,hs2,hs3,hb3⟩:=ZF hct
 refine Z1 [Zb t.s.name,v1, .int .i64 t.s.key,v2,v3, .int .i64 t.last] _ hS rfl rfl rfl (fun p1 w1 G1 hle1 hsp1 hc1 hS1=>?_)
 refine Za hS1 (XZ.drop 0 (XZ.drop 0 hc1)) Yk rfl rfl rfl <| Z7 .eql rfl t.s.name [] rfl rfl rfl ?_
 refine WL.split (fun h0=>?_) (fun h0=>?_)
 ·have h1 : t.s.name = []:=by simpa [SCmp.b] using h0
  clear h0
  refine Za hS1 (XZ.drop 4 hc1) YX rfl rfl rfl ?_
  have bd1:=hs3.bound
  refine Zj (hs3.mono hle1) Yl rfl rfl ?_
  refine Zx (t.rows.length : Int) 0 rfl rfl rfl (fun h2=>?_) (fun h2=>?_)
  ·refine Za hS1 (XZ.drop 5 hc1) Zl rfl rfl rfl <| ZO .eql rfl .i64 t.last 0 rfl rfl rfl ?_
   exact RB hS1 rfl (by unfold Zcp; simp_all [Cmp.b,SCmp.b] <;> ((rw [Bool.eq_iff_iff]; simp <;> omega)))
  exact RB hS1 rfl (by unfold Zcp; simp_all [Cmp.b,SCmp.b] <;> (first | omega | (intros; omega) | (rw [Bool.eq_iff_iff]; simp <;> omega) | (rw [Bool.eq_iff_iff]; simp_all <;> omega)))
 have h1 : t.s.name ≠ []:=by simpa [SCmp.b] using h0
 clear h0
 exact RB hS1 rfl (by unfold Zcp; simp_all [Cmp.b,SCmp.b] <;> (first | omega | (intros; omega) | (rw [Bool.eq_iff_iff]; simp <;> omega) | (rw [Bool.eq_iff_iff]; simp_all <;> omega)))
end Go.Civ
namespace Go.Civ
open Go.RowKit
set_option linter.unusedVariables false
section
variable {s t o : Schema} {f : Foreign} {cs : List (List UInt8)} {c nm : List UInt8} {v u : List Val} {k : Nat} {x : Col}
end
section
variable {t o : Table} {f : Foreign} {x y fr : Int} {k i j : Nat} {v : List Val}
theorem ZnM {s : Schema} (h : YE s = true) : s.key ≤ 8:=by
 have h1:=ZgG h
 unfold YE XX at h
 simp only [Bool.and_eq_true,decide_eq_true_eq] at h
 omega
end
section
variable {M : List Val → List Val → Bool} {os fs : List Fact} {k : Nat} {x : Fact}
end
end Go.Civ
namespace Go.Civ
end Go.Civ
namespace Go.Civ
open Go.RowKit
set_option linter.unusedVariables false
theorem tf {b : Bool} {P : Prop} (h : b = true) (k : b = false) : P:=Bool.noConfusion (h.symm.trans k)
section
variable {t o : Table} {f : Foreign} {tx : Int} {v : List Val} {d : Span}
theorem ZpO (h : Z3 t = true) (h2 : (YN t).isSome = true) : YA t = false:=by rw [(Zml h).1,h2]; rfl
theorem ZcA (h : Z3 t = true) (h2 : (YN t).isSome = false) : YA t = true:=by rw [(Zml h).1,h2]; rfl
theorem ZpP (h : YA t = false) : Xz t tx v d = 1 ∧ Zcp (Zr t tx v d) = true:=by have:=ZnF (tx:=tx) (v:=v) (d:=d) h; rw [← this.1,← this.2]; exact ⟨rfl,rfl⟩
theorem Yo (h : Z3 t = false) : Xz t tx v d = 1 ∧ Zcp (Zr t tx v d) = true:=ZpP (Zr2 h).1
theorem Yp (h : Z3 t = true) (h2 : (YN t).isSome = true) : Xz t tx v d = 1 ∧ Zcp (Zr t tx v d) = true:=ZpP (ZpO h h2)
theorem Yq (h : Z3 t = true) (h2 : (YN t).isSome = false) (h3 : Yi t tx v d ≠ 0) : Xz t tx v d = Yi t tx v d ∧ Zcp (Zr t tx v d) = true:=by
 have:=Zj6 (tx:=tx) (v:=v) (d:=d) (ZcA h h2) h3; rw [← this.1,← this.2]; exact ⟨rfl,rfl⟩
theorem Zlp (hl : t.rows.length ≤ 16) (h : Z3 t = true) (h2 : (YN t).isSome = false) (h3 : Yi t tx v d = 0) : MrgP t tx v d:=by
 have H:=QT h3
 have h4:=ZhJ H t.s.key.toNat
 have h5:=ZgE (k:=t.s.key.toNat) (v:=v) (tx:=tx) (ZS h).1 H.span
 exact ZfA (ZcA h h2) h3 (by unfold Xo; omega) (by unfold Xo; omega)
theorem ZrF (hl : t.rows.length ≤ 16) (h : Z3 t = true) (h2 : (YN t).isSome = false) (h3 : Yi t tx v d = 0) :
  Xz t tx v d = 0 ∧ YA (Zr t tx v d) = true ∧ (Zr t tx v d).last = tx ∧ (Zr t tx v d).rows = ZeQ t tx v d:=by
 have M:=Zlp hl h h2 h3
 exact ⟨M.e,Zlg (ZcA h h2) M,by rw [M.is],Zt5 M⟩
theorem ZrG (hl : t.rows.length ≤ 16) (h : Z3 t = true) (h2 : (YN t).isSome = false) (h3 : Yi t tx v d = 0) :
  Xz (Zr t tx v d) (tx + 1) v d = 2 ∨ (Xz (Zr t tx v d) (tx + 1) v d = 0 ∧ (Zr (Zr t tx v d) (tx + 1) v d).rows = (Zr t tx v d).rows):=by
 have M:=Zlp hl h h2 h3
 have h4:=ZhJ M.ins t.s.key.toNat
 refine Zp4 (ZcA h h2) M ?_
 rw [M.is]
 show (Z5 (XE t.s.key.toNat t.rows tx v d)).length ≤ 300
 omega
theorem ZnN (hl : t.rows.length ≤ 16) (h3 : Yi t tx v d = 0) : (Zaf (Yz (X7 (t.s.key.toNat + 1) (Qf t.s.cols v t.s.key.toNat) (t.s.cols.map Col.name)) (rnx false [] []) tx d t.rows)).length ≤ 1000:=by
 have H:=QT h3
 have hc:=Zin H
 have hrn : rnx false [] [] = fun _=>none:=by funext x; rfl
 rw [hrn]
 generalize X7 (t.s.key.toNat + 1) (Qf t.s.cols v t.s.key.toNat) (t.s.cols.map Col.name) = hl0
 have hg:=ZS H.valid
 have hgc:=(ZcT (hl:=hl0) hc).1
 rw [← ZaJ hgc]
 have hb:=Xp H.inst
 have h4:=Zja (tx:=tx) hgc hg.1 hg.2.2.2 (fun u x hx=>Zfy hgc hg.1 fun a=>by
  rw [Zij]
  constructor
  ·rintro ⟨r,hr,q⟩
   obtain ⟨q1,q2⟩:=(ZeJ ((YZ H.valid).2.2.2.2.1 r hr) H.late hb.2 H.span hx).1 q
   exact ⟨r,hr,q1,q2⟩
  ·rintro ⟨r,hr,q1,q2⟩
   exact ⟨r,hr,(ZeJ ((YZ H.valid).2.2.2.2.1 r hr) H.late hb.2 H.span hx).2 ⟨q1,q2⟩⟩) (fun r hr=>(Xb (Zii (Zjd (hl:=hl0) hc (fun _ _ _ h=>by cases h)) r hr)).2.2.1)
 have h5:=ZcV (hl:=hl0) (nx:=fun _=>none) (tx:=tx) hg.1 H.span t.rows.length
 rw [List.take_length] at h5
 omega
theorem ZuR (h3 : Yi t tx v d = 0) : Zv (tx + 1):=by
 have hb:=Xp (QT h3).inst
 constructor <;> omega
end
end Go.Civ
set_option linter.unusedVariables false
set_option linter.unusedSimpArgs false
set_option maxRecDepth 100000
set_option maxHeartbeats 4000000
namespace Go.Civ
open Go.Proofs
theorem ZrH {G : GH} {w : World} (hG : G.In w) (t : Table) (tx : Int) (v : List Val) (d : Span) (ct : List Value) (hct : TableE.rep G t ct) (vv : Value) (hvv : Sl ValE 32 G vv v) (cd : List Value) (hcd : SpanE.rep G d cd) (htx64 : Zv tx) (hin : Yi t tx v d = 0) (hsm : (Zaf (Yz (X7 (t.s.key.toNat + 1) (Qf t.s.cols v t.s.key.toNat) (t.s.cols.map Col.name)) (rnx false [] []) tx d t.rows)).length ≤ 1000) : CL Tryz.prog (nat_lit 22) #[.agg ct.toArray, .int .i64 tx,vv, .agg cd.toArray] [] w G fun G' _ r=>Sl HRowE 56 G' r (ZeQ t tx v d):=by
 refine Zf ft [] Tryz.func22 rfl rfl ?_
 have hS:=St.start (X:=[]) hG
 obtain ⟨v1,v2,v3,rfl,hb1,hs1,hb2,hs2,hs3,hb3⟩:=ZF hct
 obtain ⟨rfl,hb4,hb5⟩:=Z2 hcd
 refine Z1 [Zb t.s.name,v1, .int .i64 t.s.key,v2,v3, .int .i64 t.last] _ hS rfl rfl rfl (fun p1 w1 G1 hle1 hsp1 hc1 hS1=>?_)
 refine Z1 [.int .i64 d.a, .int .i64 d.b] _ hS1 rfl rfl rfl (fun p2 w2 G2 hle2 hsp2 hc2 hS2=>?_)
 have hIns:=QT hin
 obtain ⟨hgd,hnd,h8d,hed⟩:=ZS hIns.valid
 have hkv:=Zlj hIns
 have hkp:=ZgG (YZ hIns.valid).1
 have hk8:=ZnM (YZ hIns.valid).1
 refine Za hS2 (XZ.drop 4 (hc1.mono hle2)) YX rfl rfl rfl <| WL.build _ [(0,[.int .i64 3])] [.int .i64 3,Zb [],Zb [], .int .i64 0, .int .i64 0,Zb [], .slice none 0 0] X6 rfl Zqm rfl rfl rfl rfl ?_
 refine WL.alloc hS2 X6 rfl rfl (fun b1 w3 hn1 hS3=>?_)
 refine WL.store hS3 0 _ _ _ 0 _ [.int .i64 3,Zb [],Zb [], .int .i64 0, .int .i64 0,Zb [], .slice none 0 0] [.int .i64 3,Zb [],Zb [], .int .i64 0, .int .i64 0,Zb [], .slice none 0 0] _ rfl rfl X6 rfl (Nat.le_of_ble_eq_true rfl) rfl rfl rfl rfl rfl rfl (fun w4 hS4=>?_)
 refine LP.go ft [] (fun m ρ1 w1=>∃ (k1 : Nat),∃ (cg : Cond),∃ (vL : Value),∃ (G3 : GH),m = t.s.key.toNat - k1 ∧ G2.le G3 ∧ St w [] G G3 [some (b1,87,[.int .i64 cg.kind,Zb cg.col,Zb cg.oth, .int .i64 cg.v.k, .int .i64 cg.v.n,Zb cg.v.s,vL])] w1 ∧ FR ρ1 [(1, .int .i64 tx),(2,vv),(4, .pointer (some p1)),(7, .pointer (some p2)),(9,v3),(10, .pointer (some ⟨b1,0,none⟩)),(11, .int .i64 (k1 : Int))] ∧ k1 ≤ t.s.key.toNat ∧ cg = Qf t.s.cols v k1 ∧ (YT (k1 + 1)).rep G3 cg [.int .i64 cg.kind,Zb cg.col,Zb cg.oth, .int .i64 cg.v.k, .int .i64 cg.v.n,Zb cg.v.s,vL]) _ ⟨0,alwC, .slice none 0 0,G2,rfl,(G2.le_refl),hS4,⟨rfl,rfl,rfl,rfl,rfl,rfl,rfl,trivial⟩,(by omega),(rfl),((Zen (d:=0)).2 ⟨_,rfl,by constructor <;> decide,by simp [reach,alwC],by simp [reach,alwC],by constructor <;> decide,by constructor <;> decide,by simp [reach,alwC],Sl.nil (YT 0) 96 G2⟩)⟩ ?_
 rintro m ρ1 w5 ⟨k1,cg,vL,G3,rfl,hle3,hS5,hF9,f1,f2,f3⟩
 refine hF9.set ?_
 clear hF9
 obtain ⟨_,hcgE,hcg1,hcg2,hcg3,hcg4,hcg5,hcg6,hvL⟩:=Xs (by assumption : (YT (k1 + 1)).rep _ cg _)
 have hcg:=And.intro hcg1 (And.intro hcg2 (And.intro hcg3 (And.intro hcg4 (And.intro hcg5 hcg6))))
 refine Za hS5 (XZ.drop 2 (XZ.drop 0 (hc1.mono (hle2.trans hle3)))) Zl rfl rfl rfl ?_
 refine Zo (k1 : Int) t.s.key rfl rfl rfl (fun h1=>?_) (fun h1=>?_)
 ·obtain ⟨p3,x1,hx1,he1,ep1⟩:=Sl.at (hs1.mono ((hle1.trans hle2).trans hle3)) k1 (by omega)
  obtain ⟨cs1,hc3,hr1⟩:=he1
  obtain ⟨rfl,hb6,hb7⟩:=XA hr1
  obtain ⟨p4,x2,hx2,he2,ep2⟩:=Sl.at (hvv.mono ((hle1.trans hle2).trans hle3)) k1 (by omega)
  obtain ⟨cs2,hc4,hr2⟩:=he2
  obtain ⟨rfl,hb8,hb9,hb10⟩:=Ya hr2
  refine dr [(13,false),(14,false),(15,false)] [(22, .agg #[.int .i64 cg.kind,Zb cg.col,Zb cg.oth, .int .i64 cg.v.k, .int .i64 cg.v.n,Zb cg.v.s,vL]),(25,v1),(27, .pointer (some p3)),(29,Zb x1.name),(32, .pointer (some p4)),(33, .agg #[.int .i64 x2.k, .int .i64 x2.n,Zb x2.s]),(34, .agg #[.int .i64 1,Zb x1.name,Zb [], .int .i64 x2.k, .int .i64 x2.n,Zb x2.s, .slice none 0 0])] hS5 ⟨fun _ hSw=>ZZ hSw 0 _ _ _ 0 [.int .i64 cg.kind,Zb cg.col,Zb cg.oth, .int .i64 cg.v.k, .int .i64 cg.v.n,Zb cg.v.s,vL] rfl rfl rfl X6 rfl rfl rfl <| nu rfl rfl,fun _ hSw=>Za hSw (XZ.drop 1 (XZ.drop 0 (hc1.mono (hle2.trans hle3)))) Zer rfl rfl rfl <| nu rfl rfl,fun _=>Zh k1 ep1 QG X0 rfl rfl rfl rfl <| nu rfl rfl,fun _ hSw=>Za hSw (XZ.drop 0 hc3) Yk rfl rfl rfl <| nu rfl rfl,fun _=>Zh k1 ep2 Yj ZG rfl rfl rfl rfl <| nu rfl rfl,fun _ hSw=>Zd hSw hc4 [.int .i64 x2.k, .int .i64 x2.n,Zb x2.s] ZG rfl rfl rfl rfl rfl <| nu rfl rfl,fun _=>WL.build _ [(0,[.int .i64 1]),(1,[Zb x1.name]),(3,[.int .i64 x2.k, .int .i64 x2.n,Zb x2.s])] [.int .i64 1,Zb x1.name,Zb [], .int .i64 x2.k, .int .i64 x2.n,Zb x2.s, .slice none 0 0] X6 rfl Zqm rfl rfl rfl rfl <| nu rfl rfl,trivial⟩ (fun w6 hS6=>?_)
  refine WL.buildSlice _ [(0,[.int .i64 cg.kind,Zb cg.col,Zb cg.oth, .int .i64 cg.v.k, .int .i64 cg.v.n,Zb cg.v.s,vL]),(1,[.int .i64 1,Zb x1.name,Zb [], .int .i64 x2.k, .int .i64 x2.n,Zb x2.s, .slice none 0 0])] [.int .i64 cg.kind,Zb cg.col,Zb cg.oth, .int .i64 cg.v.k, .int .i64 cg.v.n,Zb cg.v.s,vL, .int .i64 1,Zb x1.name,Zb [], .int .i64 x2.k, .int .i64 x2.n,Zb x2.s, .slice none 0 0] hS6 Zwm rfl rfl rfl rfl (fun z hz=>by match z,hz with | [z0,z1,z2,z3,z4,z5,z6,z7,z8,z9,z10,z11,z12,z13],_=>rfl) (fun b2 w7 hn2 hS7=>?_)
  obtain ⟨G4,hle4,hs4,hS8⟩:=St.sealSlAt (E:=YT (k1 + 1)) (by_:=96) (l:=([cg,(eqC x1 x2)] : List Cond)) hS7 0 rfl hn2 ⟨[.int .i64 cg.kind,Zb cg.col,Zb cg.oth, .int .i64 cg.v.k, .int .i64 cg.v.n,Zb cg.v.s,vL],_,rfl,f3,⟨[.int .i64 1,Zb x1.name,Zb [], .int .i64 x2.k, .int .i64 x2.n,Zb x2.s, .slice none 0 0],_,rfl,(ZpZ (d:=1) ((Zen (d:=0)).2 ⟨_,rfl,(show Zv 1 from by constructor <;> decide),hb6,(Nat.zero_le _),hb8,hb9,hb10,Sl.nil (YT 0) 96 G3⟩) (by omega)),rfl⟩⟩ rfl (by simp [reach]) (by simp [reach])
  have hcd1 : (YT ((k1 + 1) + 1)).rep G4 (Zg8 cg (eqC x1 x2)) [.int .i64 5,Zb [],Zb [], .int .i64 0, .int .i64 0,Zb [], .slice (some ⟨b2,0,none⟩) 2 2]:=(Zen (d:=(k1 + 1))).2 ⟨_,rfl,(show Zv 5 from by constructor <;> decide),Nat.zero_le _,Nat.zero_le _,(show Zv 0 from by constructor <;> decide),(show Zv 0 from by constructor <;> decide),Nat.zero_le _,hs4⟩
  refine WL.build _ [(0,[.int .i64 5]),(4,[.slice (some ⟨b2,0,none⟩) 2 2])] [.int .i64 5,Zb [],Zb [], .int .i64 0, .int .i64 0,Zb [], .slice (some ⟨b2,0,none⟩) 2 2] X6 rfl Zqm rfl rfl rfl rfl ?_
  refine WL.store hS8 1 _ _ _ 0 _ [.int .i64 5,Zb [],Zb [], .int .i64 0, .int .i64 0,Zb [], .slice (some ⟨b2,0,none⟩) 2 2] [.int .i64 5,Zb [],Zb [], .int .i64 0, .int .i64 0,Zb [], .slice (some ⟨b2,0,none⟩) 2 2] _ rfl rfl X6 rfl (Nat.le_of_ble_eq_true rfl) (by simp only [List.all_cons,List.all_nil,hs4.oneC,Bool.true_and] <;> rfl) rfl rfl rfl rfl rfl (fun w9 hS9=>?_)
  refine Zk k1 (by have hreach : reach = 140737488355328:=rfl; omega) rfl rfl rfl ?_
  have hS10:=hS9.tail
  exact BK.mk' _ ⟨k1 + 1,(Zg8 cg (eqC x1 x2)), .slice (some ⟨b2,0,none⟩) 2 2,G4,rfl,(hle3.trans hle4),hS10,⟨rfl,rfl,rfl,rfl,rfl,rfl,rfl,trivial⟩,(by omega),(by exact ZpN ‹_› ‹_› ‹_›),(((YT _).mono (G4.le_refl) hcd1))⟩ (show t.s.key.toNat - (k1 + 1) < t.s.key.toNat - k1 by omega)
 have hkk : k1 = t.s.key.toNat:=by omega
 have hcu : cg = Qf t.s.cols v t.s.key.toNat:=by rw [(by assumption : cg = Qf t.s.cols v k1),hkk]
 refine Zd hS5 (XZ.drop 0 (hc1.mono (hle2.trans hle3))) [Zb t.s.name,v1, .int .i64 t.s.key,v2] Zb2 rfl rfl rfl rfl rfl <| ZZ hS5 0 _ _ _ 0 [.int .i64 cg.kind,Zb cg.col,Zb cg.oth, .int .i64 cg.v.k, .int .i64 cg.v.n,Zb cg.v.s,vL] rfl rfl rfl X6 rfl rfl rfl <| Zd hS5 (hc2.mono hle3) [.int .i64 d.a, .int .i64 d.b] Zm rfl rfl rfl rfl rfl ?_
 refine Z6 hS5 Zw3 rfl rfl rfl (ZpM hS5.imm (k1 + 1) t.s t.rows tx cg [] [] false d _ (Xt t.s hb1 (hs1.mono ((hle1.trans hle2).trans hle3)) hb2 (hs2.mono ((hle1.trans hle2).trans hle3))) _ (hs3.mono ((hle1.trans hle2).trans hle3)) _ f3 _ (Sl.nil ValE 32 G3) _ (Sl.nil Enc.bool 1 G3) _ (Zq d hb4 hb5) htx64 hgd hIns.span hnd (by intro h; cases h)) (fun w10 G5 r1 hpost1 hS11 hle5=>?_)
 refine Zd hS11 (hc2.mono (hle3.trans hle5)) [.int .i64 d.a, .int .i64 d.b] Zm rfl rfl rfl rfl rfl ?_
 refine Z6 hS11 Zw4 rfl rfl rfl (ZpI hS11.imm (Zaf (Yz (X7 (k1 + 1) cg (t.s.cols.map Col.name)) (rnx false [] []) tx d t.rows)) tx v d _ hpost1 _ (hvv.mono (((hle1.trans hle2).trans hle3).trans hle5)) _ (Zq d hb4 hb5) (by rw [hcu,hkk]; exact hsm) htx64) (fun w11 G6 r2 hpost2 hS12 hle6=>?_)
 exact RT hS12 rfl (Sl.cast hpost2 (by rw [hcu,hkk]; rfl))
end Go.Civ
