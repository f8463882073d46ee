/- Lemmas. -/
import Derived.Test.YthgeclodflmiaaaGreatP34
import Derived.Test.YthgeclodflmiaaaGreatP38
import Derived.Test.YthgeclodflmiaaaGreatP39
import Derived.Test.YthgeclodflmiaaaGreatProg
import Derived.KernelRfl
import Derived.WalkKit
set_option linter.unusedVariables false
set_option linter.unusedSimpArgs false
set_option maxRecDepth 100000
set_option maxHeartbeats 4000000
namespace Go.Civ
open Go.Proofs
theorem ZjJ {G : GH} {w : World} (hG : G.In w) (t : Table) (ct : List Value) (hct : TableE.rep G t ct) : CL Tryz.prog (nat_lit 13) #[.agg ct.toArray] [] w G fun G' _ r=>∃ r0 r1,r = .tuple #[r0,r1] ∧ Is HRowE G' r0 (Z8 t) ∧ r1 = .bool (YA t):=by
 refine Y9 ft [] Tryz.func13 rfl rfl ?_
 have hS:=St.start (X:=[]) hG
 obtain ⟨v1,v2,v3,rfl,hb1,hs1,hb2,hs2,hs3,hb3⟩:=Z0 hct
 refine Zu [Zd t.s.name,v1, .int .i64 t.s.key,v2,v3, .int .i64 t.last] _ hS rfl rfl rfl (fun p1 w1 G1 hle1 hsp1 hc1 hS1=>?_)
 refine WL.alloc hS1 Zx rfl rfl (fun b1 w2 hn1 hS2=>?_)
 refine Zc hS2 hc1 [Zd t.s.name,v1, .int .i64 t.s.key,v2,v3, .int .i64 t.last] Zp rfl rfl rfl rfl rfl ?_
 refine Zj hS2 QN rfl rfl rfl (XS hS2.imm t _ (Zl t hb1 (hs1.mono hle1) hb2 (hs2.mono hle1) (hs3.mono hle1) hb3)) (fun w3 G2 hS3 hle2=>?_)
 refine WL.split (fun (h1 : (Zm t) = true)=>?_) (fun (h1 : (Zm t) = false)=>?_)
 ·refine Zc hS3 (hc1.mono hle2) [Zd t.s.name,v1, .int .i64 t.s.key,v2,v3, .int .i64 t.last] Zp rfl rfl rfl rfl rfl ?_
  refine Z3 hS3 Zr6 rfl rfl rfl (Zfs hS3.imm t _ (Zl t hb1 (hs1.mono (hle1.trans hle2)) hb2 (hs2.mono (hle1.trans hle2)) (hs3.mono (hle1.trans hle2)) hb3) ‹_›) ?_
  rintro w4 G3 _ ⟨r2,_,rfl,hs4,rfl⟩ hS4 hle3
  obtain ⟨cs1,rfl,hr1⟩:=hs4
  obtain ⟨v4,rfl,hb4,hb5,hs5⟩:=XQ hr1
  refine WL.alloc hS4 ZP rfl rfl (fun b2 w5 hn2 hS5=>?_)
  refine WL.store hS5 0 _ _ _ 0 _ [.int .i64 ((ZD (Zr t)).tx), .int .i64 ((ZD (Zr t)).vd),v4] [.int .i64 ((ZD (Zr t)).tx), .int .i64 ((ZD (Zr t)).vd),v4] _ rfl rfl ZP rfl (Nat.le_of_ble_eq_true rfl) (by simp only [List.all_cons,List.all_nil,hs5.oneC,Bool.true_and] <;> rfl) rfl rfl rfl rfl rfl (fun w6 hS6=>?_)
  obtain ⟨G4,hle4,hc2,hS7⟩:=hS6.shutB hn2
  refine XA (d:=14) rfl (fun (h2 : ((Zr t).isSome) = true)=>?_) (fun (h2 : ((Zr t).isSome) = false)=>?_)
  ·refine Zc hS7 hc2 [.int .i64 ((ZD (Zr t)).tx), .int .i64 ((ZD (Zr t)).vd),v4] ZP rfl rfl rfl rfl rfl ?_
   refine Z3 hS7 Zr7 rfl rfl rfl (Zk7 hS7.imm (Pt.mk ((ZD (Zr t)).tx) ((ZD (Zr t)).vd) ((ZD (Zr t)).v)) _ (Xo (Pt.mk ((ZD (Zr t)).tx) ((ZD (Zr t)).vd) ((ZD (Zr t)).v)) hb4 hb5 (hs5.mono hle4)) (ZgG ‹_› ‹_›).1 (ZgG ‹_› ‹_›).2) (fun w7 G5 r4 hpost2 hS8 hle5=>?_)
   obtain ⟨cs2,rfl,hr2⟩:=hpost2
   obtain ⟨v5,rfl,hs6,hb6,hb7,hb8,hb9⟩:=ZK hr2
   refine WL.store hS8 0 _ _ _ 0 _ [v5, .int .i64 ((Yt (some (Pt.mk ((ZD (Zr t)).tx) ((ZD (Zr t)).vd) ((ZD (Zr t)).v)))).r.d.a), .int .i64 ((Yt (some (Pt.mk ((ZD (Zr t)).tx) ((ZD (Zr t)).vd) ((ZD (Zr t)).v)))).r.d.b), .int .i64 ((Yt (some (Pt.mk ((ZD (Zr t)).tx) ((ZD (Zr t)).vd) ((ZD (Zr t)).v)))).r.x.a), .int .i64 ((Yt (some (Pt.mk ((ZD (Zr t)).tx) ((ZD (Zr t)).vd) ((ZD (Zr t)).v)))).r.x.b)] [v5, .int .i64 ((Yt (some (Pt.mk ((ZD (Zr t)).tx) ((ZD (Zr t)).vd) ((ZD (Zr t)).v)))).r.d.a), .int .i64 ((Yt (some (Pt.mk ((ZD (Zr t)).tx) ((ZD (Zr t)).vd) ((ZD (Zr t)).v)))).r.d.b), .int .i64 ((Yt (some (Pt.mk ((ZD (Zr t)).tx) ((ZD (Zr t)).vd) ((ZD (Zr t)).v)))).r.x.a), .int .i64 ((Yt (some (Pt.mk ((ZD (Zr t)).tx) ((ZD (Zr t)).vd) ((ZD (Zr t)).v)))).r.x.b)] _ rfl rfl Zx rfl (Nat.le_of_ble_eq_true rfl) (by simp only [List.all_cons,List.all_nil,hs6.oneC,Bool.true_and] <;> rfl) rfl rfl rfl rfl rfl (fun w9 hS9=>?_)
   exact Xj [.agg #[v5, .int .i64 ((Yt (some (Pt.mk ((ZD (Zr t)).tx) ((ZD (Zr t)).vd) ((ZD (Zr t)).v)))).r.d.a), .int .i64 ((Yt (some (Pt.mk ((ZD (Zr t)).tx) ((ZD (Zr t)).vd) ((ZD (Zr t)).v)))).r.d.b), .int .i64 ((Yt (some (Pt.mk ((ZD (Zr t)).tx) ((ZD (Zr t)).vd) ((ZD (Zr t)).v)))).r.x.a), .int .i64 ((Yt (some (Pt.mk ((ZD (Zr t)).tx) ((ZD (Zr t)).vd) ((ZD (Zr t)).v)))).r.x.b)], .bool false] hS9 ⟨_,_,_,rfl,rfl,hS9.loadA 0 _ _ _ 0 [v5, .int .i64 ((Yt (some (Pt.mk ((ZD (Zr t)).tx) ((ZD (Zr t)).vd) ((ZD (Zr t)).v)))).r.d.a), .int .i64 ((Yt (some (Pt.mk ((ZD (Zr t)).tx) ((ZD (Zr t)).vd) ((ZD (Zr t)).v)))).r.d.b), .int .i64 ((Yt (some (Pt.mk ((ZD (Zr t)).tx) ((ZD (Zr t)).vd) ((ZD (Zr t)).v)))).r.x.a), .int .i64 ((Yt (some (Pt.mk ((ZD (Zr t)).tx) ((ZD (Zr t)).vd) ((ZD (Zr t)).v)))).r.x.b)] rfl rfl rfl Zx rfl,⟨_,rfl,rfl⟩⟩ ⟨_,_,rfl,(Is.cast ⟨_,rfl,(ZM (HRow.mk ((Yt (some (Pt.mk ((ZD (Zr t)).tx) ((ZD (Zr t)).vd) ((ZD (Zr t)).v)))).v) (Rect.mk (Span.mk ((Yt (some (Pt.mk ((ZD (Zr t)).tx) ((ZD (Zr t)).vd) ((ZD (Zr t)).v)))).r.d.a) ((Yt (some (Pt.mk ((ZD (Zr t)).tx) ((ZD (Zr t)).vd) ((ZD (Zr t)).v)))).r.d.b)) (Span.mk ((Yt (some (Pt.mk ((ZD (Zr t)).tx) ((ZD (Zr t)).vd) ((ZD (Zr t)).v)))).r.x.a) ((Yt (some (Pt.mk ((ZD (Zr t)).tx) ((ZD (Zr t)).vd) ((ZD (Zr t)).v)))).r.x.b)))) hs6 hb6 hb7 hb8 hb9)⟩ (by exact (Zns ‹_› ‹_›).1)),(congrArg Value.bool (by exact (Zns ‹_› ‹_›).2))⟩
  refine WL.build _ [] [.slice none 0 0, .int .i64 0, .int .i64 0, .int .i64 0, .int .i64 0] Zx rfl Zbj rfl rfl rfl rfl ?_
  refine WL.store hS7 0 _ _ _ 0 _ [.slice none 0 0, .int .i64 0, .int .i64 0, .int .i64 0, .int .i64 0] [.slice none 0 0, .int .i64 0, .int .i64 0, .int .i64 0, .int .i64 0] _ rfl rfl Zx rfl (Nat.le_of_ble_eq_true rfl) rfl rfl rfl rfl rfl rfl (fun w10 hS10=>?_)
  exact Xj [.agg #[.slice none 0 0, .int .i64 0, .int .i64 0, .int .i64 0, .int .i64 0], .bool true] hS10 ⟨_,_,_,rfl,rfl,hS10.loadA 0 _ _ _ 0 [.slice none 0 0, .int .i64 0, .int .i64 0, .int .i64 0, .int .i64 0] rfl rfl rfl Zx rfl,⟨_,rfl,rfl⟩⟩ ⟨_,_,rfl,(Is.cast ⟨_,rfl,(ZM (HRow.mk [] (Rect.mk (Span.mk 0 0) (Span.mk 0 0))) (Sl.nil ValE 32 G4) ZN ZN ZN ZN)⟩ (by exact (Znt ‹_› ‹_›).1)),(congrArg Value.bool (by exact (Znt ‹_› ‹_›).2))⟩
 refine WL.build _ [] [.slice none 0 0, .int .i64 0, .int .i64 0, .int .i64 0, .int .i64 0] Zx rfl Zbj rfl rfl rfl rfl ?_
 refine WL.store hS3 0 _ _ _ 0 _ [.slice none 0 0, .int .i64 0, .int .i64 0, .int .i64 0, .int .i64 0] [.slice none 0 0, .int .i64 0, .int .i64 0, .int .i64 0, .int .i64 0] _ rfl rfl Zx rfl (Nat.le_of_ble_eq_true rfl) rfl rfl rfl rfl rfl rfl (fun w11 hS11=>?_)
 exact Xj [.agg #[.slice none 0 0, .int .i64 0, .int .i64 0, .int .i64 0, .int .i64 0], .bool false] hS11 ⟨_,_,_,rfl,rfl,hS11.loadA 0 _ _ _ 0 [.slice none 0 0, .int .i64 0, .int .i64 0, .int .i64 0, .int .i64 0] rfl rfl rfl Zx rfl,⟨_,rfl,rfl⟩⟩ ⟨_,_,rfl,(Is.cast ⟨_,rfl,(ZM (HRow.mk [] (Rect.mk (Span.mk 0 0) (Span.mk 0 0))) (Sl.nil ValE 32 G2) ZN ZN ZN ZN)⟩ (by exact (Znr ‹_›).1)),(congrArg Value.bool (by exact (Znr ‹_›).2))⟩
theorem ZkC {G : GH} {w : World} (hG : G.In w) (t : Table) (ct : List Value) (hct : TableE.rep G t ct) : CL Tryz.prog (nat_lit 72) #[.agg ct.toArray] [] w G fun _ _ r=>r = .bool (YA t):=by
 refine Zg ft [] Tryz.func72 rfl rfl ?_
 have hS:=St.start (X:=[]) hG
 obtain ⟨v1,v2,v3,rfl,hb1,hs1,hb2,hs2,hs3,hb3⟩:=Z0 hct
 refine Zu [Zd t.s.name,v1, .int .i64 t.s.key,v2,v3, .int .i64 t.last] _ hS rfl rfl rfl (fun p1 w1 G1 hle1 hsp1 hc1 hS1=>?_)
 refine Zc hS1 hc1 [Zd t.s.name,v1, .int .i64 t.s.key,v2,v3, .int .i64 t.last] Zp rfl rfl rfl rfl rfl <| Z3 hS1 Xv rfl rfl rfl (ZjJ hS1.imm t _ (Zl t hb1 (hs1.mono hle1) hb2 (hs2.mono hle1) (hs3.mono hle1) hb3)) ?_
 rintro w2 G2 _ ⟨r2,_,rfl,hs4,rfl⟩ hS2 hle2
 obtain ⟨cs1,rfl,hr1⟩:=hs4
 obtain ⟨v4,rfl,hs5,hb4,hb5,hb6,hb7⟩:=ZK hr1
 refine WL.alloc hS2 Zx rfl rfl (fun b1 w3 hn1 hS3=>?_)
 refine WL.store hS3 0 _ _ _ 0 _ [v4, .int .i64 ((Z8 t).r.d.a), .int .i64 ((Z8 t).r.d.b), .int .i64 ((Z8 t).r.x.a), .int .i64 ((Z8 t).r.x.b)] [v4, .int .i64 ((Z8 t).r.d.a), .int .i64 ((Z8 t).r.d.b), .int .i64 ((Z8 t).r.x.a), .int .i64 ((Z8 t).r.x.b)] _ rfl rfl Zx rfl (Nat.le_of_ble_eq_true rfl) (by simp only [List.all_cons,List.all_nil,hs5.oneC,Bool.true_and] <;> rfl) rfl rfl rfl rfl rfl (fun w4 hS4=>?_)
 obtain ⟨G3,hle3,hc2,hS5⟩:=hS4.shutB hn1
 exact RB hS5 rfl (by rfl)
theorem Zrd {G : GH} {w : World} (hG : G.In w) (t : Table) (e : Int) (ct : List Value) (hct : TableE.rep G t ct) (hv : e = 0 → Zm t = true) : CL Tryz.prog (nat_lit 106) #[.agg ct.toArray, .int .i64 e] [] w G fun G' _ r=>∃ r0 r1,r = .tuple #[r0,r1] ∧ Is TableE G' r0 (XT t e) ∧ r1 = .int .i64 (ZbP t e):=by
 refine Y9 ft [] Tryz.func106 rfl rfl ?_
 have hS:=St.start (X:=[]) hG
 obtain ⟨v1,v2,v3,rfl,hb1,hs1,hb2,hs2,hs3,hb3⟩:=Z0 hct
 refine Zu [Zd t.s.name,v1, .int .i64 t.s.key,v2,v3, .int .i64 t.last] _ hS rfl rfl rfl (fun p1 w1 G1 hle1 hsp1 hc1 hS1=>?_)
 refine WL.alloc hS1 Zp rfl rfl (fun b1 w2 hn1 hS2=>?_)
 refine YQ e 0 rfl rfl rfl (fun h1=>?_) (fun h1=>?_)
 ·refine WL.build _ [] [Zd [], .slice none 0 0, .int .i64 0, .slice none 0 0, .slice none 0 0, .int .i64 0] Zp rfl Za3 rfl rfl rfl rfl ?_
  refine WL.store hS2 0 _ _ _ 0 _ [Zd [], .slice none 0 0, .int .i64 0, .slice none 0 0, .slice none 0 0, .int .i64 0] [Zd [], .slice none 0 0, .int .i64 0, .slice none 0 0, .slice none 0 0, .int .i64 0] _ rfl rfl Zp rfl (Nat.le_of_ble_eq_true rfl) rfl rfl rfl rfl rfl rfl (fun w3 hS3=>?_)
  exact Xj [.agg #[Zd [], .slice none 0 0, .int .i64 0, .slice none 0 0, .slice none 0 0, .int .i64 0], .int .i64 e] hS3 ⟨_,_,_,rfl,rfl,hS3.loadA 0 _ _ _ 0 [Zd [], .slice none 0 0, .int .i64 0, .slice none 0 0, .slice none 0 0, .int .i64 0] rfl rfl rfl Zp rfl,⟨_,rfl,rfl⟩⟩ ⟨_,_,rfl,(Is.cast ⟨_,rfl,(Zl (Table.mk (Schema.mk [] [] 0 []) [] 0) (by simp [reach]) (Sl.nil ColE 24 G1) ZN (Sl.nil ForeignE 40 G1) (Sl.nil HRowE 56 G1) ZN)⟩ (by exact (Zqa ‹_›).1)),(congrArg (Value.int .i64) (by exact (Zqa ‹_›).2))⟩
 refine Zc hS2 hc1 [Zd t.s.name,v1, .int .i64 t.s.key,v2,v3, .int .i64 t.last] Zp rfl rfl rfl rfl rfl ?_
 refine Z3 hS2 Zr6 rfl rfl rfl (Zfs hS2.imm t _ (Zl t hb1 (hs1.mono hle1) hb2 (hs2.mono hle1) (hs3.mono hle1) hb3) (hv ‹_›)) ?_
 rintro w4 G2 _ ⟨r2,_,rfl,hs4,rfl⟩ hS4 hle2
 obtain ⟨cs1,rfl,hr1⟩:=hs4
 obtain ⟨v4,rfl,hb4,hb5,hs5⟩:=XQ hr1
 refine WL.alloc hS4 ZP rfl rfl (fun b2 w5 hn2 hS5=>?_)
 refine WL.store hS5 0 _ _ _ 0 _ [.int .i64 ((ZD (Zr t)).tx), .int .i64 ((ZD (Zr t)).vd),v4] [.int .i64 ((ZD (Zr t)).tx), .int .i64 ((ZD (Zr t)).vd),v4] _ rfl rfl ZP rfl (Nat.le_of_ble_eq_true rfl) (by simp only [List.all_cons,List.all_nil,hs5.oneC,Bool.true_and] <;> rfl) rfl rfl rfl rfl rfl (fun w6 hS6=>?_)
 obtain ⟨G3,hle3,hc2,hS7⟩:=hS6.shutB hn2
 refine XA (d:=16) rfl (fun (h2 : ((Zr t).isSome) = true)=>?_) (fun (h2 : ((Zr t).isSome) = false)=>?_)
 ·refine WL.build _ [] [Zd [], .slice none 0 0, .int .i64 0, .slice none 0 0, .slice none 0 0, .int .i64 0] Zp rfl Za3 rfl rfl rfl rfl ?_
  refine WL.store hS7 0 _ _ _ 0 _ [Zd [], .slice none 0 0, .int .i64 0, .slice none 0 0, .slice none 0 0, .int .i64 0] [Zd [], .slice none 0 0, .int .i64 0, .slice none 0 0, .slice none 0 0, .int .i64 0] _ rfl rfl Zp rfl (Nat.le_of_ble_eq_true rfl) rfl rfl rfl rfl rfl rfl (fun w7 hS8=>?_)
  exact Xj [.agg #[Zd [], .slice none 0 0, .int .i64 0, .slice none 0 0, .slice none 0 0, .int .i64 0], .int .i64 14] hS8 ⟨_,_,_,rfl,rfl,hS8.loadA 0 _ _ _ 0 [Zd [], .slice none 0 0, .int .i64 0, .slice none 0 0, .slice none 0 0, .int .i64 0] rfl rfl rfl Zp rfl,⟨_,rfl,rfl⟩⟩ ⟨_,_,rfl,(Is.cast ⟨_,rfl,(Zl (Table.mk (Schema.mk [] [] 0 []) [] 0) (by simp [reach]) (Sl.nil ColE 24 G3) ZN (Sl.nil ForeignE 40 G3) (Sl.nil HRowE 56 G3) ZN)⟩ (by exact (Zqb ‹_› ‹_›).1)),(congrArg (Value.int .i64) (by exact (Zqb ‹_› ‹_›).2))⟩
 refine Zc hS7 (hc1.mono (hle2.trans hle3)) [Zd t.s.name,v1, .int .i64 t.s.key,v2,v3, .int .i64 t.last] Zp rfl rfl rfl rfl rfl ?_
 refine WL.store hS7 0 _ _ _ 0 _ [Zd t.s.name,v1, .int .i64 t.s.key,v2,v3, .int .i64 t.last] [Zd t.s.name,v1, .int .i64 t.s.key,v2,v3, .int .i64 t.last] _ rfl rfl Zp rfl (Nat.le_of_ble_eq_true rfl) (by simp only [List.all_cons,List.all_nil,(hs1.mono ((hle1.trans hle2).trans hle3)).oneC,(hs2.mono ((hle1.trans hle2).trans hle3)).oneC,(hs3.mono ((hle1.trans hle2).trans hle3)).oneC,Bool.true_and] <;> rfl) rfl rfl rfl rfl rfl (fun w9 hS9=>?_)
 exact Xj [.agg #[Zd t.s.name,v1, .int .i64 t.s.key,v2,v3, .int .i64 t.last], .int .i64 0] hS9 ⟨_,_,_,rfl,rfl,hS9.loadA 0 _ _ _ 0 [Zd t.s.name,v1, .int .i64 t.s.key,v2,v3, .int .i64 t.last] rfl rfl rfl Zp rfl,⟨_,rfl,rfl⟩⟩ ⟨_,_,rfl,(Is.cast ⟨_,rfl,(Zl t hb1 (hs1.mono ((hle1.trans hle2).trans hle3)) hb2 (hs2.mono ((hle1.trans hle2).trans hle3)) (hs3.mono ((hle1.trans hle2).trans hle3)) hb3)⟩ (by exact (Zqc ‹_› ‹_›).1)),(congrArg (Value.int .i64) (by exact (Zqc ‹_› ‹_›).2))⟩
theorem ZcJ {G : GH} {w : World} (hG : G.In w) (t : Table) (tx : Int) (v : List Val) (d : Span) (ct : List Value) (hct : TableE.rep G t ct) (vv : Value) (hvv : Sl ValE 32 G vv v) (cd : List Value) (hcd : SpanE.rep G d cd) (htx64 : Zy tx) : CL Tryz.prog (nat_lit 49) #[.agg ct.toArray, .int .i64 tx,vv, .agg cd.toArray] [] w G fun G' _ r=>∃ r0 r1,r = .tuple #[r0,r1] ∧ Is TableE G' r0 (Zw t tx v d) ∧ r1 = .int .i64 (QF t tx v d):=by
 refine Y9 ft [] Tryz.func49 rfl rfl ?_
 have hS:=St.start (X:=[]) hG
 obtain ⟨v1,v2,v3,rfl,hb1,hs1,hb2,hs2,hs3,hb3⟩:=Z0 hct
 obtain ⟨rfl,hb4,hb5⟩:=ZF hcd
 refine Zu [Zd t.s.name,v1, .int .i64 t.s.key,v2,v3, .int .i64 t.last] _ hS rfl rfl rfl (fun p1 w1 G1 hle1 hsp1 hc1 hS1=>?_)
 refine Zu [.int .i64 d.a, .int .i64 d.b] _ hS1 rfl rfl rfl (fun p2 w2 G2 hle2 hsp2 hc2 hS2=>?_)
 refine WL.alloc hS2 Zp rfl rfl (fun b1 w3 hn1 hS3=>?_)
 refine Zc hS3 (hc1.mono hle2) [Zd t.s.name,v1, .int .i64 t.s.key,v2,v3, .int .i64 t.last] Zp rfl rfl rfl rfl rfl ?_
 refine Zj hS3 Zr9 rfl rfl rfl (ZkC hS3.imm t _ (Zl t hb1 (hs1.mono (hle1.trans hle2)) hb2 (hs2.mono (hle1.trans hle2)) (hs3.mono (hle1.trans hle2)) hb3)) (fun w4 G3 hS4 hle3=>?_)
 refine WL.split (fun (h1 : (YA t) = true)=>?_) (fun (h1 : (YA t) = false)=>?_)
 ·refine Zc hS4 (hc1.mono (hle2.trans hle3)) [Zd t.s.name,v1, .int .i64 t.s.key,v2,v3, .int .i64 t.last] Zp rfl rfl rfl rfl rfl <| Zc hS4 (hc2.mono hle3) [.int .i64 d.a, .int .i64 d.b] Zt rfl rfl rfl rfl rfl <| Z3 hS4 Zeg rfl rfl rfl (ZhO hS4.imm t tx v d _ (Zl t hb1 (hs1.mono ((hle1.trans hle2).trans hle3)) hb2 (hs2.mono ((hle1.trans hle2).trans hle3)) (hs3.mono ((hle1.trans hle2).trans hle3)) hb3) _ (hvv.mono ((hle1.trans hle2).trans hle3)) _ (Zs d hb4 hb5) htx64) ?_
  rintro w5 G4 _ ⟨r2,_,rfl,hs4,rfl⟩ hS5 hle4
  obtain ⟨cs1,rfl,hr1⟩:=hs4
  obtain ⟨v4,v5,v6,rfl,hb6,hs5,hb7,hs6,hs7,hb8⟩:=Z0 hr1
  refine Z3 hS5 ZsK rfl rfl rfl (Zrd hS5.imm (ZI t tx v d) (Ym t tx v d) _ (Zl (ZI t tx v d) hb6 hs5 hb7 hs6 hs7 hb8) Znq) ?_
  rintro w6 G5 _ ⟨r5,_,rfl,hs8,rfl⟩ hS6 hle5
  obtain ⟨cs2,rfl,hr2⟩:=hs8
  obtain ⟨v7,v9,v10,rfl,hb9,hs9,hb10,hs10,hs11,Yq⟩:=Z0 hr2
  refine WL.store hS6 0 _ _ _ 0 _ [Zd ((XT (ZI t tx v d) (Ym t tx v d)).s.name),v7, .int .i64 ((XT (ZI t tx v d) (Ym t tx v d)).s.key),v9,v10, .int .i64 ((XT (ZI t tx v d) (Ym t tx v d)).last)] [Zd ((XT (ZI t tx v d) (Ym t tx v d)).s.name),v7, .int .i64 ((XT (ZI t tx v d) (Ym t tx v d)).s.key),v9,v10, .int .i64 ((XT (ZI t tx v d) (Ym t tx v d)).last)] _ rfl rfl Zp rfl (Nat.le_of_ble_eq_true rfl) (by simp only [List.all_cons,List.all_nil,hs9.oneC,hs10.oneC,hs11.oneC,Bool.true_and] <;> rfl) rfl rfl rfl rfl rfl (fun w7 hS7=>?_)
  exact Xj [.agg #[Zd ((XT (ZI t tx v d) (Ym t tx v d)).s.name),v7, .int .i64 ((XT (ZI t tx v d) (Ym t tx v d)).s.key),v9,v10, .int .i64 ((XT (ZI t tx v d) (Ym t tx v d)).last)], .int .i64 (ZbP (ZI t tx v d) (Ym t tx v d))] hS7 ⟨_,_,_,rfl,rfl,hS7.loadA 0 _ _ _ 0 [Zd ((XT (ZI t tx v d) (Ym t tx v d)).s.name),v7, .int .i64 ((XT (ZI t tx v d) (Ym t tx v d)).s.key),v9,v10, .int .i64 ((XT (ZI t tx v d) (Ym t tx v d)).last)] rfl rfl rfl Zp rfl,⟨_,rfl,rfl⟩⟩ ⟨_,_,rfl,(Is.cast ⟨_,rfl,(Zl (XT (ZI t tx v d) (Ym t tx v d)) hb9 hs9 hb10 hs10 hs11 Yq)⟩ (by exact (ZgF ‹_›).1)),(congrArg (Value.int .i64) (by exact (ZgF ‹_›).2))⟩
 refine WL.build _ [] [Zd [], .slice none 0 0, .int .i64 0, .slice none 0 0, .slice none 0 0, .int .i64 0] Zp rfl Za3 rfl rfl rfl rfl ?_
 refine WL.store hS4 0 _ _ _ 0 _ [Zd [], .slice none 0 0, .int .i64 0, .slice none 0 0, .slice none 0 0, .int .i64 0] [Zd [], .slice none 0 0, .int .i64 0, .slice none 0 0, .slice none 0 0, .int .i64 0] _ rfl rfl Zp rfl (Nat.le_of_ble_eq_true rfl) rfl rfl rfl rfl rfl rfl (fun w9 hS8=>?_)
 exact Xj [.agg #[Zd [], .slice none 0 0, .int .i64 0, .slice none 0 0, .slice none 0 0, .int .i64 0], .int .i64 1] hS8 ⟨_,_,_,rfl,rfl,hS8.loadA 0 _ _ _ 0 [Zd [], .slice none 0 0, .int .i64 0, .slice none 0 0, .slice none 0 0, .int .i64 0] rfl rfl rfl Zp rfl,⟨_,rfl,rfl⟩⟩ ⟨_,_,rfl,(Is.cast ⟨_,rfl,(Zl (Table.mk (Schema.mk [] [] 0 []) [] 0) (by simp [reach]) (Sl.nil ColE 24 G3) ZN (Sl.nil ForeignE 40 G3) (Sl.nil HRowE 56 G3) ZN)⟩ (by exact (Znp ‹_›).1)),(congrArg (Value.int .i64) (by exact (Znp ‹_›).2))⟩
end Go.Civ
