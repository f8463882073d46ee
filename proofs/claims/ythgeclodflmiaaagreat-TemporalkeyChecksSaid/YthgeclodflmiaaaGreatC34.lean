/- Lemmas. -/
import Derived.Test.YthgeclodflmiaaaGreatC29
import Derived.Test.YthgeclodflmiaaaGreatC31
import Derived.Test.YthgeclodflmiaaaGreatC32
import Derived.Test.YthgeclodflmiaaaGreatC33
import Derived.Test.YthgeclodflmiaaaGreatProg
import Derived.KernelRfl
import Derived.WalkKit
set_option linter.unusedVariables false
set_option linter.unusedSimpArgs false
set_option maxRecDepth 100000
set_option maxHeartbeats 4000000
namespace Go.Civ
open Go.Proofs
theorem Zqm {G : GH} {w : World} (hG : G.In w) (t : Table) (ct : List Value) (hct : TableE.rep G t ct) : CL Tryz.prog (nat_lit 13) #[.agg ct.toArray] [] w G fun G' _ r=>∃ r0 r1,r = .tuple #[r0,r1] ∧ Is HRowE G' r0 (QY t) ∧ r1 = .bool (Xt t):=by
 refine Y8 ft [] Tryz.func13 rfl rfl ?_
 have hS:=St.start (X:=[]) hG
 obtain ⟨v1,v2,v3,rfl,hb1,hs1,hb2,hs2,hs3,hb3⟩:=Z0 hct
 refine Z3 [Zc t.s.name,v1, .int .i64 t.s.key,v2,v3, .int .i64 t.last] _ hS rfl rfl rfl (fun p1 w1 G1 hle1 hsp1 hc1 hS1=>?_)
 refine WL.alloc hS1 Zt rfl rfl (fun b1 w2 hn1 hS2=>?_)
 refine Zd hS2 hc1 [Zc t.s.name,v1, .int .i64 t.s.key,v2,v3, .int .i64 t.last] Zp rfl rfl rfl rfl rfl ?_
 refine Zn hS2 Qg rfl rfl rfl (ZbK hS2.imm t _ (Zs t hb1 (hs1.mono hle1) hb2 (hs2.mono hle1) (hs3.mono hle1) hb3)) (fun w3 G2 hS3 hle2=>?_)
 refine WL.split (fun (h1 : (Zy t) = true)=>?_) (fun (h1 : (Zy t) = false)=>?_)
 ·refine Zd hS3 (hc1.mono hle2) [Zc t.s.name,v1, .int .i64 t.s.key,v2,v3, .int .i64 t.last] Zp rfl rfl rfl rfl rfl ?_
  refine Z8 hS3 Zpg rfl rfl rfl (Zd1 hS3.imm t _ (Zs t hb1 (hs1.mono (hle1.trans hle2)) hb2 (hs2.mono (hle1.trans hle2)) (hs3.mono (hle1.trans hle2)) hb3) ‹_›) ?_
  rintro w4 G3 _ ⟨r2,_,rfl,hs4,rfl⟩ hS4 hle3
  obtain ⟨cs1,rfl,hr1⟩:=hs4
  obtain ⟨v4,rfl,hb4,hb5,hs5⟩:=XK hr1
  refine WL.alloc hS4 ZX rfl rfl (fun b2 w5 hn2 hS5=>?_)
  refine WL.store hS5 0 _ _ _ 0 _ [.int .i64 ((ZY (Zq t)).tx), .int .i64 ((ZY (Zq t)).vd),v4] [.int .i64 ((ZY (Zq t)).tx), .int .i64 ((ZY (Zq t)).vd),v4] _ rfl rfl ZX rfl (Nat.le_of_ble_eq_true rfl) (by simp only [List.all_cons,List.all_nil,hs5.oneC,Bool.true_and] <;> rfl) rfl rfl rfl rfl rfl (fun w6 hS6=>?_)
  obtain ⟨G4,hle4,hc2,hS7⟩:=hS6.shutB hn2
  refine X8 (d:=14) rfl (fun (h2 : ((Zq t).isSome) = true)=>?_) (fun (h2 : ((Zq t).isSome) = false)=>?_)
  ·refine Zd hS7 hc2 [.int .i64 ((ZY (Zq t)).tx), .int .i64 ((ZY (Zq t)).vd),v4] ZX rfl rfl rfl rfl rfl ?_
   refine Z8 hS7 Zvq rfl rfl rfl (ZrY hS7.imm (Pt.mk ((ZY (Zq t)).tx) ((ZY (Zq t)).vd) ((ZY (Zq t)).v)) _ (XF (Pt.mk ((ZY (Zq t)).tx) ((ZY (Zq t)).vd) ((ZY (Zq t)).v)) hb4 hb5 (hs5.mono hle4)) (Zhc ‹_› ‹_›).1 (Zhc ‹_› ‹_›).2) (fun w7 G5 r4 hpost2 hS8 hle5=>?_)
   obtain ⟨cs2,rfl,hr2⟩:=hpost2
   obtain ⟨v5,rfl,hs6,hb6,hb7,hb8,hb9⟩:=Z7 hr2
   refine WL.store hS8 0 _ _ _ 0 _ [v5, .int .i64 ((ZH (some (Pt.mk ((ZY (Zq t)).tx) ((ZY (Zq t)).vd) ((ZY (Zq t)).v)))).r.d.a), .int .i64 ((ZH (some (Pt.mk ((ZY (Zq t)).tx) ((ZY (Zq t)).vd) ((ZY (Zq t)).v)))).r.d.b), .int .i64 ((ZH (some (Pt.mk ((ZY (Zq t)).tx) ((ZY (Zq t)).vd) ((ZY (Zq t)).v)))).r.x.a), .int .i64 ((ZH (some (Pt.mk ((ZY (Zq t)).tx) ((ZY (Zq t)).vd) ((ZY (Zq t)).v)))).r.x.b)] [v5, .int .i64 ((ZH (some (Pt.mk ((ZY (Zq t)).tx) ((ZY (Zq t)).vd) ((ZY (Zq t)).v)))).r.d.a), .int .i64 ((ZH (some (Pt.mk ((ZY (Zq t)).tx) ((ZY (Zq t)).vd) ((ZY (Zq t)).v)))).r.d.b), .int .i64 ((ZH (some (Pt.mk ((ZY (Zq t)).tx) ((ZY (Zq t)).vd) ((ZY (Zq t)).v)))).r.x.a), .int .i64 ((ZH (some (Pt.mk ((ZY (Zq t)).tx) ((ZY (Zq t)).vd) ((ZY (Zq t)).v)))).r.x.b)] _ rfl rfl Zt rfl (Nat.le_of_ble_eq_true rfl) (by simp only [List.all_cons,List.all_nil,hs6.oneC,Bool.true_and] <;> rfl) rfl rfl rfl rfl rfl (fun w9 hS9=>?_)
   exact X0 [.agg #[v5, .int .i64 ((ZH (some (Pt.mk ((ZY (Zq t)).tx) ((ZY (Zq t)).vd) ((ZY (Zq t)).v)))).r.d.a), .int .i64 ((ZH (some (Pt.mk ((ZY (Zq t)).tx) ((ZY (Zq t)).vd) ((ZY (Zq t)).v)))).r.d.b), .int .i64 ((ZH (some (Pt.mk ((ZY (Zq t)).tx) ((ZY (Zq t)).vd) ((ZY (Zq t)).v)))).r.x.a), .int .i64 ((ZH (some (Pt.mk ((ZY (Zq t)).tx) ((ZY (Zq t)).vd) ((ZY (Zq t)).v)))).r.x.b)], .bool false] hS9 ⟨_,_,_,rfl,rfl,hS9.loadA 0 _ _ _ 0 [v5, .int .i64 ((ZH (some (Pt.mk ((ZY (Zq t)).tx) ((ZY (Zq t)).vd) ((ZY (Zq t)).v)))).r.d.a), .int .i64 ((ZH (some (Pt.mk ((ZY (Zq t)).tx) ((ZY (Zq t)).vd) ((ZY (Zq t)).v)))).r.d.b), .int .i64 ((ZH (some (Pt.mk ((ZY (Zq t)).tx) ((ZY (Zq t)).vd) ((ZY (Zq t)).v)))).r.x.a), .int .i64 ((ZH (some (Pt.mk ((ZY (Zq t)).tx) ((ZY (Zq t)).vd) ((ZY (Zq t)).v)))).r.x.b)] rfl rfl rfl Zt rfl,⟨_,rfl,rfl⟩⟩ ⟨_,_,rfl,(Is.cast ⟨_,rfl,(Ya (HRow.mk ((ZH (some (Pt.mk ((ZY (Zq t)).tx) ((ZY (Zq t)).vd) ((ZY (Zq t)).v)))).v) (Rect.mk (Span.mk ((ZH (some (Pt.mk ((ZY (Zq t)).tx) ((ZY (Zq t)).vd) ((ZY (Zq t)).v)))).r.d.a) ((ZH (some (Pt.mk ((ZY (Zq t)).tx) ((ZY (Zq t)).vd) ((ZY (Zq t)).v)))).r.d.b)) (Span.mk ((ZH (some (Pt.mk ((ZY (Zq t)).tx) ((ZY (Zq t)).vd) ((ZY (Zq t)).v)))).r.x.a) ((ZH (some (Pt.mk ((ZY (Zq t)).tx) ((ZY (Zq t)).vd) ((ZY (Zq t)).v)))).r.x.b)))) hs6 hb6 hb7 hb8 hb9)⟩ (by exact (Zor ‹_› ‹_›).1)),(congrArg Value.bool (by exact (Zor ‹_› ‹_›).2))⟩
  refine WL.build _ [] [.slice none 0 0, .int .i64 0, .int .i64 0, .int .i64 0, .int .i64 0] Zt rfl Zag rfl rfl rfl rfl ?_
  refine WL.store hS7 0 _ _ _ 0 _ [.slice none 0 0, .int .i64 0, .int .i64 0, .int .i64 0, .int .i64 0] [.slice none 0 0, .int .i64 0, .int .i64 0, .int .i64 0, .int .i64 0] _ rfl rfl Zt rfl (Nat.le_of_ble_eq_true rfl) rfl rfl rfl rfl rfl rfl (fun w10 hS10=>?_)
  exact X0 [.agg #[.slice none 0 0, .int .i64 0, .int .i64 0, .int .i64 0, .int .i64 0], .bool true] hS10 ⟨_,_,_,rfl,rfl,hS10.loadA 0 _ _ _ 0 [.slice none 0 0, .int .i64 0, .int .i64 0, .int .i64 0, .int .i64 0] rfl rfl rfl Zt rfl,⟨_,rfl,rfl⟩⟩ ⟨_,_,rfl,(Is.cast ⟨_,rfl,(Ya (HRow.mk [] (Rect.mk (Span.mk 0 0) (Span.mk 0 0))) (Sl.nil ValE 32 G4) Yl Yl Yl Yl)⟩ (by exact (Zos ‹_› ‹_›).1)),(congrArg Value.bool (by exact (Zos ‹_› ‹_›).2))⟩
 refine WL.build _ [] [.slice none 0 0, .int .i64 0, .int .i64 0, .int .i64 0, .int .i64 0] Zt rfl Zag rfl rfl rfl rfl ?_
 refine WL.store hS3 0 _ _ _ 0 _ [.slice none 0 0, .int .i64 0, .int .i64 0, .int .i64 0, .int .i64 0] [.slice none 0 0, .int .i64 0, .int .i64 0, .int .i64 0, .int .i64 0] _ rfl rfl Zt rfl (Nat.le_of_ble_eq_true rfl) rfl rfl rfl rfl rfl rfl (fun w11 hS11=>?_)
 exact X0 [.agg #[.slice none 0 0, .int .i64 0, .int .i64 0, .int .i64 0, .int .i64 0], .bool false] hS11 ⟨_,_,_,rfl,rfl,hS11.loadA 0 _ _ _ 0 [.slice none 0 0, .int .i64 0, .int .i64 0, .int .i64 0, .int .i64 0] rfl rfl rfl Zt rfl,⟨_,rfl,rfl⟩⟩ ⟨_,_,rfl,(Is.cast ⟨_,rfl,(Ya (HRow.mk [] (Rect.mk (Span.mk 0 0) (Span.mk 0 0))) (Sl.nil ValE 32 G2) Yl Yl Yl Yl)⟩ (by exact (Zoq ‹_›).1)),(congrArg Value.bool (by exact (Zoq ‹_›).2))⟩
theorem Zlv {G : GH} {w : World} (hG : G.In w) (t : Table) (ct : List Value) (hct : TableE.rep G t ct) : CL Tryz.prog (nat_lit 72) #[.agg ct.toArray] [] w G fun _ _ r=>r = .bool (Xt t):=by
 refine Zh ft [] Tryz.func72 rfl rfl ?_
 have hS:=St.start (X:=[]) hG
 obtain ⟨v1,v2,v3,rfl,hb1,hs1,hb2,hs2,hs3,hb3⟩:=Z0 hct
 refine Z3 [Zc t.s.name,v1, .int .i64 t.s.key,v2,v3, .int .i64 t.last] _ hS rfl rfl rfl (fun p1 w1 G1 hle1 hsp1 hc1 hS1=>?_)
 refine Zd hS1 hc1 [Zc t.s.name,v1, .int .i64 t.s.key,v2,v3, .int .i64 t.last] Zp rfl rfl rfl rfl rfl <| Z8 hS1 X2 rfl rfl rfl (Zqm hS1.imm t _ (Zs t hb1 (hs1.mono hle1) hb2 (hs2.mono hle1) (hs3.mono hle1) hb3)) ?_
 rintro w2 G2 _ ⟨r2,_,rfl,hs4,rfl⟩ hS2 hle2
 obtain ⟨cs1,rfl,hr1⟩:=hs4
 obtain ⟨v4,rfl,hs5,hb4,hb5,hb6,hb7⟩:=Z7 hr1
 refine WL.alloc hS2 Zt rfl rfl (fun b1 w3 hn1 hS3=>?_)
 refine WL.store hS3 0 _ _ _ 0 _ [v4, .int .i64 ((QY t).r.d.a), .int .i64 ((QY t).r.d.b), .int .i64 ((QY t).r.x.a), .int .i64 ((QY t).r.x.b)] [v4, .int .i64 ((QY t).r.d.a), .int .i64 ((QY t).r.d.b), .int .i64 ((QY t).r.x.a), .int .i64 ((QY t).r.x.b)] _ rfl rfl Zt rfl (Nat.le_of_ble_eq_true rfl) (by simp only [List.all_cons,List.all_nil,hs5.oneC,Bool.true_and] <;> rfl) rfl rfl rfl rfl rfl (fun w4 hS4=>?_)
 obtain ⟨G3,hle3,hc2,hS5⟩:=hS4.shutB hn1
 exact RB hS5 rfl (by rfl)
theorem Zsj {G : GH} {w : World} (hG : G.In w) (t : Table) (e : Int) (ct : List Value) (hct : TableE.rep G t ct) (hv : e = 0 → Zy t = true) : CL Tryz.prog (nat_lit 106) #[.agg ct.toArray, .int .i64 e] [] w G fun G' _ r=>∃ r0 r1,r = .tuple #[r0,r1] ∧ Is TableE G' r0 (Qk t e) ∧ r1 = .int .i64 (Zcj t e):=by
 refine Y8 ft [] Tryz.func106 rfl rfl ?_
 have hS:=St.start (X:=[]) hG
 obtain ⟨v1,v2,v3,rfl,hb1,hs1,hb2,hs2,hs3,hb3⟩:=Z0 hct
 refine Z3 [Zc t.s.name,v1, .int .i64 t.s.key,v2,v3, .int .i64 t.last] _ hS rfl rfl rfl (fun p1 w1 G1 hle1 hsp1 hc1 hS1=>?_)
 refine WL.alloc hS1 Zp rfl rfl (fun b1 w2 hn1 hS2=>?_)
 refine Xn e 0 rfl rfl rfl (fun h1=>?_) (fun h1=>?_)
 ·refine WL.build _ [] [Zc [], .slice none 0 0, .int .i64 0, .slice none 0 0, .slice none 0 0, .int .i64 0] Zp rfl Zbc rfl rfl rfl rfl ?_
  refine WL.store hS2 0 _ _ _ 0 _ [Zc [], .slice none 0 0, .int .i64 0, .slice none 0 0, .slice none 0 0, .int .i64 0] [Zc [], .slice none 0 0, .int .i64 0, .slice none 0 0, .slice none 0 0, .int .i64 0] _ rfl rfl Zp rfl (Nat.le_of_ble_eq_true rfl) rfl rfl rfl rfl rfl rfl (fun w3 hS3=>?_)
  exact X0 [.agg #[Zc [], .slice none 0 0, .int .i64 0, .slice none 0 0, .slice none 0 0, .int .i64 0], .int .i64 e] hS3 ⟨_,_,_,rfl,rfl,hS3.loadA 0 _ _ _ 0 [Zc [], .slice none 0 0, .int .i64 0, .slice none 0 0, .slice none 0 0, .int .i64 0] rfl rfl rfl Zp rfl,⟨_,rfl,rfl⟩⟩ ⟨_,_,rfl,(Is.cast ⟨_,rfl,(Zs (Table.mk (Schema.mk [] [] 0 []) [] 0) (by simp [reach]) (Sl.nil ColE 24 G1) Yl (Sl.nil ForeignE 40 G1) (Sl.nil HRowE 56 G1) Yl)⟩ (by exact (Zrh ‹_›).1)),(congrArg (Value.int .i64) (by exact (Zrh ‹_›).2))⟩
 refine Zd hS2 hc1 [Zc t.s.name,v1, .int .i64 t.s.key,v2,v3, .int .i64 t.last] Zp rfl rfl rfl rfl rfl ?_
 refine Z8 hS2 Zpg rfl rfl rfl (Zd1 hS2.imm t _ (Zs t hb1 (hs1.mono hle1) hb2 (hs2.mono hle1) (hs3.mono hle1) hb3) (hv ‹_›)) ?_
 rintro w4 G2 _ ⟨r2,_,rfl,hs4,rfl⟩ hS4 hle2
 obtain ⟨cs1,rfl,hr1⟩:=hs4
 obtain ⟨v4,rfl,hb4,hb5,hs5⟩:=XK hr1
 refine WL.alloc hS4 ZX rfl rfl (fun b2 w5 hn2 hS5=>?_)
 refine WL.store hS5 0 _ _ _ 0 _ [.int .i64 ((ZY (Zq t)).tx), .int .i64 ((ZY (Zq t)).vd),v4] [.int .i64 ((ZY (Zq t)).tx), .int .i64 ((ZY (Zq t)).vd),v4] _ rfl rfl ZX rfl (Nat.le_of_ble_eq_true rfl) (by simp only [List.all_cons,List.all_nil,hs5.oneC,Bool.true_and] <;> rfl) rfl rfl rfl rfl rfl (fun w6 hS6=>?_)
 obtain ⟨G3,hle3,hc2,hS7⟩:=hS6.shutB hn2
 refine X8 (d:=16) rfl (fun (h2 : ((Zq t).isSome) = true)=>?_) (fun (h2 : ((Zq t).isSome) = false)=>?_)
 ·refine WL.build _ [] [Zc [], .slice none 0 0, .int .i64 0, .slice none 0 0, .slice none 0 0, .int .i64 0] Zp rfl Zbc rfl rfl rfl rfl ?_
  refine WL.store hS7 0 _ _ _ 0 _ [Zc [], .slice none 0 0, .int .i64 0, .slice none 0 0, .slice none 0 0, .int .i64 0] [Zc [], .slice none 0 0, .int .i64 0, .slice none 0 0, .slice none 0 0, .int .i64 0] _ rfl rfl Zp rfl (Nat.le_of_ble_eq_true rfl) rfl rfl rfl rfl rfl rfl (fun w7 hS8=>?_)
  exact X0 [.agg #[Zc [], .slice none 0 0, .int .i64 0, .slice none 0 0, .slice none 0 0, .int .i64 0], .int .i64 14] hS8 ⟨_,_,_,rfl,rfl,hS8.loadA 0 _ _ _ 0 [Zc [], .slice none 0 0, .int .i64 0, .slice none 0 0, .slice none 0 0, .int .i64 0] rfl rfl rfl Zp rfl,⟨_,rfl,rfl⟩⟩ ⟨_,_,rfl,(Is.cast ⟨_,rfl,(Zs (Table.mk (Schema.mk [] [] 0 []) [] 0) (by simp [reach]) (Sl.nil ColE 24 G3) Yl (Sl.nil ForeignE 40 G3) (Sl.nil HRowE 56 G3) Yl)⟩ (by exact (Zri ‹_› ‹_›).1)),(congrArg (Value.int .i64) (by exact (Zri ‹_› ‹_›).2))⟩
 refine Zd hS7 (hc1.mono (hle2.trans hle3)) [Zc t.s.name,v1, .int .i64 t.s.key,v2,v3, .int .i64 t.last] Zp rfl rfl rfl rfl rfl ?_
 refine WL.store hS7 0 _ _ _ 0 _ [Zc t.s.name,v1, .int .i64 t.s.key,v2,v3, .int .i64 t.last] [Zc t.s.name,v1, .int .i64 t.s.key,v2,v3, .int .i64 t.last] _ rfl rfl Zp rfl (Nat.le_of_ble_eq_true rfl) (by simp only [List.all_cons,List.all_nil,(hs1.mono ((hle1.trans hle2).trans hle3)).oneC,(hs2.mono ((hle1.trans hle2).trans hle3)).oneC,(hs3.mono ((hle1.trans hle2).trans hle3)).oneC,Bool.true_and] <;> rfl) rfl rfl rfl rfl rfl (fun w9 hS9=>?_)
 exact X0 [.agg #[Zc t.s.name,v1, .int .i64 t.s.key,v2,v3, .int .i64 t.last], .int .i64 0] hS9 ⟨_,_,_,rfl,rfl,hS9.loadA 0 _ _ _ 0 [Zc t.s.name,v1, .int .i64 t.s.key,v2,v3, .int .i64 t.last] rfl rfl rfl Zp rfl,⟨_,rfl,rfl⟩⟩ ⟨_,_,rfl,(Is.cast ⟨_,rfl,(Zs t hb1 (hs1.mono ((hle1.trans hle2).trans hle3)) hb2 (hs2.mono ((hle1.trans hle2).trans hle3)) (hs3.mono ((hle1.trans hle2).trans hle3)) hb3)⟩ (by exact (Zrj ‹_› ‹_›).1)),(congrArg (Value.int .i64) (by exact (Zrj ‹_› ‹_›).2))⟩
theorem Zdn {G : GH} {w : World} (hG : G.In w) (t : Table) (tx : Int) (v : List Val) (d : Span) (ct : List Value) (hct : TableE.rep G t ct) (vv : Value) (hvv : Sl ValE 32 G vv v) (cd : List Value) (hcd : SpanE.rep G d cd) (htx64 : Z1 tx) : CL Tryz.prog (nat_lit 49) #[.agg ct.toArray, .int .i64 tx,vv, .agg cd.toArray] [] w G fun G' _ r=>∃ r0 r1,r = .tuple #[r0,r1] ∧ Is TableE G' r0 (Z2 t tx v d) ∧ r1 = .int .i64 (Zaa t tx v d):=by
 refine Y8 ft [] Tryz.func49 rfl rfl ?_
 have hS:=St.start (X:=[]) hG
 obtain ⟨v1,v2,v3,rfl,hb1,hs1,hb2,hs2,hs3,hb3⟩:=Z0 hct
 obtain ⟨rfl,hb4,hb5⟩:=ZP hcd
 refine Z3 [Zc t.s.name,v1, .int .i64 t.s.key,v2,v3, .int .i64 t.last] _ hS rfl rfl rfl (fun p1 w1 G1 hle1 hsp1 hc1 hS1=>?_)
 refine Z3 [.int .i64 d.a, .int .i64 d.b] _ hS1 rfl rfl rfl (fun p2 w2 G2 hle2 hsp2 hc2 hS2=>?_)
 refine WL.alloc hS2 Zp rfl rfl (fun b1 w3 hn1 hS3=>?_)
 refine Zd hS3 (hc1.mono hle2) [Zc t.s.name,v1, .int .i64 t.s.key,v2,v3, .int .i64 t.last] Zp rfl rfl rfl rfl rfl ?_
 refine Zn hS3 ZsN rfl rfl rfl (Zlv hS3.imm t _ (Zs t hb1 (hs1.mono (hle1.trans hle2)) hb2 (hs2.mono (hle1.trans hle2)) (hs3.mono (hle1.trans hle2)) hb3)) (fun w4 G3 hS4 hle3=>?_)
 refine WL.split (fun (h1 : (Xt t) = true)=>?_) (fun (h1 : (Xt t) = false)=>?_)
 ·refine Zd hS4 (hc1.mono (hle2.trans hle3)) [Zc t.s.name,v1, .int .i64 t.s.key,v2,v3, .int .i64 t.last] Zp rfl rfl rfl rfl rfl <| Zd hS4 (hc2.mono hle3) [.int .i64 d.a, .int .i64 d.b] Zz rfl rfl rfl rfl rfl <| Z8 hS4 Zcg rfl rfl rfl (Zit hS4.imm t tx v d _ (Zs t hb1 (hs1.mono ((hle1.trans hle2).trans hle3)) hb2 (hs2.mono ((hle1.trans hle2).trans hle3)) (hs3.mono ((hle1.trans hle2).trans hle3)) hb3) _ (hvv.mono ((hle1.trans hle2).trans hle3)) _ (Zw d hb4 hb5) htx64) ?_
  rintro w5 G4 _ ⟨r2,_,rfl,hs4,rfl⟩ hS5 hle4
  obtain ⟨cs1,rfl,hr1⟩:=hs4
  obtain ⟨v4,v5,v6,rfl,hb6,hs5,hb7,hs6,hs7,hb8⟩:=Z0 hr1
  refine Z8 hS5 Zuh rfl rfl rfl (Zsj hS5.imm (ZR t tx v d) (Y6 t tx v d) _ (Zs (ZR t tx v d) hb6 hs5 hb7 hs6 hs7 hb8) Zop) ?_
  rintro w6 G5 _ ⟨r5,_,rfl,hs8,rfl⟩ hS6 hle5
  obtain ⟨cs2,rfl,hr2⟩:=hs8
  obtain ⟨v7,v9,v10,rfl,hb9,hs9,hb10,hs10,hs11,YL⟩:=Z0 hr2
  refine WL.store hS6 0 _ _ _ 0 _ [Zc ((Qk (ZR t tx v d) (Y6 t tx v d)).s.name),v7, .int .i64 ((Qk (ZR t tx v d) (Y6 t tx v d)).s.key),v9,v10, .int .i64 ((Qk (ZR t tx v d) (Y6 t tx v d)).last)] [Zc ((Qk (ZR t tx v d) (Y6 t tx v d)).s.name),v7, .int .i64 ((Qk (ZR t tx v d) (Y6 t tx v d)).s.key),v9,v10, .int .i64 ((Qk (ZR t tx v d) (Y6 t tx v d)).last)] _ rfl rfl Zp rfl (Nat.le_of_ble_eq_true rfl) (by simp only [List.all_cons,List.all_nil,hs9.oneC,hs10.oneC,hs11.oneC,Bool.true_and] <;> rfl) rfl rfl rfl rfl rfl (fun w7 hS7=>?_)
  exact X0 [.agg #[Zc ((Qk (ZR t tx v d) (Y6 t tx v d)).s.name),v7, .int .i64 ((Qk (ZR t tx v d) (Y6 t tx v d)).s.key),v9,v10, .int .i64 ((Qk (ZR t tx v d) (Y6 t tx v d)).last)], .int .i64 (Zcj (ZR t tx v d) (Y6 t tx v d))] hS7 ⟨_,_,_,rfl,rfl,hS7.loadA 0 _ _ _ 0 [Zc ((Qk (ZR t tx v d) (Y6 t tx v d)).s.name),v7, .int .i64 ((Qk (ZR t tx v d) (Y6 t tx v d)).s.key),v9,v10, .int .i64 ((Qk (ZR t tx v d) (Y6 t tx v d)).last)] rfl rfl rfl Zp rfl,⟨_,rfl,rfl⟩⟩ ⟨_,_,rfl,(Is.cast ⟨_,rfl,(Zs (Qk (ZR t tx v d) (Y6 t tx v d)) hb9 hs9 hb10 hs10 hs11 YL)⟩ (by exact (Zhb ‹_›).1)),(congrArg (Value.int .i64) (by exact (Zhb ‹_›).2))⟩
 refine WL.build _ [] [Zc [], .slice none 0 0, .int .i64 0, .slice none 0 0, .slice none 0 0, .int .i64 0] Zp rfl Zbc rfl rfl rfl rfl ?_
 refine WL.store hS4 0 _ _ _ 0 _ [Zc [], .slice none 0 0, .int .i64 0, .slice none 0 0, .slice none 0 0, .int .i64 0] [Zc [], .slice none 0 0, .int .i64 0, .slice none 0 0, .slice none 0 0, .int .i64 0] _ rfl rfl Zp rfl (Nat.le_of_ble_eq_true rfl) rfl rfl rfl rfl rfl rfl (fun w9 hS8=>?_)
 exact X0 [.agg #[Zc [], .slice none 0 0, .int .i64 0, .slice none 0 0, .slice none 0 0, .int .i64 0], .int .i64 1] hS8 ⟨_,_,_,rfl,rfl,hS8.loadA 0 _ _ _ 0 [Zc [], .slice none 0 0, .int .i64 0, .slice none 0 0, .slice none 0 0, .int .i64 0] rfl rfl rfl Zp rfl,⟨_,rfl,rfl⟩⟩ ⟨_,_,rfl,(Is.cast ⟨_,rfl,(Zs (Table.mk (Schema.mk [] [] 0 []) [] 0) (by simp [reach]) (Sl.nil ColE 24 G3) Yl (Sl.nil ForeignE 40 G3) (Sl.nil HRowE 56 G3) Yl)⟩ (by exact (Zoo ‹_›).1)),(congrArg (Value.int .i64) (by exact (Zoo ‹_›).2))⟩
end Go.Civ
namespace Go.Civ
open Go.RowKit
set_option linter.unusedVariables false
abbrev Xv : Schema:=⟨[],[],0,[]⟩
def Yf (l : List Schema) (nm : List UInt8) : Option Schema:=l.find? fun s=>decide (s.name = nm)
def ZaJ (s : Schema) (f : Foreign) (t : Schema) : Bool:=decide ((f.cols.length : Int) = t.key) && ZmF s t f.cols
def Ql (l : List Schema) (j : Nat) (s : Schema) : Option (List UInt8 × Int):=if Yu s then (if (Yf (l.take j) s.name).isSome then some (s.name,8) else none) else some (s.name,1)
def Za6 (l : List Schema) (s : Schema) (f : Foreign) : Option (List UInt8 × Int):=if (Yf l f.table).isSome then (if ZaJ s f ((Yf l f.table).getD Xv) then none else some (f.table,13)) else some (f.table,7)
def Zgj (l : List Schema) : Option (List UInt8 × Int):=l.zipIdx.findSome? fun p=>Ql l p.2 p.1
def ZhD (l : List Schema) : Option (List UInt8 × Int):=l.findSome? fun s=>s.fks.findSome? (Za6 l s)
def Xu (l : List Schema) : List UInt8 × Int:=if 8 < l.length then ([],5) else ((Zgj l).or (ZhD l)).getD ([],0)
section
variable {α β : Type} {f : α → Option β} {l : List α} {k : Nat} {x : α} {r : β}
theorem ZbN (h : ∀ j,j < k → ∀ x,l[j]? = some x → f x = none) (hk : l.length ≤ k) : l.findSome? f = none:=by
 rw [List.findSome?_eq_none_iff]
 intro x hx
 obtain ⟨i,hi⟩:=List.getElem?_of_mem hx
 obtain ⟨hlt,_⟩:=List.getElem?_eq_some_iff.1 hi
 exact h i (by omega) x hi
theorem Zex : ∀ {l : List α} {k : Nat},(∀ j,j < k → ∀ x,l[j]? = some x → f x = none) → l[k]? = some x → f x = some r → l.findSome? f = some r
 | [],k,_,h,_=>by cases h
 | a :: l,0,_,h,hx=>by obtain rfl:=Option.some.inj h; rw [List.findSome?_cons,hx]
 | a :: l,k + 1,h1,h,hx=>by
  rw [List.findSome?_cons,h1 0 (by omega) a rfl]
  exact Zex (k:=k) (fun j hj y hy=>h1 (j + 1) (by omega) y (by simpa using hy)) (by simpa using h) hx
theorem Zl2 {P : Nat → α → Option β} (h : ∀ j,j < k → ∀ x,l[j]? = some x → P j x = none) (hk : l.length ≤ k) : (l.zipIdx.findSome? fun p=>P p.2 p.1) = none:=by
 rw [List.findSome?_eq_none_iff]
 rintro ⟨x,j⟩ hm
 have hj:=List.mem_zipIdx_iff_getElem?.1 hm
 have:=(List.getElem?_eq_some_iff.1 hj).1
 exact h j (by simp at this ⊢; omega) x hj
theorem ZuS {P : Nat → α → Option β} (h : ∀ j,j < k → ∀ x,l[j]? = some x → P j x = none) (hx : l[k]? = some x) (hr : P k x = some r) : (l.zipIdx.findSome? fun p=>P p.2 p.1) = some r:=by
 refine Zex (f:=fun p : α × Nat=>P p.2 p.1) (l:=l.zipIdx) (k:=k) (x:=(x,k)) (fun j hj y hy=>?_) ?_ hr
 ·rw [List.getElem?_zipIdx] at hy
  obtain ⟨z,hz,rfl⟩:=Option.map_eq_some_iff.1 hy
  simpa using h j hj z hz
 ·rw [List.getElem?_zipIdx,hx]; simp
end
section
variable {l : List Schema} {s x t : Schema} {f : Foreign} {nm : List UInt8} {k j : Nat}
theorem Zca (h : Xe (fun x=>decide (x.name = nm)) l < 0) : Xv = (Yf l nm).getD Xv ∧ false = (Yf l nm).isSome:=by
 have : Yf l nm = none:=by
  unfold Yf
  unfold Xe at h
  split at h
  ·omega
  ·rename_i e
   rw [List.findIdx?_eq_none_iff] at e
   rw [List.find?_eq_none]
   intro y hy; rw [e y hy]; simp
 rw [this]; exact ⟨rfl,rfl⟩
theorem Zfh {α : Type} {p : α → Bool} {l : List α} (h : 0 ≤ Xe p l) : (Xe p l).toNat < l.length ∧ ∀ x,l[(Xe p l).toNat]? = some x → l.find? p = some x:=by
 unfold Xe at h ⊢
 split at h
 ·rename_i i hi
  obtain ⟨h1,h2,h3⟩:=List.findIdx?_eq_some_iff_getElem.1 hi
  rw [show ((i : Nat) : Int).toNat = i by omega]
  refine ⟨h1,fun x hx=>?_⟩
  refine Zgi (k:=i) (fun j hj y hy=>?_) hx ?_
  ·obtain ⟨q1,q2⟩:=List.getElem?_eq_some_iff.1 hy
   rw [← q2]; simpa using h3 j hj
  ·obtain ⟨q1,q2⟩:=List.getElem?_eq_some_iff.1 hx
   rw [← q2]; exact h2
 ·omega
theorem Zbk (h : 0 ≤ Xe (fun x=>decide (x.name = nm)) l) (hx : l[(Xe (fun x=>decide (x.name = nm)) l).toNat]? = some x) : x = (Yf l nm).getD Xv ∧ true = (Yf l nm).isSome:=by
 have : Yf l nm = some x:=(Zfh h).2 x hx
 rw [this]; exact ⟨rfl,rfl⟩
theorem Zk5 (h : (f.cols.length : Int) ≠ t.key) : false = ZaJ s f t:=by unfold ZaJ; rw [decide_eq_false h]; rfl
theorem Zk6 {c : List UInt8} (h : f.cols[k]? = some c) (h2 : ZcR s t k c = false) : false = ZaJ s f t:=by unfold ZaJ ZmF; rw [Zo1 (P:=fun j c=>ZcR s t j c) h h2]; simp
theorem Zk7 (h3 : (f.cols.length : Int) = t.key) (h4 : ∀ j,j < k → ∀ c,f.cols[j]? = some c → ZcR s t j c = true) (hk : f.cols.length ≤ k) : true = ZaJ s f t:=by
 unfold ZaJ ZmF; rw [decide_eq_true h3,ZmG (P:=fun j c=>ZcR s t j c) h4 hk]; rfl
theorem YD (h : Yu s = false) : Ql l j s = some (s.name,1):=by unfold Ql; rw [h]; rfl
theorem YE (h : Yu s = true) (h2 : (Yf (l.take j) s.name).isSome = true) : Ql l j s = some (s.name,8):=by unfold Ql; rw [h,h2]; rfl
theorem Zk8 (h : Yu s = true) (h2 : (Yf (l.take j) s.name).isSome = false) : Ql l j s = none:=by unfold Ql; rw [h,h2]; rfl
theorem YF (h : (Yf l f.table).isSome = false) : Za6 l s f = some (f.table,7):=by unfold Za6; rw [h]; rfl
theorem Y0 (h : (Yf l f.table).isSome = true) (h2 : ZaJ s f ((Yf l f.table).getD Xv) = false) : Za6 l s f = some (f.table,13):=by unfold Za6; rw [h,h2]; rfl
theorem ZtL (h : (Yf l f.table).isSome = true) (h2 : ZaJ s f ((Yf l f.table).getD Xv) = true) : Za6 l s f = none:=by unfold Za6; rw [h,h2]; rfl
theorem YT (h : 8 < (l.length : Int)) : [] = (Xu l).1 ∧ 5 = (Xu l).2:=by unfold Xu; rw [if_pos (by omega)]; exact ⟨rfl,rfl⟩
theorem YU {r : List UInt8 × Int} (h : (l.length : Int) ≤ 8) (h1 : ∀ j,j < k → ∀ x,l[j]? = some x → Ql l j x = none) (hx : l[k]? = some x) (hr : Ql l k x = some r) : r.1 = (Xu l).1 ∧ r.2 = (Xu l).2:=by
 have : Zgj l = some r:=ZuS (P:=fun j x=>Ql l j x) h1 hx hr
 unfold Xu; rw [if_neg (by omega),this]; exact ⟨rfl,rfl⟩
theorem YV {r : List UInt8 × Int} {i : Nat} (h : (l.length : Int) ≤ 8) (h1 : ∀ j,j < k → ∀ x,l[j]? = some x → Ql l j x = none) (hk : l.length ≤ k) (h2 : ∀ i',i' < i → ∀ s,l[i']? = some s → s.fks.findSome? (Za6 l s) = none) (hx : l[i]? = some x)
  (h3 : ∀ j',j' < j → ∀ f,x.fks[j']? = some f → Za6 l x f = none) (hf : x.fks[j]? = some f) (hr : Za6 l x f = some r) : r.1 = (Xu l).1 ∧ r.2 = (Xu l).2:=by
 have e1 : Zgj l = none:=Zl2 (P:=fun j x=>Ql l j x) h1 hk
 have e2 : ZhD l = some r:=Zex (f:=fun s : Schema=>s.fks.findSome? (Za6 l s)) h2 hx (Zex h3 hf hr)
 unfold Xu; rw [if_neg (by omega),e1,e2]; exact ⟨rfl,rfl⟩
theorem YW {i : Nat} (h : (l.length : Int) ≤ 8) (h1 : ∀ j,j < k → ∀ x,l[j]? = some x → Ql l j x = none) (hk : l.length ≤ k) (h2 : ∀ i',i' < i → ∀ s,l[i']? = some s → s.fks.findSome? (Za6 l s) = none) (hi : l.length ≤ i) : [] = (Xu l).1 ∧ 0 = (Xu l).2:=by
 have e1 : Zgj l = none:=Zl2 (P:=fun j x=>Ql l j x) h1 hk
 have e2 : ZhD l = none:=ZbN (f:=fun s : Schema=>s.fks.findSome? (Za6 l s)) h2 hi
 unfold Xu; rw [if_neg (by omega),e1,e2]; exact ⟨rfl,rfl⟩
theorem ZoF (h1 : ∀ j,j < k → ∀ x,l[j]? = some x → Ql l j x = none) (hk : l.length ≤ k) : ∀ s ∈ l,Yu s = true:=fun s hs=>by
 obtain ⟨i,hi⟩:=List.getElem?_of_mem hs
 obtain ⟨hlt,_⟩:=List.getElem?_eq_some_iff.1 hi
 have:=h1 i (by omega) s hi
 unfold Ql at this
 split at this
 ·assumption
 ·cases this
theorem Zl3 (h : (Yf l nm).isSome = true) : (Yf l nm).getD Xv ∈ l ∧ ((Yf l nm).getD Xv).name = nm:=by
 cases e : Yf l nm with
 | none=>rw [e] at h; cases h
 | some t=>
  unfold Yf at e
  exact ⟨List.mem_of_find?_eq_some e,of_decide_eq_true (List.find?_some (p:=fun s : Schema=>decide (s.name = nm)) e)⟩
theorem Zss (hs : Yu s = true) (hf : f ∈ s.fks) : ∀ c ∈ f.cols,0 ≤ Xf (s.cols.map Col.name) c:=Zkw hs (List.any_eq_true.2 ⟨f,hf,by simp⟩)
theorem ZtM (h : (Xu l).2 = 0) : (∀ s ∈ l,Yu s = true) ∧ ∀ s ∈ l,∀ f ∈ s.fks,(Yf l f.table).isSome = true ∧ Zeu s ((Yf l f.table).getD Xv) f = true:=by
 unfold Xu at h
 split at h
 ·cases h
 ·cases e1 : Zgj l with
  | some r=>
   rw [e1] at h
   simp only [Option.some_or,Option.getD_some] at h
   exfalso
   unfold Zgj at e1
   obtain ⟨p,_,hp⟩:=List.exists_of_findSome?_eq_some e1
   unfold Ql at hp
   split at hp
   ·split at hp
    ·obtain rfl:=Option.some.inj hp; cases h
    ·cases hp
   ·obtain rfl:=Option.some.inj hp; cases h
  | none=>
   rw [e1] at h
   simp only [Option.none_or] at h
   have hv : ∀ s ∈ l,Yu s = true:=by
    intro s hs
    unfold Zgj at e1
    rw [List.findSome?_eq_none_iff] at e1
    obtain ⟨i,hi⟩:=List.getElem?_of_mem hs
    have:=e1 (s,i) (List.mem_zipIdx_iff_getElem?.2 hi)
    unfold Ql at this
    split at this
    ·assumption
    ·cases this
   refine ⟨hv,fun s hs f hf=>?_⟩
   cases e2 : ZhD l with
   | some r=>
    rw [e2] at h
    simp only [Option.getD_some] at h
    exfalso
    unfold ZhD at e2
    obtain ⟨p,_,hp⟩:=List.exists_of_findSome?_eq_some e2
    obtain ⟨q,_,hq⟩:=List.exists_of_findSome?_eq_some hp
    unfold Za6 at hq
    split at hq
    ·split at hq
     ·cases hq
     ·obtain rfl:=Option.some.inj hq; cases h
    ·obtain rfl:=Option.some.inj hq; cases h
   | none=>
    unfold ZhD at e2
    rw [List.findSome?_eq_none_iff] at e2
    have h2:=e2 s hs
    rw [List.findSome?_eq_none_iff] at h2
    have h3:=h2 f hf
    unfold Za6 at h3
    split at h3
    ·rename_i hi
     split at h3
     ·rename_i hfit
      refine ⟨hi,?_⟩
      obtain ⟨m1,m2⟩:=Zl3 hi
      unfold ZaJ at hfit
      unfold Zeu ZmE
      rw [List.any_eq_true.2 ⟨f,hf,by simp⟩,decide_eq_true m2.symm,hfit]; rfl
     ·cases h3
    ·cases h3
end
def tgt (l : List Table) (nm : List UInt8) : Table:=(l.find? fun o=>decide (o.s.name = nm)).getD noT
def QN (t : Table) : Option (List UInt8 × Int):=if Zy t then (if (Zq t).isSome then some (t.s.name,14) else none) else some (t.s.name,1)
def Za7 (l : List Table) (t : Table) (f : Foreign) : Option (List UInt8 × Int):=if (Zk1 t (tgt l f.table) f).isSome then some (t.s.name,15) else none
def YK (l : List Table) : List UInt8 × Int:=if (Xu (l.map Table.s)).2 ≠ 0 then Xu (l.map Table.s) else ((l.findSome? QN).or (l.findSome? fun t=>t.s.fks.findSome? (Za7 l t))).getD ([],0)
section
variable {l : List Table} {t o x : Table} {f : Foreign} {nm : List UInt8} {k i j : Nat} {r : List UInt8 × Int}
theorem Zst : Yf (l.map Table.s) nm = (l.find? fun o=>decide (o.s.name = nm)).map Table.s:=by unfold Yf; rw [List.find?_map]; rfl
theorem Zf (h : 0 ≤ Xe (fun o=>decide (o.s.name = nm)) l) (hx : l[(Xe (fun o=>decide (o.s.name = nm)) l).toNat]? = some x) : tgt l nm = x:=by
 unfold tgt; rw [(Zfh h).2 x hx]; rfl
theorem Zq7 {p : Table → Bool} (h : (l.find? p).isSome = true) : 0 ≤ Xe p l:=by
 unfold Xe
 split
 ·omega
 ·rename_i e
  rw [List.findIdx?_eq_none_iff] at e
  have : l.find? p = none:=by rw [List.find?_eq_none]; intro y hy; rw [e y hy]; simp
  rw [this] at h; cases h
theorem Zk9 (h : (Xu (l.map Table.s)).2 = 0) (hv : ∀ t ∈ l,Zy t = true) (ht : t ∈ l) (hf : f ∈ t.s.fks) : 0 ≤ Xe (fun o=>decide (o.s.name = f.table)) l ∧ tgt l f.table ∈ l ∧ Zy (tgt l f.table) = true ∧ Zeu t.s (tgt l f.table).s f = true:=by
 obtain ⟨h1,h2⟩:=(ZtM h).2 t.s (List.mem_map.2 ⟨t,ht,rfl⟩) f hf
 rw [Zst] at h1 h2
 cases e : l.find? fun o=>decide (o.s.name = f.table) with
 | none=>rw [e] at h1; cases h1
 | some o=>
  have hm:=List.mem_of_find?_eq_some e
  have et : tgt l f.table = o:=by unfold tgt; rw [e]; rfl
  rw [et]
  rw [e] at h2
  exact ⟨Zq7 (by rw [e]; rfl),hm,hv o hm,h2⟩
theorem Z4 (h : Zy t = false) : QN t = some (t.s.name,1):=by unfold QN; rw [h]; rfl
theorem Zu (h : Zy t = true) (h2 : (Zq t).isSome = true) : QN t = some (t.s.name,14):=by unfold QN; rw [h,h2]; rfl
theorem ZoG (h : Zy t = true) (h2 : (Zq t).isSome = false) : QN t = none:=by unfold QN; rw [h,h2]; rfl
theorem ZD (h : (Xu (l.map Table.s)).2 ≠ 0) : (Xu (l.map Table.s)).1 = (YK l).1 ∧ (Xu (l.map Table.s)).2 = (YK l).2:=by unfold YK; rw [if_pos h]; exact ⟨rfl,rfl⟩
theorem ZE (h : (Xu (l.map Table.s)).2 = 0) (h1 : ∀ j,j < k → ∀ x,l[j]? = some x → QN x = none) (hx : l[k]? = some x) (hr : QN x = some r) : r.1 = (YK l).1 ∧ r.2 = (YK l).2:=by
 have e : l.findSome? QN = some r:=Zex h1 hx hr
 unfold YK; rw [if_neg (by omega),e]; exact ⟨rfl,rfl⟩
theorem ZF (h : (Xu (l.map Table.s)).2 = 0) (h1 : ∀ j,j < k → ∀ x,l[j]? = some x → QN x = none) (hk : l.length ≤ k) (h2 : ∀ i',i' < i → ∀ t,l[i']? = some t → t.s.fks.findSome? (Za7 l t) = none) (hx : l[i]? = some x)
  (h3 : ∀ j',j' < j → ∀ f,x.s.fks[j']? = some f → Za7 l x f = none) (hf : x.s.fks[j]? = some f) (hr : Za7 l x f = some r) : r.1 = (YK l).1 ∧ r.2 = (YK l).2:=by
 have e1 : l.findSome? QN = none:=ZbN h1 hk
 have e2 : (l.findSome? fun t=>t.s.fks.findSome? (Za7 l t)) = some r:=Zex (f:=fun t : Table=>t.s.fks.findSome? (Za7 l t)) h2 hx (Zex h3 hf hr)
 unfold YK; rw [if_neg (by omega),e1,e2]; exact ⟨rfl,rfl⟩
theorem ZG (h : (Xu (l.map Table.s)).2 = 0) (h1 : ∀ j,j < k → ∀ x,l[j]? = some x → QN x = none) (hk : l.length ≤ k) (h2 : ∀ i',i' < i → ∀ t,l[i']? = some t → t.s.fks.findSome? (Za7 l t) = none) (hi : l.length ≤ i) : [] = (YK l).1 ∧ 0 = (YK l).2:=by
 have e1 : l.findSome? QN = none:=ZbN h1 hk
 have e2 : (l.findSome? fun t=>t.s.fks.findSome? (Za7 l t)) = none:=ZbN (f:=fun t : Table=>t.s.fks.findSome? (Za7 l t)) h2 hi
 unfold YK; rw [if_neg (by omega),e1,e2]; exact ⟨rfl,rfl⟩
theorem Zi3 (h1 : ∀ j,j < k → ∀ x,l[j]? = some x → QN x = none) (hk : l.length ≤ k) : ∀ t ∈ l,Zy t = true:=fun t ht=>by
 obtain ⟨i,hi⟩:=List.getElem?_of_mem ht
 obtain ⟨hlt,_⟩:=List.getElem?_eq_some_iff.1 hi
 have:=h1 i (by omega) t hi
 unfold QN at this
 split at this
 ·assumption
 ·cases this
theorem Zv (he : tgt l f.table = o) (h : (Zk1 t o f).isSome = true) : Za7 l t f = some (t.s.name,15):=by unfold Za7; rw [he,h]; rfl
theorem Zhh (he : tgt l f.table = o) (h : (Zk1 t o f).isSome = false) : Za7 l t f = none:=by unfold Za7; rw [he,h]; rfl
theorem Z6 (h : Zy t = true) {b : Bool} (h2 : (X6 t).isSome = b) : (Zq t).isSome = b:=by rw [← Zqk h]; exact h2
theorem ZB (h1 : Zy t = true) (h2 : Zy o = true) (h3 : Zeu t.s o.s f = true) {b : Bool} (h : (YS t o f (-62135596800)).isSome = b) : (Zk1 t o f).isSome = b:=by
 have e:=Zsn (x:=⟨t,o,f⟩) (fr:=-62135596800) (ZdG h1 h2 h3)
 rw [show Zk1 t o f = YS t o f (-62135596800) from e.symm]; exact h
end
end Go.Civ
