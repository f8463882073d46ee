/- Lemmas. -/
import Derived.Test.YthgeclodflmiaaaGreatM29
import Derived.Test.YthgeclodflmiaaaGreatM32
import Derived.Test.YthgeclodflmiaaaGreatM34
import Derived.Test.YthgeclodflmiaaaGreatM35
import Derived.Test.YthgeclodflmiaaaGreatM37
import Derived.Test.YthgeclodflmiaaaGreatProg
import Derived.KernelRfl
import Derived.WalkKit
set_option linter.unusedVariables false
set_option linter.unusedSimpArgs false
set_option maxRecDepth 100000
set_option maxHeartbeats 4000000
namespace Go.Civ
open Go.Proofs
theorem Zqx {G : GH} {w : World} (hG : G.In w) (t : Table) (ct : List Value) (hct : TableE.rep G t ct) : CL Tryz.prog (nat_lit 13) #[.agg ct.toArray] [] w G fun G' _ r=>∃ r0 r1,r = .tuple #[r0,r1] ∧ Is HRowE G' r0 (QY t) ∧ r1 = .bool (Xo t):=by
 refine Y9 ft [] Tryz.func13 rfl rfl ?_
 have hS:=St.start (X:=[]) hG
 obtain ⟨v1,v2,v3,rfl,hb1,hs1,hb2,hs2,hs3,hb3⟩:=Z1 hct
 refine Zu [Zd t.s.name,v1, .int .i64 t.s.key,v2,v3, .int .i64 t.last] _ hS rfl rfl rfl (fun p1 w1 G1 hle1 hsp1 hc1 hS1=>?_)
 refine WL.alloc hS1 Zr rfl rfl (fun b1 w2 hn1 hS2=>?_)
 refine Zc hS2 hc1 [Zd t.s.name,v1, .int .i64 t.s.key,v2,v3, .int .i64 t.last] Zv rfl rfl rfl rfl rfl ?_
 refine Zm hS2 Xm rfl rfl rfl (Q8 hS2.imm t _ (Zq t hb1 (hs1.mono hle1) hb2 (hs2.mono hle1) (hs3.mono hle1) hb3)) (fun w3 G2 hS3 hle2=>?_)
 refine WL.split (fun (h1 : (Zo t) = true)=>?_) (fun (h1 : (Zo t) = false)=>?_)
 ·refine Zc hS3 (hc1.mono hle2) [Zd t.s.name,v1, .int .i64 t.s.key,v2,v3, .int .i64 t.last] Zv rfl rfl rfl rfl rfl ?_
  refine Z3 hS3 ZsY rfl rfl rfl (ZfM hS3.imm t _ (Zq t hb1 (hs1.mono (hle1.trans hle2)) hb2 (hs2.mono (hle1.trans hle2)) (hs3.mono (hle1.trans hle2)) hb3) ‹_›) ?_
  rintro w4 G3 _ ⟨r2,_,rfl,hs4,rfl⟩ hS4 hle3
  obtain ⟨cs1,rfl,hr1⟩:=hs4
  obtain ⟨v4,rfl,hb4,hb5,hs5⟩:=Qm hr1
  refine WL.alloc hS4 ZU rfl rfl (fun b2 w5 hn2 hS5=>?_)
  refine WL.store hS5 0 _ _ _ 0 _ [.int .i64 ((ZK (Zw t)).tx), .int .i64 ((ZK (Zw t)).vd),v4] [.int .i64 ((ZK (Zw t)).tx), .int .i64 ((ZK (Zw t)).vd),v4] _ rfl rfl ZU rfl (Nat.le_of_ble_eq_true rfl) (by simp only [List.all_cons,List.all_nil,hs5.oneC,Bool.true_and] <;> rfl) rfl rfl rfl rfl rfl (fun w6 hS6=>?_)
  obtain ⟨G4,hle4,hc2,hS7⟩:=hS6.shutB hn2
  refine XD (d:=14) rfl (fun (h2 : ((Zw t).isSome) = true)=>?_) (fun (h2 : ((Zw t).isSome) = false)=>?_)
  ·refine Zc hS7 hc2 [.int .i64 ((ZK (Zw t)).tx), .int .i64 ((ZK (Zw t)).vd),v4] ZU rfl rfl rfl rfl rfl ?_
   refine Z3 hS7 ZsZ rfl rfl rfl (Zl0 hS7.imm (Pt.mk ((ZK (Zw t)).tx) ((ZK (Zw t)).vd) ((ZK (Zw t)).v)) _ (X7 (Pt.mk ((ZK (Zw t)).tx) ((ZK (Zw t)).vd) ((ZK (Zw t)).v)) hb4 hb5 (hs5.mono hle4)) (Zhq ‹_› ‹_›).1 (Zhq ‹_› ‹_›).2) (fun w7 G5 r4 hpost2 hS8 hle5=>?_)
   obtain ⟨cs2,rfl,hr2⟩:=hpost2
   obtain ⟨v5,rfl,hs6,hb6,hb7,hb8,hb9⟩:=Z0 hr2
   refine WL.store hS8 0 _ _ _ 0 _ [v5, .int .i64 ((ZJ (some (Pt.mk ((ZK (Zw t)).tx) ((ZK (Zw t)).vd) ((ZK (Zw t)).v)))).r.d.a), .int .i64 ((ZJ (some (Pt.mk ((ZK (Zw t)).tx) ((ZK (Zw t)).vd) ((ZK (Zw t)).v)))).r.d.b), .int .i64 ((ZJ (some (Pt.mk ((ZK (Zw t)).tx) ((ZK (Zw t)).vd) ((ZK (Zw t)).v)))).r.x.a), .int .i64 ((ZJ (some (Pt.mk ((ZK (Zw t)).tx) ((ZK (Zw t)).vd) ((ZK (Zw t)).v)))).r.x.b)] [v5, .int .i64 ((ZJ (some (Pt.mk ((ZK (Zw t)).tx) ((ZK (Zw t)).vd) ((ZK (Zw t)).v)))).r.d.a), .int .i64 ((ZJ (some (Pt.mk ((ZK (Zw t)).tx) ((ZK (Zw t)).vd) ((ZK (Zw t)).v)))).r.d.b), .int .i64 ((ZJ (some (Pt.mk ((ZK (Zw t)).tx) ((ZK (Zw t)).vd) ((ZK (Zw t)).v)))).r.x.a), .int .i64 ((ZJ (some (Pt.mk ((ZK (Zw t)).tx) ((ZK (Zw t)).vd) ((ZK (Zw t)).v)))).r.x.b)] _ rfl rfl Zr rfl (Nat.le_of_ble_eq_true rfl) (by simp only [List.all_cons,List.all_nil,hs6.oneC,Bool.true_and] <;> rfl) rfl rfl rfl rfl rfl (fun w9 hS9=>?_)
   exact Xr [.agg #[v5, .int .i64 ((ZJ (some (Pt.mk ((ZK (Zw t)).tx) ((ZK (Zw t)).vd) ((ZK (Zw t)).v)))).r.d.a), .int .i64 ((ZJ (some (Pt.mk ((ZK (Zw t)).tx) ((ZK (Zw t)).vd) ((ZK (Zw t)).v)))).r.d.b), .int .i64 ((ZJ (some (Pt.mk ((ZK (Zw t)).tx) ((ZK (Zw t)).vd) ((ZK (Zw t)).v)))).r.x.a), .int .i64 ((ZJ (some (Pt.mk ((ZK (Zw t)).tx) ((ZK (Zw t)).vd) ((ZK (Zw t)).v)))).r.x.b)], .bool false] hS9 ⟨_,_,_,rfl,rfl,hS9.loadA 0 _ _ _ 0 [v5, .int .i64 ((ZJ (some (Pt.mk ((ZK (Zw t)).tx) ((ZK (Zw t)).vd) ((ZK (Zw t)).v)))).r.d.a), .int .i64 ((ZJ (some (Pt.mk ((ZK (Zw t)).tx) ((ZK (Zw t)).vd) ((ZK (Zw t)).v)))).r.d.b), .int .i64 ((ZJ (some (Pt.mk ((ZK (Zw t)).tx) ((ZK (Zw t)).vd) ((ZK (Zw t)).v)))).r.x.a), .int .i64 ((ZJ (some (Pt.mk ((ZK (Zw t)).tx) ((ZK (Zw t)).vd) ((ZK (Zw t)).v)))).r.x.b)] rfl rfl rfl Zr rfl,⟨_,rfl,rfl⟩⟩ ⟨_,_,rfl,(Is.cast ⟨_,rfl,(ZH (HRow.mk ((ZJ (some (Pt.mk ((ZK (Zw t)).tx) ((ZK (Zw t)).vd) ((ZK (Zw t)).v)))).v) (Rect.mk (Span.mk ((ZJ (some (Pt.mk ((ZK (Zw t)).tx) ((ZK (Zw t)).vd) ((ZK (Zw t)).v)))).r.d.a) ((ZJ (some (Pt.mk ((ZK (Zw t)).tx) ((ZK (Zw t)).vd) ((ZK (Zw t)).v)))).r.d.b)) (Span.mk ((ZJ (some (Pt.mk ((ZK (Zw t)).tx) ((ZK (Zw t)).vd) ((ZK (Zw t)).v)))).r.x.a) ((ZJ (some (Pt.mk ((ZK (Zw t)).tx) ((ZK (Zw t)).vd) ((ZK (Zw t)).v)))).r.x.b)))) hs6 hb6 hb7 hb8 hb9)⟩ (by exact (Zoy ‹_› ‹_›).1)),(congrArg Value.bool (by exact (Zoy ‹_› ‹_›).2))⟩
  refine WL.build _ [] [.slice none 0 0, .int .i64 0, .int .i64 0, .int .i64 0, .int .i64 0] Zr rfl QR rfl rfl rfl rfl ?_
  refine WL.store hS7 0 _ _ _ 0 _ [.slice none 0 0, .int .i64 0, .int .i64 0, .int .i64 0, .int .i64 0] [.slice none 0 0, .int .i64 0, .int .i64 0, .int .i64 0, .int .i64 0] _ rfl rfl Zr rfl (Nat.le_of_ble_eq_true rfl) rfl rfl rfl rfl rfl rfl (fun w10 hS10=>?_)
  exact Xr [.agg #[.slice none 0 0, .int .i64 0, .int .i64 0, .int .i64 0, .int .i64 0], .bool true] hS10 ⟨_,_,_,rfl,rfl,hS10.loadA 0 _ _ _ 0 [.slice none 0 0, .int .i64 0, .int .i64 0, .int .i64 0, .int .i64 0] rfl rfl rfl Zr rfl,⟨_,rfl,rfl⟩⟩ ⟨_,_,rfl,(Is.cast ⟨_,rfl,(ZH (HRow.mk [] (Rect.mk (Span.mk 0 0) (Span.mk 0 0))) (Sl.nil ValE 32 G4) ZO ZO ZO ZO)⟩ (by exact (Zoz ‹_› ‹_›).1)),(congrArg Value.bool (by exact (Zoz ‹_› ‹_›).2))⟩
 refine WL.build _ [] [.slice none 0 0, .int .i64 0, .int .i64 0, .int .i64 0, .int .i64 0] Zr rfl QR rfl rfl rfl rfl ?_
 refine WL.store hS3 0 _ _ _ 0 _ [.slice none 0 0, .int .i64 0, .int .i64 0, .int .i64 0, .int .i64 0] [.slice none 0 0, .int .i64 0, .int .i64 0, .int .i64 0, .int .i64 0] _ rfl rfl Zr rfl (Nat.le_of_ble_eq_true rfl) rfl rfl rfl rfl rfl rfl (fun w11 hS11=>?_)
 exact Xr [.agg #[.slice none 0 0, .int .i64 0, .int .i64 0, .int .i64 0, .int .i64 0], .bool false] hS11 ⟨_,_,_,rfl,rfl,hS11.loadA 0 _ _ _ 0 [.slice none 0 0, .int .i64 0, .int .i64 0, .int .i64 0, .int .i64 0] rfl rfl rfl Zr rfl,⟨_,rfl,rfl⟩⟩ ⟨_,_,rfl,(Is.cast ⟨_,rfl,(ZH (HRow.mk [] (Rect.mk (Span.mk 0 0) (Span.mk 0 0))) (Sl.nil ValE 32 G2) ZO ZO ZO ZO)⟩ (by exact (Zox ‹_›).1)),(congrArg Value.bool (by exact (Zox ‹_›).2))⟩
theorem Zl8 {G : GH} {w : World} (hG : G.In w) (t : Table) (ct : List Value) (hct : TableE.rep G t ct) : CL Tryz.prog (nat_lit 72) #[.agg ct.toArray] [] w G fun _ _ r=>r = .bool (Xo t):=by
 refine Zg ft [] Tryz.func72 rfl rfl ?_
 have hS:=St.start (X:=[]) hG
 obtain ⟨v1,v2,v3,rfl,hb1,hs1,hb2,hs2,hs3,hb3⟩:=Z1 hct
 refine Zu [Zd t.s.name,v1, .int .i64 t.s.key,v2,v3, .int .i64 t.last] _ hS rfl rfl rfl (fun p1 w1 G1 hle1 hsp1 hc1 hS1=>?_)
 refine Zc hS1 hc1 [Zd t.s.name,v1, .int .i64 t.s.key,v2,v3, .int .i64 t.last] Zv rfl rfl rfl rfl rfl <| Z3 hS1 YT rfl rfl rfl (Zqx hS1.imm t _ (Zq t hb1 (hs1.mono hle1) hb2 (hs2.mono hle1) (hs3.mono hle1) hb3)) ?_
 rintro w2 G2 _ ⟨r2,_,rfl,hs4,rfl⟩ hS2 hle2
 obtain ⟨cs1,rfl,hr1⟩:=hs4
 obtain ⟨v4,rfl,hs5,hb4,hb5,hb6,hb7⟩:=Z0 hr1
 refine WL.alloc hS2 Zr rfl rfl (fun b1 w3 hn1 hS3=>?_)
 refine WL.store hS3 0 _ _ _ 0 _ [v4, .int .i64 ((QY t).r.d.a), .int .i64 ((QY t).r.d.b), .int .i64 ((QY t).r.x.a), .int .i64 ((QY t).r.x.b)] [v4, .int .i64 ((QY t).r.d.a), .int .i64 ((QY t).r.d.b), .int .i64 ((QY t).r.x.a), .int .i64 ((QY t).r.x.b)] _ rfl rfl Zr rfl (Nat.le_of_ble_eq_true rfl) (by simp only [List.all_cons,List.all_nil,hs5.oneC,Bool.true_and] <;> rfl) rfl rfl rfl rfl rfl (fun w4 hS4=>?_)
 obtain ⟨G3,hle3,hc2,hS5⟩:=hS4.shutB hn1
 exact RB hS5 rfl (by rfl)
theorem Zs1 {G : GH} {w : World} (hG : G.In w) (t : Table) (e : Int) (ct : List Value) (hct : TableE.rep G t ct) (hv : e = 0 → Zo t = true) : CL Tryz.prog (nat_lit 106) #[.agg ct.toArray, .int .i64 e] [] w G fun G' _ r=>∃ r0 r1,r = .tuple #[r0,r1] ∧ Is TableE G' r0 (Qn t e) ∧ r1 = .int .i64 (Zce t e):=by
 refine Y9 ft [] Tryz.func106 rfl rfl ?_
 have hS:=St.start (X:=[]) hG
 obtain ⟨v1,v2,v3,rfl,hb1,hs1,hb2,hs2,hs3,hb3⟩:=Z1 hct
 refine Zu [Zd t.s.name,v1, .int .i64 t.s.key,v2,v3, .int .i64 t.last] _ hS rfl rfl rfl (fun p1 w1 G1 hle1 hsp1 hc1 hS1=>?_)
 refine WL.alloc hS1 Zv rfl rfl (fun b1 w2 hn1 hS2=>?_)
 refine YO e 0 rfl rfl rfl (fun h1=>?_) (fun h1=>?_)
 ·refine WL.build _ [] [Zd [], .slice none 0 0, .int .i64 0, .slice none 0 0, .slice none 0 0, .int .i64 0] Zv rfl ZaX rfl rfl rfl rfl ?_
  refine WL.store hS2 0 _ _ _ 0 _ [Zd [], .slice none 0 0, .int .i64 0, .slice none 0 0, .slice none 0 0, .int .i64 0] [Zd [], .slice none 0 0, .int .i64 0, .slice none 0 0, .slice none 0 0, .int .i64 0] _ rfl rfl Zv rfl (Nat.le_of_ble_eq_true rfl) rfl rfl rfl rfl rfl rfl (fun w3 hS3=>?_)
  exact Xr [.agg #[Zd [], .slice none 0 0, .int .i64 0, .slice none 0 0, .slice none 0 0, .int .i64 0], .int .i64 e] hS3 ⟨_,_,_,rfl,rfl,hS3.loadA 0 _ _ _ 0 [Zd [], .slice none 0 0, .int .i64 0, .slice none 0 0, .slice none 0 0, .int .i64 0] rfl rfl rfl Zv rfl,⟨_,rfl,rfl⟩⟩ ⟨_,_,rfl,(Is.cast ⟨_,rfl,(Zq (Table.mk (Schema.mk [] [] 0 []) [] 0) (by simp [reach]) (Sl.nil ColE 24 G1) ZO (Sl.nil ForeignE 40 G1) (Sl.nil HRowE 56 G1) ZO)⟩ (by exact (Zry ‹_›).1)),(congrArg (Value.int .i64) (by exact (Zry ‹_›).2))⟩
 refine Zc hS2 hc1 [Zd t.s.name,v1, .int .i64 t.s.key,v2,v3, .int .i64 t.last] Zv rfl rfl rfl rfl rfl ?_
 refine Z3 hS2 ZsY rfl rfl rfl (ZfM hS2.imm t _ (Zq t hb1 (hs1.mono hle1) hb2 (hs2.mono hle1) (hs3.mono hle1) hb3) (hv ‹_›)) ?_
 rintro w4 G2 _ ⟨r2,_,rfl,hs4,rfl⟩ hS4 hle2
 obtain ⟨cs1,rfl,hr1⟩:=hs4
 obtain ⟨v4,rfl,hb4,hb5,hs5⟩:=Qm hr1
 refine WL.alloc hS4 ZU rfl rfl (fun b2 w5 hn2 hS5=>?_)
 refine WL.store hS5 0 _ _ _ 0 _ [.int .i64 ((ZK (Zw t)).tx), .int .i64 ((ZK (Zw t)).vd),v4] [.int .i64 ((ZK (Zw t)).tx), .int .i64 ((ZK (Zw t)).vd),v4] _ rfl rfl ZU rfl (Nat.le_of_ble_eq_true rfl) (by simp only [List.all_cons,List.all_nil,hs5.oneC,Bool.true_and] <;> rfl) rfl rfl rfl rfl rfl (fun w6 hS6=>?_)
 obtain ⟨G3,hle3,hc2,hS7⟩:=hS6.shutB hn2
 refine XD (d:=16) rfl (fun (h2 : ((Zw t).isSome) = true)=>?_) (fun (h2 : ((Zw t).isSome) = false)=>?_)
 ·refine WL.build _ [] [Zd [], .slice none 0 0, .int .i64 0, .slice none 0 0, .slice none 0 0, .int .i64 0] Zv rfl ZaX rfl rfl rfl rfl ?_
  refine WL.store hS7 0 _ _ _ 0 _ [Zd [], .slice none 0 0, .int .i64 0, .slice none 0 0, .slice none 0 0, .int .i64 0] [Zd [], .slice none 0 0, .int .i64 0, .slice none 0 0, .slice none 0 0, .int .i64 0] _ rfl rfl Zv rfl (Nat.le_of_ble_eq_true rfl) rfl rfl rfl rfl rfl rfl (fun w7 hS8=>?_)
  exact Xr [.agg #[Zd [], .slice none 0 0, .int .i64 0, .slice none 0 0, .slice none 0 0, .int .i64 0], .int .i64 14] hS8 ⟨_,_,_,rfl,rfl,hS8.loadA 0 _ _ _ 0 [Zd [], .slice none 0 0, .int .i64 0, .slice none 0 0, .slice none 0 0, .int .i64 0] rfl rfl rfl Zv rfl,⟨_,rfl,rfl⟩⟩ ⟨_,_,rfl,(Is.cast ⟨_,rfl,(Zq (Table.mk (Schema.mk [] [] 0 []) [] 0) (by simp [reach]) (Sl.nil ColE 24 G3) ZO (Sl.nil ForeignE 40 G3) (Sl.nil HRowE 56 G3) ZO)⟩ (by exact (Zrz ‹_› ‹_›).1)),(congrArg (Value.int .i64) (by exact (Zrz ‹_› ‹_›).2))⟩
 refine Zc hS7 (hc1.mono (hle2.trans hle3)) [Zd t.s.name,v1, .int .i64 t.s.key,v2,v3, .int .i64 t.last] Zv rfl rfl rfl rfl rfl ?_
 refine WL.store hS7 0 _ _ _ 0 _ [Zd t.s.name,v1, .int .i64 t.s.key,v2,v3, .int .i64 t.last] [Zd t.s.name,v1, .int .i64 t.s.key,v2,v3, .int .i64 t.last] _ rfl rfl Zv rfl (Nat.le_of_ble_eq_true rfl) (by simp only [List.all_cons,List.all_nil,(hs1.mono ((hle1.trans hle2).trans hle3)).oneC,(hs2.mono ((hle1.trans hle2).trans hle3)).oneC,(hs3.mono ((hle1.trans hle2).trans hle3)).oneC,Bool.true_and] <;> rfl) rfl rfl rfl rfl rfl (fun w9 hS9=>?_)
 exact Xr [.agg #[Zd t.s.name,v1, .int .i64 t.s.key,v2,v3, .int .i64 t.last], .int .i64 0] hS9 ⟨_,_,_,rfl,rfl,hS9.loadA 0 _ _ _ 0 [Zd t.s.name,v1, .int .i64 t.s.key,v2,v3, .int .i64 t.last] rfl rfl rfl Zv rfl,⟨_,rfl,rfl⟩⟩ ⟨_,_,rfl,(Is.cast ⟨_,rfl,(Zq t hb1 (hs1.mono ((hle1.trans hle2).trans hle3)) hb2 (hs2.mono ((hle1.trans hle2).trans hle3)) (hs3.mono ((hle1.trans hle2).trans hle3)) hb3)⟩ (by exact (Zr0 ‹_› ‹_›).1)),(congrArg (Value.int .i64) (by exact (Zr0 ‹_› ‹_›).2))⟩
theorem Zde {G : GH} {w : World} (hG : G.In w) (t : Table) (tx : Int) (v : List Val) (d : Span) (ct : List Value) (hct : TableE.rep G t ct) (vv : Value) (hvv : Sl ValE 32 G vv v) (cd : List Value) (hcd : SpanE.rep G d cd) (htx64 : Zz tx) : CL Tryz.prog (nat_lit 49) #[.agg ct.toArray, .int .i64 tx,vv, .agg cd.toArray] [] w G fun G' _ r=>∃ r0 r1,r = .tuple #[r0,r1] ∧ Is TableE G' r0 (Zy t tx v d) ∧ r1 = .int .i64 (QZ t tx v d):=by
 refine Y9 ft [] Tryz.func49 rfl rfl ?_
 have hS:=St.start (X:=[]) hG
 obtain ⟨v1,v2,v3,rfl,hb1,hs1,hb2,hs2,hs3,hb3⟩:=Z1 hct
 obtain ⟨rfl,hb4,hb5⟩:=Z6 hcd
 refine Zu [Zd t.s.name,v1, .int .i64 t.s.key,v2,v3, .int .i64 t.last] _ hS rfl rfl rfl (fun p1 w1 G1 hle1 hsp1 hc1 hS1=>?_)
 refine Zu [.int .i64 d.a, .int .i64 d.b] _ hS1 rfl rfl rfl (fun p2 w2 G2 hle2 hsp2 hc2 hS2=>?_)
 refine WL.alloc hS2 Zv rfl rfl (fun b1 w3 hn1 hS3=>?_)
 refine Zc hS3 (hc1.mono hle2) [Zd t.s.name,v1, .int .i64 t.s.key,v2,v3, .int .i64 t.last] Zv rfl rfl rfl rfl rfl ?_
 refine Zm hS3 Zte rfl rfl rfl (Zl8 hS3.imm t _ (Zq t hb1 (hs1.mono (hle1.trans hle2)) hb2 (hs2.mono (hle1.trans hle2)) (hs3.mono (hle1.trans hle2)) hb3)) (fun w4 G3 hS4 hle3=>?_)
 refine WL.split (fun (h1 : (Xo t) = true)=>?_) (fun (h1 : (Xo t) = false)=>?_)
 ·refine Zc hS4 (hc1.mono (hle2.trans hle3)) [Zd t.s.name,v1, .int .i64 t.s.key,v2,v3, .int .i64 t.last] Zv rfl rfl rfl rfl rfl <| Zc hS4 (hc2.mono hle3) [.int .i64 d.a, .int .i64 d.b] Zs rfl rfl rfl rfl rfl <| Z3 hS4 Zdj rfl rfl rfl (Zix hS4.imm t tx v d _ (Zq t hb1 (hs1.mono ((hle1.trans hle2).trans hle3)) hb2 (hs2.mono ((hle1.trans hle2).trans hle3)) (hs3.mono ((hle1.trans hle2).trans hle3)) hb3) _ (hvv.mono ((hle1.trans hle2).trans hle3)) _ (Zt d hb4 hb5) htx64) ?_
  rintro w5 G4 _ ⟨r2,_,rfl,hs4,rfl⟩ hS5 hle4
  obtain ⟨cs1,rfl,hr1⟩:=hs4
  obtain ⟨v4,v5,v6,rfl,hb6,hs5,hb7,hs6,hs7,hb8⟩:=Z1 hr1
  refine Z3 hS5 Zu0 rfl rfl rfl (Zs1 hS5.imm (ZN t tx v d) (Yw t tx v d) _ (Zq (ZN t tx v d) hb6 hs5 hb7 hs6 hs7 hb8) Zow) ?_
  rintro w6 G5 _ ⟨r5,_,rfl,hs8,rfl⟩ hS6 hle5
  obtain ⟨cs2,rfl,hr2⟩:=hs8
  obtain ⟨v7,v9,v10,rfl,hb9,hs9,hb10,hs10,hs11,Y4⟩:=Z1 hr2
  refine WL.store hS6 0 _ _ _ 0 _ [Zd ((Qn (ZN t tx v d) (Yw t tx v d)).s.name),v7, .int .i64 ((Qn (ZN t tx v d) (Yw t tx v d)).s.key),v9,v10, .int .i64 ((Qn (ZN t tx v d) (Yw t tx v d)).last)] [Zd ((Qn (ZN t tx v d) (Yw t tx v d)).s.name),v7, .int .i64 ((Qn (ZN t tx v d) (Yw t tx v d)).s.key),v9,v10, .int .i64 ((Qn (ZN t tx v d) (Yw t tx v d)).last)] _ rfl rfl Zv rfl (Nat.le_of_ble_eq_true rfl) (by simp only [List.all_cons,List.all_nil,hs9.oneC,hs10.oneC,hs11.oneC,Bool.true_and] <;> rfl) rfl rfl rfl rfl rfl (fun w7 hS7=>?_)
  exact Xr [.agg #[Zd ((Qn (ZN t tx v d) (Yw t tx v d)).s.name),v7, .int .i64 ((Qn (ZN t tx v d) (Yw t tx v d)).s.key),v9,v10, .int .i64 ((Qn (ZN t tx v d) (Yw t tx v d)).last)], .int .i64 (Zce (ZN t tx v d) (Yw t tx v d))] hS7 ⟨_,_,_,rfl,rfl,hS7.loadA 0 _ _ _ 0 [Zd ((Qn (ZN t tx v d) (Yw t tx v d)).s.name),v7, .int .i64 ((Qn (ZN t tx v d) (Yw t tx v d)).s.key),v9,v10, .int .i64 ((Qn (ZN t tx v d) (Yw t tx v d)).last)] rfl rfl rfl Zv rfl,⟨_,rfl,rfl⟩⟩ ⟨_,_,rfl,(Is.cast ⟨_,rfl,(Zq (Qn (ZN t tx v d) (Yw t tx v d)) hb9 hs9 hb10 hs10 hs11 Y4)⟩ (by exact (Zhp ‹_›).1)),(congrArg (Value.int .i64) (by exact (Zhp ‹_›).2))⟩
 refine WL.build _ [] [Zd [], .slice none 0 0, .int .i64 0, .slice none 0 0, .slice none 0 0, .int .i64 0] Zv rfl ZaX rfl rfl rfl rfl ?_
 refine WL.store hS4 0 _ _ _ 0 _ [Zd [], .slice none 0 0, .int .i64 0, .slice none 0 0, .slice none 0 0, .int .i64 0] [Zd [], .slice none 0 0, .int .i64 0, .slice none 0 0, .slice none 0 0, .int .i64 0] _ rfl rfl Zv rfl (Nat.le_of_ble_eq_true rfl) rfl rfl rfl rfl rfl rfl (fun w9 hS8=>?_)
 exact Xr [.agg #[Zd [], .slice none 0 0, .int .i64 0, .slice none 0 0, .slice none 0 0, .int .i64 0], .int .i64 1] hS8 ⟨_,_,_,rfl,rfl,hS8.loadA 0 _ _ _ 0 [Zd [], .slice none 0 0, .int .i64 0, .slice none 0 0, .slice none 0 0, .int .i64 0] rfl rfl rfl Zv rfl,⟨_,rfl,rfl⟩⟩ ⟨_,_,rfl,(Is.cast ⟨_,rfl,(Zq (Table.mk (Schema.mk [] [] 0 []) [] 0) (by simp [reach]) (Sl.nil ColE 24 G3) ZO (Sl.nil ForeignE 40 G3) (Sl.nil HRowE 56 G3) ZO)⟩ (by exact (Zov ‹_›).1)),(congrArg (Value.int .i64) (by exact (Zov ‹_›).2))⟩
end Go.Civ
set_option linter.unusedVariables false
set_option linter.unusedSimpArgs false
set_option maxRecDepth 100000
set_option maxHeartbeats 4000000
namespace Go.Civ
open Go.Proofs
theorem Zq4 {G : GH} {w : World} (hG : G.In w) (x : HRow) (cx : List Value) (hcx : HRowE.rep G x cx) : CL Tryz.prog (nat_lit 59) #[.agg cx.toArray] [] w G fun _ _ r=>r = .bool (Zk2 x):=by
 refine Zg ft [] Tryz.func59 rfl rfl ?_
 have hS:=St.start (X:=[]) hG
 obtain ⟨v1,rfl,hs1,hb1,hb2,hb3,hb4⟩:=Z0 hcx
 refine Zu [v1, .int .i64 x.r.d.a, .int .i64 x.r.d.b, .int .i64 x.r.x.a, .int .i64 x.r.x.b] _ hS rfl rfl rfl (fun p1 w1 G1 hle1 hsp1 hc1 hS1=>?_)
 refine Za hS1 (XV.drop 0 hc1) Z9 rfl rfl rfl ?_
 have bd1:=hs1.bound
 refine Zi (hs1.mono hle1) Yl rfl rfl <| ZZ .gtr rfl .i64 (x.v.length : Int) 20 rfl rfl rfl ?_
 exact RB hS1 rfl (by rfl)
theorem Zl9 {G : GH} {w : World} (hG : G.In w) (t : Table) (ct : List Value) (hct : TableE.rep G t ct) : CL Tryz.prog (nat_lit 12) #[.agg ct.toArray] [] w G fun _ _ r=>r = .bool (Zb3 t):=by
 refine Zg ft [] Tryz.func12 rfl rfl ?_
 have hS:=St.start (X:=[]) hG
 obtain ⟨v1,v2,v3,rfl,hb1,hs1,hb2,hs2,hs3,hb3⟩:=Z1 hct
 refine Zu [Zd t.s.name,v1, .int .i64 t.s.key,v2,v3, .int .i64 t.last] _ hS rfl rfl rfl (fun p1 w1 G1 hle1 hsp1 hc1 hS1=>?_)
 refine Za hS1 (XV.drop 4 hc1) YD rfl rfl rfl ?_
 have bd1:=hs3.bound
 refine Zi (hs3.mono hle1) Yc rfl rfl ?_
 refine Qe (t.rows.length : Int) 24 rfl rfl rfl (fun h1=>?_) (fun h1=>?_)
 ·refine Za hS1 (XV.drop 1 (XV.drop 0 hc1)) ZaG rfl rfl rfl ?_
  have bd2:=hs1.bound
  refine Zi (hs1.mono hle1) QH rfl rfl ?_
  refine Qe (t.s.cols.length : Int) 10 rfl rfl rfl (fun h2=>?_) (fun h2=>?_)
  ·refine Za hS1 (XV.drop 3 (XV.drop 0 hc1)) Zdi rfl rfl rfl ?_
   have bd3:=hs2.bound
   refine Zi (hs2.mono hle1) Zca rfl rfl ?_
   refine Qe (t.s.fks.length : Int) 10 rfl rfl rfl (fun h3=>?_) (fun h3=>?_)
   ·refine Za hS1 (XV.drop 4 hc1) YD rfl rfl rfl ?_
    refine Zm hS1 ZsX rfl rfl rfl (ZfL hS1.imm t.rows (fun x8=>Zk2 x8) _ (hs3.mono hle1) 59 #[] ⟨Zv5,fun G8 w8 v8 x8 hle8 hG8 hon8 hA8=>by obtain ⟨cs_x8,rfl,hr_x8⟩:=hA8; exact Zq4 hG8 x8 cs_x8 hr_x8⟩) (fun w2 G2 hS2 hle2=>?_)
    exact RB hS2 rfl (by unfold Zb3; simp_all [Cmp.b] <;> (first | omega | (intros; omega) | (rw [Bool.eq_iff_iff]; simp <;> omega) | (rw [Bool.eq_iff_iff]; simp_all <;> omega)))
   exact RB hS1 rfl (by unfold Zb3; simp_all [Cmp.b] <;> (omega))
  exact RB hS1 rfl (by unfold Zb3; simp_all [Cmp.b] <;> (omega))
 exact RB hS1 rfl (by unfold Zb3; simp_all [Cmp.b] <;> (omega))
theorem Zk5 {G : GH} {w : World} (hG : G.In w) (y : HRow) (cy : List Value) (hcy : HRowE.rep G y cy) : CL Tryz.prog (nat_lit 15) #[.agg cy.toArray] [] w G fun _ _ r=>r = .bool (Zb2 y):=by
 refine Zg ft [] Tryz.func15 rfl rfl ?_
 have hS:=St.start (X:=[]) hG
 obtain ⟨v1,rfl,hs1,hb1,hb2,hb3,hb4⟩:=Z0 hcy
 refine Zu [v1, .int .i64 y.r.d.a, .int .i64 y.r.d.b, .int .i64 y.r.x.a, .int .i64 y.r.x.b] _ hS rfl rfl rfl (fun p1 w1 G1 hle1 hsp1 hc1 hS1=>?_)
 refine Za hS1 (XV.drop 0 hc1) Z9 rfl rfl rfl ?_
 have bd1:=hs1.bound
 refine Zi (hs1.mono hle1) Yl rfl rfl ?_
 refine Y2 (y.v.length : Int) 0 rfl rfl rfl (fun h1=>?_) (fun h1=>?_)
 ·refine Zc hS1 (XV.drop 1 hc1) [.int .i64 y.r.d.a, .int .i64 y.r.d.b, .int .i64 y.r.x.a, .int .i64 y.r.x.b] ZaH rfl rfl rfl rfl rfl <| WL.build _ [] [.int .i64 0, .int .i64 0, .int .i64 0, .int .i64 0] ZaH rfl ZbZ rfl rfl rfl rfl <| Zc4 (ZfW y.r (Rect.mk (Span.mk 0 0) (Span.mk 0 0))) Zmk rfl rfl rfl ?_
  exact RB hS1 rfl (by unfold Zb2; simp_all [Cmp.b] <;> (first | omega | (intros; omega) | (rw [Bool.eq_iff_iff]; simp <;> omega) | (rw [Bool.eq_iff_iff]; simp_all <;> omega)))
 exact RB hS1 rfl (by unfold Zb2; simp_all [Cmp.b] <;> (first | omega | (intros; omega) | (rw [Bool.eq_iff_iff]; simp <;> omega) | (rw [Bool.eq_iff_iff]; simp_all <;> omega)))
theorem ZtW {G : GH} {w : World} (hG : G.In w) (a b : HRow) (ca : List Value) (hca : HRowE.rep G a ca) (cb : List Value) (hcb : HRowE.rep G b cb) : CL Tryz.prog (nat_lit 17) #[.agg ca.toArray, .agg cb.toArray] [] w G fun _ _ r=>r = .bool (Zdd a b):=by
 refine Zg ft [] Tryz.func17 rfl rfl ?_
 have hS:=St.start (X:=[]) hG
 obtain ⟨v1,rfl,hs1,hb1,hb2,hb3,hb4⟩:=Z0 hca
 obtain ⟨v2,rfl,hs2,hb5,hb6,hb7,hb8⟩:=Z0 hcb
 refine Zu [v1, .int .i64 a.r.d.a, .int .i64 a.r.d.b, .int .i64 a.r.x.a, .int .i64 a.r.x.b] _ hS rfl rfl rfl (fun p1 w1 G1 hle1 hsp1 hc1 hS1=>?_)
 refine Zu [v2, .int .i64 b.r.d.a, .int .i64 b.r.d.b, .int .i64 b.r.x.a, .int .i64 b.r.x.b] _ hS1 rfl rfl rfl (fun p2 w2 G2 hle2 hsp2 hc2 hS2=>?_)
 refine Za hS2 (XV.drop 0 (hc1.mono hle2)) Z9 rfl rfl rfl <| Za hS2 (XV.drop 0 hc2) Z9 rfl rfl rfl ?_
 refine Zm hS2 Zc6 rfl rfl rfl (Zbd hS2.imm a.v b.v _ (hs1.mono (hle1.trans hle2)) _ (hs2.mono (hle1.trans hle2))) (fun w3 G3 hS3 hle3=>?_)
 refine WL.split (fun (h1 : (decide (a.v = b.v)) = true)=>?_) (fun (h1 : (decide (a.v = b.v)) = false)=>?_)
 ·refine Zc hS3 (XV.drop 1 (hc1.mono (hle2.trans hle3))) [.int .i64 a.r.d.a, .int .i64 a.r.d.b, .int .i64 a.r.x.a, .int .i64 a.r.x.b] ZaH rfl rfl rfl rfl rfl <| Zc hS3 (XV.drop 1 (hc2.mono hle3)) [.int .i64 b.r.d.a, .int .i64 b.r.d.b, .int .i64 b.r.x.a, .int .i64 b.r.x.b] ZaH rfl rfl rfl rfl rfl <| Zc4 (ZfW a.r b.r) Zmk rfl rfl rfl ?_
  exact RB hS3 rfl (by unfold Zdd; simp_all [Cmp.b] <;> (first | omega | (intros; omega) | (rw [Bool.eq_iff_iff]; simp <;> omega) | (rw [Bool.eq_iff_iff]; simp_all <;> omega)))
 exact RB hS3 rfl (by unfold Zdd; simp_all [Cmp.b] <;> (first | omega | (intros; omega) | (rw [Bool.eq_iff_iff]; simp <;> omega) | (rw [Bool.eq_iff_iff]; simp_all <;> omega)))
end Go.Civ
set_option linter.unusedVariables false
set_option linter.unusedSimpArgs false
set_option maxRecDepth 100000
set_option maxHeartbeats 4000000
namespace Go.Civ
open Go.Proofs
theorem ZsD {G : GH} {w : World} (hG : G.In w) (t o : Table) (f : Foreign) (tx : Int) (ct : List Value) (hct : TableE.rep G t ct) (cu : List Value) (hcu : TableE.rep G o cu) (cf : List Value) (hcf : ForeignE.rep G f cf) (hvt : Zo t = true) (hvo : Zo o = true) (hk : LinkOk (Link.mk t o f)) : CL Tryz.prog (nat_lit 36) #[.agg ct.toArray, .agg cu.toArray, .agg cf.toArray, .int .i64 tx] [] w G fun G' _ r=>Sl Xj 40 G' r (Zhw t o f tx):=by
 refine Zg ft [] Tryz.func36 rfl rfl ?_
 have hS:=St.start (X:=[]) hG
 obtain ⟨v1,v2,v3,rfl,hb1,hs1,hb2,hs2,hs3,hb3⟩:=Z1 hct
 obtain ⟨v4,v5,v6,rfl,hb4,hs4,hb5,hs5,hs6,hb6⟩:=Z1 hcu
 obtain ⟨v7,rfl,hs7,hb7⟩:=Y6 hcf
 refine Zu [Zd t.s.name,v1, .int .i64 t.s.key,v2,v3, .int .i64 t.last] _ hS rfl rfl rfl (fun p1 w1 G1 hle1 hsp1 hc1 hS1=>?_)
 refine Zu [Zd o.s.name,v4, .int .i64 o.s.key,v5,v6, .int .i64 o.last] _ hS1 rfl rfl rfl (fun p2 w2 G2 hle2 hsp2 hc2 hS2=>?_)
 refine Zu [v7,Zd f.table] _ hS2 rfl rfl rfl (fun p3 w3 G3 hle3 hsp3 hc3 hS3=>?_)
 obtain ⟨hgt9,hnt9,ht89,het9⟩:=ZD hvt
 obtain ⟨hgo9,hno9,ho89,heo9⟩:=ZD hvo
 have hko:=Zf6 hvo
 have hfc : (f.cols.length : Int) = o.s.key:=hk.key
 have hkc:=(Zhx (Yz hvo).1)
 have hosl : (Yx o.rows tx (Z8 o.rows)).length ≤ 500:=by rw [← Zcv hgo9]; exact Nat.le_trans (Zi7 _ _) hno9
 have htsl : (Yx t.rows tx (Z8 t.rows)).length ≤ 500:=by rw [← Zcv hgt9]; exact Nat.le_trans (Zi7 _ _) hnt9
 have hosp : ∀ f ∈ (Yx o.rows tx (Z8 o.rows)),f.t.a < f.t.b:=by rw [← Zcv hgo9]; exact Zfj hgo9
 refine dr [(3,true),(7,false),(8,false),(9,false)] [(18,v3),(22,v6)] hS3 ⟨fun _ hSw=>Za hSw (XV.drop 4 (hc1.mono (hle2.trans hle3))) YD rfl rfl rfl <| nu rfl rfl,fun _ hSw=>Za hSw (XV.drop 4 (hc2.mono hle3)) YD rfl rfl rfl <| nu rfl rfl,trivial⟩ (fun w4 hS4=>?_)
 refine Z3 hS4 Ztj rfl rfl rfl (Zr8 hS4.imm t.rows tx _ (hs3.mono ((hle1.trans hle2).trans hle3)) (by omega)) (fun w5 G4 r1 hpost1 hS5 hle4=>?_)
 refine ⟨hS5.down hS4.le hle4,?_⟩
 refine Z3 hS5 Ztj rfl rfl rfl (Zr8 hS5.imm o.rows tx _ (hs6.mono (((hle1.trans hle2).trans hle3).trans hle4)) (by omega)) (fun w6 G5 r2 hpost2 hS6 hle5=>?_)
 have hS8:=hS6.pad
 refine LP.go ft [] (fun m ρ1 w1=>∃ (k1 : Nat),∃ (v9 : Value) (o1 : OB),∃ (G6 : GH),m = (Yx t.rows tx (Z8 t.rows)).length - k1 ∧ G5.le G6 ∧ St w [] G G6 [o1] w1 ∧ ZQ Xj 40 73 G6 v9 (ZaV (gM t o f) (Yx o.rows tx (Z8 o.rows)) ((Yx t.rows tx (Z8 t.rows)).take k1)) o1 ∧ FR ρ1 [(4, .pointer (some p1)),(5, .pointer (some p2)),(6, .pointer (some p3)),(9,r1),(10,r2),(11,v9),(12, .int .i64 (k1 : Int))] ∧ k1 ≤ (Yx t.rows tx (Z8 t.rows)).length) _ ⟨0,(.slice none 0 0),none,G5,rfl,(G5.le_refl),hS8,(ZQ.cast (ZQ.nil Xj 40 73 G5) (by rfl)),⟨rfl,rfl,rfl,rfl,rfl,rfl,rfl,trivial⟩,(by omega)⟩ ?_
 rintro m ρ1 w7 ⟨k1,v9,o1,G6,rfl,hle6,hS7,hr1,hF9,f1⟩
 refine hF9.set ?_
 clear hF9
 have hgl9:=ZiK (M:=(gM t o f)) hosp hosl htsl k1
 have bd1:=hpost1.bound
 refine Zi (hpost1.mono (hle5.trans hle6)) YS rfl rfl ?_
 refine Zl (k1 : Int) (((Yx t.rows tx (Z8 t.rows)).length : Nat) : Int) rfl rfl rfl (fun h1=>?_) (fun h1=>?_)
 ·obtain ⟨xf,hxf⟩:=QU (l:=(Yx t.rows tx (Z8 t.rows))) (k:=k1) (by omega)
  have hxl:=ZkH hvt (List.mem_of_getElem? hxf)
  have hrcl:=Zev (M:=(gM t o f)) (v:=xf.v) hosp
  have hcbl:=ZbT (kind:=3) (a:=[xf.t]) (b:=Yq (gM t o f) (Yx o.rows tx (Z8 o.rows)) xf.v)
  simp only [List.length_cons,List.length_nil] at hcbl
  refine LP.go ft [] (fun m ρ1 w1=>∃ (k2 : Nat),∃ (cvk : Value),∃ (G7 : GH),m = (Yx o.rows tx (Z8 o.rows)).length - k2 ∧ G6.le G7 ∧ St w [] G G7 [o1] w1 ∧ FR ρ1 [(4, .pointer (some p1)),(5, .pointer (some p2)),(6, .pointer (some p3)),(9,r1),(10,r2),(11,v9),(12, .int .i64 (k1 : Int)),(13,cvk),(14, .int .i64 (k2 : Int))] ∧ k2 ≤ (Yx o.rows tx (Z8 o.rows)).length ∧ Sl SpanE 16 G7 cvk (Yq (gM t o f) ((Yx o.rows tx (Z8 o.rows)).take k2) xf.v)) _ ⟨0, .slice none 0 0,G6,rfl,(G6.le_refl),hS7,⟨rfl,rfl,rfl,rfl,rfl,rfl,rfl,rfl,rfl,trivial⟩,(by omega),(Sl.cast (Sl.nil SpanE 16 G6) rfl)⟩ ?_
  rintro m ρ1 w9 ⟨k2,cvk,G7,rfl,hle7,hS9,hF9,f2,f3⟩
  refine hF9.set ?_
  clear hF9
  have hrc9:=Zev (M:=(gM t o f)) (v:=xf.v) (os:=(Yx o.rows tx (Z8 o.rows)).take k2) (fun f hf=>hosp f (List.mem_of_mem_take hf))
  have hot:=List.length_take_le' k2 (Yx o.rows tx (Z8 o.rows))
  have bd2:=hpost2.bound
  refine Zi (hpost2.mono (hle6.trans hle7)) YS rfl rfl ?_
  refine Zl (k2 : Int) (((Yx o.rows tx (Z8 o.rows)).length : Nat) : Int) rfl rfl rfl (fun h2=>?_) (fun h2=>?_)
  ·obtain ⟨yf,hyf⟩:=QU (l:=(Yx o.rows tx (Z8 o.rows))) (k:=k2) (by omega)
   have hyl:=ZkH hvo (List.mem_of_getElem? hyf)
   have hyk:=(ZcK (Yz hvo).1)
   obtain ⟨p4,x1,hx1,he1,ep1⟩:=Sl.at (hpost2.mono (hle6.trans hle7)) k2 (by omega)
   obtain rfl : yf = x1:=Option.some.inj (hyf.symm.trans hx1)
   obtain ⟨cs1,hc4,hr2⟩:=he1
   obtain ⟨v10,rfl,hs8,hb8,hb9⟩:=YY hr2
   obtain ⟨p5,x2,hx2,he2,ep2⟩:=Sl.at (hpost1.mono ((hle5.trans hle6).trans hle7)) k1 (by omega)
   obtain rfl : xf = x2:=Option.some.inj (hxf.symm.trans hx2)
   obtain ⟨cs2,hc5,hr3⟩:=he2
   obtain ⟨v11,rfl,hs9,hb10,Y4⟩:=YY hr3
   refine dr [(7,true),(16,false),(17,false)] [(38, .agg #[Zd o.s.name,v4, .int .i64 o.s.key,v5]),(41, .pointer (some p4)),(43,v10),(46, .agg #[Zd t.s.name,v1, .int .i64 t.s.key,v2]),(47, .agg #[v7,Zd f.table]),(50, .pointer (some p5)),(52,v11)] hS9 ⟨fun _ hSw=>Zc hSw (XV.drop 0 (hc2.mono ((((hle3.trans hle4).trans hle5).trans hle6).trans hle7))) [Zd o.s.name,v4, .int .i64 o.s.key,v5] XG rfl rfl rfl rfl rfl <| nu rfl rfl,fun _=>Ze k2 ep1 YS Xl rfl rfl rfl rfl <| nu rfl rfl,fun _ hSw=>Za hSw (XV.drop 0 hc4) Z9 rfl rfl rfl <| nu rfl rfl,fun _ hSw=>Zc hSw (XV.drop 0 (hc1.mono (((((hle2.trans hle3).trans hle4).trans hle5).trans hle6).trans hle7))) [Zd t.s.name,v1, .int .i64 t.s.key,v2] XG rfl rfl rfl rfl rfl <| nu rfl rfl,fun _ hSw=>Zc hSw (hc3.mono (((hle4.trans hle5).trans hle6).trans hle7)) [v7,Zd f.table] Qr rfl rfl rfl rfl rfl <| nu rfl rfl,fun _=>Ze k1 ep2 YS Xl rfl rfl rfl rfl <| nu rfl rfl,fun _ hSw=>Za hSw (XV.drop 0 hc5) Z9 rfl rfl rfl <| nu rfl rfl,trivial⟩ (fun w10 hS10=>?_)
   refine Z3 hS10 Ztk rfl rfl rfl (ZoU hS10.imm o.s yf.v _ (Yb o.s hb4 (hs4.mono ((((((hle1.trans hle2).trans hle3).trans hle4).trans hle5).trans hle6).trans hle7)) hb5 (hs5.mono ((((((hle1.trans hle2).trans hle3).trans hle4).trans hle5).trans hle6).trans hle7))) _ hs8 (by omega) (by omega)) (fun w11 G9 r3 hpost3 hS11 hle9=>?_)
   refine ⟨hS11.down hS10.le hle9,?_⟩
   refine Z3 hS11 ZsV rfl rfl rfl (ZlD hS11.imm t.s f xf.v _ (Yb t.s hb1 (hs1.mono (((((((hle1.trans hle2).trans hle3).trans hle4).trans hle5).trans hle6).trans hle7).trans hle9)) hb2 (hs2.mono (((((((hle1.trans hle2).trans hle3).trans hle4).trans hle5).trans hle6).trans hle7).trans hle9))) _ (Xw f (hs7.mono (((((((hle1.trans hle2).trans hle3).trans hle4).trans hle5).trans hle6).trans hle7).trans hle9)) hb7) _ (hs9.mono hle9) hk.cols hxl (by omega)) (fun w12 G10 r4 hpost4 hS12 hle10=>?_)
   refine Zm hS12 Zh0 rfl rfl rfl (Zdz hS12.imm (yf.v.take o.s.key.toNat) (Zaz t.s f.cols xf.v) _ (hpost3.mono hle10) _ hpost4) (fun w13 G11 hS13 hle11=>?_)
   refine WL.split (fun (h3 : (decide ((yf.v.take o.s.key.toNat) = (Zaz t.s f.cols xf.v))) = true)=>?_) (fun (h3 : (decide ((yf.v.take o.s.key.toNat) = (Zaz t.s f.cols xf.v))) = false)=>?_)
   ·refine WL.indexAddr (hpost2.mono ((((hle6.trans hle7).trans hle9).trans hle10).trans hle11)) k2 (by omega) YS Xl rfl rfl rfl rfl (fun p6 x3 hx3 he3=>?_)
    obtain rfl : yf = x3:=Option.some.inj (hyf.symm.trans hx3)
    obtain ⟨cs3,hc6,hr4⟩:=he3
    obtain ⟨v12,rfl,hs10,Xf,YT⟩:=YY hr4
    refine Zc hS13 (XV.drop 1 hc6) [.int .i64 yf.t.a, .int .i64 yf.t.b] Zs rfl rfl rfl rfl rfl ?_
    refine WL.buildSlice _ [(0,[.int .i64 yf.t.a, .int .i64 yf.t.b])] [.int .i64 yf.t.a, .int .i64 yf.t.b] hS13 Ym rfl rfl rfl rfl (fun z hz=>by match z,hz with | [z0,z1],_=>rfl) (fun b1 w14 hn1 hS14=>?_)
    obtain ⟨G12,hle12,hs11,hS15⟩:=St.sealSl (E:=SpanE) (by_:=16) (l:=([yf.t] : List Span)) hS14 hn1 ⟨[.int .i64 yf.t.a, .int .i64 yf.t.b],_,rfl,(Zt yf.t Xf YT),rfl⟩ rfl (by simp [reach]) (by simp [reach])
    refine Z3 hS15 Zpz rfl rfl rfl (Zfi hS15.imm 1 (Yq (gM t o f) ((Yx o.rows tx (Z8 o.rows)).take k2) xf.v) [yf.t] _ (f3.mono (((hle9.trans hle10).trans hle11).trans hle12)) _ hs11 (by omega) (by (simp only [List.length_cons,List.length_nil]; omega))) (fun w15 G13 r5 hpost5 hS16 hle13=>?_)
    refine Zj k2 (by have hreach : reach = 140737488355328:=rfl; omega) rfl rfl rfl ?_
    exact BK.mk' _ ⟨k2 + 1,r5,G13,rfl,(hle7.trans ((((hle9.trans hle10).trans hle11).trans hle12).trans hle13)),hS16,⟨rfl,rfl,rfl,rfl,rfl,rfl,rfl,rfl,rfl,trivial⟩,(by omega),(Sl.cast hpost5 (by exact (ZmR hyf ‹_›).symm))⟩ (show (Yx o.rows tx (Z8 o.rows)).length - (k2 + 1) < (Yx o.rows tx (Z8 o.rows)).length - k2 by omega)
   refine Zj k2 (by have hreach : reach = 140737488355328:=rfl; omega) rfl rfl rfl ?_
   exact BK.mk' _ ⟨k2 + 1,cvk,G11,rfl,(hle7.trans ((hle9.trans hle10).trans hle11)),hS13,⟨rfl,rfl,rfl,rfl,rfl,rfl,rfl,rfl,rfl,trivial⟩,(by omega),(Sl.cast (f3.mono ((hle9.trans hle10).trans hle11)) (by exact (Zpb hyf ‹_›).symm))⟩ (show (Yx o.rows tx (Z8 o.rows)).length - (k2 + 1) < (Yx o.rows tx (Z8 o.rows)).length - k2 by omega)
  have hcvr:=Sl.cast (l':=Yq (gM t o f) (Yx o.rows tx (Z8 o.rows)) xf.v) f3 (by rw [List.take_of_length_le (by omega)])
  refine WL.indexAddr (hpost1.mono ((hle5.trans hle6).trans hle7)) k1 (by omega) YS Xl rfl rfl rfl rfl (fun p7 x4 hx4 he4=>?_)
  obtain rfl : xf = x4:=Option.some.inj (hxf.symm.trans hx4)
  obtain ⟨cs4,hc7,hr5⟩:=he4
  obtain ⟨v13,rfl,hs12,Xm,QI⟩:=YY hr5
  refine Zc hS9 (XV.drop 1 hc7) [.int .i64 xf.t.a, .int .i64 xf.t.b] Zs rfl rfl rfl rfl rfl ?_
  refine WL.buildSlice _ [(0,[.int .i64 xf.t.a, .int .i64 xf.t.b])] [.int .i64 xf.t.a, .int .i64 xf.t.b] hS9 Ym rfl rfl rfl rfl (fun z hz=>by match z,hz with | [z0,z1],_=>rfl) (fun b2 w16 hn2 hS17=>?_)
  obtain ⟨G14,hle14,hs13,hS18⟩:=St.sealSl (E:=SpanE) (by_:=16) (l:=([xf.t] : List Span)) hS17 hn2 ⟨[.int .i64 xf.t.a, .int .i64 xf.t.b],_,rfl,(Zt xf.t Xm QI),rfl⟩ rfl (by simp [reach]) (by simp [reach])
  refine Z3 hS18 Zpz rfl rfl rfl (Zfi hS18.imm 3 [xf.t] (Yq (gM t o f) (Yx o.rows tx (Z8 o.rows)) xf.v) _ hs13 _ (hcvr.mono hle14) (by (simp only [List.length_cons,List.length_nil]; omega)) (by omega)) (fun w17 G15 r6 hpost6 hS19 hle15=>?_)
  refine LP.go ft [] (fun m ρ1 w1=>∃ (k3 : Nat),∃ (v14 : Value) (o2 : OB),∃ (G16 : GH),m = (ZL 3 [xf.t] (Yq (gM t o f) (Yx o.rows tx (Z8 o.rows)) xf.v)).length - k3 ∧ G15.le G16 ∧ St w [] G G16 [o2] w1 ∧ ZQ Xj 40 73 G16 v14 ((ZaV (gM t o f) (Yx o.rows tx (Z8 o.rows)) ((Yx t.rows tx (Z8 t.rows)).take k1)) ++ ((ZL 3 [xf.t] (Yq (gM t o f) (Yx o.rows tx (Z8 o.rows)) xf.v)).take k3).map (Fact.mk xf.v)) o2 ∧ FR ρ1 [(4, .pointer (some p1)),(5, .pointer (some p2)),(6, .pointer (some p3)),(9,r1),(10,r2),(11,v14),(12, .int .i64 (k1 : Int)),(15,r6),(16, .int .i64 (k3 : Int))] ∧ k3 ≤ (ZL 3 [xf.t] (Yq (gM t o f) (Yx o.rows tx (Z8 o.rows)) xf.v)).length) _ ⟨0,v9,o1,G15,rfl,(G15.le_refl),hS19,(ZQ.cast (hr1.mono ((hle7.trans hle14).trans hle15)) (by simp)),⟨rfl,rfl,rfl,rfl,rfl,rfl,rfl,rfl,rfl,trivial⟩,(by omega)⟩ ?_
  rintro m ρ1 w18 ⟨k3,v14,o2,G16,rfl,hle16,hS20,hr6,hF9,f4⟩
  refine hF9.set ?_
  clear hF9
  have htl9:=List.length_take_le' k3 (ZL 3 [xf.t] (Yq (gM t o f) (Yx o.rows tx (Z8 o.rows)) xf.v))
  have bd3:=hpost6.bound
  refine Zi (hpost6.mono hle16) Yd rfl rfl ?_
  refine Zl (k3 : Int) (((ZL 3 [xf.t] (Yq (gM t o f) (Yx o.rows tx (Z8 o.rows)) xf.v)).length : Nat) : Int) rfl rfl rfl (fun h4=>?_) (fun h4=>?_)
  ·obtain ⟨p8,x5,hx5,he5,ep3⟩:=Sl.at (hpost1.mono (((((hle5.trans hle6).trans hle7).trans hle14).trans hle15).trans hle16)) k1 (by omega)
   obtain rfl : xf = x5:=Option.some.inj (hxf.symm.trans hx5)
   obtain ⟨cs5,hc8,hr7⟩:=he5
   obtain ⟨v15,rfl,hs14,Zau,ZaI⟩:=YY hr7
   obtain ⟨p9,x6,hx6,he6,ep4⟩:=Sl.at (hpost6.mono hle16) k3 (by omega)
   obtain ⟨cs6,hc9,hr8⟩:=he6
   obtain ⟨rfl,Zbo,Zc5⟩:=Z6 hr8
   refine drT [5,9,10,11,12,13] [(80, .pointer (some p8)),(85, .pointer (some p9))] hS20 ⟨fun _=>Ze k1 ep3 YS Xl rfl rfl rfl rfl <| nu rfl rfl,fun _=>Ze k3 ep4 Yd Zs rfl rfl rfl rfl <| nu rfl rfl,trivial⟩ (fun w19 hS21=>?_)
   refine TGI.toTG (I:=fun w9=>GH.In G16 w9) _ _ _ _ ?_
   refine TGI.quiet 5 [5,9,10,11,12,13] 5 rfl rfl rfl rfl rfl (by decide) hS21.imm (fun w9 i9 K9 k9=>Za (St.start (X:=[]) i9) (XV.drop 0 hc8) Z9 rfl rfl rfl k9) ?_
   refine TGI.quiet 4 [9,10,11,12,13] 9 rfl rfl rfl rfl rfl (by decide) hS21.imm (fun w9 i9 K9 k9=>Zc (St.start (X:=[]) i9) hc9 [.int .i64 x6.a, .int .i64 x6.b] Zs rfl rfl rfl rfl rfl k9) ?_
   refine TGI.quiet 3 [10,11,12,13] 10 rfl rfl rfl rfl rfl (by decide) hS21.imm (fun w9 _ K9 k9=>WL.build _ [(0,[v15]),(1,[.int .i64 x6.a, .int .i64 x6.b])] [v15, .int .i64 x6.a, .int .i64 x6.b] Xl rfl ZlV rfl rfl (by show [(0,(v15 : Value).cells.toList),(1,(.agg #[.int .i64 x6.a, .int .i64 x6.b] : Value).cells.toList)] = _; simp only [hs14.cells1] <;> rfl) rfl k9) ?_
   refine TGI.fork 2 [11,12,13] [11] rfl rfl (by decide) (by decide) (TAI.cons rfl ?_ TAI.nil)
   refine WL.buildSlice _ [(0,[v15, .int .i64 x6.a, .int .i64 x6.b])] [v15, .int .i64 x6.a, .int .i64 x6.b] hS21 Ze9 rfl rfl rfl rfl (fun z hz=>by match z,hz with | [z0,z1,z2],_=>rfl) (fun b3 w20 hn3 hS22=>?_)
   refine ⟨fun h=>absurd h (by decide),hS22.imm,?_⟩
   refine TGI.fork 1 [12,13] [12] rfl rfl (by decide) (by decide) (TAI.cons rfl ?_ TAI.nil)
   refine WL.push (m:=([(Fact.mk xf.v x6)] : List Fact)) Ze9 rfl rfl rfl hr6 hS22 1 rfl 0 _ _ _ _ _ rfl ⟨[v15, .int .i64 x6.a, .int .i64 x6.b],_,rfl,(ZdF (Fact.mk xf.v x6) hs14 Zbo Zc5),rfl⟩ rfl (by have hreach : reach = 140737488355328:=rfl; simp only [List.length_append,List.length_map,List.length_take,List.length_cons,List.length_nil]; omega) (by have hreach : reach = 140737488355328:=rfl; simp only [List.length_append,List.length_map,List.length_take,List.length_cons,List.length_nil]; omega) rfl rfl rfl (fun v16 o3 w21 hr9 hS23=>?_)
   have hS24:=hS23.tail
   refine ⟨fun h=>absurd h (by decide),hS24.imm,?_⟩
   refine TGI.quiet 0 [13] 13 rfl rfl rfl rfl rfl (by decide) hS24.imm (fun w9 _ K9 k9=>WL.assign rfl k9) ?_
   refine TGI.fin rfl ?_
   refine Zj k3 (by have hreach : reach = 140737488355328:=rfl; omega) rfl rfl rfl ?_
   exact BK.mk' _ ⟨k3 + 1,v16,o3,G16,rfl,hle16,hS24,(ZQ.cast hr9 (by (rw [YX ‹_›,List.append_assoc]))),⟨rfl,rfl,rfl,rfl,rfl,rfl,rfl,rfl,rfl,trivial⟩,(by omega)⟩ (show (ZL 3 [xf.t] (Yq (gM t o f) (Yx o.rows tx (Z8 o.rows)) xf.v)).length - (k3 + 1) < (ZL 3 [xf.t] (Yq (gM t o f) (Yx o.rows tx (Z8 o.rows)) xf.v)).length - k3 by omega)
  refine Zj k1 (by have hreach : reach = 140737488355328:=rfl; omega) rfl rfl rfl ?_
  exact BK.mk' _ ⟨k1 + 1,v14,o2,G16,rfl,(hle6.trans (((hle7.trans hle14).trans hle15).trans hle16)),hS20,(ZQ.cast hr6 (by (rw [ZmQ hxf,Zee (by omega)]))),⟨rfl,rfl,rfl,rfl,rfl,rfl,rfl,trivial⟩,(by omega)⟩ (show (Yx t.rows tx (Z8 t.rows)).length - (k1 + 1) < (Yx t.rows tx (Z8 t.rows)).length - k1 by omega)
 obtain ⟨G17,hle17,hs15,hS25⟩:=ZQ.freeze hr1 hS7 0 rfl
 exact RT hS25 rfl (Sl.cast hs15 (by rw [List.take_of_length_le (by omega)]; rfl))
end Go.Civ
