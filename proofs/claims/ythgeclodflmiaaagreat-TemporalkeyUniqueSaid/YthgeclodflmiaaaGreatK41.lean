/- Lemmas. -/
import Derived.Test.YthgeclodflmiaaaGreatK33
import Derived.Test.YthgeclodflmiaaaGreatK36
import Derived.Test.YthgeclodflmiaaaGreatK37
import Derived.Test.YthgeclodflmiaaaGreatK40
import Derived.Test.YthgeclodflmiaaaGreatProg
import Derived.KernelRfl
import Derived.WalkKit
set_option linter.unusedVariables false
set_option linter.unusedSimpArgs false
set_option maxRecDepth 100000
set_option maxHeartbeats 4000000
namespace Go.Civ
open Go.Proofs
theorem c_Unique {G : GH} {w : World} (hG : G.In w) (t : Table) (ct : List Value) (hct : TableE.rep G t ct) : CL Tryz.prog (nat_lit 13) #[.agg ct.toArray] [] w G fun G' _ r=>∃ r0 r1,r = .tuple #[r0,r1] ∧ Is HRowE G' r0 (uniqR t) ∧ r1 = .bool (uniqB t):=by
 refine calls_of_goR ft [] Tryz.func13 rfl rfl ?_
 have hS:=St.start (X:=[]) hG
 obtain ⟨v1,v2,v3,rfl,hb1,hs1,hb2,hs2,hs3,hb3⟩:=TableE_open hct
 refine WL.boxG [strV t.s.name,v1, .int .i64 t.s.key,v2,v3, .int .i64 t.last] _ hS rfl rfl rfl (fun p1 w1 G1 hle1 hsp1 hc1 hS1=>?_)
 refine WL.alloc hS1 ti37 rfl rfl (fun b1 w2 hn1 hS2=>?_)
 refine WL.loadGAt hS2 hc1 [strV t.s.name,v1, .int .i64 t.s.key,v2,v3, .int .i64 t.last] ti28 rfl rfl rfl rfl rfl ?_
 refine WL.cV hS2 hb14 rfl rfl rfl (c_hValid hS2.imm t _ (TableE_mk t hb1 (hs1.mono hle1) hb2 (hs2.mono hle1) (hs3.mono hle1) hb3)) (fun w3 G2 hS3 hle2=>?_)
 refine WL.split (fun (h1 : (validT t) = true)=>?_) (fun (h1 : (validT t) = false)=>?_)
 ·refine WL.loadGAt hS3 (hc1.mono hle2) [strV t.s.name,v1, .int .i64 t.s.key,v2,v3, .int .i64 t.last] ti28 rfl rfl rfl rfl rfl ?_
  refine WL.cA hS3 hb60 rfl rfl rfl (c_violation hS3.imm t _ (TableE_mk t hb1 (hs1.mono (hle1.trans hle2)) hb2 (hs2.mono (hle1.trans hle2)) (hs3.mono (hle1.trans hle2)) hb3) (by assumption)) ?_
  rintro w4 G3 _ ⟨r2,_,rfl,hs4,rfl⟩ hS4 hle3
  obtain ⟨cs1,rfl,hr1⟩:=hs4
  obtain ⟨v4,rfl,hb4,hb5,hs5⟩:=PtE_open hr1
  refine WL.alloc hS4 ti105 rfl rfl (fun b2 w5 hn2 hS5=>?_)
  refine WL.store hS5 0 _ _ _ 0 _ [.int .i64 ((ptO (violT t)).tx), .int .i64 ((ptO (violT t)).vd),v4] [.int .i64 ((ptO (violT t)).tx), .int .i64 ((ptO (violT t)).vd),v4] _ rfl rfl ti105 rfl (Nat.le_of_ble_eq_true rfl) (by simp only [List.all_cons,List.all_nil,hs5.oneC,Bool.true_and] <;> rfl) rfl rfl rfl rfl rfl (fun w6 hS6=>?_)
  obtain ⟨G4,hle4,hc2,hS7⟩:=hS6.shutB hn2
  refine setB (d:=14) rfl (fun (h2 : ((violT t).isSome) = true)=>?_) (fun (h2 : ((violT t).isSome) = false)=>?_)
  ·refine WL.loadGAt hS7 hc2 [.int .i64 ((ptO (violT t)).tx), .int .i64 ((ptO (violT t)).vd),v4] ti105 rfl rfl rfl rfl rfl ?_
   refine WL.cA hS7 hb61 rfl rfl rfl (c_ptrow hS7.imm (Pt.mk ((ptO (violT t)).tx) ((ptO (violT t)).vd) ((ptO (violT t)).v)) _ (PtE_mk (Pt.mk ((ptO (violT t)).tx) ((ptO (violT t)).vd) ((ptO (violT t)).v)) hb4 hb5 (hs5.mono hle4)) (violT_inst (by assumption) (by assumption)).1 (violT_inst (by assumption) (by assumption)).2) (fun w7 G5 r4 hpost2 hS8 hle5=>?_)
   obtain ⟨cs2,rfl,hr2⟩:=hpost2
   obtain ⟨v5,rfl,hs6,hb6,hb7,hb8,hb9⟩:=HRowE_open hr2
   refine WL.store hS8 0 _ _ _ 0 _ [v5, .int .i64 ((rowO (some (Pt.mk ((ptO (violT t)).tx) ((ptO (violT t)).vd) ((ptO (violT t)).v)))).r.d.a), .int .i64 ((rowO (some (Pt.mk ((ptO (violT t)).tx) ((ptO (violT t)).vd) ((ptO (violT t)).v)))).r.d.b), .int .i64 ((rowO (some (Pt.mk ((ptO (violT t)).tx) ((ptO (violT t)).vd) ((ptO (violT t)).v)))).r.x.a), .int .i64 ((rowO (some (Pt.mk ((ptO (violT t)).tx) ((ptO (violT t)).vd) ((ptO (violT t)).v)))).r.x.b)] [v5, .int .i64 ((rowO (some (Pt.mk ((ptO (violT t)).tx) ((ptO (violT t)).vd) ((ptO (violT t)).v)))).r.d.a), .int .i64 ((rowO (some (Pt.mk ((ptO (violT t)).tx) ((ptO (violT t)).vd) ((ptO (violT t)).v)))).r.d.b), .int .i64 ((rowO (some (Pt.mk ((ptO (violT t)).tx) ((ptO (violT t)).vd) ((ptO (violT t)).v)))).r.x.a), .int .i64 ((rowO (some (Pt.mk ((ptO (violT t)).tx) ((ptO (violT t)).vd) ((ptO (violT t)).v)))).r.x.b)] _ rfl rfl ti37 rfl (Nat.le_of_ble_eq_true rfl) (by simp only [List.all_cons,List.all_nil,hs6.oneC,Bool.true_and] <;> rfl) rfl rfl rfl rfl rfl (fun w9 hS9=>?_)
   exact RTR [.agg #[v5, .int .i64 ((rowO (some (Pt.mk ((ptO (violT t)).tx) ((ptO (violT t)).vd) ((ptO (violT t)).v)))).r.d.a), .int .i64 ((rowO (some (Pt.mk ((ptO (violT t)).tx) ((ptO (violT t)).vd) ((ptO (violT t)).v)))).r.d.b), .int .i64 ((rowO (some (Pt.mk ((ptO (violT t)).tx) ((ptO (violT t)).vd) ((ptO (violT t)).v)))).r.x.a), .int .i64 ((rowO (some (Pt.mk ((ptO (violT t)).tx) ((ptO (violT t)).vd) ((ptO (violT t)).v)))).r.x.b)], .bool false] hS9 ⟨_,_,_,rfl,rfl,hS9.loadA 0 _ _ _ 0 [v5, .int .i64 ((rowO (some (Pt.mk ((ptO (violT t)).tx) ((ptO (violT t)).vd) ((ptO (violT t)).v)))).r.d.a), .int .i64 ((rowO (some (Pt.mk ((ptO (violT t)).tx) ((ptO (violT t)).vd) ((ptO (violT t)).v)))).r.d.b), .int .i64 ((rowO (some (Pt.mk ((ptO (violT t)).tx) ((ptO (violT t)).vd) ((ptO (violT t)).v)))).r.x.a), .int .i64 ((rowO (some (Pt.mk ((ptO (violT t)).tx) ((ptO (violT t)).vd) ((ptO (violT t)).v)))).r.x.b)] rfl rfl rfl ti37 rfl,⟨_,rfl,rfl⟩⟩ ⟨_,_,rfl,(Is.cast ⟨_,rfl,(HRowE_mk (HRow.mk ((rowO (some (Pt.mk ((ptO (violT t)).tx) ((ptO (violT t)).vd) ((ptO (violT t)).v)))).v) (Rect.mk (Span.mk ((rowO (some (Pt.mk ((ptO (violT t)).tx) ((ptO (violT t)).vd) ((ptO (violT t)).v)))).r.d.a) ((rowO (some (Pt.mk ((ptO (violT t)).tx) ((ptO (violT t)).vd) ((ptO (violT t)).v)))).r.d.b)) (Span.mk ((rowO (some (Pt.mk ((ptO (violT t)).tx) ((ptO (violT t)).vd) ((ptO (violT t)).v)))).r.x.a) ((rowO (some (Pt.mk ((ptO (violT t)).tx) ((ptO (violT t)).vd) ((ptO (violT t)).v)))).r.x.b)))) hs6 hb6 hb7 hb8 hb9)⟩ (by exact (uniq_2 (by assumption) (by assumption)).1)),(congrArg Value.bool (by exact (uniq_2 (by assumption) (by assumption)).2))⟩
  refine WL.build _ [] [.slice none 0 0, .int .i64 0, .int .i64 0, .int .i64 0, .int .i64 0] ti37 rfl fl37 rfl rfl rfl rfl ?_
  refine WL.store hS7 0 _ _ _ 0 _ [.slice none 0 0, .int .i64 0, .int .i64 0, .int .i64 0, .int .i64 0] [.slice none 0 0, .int .i64 0, .int .i64 0, .int .i64 0, .int .i64 0] _ rfl rfl ti37 rfl (Nat.le_of_ble_eq_true rfl) rfl rfl rfl rfl rfl rfl (fun w10 hS10=>?_)
  exact RTR [.agg #[.slice none 0 0, .int .i64 0, .int .i64 0, .int .i64 0, .int .i64 0], .bool true] hS10 ⟨_,_,_,rfl,rfl,hS10.loadA 0 _ _ _ 0 [.slice none 0 0, .int .i64 0, .int .i64 0, .int .i64 0, .int .i64 0] rfl rfl rfl ti37 rfl,⟨_,rfl,rfl⟩⟩ ⟨_,_,rfl,(Is.cast ⟨_,rfl,(HRowE_mk (HRow.mk [] (Rect.mk (Span.mk 0 0) (Span.mk 0 0))) (Sl.nil ValE 32 G4) I64_0 I64_0 I64_0 I64_0)⟩ (by exact (uniq_3 (by assumption) (by assumption)).1)),(congrArg Value.bool (by exact (uniq_3 (by assumption) (by assumption)).2))⟩
 refine WL.build _ [] [.slice none 0 0, .int .i64 0, .int .i64 0, .int .i64 0, .int .i64 0] ti37 rfl fl37 rfl rfl rfl rfl ?_
 refine WL.store hS3 0 _ _ _ 0 _ [.slice none 0 0, .int .i64 0, .int .i64 0, .int .i64 0, .int .i64 0] [.slice none 0 0, .int .i64 0, .int .i64 0, .int .i64 0, .int .i64 0] _ rfl rfl ti37 rfl (Nat.le_of_ble_eq_true rfl) rfl rfl rfl rfl rfl rfl (fun w11 hS11=>?_)
 exact RTR [.agg #[.slice none 0 0, .int .i64 0, .int .i64 0, .int .i64 0, .int .i64 0], .bool false] hS11 ⟨_,_,_,rfl,rfl,hS11.loadA 0 _ _ _ 0 [.slice none 0 0, .int .i64 0, .int .i64 0, .int .i64 0, .int .i64 0] rfl rfl rfl ti37 rfl,⟨_,rfl,rfl⟩⟩ ⟨_,_,rfl,(Is.cast ⟨_,rfl,(HRowE_mk (HRow.mk [] (Rect.mk (Span.mk 0 0) (Span.mk 0 0))) (Sl.nil ValE 32 G2) I64_0 I64_0 I64_0 I64_0)⟩ (by exact (uniq_1 (by assumption)).1)),(congrArg Value.bool (by exact (uniq_1 (by assumption)).2))⟩
theorem c_sound {G : GH} {w : World} (hG : G.In w) (t : Table) (ct : List Value) (hct : TableE.rep G t ct) : CL Tryz.prog (nat_lit 72) #[.agg ct.toArray] [] w G fun _ _ r=>r = .bool (uniqB t):=by
 refine calls_of_go ft [] Tryz.func72 rfl rfl ?_
 have hS:=St.start (X:=[]) hG
 obtain ⟨v1,v2,v3,rfl,hb1,hs1,hb2,hs2,hs3,hb3⟩:=TableE_open hct
 refine WL.boxG [strV t.s.name,v1, .int .i64 t.s.key,v2,v3, .int .i64 t.last] _ hS rfl rfl rfl (fun p1 w1 G1 hle1 hsp1 hc1 hS1=>?_)
 refine WL.loadGAt hS1 hc1 [strV t.s.name,v1, .int .i64 t.s.key,v2,v3, .int .i64 t.last] ti28 rfl rfl rfl rfl rfl <| WL.cA hS1 hb13 rfl rfl rfl (c_Unique hS1.imm t _ (TableE_mk t hb1 (hs1.mono hle1) hb2 (hs2.mono hle1) (hs3.mono hle1) hb3)) ?_
 rintro w2 G2 _ ⟨r2,_,rfl,hs4,rfl⟩ hS2 hle2
 obtain ⟨cs1,rfl,hr1⟩:=hs4
 obtain ⟨v4,rfl,hs5,hb4,hb5,hb6,hb7⟩:=HRowE_open hr1
 refine WL.alloc hS2 ti37 rfl rfl (fun b1 w3 hn1 hS3=>?_)
 refine WL.store hS3 0 _ _ _ 0 _ [v4, .int .i64 ((uniqR t).r.d.a), .int .i64 ((uniqR t).r.d.b), .int .i64 ((uniqR t).r.x.a), .int .i64 ((uniqR t).r.x.b)] [v4, .int .i64 ((uniqR t).r.d.a), .int .i64 ((uniqR t).r.d.b), .int .i64 ((uniqR t).r.x.a), .int .i64 ((uniqR t).r.x.b)] _ rfl rfl ti37 rfl (Nat.le_of_ble_eq_true rfl) (by simp only [List.all_cons,List.all_nil,hs5.oneC,Bool.true_and] <;> rfl) rfl rfl rfl rfl rfl (fun w4 hS4=>?_)
 obtain ⟨G3,hle3,hc2,hS5⟩:=hS4.shutB hn1
 exact RB hS5 rfl (by rfl)
theorem c_keyed {G : GH} {w : World} (hG : G.In w) (t : Table) (e : Int) (ct : List Value) (hct : TableE.rep G t ct) (hv : e = 0 → validT t = true) : CL Tryz.prog (nat_lit 106) #[.agg ct.toArray, .int .i64 e] [] w G fun G' _ r=>∃ r0 r1,r = .tuple #[r0,r1] ∧ Is TableE G' r0 (keyT t e) ∧ r1 = .int .i64 (keyX t e):=by
 refine calls_of_goR ft [] Tryz.func106 rfl rfl ?_
 have hS:=St.start (X:=[]) hG
 obtain ⟨v1,v2,v3,rfl,hb1,hs1,hb2,hs2,hs3,hb3⟩:=TableE_open hct
 refine WL.boxG [strV t.s.name,v1, .int .i64 t.s.key,v2,v3, .int .i64 t.last] _ hS rfl rfl rfl (fun p1 w1 G1 hle1 hsp1 hc1 hS1=>?_)
 refine WL.alloc hS1 ti28 rfl rfl (fun b1 w2 hn1 hS2=>?_)
 refine WL.neqS e 0 rfl rfl rfl (fun h1=>?_) (fun h1=>?_)
 ·refine WL.build _ [] [strV [], .slice none 0 0, .int .i64 0, .slice none 0 0, .slice none 0 0, .int .i64 0] ti28 rfl fl28 rfl rfl rfl rfl ?_
  refine WL.store hS2 0 _ _ _ 0 _ [strV [], .slice none 0 0, .int .i64 0, .slice none 0 0, .slice none 0 0, .int .i64 0] [strV [], .slice none 0 0, .int .i64 0, .slice none 0 0, .slice none 0 0, .int .i64 0] _ rfl rfl ti28 rfl (Nat.le_of_ble_eq_true rfl) rfl rfl rfl rfl rfl rfl (fun w3 hS3=>?_)
  exact RTR [.agg #[strV [], .slice none 0 0, .int .i64 0, .slice none 0 0, .slice none 0 0, .int .i64 0], .int .i64 e] hS3 ⟨_,_,_,rfl,rfl,hS3.loadA 0 _ _ _ 0 [strV [], .slice none 0 0, .int .i64 0, .slice none 0 0, .slice none 0 0, .int .i64 0] rfl rfl rfl ti28 rfl,⟨_,rfl,rfl⟩⟩ ⟨_,_,rfl,(Is.cast ⟨_,rfl,(TableE_mk (Table.mk (Schema.mk [] [] 0 []) [] 0) (by simp [reach]) (Sl.nil ColE 24 G1) I64_0 (Sl.nil ForeignE 40 G1) (Sl.nil HRowE 56 G1) I64_0)⟩ (by exact (key_1 (by assumption)).1)),(congrArg (Value.int .i64) (by exact (key_1 (by assumption)).2))⟩
 refine WL.loadGAt hS2 hc1 [strV t.s.name,v1, .int .i64 t.s.key,v2,v3, .int .i64 t.last] ti28 rfl rfl rfl rfl rfl ?_
 refine WL.cA hS2 hb60 rfl rfl rfl (c_violation hS2.imm t _ (TableE_mk t hb1 (hs1.mono hle1) hb2 (hs2.mono hle1) (hs3.mono hle1) hb3) (hv (by assumption))) ?_
 rintro w4 G2 _ ⟨r2,_,rfl,hs4,rfl⟩ hS4 hle2
 obtain ⟨cs1,rfl,hr1⟩:=hs4
 obtain ⟨v4,rfl,hb4,hb5,hs5⟩:=PtE_open hr1
 refine WL.alloc hS4 ti105 rfl rfl (fun b2 w5 hn2 hS5=>?_)
 refine WL.store hS5 0 _ _ _ 0 _ [.int .i64 ((ptO (violT t)).tx), .int .i64 ((ptO (violT t)).vd),v4] [.int .i64 ((ptO (violT t)).tx), .int .i64 ((ptO (violT t)).vd),v4] _ rfl rfl ti105 rfl (Nat.le_of_ble_eq_true rfl) (by simp only [List.all_cons,List.all_nil,hs5.oneC,Bool.true_and] <;> rfl) rfl rfl rfl rfl rfl (fun w6 hS6=>?_)
 obtain ⟨G3,hle3,hc2,hS7⟩:=hS6.shutB hn2
 refine setB (d:=16) rfl (fun (h2 : ((violT t).isSome) = true)=>?_) (fun (h2 : ((violT t).isSome) = false)=>?_)
 ·refine WL.build _ [] [strV [], .slice none 0 0, .int .i64 0, .slice none 0 0, .slice none 0 0, .int .i64 0] ti28 rfl fl28 rfl rfl rfl rfl ?_
  refine WL.store hS7 0 _ _ _ 0 _ [strV [], .slice none 0 0, .int .i64 0, .slice none 0 0, .slice none 0 0, .int .i64 0] [strV [], .slice none 0 0, .int .i64 0, .slice none 0 0, .slice none 0 0, .int .i64 0] _ rfl rfl ti28 rfl (Nat.le_of_ble_eq_true rfl) rfl rfl rfl rfl rfl rfl (fun w7 hS8=>?_)
  exact RTR [.agg #[strV [], .slice none 0 0, .int .i64 0, .slice none 0 0, .slice none 0 0, .int .i64 0], .int .i64 14] hS8 ⟨_,_,_,rfl,rfl,hS8.loadA 0 _ _ _ 0 [strV [], .slice none 0 0, .int .i64 0, .slice none 0 0, .slice none 0 0, .int .i64 0] rfl rfl rfl ti28 rfl,⟨_,rfl,rfl⟩⟩ ⟨_,_,rfl,(Is.cast ⟨_,rfl,(TableE_mk (Table.mk (Schema.mk [] [] 0 []) [] 0) (by simp [reach]) (Sl.nil ColE 24 G3) I64_0 (Sl.nil ForeignE 40 G3) (Sl.nil HRowE 56 G3) I64_0)⟩ (by exact (key_2 (by assumption) (by assumption)).1)),(congrArg (Value.int .i64) (by exact (key_2 (by assumption) (by assumption)).2))⟩
 refine WL.loadGAt hS7 (hc1.mono (hle2.trans hle3)) [strV t.s.name,v1, .int .i64 t.s.key,v2,v3, .int .i64 t.last] ti28 rfl rfl rfl rfl rfl ?_
 refine WL.store hS7 0 _ _ _ 0 _ [strV t.s.name,v1, .int .i64 t.s.key,v2,v3, .int .i64 t.last] [strV t.s.name,v1, .int .i64 t.s.key,v2,v3, .int .i64 t.last] _ rfl rfl ti28 rfl (Nat.le_of_ble_eq_true rfl) (by simp only [List.all_cons,List.all_nil,(hs1.mono ((hle1.trans hle2).trans hle3)).oneC,(hs2.mono ((hle1.trans hle2).trans hle3)).oneC,(hs3.mono ((hle1.trans hle2).trans hle3)).oneC,Bool.true_and] <;> rfl) rfl rfl rfl rfl rfl (fun w9 hS9=>?_)
 exact RTR [.agg #[strV t.s.name,v1, .int .i64 t.s.key,v2,v3, .int .i64 t.last], .int .i64 0] hS9 ⟨_,_,_,rfl,rfl,hS9.loadA 0 _ _ _ 0 [strV t.s.name,v1, .int .i64 t.s.key,v2,v3, .int .i64 t.last] rfl rfl rfl ti28 rfl,⟨_,rfl,rfl⟩⟩ ⟨_,_,rfl,(Is.cast ⟨_,rfl,(TableE_mk t hb1 (hs1.mono ((hle1.trans hle2).trans hle3)) hb2 (hs2.mono ((hle1.trans hle2).trans hle3)) (hs3.mono ((hle1.trans hle2).trans hle3)) hb3)⟩ (by exact (key_3 (by assumption) (by assumption)).1)),(congrArg (Value.int .i64) (by exact (key_3 (by assumption) (by assumption)).2))⟩
theorem c_kInsert {G : GH} {w : World} (hG : G.In w) (t : Table) (tx : Int) (v : List Val) (d : Span) (ct : List Value) (hct : TableE.rep G t ct) (vv : Value) (hvv : Sl ValE 32 G vv v) (cd : List Value) (hcd : SpanE.rep G d cd) (htx64 : I64 tx) : CL Tryz.prog (nat_lit 49) #[.agg ct.toArray, .int .i64 tx,vv, .agg cd.toArray] [] w G fun G' _ r=>∃ r0 r1,r = .tuple #[r0,r1] ∧ Is TableE G' r0 (kinsT t tx v d) ∧ r1 = .int .i64 (kinsE t tx v d):=by
 refine calls_of_goR ft [] Tryz.func49 rfl rfl ?_
 have hS:=St.start (X:=[]) hG
 obtain ⟨v1,v2,v3,rfl,hb1,hs1,hb2,hs2,hs3,hb3⟩:=TableE_open hct
 obtain ⟨rfl,hb4,hb5⟩:=SpanE_open hcd
 refine WL.boxG [strV t.s.name,v1, .int .i64 t.s.key,v2,v3, .int .i64 t.last] _ hS rfl rfl rfl (fun p1 w1 G1 hle1 hsp1 hc1 hS1=>?_)
 refine WL.boxG [.int .i64 d.a, .int .i64 d.b] _ hS1 rfl rfl rfl (fun p2 w2 G2 hle2 hsp2 hc2 hS2=>?_)
 refine WL.alloc hS2 ti28 rfl rfl (fun b1 w3 hn1 hS3=>?_)
 refine WL.loadGAt hS3 (hc1.mono hle2) [strV t.s.name,v1, .int .i64 t.s.key,v2,v3, .int .i64 t.last] ti28 rfl rfl rfl rfl rfl ?_
 refine WL.cV hS3 hb72 rfl rfl rfl (c_sound hS3.imm t _ (TableE_mk t hb1 (hs1.mono (hle1.trans hle2)) hb2 (hs2.mono (hle1.trans hle2)) (hs3.mono (hle1.trans hle2)) hb3)) (fun w4 G3 hS4 hle3=>?_)
 refine WL.split (fun (h1 : (uniqB t) = true)=>?_) (fun (h1 : (uniqB t) = false)=>?_)
 ·refine WL.loadGAt hS4 (hc1.mono (hle2.trans hle3)) [strV t.s.name,v1, .int .i64 t.s.key,v2,v3, .int .i64 t.last] ti28 rfl rfl rfl rfl rfl <| WL.loadGAt hS4 (hc2.mono hle3) [.int .i64 d.a, .int .i64 d.b] ti33 rfl rfl rfl rfl rfl <| WL.cA hS4 hb20 rfl rfl rfl (c_hInsert hS4.imm t tx v d _ (TableE_mk t hb1 (hs1.mono ((hle1.trans hle2).trans hle3)) hb2 (hs2.mono ((hle1.trans hle2).trans hle3)) (hs3.mono ((hle1.trans hle2).trans hle3)) hb3) _ (hvv.mono ((hle1.trans hle2).trans hle3)) _ (SpanE_mk d hb4 hb5) htx64) ?_
  rintro w5 G4 _ ⟨r2,_,rfl,hs4,rfl⟩ hS5 hle4
  obtain ⟨cs1,rfl,hr1⟩:=hs4
  obtain ⟨v4,v5,v6,rfl,hb6,hs5,hb7,hs6,hs7,hb8⟩:=TableE_open hr1
  refine WL.cA hS5 hb106 rfl rfl rfl (c_keyed hS5.imm (insT t tx v d) (insE_ t tx v d) _ (TableE_mk (insT t tx v d) hb6 hs5 hb7 hs6 hs7 hb8) ins_valid) ?_
  rintro w6 G5 _ ⟨r5,_,rfl,hs8,rfl⟩ hS6 hle5
  obtain ⟨cs2,rfl,hr2⟩:=hs8
  obtain ⟨v7,v9,v10,rfl,hb9,hs9,hb10,hs10,hs11,hb11⟩:=TableE_open hr2
  refine WL.store hS6 0 _ _ _ 0 _ [strV ((keyT (insT t tx v d) (insE_ t tx v d)).s.name),v7, .int .i64 ((keyT (insT t tx v d) (insE_ t tx v d)).s.key),v9,v10, .int .i64 ((keyT (insT t tx v d) (insE_ t tx v d)).last)] [strV ((keyT (insT t tx v d) (insE_ t tx v d)).s.name),v7, .int .i64 ((keyT (insT t tx v d) (insE_ t tx v d)).s.key),v9,v10, .int .i64 ((keyT (insT t tx v d) (insE_ t tx v d)).last)] _ rfl rfl ti28 rfl (Nat.le_of_ble_eq_true rfl) (by simp only [List.all_cons,List.all_nil,hs9.oneC,hs10.oneC,hs11.oneC,Bool.true_and] <;> rfl) rfl rfl rfl rfl rfl (fun w7 hS7=>?_)
  exact RTR [.agg #[strV ((keyT (insT t tx v d) (insE_ t tx v d)).s.name),v7, .int .i64 ((keyT (insT t tx v d) (insE_ t tx v d)).s.key),v9,v10, .int .i64 ((keyT (insT t tx v d) (insE_ t tx v d)).last)], .int .i64 (keyX (insT t tx v d) (insE_ t tx v d))] hS7 ⟨_,_,_,rfl,rfl,hS7.loadA 0 _ _ _ 0 [strV ((keyT (insT t tx v d) (insE_ t tx v d)).s.name),v7, .int .i64 ((keyT (insT t tx v d) (insE_ t tx v d)).s.key),v9,v10, .int .i64 ((keyT (insT t tx v d) (insE_ t tx v d)).last)] rfl rfl rfl ti28 rfl,⟨_,rfl,rfl⟩⟩ ⟨_,_,rfl,(Is.cast ⟨_,rfl,(TableE_mk (keyT (insT t tx v d) (insE_ t tx v d)) hb9 hs9 hb10 hs10 hs11 hb11)⟩ (by exact (kins_2 (by assumption)).1)),(congrArg (Value.int .i64) (by exact (kins_2 (by assumption)).2))⟩
 refine WL.build _ [] [strV [], .slice none 0 0, .int .i64 0, .slice none 0 0, .slice none 0 0, .int .i64 0] ti28 rfl fl28 rfl rfl rfl rfl ?_
 refine WL.store hS4 0 _ _ _ 0 _ [strV [], .slice none 0 0, .int .i64 0, .slice none 0 0, .slice none 0 0, .int .i64 0] [strV [], .slice none 0 0, .int .i64 0, .slice none 0 0, .slice none 0 0, .int .i64 0] _ rfl rfl ti28 rfl (Nat.le_of_ble_eq_true rfl) rfl rfl rfl rfl rfl rfl (fun w9 hS8=>?_)
 exact RTR [.agg #[strV [], .slice none 0 0, .int .i64 0, .slice none 0 0, .slice none 0 0, .int .i64 0], .int .i64 1] hS8 ⟨_,_,_,rfl,rfl,hS8.loadA 0 _ _ _ 0 [strV [], .slice none 0 0, .int .i64 0, .slice none 0 0, .slice none 0 0, .int .i64 0] rfl rfl rfl ti28 rfl,⟨_,rfl,rfl⟩⟩ ⟨_,_,rfl,(Is.cast ⟨_,rfl,(TableE_mk (Table.mk (Schema.mk [] [] 0 []) [] 0) (by simp [reach]) (Sl.nil ColE 24 G3) I64_0 (Sl.nil ForeignE 40 G3) (Sl.nil HRowE 56 G3) I64_0)⟩ (by exact (kins_1 (by assumption)).1)),(congrArg (Value.int .i64) (by exact (kins_1 (by assumption)).2))⟩
end Go.Civ
