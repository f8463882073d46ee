/- Lemmas. -/
import Derived.Test.YthgeclodflmiaaaGreatK35
import Derived.Test.YthgeclodflmiaaaGreatK36
import Derived.Test.YthgeclodflmiaaaGreatK37
import Derived.Test.YthgeclodflmiaaaGreatK39
import Derived.Test.YthgeclodflmiaaaGreatK43
import Derived.Test.YthgeclodflmiaaaGreatProg
import Derived.KernelRfl
import Derived.WalkKit
set_option linter.unusedVariables false
set_option linter.unusedSimpArgs false
set_option maxRecDepth 100000
set_option maxHeartbeats 4000000
namespace Go.Civ
open Go.Proofs
theorem c_small1 {G : GH} {w : World} (hG : G.In w) (x : HRow) (cx : List Value) (hcx : HRowE.rep G x cx) : CL Tryz.prog (nat_lit 59) #[.agg cx.toArray] [] w G fun _ _ r=>r = .bool (long20 x):=by
 refine calls_of_go ft [] Tryz.func59 rfl rfl ?_
 have hS:=St.start (X:=[]) hG
 obtain ⟨v1,rfl,hs1,hb1,hb2,hb3,hb4⟩:=HRowE_open hcx
 refine WL.boxG [v1, .int .i64 x.r.d.a, .int .i64 x.r.d.b, .int .i64 x.r.x.a, .int .i64 x.r.x.b] _ hS rfl rfl rfl (fun p1 w1 G1 hle1 hsp1 hc1 hS1=>?_)
 refine WL.loadG1 hS1 (Cells.drop 0 hc1) ti31 rfl rfl rfl ?_
 have bd1:=hs1.bound
 refine WL.lenSl (hs1.mono hle1) ul31 rfl rfl <| WL.cmp .gtr rfl .i64 (x.v.length : Int) 20 rfl rfl rfl ?_
 exact RB hS1 rfl (by rfl)
theorem c_small {G : GH} {w : World} (hG : G.In w) (t : Table) (ct : List Value) (hct : TableE.rep G t ct) : CL Tryz.prog (nat_lit 12) #[.agg ct.toArray] [] w G fun _ _ r=>r = .bool (smallT t):=by
 refine calls_of_go ft [] Tryz.func12 rfl rfl ?_
 have hS:=St.start (X:=[]) hG
 obtain ⟨v1,v2,v3,rfl,hb1,hs1,hb2,hs2,hs3,hb3⟩:=TableE_open hct
 refine WL.boxG [strV t.s.name,v1, .int .i64 t.s.key,v2,v3, .int .i64 t.last] _ hS rfl rfl rfl (fun p1 w1 G1 hle1 hsp1 hc1 hS1=>?_)
 refine WL.loadG1 hS1 (Cells.drop 4 hc1) ti26 rfl rfl rfl ?_
 have bd1:=hs3.bound
 refine WL.lenSl (hs3.mono hle1) ul26 rfl rfl ?_
 refine WL.leqS (t.rows.length : Int) 24 rfl rfl rfl (fun h1=>?_) (fun h1=>?_)
 ·refine WL.loadG1 hS1 (Cells.drop 1 (Cells.drop 0 hc1)) ti22 rfl rfl rfl ?_
  have bd2:=hs1.bound
  refine WL.lenSl (hs1.mono hle1) ul22 rfl rfl ?_
  refine WL.leqS (t.s.cols.length : Int) 10 rfl rfl rfl (fun h2=>?_) (fun h2=>?_)
  ·refine WL.loadG1 hS1 (Cells.drop 3 (Cells.drop 0 hc1)) ti23 rfl rfl rfl ?_
   have bd3:=hs2.bound
   refine WL.lenSl (hs2.mono hle1) ul23 rfl rfl ?_
   refine WL.leqS (t.s.fks.length : Int) 10 rfl rfl rfl (fun h3=>?_) (fun h3=>?_)
   ·refine WL.loadG1 hS1 (Cells.drop 4 hc1) ti26 rfl rfl rfl ?_
    refine WL.cV hS1 hb58 rfl rfl rfl (c_ContainsR hS1.imm t.rows (fun x8=>long20 x8) _ (hs3.mono hle1) 59 #[] ⟨hb59,fun G8 w8 v8 x8 hle8 hG8 hon8 hA8=>by obtain ⟨cs_x8,rfl,hr_x8⟩:=hA8; exact c_small1 hG8 x8 cs_x8 hr_x8⟩) (fun w2 G2 hS2 hle2=>?_)
    exact RB hS2 rfl (by unfold smallT; simp_all [Cmp.b] <;> (first | omega | (intros; omega) | (rw [Bool.eq_iff_iff]; simp <;> omega) | (rw [Bool.eq_iff_iff]; simp_all <;> omega)))
   exact RB hS1 rfl (by unfold smallT; simp_all [Cmp.b] <;> (omega))
  exact RB hS1 rfl (by unfold smallT; simp_all [Cmp.b] <;> (omega))
 exact RB hS1 rfl (by unfold smallT; simp_all [Cmp.b] <;> (omega))
theorem c_none {G : GH} {w : World} (hG : G.In w) (y : HRow) (cy : List Value) (hcy : HRowE.rep G y cy) : CL Tryz.prog (nat_lit 15) #[.agg cy.toArray] [] w G fun _ _ r=>r = .bool (noneB y):=by
 refine calls_of_go ft [] Tryz.func15 rfl rfl ?_
 have hS:=St.start (X:=[]) hG
 obtain ⟨v1,rfl,hs1,hb1,hb2,hb3,hb4⟩:=HRowE_open hcy
 refine WL.boxG [v1, .int .i64 y.r.d.a, .int .i64 y.r.d.b, .int .i64 y.r.x.a, .int .i64 y.r.x.b] _ hS rfl rfl rfl (fun p1 w1 G1 hle1 hsp1 hc1 hS1=>?_)
 refine WL.loadG1 hS1 (Cells.drop 0 hc1) ti31 rfl rfl rfl ?_
 have bd1:=hs1.bound
 refine WL.lenSl (hs1.mono hle1) ul31 rfl rfl ?_
 refine WL.eqlS (y.v.length : Int) 0 rfl rfl rfl (fun h1=>?_) (fun h1=>?_)
 ·refine WL.loadGAt hS1 (Cells.drop 1 hc1) [.int .i64 y.r.d.a, .int .i64 y.r.d.b, .int .i64 y.r.x.a, .int .i64 y.r.x.b] ti35 rfl rfl rfl rfl rfl <| WL.build _ [] [.int .i64 0, .int .i64 0, .int .i64 0, .int .i64 0] ti35 rfl fl35 rfl rfl rfl rfl <| WL.aggEq (RectEq35 y.r (Rect.mk (Span.mk 0 0) (Span.mk 0 0))) eqg35 rfl rfl rfl ?_
  exact RB hS1 rfl (by unfold noneB; simp_all [Cmp.b] <;> (first | omega | (intros; omega) | (rw [Bool.eq_iff_iff]; simp <;> omega) | (rw [Bool.eq_iff_iff]; simp_all <;> omega)))
 exact RB hS1 rfl (by unfold noneB; simp_all [Cmp.b] <;> (first | omega | (intros; omega) | (rw [Bool.eq_iff_iff]; simp <;> omega) | (rw [Bool.eq_iff_iff]; simp_all <;> omega)))
theorem c_rows {G : GH} {w : World} (hG : G.In w) (a b : HRow) (ca : List Value) (hca : HRowE.rep G a ca) (cb : List Value) (hcb : HRowE.rep G b cb) : CL Tryz.prog (nat_lit 17) #[.agg ca.toArray, .agg cb.toArray] [] w G fun _ _ r=>r = .bool (rowsB a b):=by
 refine calls_of_go ft [] Tryz.func17 rfl rfl ?_
 have hS:=St.start (X:=[]) hG
 obtain ⟨v1,rfl,hs1,hb1,hb2,hb3,hb4⟩:=HRowE_open hca
 obtain ⟨v2,rfl,hs2,hb5,hb6,hb7,hb8⟩:=HRowE_open hcb
 refine WL.boxG [v1, .int .i64 a.r.d.a, .int .i64 a.r.d.b, .int .i64 a.r.x.a, .int .i64 a.r.x.b] _ hS rfl rfl rfl (fun p1 w1 G1 hle1 hsp1 hc1 hS1=>?_)
 refine WL.boxG [v2, .int .i64 b.r.d.a, .int .i64 b.r.d.b, .int .i64 b.r.x.a, .int .i64 b.r.x.b] _ hS1 rfl rfl rfl (fun p2 w2 G2 hle2 hsp2 hc2 hS2=>?_)
 refine WL.loadG1 hS2 (Cells.drop 0 (hc1.mono hle2)) ti31 rfl rfl rfl <| WL.loadG1 hS2 (Cells.drop 0 hc2) ti31 rfl rfl rfl ?_
 refine WL.cV hS2 hb24 rfl rfl rfl (c_vSame hS2.imm a.v b.v _ (hs1.mono (hle1.trans hle2)) _ (hs2.mono (hle1.trans hle2))) (fun w3 G3 hS3 hle3=>?_)
 refine WL.split (fun (h1 : (decide (a.v = b.v)) = true)=>?_) (fun (h1 : (decide (a.v = b.v)) = false)=>?_)
 ·refine WL.loadGAt hS3 (Cells.drop 1 (hc1.mono (hle2.trans hle3))) [.int .i64 a.r.d.a, .int .i64 a.r.d.b, .int .i64 a.r.x.a, .int .i64 a.r.x.b] ti35 rfl rfl rfl rfl rfl <| WL.loadGAt hS3 (Cells.drop 1 (hc2.mono hle3)) [.int .i64 b.r.d.a, .int .i64 b.r.d.b, .int .i64 b.r.x.a, .int .i64 b.r.x.b] ti35 rfl rfl rfl rfl rfl <| WL.aggEq (RectEq35 a.r b.r) eqg35 rfl rfl rfl ?_
  exact RB hS3 rfl (by unfold rowsB; simp_all [Cmp.b] <;> (first | omega | (intros; omega) | (rw [Bool.eq_iff_iff]; simp <;> omega) | (rw [Bool.eq_iff_iff]; simp_all <;> omega)))
 exact RB hS3 rfl (by unfold rowsB; simp_all [Cmp.b] <;> (first | omega | (intros; omega) | (rw [Bool.eq_iff_iff]; simp <;> omega) | (rw [Bool.eq_iff_iff]; simp_all <;> omega)))
end Go.Civ
set_option linter.unusedVariables false
set_option linter.unusedSimpArgs false
set_option maxRecDepth 100000
set_option maxHeartbeats 4000000
namespace Go.Civ
open Go.Proofs
theorem c_TemporalkeyUnique {G : GH} {w : World} (hG : G.In w) (t : Table) (ct : List Value) (hct : TableE.rep G t ct) : CL Tryz.prog (nat_lit 3) #[.agg ct.toArray] [] w G fun _ _ r=>r = .bool true:=by
 refine calls_of_go ft [] Tryz.func3 rfl rfl ?_
 have hS:=St.start (X:=[]) hG
 obtain ⟨v1,v2,v3,rfl,hb1,hs1,hb2,hs2,hs3,hb3⟩:=TableE_open hct
 refine WL.boxG [strV t.s.name,v1, .int .i64 t.s.key,v2,v3, .int .i64 t.last] _ hS rfl rfl rfl (fun p1 w1 G1 hle1 hsp1 hc1 hS1=>?_)
 refine WL.cV hS1 hb11 rfl rfl rfl (c_awake hS1.imm) (fun w2 G2 hS2 hle2=>?_)
 refine WL.loadGAt hS2 (hc1.mono hle2) [strV t.s.name,v1, .int .i64 t.s.key,v2,v3, .int .i64 t.last] ti28 rfl rfl rfl rfl rfl ?_
 refine WL.cV hS2 hb12 rfl rfl rfl (c_small hS2.imm t _ (TableE_mk t hb1 (hs1.mono (hle1.trans hle2)) hb2 (hs2.mono (hle1.trans hle2)) (hs3.mono (hle1.trans hle2)) hb3)) (fun w3 G3 hS3 hle3=>?_)
 refine WL.split (fun (h1 : (smallT t) = true)=>?_) (fun (h1 : (smallT t) = false)=>?_)
 ·refine WL.loadGAt hS3 (hc1.mono (hle2.trans hle3)) [strV t.s.name,v1, .int .i64 t.s.key,v2,v3, .int .i64 t.last] ti28 rfl rfl rfl rfl rfl <| WL.cA hS3 hb13 rfl rfl rfl (c_Unique hS3.imm t _ (TableE_mk t hb1 (hs1.mono ((hle1.trans hle2).trans hle3)) hb2 (hs2.mono ((hle1.trans hle2).trans hle3)) (hs3.mono ((hle1.trans hle2).trans hle3)) hb3)) ?_
  rintro w4 G4 _ ⟨r2,_,rfl,hs4,rfl⟩ hS4 hle4
  obtain ⟨cs1,rfl,hr1⟩:=hs4
  obtain ⟨v4,rfl,hs5,hb4,hb5,hb6,hb7⟩:=HRowE_open hr1
  refine WL.alloc hS4 ti37 rfl rfl (fun b1 w5 hn1 hS5=>?_)
  refine WL.store hS5 0 _ _ _ 0 _ [v4, .int .i64 ((uniqR t).r.d.a), .int .i64 ((uniqR t).r.d.b), .int .i64 ((uniqR t).r.x.a), .int .i64 ((uniqR t).r.x.b)] [v4, .int .i64 ((uniqR t).r.d.a), .int .i64 ((uniqR t).r.d.b), .int .i64 ((uniqR t).r.x.a), .int .i64 ((uniqR t).r.x.b)] _ rfl rfl ti37 rfl (Nat.le_of_ble_eq_true rfl) (by simp only [List.all_cons,List.all_nil,hs5.oneC,Bool.true_and] <;> rfl) rfl rfl rfl rfl rfl (fun w6 hS6=>?_)
  obtain ⟨G5,hle5,hc2,hS7⟩:=hS6.shutB hn1
  refine WL.loadGAt hS7 (hc1.mono (((hle2.trans hle3).trans hle4).trans hle5)) [strV t.s.name,v1, .int .i64 t.s.key,v2,v3, .int .i64 t.last] ti28 rfl rfl rfl rfl rfl ?_
  refine WL.cV hS7 hb14 rfl rfl rfl (c_hValid hS7.imm t _ (TableE_mk t hb1 (hs1.mono ((((hle1.trans hle2).trans hle3).trans hle4).trans hle5)) hb2 (hs2.mono ((((hle1.trans hle2).trans hle3).trans hle4).trans hle5)) (hs3.mono ((((hle1.trans hle2).trans hle3).trans hle4).trans hle5)) hb3)) (fun w7 G6 hS8 hle6=>?_)
  refine WL.split (fun (h2 : (validT t) = true)=>?_) (fun (h2 : (validT t) = false)=>?_)
  ·refine WL.loadGAt hS8 (hc1.mono ((((hle2.trans hle3).trans hle4).trans hle5).trans hle6)) [strV t.s.name,v1, .int .i64 t.s.key,v2,v3, .int .i64 t.last] ti28 rfl rfl rfl rfl rfl ?_
   refine WL.cA hS8 hb16 rfl rfl rfl (c_rViolation hS8.imm t _ (TableE_mk t hb1 (hs1.mono (((((hle1.trans hle2).trans hle3).trans hle4).trans hle5).trans hle6)) hb2 (hs2.mono (((((hle1.trans hle2).trans hle3).trans hle4).trans hle5).trans hle6)) (hs3.mono (((((hle1.trans hle2).trans hle3).trans hle4).trans hle5).trans hle6)) hb3) (by assumption)) ?_
   rintro w9 G7 _ ⟨r5,_,rfl,hs6,rfl⟩ hS9 hle7
   obtain ⟨cs2,rfl,hr2⟩:=hs6
   obtain ⟨v5,rfl,hs7,hb8,hb9,hb10,hb18⟩:=HRowE_open hr2
   refine WL.alloc hS9 ti37 rfl rfl (fun b2 w10 hn2 hS10=>?_)
   refine WL.store hS10 0 _ _ _ 0 _ [v5, .int .i64 ((rowO (rviolT t)).r.d.a), .int .i64 ((rowO (rviolT t)).r.d.b), .int .i64 ((rowO (rviolT t)).r.x.a), .int .i64 ((rowO (rviolT t)).r.x.b)] [v5, .int .i64 ((rowO (rviolT t)).r.d.a), .int .i64 ((rowO (rviolT t)).r.d.b), .int .i64 ((rowO (rviolT t)).r.x.a), .int .i64 ((rowO (rviolT t)).r.x.b)] _ rfl rfl ti37 rfl (Nat.le_of_ble_eq_true rfl) (by simp only [List.all_cons,List.all_nil,hs7.oneC,Bool.true_and] <;> rfl) rfl rfl rfl rfl rfl (fun w11 hS11=>?_)
   obtain ⟨G9,hle9,hc3,hS12⟩:=hS11.shutB hn2
   refine WL.boolEq (uniqB t) (!((rviolT t).isSome)) ul4 rfl rfl rfl ?_
   refine WL.split (fun (h3 : ((uniqB t) == (!((rviolT t).isSome))) = true)=>?_) (fun (h3 : ((uniqB t) == (!((rviolT t).isSome))) = false)=>?_)
   ·refine WL.loadGAt hS12 (hc2.mono ((hle6.trans hle7).trans hle9)) [v4, .int .i64 ((uniqR t).r.d.a), .int .i64 ((uniqR t).r.d.b), .int .i64 ((uniqR t).r.x.a), .int .i64 ((uniqR t).r.x.b)] ti37 rfl rfl rfl rfl rfl <| WL.loadGAt hS12 hc3 [v5, .int .i64 ((rowO (rviolT t)).r.d.a), .int .i64 ((rowO (rviolT t)).r.d.b), .int .i64 ((rowO (rviolT t)).r.x.a), .int .i64 ((rowO (rviolT t)).r.x.b)] ti37 rfl rfl rfl rfl rfl ?_
    refine WL.cV hS12 hb17 rfl rfl rfl (c_rows hS12.imm (uniqR t) (rowO (rviolT t)) _ (HRowE_mk (uniqR t) (hs5.mono (((hle5.trans hle6).trans hle7).trans hle9)) hb4 hb5 hb6 hb7) _ (HRowE_mk (rowO (rviolT t)) (hs7.mono hle9) hb8 hb9 hb10 hb18)) (fun w12 G10 hS13 hle10=>?_)
    exact RB hS13 rfl (by with_reducible exact (uniq_ok (by assumption)).2)
   exact RB hS12 rfl (by with_reducible exact tf (uniq_eqB (by assumption)) (by assumption))
  refine setB (d:=4) rfl (fun (h4 : (uniqB t) = true)=>?_) (fun (h4 : (uniqB t) = false)=>?_)
  ·exact RB hS8 rfl (by with_reducible exact tf (by assumption) (uniq_bad (by assumption)).1)
  refine WL.loadGAt hS8 (hc2.mono hle6) [v4, .int .i64 ((uniqR t).r.d.a), .int .i64 ((uniqR t).r.d.b), .int .i64 ((uniqR t).r.x.a), .int .i64 ((uniqR t).r.x.b)] ti37 rfl rfl rfl rfl rfl ?_
  refine WL.cV hS8 hb15 rfl rfl rfl (c_none hS8.imm (uniqR t) _ (HRowE_mk (uniqR t) (hs5.mono (hle5.trans hle6)) hb4 hb5 hb6 hb7)) (fun w13 G11 hS14 hle11=>?_)
  exact RB hS14 rfl (by with_reducible exact (uniq_bad (by assumption)).2)
 refine WL.cV hS3 hb11 rfl rfl rfl (c_awake hS3.imm) (fun w14 G12 hS15 hle12=>?_)
 exact RB hS15 rfl (by with_reducible rfl)
end Go.Civ
