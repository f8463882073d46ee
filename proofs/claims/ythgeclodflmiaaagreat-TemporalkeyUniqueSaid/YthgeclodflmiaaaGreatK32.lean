/- Lemmas. -/
import Derived.Test.YthgeclodflmiaaaGreatK22
import Derived.Test.YthgeclodflmiaaaGreatK30
import Derived.Test.YthgeclodflmiaaaGreatK31
import Derived.Test.YthgeclodflmiaaaGreatProg
import Derived.KernelRfl
import Derived.WalkKit
set_option linter.unusedVariables false
set_option linter.unusedSimpArgs false
set_option maxRecDepth 100000
set_option maxHeartbeats 4000000
namespace Go.Civ
open Go.Proofs
theorem c_hValid {G : GH} {w : World} (hG : G.In w) (t : Table) (ct : List Value) (hct : TableE.rep G t ct) : CL Tryz.prog (nat_lit 14) #[.agg ct.toArray] [] w G fun _ _ r=>r = .bool (validT t):=by
 refine calls_of_go ft [] Tryz.func14 rfl rfl ?_
 have hS:=St.start (X:=[]) hG
 obtain ⟨v1,v2,v3,rfl,hb1,hs1,hb2,hs2,hs3,hb3⟩:=TableE_open hct
 refine WL.boxG [strV t.s.name,v1, .int .i64 t.s.key,v2,v3, .int .i64 t.last] _ hS rfl rfl rfl (fun p1 w1 G1 hle1 hsp1 hc1 hS1=>?_)
 refine WL.loadGAt hS1 (Cells.drop 0 hc1) [strV t.s.name,v1, .int .i64 t.s.key,v2] ti25 rfl rfl rfl rfl rfl ?_
 refine WL.cV hS1 hb62 rfl rfl rfl (c_sValid hS1.imm t.s _ (SchemaE_mk t.s hb1 (hs1.mono hle1) hb2 (hs2.mono hle1))) (fun w2 G2 hS2 hle2=>?_)
 refine WL.split (fun (h1 : (schB t.s) = true)=>?_) (fun (h1 : (schB t.s) = false)=>?_)
 ·refine WL.loadG1 hS2 (Cells.drop 5 (hc1.mono hle2)) ti3 rfl rfl rfl ?_
  refine WL.lssS t.last (-62135596801) rfl rfl rfl (fun h2=>?_) (fun h2=>?_)
  ·exact RB hS2 rfl (by exact validT_a (validA_2 (by omega)))
  refine WL.loadG1 hS2 (Cells.drop 5 (hc1.mono hle2)) ti3 rfl rfl rfl ?_
  refine WL.geqS t.last 253402300800 rfl rfl rfl (fun h3=>?_) (fun h3=>?_)
  ·exact RB hS2 rfl (by exact validT_a (validA_3 (by omega)))
  refine WL.loadG1 hS2 (Cells.drop 4 (hc1.mono hle2)) ti26 rfl rfl rfl ?_
  have bd1:=hs3.bound
  refine WL.lenSl (hs3.mono (hle1.trans hle2)) ul26 rfl rfl ?_
  refine WL.gtrS (t.rows.length : Int) 500 rfl rfl rfl (fun h4=>?_) (fun h4=>?_)
  ·exact RB hS2 rfl (by exact validT_a (validA_4 (by omega)))
  have hA:=validA_yes (by assumption : schB t.s = true) (by omega) (by omega) (by omega)
  refine WL.loadG1 hS2 (Cells.drop 4 (hc1.mono hle2)) ti26 rfl rfl rfl ?_
  have bd2:=hs3.bound
  refine WL.lenSl (hs3.mono (hle1.trans hle2)) ul26 rfl rfl ?_
  refine LP.go ft [] (fun m ρ1 w1=>∃ (k1 : Nat),∃ (G3 : GH),m = t.rows.length - k1 ∧ G2.le G3 ∧ St w [] G G3 [] w1 ∧ FR ρ1 [(1, .pointer (some p1)),(27,v3),(28, .int .i64 (t.rows.length : Int)),(29, .int .i64 (k1 : Int))] ∧ k1 ≤ t.rows.length ∧ ∀ j,j < k1 → ∀ x,t.rows[j]? = some x → rowOk t.s t.last x = true) _ ⟨0,G2,rfl,(G2.le_refl),hS2,⟨rfl,rfl,rfl,rfl,trivial⟩,(by omega),(by intro j hj; omega)⟩ ?_
  rintro m ρ1 w3 ⟨k1,G3,rfl,hle3,hS3,hF9,f1,f2⟩
  refine hF9.set ?_
  clear hF9
  refine WL.lssS (k1 : Int) (t.rows.length : Int) rfl rfl rfl (fun h5=>?_) (fun h5=>?_)
  ·refine WL.indexAddr (hs3.mono ((hle1.trans hle2).trans hle3)) k1 (by omega) ul26 ti37 rfl rfl rfl rfl (fun p2 x1 hx1 he1=>?_)
   obtain ⟨cs1,hc2,hr1⟩:=he1
   obtain ⟨v4,rfl,hs4,hb4,hb5,hb6,hb7⟩:=HRowE_open hr1
   refine WL.loadGAt hS3 hc2 [v4, .int .i64 x1.r.d.a, .int .i64 x1.r.d.b, .int .i64 x1.r.x.a, .int .i64 x1.r.x.b] ti37 rfl rfl rfl rfl rfl ?_
   refine WL.alloc hS3 ti37 rfl rfl (fun b1 w4 hn1 hS4=>?_)
   refine WL.store hS4 0 _ _ _ 0 _ [v4, .int .i64 x1.r.d.a, .int .i64 x1.r.d.b, .int .i64 x1.r.x.a, .int .i64 x1.r.x.b] [v4, .int .i64 x1.r.d.a, .int .i64 x1.r.d.b, .int .i64 x1.r.x.a, .int .i64 x1.r.x.b] _ rfl rfl ti37 rfl (Nat.le_of_ble_eq_true rfl) (by simp only [List.all_cons,List.all_nil,hs4.oneC,Bool.true_and] <;> rfl) rfl rfl rfl rfl rfl (fun w5 hS5=>?_)
   obtain ⟨G4,hle4,hc3,hS6⟩:=hS5.shutB hn1
   refine WL.loadGAt hS6 (Cells.drop 2 (Cells.drop 1 hc3)) [.int .i64 x1.r.x.a, .int .i64 x1.r.x.b] ti33 rfl rfl rfl rfl rfl ?_
   refine WL.alloc hS6 ti33 rfl rfl (fun b2 w6 hn2 hS7=>?_)
   refine WL.store hS7 0 _ _ _ 0 _ [.int .i64 x1.r.x.a, .int .i64 x1.r.x.b] [.int .i64 x1.r.x.a, .int .i64 x1.r.x.b] _ rfl rfl ti33 rfl (Nat.le_of_ble_eq_true rfl) rfl rfl rfl rfl rfl rfl (fun w7 hS8=>?_)
   obtain ⟨G5,hle5,hc4,hS9⟩:=hS8.shutB hn2
   refine WL.loadGAt hS9 (Cells.drop 0 (hc1.mono (((hle2.trans hle3).trans hle4).trans hle5))) [strV t.s.name,v1, .int .i64 t.s.key,v2] ti25 rfl rfl rfl rfl rfl <| WL.loadG1 hS9 (Cells.drop 0 (hc3.mono hle5)) ti31 rfl rfl rfl ?_
   refine WL.cV hS9 hb63 rfl rfl rfl (c_sRow hS9.imm t.s x1.v _ (SchemaE_mk t.s hb1 (hs1.mono ((((hle1.trans hle2).trans hle3).trans hle4).trans hle5)) hb2 (hs2.mono ((((hle1.trans hle2).trans hle3).trans hle4).trans hle5))) _ (hs4.mono (hle4.trans hle5))) (fun w9 G6 hS10 hle6=>?_)
   refine WL.neqS (rowE t.s x1.v) 0 rfl rfl rfl (fun h6=>?_) (fun h6=>?_)
   ·exact RB hS10 rfl (by exact validT_row (by assumption) (rowOk_1 (by assumption)))
   refine WL.loadGAt hS10 (hc3.mono (hle5.trans hle6)) [v4, .int .i64 x1.r.d.a, .int .i64 x1.r.d.b, .int .i64 x1.r.x.a, .int .i64 x1.r.x.b] ti37 rfl rfl rfl rfl rfl ?_
   refine WL.cV hS10 hb64 rfl rfl rfl (c_hgood hS10.imm x1 _ (HRowE_mk x1 (hs4.mono ((hle4.trans hle5).trans hle6)) hb4 hb5 hb6 hb7)) (fun w10 G7 hS11 hle7=>?_)
   refine WL.split (fun (h7 : (goodB x1) = true)=>?_) (fun (h7 : (goodB x1) = false)=>?_)
   ·refine WL.loadG1 hS11 (Cells.drop 0 (hc4.mono (hle6.trans hle7))) ti3 rfl rfl rfl <| WL.loadG1 hS11 (Cells.drop 5 (hc1.mono (((((hle2.trans hle3).trans hle4).trans hle5).trans hle6).trans hle7))) ti3 rfl rfl rfl ?_
    refine WL.gtrS x1.r.x.a t.last rfl rfl rfl (fun h8=>?_) (fun h8=>?_)
    ·exact RB hS11 rfl (by exact validT_row (by assumption) (rowOk_3 (by omega)))
    refine WL.loadG1 hS11 (Cells.drop 1 (hc4.mono (hle6.trans hle7))) ti3 rfl rfl rfl <| WL.loadG1 hS11 (Cells.drop 5 (hc1.mono (((((hle2.trans hle3).trans hle4).trans hle5).trans hle6).trans hle7))) ti3 rfl rfl rfl ?_
    refine WL.gtrS x1.r.x.b t.last rfl rfl rfl (fun h9=>?_) (fun h9=>?_)
    ·refine WL.loadG1 hS11 (Cells.drop 1 (hc4.mono (hle6.trans hle7))) ti3 rfl rfl rfl ?_
     refine WL.neqS x1.r.x.b 253402300800 rfl rfl rfl (fun h10=>?_) (fun h10=>?_)
     ·exact RB hS11 rfl (by exact validT_row (by assumption) (rowOk_4 (by omega) (by omega)))
     refine WL.incr k1 (by have hreach : reach = 140737488355328:=rfl; omega) rfl rfl rfl ?_
     exact BK.mk' _ ⟨k1 + 1,G7,rfl,(hle3.trans (((hle4.trans hle5).trans hle6).trans hle7)),hS11,⟨rfl,rfl,rfl,rfl,trivial⟩,(by omega),(by exact lt_step (by assumption) (by assumption) (rowOk_y (by assumption) (by assumption) (by omega) (by exact .inr (by omega))))⟩ (show t.rows.length - (k1 + 1) < t.rows.length - k1 by omega)
    refine WL.incr k1 (by have hreach : reach = 140737488355328:=rfl; omega) rfl rfl rfl ?_
    exact BK.mk' _ ⟨k1 + 1,G7,rfl,(hle3.trans (((hle4.trans hle5).trans hle6).trans hle7)),hS11,⟨rfl,rfl,rfl,rfl,trivial⟩,(by omega),(by exact lt_step (by assumption) (by assumption) (rowOk_y (by assumption) (by assumption) (by omega) (by exact .inl (by omega))))⟩ (show t.rows.length - (k1 + 1) < t.rows.length - k1 by omega)
   exact RB hS11 rfl (by exact validT_row (by assumption) (rowOk_2 (by assumption)))
  have hall:=all_yes (p:=rowOk t.s t.last) (by assumption) (by omega)
  obtain ⟨hg9,hl9⟩:=rows_good hall
  refine dr [(4,true),(5,false),(6,false)] [(68,v3),(70,v3)] hS3 ⟨fun _ hSw=>WL.loadG1 hSw (Cells.drop 4 (hc1.mono (hle2.trans hle3))) ti26 rfl rfl rfl <| nu rfl rfl,fun _ hSw=>WL.loadG1 hSw (Cells.drop 4 (hc1.mono (hle2.trans hle3))) ti26 rfl rfl rfl <| nu rfl rfl,trivial⟩ (fun w11 hS12=>?_)
  refine WL.cA hS12 hb66 rfl rfl rfl (c_hnormal hS12.imm t.rows _ (hs3.mono ((hle1.trans hle2).trans hle3)) hg9 (le1000 hl9) (by omega)) (fun w12 G9 r1 hpost1 hS13 hle9=>?_)
  refine ⟨hS13.down hS12.le hle9,?_⟩
  refine WL.cV hS13 hb65 rfl rfl rfl (c_EqualR hS13.imm t.rows (normH t.rows) (fun x8 y8=>decide (x8 = y8)) _ (hs3.mono (((hle1.trans hle2).trans hle3).trans hle9)) _ hpost1 67 #[] ⟨hb67,fun G8 w8 v8 u8 x8 y8 hle8 hG8 hon8 hA8 hB8=>by obtain ⟨cs_x8,rfl,hr_x8⟩:=hA8; obtain ⟨cs_y8,rfl,hr_y8⟩:=hB8; exact c_hequal hG8 x8 y8 cs_x8 hr_x8 cs_y8 hr_y8⟩) (fun w13 G10 hS14 hle10=>?_)
  exact RB hS14 rfl (by exact validT_eq hA hall)
 exact RB hS2 rfl (by exact validT_a (validA_1 (by assumption)))
theorem c_timely {G : GH} {w : World} (hG : G.In w) (t : Table) (tx : Int) (ct : List Value) (hct : TableE.rep G t ct) : CL Tryz.prog (nat_lit 79) #[.agg ct.toArray, .int .i64 tx] [] w G fun _ _ r=>r = .int .i64 (timE t tx):=by
 refine calls_of_go ft [] Tryz.func79 rfl rfl ?_
 have hS:=St.start (X:=[]) hG
 obtain ⟨v1,v2,v3,rfl,hb1,hs1,hb2,hs2,hs3,hb3⟩:=TableE_open hct
 refine WL.boxG [strV t.s.name,v1, .int .i64 t.s.key,v2,v3, .int .i64 t.last] _ hS rfl rfl rfl (fun p1 w1 G1 hle1 hsp1 hc1 hS1=>?_)
 refine WL.cV hS1 hb85 rfl rfl rfl (c_instant hS1.imm tx) (fun w2 G2 hS2 hle2=>?_)
 refine WL.split (fun (h1 : (instB tx) = true)=>?_) (fun (h1 : (instB tx) = false)=>?_)
 ·refine WL.loadG1 hS2 (Cells.drop 5 (hc1.mono hle2)) ti3 rfl rfl rfl ?_
  refine WL.leqS tx t.last rfl rfl rfl (fun h2=>?_) (fun h2=>?_)
  ·exact RI hS2 rfl (by exact timE_2 (by assumption) (by assumption))
  exact RI hS2 rfl (by exact timE_3 (by assumption) (by omega))
 exact RI hS2 rfl (by exact timE_1 (by assumption))
theorem c_done {G : GH} {w : World} (hG : G.In w) (t : Table) (tx : Int) (l : List HRow) (ct : List Value) (hct : TableE.rep G t ct) (vl : Value) (hvl : Sl HRowE 56 G vl l) (htx64 : I64 tx) (hgood : GoodH l) (hlen : ∀ r ∈ l,r.v.length ≤ 1000) (hl : l.length ≤ 2000) : CL Tryz.prog (nat_lit 80) #[.agg ct.toArray, .int .i64 tx,vl] [] w G fun G' _ r=>∃ r0 r1,r = .tuple #[r0,r1] ∧ Is TableE G' r0 (doneT t tx l) ∧ r1 = .int .i64 (doneTE l):=by
 refine calls_of_goR ft [] Tryz.func80 rfl rfl ?_
 have hS:=St.start (X:=[]) hG
 obtain ⟨v1,v2,v3,rfl,hb1,hs1,hb2,hs2,hs3,hb3⟩:=TableE_open hct
 refine WL.boxG [strV t.s.name,v1, .int .i64 t.s.key,v2,v3, .int .i64 t.last] _ hS rfl rfl rfl (fun p1 w1 G1 hle1 hsp1 hc1 hS1=>?_)
 refine WL.alloc hS1 ti28 rfl rfl (fun b1 w2 hn1 hS2=>?_)
 refine drT [3,5,6,7] [(10, .agg #[strV t.s.name,v1, .int .i64 t.s.key,v2])] hS2 ⟨fun _ hSw=>WL.loadGAt hSw (Cells.drop 0 hc1) [strV t.s.name,v1, .int .i64 t.s.key,v2] ti25 rfl rfl rfl rfl rfl <| nu rfl rfl,trivial⟩ (fun w3 hS3=>?_)
 refine TG.fork 3 [3,5,6,7] [3,6] rfl rfl (by decide) (by decide) (TA.cons rfl ?_ (TA.cons rfl ?_ TA.nil))
 ·refine WL.cA hS3 hb66 rfl rfl rfl (c_hnormal hS3.imm l _ (hvl.mono hle1) hgood hlen hl) (fun w4 G2 r1 hpost1 hS4 hle2=>?_)
  refine ⟨fun _=>hS4.down hS3.le hle2,?_⟩
  refine TG.quiet 2 [5,6,7] 5 rfl rfl rfl rfl rfl (by decide) (fun w9 K9 k9=>WL.build _ [(0,[strV t.s.name,v1, .int .i64 t.s.key,v2]),(1,[r1]),(2,[.int .i64 tx])] [strV t.s.name,v1, .int .i64 t.s.key,v2,r1, .int .i64 tx] ti28 rfl fl28 rfl rfl (by show [(0,(.agg #[strV t.s.name,v1, .int .i64 t.s.key,v2] : Value).cells.toList),(1,(r1 : Value).cells.toList),(2,(.int .i64 tx : Value).cells.toList)] = _; simp only [hpost1.cells1] <;> rfl) rfl k9) ?_
  refine TG.fork 1 [6,7] [6] rfl rfl (by decide) (by decide) (TA.cons rfl ?_ TA.nil)
  refine WL.alloc hS4 ti28 rfl rfl (fun b2 w5 hn2 hS5=>?_)
  refine ⟨fun _=>hS5.tail.down hS3.le hle2,?_⟩
  refine TG.fork 0 [7] [7] rfl rfl (by decide) (by decide) (TA.cons rfl ?_ TA.nil)
  refine WL.store hS5 0 _ _ _ 0 _ [strV t.s.name,v1, .int .i64 t.s.key,v2,r1, .int .i64 tx] [strV t.s.name,v1, .int .i64 t.s.key,v2,r1, .int .i64 tx] _ rfl rfl ti28 rfl (Nat.le_of_ble_eq_true rfl) (by simp only [List.all_cons,List.all_nil,(hs1.mono (hle1.trans hle2)).oneC,(hs2.mono (hle1.trans hle2)).oneC,hpost1.oneC,Bool.true_and] <;> rfl) rfl rfl rfl rfl rfl (fun w6 hS6=>?_)
  obtain ⟨G3,hle3,hc2,hS7⟩:=hS6.shutB hn2
  refine ⟨fun h=>absurd h (by decide),?_⟩
  refine TG.fin rfl ?_
  refine WL.loadG1 hS7 (Cells.drop 4 hc2) ti26 rfl rfl rfl ?_
  have bd1:=hpost1.bound
  refine WL.lenSl (hpost1.mono hle3) ul26 rfl rfl ?_
  refine WL.gtrS (((normH l).length : Nat) : Int) 500 rfl rfl rfl (fun h1=>?_) (fun h1=>?_)
  ·refine WL.build _ [] [strV [], .slice none 0 0, .int .i64 0, .slice none 0 0, .slice none 0 0, .int .i64 0] ti28 rfl fl28 rfl rfl rfl rfl ?_
   refine WL.store hS7 0 _ _ _ 0 _ [strV [], .slice none 0 0, .int .i64 0, .slice none 0 0, .slice none 0 0, .int .i64 0] [strV [], .slice none 0 0, .int .i64 0, .slice none 0 0, .slice none 0 0, .int .i64 0] _ rfl rfl ti28 rfl (Nat.le_of_ble_eq_true rfl) rfl rfl rfl rfl rfl rfl (fun w7 hS8=>?_)
   exact RTR [.agg #[strV [], .slice none 0 0, .int .i64 0, .slice none 0 0, .slice none 0 0, .int .i64 0], .int .i64 5] hS8 ⟨_,_,_,rfl,rfl,hS8.loadA 0 _ _ _ 0 [strV [], .slice none 0 0, .int .i64 0, .slice none 0 0, .slice none 0 0, .int .i64 0] rfl rfl rfl ti28 rfl,⟨_,rfl,rfl⟩⟩ ⟨_,_,rfl,(Is.cast ⟨_,rfl,(TableE_mk (Table.mk (Schema.mk [] [] 0 []) [] 0) (by simp [reach]) (Sl.nil ColE 24 G3) I64_0 (Sl.nil ForeignE 40 G3) (Sl.nil HRowE 56 G3) I64_0)⟩ (by exact (done_no (by omega)).1)),(congrArg (Value.int .i64) (by exact (done_no (t:=t) (tx:=tx) (by omega)).2))⟩
  refine WL.loadGAt hS7 hc2 [strV t.s.name,v1, .int .i64 t.s.key,v2,r1, .int .i64 tx] ti28 rfl rfl rfl rfl rfl ?_
  refine WL.store hS7 0 _ _ _ 0 _ [strV t.s.name,v1, .int .i64 t.s.key,v2,r1, .int .i64 tx] [strV t.s.name,v1, .int .i64 t.s.key,v2,r1, .int .i64 tx] _ rfl rfl ti28 rfl (Nat.le_of_ble_eq_true rfl) (by simp only [List.all_cons,List.all_nil,(hs1.mono ((hle1.trans hle2).trans hle3)).oneC,(hs2.mono ((hle1.trans hle2).trans hle3)).oneC,(hpost1.mono hle3).oneC,Bool.true_and] <;> rfl) rfl rfl rfl rfl rfl (fun w9 hS9=>?_)
  exact RTR [.agg #[strV t.s.name,v1, .int .i64 t.s.key,v2,r1, .int .i64 tx], .int .i64 0] hS9 ⟨_,_,_,rfl,rfl,hS9.loadA 0 _ _ _ 0 [strV t.s.name,v1, .int .i64 t.s.key,v2,r1, .int .i64 tx] rfl rfl rfl ti28 rfl,⟨_,rfl,rfl⟩⟩ ⟨_,_,rfl,(Is.cast ⟨_,rfl,(TableE_mk (Table.mk t.s (normH l) tx) hb1 (hs1.mono ((hle1.trans hle2).trans hle3)) hb2 (hs2.mono ((hle1.trans hle2).trans hle3)) (hpost1.mono hle3) htx64)⟩ (by exact (done_yes (by omega)).1)),(congrArg (Value.int .i64) (by exact (done_yes (t:=t) (tx:=tx) (by omega)).2))⟩
 refine WL.alloc hS3 ti28 rfl rfl (fun b3 w10 hn3 hS10=>?_)
 refine ⟨fun _=>hS10.tail.down hS3.le (G1.le_refl),?_⟩
 refine TG.fork 2 [3,5,7] [3] rfl rfl (by decide) (by decide) (TA.cons rfl ?_ TA.nil)
 refine WL.cA hS10 hb66 rfl rfl rfl (c_hnormal hS10.imm l _ (hvl.mono hle1) hgood hlen hl) (fun w11 G4 r2 hpost2 hS11 hle4=>?_)
 refine ⟨fun _=>hS11.tail.down hS3.le hle4,?_⟩
 refine TG.quiet 1 [5,7] 5 rfl rfl rfl rfl rfl (by decide) (fun w9 K9 k9=>WL.build _ [(0,[strV t.s.name,v1, .int .i64 t.s.key,v2]),(1,[r2]),(2,[.int .i64 tx])] [strV t.s.name,v1, .int .i64 t.s.key,v2,r2, .int .i64 tx] ti28 rfl fl28 rfl rfl (by show [(0,(.agg #[strV t.s.name,v1, .int .i64 t.s.key,v2] : Value).cells.toList),(1,(r2 : Value).cells.toList),(2,(.int .i64 tx : Value).cells.toList)] = _; simp only [hpost2.cells1] <;> rfl) rfl k9) ?_
 refine TG.fork 0 [7] [7] rfl rfl (by decide) (by decide) (TA.cons rfl ?_ TA.nil)
 refine WL.store hS11 0 _ _ _ 0 _ [strV t.s.name,v1, .int .i64 t.s.key,v2,r2, .int .i64 tx] [strV t.s.name,v1, .int .i64 t.s.key,v2,r2, .int .i64 tx] _ rfl rfl ti28 rfl (Nat.le_of_ble_eq_true rfl) (by simp only [List.all_cons,List.all_nil,(hs1.mono (hle1.trans hle4)).oneC,(hs2.mono (hle1.trans hle4)).oneC,hpost2.oneC,Bool.true_and] <;> rfl) rfl rfl rfl rfl rfl (fun w12 hS12=>?_)
 obtain ⟨G5,hle5,hc3,hS13⟩:=hS12.shutB hn3
 refine ⟨fun h=>absurd h (by decide),?_⟩
 refine TG.fin rfl ?_
 refine WL.loadG1 hS13 (Cells.drop 4 hc3) ti26 rfl rfl rfl ?_
 have bd2:=hpost2.bound
 refine WL.lenSl (hpost2.mono hle5) ul26 rfl rfl ?_
 refine WL.gtrS (((normH l).length : Nat) : Int) 500 rfl rfl rfl (fun h2=>?_) (fun h2=>?_)
 ·refine WL.build _ [] [strV [], .slice none 0 0, .int .i64 0, .slice none 0 0, .slice none 0 0, .int .i64 0] ti28 rfl fl28 rfl rfl rfl rfl ?_
  refine WL.store hS13 0 _ _ _ 0 _ [strV [], .slice none 0 0, .int .i64 0, .slice none 0 0, .slice none 0 0, .int .i64 0] [strV [], .slice none 0 0, .int .i64 0, .slice none 0 0, .slice none 0 0, .int .i64 0] _ rfl rfl ti28 rfl (Nat.le_of_ble_eq_true rfl) rfl rfl rfl rfl rfl rfl (fun w13 hS14=>?_)
  exact RTR [.agg #[strV [], .slice none 0 0, .int .i64 0, .slice none 0 0, .slice none 0 0, .int .i64 0], .int .i64 5] hS14 ⟨_,_,_,rfl,rfl,hS14.loadA 0 _ _ _ 0 [strV [], .slice none 0 0, .int .i64 0, .slice none 0 0, .slice none 0 0, .int .i64 0] rfl rfl rfl ti28 rfl,⟨_,rfl,rfl⟩⟩ ⟨_,_,rfl,(Is.cast ⟨_,rfl,(TableE_mk (Table.mk (Schema.mk [] [] 0 []) [] 0) (by simp [reach]) (Sl.nil ColE 24 G5) I64_0 (Sl.nil ForeignE 40 G5) (Sl.nil HRowE 56 G5) I64_0)⟩ (by exact (done_no (by omega)).1)),(congrArg (Value.int .i64) (by exact (done_no (t:=t) (tx:=tx) (by omega)).2))⟩
 refine WL.loadGAt hS13 hc3 [strV t.s.name,v1, .int .i64 t.s.key,v2,r2, .int .i64 tx] ti28 rfl rfl rfl rfl rfl ?_
 refine WL.store hS13 0 _ _ _ 0 _ [strV t.s.name,v1, .int .i64 t.s.key,v2,r2, .int .i64 tx] [strV t.s.name,v1, .int .i64 t.s.key,v2,r2, .int .i64 tx] _ rfl rfl ti28 rfl (Nat.le_of_ble_eq_true rfl) (by simp only [List.all_cons,List.all_nil,(hs1.mono ((hle1.trans hle4).trans hle5)).oneC,(hs2.mono ((hle1.trans hle4).trans hle5)).oneC,(hpost2.mono hle5).oneC,Bool.true_and] <;> rfl) rfl rfl rfl rfl rfl (fun w14 hS15=>?_)
 exact RTR [.agg #[strV t.s.name,v1, .int .i64 t.s.key,v2,r2, .int .i64 tx], .int .i64 0] hS15 ⟨_,_,_,rfl,rfl,hS15.loadA 0 _ _ _ 0 [strV t.s.name,v1, .int .i64 t.s.key,v2,r2, .int .i64 tx] rfl rfl rfl ti28 rfl,⟨_,rfl,rfl⟩⟩ ⟨_,_,rfl,(Is.cast ⟨_,rfl,(TableE_mk (Table.mk t.s (normH l) tx) hb1 (hs1.mono ((hle1.trans hle4).trans hle5)) hb2 (hs2.mono ((hle1.trans hle4).trans hle5)) (hpost2.mono hle5) htx64)⟩ (by exact (done_yes (by omega)).1)),(congrArg (Value.int .i64) (by exact (done_yes (t:=t) (tx:=tx) (by omega)).2))⟩
theorem c_OrE {G : GH} {w : World} (hG : G.In w) (l : List Int) (vl : Value) (hvl : Sl Enc.int 8 G vl l) : CL Tryz.prog (nat_lit 78) #[vl] [] w G fun _ _ r=>r = .int .i64 (cmpOr l):=by
 refine calls_of_go ft [] Tryz.func78 rfl rfl ?_
 have hS:=St.start (X:=[]) hG
 have bd1:=hvl.bound
 refine WL.lenSl hvl ul176 rfl rfl ?_
 refine LP.go ft [] (fun m ρ1 w1=>∃ (k1 : Nat),∃ (G1 : GH),m = l.length - k1 ∧ G.le G1 ∧ St w [] G G1 [] w1 ∧ FR ρ1 [(3, .int .i64 0),(6,vl),(7, .int .i64 (l.length : Int)),(8, .int .i64 (k1 : Int))] ∧ k1 ≤ l.length ∧ ∀ j,j < k1 → ∀ x,l[j]? = some x → x = 0) _ ⟨0,G,rfl,(G.le_refl),hS,⟨rfl,rfl,rfl,rfl,trivial⟩,(by omega),(by intro j hj; omega)⟩ ?_
 rintro m ρ1 w1 ⟨k1,G1,rfl,hle1,hS1,hF9,f1,f2⟩
 refine hF9.set ?_
 clear hF9
 refine WL.lssS (k1 : Int) (l.length : Int) rfl rfl rfl (fun h1=>?_) (fun h1=>?_)
 ·refine WL.indexAddr (hvl.mono hle1) k1 (by omega) ul176 ti42 rfl rfl rfl rfl (fun p1 x1 hx1 he1=>?_)
  obtain ⟨cs1,hc1,hr1⟩:=he1
  obtain ⟨rfl,hb1⟩:=hr1
  refine WL.loadG1 hS1 hc1 ti42 rfl rfl rfl ?_
  refine WL.neqS x1 0 rfl rfl rfl (fun h2=>?_) (fun h2=>?_)
  ·exact RI hS1 rfl (by exact (cmpOr_at (by assumption) (by assumption) (by assumption)).symm)
  refine WL.incr k1 (by have hreach : reach = 140737488355328:=rfl; omega) rfl rfl rfl ?_
  exact BK.mk' _ ⟨k1 + 1,G1,rfl,hle1,hS1,⟨rfl,rfl,rfl,rfl,trivial⟩,(by omega),(by exact lt_step (by assumption) (by assumption) (by assumption))⟩ (show l.length - (k1 + 1) < l.length - k1 by omega)
 exact RI hS1 rfl (by exact (cmpOr_none (by assumption) (by omega)).symm)
theorem c_CloneR {G : GH} {w : World} (hG : G.In w) (l : List HRow) (vl : Value) (hvl : Sl HRowE 56 G vl l) : CL Tryz.prog (nat_lit 81) #[vl] [] w G fun G' w' r=>∃ o,Row HRowE 56 (nat_lit 37) G' r l o ∧ Fresh w w' G' o:=by
 refine calls_of_go ft [] Tryz.func81 rfl rfl ?_
 have hS:=St.start (X:=[]) hG
 refine WL.nilEq hvl ul26 rfl rfl rfl (fun h1=>?_) ?_
 ·exact RT hS rfl ⟨none,Row.cast (Row.nil _ _ _ _) (by exact Eq.symm (by assumption)),fun _ h=>by cases h⟩
 refine WL.buildSlice _ [] [] hS sl26 rfl rfl rfl rfl (fun z hz=>by match z,hz with | [],_=>rfl) (fun b1 w1 hn1 hS1=>?_)
 have hr1:=Row.empty HRowE 56 37 G b1
 refine WL.pushSl sl26 rfl rfl rfl hr1 hS1 0 rfl hvl (by have hreach : reach = 140737488355328:=rfl; have:=hvl.bytes; have:=hvl.bound; simp only [List.length_nil,Nat.zero_add]; omega) (by have hreach : reach = 140737488355328:=rfl; have:=hvl.bytes; have:=hvl.bound; simp only [List.length_nil,Nat.zero_add]; omega) rfl rfl rfl (fun v1 o1 w2 hr2 hS2=>?_)
 exact RT hS2 rfl ⟨_,Row.cast hr2 (by rfl),hS2.freshAt 0 rfl⟩
theorem c_hNew {G : GH} {w : World} (hG : G.In w) (s : Schema) (cs : List Value) (hcs : SchemaE.rep G s cs) : CL Tryz.prog (nat_lit 112) #[.agg cs.toArray] [] w G fun G' _ r=>∃ r0 r1,r = .tuple #[r0,r1] ∧ Is TableE G' r0 (newT s) ∧ r1 = .int .i64 (newE s):=by
 refine calls_of_goR ft [] Tryz.func112 rfl rfl ?_
 have hS:=St.start (X:=[]) hG
 obtain ⟨v1,v2,rfl,hb1,hs1,hb2,hs2⟩:=SchemaE_open hcs
 refine WL.boxG [strV s.name,v1, .int .i64 s.key,v2] _ hS rfl rfl rfl (fun p1 w1 G1 hle1 hsp1 hc1 hS1=>?_)
 refine WL.alloc hS1 ti28 rfl rfl (fun b1 w2 hn1 hS2=>?_)
 refine WL.loadGAt hS2 hc1 [strV s.name,v1, .int .i64 s.key,v2] ti25 rfl rfl rfl rfl rfl ?_
 refine WL.cV hS2 hb62 rfl rfl rfl (c_sValid hS2.imm s _ (SchemaE_mk s hb1 (hs1.mono hle1) hb2 (hs2.mono hle1))) (fun w3 G2 hS3 hle2=>?_)
 refine WL.split (fun (h1 : (schB s) = true)=>?_) (fun (h1 : (schB s) = false)=>?_)
 ·refine WL.loadGAt hS3 (hc1.mono hle2) [strV s.name,v1, .int .i64 s.key,v2] ti25 rfl rfl rfl rfl rfl <| WL.build _ [(0,[strV s.name,v1, .int .i64 s.key,v2]),(2,[.int .i64 (-62135596801)])] [strV s.name,v1, .int .i64 s.key,v2, .slice none 0 0, .int .i64 (-62135596801)] ti28 rfl fl28 rfl rfl rfl rfl ?_
  refine WL.store hS3 0 _ _ _ 0 _ [strV s.name,v1, .int .i64 s.key,v2, .slice none 0 0, .int .i64 (-62135596801)] [strV s.name,v1, .int .i64 s.key,v2, .slice none 0 0, .int .i64 (-62135596801)] _ rfl rfl ti28 rfl (Nat.le_of_ble_eq_true rfl) (by simp only [List.all_cons,List.all_nil,(hs1.mono (hle1.trans hle2)).oneC,(hs2.mono (hle1.trans hle2)).oneC,Bool.true_and] <;> rfl) rfl rfl rfl rfl rfl (fun w4 hS4=>?_)
  exact RTR [.agg #[strV s.name,v1, .int .i64 s.key,v2, .slice none 0 0, .int .i64 (-62135596801)], .int .i64 0] hS4 ⟨_,_,_,rfl,rfl,hS4.loadA 0 _ _ _ 0 [strV s.name,v1, .int .i64 s.key,v2, .slice none 0 0, .int .i64 (-62135596801)] rfl rfl rfl ti28 rfl,⟨_,rfl,rfl⟩⟩ ⟨_,_,rfl,(Is.cast ⟨_,rfl,(TableE_mk (Table.mk s [] (-62135596801)) hb1 (hs1.mono (hle1.trans hle2)) hb2 (hs2.mono (hle1.trans hle2)) (Sl.nil HRowE 56 G2) (show I64 (-62135596801) from by constructor <;> decide))⟩ (by exact (new_y (by assumption)).1)),(congrArg (Value.int .i64) (by exact (new_y (by assumption)).2))⟩
 refine WL.build _ [] [strV [], .slice none 0 0, .int .i64 0, .slice none 0 0, .slice none 0 0, .int .i64 0] ti28 rfl fl28 rfl rfl rfl rfl ?_
 refine WL.store hS3 0 _ _ _ 0 _ [strV [], .slice none 0 0, .int .i64 0, .slice none 0 0, .slice none 0 0, .int .i64 0] [strV [], .slice none 0 0, .int .i64 0, .slice none 0 0, .slice none 0 0, .int .i64 0] _ rfl rfl ti28 rfl (Nat.le_of_ble_eq_true rfl) rfl rfl rfl rfl rfl rfl (fun w5 hS5=>?_)
 exact RTR [.agg #[strV [], .slice none 0 0, .int .i64 0, .slice none 0 0, .slice none 0 0, .int .i64 0], .int .i64 1] hS5 ⟨_,_,_,rfl,rfl,hS5.loadA 0 _ _ _ 0 [strV [], .slice none 0 0, .int .i64 0, .slice none 0 0, .slice none 0 0, .int .i64 0] rfl rfl rfl ti28 rfl,⟨_,rfl,rfl⟩⟩ ⟨_,_,rfl,(Is.cast ⟨_,rfl,(TableE_mk (Table.mk (Schema.mk [] [] 0 []) [] 0) (by simp [reach]) (Sl.nil ColE 24 G2) I64_0 (Sl.nil ForeignE 40 G2) (Sl.nil HRowE 56 G2) I64_0)⟩ (by exact (new_n (by assumption)).1)),(congrArg (Value.int .i64) (by exact (new_n (by assumption)).2))⟩
end Go.Civ
