/- Lemmas: Wk0. -/
import Derived.Test.YtjjkgobhlfmhhaaGreatR27
import Derived.Test.YtjjkgobhlfmhhaaGreatR32
import Derived.Test.YtjjkgobhlfmhhaaGreatR40
import Derived.Test.YtjjkgobhlfmhhaaGreatR43
import Derived.Test.YtjjkgobhlfmhhaaGreatProg
import Derived.KernelRfl
import Derived.WalkKit
set_option linter.unusedVariables false
set_option linter.unusedSimpArgs false
set_option maxRecDepth 100000
set_option maxHeartbeats 4000000
namespace Go.Civ
open Go.Proofs
theorem c_hDelete1 {G : GH} {w : World} (hG : G.In w) (v : List Val) (vv : Value) (hvv : Sl ValE 32 G vv v) : CL Tryz.prog (nat_lit 85) #[vv] [] w G fun G' _ r=>∃ r0 r1,r = .tuple #[r0,r1] ∧ Sl ValE 32 G' r0 (Option.getD (none : Option (List Val)) []) ∧ r1 = .bool ((none : Option (List Val)).isSome):=by
 refine calls_of_go ft [] Tryz.func85 rfl rfl ?_
 have hS:=St.start (X:=[]) hG
 exact RT hS rfl ⟨_,_,rfl,(Sl.cast (Sl.nil ValE 32 G) (by rfl)),(congrArg Value.bool (by rfl))⟩
theorem c_change {G : GH} {w : World} (hG : G.In w) (d : Nat) (t : Table) (tx : Int) (c : Cond) (p : Span) (nx : List Val → Option (List Val)) (ct : List Value) (hct : TableE.rep G t ct) (cc : List Value) (hcc : (CondE d).rep G c cc) (cp : List Value) (hcp : SpanE.rep G p cp) (fid : Nat) (fcap : Array Value) (hf : FnO Tryz.prog (Sl ValE 32) fid fcap G (fun x=>x.length = t.s.cols.length) nx) (htx64 : I64 tx) (hc : ChgOk t tx p nx) : CL Tryz.prog (nat_lit 84) #[.agg ct.toArray, .int .i64 tx, .agg cc.toArray, .agg cp.toArray, .func (.func fid) #[] fcap] [] w G fun G' _ r=>∃ r0 r1,r = .tuple #[r0,r1] ∧ Is TableE G' r0 (doneT t tx (chgRows (hldB d c (nms t)) nx tx p t.rows)) ∧ r1 = .int .i64 (doneTE (chgRows (hldB d c (nms t)) nx tx p t.rows)):=by
 refine calls_of_goR ft [] Tryz.func84 rfl rfl ?_
 have hS:=St.start (X:=[]) hG
 obtain ⟨v1,v2,v3,rfl,hb1,hs1,hb2,hs2,hs3,hb3⟩:=TableE_open hct
 obtain ⟨lv1,rfl,hb4,hb5,hb6,hb7,hb8,hb9,ho1⟩:=CondE_open hcc
 obtain ⟨rfl,hb10,hb11⟩:=SpanE_open hcp
 refine WL.boxG [strV t.s.name,v1, .int .i64 t.s.key,v2,v3, .int .i64 t.last] _ hS rfl rfl rfl (fun p1 w1 G1 hle1 hsp1 hc1 hS1=>?_)
 refine WL.boxG [.int .i64 c.kind,strV c.col,strV c.oth, .int .i64 c.v.k, .int .i64 c.v.n,strV c.v.s,lv1] _ hS1 rfl rfl rfl (fun p2 w2 G2 hle2 hsp2 hc2 hS2=>?_)
 refine WL.boxG [.int .i64 p.a, .int .i64 p.b] _ hS2 rfl rfl rfl (fun p3 w3 G3 hle3 hsp3 hc3 hS3=>?_)
 refine WL.alloc hS3 ti28 rfl rfl (fun b1 w4 hn1 hS4=>?_)
 refine WL.loadGAt hS4 (Cells.drop 0 (hc1.mono (hle2.trans hle3))) [strV t.s.name,v1, .int .i64 t.s.key,v2] ti25 rfl rfl rfl rfl rfl ?_
 refine WL.cA hS4 hb127 rfl rfl rfl (c_hnames hS4.imm t.s _ (SchemaE_mk t.s hb1 (hs1.mono ((hle1.trans hle2).trans hle3)) hb2 (hs2.mono ((hle1.trans hle2).trans hle3)))) (fun w5 G4 r1 hpost1 hS5 hle4=>?_)
 have hlen9:=(validT_good hc.valid).2.1
 refine WL.loadG1 hS5 (Cells.drop 4 (hc1.mono ((hle2.trans hle3).trans hle4))) ti26 rfl rfl rfl ?_
 have bd1:=hs3.bound
 refine WL.lenSl (hs3.mono (((hle1.trans hle2).trans hle3).trans hle4)) ul26 rfl rfl ?_
 have hS7:=hS5.pad
 refine LP.go ft [] (fun m ρ1 w1=>∃ (k1 : Nat),∃ (v4 : Value) (o1 : OB),∃ (G5 : GH),m = t.rows.length - k1 ∧ G4.le G5 ∧ St w [] G G5 [o1,some (b1,28,[strV [], .slice none 0 0, .int .i64 0, .slice none 0 0, .slice none 0 0, .int .i64 0])] w1 ∧ Row HRowE 56 64 G5 v4 (chgRows (hldB d c (nms t)) nx tx p (t.rows.take k1)) o1 ∧ FR ρ1 [(1, .int .i64 tx),(4, .func (.func fid) #[] fcap),(5, .pointer (some p1)),(7, .pointer (some p2)),(8, .pointer (some p3)),(10, .pointer (some ⟨b1,0,none⟩)),(12,r1),(13,v4),(30,v3),(31, .int .i64 (t.rows.length : Int)),(32, .int .i64 (k1 : Int))] ∧ k1 ≤ t.rows.length) _ ⟨0,(.slice none 0 0),none,G4,rfl,(G4.le_refl),hS7,(Row.nil HRowE 56 64 G4),⟨rfl,rfl,rfl,rfl,rfl,rfl,rfl,rfl,rfl,rfl,rfl,trivial⟩,(by omega)⟩ ?_
 rintro m ρ1 w6 ⟨k1,v4,o1,G5,rfl,hle5,hS6,hr1,hF9,f1⟩
 refine hF9.set ?_
 clear hF9
 refine WL.lssS (k1 : Int) (t.rows.length : Int) rfl rfl rfl (fun h1=>?_) (fun h1=>?_)
 ·refine WL.indexAddr (hs3.mono ((((hle1.trans hle2).trans hle3).trans hle4).trans hle5)) k1 (by omega) ul26 ti64 rfl rfl rfl rfl (fun p4 x1 hx1 he1=>?_)
  obtain ⟨cs1,hc4,hr2⟩:=he1
  obtain ⟨v5,rfl,hs4,hb12,hb13,hb14,hb15⟩:=HRowE_open hr2
  refine WL.loadGAt hS6 hc4 [v5, .int .i64 x1.r.d.a, .int .i64 x1.r.d.b, .int .i64 x1.r.x.a, .int .i64 x1.r.x.b] ti64 rfl rfl rfl rfl rfl ?_
  refine WL.alloc hS6 ti64 rfl rfl (fun b2 w7 hn2 hS8=>?_)
  refine WL.store hS8 0 _ _ _ 0 _ [v5, .int .i64 x1.r.d.a, .int .i64 x1.r.d.b, .int .i64 x1.r.x.a, .int .i64 x1.r.x.b] [v5, .int .i64 x1.r.d.a, .int .i64 x1.r.d.b, .int .i64 x1.r.x.a, .int .i64 x1.r.x.b] _ rfl rfl ti64 rfl (Nat.le_of_ble_eq_true rfl) (by simp only [List.all_cons,List.all_nil,hs4.oneC,Bool.true_and] <;> rfl) rfl rfl rfl rfl rfl (fun w9 hS9=>?_)
  obtain ⟨G6,hle6,hc5,hS10⟩:=hS9.shutB hn2
  obtain ⟨hr1g,hr8,hra,hrl,hrv,hcl⟩:=validT_row1 hc.valid (List.mem_of_getElem? (by assumption : t.rows[k1]? = some x1))
  have hrd:=(goodB_parts hr1g).2.1
  have hsp:=hc.span
  have htx:=instB_parts hc.inst
  have hcr:=chgRows_len (hl:=hldB d c (nms t)) hc k1
  refine WL.loadGAt hS10 (hc2.mono (((hle3.trans hle4).trans hle5).trans hle6)) [.int .i64 c.kind,strV c.col,strV c.oth, .int .i64 c.v.k, .int .i64 c.v.n,strV c.v.s,lv1] ti51 rfl rfl rfl rfl rfl <| WL.loadG1 hS10 (Cells.drop 0 hc5) ti36 rfl rfl rfl <| WL.cA hS10 hb53 rfl rfl rfl (c_vHolds hS10.imm _ c (t.s.cols.map Col.name) x1.v _ ((CondE _).mono (((((hle1.trans hle2).trans hle3).trans hle4).trans hle5).trans hle6) hcc) _ (hpost1.mono (hle5.trans hle6)) _ (hs4.mono hle6)) ?_
  rintro w10 G7 _ ⟨_,_,rfl,rfl,rfl⟩ hS11 hle7
  refine WL.loadG1 hS11 (Cells.drop 1 (Cells.drop 2 (Cells.drop 1 (hc5.mono hle7)))) ti3 rfl rfl rfl ?_
  refine WL.neqS x1.r.x.b 253402300800 rfl rfl rfl (fun h2=>?_) (fun h2=>?_)
  ·refine WL.loadGAt hS11 (hc5.mono hle7) [v5, .int .i64 x1.r.d.a, .int .i64 x1.r.d.b, .int .i64 x1.r.x.a, .int .i64 x1.r.x.b] ti64 rfl rfl rfl rfl rfl ?_
   refine WL.buildSlice _ [(0,[v5, .int .i64 x1.r.d.a, .int .i64 x1.r.d.b, .int .i64 x1.r.x.a, .int .i64 x1.r.x.b])] [v5, .int .i64 x1.r.d.a, .int .i64 x1.r.d.b, .int .i64 x1.r.x.a, .int .i64 x1.r.x.b] hS11 sl26 rfl rfl rfl rfl (fun z hz=>by match z,hz with | [z0,z1,z2,z3,z4],_=>rfl) (fun b3 w11 hn3 hS12=>?_)
   refine WL.push (m:=([x1] : List HRow)) sl26 rfl rfl rfl (hr1.mono (hle6.trans hle7)) hS12 1 rfl 0 _ _ _ _ _ rfl ⟨[v5, .int .i64 x1.r.d.a, .int .i64 x1.r.d.b, .int .i64 x1.r.x.a, .int .i64 x1.r.x.b],_,rfl,(HRowE_mk x1 (hs4.mono (hle6.trans hle7)) hb12 hb13 hb14 hb15),rfl⟩ rfl (by have hreach : reach = 140737488355328:=rfl; simp only [List.length_append,List.length_cons,List.length_nil]; omega) (by have hreach : reach = 140737488355328:=rfl; simp only [List.length_append,List.length_cons,List.length_nil]; omega) rfl rfl rfl (fun v6 o2 w12 hr3 hS13=>?_)
   have hS14:=hS13.tail
   refine WL.incr k1 (by have hreach : reach = 140737488355328:=rfl; omega) rfl rfl rfl ?_
   exact BK.mk' _ ⟨k1 + 1,v6,o2,G7,rfl,(hle5.trans (hle6.trans hle7)),hS14,(Row.cast hr3 (by (rw [chgRows_take (by assumption)]; (rw [chgOf_no (by first | exact .inl (by omega) | exact .inr (.inl (by assumption)) | exact .inr (.inr (.inl (by omega))) | exact .inr (.inr (.inr (by omega))))])))),⟨rfl,rfl,rfl,rfl,rfl,rfl,rfl,rfl,rfl,rfl,rfl,trivial⟩,(by omega)⟩ (show t.rows.length - (k1 + 1) < t.rows.length - k1 by omega)
  refine setB (d:=16) rfl (fun (h3 : (hldB d c (t.s.cols.map Col.name) x1.v) = true)=>?_) (fun (h3 : (hldB d c (t.s.cols.map Col.name) x1.v) = false)=>?_)
  ·refine WL.loadG1 hS11 (Cells.drop 0 (Cells.drop 0 (Cells.drop 1 (hc5.mono hle7)))) ti3 rfl rfl rfl <| WL.loadG1 hS11 (Cells.drop 1 (hc3.mono (((hle4.trans hle5).trans hle6).trans hle7))) ti3 rfl rfl rfl ?_
   refine WL.geqS x1.r.d.a p.b rfl rfl rfl (fun h4=>?_) (fun h4=>?_)
   ·refine WL.loadGAt hS11 (hc5.mono hle7) [v5, .int .i64 x1.r.d.a, .int .i64 x1.r.d.b, .int .i64 x1.r.x.a, .int .i64 x1.r.x.b] ti64 rfl rfl rfl rfl rfl ?_
    refine WL.buildSlice _ [(0,[v5, .int .i64 x1.r.d.a, .int .i64 x1.r.d.b, .int .i64 x1.r.x.a, .int .i64 x1.r.x.b])] [v5, .int .i64 x1.r.d.a, .int .i64 x1.r.d.b, .int .i64 x1.r.x.a, .int .i64 x1.r.x.b] hS11 sl26 rfl rfl rfl rfl (fun z hz=>by match z,hz with | [z0,z1,z2,z3,z4],_=>rfl) (fun b4 w13 hn4 hS15=>?_)
    refine WL.push (m:=([x1] : List HRow)) sl26 rfl rfl rfl (hr1.mono (hle6.trans hle7)) hS15 1 rfl 0 _ _ _ _ _ rfl ⟨[v5, .int .i64 x1.r.d.a, .int .i64 x1.r.d.b, .int .i64 x1.r.x.a, .int .i64 x1.r.x.b],_,rfl,(HRowE_mk x1 (hs4.mono (hle6.trans hle7)) hb12 hb13 hb14 hb15),rfl⟩ rfl (by have hreach : reach = 140737488355328:=rfl; simp only [List.length_append,List.length_cons,List.length_nil]; omega) (by have hreach : reach = 140737488355328:=rfl; simp only [List.length_append,List.length_cons,List.length_nil]; omega) rfl rfl rfl (fun v7 o3 w14 hr4 hS16=>?_)
    have hS17:=hS16.tail
    refine WL.incr k1 (by have hreach : reach = 140737488355328:=rfl; omega) rfl rfl rfl ?_
    exact BK.mk' _ ⟨k1 + 1,v7,o3,G7,rfl,(hle5.trans (hle6.trans hle7)),hS17,(Row.cast hr4 (by (rw [chgRows_take (by assumption)]; (rw [chgOf_no (by first | exact .inl (by omega) | exact .inr (.inl (by assumption)) | exact .inr (.inr (.inl (by omega))) | exact .inr (.inr (.inr (by omega))))])))),⟨rfl,rfl,rfl,rfl,rfl,rfl,rfl,rfl,rfl,rfl,rfl,trivial⟩,(by omega)⟩ (show t.rows.length - (k1 + 1) < t.rows.length - k1 by omega)
   refine WL.loadG1 hS11 (Cells.drop 0 (hc3.mono (((hle4.trans hle5).trans hle6).trans hle7))) ti3 rfl rfl rfl <| WL.loadG1 hS11 (Cells.drop 1 (Cells.drop 0 (Cells.drop 1 (hc5.mono hle7)))) ti3 rfl rfl rfl ?_
   refine WL.geqS p.a x1.r.d.b rfl rfl rfl (fun h5=>?_) (fun h5=>?_)
   ·refine WL.loadGAt hS11 (hc5.mono hle7) [v5, .int .i64 x1.r.d.a, .int .i64 x1.r.d.b, .int .i64 x1.r.x.a, .int .i64 x1.r.x.b] ti64 rfl rfl rfl rfl rfl ?_
    refine WL.buildSlice _ [(0,[v5, .int .i64 x1.r.d.a, .int .i64 x1.r.d.b, .int .i64 x1.r.x.a, .int .i64 x1.r.x.b])] [v5, .int .i64 x1.r.d.a, .int .i64 x1.r.d.b, .int .i64 x1.r.x.a, .int .i64 x1.r.x.b] hS11 sl26 rfl rfl rfl rfl (fun z hz=>by match z,hz with | [z0,z1,z2,z3,z4],_=>rfl) (fun b5 w15 hn5 hS18=>?_)
    refine WL.push (m:=([x1] : List HRow)) sl26 rfl rfl rfl (hr1.mono (hle6.trans hle7)) hS18 1 rfl 0 _ _ _ _ _ rfl ⟨[v5, .int .i64 x1.r.d.a, .int .i64 x1.r.d.b, .int .i64 x1.r.x.a, .int .i64 x1.r.x.b],_,rfl,(HRowE_mk x1 (hs4.mono (hle6.trans hle7)) hb12 hb13 hb14 hb15),rfl⟩ rfl (by have hreach : reach = 140737488355328:=rfl; simp only [List.length_append,List.length_cons,List.length_nil]; omega) (by have hreach : reach = 140737488355328:=rfl; simp only [List.length_append,List.length_cons,List.length_nil]; omega) rfl rfl rfl (fun v9 o4 w16 hr5 hS19=>?_)
    have hS20:=hS19.tail
    refine WL.incr k1 (by have hreach : reach = 140737488355328:=rfl; omega) rfl rfl rfl ?_
    exact BK.mk' _ ⟨k1 + 1,v9,o4,G7,rfl,(hle5.trans (hle6.trans hle7)),hS20,(Row.cast hr5 (by (rw [chgRows_take (by assumption)]; (rw [chgOf_no (by first | exact .inl (by omega) | exact .inr (.inl (by assumption)) | exact .inr (.inr (.inl (by omega))) | exact .inr (.inr (.inr (by omega))))])))),⟨rfl,rfl,rfl,rfl,rfl,rfl,rfl,rfl,rfl,rfl,rfl,trivial⟩,(by omega)⟩ (show t.rows.length - (k1 + 1) < t.rows.length - k1 by omega)
   refine WL.loadGAt hS11 (hc5.mono hle7) [v5, .int .i64 x1.r.d.a, .int .i64 x1.r.d.b, .int .i64 x1.r.x.a, .int .i64 x1.r.x.b] ti64 rfl rfl rfl rfl rfl ?_
   refine WL.alloc hS11 ti64 rfl rfl (fun b6 w17 hn6 hS21=>?_)
   refine WL.store hS21 0 _ _ _ 0 _ [v5, .int .i64 x1.r.d.a, .int .i64 x1.r.d.b, .int .i64 x1.r.x.a, .int .i64 x1.r.x.b] [v5, .int .i64 x1.r.d.a, .int .i64 x1.r.d.b, .int .i64 x1.r.x.a, .int .i64 x1.r.x.b] _ rfl rfl ti64 rfl (Nat.le_of_ble_eq_true rfl) (by simp only [List.all_cons,List.all_nil,(hs4.mono (hle6.trans hle7)).oneC,Bool.true_and] <;> rfl) rfl rfl rfl rfl rfl (fun w18 hS22=>?_)
   refine WL.store hS22 0 _ _ _ 4 _ [.int .i64 tx] [v5, .int .i64 x1.r.d.a, .int .i64 x1.r.d.b, .int .i64 x1.r.x.a, .int .i64 tx] _ rfl rfl ti3 rfl (Nat.le_of_ble_eq_true rfl) rfl rfl rfl rfl rfl rfl (fun w19 hS23=>?_)
   refine WL.loadOA hS23 0 _ _ _ 0 [v5, .int .i64 x1.r.d.a, .int .i64 x1.r.d.b, .int .i64 x1.r.x.a, .int .i64 tx] rfl rfl rfl ti64 rfl rfl rfl ?_
   refine WL.buildSlice _ [(0,[v5, .int .i64 x1.r.d.a, .int .i64 x1.r.d.b, .int .i64 x1.r.x.a, .int .i64 tx])] [v5, .int .i64 x1.r.d.a, .int .i64 x1.r.d.b, .int .i64 x1.r.x.a, .int .i64 tx] hS23 sl26 rfl rfl rfl rfl (fun z hz=>by match z,hz with | [z0,z1,z2,z3,z4],_=>rfl) (fun b7 w20 hn7 hS24=>?_)
   refine WL.push (m:=([(HRow.mk x1.v (Rect.mk x1.r.d (Span.mk x1.r.x.a tx)))] : List HRow)) sl26 rfl rfl rfl (hr1.mono (hle6.trans hle7)) hS24 2 rfl 0 _ _ _ _ _ rfl ⟨[v5, .int .i64 x1.r.d.a, .int .i64 x1.r.d.b, .int .i64 x1.r.x.a, .int .i64 tx],_,rfl,(HRowE_mk (HRow.mk x1.v (Rect.mk x1.r.d (Span.mk x1.r.x.a tx))) (hs4.mono (hle6.trans hle7)) hb12 hb13 hb14 htx64),rfl⟩ rfl (by have hreach : reach = 140737488355328:=rfl; simp only [List.length_append,List.length_cons,List.length_nil]; omega) (by have hreach : reach = 140737488355328:=rfl; simp only [List.length_append,List.length_cons,List.length_nil]; omega) rfl rfl rfl (fun v10 o5 w21 hr6 hS25=>?_)
   have hS26:=hS25.tail
   have htc:=touch_comb hrd hsp (by omega) (by omega)
   have hpl:=pieces_len x1.r.d p
   have hpl2 : (combR 3 [x1.r.d] [p]).length ≤ 2:=by rw [htc]; exact hpl
   refine WL.loadGAt hS26 (Cells.drop 0 (Cells.drop 1 (hc5.mono hle7))) [.int .i64 x1.r.d.a, .int .i64 x1.r.d.b] ti38 rfl rfl rfl rfl rfl ?_
   refine WL.buildSlice _ [(0,[.int .i64 x1.r.d.a, .int .i64 x1.r.d.b])] [.int .i64 x1.r.d.a, .int .i64 x1.r.d.b] hS26 sl129 rfl rfl rfl rfl (fun z hz=>by match z,hz with | [z0,z1],_=>rfl) (fun b8 w22 hn8 hS27=>?_)
   refine WL.loadGAt hS27 (hc3.mono (((hle4.trans hle5).trans hle6).trans hle7)) [.int .i64 p.a, .int .i64 p.b] ti38 rfl rfl rfl rfl rfl ?_
   refine WL.buildSlice _ [(0,[.int .i64 p.a, .int .i64 p.b])] [.int .i64 p.a, .int .i64 p.b] hS27 sl129 rfl rfl rfl rfl (fun z hz=>by match z,hz with | [z0,z1],_=>rfl) (fun b9 w23 hn9 hS28=>?_)
   obtain ⟨G9,hle9,hs5,hS29⟩:=St.sealSlAt (E:=SpanE) (by_:=16) (l:=([x1.r.d] : List Span)) hS28 1 rfl hn8 ⟨[.int .i64 x1.r.d.a, .int .i64 x1.r.d.b],_,rfl,(SpanE_mk x1.r.d hb12 hb13),rfl⟩ rfl (by simp [reach]) (by simp [reach])
   obtain ⟨G10,hle10,hs6,hS30⟩:=St.sealSl (E:=SpanE) (by_:=16) (l:=([p] : List Span)) hS29 hn9 ⟨[.int .i64 p.a, .int .i64 p.b],_,rfl,(SpanE_mk p hb10 hb11),rfl⟩ rfl (by simp [reach]) (by simp [reach])
   refine WL.cA hS30 hb108 rfl rfl rfl (c_Minus hS30.imm [x1.r.d] [p] _ (hs5.mono hle10) _ hs6 (can_one (spanB_pos hrd)) (can_one (spanB_pos hsp)) (by intro s hs; rw [List.mem_singleton.1 hs]; exact spanB_V hrd) (by intro s hs; rw [List.mem_singleton.1 hs]; exact spanB_V hsp) (by simp) (by simp)) ?_
   rintro w24 G11 _ ⟨r6,_,rfl,hs7,rfl⟩ hS31 hle11
   have bd2:=hs7.bound
   refine WL.lenSl hs7 ul129 rfl rfl ?_
   refine LP.go ft [] (fun m ρ1 w1=>∃ (k2 : Nat),∃ (v11 : Value) (o6 : OB),∃ (G12 : GH),m = (combR 3 [x1.r.d] [p]).length - k2 ∧ G11.le G12 ∧ St w [] G G12 [none,some (b6,64,[v5, .int .i64 x1.r.d.a, .int .i64 x1.r.d.b, .int .i64 x1.r.x.a, .int .i64 tx]),o6,some (b1,28,[strV [], .slice none 0 0, .int .i64 0, .slice none 0 0, .slice none 0 0, .int .i64 0])] w1 ∧ Row HRowE 56 64 G12 v11 ((chgRows (hldB d c (nms t)) nx tx p (t.rows.take k1) ++ [HRow.mk x1.v (Rect.mk x1.r.d (Span.mk x1.r.x.a tx))]) ++ outN x1.v ((combR 3 [x1.r.d] [p]).take k2) tx 253402300800) o6 ∧ FR ρ1 [(1, .int .i64 tx),(4, .func (.func fid) #[] fcap),(5, .pointer (some p1)),(7, .pointer (some p2)),(8, .pointer (some p3)),(10, .pointer (some ⟨b1,0,none⟩)),(12,r1),(13,v11),(15, .pointer (some (⟨b2,0,none⟩ : Addr))),(30,v3),(31, .int .i64 (t.rows.length : Int)),(32, .int .i64 (k1 : Int)),(94,r6),(95, .int .i64 (((combR 3 [x1.r.d] [p]).length : Nat) : Int)),(96, .int .i64 (k2 : Int))] ∧ k2 ≤ (combR 3 [x1.r.d] [p]).length) _ ⟨0,v10,o5,G11,rfl,(G11.le_refl),hS31,(Row.cast (hr6.mono ((hle9.trans hle10).trans hle11)) (by simp [outN])),⟨rfl,rfl,rfl,rfl,rfl,rfl,rfl,rfl,rfl,rfl,rfl,rfl,rfl,rfl,rfl,trivial⟩,(by omega)⟩ ?_
   rintro m ρ1 w25 ⟨k2,v11,o6,G12,rfl,hle12,hS32,hr7,hF9,f2⟩
   refine hF9.set ?_
   clear hF9
   have hol:=outN_len x1.v ((combR 3 [x1.r.d] [p]).take k2) tx 253402300800
   have hot:=List.length_take_le' k2 (combR 3 [x1.r.d] [p])
   refine WL.lssS (k2 : Int) (((combR 3 [x1.r.d] [p]).length : Nat) : Int) rfl rfl rfl (fun h6=>?_) (fun h6=>?_)
   ·refine WL.indexAddr (hs7.mono hle12) k2 (by omega) ul129 ti38 rfl rfl rfl rfl (fun p5 x2 hx2 he2=>?_)
    obtain ⟨cs2,hc6,hr8⟩:=he2
    obtain ⟨rfl,hb16,hb17⟩:=SpanE_open hr8
    refine WL.loadGAt hS32 hc6 [.int .i64 x2.a, .int .i64 x2.b] ti38 rfl rfl rfl rfl rfl ?_
    refine WL.alloc hS32 ti38 rfl rfl (fun b10 w26 hn10 hS33=>?_)
    refine WL.store hS33 0 _ _ _ 0 _ [.int .i64 x2.a, .int .i64 x2.b] [.int .i64 x2.a, .int .i64 x2.b] _ rfl rfl ti38 rfl (Nat.le_of_ble_eq_true rfl) rfl rfl rfl rfl rfl rfl (fun w27 hS34=>?_)
    obtain ⟨G13,hle13,hc7,hS35⟩:=hS34.shutB hn10
    refine WL.loadG1 hS35 (Cells.drop 0 (hc5.mono (((((hle7.trans hle9).trans hle10).trans hle11).trans hle12).trans hle13))) ti36 rfl rfl rfl <| WL.loadGAt hS35 hc7 [.int .i64 x2.a, .int .i64 x2.b] ti38 rfl rfl rfl rfl rfl <| WL.build _ [(0,[.int .i64 tx]),(1,[.int .i64 253402300800])] [.int .i64 tx, .int .i64 253402300800] ti38 rfl fl38 rfl rfl rfl rfl <| WL.build _ [(0,[.int .i64 x2.a, .int .i64 x2.b]),(1,[.int .i64 tx, .int .i64 253402300800])] [.int .i64 x2.a, .int .i64 x2.b, .int .i64 tx, .int .i64 253402300800] ti62 rfl fl62 rfl rfl rfl rfl ?_
    refine WL.build _ [(0,[v5]),(1,[.int .i64 x2.a, .int .i64 x2.b, .int .i64 tx, .int .i64 253402300800])] [v5, .int .i64 x2.a, .int .i64 x2.b, .int .i64 tx, .int .i64 253402300800] ti64 rfl fl64 rfl rfl (by show [(0,(v5 : Value).cells.toList),(1,(.agg #[.int .i64 x2.a, .int .i64 x2.b, .int .i64 tx, .int .i64 253402300800] : Value).cells.toList)] = _; simp only [(hs4.mono ((((((hle6.trans hle7).trans hle9).trans hle10).trans hle11).trans hle12).trans hle13)).cells1] <;> rfl) rfl ?_
    refine WL.buildSlice _ [(0,[v5, .int .i64 x2.a, .int .i64 x2.b, .int .i64 tx, .int .i64 253402300800])] [v5, .int .i64 x2.a, .int .i64 x2.b, .int .i64 tx, .int .i64 253402300800] hS35 sl26 rfl rfl rfl rfl (fun z hz=>by match z,hz with | [z0,z1,z2,z3,z4],_=>rfl) (fun b11 w28 hn11 hS36=>?_)
    refine WL.push (m:=([(HRow.mk x1.v (Rect.mk x2 (Span.mk tx 253402300800)))] : List HRow)) sl26 rfl rfl rfl (hr7.mono hle13) hS36 3 rfl 0 _ _ _ _ _ rfl ⟨[v5, .int .i64 x2.a, .int .i64 x2.b, .int .i64 tx, .int .i64 253402300800],_,rfl,(HRowE_mk (HRow.mk x1.v (Rect.mk x2 (Span.mk tx 253402300800))) (hs4.mono ((((((hle6.trans hle7).trans hle9).trans hle10).trans hle11).trans hle12).trans hle13)) hb16 hb17 htx64 (show I64 253402300800 from by constructor <;> decide)),rfl⟩ rfl (by have hreach : reach = 140737488355328:=rfl; simp only [List.length_append,List.length_cons,List.length_nil]; omega) (by have hreach : reach = 140737488355328:=rfl; simp only [List.length_append,List.length_cons,List.length_nil]; omega) rfl rfl rfl (fun v12 o7 w29 hr9 hS37=>?_)
    have hS38:=hS37.tail
    refine WL.incr k2 (by have hreach : reach = 140737488355328:=rfl; omega) rfl rfl rfl ?_
    exact BK.mk' _ ⟨k2 + 1,v12,o7,G13,rfl,(hle12.trans hle13),hS38,(Row.cast hr9 (by (rw [outN_take (by assumption),List.append_assoc]))),⟨rfl,rfl,rfl,rfl,rfl,rfl,rfl,rfl,rfl,rfl,rfl,rfl,rfl,rfl,rfl,trivial⟩,(by omega)⟩ (show (combR 3 [x1.r.d] [p]).length - (k2 + 1) < (combR 3 [x1.r.d] [p]).length - k2 by omega)
   refine WL.loadG1 hS32 (Cells.drop 0 (hc5.mono ((((hle7.trans hle9).trans hle10).trans hle11).trans hle12))) ti36 rfl rfl rfl <| WL.cA hS32 hf.body rfl rfl rfl (hf.call _ _ v5 x1.v ((((((((((hle1.trans hle2).trans hle3).trans hle4).trans hle5).trans hle6).trans hle7).trans hle9).trans hle10).trans hle11).trans hle12) hS32.imm hrl (hs4.mono (((((hle6.trans hle7).trans hle9).trans hle10).trans hle11).trans hle12))) ?_
   rintro w30 G14 _ ⟨r8,_,rfl,hs8,rfl⟩ hS39 hle14
   refine splitB (fun (h7 : (nx x1.v).isSome = true)=>?_) (fun (h7 : (nx x1.v).isSome = false)=>?_)
   ·refine set1 (d:=115) (congrArg (fun b9=>Value.tuple #[r8, .bool b9]) h7) ?_
    refine WL.loadG1 hS39 (Cells.drop 0 (Cells.drop 0 (Cells.drop 1 (hc5.mono (((((hle7.trans hle9).trans hle10).trans hle11).trans hle12).trans hle14))))) ti3 rfl rfl rfl <| WL.loadG1 hS39 (Cells.drop 0 (hc3.mono ((((((((hle4.trans hle5).trans hle6).trans hle7).trans hle9).trans hle10).trans hle11).trans hle12).trans hle14))) ti3 rfl rfl rfl <| WL.maxI x1.r.d.a p.a rfl rfl rfl <| WL.loadG1 hS39 (Cells.drop 1 (Cells.drop 0 (Cells.drop 1 (hc5.mono (((((hle7.trans hle9).trans hle10).trans hle11).trans hle12).trans hle14))))) ti3 rfl rfl rfl <| WL.loadG1 hS39 (Cells.drop 1 (hc3.mono ((((((((hle4.trans hle5).trans hle6).trans hle7).trans hle9).trans hle10).trans hle11).trans hle12).trans hle14))) ti3 rfl rfl rfl <| WL.minI x1.r.d.b p.b rfl rfl rfl <| WL.build _ [(0,[.int .i64 (max x1.r.d.a p.a)]),(1,[.int .i64 (min x1.r.d.b p.b)])] [.int .i64 (max x1.r.d.a p.a), .int .i64 (min x1.r.d.b p.b)] ti38 rfl fl38 rfl rfl rfl rfl ?_
    refine WL.alloc hS39 ti38 rfl rfl (fun b12 w31 hn12 hS40=>?_)
    refine WL.store hS40 0 _ _ _ 0 _ [.int .i64 (max x1.r.d.a p.a), .int .i64 (min x1.r.d.b p.b)] [.int .i64 (max x1.r.d.a p.a), .int .i64 (min x1.r.d.b p.b)] _ rfl rfl ti38 rfl (Nat.le_of_ble_eq_true rfl) rfl rfl rfl rfl rfl rfl (fun w32 hS41=>?_)
    obtain ⟨G15,hle15,hc8,hS42⟩:=hS41.shutB hn12
    refine WL.loadGAt hS42 hc8 [.int .i64 (max x1.r.d.a p.a), .int .i64 (min x1.r.d.b p.b)] ti38 rfl rfl rfl rfl rfl <| WL.build _ [(0,[.int .i64 tx]),(1,[.int .i64 253402300800])] [.int .i64 tx, .int .i64 253402300800] ti38 rfl fl38 rfl rfl rfl rfl <| WL.build _ [(0,[.int .i64 (max x1.r.d.a p.a), .int .i64 (min x1.r.d.b p.b)]),(1,[.int .i64 tx, .int .i64 253402300800])] [.int .i64 (max x1.r.d.a p.a), .int .i64 (min x1.r.d.b p.b), .int .i64 tx, .int .i64 253402300800] ti62 rfl fl62 rfl rfl rfl rfl ?_
    refine WL.build _ [(0,[r8]),(1,[.int .i64 (max x1.r.d.a p.a), .int .i64 (min x1.r.d.b p.b), .int .i64 tx, .int .i64 253402300800])] [r8, .int .i64 (max x1.r.d.a p.a), .int .i64 (min x1.r.d.b p.b), .int .i64 tx, .int .i64 253402300800] ti64 rfl fl64 rfl rfl (by show [(0,(r8 : Value).cells.toList),(1,(.agg #[.int .i64 (max x1.r.d.a p.a), .int .i64 (min x1.r.d.b p.b), .int .i64 tx, .int .i64 253402300800] : Value).cells.toList)] = _; simp only [(hs8.mono hle15).cells1] <;> rfl) rfl ?_
    refine WL.buildSlice _ [(0,[r8, .int .i64 (max x1.r.d.a p.a), .int .i64 (min x1.r.d.b p.b), .int .i64 tx, .int .i64 253402300800])] [r8, .int .i64 (max x1.r.d.a p.a), .int .i64 (min x1.r.d.b p.b), .int .i64 tx, .int .i64 253402300800] hS42 sl26 rfl rfl rfl rfl (fun z hz=>by match z,hz with | [z0,z1,z2,z3,z4],_=>rfl) (fun b13 w33 hn13 hS43=>?_)
    refine WL.push (m:=([(HRow.mk ((nx x1.v).getD []) (Rect.mk (Span.mk (max x1.r.d.a p.a) (min x1.r.d.b p.b)) (Span.mk tx 253402300800)))] : List HRow)) sl26 rfl rfl rfl (hr7.mono (hle14.trans hle15)) hS43 3 rfl 0 _ _ _ _ _ rfl ⟨[r8, .int .i64 (max x1.r.d.a p.a), .int .i64 (min x1.r.d.b p.b), .int .i64 tx, .int .i64 253402300800],_,rfl,(HRowE_mk (HRow.mk ((nx x1.v).getD []) (Rect.mk (Span.mk (max x1.r.d.a p.a) (min x1.r.d.b p.b)) (Span.mk tx 253402300800))) (hs8.mono hle15) (I64_max hb12 hb10) (I64_min hb13 hb11) htx64 (show I64 253402300800 from by constructor <;> decide)),rfl⟩ rfl (by have hreach : reach = 140737488355328:=rfl; simp only [List.length_append,List.length_cons,List.length_nil]; omega) (by have hreach : reach = 140737488355328:=rfl; simp only [List.length_append,List.length_cons,List.length_nil]; omega) rfl rfl rfl (fun v13 o8 w34 hr10 hS44=>?_)
    have hS45:=hS44.tail
    refine WL.incr k1 (by have hreach : reach = 140737488355328:=rfl; omega) rfl rfl rfl ?_
    have hS46:=hS45.tail
    have hS47:=hS46.tail
    exact BK.mk' _ ⟨k1 + 1,v13,o8,G15,rfl,(hle5.trans (((((((hle6.trans hle7).trans hle9).trans hle10).trans hle11).trans hle12).trans hle14).trans hle15)),hS47,(Row.cast hr10 (by (rw [chgRows_take (by assumption)]; (rw [chgOf_yes (by omega) (by assumption) (by omega) (by omega)]; first | exact chg_yes (by omega) (by assumption) | exact chg_no (by omega) (by assumption))))),⟨rfl,rfl,rfl,rfl,rfl,rfl,rfl,rfl,rfl,rfl,rfl,trivial⟩,(by omega)⟩ (show t.rows.length - (k1 + 1) < t.rows.length - k1 by omega)
   refine set1 (d:=115) (congrArg (fun b9=>Value.tuple #[r8, .bool b9]) h7) ?_
   refine WL.incr k1 (by have hreach : reach = 140737488355328:=rfl; omega) rfl rfl rfl ?_
   have hS48:=hS39.tail
   have hS49:=hS48.tail
   exact BK.mk' _ ⟨k1 + 1,v11,o6,G14,rfl,(hle5.trans ((((((hle6.trans hle7).trans hle9).trans hle10).trans hle11).trans hle12).trans hle14)),hS49,(Row.cast (hr7.mono hle14) (by (rw [chgRows_take (by assumption)]; (rw [chgOf_yes (by omega) (by assumption) (by omega) (by omega)]; first | exact chg_yes (by omega) (by assumption) | exact chg_no (by omega) (by assumption))))),⟨rfl,rfl,rfl,rfl,rfl,rfl,rfl,rfl,rfl,rfl,rfl,trivial⟩,(by omega)⟩ (show t.rows.length - (k1 + 1) < t.rows.length - k1 by omega)
  refine WL.loadGAt hS11 (hc5.mono hle7) [v5, .int .i64 x1.r.d.a, .int .i64 x1.r.d.b, .int .i64 x1.r.x.a, .int .i64 x1.r.x.b] ti64 rfl rfl rfl rfl rfl ?_
  refine WL.buildSlice _ [(0,[v5, .int .i64 x1.r.d.a, .int .i64 x1.r.d.b, .int .i64 x1.r.x.a, .int .i64 x1.r.x.b])] [v5, .int .i64 x1.r.d.a, .int .i64 x1.r.d.b, .int .i64 x1.r.x.a, .int .i64 x1.r.x.b] hS11 sl26 rfl rfl rfl rfl (fun z hz=>by match z,hz with | [z0,z1,z2,z3,z4],_=>rfl) (fun b14 w35 hn14 hS50=>?_)
  refine WL.push (m:=([x1] : List HRow)) sl26 rfl rfl rfl (hr1.mono (hle6.trans hle7)) hS50 1 rfl 0 _ _ _ _ _ rfl ⟨[v5, .int .i64 x1.r.d.a, .int .i64 x1.r.d.b, .int .i64 x1.r.x.a, .int .i64 x1.r.x.b],_,rfl,(HRowE_mk x1 (hs4.mono (hle6.trans hle7)) hb12 hb13 hb14 hb15),rfl⟩ rfl (by have hreach : reach = 140737488355328:=rfl; simp only [List.length_append,List.length_cons,List.length_nil]; omega) (by have hreach : reach = 140737488355328:=rfl; simp only [List.length_append,List.length_cons,List.length_nil]; omega) rfl rfl rfl (fun v14 o9 w36 hr11 hS51=>?_)
  have hS52:=hS51.tail
  refine WL.incr k1 (by have hreach : reach = 140737488355328:=rfl; omega) rfl rfl rfl ?_
  exact BK.mk' _ ⟨k1 + 1,v14,o9,G7,rfl,(hle5.trans (hle6.trans hle7)),hS52,(Row.cast hr11 (by (rw [chgRows_take (by assumption)]; (rw [chgOf_no (by first | exact .inl (by omega) | exact .inr (.inl (by assumption)) | exact .inr (.inr (.inl (by omega))) | exact .inr (.inr (.inr (by omega))))])))),⟨rfl,rfl,rfl,rfl,rfl,rfl,rfl,rfl,rfl,rfl,rfl,trivial⟩,(by omega)⟩ (show t.rows.length - (k1 + 1) < t.rows.length - k1 by omega)
 refine WL.loadGAt hS6 (hc1.mono (((hle2.trans hle3).trans hle4).trans hle5)) [strV t.s.name,v1, .int .i64 t.s.key,v2,v3, .int .i64 t.last] ti28 rfl rfl rfl rfl rfl ?_
 obtain ⟨G16,hle16,hs9,hS53⟩:=Row.freeze hr1 hS6 0 rfl
 refine WL.cA hS53 hb77 rfl rfl rfl (c_done hS53.imm t tx (chgRows (hldB d c (nms t)) nx tx p (t.rows.take k1)) _ (TableE_mk t hb1 (hs1.mono (((((hle1.trans hle2).trans hle3).trans hle4).trans hle5).trans hle16)) hb2 (hs2.mono (((((hle1.trans hle2).trans hle3).trans hle4).trans hle5).trans hle16)) (hs3.mono (((((hle1.trans hle2).trans hle3).trans hle4).trans hle5).trans hle16)) hb3) _ hs9 htx64 (by rw [chgRows_all (by omega)]; exact (chgRows_good hc).1) (by rw [chgRows_all (by omega)]; exact (chgRows_good hc).2.1) (by rw [chgRows_all (by omega)]; exact (chgRows_good hc).2.2)) ?_
 rintro w37 G17 _ ⟨r10,_,rfl,hs10,rfl⟩ hS54 hle17
 obtain ⟨cs3,rfl,hr12⟩:=hs10
 obtain ⟨v15,v16,v17,rfl,hb18,hs11,hb19,hs12,hs13,hb20⟩:=TableE_open hr12
 refine WL.store hS54 1 _ _ _ 0 _ [strV ((doneT t tx (chgRows (hldB d c (nms t)) nx tx p (t.rows.take k1))).s.name),v15, .int .i64 ((doneT t tx (chgRows (hldB d c (nms t)) nx tx p (t.rows.take k1))).s.key),v16,v17, .int .i64 ((doneT t tx (chgRows (hldB d c (nms t)) nx tx p (t.rows.take k1))).last)] [strV ((doneT t tx (chgRows (hldB d c (nms t)) nx tx p (t.rows.take k1))).s.name),v15, .int .i64 ((doneT t tx (chgRows (hldB d c (nms t)) nx tx p (t.rows.take k1))).s.key),v16,v17, .int .i64 ((doneT t tx (chgRows (hldB d c (nms t)) nx tx p (t.rows.take k1))).last)] _ rfl rfl ti28 rfl (Nat.le_of_ble_eq_true rfl) (by simp only [List.all_cons,List.all_nil,hs11.oneC,hs12.oneC,hs13.oneC,Bool.true_and] <;> rfl) rfl rfl rfl rfl rfl (fun w38 hS55=>?_)
 obtain ⟨G18,hle18,hc9,hS56⟩:=hS55.sealAt 1 rfl hn1
 exact RTR [.agg #[strV ((doneT t tx (chgRows (hldB d c (nms t)) nx tx p (t.rows.take k1))).s.name),v15, .int .i64 ((doneT t tx (chgRows (hldB d c (nms t)) nx tx p (t.rows.take k1))).s.key),v16,v17, .int .i64 ((doneT t tx (chgRows (hldB d c (nms t)) nx tx p (t.rows.take k1))).last)], .int .i64 (doneTE (chgRows (hldB d c (nms t)) nx tx p (t.rows.take k1)))] hS56 ⟨_,_,_,rfl,rfl,hS56.loadC hc9 ti28 rfl rfl,⟨_,rfl,rfl⟩⟩ ⟨_,_,rfl,(Is.cast ⟨_,rfl,(TableE_mk (doneT t tx (chgRows (hldB d c (nms t)) nx tx p (t.rows.take k1))) hb18 (hs11.mono hle18) hb19 (hs12.mono hle18) (hs13.mono hle18) hb20)⟩ (by rw [chgRows_all (by omega)])),(congrArg (Value.int .i64) (by rw [chgRows_all (by omega)]))⟩
end Go.Civ
