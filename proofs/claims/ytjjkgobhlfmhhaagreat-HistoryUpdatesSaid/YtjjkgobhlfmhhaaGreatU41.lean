/- Lemmas: Wn0. -/
import Derived.Test.YtjjkgobhlfmhhaaGreatU25
import Derived.Test.YtjjkgobhlfmhhaaGreatU38
import Derived.Test.YtjjkgobhlfmhhaaGreatU40
import Derived.Test.YtjjkgobhlfmhhaaGreatProg
import Derived.KernelRfl
import Derived.WalkKit
set_option linter.unusedVariables false
set_option linter.unusedSimpArgs false
set_option maxRecDepth 100000
set_option maxHeartbeats 4000000
namespace Go.Civ
open Go.Proofs
theorem c_great1 {G : GH} {w : World} (hG : G.In w) (x : HRow) (cx : List Value) (hcx : HRowE.rep G x cx) : CL Tryz.prog (nat_lit 63) #[.agg cx.toArray] [] w G fun _ _ r=>r = .bool (longB x):=by
 refine calls_of_go ft [] Tryz.func63 rfl rfl ?_
 have hS:=St.start (X:=[]) hG
 obtain ⟨v1,rfl,hs1,hb1,hb2,hb3,hb4⟩:=HRowE_open hcx
 refine WL.boxG [v1, .int .i64 x.r.d.a, .int .i64 x.r.d.b, .int .i64 x.r.x.a, .int .i64 x.r.x.b] _ hS rfl rfl rfl (fun p1 w1 G1 hle1 hsp1 hc1 hS1=>?_)
 refine WL.loadG1 hS1 (Cells.drop 0 hc1) ti36 rfl rfl rfl ?_
 have bd1:=hs1.bound
 refine WL.lenSl (hs1.mono hle1) ul36 rfl rfl <| WL.cmp .gtr rfl .i64 (x.v.length : Int) 8 rfl rfl rfl ?_
 exact RB hS1 rfl (by rfl)
theorem c_great {G : GH} {w : World} (hG : G.In w) (l : List HRow) (vl : Value) (hvl : Sl HRowE 56 G vl l) : CL Tryz.prog (nat_lit 14) #[vl] [] w G fun _ _ r=>r = .bool (greatH l):=by
 refine calls_of_go ft [] Tryz.func14 rfl rfl ?_
 have hS:=St.start (X:=[]) hG
 have bd1:=hvl.bound
 refine WL.lenSl hvl ul26 rfl rfl ?_
 refine WL.gtrS (l.length : Int) 24 rfl rfl rfl (fun h1=>?_) (fun h1=>?_)
 ·exact RB hS rfl (by exact great_1 (by assumption))
 refine WL.cV hS hb34 rfl rfl rfl (c_ContainsR hS.imm l (fun x8=>longB x8) _ hvl 63 #[] ⟨hb63,fun G8 w8 v8 x8 hle8 hG8 hon8 hA8=>by obtain ⟨cs_x8,rfl,hr_x8⟩:=hA8; exact c_great1 hG8 x8 cs_x8 hr_x8⟩) (fun w1 G1 hS1 hle1=>?_)
 exact RB hS1 rfl (by exact great_2 (by omega))
theorem c_valid1 {G : GH} {w : World} (hG : G.In w) (x : HRow) (nm : List UInt8) (cols : List Col) (key : Int) (fks : List Foreign) (rows : List HRow) (last : Int) (cx : List Value) (hcx : HRowE.rep G x cx) (vcl : Value) (hvcl : Sl ColE 24 G vcl cols) (vf : Value) (hvf : Sl ForeignE 40 G vf fks) (vr : Value) (hvr : Sl HRowE 56 G vr rows) (pt : Addr) (hpt : Cells G pt [strV nm,vcl, .int .i64 key,vf,vr, .int .i64 last]) (hnm : nm.length ≤ reach) (hkey : I64 key) : CL Tryz.prog (nat_lit 69) #[.agg cx.toArray, .pointer (some pt)] [] w G fun _ _ r=>r = .bool (rowBad (Schema.mk nm cols key fks) x):=by
 refine calls_of_go ft [] Tryz.func69 rfl rfl ?_
 have hS:=St.start (X:=[]) hG
 obtain ⟨v1,rfl,hs1,hb1,hb2,hb3,hb4⟩:=HRowE_open hcx
 refine WL.boxG [v1, .int .i64 x.r.d.a, .int .i64 x.r.d.b, .int .i64 x.r.x.a, .int .i64 x.r.x.b] _ hS rfl rfl rfl (fun p1 w1 G1 hle1 hsp1 hc1 hS1=>?_)
 refine WL.loadGAt hS1 (Cells.drop 0 (hpt.mono hle1)) [strV nm,vcl, .int .i64 key,vf] ti25 rfl rfl rfl rfl rfl <| WL.loadG1 hS1 (Cells.drop 0 hc1) ti36 rfl rfl rfl ?_
 refine WL.cV hS1 hb22 rfl rfl rfl (c_sRow hS1.imm (Schema.mk nm cols key fks) x.v _ (SchemaE_mk (Schema.mk nm cols key fks) hnm (hvcl.mono hle1) hkey (hvf.mono hle1)) _ (hs1.mono hle1)) (fun w2 G2 hS2 hle2=>?_)
 refine WL.cmp .neq rfl .i64 (rowE (Schema.mk nm cols key fks) x.v) 0 rfl rfl rfl ?_
 exact RB hS2 rfl (by first | rfl | (unfold rowBad; simp_all [Cmp.b] <;> (first | omega | (intros; omega) | (rw [Bool.eq_iff_iff]; simp <;> omega) | (rw [Bool.eq_iff_iff]; simp_all <;> omega))))
theorem c_valid {G : GH} {w : World} (hG : G.In w) (t : Table) (ct : List Value) (hct : TableE.rep G t ct) : CL Tryz.prog (nat_lit 16) #[.agg ct.toArray] [] w G fun _ _ r=>r = .bool (validT t):=by
 refine calls_of_go ft [] Tryz.func16 rfl rfl ?_
 have hS:=St.start (X:=[]) hG
 obtain ⟨v1,v2,v3,rfl,hb1,hs1,hb2,hs2,hs3,hb3⟩:=TableE_open hct
 refine WL.boxG [strV t.s.name,v1, .int .i64 t.s.key,v2,v3, .int .i64 t.last] _ hS rfl rfl rfl (fun p1 w1 G1 hle1 hsp1 hc1 hS1=>?_)
 refine WL.loadGAt hS1 (Cells.drop 0 hc1) [strV t.s.name,v1, .int .i64 t.s.key,v2] ti25 rfl rfl rfl rfl rfl ?_
 refine WL.cV hS1 hb18 rfl rfl rfl (c_sValid hS1.imm t.s _ (SchemaE_mk t.s hb1 (hs1.mono hle1) hb2 (hs2.mono hle1))) (fun w2 G2 hS2 hle2=>?_)
 refine WL.split (fun (h1 : (schB t.s) = true)=>?_) (fun (h1 : (schB t.s) = false)=>?_)
 ·refine WL.loadG1 hS2 (Cells.drop 4 (hc1.mono hle2)) ti26 rfl rfl rfl <| WL.loadG1 hS2 (Cells.drop 5 (hc1.mono hle2)) ti3 rfl rfl rfl ?_
  refine WL.cV hS2 hb68 rfl rfl rfl (c_rRows hS2.imm t.rows t.last _ (hs3.mono (hle1.trans hle2))) (fun w3 G3 hS3 hle3=>?_)
  refine WL.split (fun (h2 : (rrowsB t.rows t.last) = true)=>?_) (fun (h2 : (rrowsB t.rows t.last) = false)=>?_)
  ·refine WL.loadG1 hS3 (Cells.drop 4 (hc1.mono (hle2.trans hle3))) ti26 rfl rfl rfl ?_
   refine WL.cV hS3 hb34 rfl rfl rfl (c_ContainsR hS3.imm t.rows (fun x8=>rowBad (Schema.mk t.s.name t.s.cols t.s.key t.s.fks) x8) _ (hs3.mono ((hle1.trans hle2).trans hle3)) 69 #[.pointer (some p1)] ⟨hb69,fun G8 w8 v8 x8 hle8 hG8 hon8 hA8=>by obtain ⟨cs_x8,rfl,hr_x8⟩:=hA8; exact c_valid1 hG8 x8 t.s.name t.s.cols t.s.key t.s.fks t.rows t.last cs_x8 hr_x8 v1 ((hs1.mono ((hle1.trans hle2).trans hle3)).mono hle8) v2 ((hs2.mono ((hle1.trans hle2).trans hle3)).mono hle8) v3 ((hs3.mono ((hle1.trans hle2).trans hle3)).mono hle8) p1 ((hc1.mono (hle2.trans hle3)).mono hle8) (by assumption) (by assumption)⟩) (fun w4 G4 hS4 hle4=>?_)
   exact RB hS4 rfl (by exact lvalid_y (by assumption) (by assumption))
  exact RB hS3 rfl (by exact lvalid_2 (by assumption))
 exact RB hS2 rfl (by exact lvalid_1 (by assumption))
theorem c_nothing {G : GH} {w : World} (hG : G.In w) (t : Table) (ct : List Value) (hct : TableE.rep G t ct) : CL Tryz.prog (nat_lit 19) #[.agg ct.toArray] [] w G fun _ _ r=>r = .bool (nothB t):=by
 refine calls_of_go ft [] Tryz.func19 rfl rfl ?_
 have hS:=St.start (X:=[]) hG
 obtain ⟨v1,v2,v3,rfl,hb1,hs1,hb2,hs2,hs3,hb3⟩:=TableE_open hct
 refine WL.boxG [strV t.s.name,v1, .int .i64 t.s.key,v2,v3, .int .i64 t.last] _ hS rfl rfl rfl (fun p1 w1 G1 hle1 hsp1 hc1 hS1=>?_)
 refine WL.loadG1 hS1 (Cells.drop 0 (Cells.drop 0 hc1)) ti9 rfl rfl rfl <| WL.strCmp .eql rfl t.s.name [] rfl rfl rfl ?_
 refine WL.split (fun h0=>?_) (fun h0=>?_)
 ·have h1 : t.s.name = []:=by simpa [SCmp.b] using h0
  clear h0
  refine WL.loadG1 hS1 (Cells.drop 1 (Cells.drop 0 hc1)) ti22 rfl rfl rfl ?_
  have bd1:=hs1.bound
  refine WL.lenSl (hs1.mono hle1) ul22 rfl rfl ?_
  refine WL.eqlS (t.s.cols.length : Int) 0 rfl rfl rfl (fun h2=>?_) (fun h2=>?_)
  ·refine WL.loadG1 hS1 (Cells.drop 4 hc1) ti26 rfl rfl rfl ?_
   have bd2:=hs3.bound
   refine WL.lenSl (hs3.mono hle1) ul26 rfl rfl ?_
   refine WL.eqlS (t.rows.length : Int) 0 rfl rfl rfl (fun h3=>?_) (fun h3=>?_)
   ·refine WL.loadG1 hS1 (Cells.drop 5 hc1) ti3 rfl rfl rfl <| WL.cmp .eql rfl .i64 t.last 0 rfl rfl rfl ?_
    exact RB hS1 rfl (by unfold nothB; simp_all [Cmp.b] <;> ((rw [Bool.eq_iff_iff]; simp <;> omega)))
   exact RB hS1 rfl (by unfold nothB; simp_all [Cmp.b] <;> (first | omega | (intros; omega) | (rw [Bool.eq_iff_iff]; simp <;> omega) | (rw [Bool.eq_iff_iff]; simp_all <;> omega)))
  exact RB hS1 rfl (by unfold nothB; simp_all [Cmp.b] <;> (first | omega | (intros; omega) | (rw [Bool.eq_iff_iff]; simp <;> omega) | (rw [Bool.eq_iff_iff]; simp_all <;> omega)))
 have h1 : t.s.name ≠ []:=by simpa [SCmp.b] using h0
 clear h0
 exact RB hS1 rfl (by unfold nothB; simp_all [Cmp.b] <;> (first | omega | (intros; omega) | (rw [Bool.eq_iff_iff]; simp <;> omega) | (rw [Bool.eq_iff_iff]; simp_all <;> omega)))
theorem c_when {G : GH} {w : World} (hG : G.In w) (t : Table) (tx : Int) (l : List HRow) (ct : List Value) (hct : TableE.rep G t ct) (vl : Value) (hvl : Sl HRowE 56 G vl l) : CL Tryz.prog (nat_lit 26) #[.agg ct.toArray, .int .i64 tx,vl] [] w G fun _ _ r=>r = .int .i64 (whenE t tx l):=by
 refine calls_of_go ft [] Tryz.func26 rfl rfl ?_
 have hS:=St.start (X:=[]) hG
 obtain ⟨v1,v2,v3,rfl,hb1,hs1,hb2,hs2,hs3,hb3⟩:=TableE_open hct
 refine WL.boxG [strV t.s.name,v1, .int .i64 t.s.key,v2,v3, .int .i64 t.last] _ hS rfl rfl rfl (fun p1 w1 G1 hle1 hsp1 hc1 hS1=>?_)
 refine WL.cV hS1 hb23 rfl rfl rfl (c_rTime hS1.imm tx) (fun w2 G2 hS2 hle2=>?_)
 refine WL.split (fun (h1 : (instB tx) = true)=>?_) (fun (h1 : (instB tx) = false)=>?_)
 ·refine WL.loadG1 hS2 (Cells.drop 5 (hc1.mono hle2)) ti3 rfl rfl rfl ?_
  refine WL.leqS tx t.last rfl rfl rfl (fun h2=>?_) (fun h2=>?_)
  ·exact RI hS2 rfl (by exact when_2 (by assumption) (by assumption))
  have bd1:=hvl.bound
  refine WL.lenSl (hvl.mono (hle1.trans hle2)) ul26 rfl rfl ?_
  refine WL.gtrS (l.length : Int) 500 rfl rfl rfl (fun h3=>?_) (fun h3=>?_)
  ·exact RI hS2 rfl (by exact when_3 (by assumption) (by assumption) (by assumption))
  exact RI hS2 rfl (by exact when_4 (by assumption) (by assumption) (by assumption))
 exact RI hS2 rfl (by exact when_1 (by assumption))
theorem c_EqualCol {G : GH} {w : World} (hG : G.In w) (a b : List Col) (va : Value) (hva : Sl ColE 24 G va a) (vb : Value) (hvb : Sl ColE 24 G vb b) : CL Tryz.prog (nat_lit 83) #[va,vb] [] w G fun _ _ r=>r = .bool (decide (a = b)):=by
 refine calls_of_go ft [] Tryz.func83 rfl rfl ?_
 have hS:=St.start (X:=[]) hG
 have bd1:=hva.bound
 refine WL.lenSl hva ul22 rfl rfl ?_
 have bd2:=hvb.bound
 refine WL.lenSl hvb ul22 rfl rfl ?_
 refine WL.neqS (a.length : Int) (b.length : Int) rfl rfl rfl (fun h1=>?_) (fun h1=>?_)
 ·exact RB hS rfl (by rw [← eqF_eq]; exact (eqF_len (by omega)).symm)
 have bd3:=hva.bound
 refine WL.lenSl hva ul22 rfl rfl ?_
 refine LP.go ft [] (fun m ρ1 w1=>∃ (k1 : Nat),∃ (G1 : GH),m = a.length - k1 ∧ G.le G1 ∧ St w [] G G1 [] w1 ∧ FR ρ1 [(0,va),(1,vb),(12, .int .i64 (a.length : Int)),(13, .int .i64 (k1 : Int))] ∧ k1 ≤ a.length ∧ ∀ j,j < k1 → ∀ x y,a[j]? = some x → b[j]? = some y → decide (x = y) = true) _ ⟨0,G,rfl,(G.le_refl),hS,⟨rfl,rfl,rfl,rfl,trivial⟩,(by omega),(by intro j hj; omega)⟩ ?_
 rintro m ρ1 w1 ⟨k1,G1,rfl,hle1,hS1,hF9,f1,f2⟩
 refine hF9.set ?_
 clear hF9
 refine WL.lssS (k1 : Int) (a.length : Int) rfl rfl rfl (fun h2=>?_) (fun h2=>?_)
 ·obtain ⟨p1,x1,hx1,he1,ep1⟩:=Sl.at (hva.mono hle1) k1 (by omega)
  obtain ⟨cs1,hc1,hr1⟩:=he1
  obtain ⟨rfl,hb1,hb2⟩:=ColE_open hr1
  obtain ⟨p2,x2,hx2,he2,ep2⟩:=Sl.at (hvb.mono hle1) k1 (by omega)
  obtain ⟨cs2,hc2,hr2⟩:=he2
  obtain ⟨rfl,hb3,hb4⟩:=ColE_open hr2
  rcases Classical.em (x1 = x2) with h3 | h3
  ·refine dr [] [(18, .pointer (some p1)),(19, .agg #[strV x1.name, .int .i64 x1.kind]),(22, .pointer (some p2)),(23, .agg #[strV x2.name, .int .i64 x2.kind]),(24, .bool false)] hS1 ⟨fun _=>WL.indexAddrP k1 ep1 ul22 ti86 rfl rfl rfl rfl <| nu rfl rfl,fun _ hSw=>WL.loadGAt hSw hc1 [strV x1.name, .int .i64 x1.kind] ti86 rfl rfl rfl rfl rfl <| nu rfl rfl,fun _=>WL.indexAddrP k1 ep2 ul22 ti86 rfl rfl rfl rfl <| nu rfl rfl,fun _ hSw=>WL.loadGAt hSw hc2 [strV x2.name, .int .i64 x2.kind] ti86 rfl rfl rfl rfl rfl <| nu rfl rfl,fun _=>WL.aggEqNV false (ColEq86 x1 x2) eqg86 (by simp [h3]) rfl rfl rfl <| nu rfl rfl,trivial⟩ (fun w2 hS2=>?_)
   refine WL.incr k1 (by have hreach : reach = 140737488355328:=rfl; omega) rfl rfl rfl ?_
   exact BK.mk' _ ⟨k1 + 1,G1,rfl,hle1,hS2,⟨rfl,rfl,rfl,rfl,trivial⟩,(by omega),(by exact lt_step2 (by assumption) (by assumption) (by assumption) (by simp_all))⟩ (show a.length - (k1 + 1) < a.length - k1 by omega)
  refine dr [] [(18, .pointer (some p1)),(19, .agg #[strV x1.name, .int .i64 x1.kind]),(22, .pointer (some p2)),(23, .agg #[strV x2.name, .int .i64 x2.kind]),(24, .bool true)] hS1 ⟨fun _=>WL.indexAddrP k1 ep1 ul22 ti86 rfl rfl rfl rfl <| nu rfl rfl,fun _ hSw=>WL.loadGAt hSw hc1 [strV x1.name, .int .i64 x1.kind] ti86 rfl rfl rfl rfl rfl <| nu rfl rfl,fun _=>WL.indexAddrP k1 ep2 ul22 ti86 rfl rfl rfl rfl <| nu rfl rfl,fun _ hSw=>WL.loadGAt hSw hc2 [strV x2.name, .int .i64 x2.kind] ti86 rfl rfl rfl rfl rfl <| nu rfl rfl,fun _=>WL.aggEqNV true (ColEq86 x1 x2) eqg86 (by simp [h3]) rfl rfl rfl <| nu rfl rfl,trivial⟩ (fun w3 hS3=>?_)
  exact RB hS3 rfl (by rw [← eqF_eq]; exact (eqF_no (f:=fun (x y : Col)=>decide (x = y)) (by assumption) (by assumption) (by simp_all)).symm)
 exact RB hS1 rfl (by rw [← eqF_eq]; exact (eqF_yes (by omega) (by assumption) (by omega)).symm)
theorem c_is {G : GH} {w : World} (hG : G.In w) (t x : Table) (e tx : Int) (rows : List HRow) (want : Int) (ct : List Value) (hct : TableE.rep G t ct) (cx : List Value) (hcx : TableE.rep G x cx) (vr : Value) (hvr : Sl HRowE 56 G vr rows) : CL Tryz.prog (nat_lit 25) #[.agg ct.toArray, .agg cx.toArray, .int .i64 e, .int .i64 tx,vr, .int .i64 want] [] w G fun _ _ r=>r = .bool (isB t x e tx rows want):=by
 refine calls_of_go ft [] Tryz.func25 rfl rfl ?_
 have hS:=St.start (X:=[]) hG
 obtain ⟨v1,v2,v3,rfl,hb1,hs1,hb2,hs2,hs3,hb3⟩:=TableE_open hct
 obtain ⟨v4,v5,v6,rfl,hb4,hs4,hb5,hs5,hs6,hb6⟩:=TableE_open hcx
 refine WL.boxG [strV t.s.name,v1, .int .i64 t.s.key,v2,v3, .int .i64 t.last] _ hS rfl rfl rfl (fun p1 w1 G1 hle1 hsp1 hc1 hS1=>?_)
 refine WL.boxG [strV x.s.name,v4, .int .i64 x.s.key,v5,v6, .int .i64 x.last] _ hS1 rfl rfl rfl (fun p2 w2 G2 hle2 hsp2 hc2 hS2=>?_)
 refine WL.neqS want 0 rfl rfl rfl (fun h1=>?_) (fun h1=>?_)
 ·refine WL.eqlS e want rfl rfl rfl (fun h2=>?_) (fun h2=>?_)
  ·refine WL.loadGAt hS2 hc2 [strV x.s.name,v4, .int .i64 x.s.key,v5,v6, .int .i64 x.last] ti28 rfl rfl rfl rfl rfl ?_
   refine WL.cV hS2 hb19 rfl rfl rfl (c_nothing hS2.imm x _ (TableE_mk x hb4 (hs4.mono (hle1.trans hle2)) hb5 (hs5.mono (hle1.trans hle2)) (hs6.mono (hle1.trans hle2)) hb6)) (fun w3 G3 hS3 hle3=>?_)
   exact RB hS3 rfl (by unfold isB isOk; simp_all [Cmp.b] <;> (first | omega | (intros; omega) | (rw [Bool.eq_iff_iff]; simp <;> omega) | (rw [Bool.eq_iff_iff]; simp_all <;> omega)))
  exact RB hS2 rfl (by unfold isB isOk; simp_all [Cmp.b] <;> (first | omega | (intros; omega) | (rw [Bool.eq_iff_iff]; simp <;> omega) | (rw [Bool.eq_iff_iff]; simp_all <;> omega)))
 refine WL.eqlS e 0 rfl rfl rfl (fun h3=>?_) (fun h3=>?_)
 ·refine WL.loadG1 hS2 (Cells.drop 5 hc2) ti3 rfl rfl rfl ?_
  refine WL.eqlS x.last tx rfl rfl rfl (fun h4=>?_) (fun h4=>?_)
  ·refine WL.loadG1 hS2 (Cells.drop 4 hc2) ti26 rfl rfl rfl ?_
   refine WL.cV hS2 hb38 rfl rfl rfl (c_rEqual hS2.imm x.rows rows _ (hs6.mono (hle1.trans hle2)) _ (hvr.mono (hle1.trans hle2))) (fun w4 G4 hS4 hle4=>?_)
   refine WL.split (fun (h5 : (decide (x.rows = rows)) = true)=>?_) (fun (h5 : (decide (x.rows = rows)) = false)=>?_)
   ·refine WL.loadG1 hS4 (Cells.drop 0 (Cells.drop 0 (hc2.mono hle4))) ti9 rfl rfl rfl <| WL.loadG1 hS4 (Cells.drop 0 (Cells.drop 0 (hc1.mono (hle2.trans hle4)))) ti9 rfl rfl rfl <| WL.strCmp .eql rfl x.s.name t.s.name rfl rfl rfl ?_
    refine WL.split (fun h0=>?_) (fun h0=>?_)
    ·have h6 : x.s.name = t.s.name:=by simpa [SCmp.b] using h0
     clear h0
     refine WL.loadG1 hS4 (Cells.drop 1 (Cells.drop 0 (hc2.mono hle4))) ti22 rfl rfl rfl <| WL.loadG1 hS4 (Cells.drop 1 (Cells.drop 0 (hc1.mono (hle2.trans hle4)))) ti22 rfl rfl rfl ?_
     refine WL.cV hS4 hb83 rfl rfl rfl (c_EqualCol hS4.imm x.s.cols t.s.cols _ (hs4.mono ((hle1.trans hle2).trans hle4)) _ (hs1.mono ((hle1.trans hle2).trans hle4))) (fun w5 G5 hS5 hle5=>?_)
     exact RB hS5 rfl (by unfold isB isOk; simp_all [Cmp.b] <;> (first | omega | (intros; omega) | (rw [Bool.eq_iff_iff]; simp <;> omega) | (rw [Bool.eq_iff_iff]; simp_all <;> omega)))
    have h6 : x.s.name ≠ t.s.name:=by simpa [SCmp.b] using h0
    clear h0
    exact RB hS4 rfl (by unfold isB isOk; simp_all [Cmp.b] <;> (first | omega | (intros; omega) | (rw [Bool.eq_iff_iff]; simp <;> omega) | (rw [Bool.eq_iff_iff]; simp_all <;> omega)))
   exact RB hS4 rfl (by unfold isB isOk; simp_all [Cmp.b] <;> (first | omega | (intros; omega) | (rw [Bool.eq_iff_iff]; simp <;> omega) | (rw [Bool.eq_iff_iff]; simp_all <;> omega)))
  exact RB hS2 rfl (by unfold isB isOk; simp_all [Cmp.b] <;> (first | omega | (intros; omega) | (rw [Bool.eq_iff_iff]; simp <;> omega) | (rw [Bool.eq_iff_iff]; simp_all <;> omega)))
 exact RB hS2 rfl (by unfold isB isOk; simp_all [Cmp.b] <;> (first | omega | (intros; omega) | (rw [Bool.eq_iff_iff]; simp <;> omega) | (rw [Bool.eq_iff_iff]; simp_all <;> omega)))
theorem c_column {G : GH} {w : World} (hG : G.In w) : CL Tryz.prog (nat_lit 62) #[] [] w G fun G' _ r=>Is SchemaE G' r colT:=by
 refine calls_of_goR ft [] Tryz.func62 rfl rfl ?_
 have hS:=St.start (X:=[]) hG
 refine WL.alloc hS ti25 rfl rfl (fun b1 w1 hn1 hS1=>?_)
 refine WL.build _ [(0,[strV [97]]),(1,[.int .i64 1])] [strV [97], .int .i64 1] ti86 rfl fl86 rfl rfl rfl rfl ?_
 refine WL.buildSlice _ [(0,[strV [97], .int .i64 1])] [strV [97], .int .i64 1] hS1 sl22 rfl rfl rfl rfl (fun z hz=>by match z,hz with | [z0,z1],_=>rfl) (fun b2 w2 hn2 hS2=>?_)
 obtain ⟨G1,hle1,hs1,hS3⟩:=St.sealSl (E:=ColE) (by_:=24) (l:=([(Col.mk [97] 1)] : List Col)) hS2 hn2 ⟨[strV [97], .int .i64 1],_,rfl,(ColE_mk (Col.mk [97] 1) (by simp [reach]) (show I64 1 from by constructor <;> decide)),rfl⟩ rfl (by simp [reach]) (by simp [reach])
 refine WL.build _ [(0,[strV [116]]),(1,[.slice (some ⟨b2,0,none⟩) 1 1]),(2,[.int .i64 1])] [strV [116], .slice (some ⟨b2,0,none⟩) 1 1, .int .i64 1, .slice none 0 0] ti25 rfl fl25 rfl rfl rfl rfl ?_
 refine WL.store hS3 0 _ _ _ 0 _ [strV [116], .slice (some ⟨b2,0,none⟩) 1 1, .int .i64 1, .slice none 0 0] [strV [116], .slice (some ⟨b2,0,none⟩) 1 1, .int .i64 1, .slice none 0 0] _ rfl rfl ti25 rfl (Nat.le_of_ble_eq_true rfl) (by simp only [List.all_cons,List.all_nil,hs1.oneC,Bool.true_and] <;> rfl) rfl rfl rfl rfl rfl (fun w3 hS4=>?_)
 obtain ⟨G2,hle2,hc1,hS5⟩:=hS4.shutB hn1
 exact RTR [.agg #[strV [116], .slice (some ⟨b2,0,none⟩) 1 1, .int .i64 1, .slice none 0 0]] hS5 ⟨_,_,_,rfl,rfl,hS5.loadC hc1 ti25 rfl rfl,rfl⟩ (Is.cast ⟨_,rfl,(SchemaE_mk (Schema.mk [116] [(Col.mk [97] 1)] 1 []) (by simp [reach]) (hs1.mono hle2) (show I64 1 from by constructor <;> decide) (Sl.nil ForeignE 40 G2))⟩ (by rfl))
end Go.Civ
