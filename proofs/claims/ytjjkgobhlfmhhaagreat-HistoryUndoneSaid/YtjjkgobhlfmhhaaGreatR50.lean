/- Lemmas: Lo. -/
import Derived.Test.YtjjkgobhlfmhhaaGreatR45
import Derived.Test.YtjjkgobhlfmhhaaGreatR46
import Derived.Test.YtjjkgobhlfmhhaaGreatR48
import Derived.Test.YtjjkgobhlfmhhaaGreatR49
import Derived.Test.YtjjkgobhlfmhhaaGreatProg
import Derived.KernelRfl
import Derived.WalkKit
set_option linter.unusedVariables false
set_option linter.unusedSimpArgs false
set_option maxRecDepth 100000
set_option maxHeartbeats 4000000
namespace Go.Civ
open Go.Proofs
set_option maxHeartbeats 40000000
theorem c_HistoryUndone {G : GH} {w : World} (hG : G.In w) (t : Table) (tx : Int) (v : List Val) (p : Span) (at_ : Int) (ct : List Value) (hct : TableE.rep G t ct) (vv : Value) (hvv : Sl ValE 32 G vv v) (cp : List Value) (hcp : SpanE.rep G p cp) (htx64 : I64 tx) : CL Tryz.prog (nat_lit 12) #[.agg ct.toArray, .int .i64 tx,vv, .agg cp.toArray, .int .i64 at_] [] w G fun _ _ r=>r = .bool true:=by
 refine calls_of_go ft [] Tryz.func12 rfl rfl ?_
 have hS:=St.start (X:=[]) hG
 have qo1:=TableE_open hct
 obtain ⟨v1,v2,v3,rfl,hb1,hs1,hb2,hs2,hs3,hb3⟩:=qo1
 have qo2:=SpanE_open hcp
 obtain ⟨rfl,hb4,hb5⟩:=qo2
 refine WL.boxG [strV t.s.name,v1, .int .i64 t.s.key,v2,v3, .int .i64 t.last] _ hS rfl rfl rfl (fun p1 w1 G1 hle1 hsp1 hc1 hS1=>?_)
 refine WL.boxG [vv] _ hS1 rfl rfl (hvv.mono hle1).cells1 (fun p2 w2 G2 hle2 hsp2 hc2 hS2=>?_)
 refine WL.boxG [.int .i64 p.a, .int .i64 p.b] _ hS2 rfl rfl rfl (fun p3 w3 G3 hle3 hsp3 hc3 hS3=>?_)
 refine WL.cV hS3 hb13 rfl rfl rfl (c_awake hS3.imm) (fun w4 G4 hS4 hle4=>?_)
 refine WL.loadG1 hS4 (Cells.drop 4 (hc1.mono ((hle2.trans hle3).trans hle4))) ti26 rfl rfl rfl ?_
 refine WL.cV hS4 hb14 rfl rfl rfl (c_great hS4.imm t.rows _ (hs3.mono (((hle1.trans hle2).trans hle3).trans hle4))) (fun w5 G5 hS5 hle5=>?_)
 refine WL.split (fun (h1 : (greatH t.rows) = true)=>?_) (fun (h1 : (greatH t.rows) = false)=>?_)
 ·exact RB hS5 rfl (by first | with_reducible rfl | exact absurd hag.1 (by assumption) | exact absurd hag.2.1 (of_decide_eq_false (by assumption)) | exact absurd hag.2.2 (by assumption) | exact absurd (und_no (at_:=at_) hI9 (by assumption) (by assumption) (by assumption) (by assumption) (by assumption) (by assumption) (by assumption)) (of_decide_eq_false (by assumption)) | exact und_5 hI9 (by assumption) (by assumption) | exact decide_eq_true hso.symm)
 refine WL.loadG1 hS5 (hc2.mono ((hle3.trans hle4).trans hle5)) ti36 rfl rfl rfl ?_
 have bd1:=hvv.bound
 refine WL.lenSl (hvv.mono ((((hle1.trans hle2).trans hle3).trans hle4).trans hle5)) ul36 rfl rfl ?_
 refine WL.gtrS (v.length : Int) 8 rfl rfl rfl (fun h2=>?_) (fun h2=>?_)
 ·exact RB hS5 rfl (by first | with_reducible rfl | exact absurd hag.1 (by assumption) | exact absurd hag.2.1 (of_decide_eq_false (by assumption)) | exact absurd hag.2.2 (by assumption) | exact absurd (und_no (at_:=at_) hI9 (by assumption) (by assumption) (by assumption) (by assumption) (by assumption) (by assumption) (by assumption)) (of_decide_eq_false (by assumption)) | exact und_5 hI9 (by assumption) (by assumption) | exact decide_eq_true hso.symm)
 refine WL.cV hS5 hb23 rfl rfl rfl (c_rTime hS5.imm at_) (fun w6 G6 hS6 hle6=>?_)
 refine WL.split (fun (h3 : (instB at_) = true)=>?_) (fun (h3 : (instB at_) = false)=>?_)
 ·refine WL.cV hS6 hb23 rfl rfl rfl (c_rTime hS6.imm tx) (fun w7 G7 hS7 hle7=>?_)
  refine WL.split (fun (h4 : (instB tx) = true)=>?_) (fun (h4 : (instB tx) = false)=>?_)
  ·have hi1 : I64 (tx + 1):=by have hbi:=instB_parts (by assumption : instB tx = true); have:=htx64.1; have:=htx64.2; constructor <;> omega
   refine WL.ar .add rfl tx 1 rfl rfl rfl hi1 ?_
   refine WL.cV hS7 hb23 rfl rfl rfl (c_rTime hS7.imm (tx + 1)) (fun w9 G9 hS8 hle9=>?_)
   refine WL.split (fun (h5 : (instB (tx + 1)) = true)=>?_) (fun (h5 : (instB (tx + 1)) = false)=>?_)
   ·have hgr:=great_no (by assumption : greatH t.rows = false)
    have htb:=instB_parts (by assumption : instB tx = true)
    refine WL.loadGAt hS8 (hc1.mono ((((((hle2.trans hle3).trans hle4).trans hle5).trans hle6).trans hle7).trans hle9)) [strV t.s.name,v1, .int .i64 t.s.key,v2,v3, .int .i64 t.last] ti28 rfl rfl rfl rfl rfl <| WL.loadG1 hS8 (hc2.mono (((((hle3.trans hle4).trans hle5).trans hle6).trans hle7).trans hle9)) ti36 rfl rfl rfl <| WL.loadGAt hS8 (hc3.mono ((((hle4.trans hle5).trans hle6).trans hle7).trans hle9)) [.int .i64 p.a, .int .i64 p.b] ti38 rfl rfl rfl rfl rfl ?_
    refine WL.cA hS8 hb20 rfl rfl rfl (c_hInsert hS8.imm t tx v p _ (TableE_mk t hb1 (hs1.mono (((((((hle1.trans hle2).trans hle3).trans hle4).trans hle5).trans hle6).trans hle7).trans hle9)) hb2 (hs2.mono (((((((hle1.trans hle2).trans hle3).trans hle4).trans hle5).trans hle6).trans hle7).trans hle9)) (hs3.mono (((((((hle1.trans hle2).trans hle3).trans hle4).trans hle5).trans hle6).trans hle7).trans hle9)) hb3) _ (hvv.mono (((((((hle1.trans hle2).trans hle3).trans hle4).trans hle5).trans hle6).trans hle7).trans hle9)) _ (SpanE_mk p hb4 hb5) (by assumption)) ?_
    rintro w10 G10 _ ⟨r2,_,rfl,hs4,rfl⟩ hS9 hle10
    obtain ⟨cs1,rfl,hr1⟩:=hs4
    have qo3:=TableE_open hr1
    obtain ⟨v4,v5,v6,rfl,hb6,hs5,hb7,hs6,hs7,hb8⟩:=qo3
    refine WL.alloc hS9 ti28 rfl rfl (fun b1 w11 hn1 hS10=>?_)
    refine WL.store hS10 0 _ _ _ 0 _ [strV ((insT t tx v p).s.name),v4, .int .i64 ((insT t tx v p).s.key),v5,v6, .int .i64 ((insT t tx v p).last)] [strV ((insT t tx v p).s.name),v4, .int .i64 ((insT t tx v p).s.key),v5,v6, .int .i64 ((insT t tx v p).last)] _ rfl rfl ti28 rfl (Nat.le_of_ble_eq_true rfl) (by simp only [List.all_cons,List.all_nil,hs5.oneC,hs6.oneC,hs7.oneC,Bool.true_and] <;> rfl) rfl rfl rfl rfl rfl (fun w12 hS11=>?_)
    have qo4:=hS11.shutB hn1
    obtain ⟨G11,hle11,hc4,hS12⟩:=qo4
    refine WL.neqS (insE_ t tx v p) 0 rfl rfl rfl (fun h6=>?_) (fun h6=>?_)
    ·exact RB hS12 rfl (by first | with_reducible rfl | exact absurd hag.1 (by assumption) | exact absurd hag.2.1 (of_decide_eq_false (by assumption)) | exact absurd hag.2.2 (by assumption) | exact absurd (und_no (at_:=at_) hI9 (by assumption) (by assumption) (by assumption) (by assumption) (by assumption) (by assumption) (by assumption)) (of_decide_eq_false (by assumption)) | exact und_5 hI9 (by assumption) (by assumption) | exact decide_eq_true hso.symm)
    have hI9:=(by assumption : insE_ t tx v p = 0)
    have hag:=ins_again hI9 (by assumption : instB (tx + 1) = true)
    have hur:=und_rows hI9
    refine WL.loadGAt hS12 hc4 [strV ((insT t tx v p).s.name),v4, .int .i64 ((insT t tx v p).s.key),v5,v6, .int .i64 ((insT t tx v p).last)] ti28 rfl rfl rfl rfl rfl ?_
    have hi2 : I64 (tx + 1):=by have hbi:=instB_parts (by assumption : instB tx = true); have:=htx64.1; have:=htx64.2; constructor <;> omega
    refine WL.ar .add rfl tx 1 rfl rfl rfl hi2 <| WL.loadG1 hS12 (hc2.mono (((((((hle3.trans hle4).trans hle5).trans hle6).trans hle7).trans hle9).trans hle10).trans hle11)) ti36 rfl rfl rfl <| WL.loadGAt hS12 (hc3.mono ((((((hle4.trans hle5).trans hle6).trans hle7).trans hle9).trans hle10).trans hle11)) [.int .i64 p.a, .int .i64 p.b] ti38 rfl rfl rfl rfl rfl ?_
    refine WL.cA hS12 hb20 rfl rfl rfl (c_hInsert hS12.imm (insT t tx v p) (tx + 1) v p _ (TableE_mk (insT t tx v p) hb6 (hs5.mono hle11) hb7 (hs6.mono hle11) (hs7.mono hle11) hb8) _ (hvv.mono (((((((((hle1.trans hle2).trans hle3).trans hle4).trans hle5).trans hle6).trans hle7).trans hle9).trans hle10).trans hle11)) _ (SpanE_mk p hb4 hb5) (by assumption)) ?_
    rintro w13 G12 _ ⟨r5,_,rfl,hs8,rfl⟩ hS13 hle12
    obtain ⟨cs2,rfl,hr2⟩:=hs8
    have qo5:=TableE_open hr2
    obtain ⟨v7,v9,v10,rfl,hb9,hs9,hb10,hs10,hs11,hb11⟩:=qo5
    refine WL.alloc hS13 ti28 rfl rfl (fun b2 w14 hn2 hS14=>?_)
    refine WL.store hS14 0 _ _ _ 0 _ [strV ((insT (insT t tx v p) (tx + 1) v p).s.name),v7, .int .i64 ((insT (insT t tx v p) (tx + 1) v p).s.key),v9,v10, .int .i64 ((insT (insT t tx v p) (tx + 1) v p).last)] [strV ((insT (insT t tx v p) (tx + 1) v p).s.name),v7, .int .i64 ((insT (insT t tx v p) (tx + 1) v p).s.key),v9,v10, .int .i64 ((insT (insT t tx v p) (tx + 1) v p).last)] _ rfl rfl ti28 rfl (Nat.le_of_ble_eq_true rfl) (by simp only [List.all_cons,List.all_nil,hs9.oneC,hs10.oneC,hs11.oneC,Bool.true_and] <;> rfl) rfl rfl rfl rfl rfl (fun w15 hS15=>?_)
    have qo6:=hS15.shutB hn2
    obtain ⟨G13,hle13,hc5,hS16⟩:=qo6
    refine WL.neqS (insE_ (insT t tx v p) (tx + 1) v p) 0 rfl rfl rfl (fun h7=>?_) (fun h7=>?_)
    ·exact RB hS16 rfl (by first | with_reducible rfl | exact absurd hag.1 (by assumption) | exact absurd hag.2.1 (of_decide_eq_false (by assumption)) | exact absurd hag.2.2 (by assumption) | exact absurd (und_no (at_:=at_) hI9 (by assumption) (by assumption) (by assumption) (by assumption) (by assumption) (by assumption) (by assumption)) (of_decide_eq_false (by assumption)) | exact und_5 hI9 (by assumption) (by assumption) | exact decide_eq_true hso.symm)
    refine WL.loadG1 hS16 (Cells.drop 4 hc5) ti26 rfl rfl rfl <| WL.loadG1 hS16 (Cells.drop 4 (hc4.mono (hle12.trans hle13))) ti26 rfl rfl rfl ?_
    refine WL.cV hS16 hb38 rfl rfl rfl (c_rEqual hS16.imm ((insT (insT t tx v p) (tx + 1) v p).rows) ((insT t tx v p).rows) _ (hs11.mono hle13) _ (hs7.mono ((hle11.trans hle12).trans hle13))) (fun w16 G14 hS17 hle14=>?_)
    refine WL.split (fun (h8 : (decide (((insT (insT t tx v p) (tx + 1) v p).rows) = ((insT t tx v p).rows))) = true)=>?_) (fun (h8 : (decide (((insT (insT t tx v p) (tx + 1) v p).rows) = ((insT t tx v p).rows))) = false)=>?_)
    ·refine WL.loadG1 hS17 (Cells.drop 5 (hc5.mono hle14)) ti3 rfl rfl rfl ?_
     have hi3 : I64 (tx + 1):=by have hbi:=instB_parts (by assumption : instB tx = true); have:=htx64.1; have:=htx64.2; constructor <;> omega
     refine WL.ar .add rfl tx 1 rfl rfl rfl hi3 ?_
     refine WL.neqS ((insT (insT t tx v p) (tx + 1) v p).last) (tx + 1) rfl rfl rfl (fun h9=>?_) (fun h9=>?_)
     ·exact RB hS17 rfl (by first | with_reducible rfl | exact absurd hag.1 (by assumption) | exact absurd hag.2.1 (of_decide_eq_false (by assumption)) | exact absurd hag.2.2 (by assumption) | exact absurd (und_no (at_:=at_) hI9 (by assumption) (by assumption) (by assumption) (by assumption) (by assumption) (by assumption) (by assumption)) (of_decide_eq_false (by assumption)) | exact und_5 hI9 (by assumption) (by assumption) | exact decide_eq_true hso.symm)
     refine WL.build _ [(0,[.int .i64 3])] [.int .i64 3,strV [],strV [], .int .i64 0, .int .i64 0,strV [], .slice none 0 0] ti51 rfl fl51 rfl rfl rfl rfl ?_
     refine WL.alloc hS17 ti51 rfl rfl (fun b3 w17 hn3 hS18=>?_)
     refine WL.store hS18 0 _ _ _ 0 _ [.int .i64 3,strV [],strV [], .int .i64 0, .int .i64 0,strV [], .slice none 0 0] [.int .i64 3,strV [],strV [], .int .i64 0, .int .i64 0,strV [], .slice none 0 0] _ rfl rfl ti51 rfl (Nat.le_of_ble_eq_true rfl) rfl rfl rfl rfl rfl rfl (fun w18 hS19=>?_)
     refine WL.loadG1 hS19 (Cells.drop 1 (Cells.drop 0 (hc1.mono (((((((((((hle2.trans hle3).trans hle4).trans hle5).trans hle6).trans hle7).trans hle9).trans hle10).trans hle11).trans hle12).trans hle13).trans hle14)))) ti22 rfl rfl rfl ?_
     have bd2:=hs1.bound
     refine WL.lenSl (hs1.mono ((((((((((((hle1.trans hle2).trans hle3).trans hle4).trans hle5).trans hle6).trans hle7).trans hle9).trans hle10).trans hle11).trans hle12).trans hle13).trans hle14)) ul22 rfl rfl ?_
     refine LP.go ft [] (fun m ρ1 w1=>∃ (k1 : Nat),∃ (cg : Cond),∃ (vL : Value),∃ (G15 : GH),m = t.s.cols.length - k1 ∧ G14.le G15 ∧ St w [] G G15 [some (b3,51,[.int .i64 cg.kind,strV cg.col,strV cg.oth, .int .i64 cg.v.k, .int .i64 cg.v.n,strV cg.v.s,vL])] w1 ∧ FR ρ1 [(1, .int .i64 tx),(4, .int .i64 at_),(5, .pointer (some p1)),(7, .pointer (some p2)),(8, .pointer (some p3)),(11, .pointer (some (⟨b1,0,none⟩ : Addr))),(15, .pointer (some ⟨b3,0,none⟩)),(91,v1),(92, .int .i64 (t.s.cols.length : Int)),(93, .int .i64 (k1 : Int))] ∧ k1 ≤ t.s.cols.length ∧ cg = undC t.s.cols v k1 ∧ (CondE (k1 + 1)).rep G15 cg [.int .i64 cg.kind,strV cg.col,strV cg.oth, .int .i64 cg.v.k, .int .i64 cg.v.n,strV cg.v.s,vL]) _ ⟨0,alwC, .slice none 0 0,G14,rfl,(G14.le_refl),hS19,⟨rfl,rfl,rfl,rfl,rfl,rfl,rfl,rfl,(by dsimp only [upd]; rfl),rfl,trivial⟩,(by omega),(rfl),((CondE_succ (d:=0)).2 ⟨_,rfl,by constructor <;> decide,by simp [reach,alwC],by simp [reach,alwC],by constructor <;> decide,by constructor <;> decide,by simp [reach,alwC],Sl.nil (CondE 0) 96 G14⟩)⟩ ?_
     rintro m ρ1 w19 ⟨k1,cg,vL,G15,rfl,hle15,hS20,hF9,f1,f2,f3⟩
     refine hF9.set ?_
     clear hF9
     have qo7:=CondE_open (by assumption : (CondE (k1 + 1)).rep _ cg _)
     obtain ⟨_,hcgE,hcg1,hcg2,hcg3,hcg4,hcg5,hcg6,hvL⟩:=qo7
     have hcg:=And.intro hcg1 (And.intro hcg2 (And.intro hcg3 (And.intro hcg4 (And.intro hcg5 hcg6))))
     refine WL.lssS (k1 : Int) (t.s.cols.length : Int) rfl rfl rfl (fun h10=>?_) (fun h10=>?_)
     ·refine WL.indexAddr (hs1.mono (((((((((((((hle1.trans hle2).trans hle3).trans hle4).trans hle5).trans hle6).trans hle7).trans hle9).trans hle10).trans hle11).trans hle12).trans hle13).trans hle14).trans hle15)) k1 (by omega) ul22 ti86 rfl rfl rfl rfl (fun p4 x1 hx1 he1=>?_)
      obtain ⟨cs3,hc6,hr3⟩:=he1
      have qo8:=ColE_open hr3
      obtain ⟨rfl,hb12,hb15⟩:=qo8
      refine WL.loadGAt hS20 hc6 [strV x1.name, .int .i64 x1.kind] ti86 rfl rfl rfl rfl rfl ?_
      refine WL.alloc hS20 ti86 rfl rfl (fun b4 w20 hn4 hS21=>?_)
      refine WL.store hS21 0 _ _ _ 0 _ [strV x1.name, .int .i64 x1.kind] [strV x1.name, .int .i64 x1.kind] _ rfl rfl ti86 rfl (Nat.le_of_ble_eq_true rfl) rfl rfl rfl rfl rfl rfl (fun w21 hS22=>?_)
      have qo9:=hS22.shutB hn4
      obtain ⟨G16,hle16,hc7,hS23⟩:=qo9
      refine WL.loadG1 hS23 (hc2.mono ((((((((((((hle3.trans hle4).trans hle5).trans hle6).trans hle7).trans hle9).trans hle10).trans hle11).trans hle12).trans hle13).trans hle14).trans hle15).trans hle16)) ti36 rfl rfl rfl ?_
      have bd3:=hvv.bound
      refine WL.lenSl (hvv.mono ((((((((((((((hle1.trans hle2).trans hle3).trans hle4).trans hle5).trans hle6).trans hle7).trans hle9).trans hle10).trans hle11).trans hle12).trans hle13).trans hle14).trans hle15).trans hle16)) ul36 rfl rfl ?_
      refine WL.lssS (k1 : Int) (v.length : Int) rfl rfl rfl (fun h11=>?_) (fun h11=>?_)
      ·have qo10:=Sl.at (hvv.mono ((((((((((((((hle1.trans hle2).trans hle3).trans hle4).trans hle5).trans hle6).trans hle7).trans hle9).trans hle10).trans hle11).trans hle12).trans hle13).trans hle14).trans hle15).trans hle16)) k1 (by omega)
       obtain ⟨p5,x2,hx2,he2,ep1⟩:=qo10
       obtain ⟨cs4,hc8,hr4⟩:=he2
       have qo11:=ValE_open hr4
       obtain ⟨rfl,hb16,hb17,hb18⟩:=qo11
       refine dr [(8,false),(9,false),(10,false)] [(102, .agg #[.int .i64 cg.kind,strV cg.col,strV cg.oth, .int .i64 cg.v.k, .int .i64 cg.v.n,strV cg.v.s,vL]),(104,strV x1.name),(105,vv),(107, .pointer (some p5)),(108, .agg #[.int .i64 x2.k, .int .i64 x2.n,strV x2.s]),(109, .agg #[.int .i64 1,strV x1.name,strV [], .int .i64 x2.k, .int .i64 x2.n,strV x2.s, .slice none 0 0])] hS23 ⟨fun _ hSw=>WL.loadOA hSw 0 _ _ _ 0 [.int .i64 cg.kind,strV cg.col,strV cg.oth, .int .i64 cg.v.k, .int .i64 cg.v.n,strV cg.v.s,vL] rfl rfl rfl ti51 rfl rfl rfl <| nu rfl rfl,fun _ hSw=>WL.loadG1 hSw (Cells.drop 0 hc7) ti9 rfl rfl rfl <| nu rfl rfl,fun _ hSw=>WL.loadG1 hSw (hc2.mono ((((((((((((hle3.trans hle4).trans hle5).trans hle6).trans hle7).trans hle9).trans hle10).trans hle11).trans hle12).trans hle13).trans hle14).trans hle15).trans hle16)) ti36 rfl rfl rfl <| nu rfl rfl,fun _=>WL.indexAddrP k1 ep1 ul36 ti48 rfl rfl rfl rfl <| nu rfl rfl,fun _ hSw=>WL.loadGAt hSw hc8 [.int .i64 x2.k, .int .i64 x2.n,strV x2.s] ti48 rfl rfl rfl rfl rfl <| nu rfl rfl,fun _=>WL.build _ [(0,[.int .i64 1]),(1,[strV x1.name]),(3,[.int .i64 x2.k, .int .i64 x2.n,strV x2.s])] [.int .i64 1,strV x1.name,strV [], .int .i64 x2.k, .int .i64 x2.n,strV x2.s, .slice none 0 0] ti51 rfl fl51 rfl rfl rfl rfl <| nu rfl rfl,trivial⟩ (fun w22 hS24=>?_)
       refine WL.buildSlice _ [(0,[.int .i64 cg.kind,strV cg.col,strV cg.oth, .int .i64 cg.v.k, .int .i64 cg.v.n,strV cg.v.s,vL]),(1,[.int .i64 1,strV x1.name,strV [], .int .i64 x2.k, .int .i64 x2.n,strV x2.s, .slice none 0 0])] [.int .i64 cg.kind,strV cg.col,strV cg.oth, .int .i64 cg.v.k, .int .i64 cg.v.n,strV cg.v.s,vL, .int .i64 1,strV x1.name,strV [], .int .i64 x2.k, .int .i64 x2.n,strV x2.s, .slice none 0 0] hS24 sl49 rfl rfl rfl rfl (fun z hz=>by match z,hz with | [z0,z1,z2,z3,z4,z5,z6,z7,z8,z9,z10,z11,z12,z13],_=>rfl) (fun b5 w23 hn5 hS25=>?_)
       have qo12:=St.sealSlAt (E:=CondE (k1 + 1)) (by_:=96) (l:=([cg,(eqC x1 x2)] : List Cond)) hS25 0 rfl hn5 ⟨[.int .i64 cg.kind,strV cg.col,strV cg.oth, .int .i64 cg.v.k, .int .i64 cg.v.n,strV cg.v.s,vL],_,rfl,((CondE _).mono hle16 f3),⟨[.int .i64 1,strV x1.name,strV [], .int .i64 x2.k, .int .i64 x2.n,strV x2.s, .slice none 0 0],_,rfl,(CondE_le (d:=1) ((CondE_succ (d:=0)).2 ⟨_,rfl,(show I64 1 from by constructor <;> decide),hb12,(Nat.zero_le _),hb16,hb17,hb18,Sl.nil (CondE 0) 96 G16⟩) (by omega)),rfl⟩⟩ rfl (by simp [reach]) (by simp [reach])
       obtain ⟨G17,hle17,hs12,hS26⟩:=qo12
       have hcd1 : (CondE ((k1 + 1) + 1)).rep G17 (andC cg (eqC x1 x2)) [.int .i64 5,strV [],strV [], .int .i64 0, .int .i64 0,strV [], .slice (some ⟨b5,0,none⟩) 2 2]:=(CondE_succ (d:=(k1 + 1))).2 ⟨_,rfl,(show I64 5 from by constructor <;> decide),Nat.zero_le _,Nat.zero_le _,(show I64 0 from by constructor <;> decide),(show I64 0 from by constructor <;> decide),Nat.zero_le _,hs12⟩
       refine WL.build _ [(0,[.int .i64 5]),(4,[.slice (some ⟨b5,0,none⟩) 2 2])] [.int .i64 5,strV [],strV [], .int .i64 0, .int .i64 0,strV [], .slice (some ⟨b5,0,none⟩) 2 2] ti51 rfl fl51 rfl rfl rfl rfl ?_
       refine WL.store hS26 1 _ _ _ 0 _ [.int .i64 5,strV [],strV [], .int .i64 0, .int .i64 0,strV [], .slice (some ⟨b5,0,none⟩) 2 2] [.int .i64 5,strV [],strV [], .int .i64 0, .int .i64 0,strV [], .slice (some ⟨b5,0,none⟩) 2 2] _ rfl rfl ti51 rfl (Nat.le_of_ble_eq_true rfl) (by simp only [List.all_cons,List.all_nil,hs12.oneC,Bool.true_and] <;> rfl) rfl rfl rfl rfl rfl (fun w24 hS27=>?_)
       refine WL.incr k1 (by have hreach : reach = 140737488355328:=rfl; omega) rfl rfl rfl ?_
       have hS28:=hS27.tail
       exact BK.mk' _ ⟨k1 + 1,(andC cg (eqC x1 x2)), .slice (some ⟨b5,0,none⟩) 2 2,G17,rfl,(hle15.trans (hle16.trans hle17)),hS28,⟨rfl,rfl,rfl,rfl,rfl,rfl,rfl,rfl,(by dsimp only [upd]; rfl),rfl,trivial⟩,(by omega),(by first | exact undC_more (by assumption) (by assumption) (by assumption) | exact undC_rest (by assumption) (by omega)),(((CondE _).mono (G17.le_refl) hcd1))⟩ (show t.s.cols.length - (k1 + 1) < t.s.cols.length - k1 by omega)
      refine WL.incr k1 (by have hreach : reach = 140737488355328:=rfl; omega) rfl rfl rfl ?_
      exact BK.mk' _ ⟨k1 + 1,cg,vL,G16,rfl,(hle15.trans hle16),hS23,⟨rfl,rfl,rfl,rfl,rfl,rfl,rfl,rfl,(by dsimp only [upd]; rfl),rfl,trivial⟩,(by omega),(by first | exact undC_more (by assumption) (by assumption) (by assumption) | exact undC_rest (by assumption) (by omega)),(CondE_up ((CondE _).mono hle16 f3))⟩ (show t.s.cols.length - (k1 + 1) < t.s.cols.length - k1 by omega)
     refine WL.loadG1 hS20 (Cells.drop 4 (hc1.mono ((((((((((((hle2.trans hle3).trans hle4).trans hle5).trans hle6).trans hle7).trans hle9).trans hle10).trans hle11).trans hle12).trans hle13).trans hle14).trans hle15))) ti26 rfl rfl rfl ?_
     refine WL.cV hS20 hb34 rfl rfl rfl (c_ContainsR hS20.imm t.rows (fun x8=>thereB v p x8) _ (hs3.mono (((((((((((((hle1.trans hle2).trans hle3).trans hle4).trans hle5).trans hle6).trans hle7).trans hle9).trans hle10).trans hle11).trans hle12).trans hle13).trans hle14).trans hle15)) 59 #[.pointer (some p2), .pointer (some p3)] ⟨hb59,fun G8 w8 v8 x8 hle8 hG8 hon8 hA8=>by obtain ⟨cs_x8,rfl,hr_x8⟩:=hA8; exact c_und1 hG8 x8 v _ cs_x8 hr_x8 vv ((hvv.mono (((((((((((((hle1.trans hle2).trans hle3).trans hle4).trans hle5).trans hle6).trans hle7).trans hle9).trans hle10).trans hle11).trans hle12).trans hle13).trans hle14).trans hle15)).mono hle8) p2 ((hc2.mono (((((((((((hle3.trans hle4).trans hle5).trans hle6).trans hle7).trans hle9).trans hle10).trans hle11).trans hle12).trans hle13).trans hle14).trans hle15)).mono hle8) p3 ((hc3.mono ((((((((((hle4.trans hle5).trans hle6).trans hle7).trans hle9).trans hle10).trans hle11).trans hle12).trans hle13).trans hle14).trans hle15)).mono hle8)⟩) (fun w25 G18 hS29 hle18=>?_)
     refine WL.split (fun (h12 : (t.rows.any (fun x8=>thereB v p x8)) = true)=>?_) (fun (h12 : (t.rows.any (fun x8=>thereB v p x8)) = false)=>?_)
     ·refine WL.loadGAt hS29 (hc4.mono ((((hle12.trans hle13).trans hle14).trans hle15).trans hle18)) [strV ((insT t tx v p).s.name),v4, .int .i64 ((insT t tx v p).s.key),v5,v6, .int .i64 ((insT t tx v p).last)] ti28 rfl rfl rfl rfl rfl ?_
      have hi4 : I64 (tx + 1):=by have hbi:=instB_parts (by assumption : instB tx = true); have:=htx64.1; have:=htx64.2; constructor <;> omega
      refine WL.ar .add rfl tx 1 rfl rfl rfl hi4 <| WL.loadOA hS29 0 _ _ _ 0 [.int .i64 cg.kind,strV cg.col,strV cg.oth, .int .i64 cg.v.k, .int .i64 cg.v.n,strV cg.v.s,vL] rfl rfl rfl ti51 rfl rfl rfl <| WL.loadGAt hS29 (hc3.mono (((((((((((hle4.trans hle5).trans hle6).trans hle7).trans hle9).trans hle10).trans hle11).trans hle12).trans hle13).trans hle14).trans hle15).trans hle18)) [.int .i64 p.a, .int .i64 p.b] ti38 rfl rfl rfl rfl rfl ?_
      refine WL.cA hS29 hb27 rfl rfl rfl (c_hDelete hS29.imm (k1 + 1) (insT t tx v p) (tx + 1) cg p _ (TableE_mk (insT t tx v p) hb6 (hs5.mono (((((hle11.trans hle12).trans hle13).trans hle14).trans hle15).trans hle18)) hb7 (hs6.mono (((((hle11.trans hle12).trans hle13).trans hle14).trans hle15).trans hle18)) (hs7.mono (((((hle11.trans hle12).trans hle13).trans hle14).trans hle15).trans hle18)) hb8) _ ((CondE _).mono hle18 f3) _ (SpanE_mk p hb4 hb5) (by assumption)) ?_
      rintro w26 G19 _ ⟨r8,_,rfl,hs13,rfl⟩ hS30 hle19
      obtain ⟨cs5,rfl,hr5⟩:=hs13
      have qo13:=TableE_open hr5
      obtain ⟨v11,v12,v13,rfl,hb19,hs14,hb21,hs15,hs16,hb22⟩:=qo13
      refine WL.alloc hS30 ti28 rfl rfl (fun b6 w27 hn6 hS31=>?_)
      refine WL.store hS31 0 _ _ _ 0 _ [strV ((delT (k1 + 1) (insT t tx v p) (tx + 1) cg p).s.name),v11, .int .i64 ((delT (k1 + 1) (insT t tx v p) (tx + 1) cg p).s.key),v12,v13, .int .i64 ((delT (k1 + 1) (insT t tx v p) (tx + 1) cg p).last)] [strV ((delT (k1 + 1) (insT t tx v p) (tx + 1) cg p).s.name),v11, .int .i64 ((delT (k1 + 1) (insT t tx v p) (tx + 1) cg p).s.key),v12,v13, .int .i64 ((delT (k1 + 1) (insT t tx v p) (tx + 1) cg p).last)] _ rfl rfl ti28 rfl (Nat.le_of_ble_eq_true rfl) (by simp only [List.all_cons,List.all_nil,hs14.oneC,hs15.oneC,hs16.oneC,Bool.true_and] <;> rfl) rfl rfl rfl rfl rfl (fun w28 hS32=>?_)
      have qo14:=hS32.shutB hn6
      obtain ⟨G20,hle20,hc9,hS33⟩:=qo14
      rcases Cmp.dec .eql (delE (k1 + 1) (insT t tx v p) (tx + 1) cg p) 0 with ⟨hb24,q1⟩ | ⟨hb24,q1⟩
      ·have h13 : (delE (k1 + 1) (insT t tx v p) (tx + 1) cg p) = 0:=q1
       clear q1
       refine dr [(11,true),(17,false),(18,false),(19,false),(20,false)] [(127, .bool true)] hS33 ⟨fun _=>WL.cmpV .eql rfl .i64 (delE (k1 + 1) (insT t tx v p) (tx + 1) cg p) 0 _ hb24 rfl rfl rfl <| nu rfl rfl,trivial⟩ (fun w29 hS34=>?_)
       refine WL.no rfl rfl ?_
       refine ⟨hS34.down hS34.le (G20.le_refl),?_⟩
       refine WL.loadG1 hS34 (Cells.drop 5 (hc1.mono (((((((((((((((hle2.trans hle3).trans hle4).trans hle5).trans hle6).trans hle7).trans hle9).trans hle10).trans hle11).trans hle12).trans hle13).trans hle14).trans hle15).trans hle18).trans hle19).trans hle20))) ti3 rfl rfl rfl ?_
       refine WL.lssS t.last (-62135596800) rfl rfl rfl (fun h14=>?_) (fun h14=>?_)
       ·exact RB hS34 rfl (by first | with_reducible rfl | exact absurd hag.1 (by assumption) | exact absurd hag.2.1 (of_decide_eq_false (by assumption)) | exact absurd hag.2.2 (by assumption) | exact absurd (und_no (at_:=at_) hI9 (by assumption) (by assumption) (by assumption) (by assumption) (by assumption) (by assumption) (by assumption)) (of_decide_eq_false (by assumption)) | exact und_5 hI9 (by assumption) (by assumption) | exact decide_eq_true hso.symm)
       refine WL.loadGAt hS34 (hc4.mono ((((((hle12.trans hle13).trans hle14).trans hle15).trans hle18).trans hle19).trans hle20)) [strV ((insT t tx v p).s.name),v4, .int .i64 ((insT t tx v p).s.key),v5,v6, .int .i64 ((insT t tx v p).last)] ti28 rfl rfl rfl rfl rfl <| WL.loadG1 hS34 (Cells.drop 5 (hc1.mono (((((((((((((((hle2.trans hle3).trans hle4).trans hle5).trans hle6).trans hle7).trans hle9).trans hle10).trans hle11).trans hle12).trans hle13).trans hle14).trans hle15).trans hle18).trans hle19).trans hle20))) ti3 rfl rfl rfl ?_
       refine WL.cA hS34 hb47 rfl rfl rfl (c_hChanges hS34.imm (insT t tx v p) t.last tx _ (TableE_mk (insT t tx v p) hb6 (hs5.mono (((((((hle11.trans hle12).trans hle13).trans hle14).trans hle15).trans hle18).trans hle19).trans hle20)) hb7 (hs6.mono (((((((hle11.trans hle12).trans hle13).trans hle14).trans hle15).trans hle18).trans hle19).trans hle20)) (hs7.mono (((((((hle11.trans hle12).trans hle13).trans hle14).trans hle15).trans hle18).trans hle19).trans hle20)) hb8) (by assumption) htx64) ?_
       rintro w30 G21 _ ⟨r11,_,rfl,hs17,rfl⟩ hS35 hle21
       refine WL.neqS (chgsErr (insT t tx v p) t.last tx) 0 rfl rfl rfl (fun h15=>?_) (fun h15=>?_)
       ·refine WL.cmp .eql rfl .i64 (chgsErr (insT t tx v p) t.last tx) 5 rfl rfl rfl ?_
        exact RB hS35 rfl (by first | with_reducible rfl | exact absurd hag.1 (by assumption) | exact absurd hag.2.1 (of_decide_eq_false (by assumption)) | exact absurd hag.2.2 (by assumption) | exact absurd (und_no (at_:=at_) hI9 (by assumption) (by assumption) (by assumption) (by assumption) (by assumption) (by assumption) (by assumption)) (of_decide_eq_false (by assumption)) | exact und_5 hI9 (by assumption) (by assumption) | exact decide_eq_true hso.symm)
       have hsm:=und_small hI9 (by assumption) (by assumption)
       have hsn:=snapH_len (insT t tx v p) at_ t.last
       refine WL.loadGAt hS35 (hc4.mono (((((((hle12.trans hle13).trans hle14).trans hle15).trans hle18).trans hle19).trans hle20).trans hle21)) [strV ((insT t tx v p).s.name),v4, .int .i64 ((insT t tx v p).s.key),v5,v6, .int .i64 ((insT t tx v p).last)] ti28 rfl rfl rfl rfl rfl <| WL.loadG1 hS35 (Cells.drop 5 (hc1.mono ((((((((((((((((hle2.trans hle3).trans hle4).trans hle5).trans hle6).trans hle7).trans hle9).trans hle10).trans hle11).trans hle12).trans hle13).trans hle14).trans hle15).trans hle18).trans hle19).trans hle20).trans hle21))) ti3 rfl rfl rfl ?_
       refine WL.cA hS35 hb31 rfl rfl rfl (c_Snapshot hS35.imm (insT t tx v p) at_ t.last _ (TableE_mk (insT t tx v p) hb6 (hs5.mono ((((((((hle11.trans hle12).trans hle13).trans hle14).trans hle15).trans hle18).trans hle19).trans hle20).trans hle21)) hb7 (hs6.mono ((((((((hle11.trans hle12).trans hle13).trans hle14).trans hle15).trans hle18).trans hle19).trans hle20).trans hle21)) (hs7.mono ((((((((hle11.trans hle12).trans hle13).trans hle14).trans hle15).trans hle18).trans hle19).trans hle20).trans hle21)) hb8)) (fun w31 G22 r13 hpost5 hS36 hle22=>?_)
       refine WL.cR hb51 rfl rfl rfl (c_CloneLL hS36.imm (snapH (insT t tx v p) at_ t.last) _ hpost5) (fun w32 G23 r14 hres1 hpost6=>?_)
       have hS37:=hS36.call hres1
       have hle23:=hres1.le
       obtain ⟨o1,hr6,hf1⟩:=hpost6
       have hS38:=hS36.adoptO hres1 hf1
       have bd4:=hs17.bound
       refine WL.lenSl (hs17.mono (hle22.trans hle23)) ul26 rfl rfl ?_
       refine LP.go ft [] (fun m ρ1 w1=>∃ (k2 : Nat),∃ (v14 : Value) (o2 : OB),∃ (G24 : GH),m = (chgsH (insT t tx v p) t.last tx).length - k2 ∧ G23.le G24 ∧ St w [] G G24 [o2,some (b3,51,[.int .i64 cg.kind,strV cg.col,strV cg.oth, .int .i64 cg.v.k, .int .i64 cg.v.n,strV cg.v.s,vL])] w1 ∧ Row (ValE.slice 32) 24 36 G24 v14 (uRun t.last at_ (snapH (insT t tx v p) at_ t.last) ((chgsH (insT t tx v p) t.last tx).take k2)) o2 ∧ FR ρ1 [(1, .int .i64 tx),(4, .int .i64 at_),(5, .pointer (some p1)),(11, .pointer (some (⟨b1,0,none⟩ : Addr))),(23,v14),(168,r11),(169, .int .i64 (((chgsH (insT t tx v p) t.last tx).length : Nat) : Int)),(170, .int .i64 (k2 : Int))] ∧ k2 ≤ (chgsH (insT t tx v p) t.last tx).length) _ ⟨0,r14,o1,G23,rfl,(G23.le_refl),hS38,(Row.cast hr6 (by rfl)),⟨rfl,rfl,rfl,rfl,rfl,rfl,(by dsimp only [upd]; rfl),rfl,trivial⟩,(by omega)⟩ ?_
       rintro m ρ1 w33 ⟨k2,v14,o2,G24,rfl,hle24,hS39,hr7,hF9,f4⟩
       refine hF9.set ?_
       clear hF9
       have hul:=und_len (p:=t.last) (a:=at_) (s:=(snapH (insT t tx v p) at_ t.last)) (D:=(chgsH (insT t tx v p) t.last tx)) k2
       refine WL.lssS (k2 : Int) (((chgsH (insT t tx v p) t.last tx).length : Nat) : Int) rfl rfl rfl (fun h16=>?_) (fun h16=>?_)
       ·refine WL.indexAddr (hs17.mono ((hle22.trans hle23).trans hle24)) k2 (by omega) ul26 ti64 rfl rfl rfl rfl (fun p6 x3 hx3 he3=>?_)
        obtain ⟨cs6,hc10,hr8⟩:=he3
        have qo15:=HRowE_open hr8
        obtain ⟨v15,rfl,hs18,hb25,hb26,hb28,hb29⟩:=qo15
        refine WL.loadGAt hS39 hc10 [v15, .int .i64 x3.r.d.a, .int .i64 x3.r.d.b, .int .i64 x3.r.x.a, .int .i64 x3.r.x.b] ti64 rfl rfl rfl rfl rfl ?_
        refine WL.alloc hS39 ti64 rfl rfl (fun b7 w34 hn7 hS40=>?_)
        refine WL.store hS40 0 _ _ _ 0 _ [v15, .int .i64 x3.r.d.a, .int .i64 x3.r.d.b, .int .i64 x3.r.x.a, .int .i64 x3.r.x.b] [v15, .int .i64 x3.r.d.a, .int .i64 x3.r.d.b, .int .i64 x3.r.x.a, .int .i64 x3.r.x.b] _ rfl rfl ti64 rfl (Nat.le_of_ble_eq_true rfl) (by simp only [List.all_cons,List.all_nil,hs18.oneC,Bool.true_and] <;> rfl) rfl rfl rfl rfl rfl (fun w35 hS41=>?_)
        have qo16:=hS41.shutB hn7
        obtain ⟨G25,hle25,hc11,hS42⟩:=qo16
        refine WL.loadG1 hS42 (Cells.drop 0 (Cells.drop 0 (Cells.drop 1 hc11))) ti3 rfl rfl rfl ?_
        refine WL.lssS at_ x3.r.d.a rfl rfl rfl (fun h17=>?_) (fun h17=>?_)
        ·refine WL.incr k2 (by have hreach : reach = 140737488355328:=rfl; omega) rfl rfl rfl ?_
         exact BK.mk' _ ⟨k2 + 1,v14,o2,G25,rfl,(hle24.trans hle25),hS42,(Row.cast (hr7.mono hle25) (by (first | with_reducible exact (uRun_skip (by assumption) (by omega)).symm | with_reducible exact (uRun_del (by assumption) (by omega) (by omega) (by assumption)).symm | with_reducible exact (uRun_add (by assumption) (by omega) (by omega) (by assumption)).symm))),⟨rfl,rfl,rfl,rfl,rfl,rfl,(by dsimp only [upd]; rfl),rfl,trivial⟩,(by omega)⟩ (show (chgsH (insT t tx v p) t.last tx).length - (k2 + 1) < (chgsH (insT t tx v p) t.last tx).length - k2 by omega)
        refine WL.loadG1 hS42 (Cells.drop 1 (Cells.drop 0 (Cells.drop 1 hc11))) ti3 rfl rfl rfl ?_
        refine WL.geqS at_ x3.r.d.b rfl rfl rfl (fun h18=>?_) (fun h18=>?_)
        ·refine WL.incr k2 (by have hreach : reach = 140737488355328:=rfl; omega) rfl rfl rfl ?_
         exact BK.mk' _ ⟨k2 + 1,v14,o2,G25,rfl,(hle24.trans hle25),hS42,(Row.cast (hr7.mono hle25) (by (first | with_reducible exact (uRun_skip (by assumption) (by omega)).symm | with_reducible exact (uRun_del (by assumption) (by omega) (by omega) (by assumption)).symm | with_reducible exact (uRun_add (by assumption) (by omega) (by omega) (by assumption)).symm))),⟨rfl,rfl,rfl,rfl,rfl,rfl,(by dsimp only [upd]; rfl),rfl,trivial⟩,(by omega)⟩ (show (chgsH (insT t tx v p) t.last tx).length - (k2 + 1) < (chgsH (insT t tx v p) t.last tx).length - k2 by omega)
        refine WL.loadG1 hS42 (Cells.drop 0 (Cells.drop 2 (Cells.drop 1 hc11))) ti3 rfl rfl rfl <| WL.loadG1 hS42 (Cells.drop 5 (hc1.mono ((((((((((((((((((((hle2.trans hle3).trans hle4).trans hle5).trans hle6).trans hle7).trans hle9).trans hle10).trans hle11).trans hle12).trans hle13).trans hle14).trans hle15).trans hle18).trans hle19).trans hle20).trans hle21).trans hle22).trans hle23).trans hle24).trans hle25))) ti3 rfl rfl rfl ?_
        refine WL.eqlS x3.r.x.a t.last rfl rfl rfl (fun h19=>?_) (fun h19=>?_)
        ·refine WL.cR hb60 rfl rfl rfl (c_DeleteRow hS42.imm (uRun t.last at_ (snapH (insT t tx v p) at_ t.last) ((chgsH (insT t tx v p) t.last tx).take k2)) (fun x8=>decide (x8 = x3.v)) _ _ (hr7.mono hle25) (hS42.lentAt 0 rfl) 61 #[.pointer (some (⟨b7,0,none⟩ : Addr))] ⟨hb61,fun G8 w8 v8 x8 hle8 hG8 hon8 hA8=>by exact c_und2 hG8 x8 x3.v x3.r.d.a x3.r.d.b x3.r.x.a x3.r.x.b v8 hA8 v15 ((hs18.mono hle25).mono hle8) (⟨b7,0,none⟩ : Addr) (hc11.mono hle8)⟩) (fun w36 G26 r15 hres2 hpost7=>?_)
         have hle26:=hres2.le
         obtain ⟨o3,hr9,hf2⟩:=hpost7
         have hS44:=hS42.callRowO 0 rfl hres2 hf2
         refine WL.incr k2 (by have hreach : reach = 140737488355328:=rfl; omega) rfl rfl rfl ?_
         exact BK.mk' _ ⟨k2 + 1,r15,o3,G26,rfl,(hle24.trans (hle25.trans hle26)),hS44,(Row.cast hr9 (by (first | with_reducible exact (uRun_skip (by assumption) (by omega)).symm | with_reducible exact (uRun_del (by assumption) (by omega) (by omega) (by assumption)).symm | with_reducible exact (uRun_add (by assumption) (by omega) (by omega) (by assumption)).symm))),⟨rfl,rfl,rfl,rfl,rfl,rfl,(by dsimp only [upd]; rfl),rfl,trivial⟩,(by omega)⟩ (show (chgsH (insT t tx v p) t.last tx).length - (k2 + 1) < (chgsH (insT t tx v p) t.last tx).length - k2 by omega)
        refine WL.loadG1 hS42 (Cells.drop 0 hc11) ti36 rfl rfl rfl ?_
        refine WL.buildSlice _ [(0,[v15])] [v15] hS42 sl56 rfl rfl rfl (by show [(0,(v15 : Value).cells.toList)] = _; simp only [(hs18.mono hle25).cells1] <;> rfl) (fun z hz=>by match z,hz with | [z0],_=>rfl) (fun b8 w37 hn8 hS45=>?_)
        refine WL.push (m:=([x3.v] : List (List Val))) sl56 rfl rfl rfl (hr7.mono hle25) hS45 1 rfl 0 _ _ _ _ _ rfl ⟨[v15],_,rfl,⟨_,rfl,(hs18.mono hle25)⟩,rfl⟩ rfl (by have hreach : reach = 140737488355328:=rfl; simp only [List.length_append,List.length_map,List.length_cons,List.length_nil]; omega) (by have hreach : reach = 140737488355328:=rfl; simp only [List.length_append,List.length_map,List.length_cons,List.length_nil]; omega) rfl rfl rfl (fun v16 o4 w38 hr10 hS46=>?_)
        have hS47:=hS46.tail
        refine WL.incr k2 (by have hreach : reach = 140737488355328:=rfl; omega) rfl rfl rfl ?_
        exact BK.mk' _ ⟨k2 + 1,v16,o4,G25,rfl,(hle24.trans hle25),hS47,(Row.cast hr10 (by (first | with_reducible exact (uRun_skip (by assumption) (by omega)).symm | with_reducible exact (uRun_del (by assumption) (by omega) (by omega) (by assumption)).symm | with_reducible exact (uRun_add (by assumption) (by omega) (by omega) (by assumption)).symm))),⟨rfl,rfl,rfl,rfl,rfl,rfl,(by dsimp only [upd]; rfl),rfl,trivial⟩,(by omega)⟩ (show (chgsH (insT t tx v p) t.last tx).length - (k2 + 1) < (chgsH (insT t tx v p) t.last tx).length - k2 by omega)
       have hfin:=und_fin (at_:=at_) hI9 (by assumption) (by assumption) (by assumption) (show (chgsH (insT t tx v p) t.last tx).length ≤ k2 by omega)
       refine WL.cR hb57 rfl rfl rfl (c_SortVV hS39.imm (uRun t.last at_ (snapH (insT t tx v p) at_ t.last) ((chgsH (insT t tx v p) t.last tx).take k2)) _ _ hr7 (hS39.lentAt 0 rfl) hfin.2.1) (fun w39 G27 r16 hres3 hpost8=>?_)
       have hle27:=hres3.le
       obtain ⟨rfl,l1,o5,hr11,hf3,hq1⟩:=hpost8
       have hS49:=hS39.callRow 0 rfl hres3 hr7 hr11 hf3
       have qo17:=Row.freeze hr11 hS49 0 rfl
       obtain ⟨G28,hle28,hs19,hS50⟩:=qo17
       have hso:=sorted_snap hfin.2.2.1 hq1.1 hq1.2 hfin.1 hfin.2.1 hfin.2.2.2
       refine WL.loadGAt hS50 (hc4.mono ((((((((((((hle12.trans hle13).trans hle14).trans hle15).trans hle18).trans hle19).trans hle20).trans hle21).trans hle22).trans hle23).trans hle24).trans hle27).trans hle28)) [strV ((insT t tx v p).s.name),v4, .int .i64 ((insT t tx v p).s.key),v5,v6, .int .i64 ((insT t tx v p).last)] ti28 rfl rfl rfl rfl rfl ?_
       refine WL.cA hS50 hb31 rfl rfl rfl (c_Snapshot hS50.imm (insT t tx v p) at_ tx _ (TableE_mk (insT t tx v p) hb6 (hs5.mono (((((((((((((hle11.trans hle12).trans hle13).trans hle14).trans hle15).trans hle18).trans hle19).trans hle20).trans hle21).trans hle22).trans hle23).trans hle24).trans hle27).trans hle28)) hb7 (hs6.mono (((((((((((((hle11.trans hle12).trans hle13).trans hle14).trans hle15).trans hle18).trans hle19).trans hle20).trans hle21).trans hle22).trans hle23).trans hle24).trans hle27).trans hle28)) (hs7.mono (((((((((((((hle11.trans hle12).trans hle13).trans hle14).trans hle15).trans hle18).trans hle19).trans hle20).trans hle21).trans hle22).trans hle23).trans hle24).trans hle27).trans hle28)) hb8)) (fun w40 G29 r17 hpost9 hS51 hle29=>?_)
       refine WL.cV hS51 hb32 rfl rfl rfl (c_lsame hS51.imm l1 (snapH (insT t tx v p) at_ tx) _ (hs19.mono hle29) _ hpost9) (fun w41 G30 hS52 hle30=>?_)
       exact RB hS52 rfl (by first | with_reducible rfl | exact absurd hag.1 (by assumption) | exact absurd hag.2.1 (of_decide_eq_false (by assumption)) | exact absurd hag.2.2 (by assumption) | exact absurd (und_no (at_:=at_) hI9 (by assumption) (by assumption) (by assumption) (by assumption) (by assumption) (by assumption) (by assumption)) (of_decide_eq_false (by assumption)) | exact und_5 hI9 (by assumption) (by assumption) | exact decide_eq_true hso.symm)
      have h13 : (delE (k1 + 1) (insT t tx v p) (tx + 1) cg p) ≠ 0:=q1
      clear q1
      refine dr [(11,true),(17,false),(18,false),(19,false),(20,false)] [(127, .bool false)] hS33 ⟨fun _=>WL.cmpV .eql rfl .i64 (delE (k1 + 1) (insT t tx v p) (tx + 1) cg p) 0 _ hb24 rfl rfl rfl <| nu rfl rfl,trivial⟩ (fun w42 hS53=>?_)
      refine WL.no rfl rfl ?_
      refine ⟨hS53.down hS53.le (G20.le_refl),?_⟩
      refine WL.loadG1 hS53 (Cells.drop 5 (hc1.mono (((((((((((((((hle2.trans hle3).trans hle4).trans hle5).trans hle6).trans hle7).trans hle9).trans hle10).trans hle11).trans hle12).trans hle13).trans hle14).trans hle15).trans hle18).trans hle19).trans hle20))) ti3 rfl rfl rfl ?_
      refine WL.lssS t.last (-62135596800) rfl rfl rfl (fun h20=>?_) (fun h20=>?_)
      ·exact RB hS53 rfl (by first | with_reducible rfl | exact absurd hag.1 (by assumption) | exact absurd hag.2.1 (of_decide_eq_false (by assumption)) | exact absurd hag.2.2 (by assumption) | exact absurd (und_no (at_:=at_) hI9 (by assumption) (by assumption) (by assumption) (by assumption) (by assumption) (by assumption) (by assumption)) (of_decide_eq_false (by assumption)) | exact und_5 hI9 (by assumption) (by assumption) | exact decide_eq_true hso.symm)
      refine WL.loadGAt hS53 (hc4.mono ((((((hle12.trans hle13).trans hle14).trans hle15).trans hle18).trans hle19).trans hle20)) [strV ((insT t tx v p).s.name),v4, .int .i64 ((insT t tx v p).s.key),v5,v6, .int .i64 ((insT t tx v p).last)] ti28 rfl rfl rfl rfl rfl <| WL.loadG1 hS53 (Cells.drop 5 (hc1.mono (((((((((((((((hle2.trans hle3).trans hle4).trans hle5).trans hle6).trans hle7).trans hle9).trans hle10).trans hle11).trans hle12).trans hle13).trans hle14).trans hle15).trans hle18).trans hle19).trans hle20))) ti3 rfl rfl rfl ?_
      refine WL.cA hS53 hb47 rfl rfl rfl (c_hChanges hS53.imm (insT t tx v p) t.last tx _ (TableE_mk (insT t tx v p) hb6 (hs5.mono (((((((hle11.trans hle12).trans hle13).trans hle14).trans hle15).trans hle18).trans hle19).trans hle20)) hb7 (hs6.mono (((((((hle11.trans hle12).trans hle13).trans hle14).trans hle15).trans hle18).trans hle19).trans hle20)) (hs7.mono (((((((hle11.trans hle12).trans hle13).trans hle14).trans hle15).trans hle18).trans hle19).trans hle20)) hb8) (by assumption) htx64) ?_
      rintro w43 G31 _ ⟨r19,_,rfl,hs20,rfl⟩ hS54 hle31
      refine WL.neqS (chgsErr (insT t tx v p) t.last tx) 0 rfl rfl rfl (fun h21=>?_) (fun h21=>?_)
      ·refine WL.cmp .eql rfl .i64 (chgsErr (insT t tx v p) t.last tx) 5 rfl rfl rfl ?_
       exact RB hS54 rfl (by first | with_reducible rfl | exact absurd hag.1 (by assumption) | exact absurd hag.2.1 (of_decide_eq_false (by assumption)) | exact absurd hag.2.2 (by assumption) | exact absurd (und_no (at_:=at_) hI9 (by assumption) (by assumption) (by assumption) (by assumption) (by assumption) (by assumption) (by assumption)) (of_decide_eq_false (by assumption)) | exact und_5 hI9 (by assumption) (by assumption) | exact decide_eq_true hso.symm)
      have hsm:=und_small hI9 (by assumption) (by assumption)
      have hsn:=snapH_len (insT t tx v p) at_ t.last
      refine WL.loadGAt hS54 (hc4.mono (((((((hle12.trans hle13).trans hle14).trans hle15).trans hle18).trans hle19).trans hle20).trans hle31)) [strV ((insT t tx v p).s.name),v4, .int .i64 ((insT t tx v p).s.key),v5,v6, .int .i64 ((insT t tx v p).last)] ti28 rfl rfl rfl rfl rfl <| WL.loadG1 hS54 (Cells.drop 5 (hc1.mono ((((((((((((((((hle2.trans hle3).trans hle4).trans hle5).trans hle6).trans hle7).trans hle9).trans hle10).trans hle11).trans hle12).trans hle13).trans hle14).trans hle15).trans hle18).trans hle19).trans hle20).trans hle31))) ti3 rfl rfl rfl ?_
      refine WL.cA hS54 hb31 rfl rfl rfl (c_Snapshot hS54.imm (insT t tx v p) at_ t.last _ (TableE_mk (insT t tx v p) hb6 (hs5.mono ((((((((hle11.trans hle12).trans hle13).trans hle14).trans hle15).trans hle18).trans hle19).trans hle20).trans hle31)) hb7 (hs6.mono ((((((((hle11.trans hle12).trans hle13).trans hle14).trans hle15).trans hle18).trans hle19).trans hle20).trans hle31)) (hs7.mono ((((((((hle11.trans hle12).trans hle13).trans hle14).trans hle15).trans hle18).trans hle19).trans hle20).trans hle31)) hb8)) (fun w44 G32 r21 hpost11 hS55 hle32=>?_)
      refine WL.cR hb51 rfl rfl rfl (c_CloneLL hS55.imm (snapH (insT t tx v p) at_ t.last) _ hpost11) (fun w45 G33 r22 hres4 hpost12=>?_)
      have hS56:=hS55.call hres4
      have hle33:=hres4.le
      obtain ⟨o6,hr12,hf4⟩:=hpost12
      have hS57:=hS55.adoptO hres4 hf4
      have bd5:=hs20.bound
      refine WL.lenSl (hs20.mono (hle32.trans hle33)) ul26 rfl rfl ?_
      refine LP.go ft [] (fun m ρ1 w1=>∃ (k2 : Nat),∃ (v17 : Value) (o7 : OB),∃ (G34 : GH),m = (chgsH (insT t tx v p) t.last tx).length - k2 ∧ G33.le G34 ∧ St w [] G G34 [o7,some (b3,51,[.int .i64 cg.kind,strV cg.col,strV cg.oth, .int .i64 cg.v.k, .int .i64 cg.v.n,strV cg.v.s,vL])] w1 ∧ Row (ValE.slice 32) 24 36 G34 v17 (uRun t.last at_ (snapH (insT t tx v p) at_ t.last) ((chgsH (insT t tx v p) t.last tx).take k2)) o7 ∧ FR ρ1 [(1, .int .i64 tx),(4, .int .i64 at_),(5, .pointer (some p1)),(11, .pointer (some (⟨b1,0,none⟩ : Addr))),(23,v17),(168,r19),(169, .int .i64 (((chgsH (insT t tx v p) t.last tx).length : Nat) : Int)),(170, .int .i64 (k2 : Int))] ∧ k2 ≤ (chgsH (insT t tx v p) t.last tx).length) _ ⟨0,r22,o6,G33,rfl,(G33.le_refl),hS57,(Row.cast hr12 (by rfl)),⟨rfl,rfl,rfl,rfl,rfl,rfl,(by dsimp only [upd]; rfl),rfl,trivial⟩,(by omega)⟩ ?_
      rintro m ρ1 w46 ⟨k2,v17,o7,G34,rfl,hle34,hS58,hr13,hF9,f5⟩
      refine hF9.set ?_
      clear hF9
      have hul:=und_len (p:=t.last) (a:=at_) (s:=(snapH (insT t tx v p) at_ t.last)) (D:=(chgsH (insT t tx v p) t.last tx)) k2
      refine WL.lssS (k2 : Int) (((chgsH (insT t tx v p) t.last tx).length : Nat) : Int) rfl rfl rfl (fun h22=>?_) (fun h22=>?_)
      ·refine WL.indexAddr (hs20.mono ((hle32.trans hle33).trans hle34)) k2 (by omega) ul26 ti64 rfl rfl rfl rfl (fun p7 x4 hx4 he4=>?_)
       obtain ⟨cs7,hc12,hr14⟩:=he4
       have qo18:=HRowE_open hr14
       obtain ⟨v18,rfl,hs21,hb30,hb33,hb35,hb36⟩:=qo18
       refine WL.loadGAt hS58 hc12 [v18, .int .i64 x4.r.d.a, .int .i64 x4.r.d.b, .int .i64 x4.r.x.a, .int .i64 x4.r.x.b] ti64 rfl rfl rfl rfl rfl ?_
       refine WL.alloc hS58 ti64 rfl rfl (fun b9 w47 hn9 hS59=>?_)
       refine WL.store hS59 0 _ _ _ 0 _ [v18, .int .i64 x4.r.d.a, .int .i64 x4.r.d.b, .int .i64 x4.r.x.a, .int .i64 x4.r.x.b] [v18, .int .i64 x4.r.d.a, .int .i64 x4.r.d.b, .int .i64 x4.r.x.a, .int .i64 x4.r.x.b] _ rfl rfl ti64 rfl (Nat.le_of_ble_eq_true rfl) (by simp only [List.all_cons,List.all_nil,hs21.oneC,Bool.true_and] <;> rfl) rfl rfl rfl rfl rfl (fun w48 hS60=>?_)
       have qo19:=hS60.shutB hn9
       obtain ⟨G35,hle35,hc13,hS61⟩:=qo19
       refine WL.loadG1 hS61 (Cells.drop 0 (Cells.drop 0 (Cells.drop 1 hc13))) ti3 rfl rfl rfl ?_
       refine WL.lssS at_ x4.r.d.a rfl rfl rfl (fun h23=>?_) (fun h23=>?_)
       ·refine WL.incr k2 (by have hreach : reach = 140737488355328:=rfl; omega) rfl rfl rfl ?_
        exact BK.mk' _ ⟨k2 + 1,v17,o7,G35,rfl,(hle34.trans hle35),hS61,(Row.cast (hr13.mono hle35) (by (first | with_reducible exact (uRun_skip (by assumption) (by omega)).symm | with_reducible exact (uRun_del (by assumption) (by omega) (by omega) (by assumption)).symm | with_reducible exact (uRun_add (by assumption) (by omega) (by omega) (by assumption)).symm))),⟨rfl,rfl,rfl,rfl,rfl,rfl,(by dsimp only [upd]; rfl),rfl,trivial⟩,(by omega)⟩ (show (chgsH (insT t tx v p) t.last tx).length - (k2 + 1) < (chgsH (insT t tx v p) t.last tx).length - k2 by omega)
       refine WL.loadG1 hS61 (Cells.drop 1 (Cells.drop 0 (Cells.drop 1 hc13))) ti3 rfl rfl rfl ?_
       refine WL.geqS at_ x4.r.d.b rfl rfl rfl (fun h24=>?_) (fun h24=>?_)
       ·refine WL.incr k2 (by have hreach : reach = 140737488355328:=rfl; omega) rfl rfl rfl ?_
        exact BK.mk' _ ⟨k2 + 1,v17,o7,G35,rfl,(hle34.trans hle35),hS61,(Row.cast (hr13.mono hle35) (by (first | with_reducible exact (uRun_skip (by assumption) (by omega)).symm | with_reducible exact (uRun_del (by assumption) (by omega) (by omega) (by assumption)).symm | with_reducible exact (uRun_add (by assumption) (by omega) (by omega) (by assumption)).symm))),⟨rfl,rfl,rfl,rfl,rfl,rfl,(by dsimp only [upd]; rfl),rfl,trivial⟩,(by omega)⟩ (show (chgsH (insT t tx v p) t.last tx).length - (k2 + 1) < (chgsH (insT t tx v p) t.last tx).length - k2 by omega)
       refine WL.loadG1 hS61 (Cells.drop 0 (Cells.drop 2 (Cells.drop 1 hc13))) ti3 rfl rfl rfl <| WL.loadG1 hS61 (Cells.drop 5 (hc1.mono ((((((((((((((((((((hle2.trans hle3).trans hle4).trans hle5).trans hle6).trans hle7).trans hle9).trans hle10).trans hle11).trans hle12).trans hle13).trans hle14).trans hle15).trans hle18).trans hle19).trans hle20).trans hle31).trans hle32).trans hle33).trans hle34).trans hle35))) ti3 rfl rfl rfl ?_
       refine WL.eqlS x4.r.x.a t.last rfl rfl rfl (fun h25=>?_) (fun h25=>?_)
       ·refine WL.cR hb60 rfl rfl rfl (c_DeleteRow hS61.imm (uRun t.last at_ (snapH (insT t tx v p) at_ t.last) ((chgsH (insT t tx v p) t.last tx).take k2)) (fun x8=>decide (x8 = x4.v)) _ _ (hr13.mono hle35) (hS61.lentAt 0 rfl) 61 #[.pointer (some (⟨b9,0,none⟩ : Addr))] ⟨hb61,fun G8 w8 v8 x8 hle8 hG8 hon8 hA8=>by exact c_und2 hG8 x8 x4.v x4.r.d.a x4.r.d.b x4.r.x.a x4.r.x.b v8 hA8 v18 ((hs21.mono hle35).mono hle8) (⟨b9,0,none⟩ : Addr) (hc13.mono hle8)⟩) (fun w49 G36 r23 hres5 hpost13=>?_)
        have hle36:=hres5.le
        obtain ⟨o8,hr15,hf5⟩:=hpost13
        have hS63:=hS61.callRowO 0 rfl hres5 hf5
        refine WL.incr k2 (by have hreach : reach = 140737488355328:=rfl; omega) rfl rfl rfl ?_
        exact BK.mk' _ ⟨k2 + 1,r23,o8,G36,rfl,(hle34.trans (hle35.trans hle36)),hS63,(Row.cast hr15 (by (first | with_reducible exact (uRun_skip (by assumption) (by omega)).symm | with_reducible exact (uRun_del (by assumption) (by omega) (by omega) (by assumption)).symm | with_reducible exact (uRun_add (by assumption) (by omega) (by omega) (by assumption)).symm))),⟨rfl,rfl,rfl,rfl,rfl,rfl,(by dsimp only [upd]; rfl),rfl,trivial⟩,(by omega)⟩ (show (chgsH (insT t tx v p) t.last tx).length - (k2 + 1) < (chgsH (insT t tx v p) t.last tx).length - k2 by omega)
       refine WL.loadG1 hS61 (Cells.drop 0 hc13) ti36 rfl rfl rfl ?_
       refine WL.buildSlice _ [(0,[v18])] [v18] hS61 sl56 rfl rfl rfl (by show [(0,(v18 : Value).cells.toList)] = _; simp only [(hs21.mono hle35).cells1] <;> rfl) (fun z hz=>by match z,hz with | [z0],_=>rfl) (fun b10 w50 hn10 hS64=>?_)
       refine WL.push (m:=([x4.v] : List (List Val))) sl56 rfl rfl rfl (hr13.mono hle35) hS64 1 rfl 0 _ _ _ _ _ rfl ⟨[v18],_,rfl,⟨_,rfl,(hs21.mono hle35)⟩,rfl⟩ rfl (by have hreach : reach = 140737488355328:=rfl; simp only [List.length_append,List.length_map,List.length_cons,List.length_nil]; omega) (by have hreach : reach = 140737488355328:=rfl; simp only [List.length_append,List.length_map,List.length_cons,List.length_nil]; omega) rfl rfl rfl (fun v19 o9 w51 hr16 hS65=>?_)
       have hS66:=hS65.tail
       refine WL.incr k2 (by have hreach : reach = 140737488355328:=rfl; omega) rfl rfl rfl ?_
       exact BK.mk' _ ⟨k2 + 1,v19,o9,G35,rfl,(hle34.trans hle35),hS66,(Row.cast hr16 (by (first | with_reducible exact (uRun_skip (by assumption) (by omega)).symm | with_reducible exact (uRun_del (by assumption) (by omega) (by omega) (by assumption)).symm | with_reducible exact (uRun_add (by assumption) (by omega) (by omega) (by assumption)).symm))),⟨rfl,rfl,rfl,rfl,rfl,rfl,(by dsimp only [upd]; rfl),rfl,trivial⟩,(by omega)⟩ (show (chgsH (insT t tx v p) t.last tx).length - (k2 + 1) < (chgsH (insT t tx v p) t.last tx).length - k2 by omega)
      have hfin:=und_fin (at_:=at_) hI9 (by assumption) (by assumption) (by assumption) (show (chgsH (insT t tx v p) t.last tx).length ≤ k2 by omega)
      refine WL.cR hb57 rfl rfl rfl (c_SortVV hS58.imm (uRun t.last at_ (snapH (insT t tx v p) at_ t.last) ((chgsH (insT t tx v p) t.last tx).take k2)) _ _ hr13 (hS58.lentAt 0 rfl) hfin.2.1) (fun w52 G37 r24 hres6 hpost14=>?_)
      have hle37:=hres6.le
      obtain ⟨rfl,l2,o10,hr17,hf6,hq2⟩:=hpost14
      have hS68:=hS58.callRow 0 rfl hres6 hr13 hr17 hf6
      have qo20:=Row.freeze hr17 hS68 0 rfl
      obtain ⟨G38,hle38,hs22,hS69⟩:=qo20
      have hso:=sorted_snap hfin.2.2.1 hq2.1 hq2.2 hfin.1 hfin.2.1 hfin.2.2.2
      refine WL.loadGAt hS69 (hc4.mono ((((((((((((hle12.trans hle13).trans hle14).trans hle15).trans hle18).trans hle19).trans hle20).trans hle31).trans hle32).trans hle33).trans hle34).trans hle37).trans hle38)) [strV ((insT t tx v p).s.name),v4, .int .i64 ((insT t tx v p).s.key),v5,v6, .int .i64 ((insT t tx v p).last)] ti28 rfl rfl rfl rfl rfl ?_
      refine WL.cA hS69 hb31 rfl rfl rfl (c_Snapshot hS69.imm (insT t tx v p) at_ tx _ (TableE_mk (insT t tx v p) hb6 (hs5.mono (((((((((((((hle11.trans hle12).trans hle13).trans hle14).trans hle15).trans hle18).trans hle19).trans hle20).trans hle31).trans hle32).trans hle33).trans hle34).trans hle37).trans hle38)) hb7 (hs6.mono (((((((((((((hle11.trans hle12).trans hle13).trans hle14).trans hle15).trans hle18).trans hle19).trans hle20).trans hle31).trans hle32).trans hle33).trans hle34).trans hle37).trans hle38)) (hs7.mono (((((((((((((hle11.trans hle12).trans hle13).trans hle14).trans hle15).trans hle18).trans hle19).trans hle20).trans hle31).trans hle32).trans hle33).trans hle34).trans hle37).trans hle38)) hb8)) (fun w53 G39 r25 hpost15 hS70 hle39=>?_)
      refine WL.cV hS70 hb32 rfl rfl rfl (c_lsame hS70.imm l2 (snapH (insT t tx v p) at_ tx) _ (hs22.mono hle39) _ hpost15) (fun w54 G40 hS71 hle40=>?_)
      exact RB hS71 rfl (by first | with_reducible rfl | exact absurd hag.1 (by assumption) | exact absurd hag.2.1 (of_decide_eq_false (by assumption)) | exact absurd hag.2.2 (by assumption) | exact absurd (und_no (at_:=at_) hI9 (by assumption) (by assumption) (by assumption) (by assumption) (by assumption) (by assumption) (by assumption)) (of_decide_eq_false (by assumption)) | exact und_5 hI9 (by assumption) (by assumption) | exact decide_eq_true hso.symm)
     refine WL.loadGAt hS29 (hc4.mono ((((hle12.trans hle13).trans hle14).trans hle15).trans hle18)) [strV ((insT t tx v p).s.name),v4, .int .i64 ((insT t tx v p).s.key),v5,v6, .int .i64 ((insT t tx v p).last)] ti28 rfl rfl rfl rfl rfl ?_
     have hi5 : I64 (tx + 1):=by have hbi:=instB_parts (by assumption : instB tx = true); have:=htx64.1; have:=htx64.2; constructor <;> omega
     refine WL.ar .add rfl tx 1 rfl rfl rfl hi5 <| WL.loadOA hS29 0 _ _ _ 0 [.int .i64 cg.kind,strV cg.col,strV cg.oth, .int .i64 cg.v.k, .int .i64 cg.v.n,strV cg.v.s,vL] rfl rfl rfl ti51 rfl rfl rfl <| WL.loadGAt hS29 (hc3.mono (((((((((((hle4.trans hle5).trans hle6).trans hle7).trans hle9).trans hle10).trans hle11).trans hle12).trans hle13).trans hle14).trans hle15).trans hle18)) [.int .i64 p.a, .int .i64 p.b] ti38 rfl rfl rfl rfl rfl ?_
     refine WL.cA hS29 hb27 rfl rfl rfl (c_hDelete hS29.imm (k1 + 1) (insT t tx v p) (tx + 1) cg p _ (TableE_mk (insT t tx v p) hb6 (hs5.mono (((((hle11.trans hle12).trans hle13).trans hle14).trans hle15).trans hle18)) hb7 (hs6.mono (((((hle11.trans hle12).trans hle13).trans hle14).trans hle15).trans hle18)) (hs7.mono (((((hle11.trans hle12).trans hle13).trans hle14).trans hle15).trans hle18)) hb8) _ ((CondE _).mono hle18 f3) _ (SpanE_mk p hb4 hb5) (by assumption)) ?_
     rintro w55 G41 _ ⟨r27,_,rfl,hs23,rfl⟩ hS72 hle41
     obtain ⟨cs8,rfl,hr18⟩:=hs23
     have qo21:=TableE_open hr18
     obtain ⟨v20,v21,v22,rfl,hb37,hs24,hb39,hs25,hs26,hb40⟩:=qo21
     refine WL.alloc hS72 ti28 rfl rfl (fun b11 w56 hn11 hS73=>?_)
     refine WL.store hS73 0 _ _ _ 0 _ [strV ((delT (k1 + 1) (insT t tx v p) (tx + 1) cg p).s.name),v20, .int .i64 ((delT (k1 + 1) (insT t tx v p) (tx + 1) cg p).s.key),v21,v22, .int .i64 ((delT (k1 + 1) (insT t tx v p) (tx + 1) cg p).last)] [strV ((delT (k1 + 1) (insT t tx v p) (tx + 1) cg p).s.name),v20, .int .i64 ((delT (k1 + 1) (insT t tx v p) (tx + 1) cg p).s.key),v21,v22, .int .i64 ((delT (k1 + 1) (insT t tx v p) (tx + 1) cg p).last)] _ rfl rfl ti28 rfl (Nat.le_of_ble_eq_true rfl) (by simp only [List.all_cons,List.all_nil,hs24.oneC,hs25.oneC,hs26.oneC,Bool.true_and] <;> rfl) rfl rfl rfl rfl rfl (fun w57 hS74=>?_)
     have qo22:=hS74.shutB hn11
     obtain ⟨G42,hle42,hc14,hS75⟩:=qo22
     rcases Cmp.dec .eql (delE (k1 + 1) (insT t tx v p) (tx + 1) cg p) 0 with ⟨hb41,q2⟩ | ⟨hb41,q2⟩
     ·have h26 : (delE (k1 + 1) (insT t tx v p) (tx + 1) cg p) = 0:=q2
      clear q2
      have hi6 : I64 (tx + 1):=by have hbi:=instB_parts (by assumption : instB tx = true); have:=htx64.1; have:=htx64.2; constructor <;> omega
      refine dr [(11,true),(17,false),(18,false),(19,false),(20,false)] [(127, .bool true),(133, .agg #[strV ((delT (k1 + 1) (insT t tx v p) (tx + 1) cg p).s.name),v20, .int .i64 ((delT (k1 + 1) (insT t tx v p) (tx + 1) cg p).s.key),v21,v22, .int .i64 ((delT (k1 + 1) (insT t tx v p) (tx + 1) cg p).last)]),(136, .int .i64 (tx + 1)),(138, .agg #[strV t.s.name,v1, .int .i64 t.s.key,v2,v3, .int .i64 t.last]),(141, .int .i64 t.last),(142, .int .i64 (max t.last (-62135596800)))] hS75 ⟨fun _=>WL.cmpV .eql rfl .i64 (delE (k1 + 1) (insT t tx v p) (tx + 1) cg p) 0 _ hb41 rfl rfl rfl <| nu rfl rfl,fun _ hSw=>WL.loadGAt hSw hc14 [strV ((delT (k1 + 1) (insT t tx v p) (tx + 1) cg p).s.name),v20, .int .i64 ((delT (k1 + 1) (insT t tx v p) (tx + 1) cg p).s.key),v21,v22, .int .i64 ((delT (k1 + 1) (insT t tx v p) (tx + 1) cg p).last)] ti28 rfl rfl rfl rfl rfl <| nu rfl rfl,fun _=>WL.ar .add rfl tx 1 rfl rfl rfl hi6 <| nu rfl rfl,fun _ hSw=>WL.loadGAt hSw (hc1.mono (((((((((((((((hle2.trans hle3).trans hle4).trans hle5).trans hle6).trans hle7).trans hle9).trans hle10).trans hle11).trans hle12).trans hle13).trans hle14).trans hle15).trans hle18).trans hle41).trans hle42)) [strV t.s.name,v1, .int .i64 t.s.key,v2,v3, .int .i64 t.last] ti28 rfl rfl rfl rfl rfl <| nu rfl rfl,fun _ hSw=>WL.loadG1 hSw (Cells.drop 5 (hc1.mono (((((((((((((((hle2.trans hle3).trans hle4).trans hle5).trans hle6).trans hle7).trans hle9).trans hle10).trans hle11).trans hle12).trans hle13).trans hle14).trans hle15).trans hle18).trans hle41).trans hle42))) ti3 rfl rfl rfl <| nu rfl rfl,fun _=>WL.maxI t.last (-62135596800) rfl rfl rfl <| nu rfl rfl,trivial⟩ (fun w58 hS76=>?_)
      refine WL.cA hS76 hb31 rfl rfl rfl (c_Snapshot hS76.imm (delT (k1 + 1) (insT t tx v p) (tx + 1) cg p) at_ (tx + 1) _ (TableE_mk (delT (k1 + 1) (insT t tx v p) (tx + 1) cg p) hb37 (hs24.mono hle42) hb39 (hs25.mono hle42) (hs26.mono hle42) hb40)) (fun w59 G43 r29 hpost17 hS77 hle43=>?_)
      refine ⟨hS77.down hS76.le hle43,?_⟩
      refine WL.cA hS77 hb31 rfl rfl rfl (c_Snapshot hS77.imm t at_ (max t.last (-62135596800)) _ (TableE_mk t hb1 (hs1.mono (((((((((((((((((hle1.trans hle2).trans hle3).trans hle4).trans hle5).trans hle6).trans hle7).trans hle9).trans hle10).trans hle11).trans hle12).trans hle13).trans hle14).trans hle15).trans hle18).trans hle41).trans hle42).trans hle43)) hb2 (hs2.mono (((((((((((((((((hle1.trans hle2).trans hle3).trans hle4).trans hle5).trans hle6).trans hle7).trans hle9).trans hle10).trans hle11).trans hle12).trans hle13).trans hle14).trans hle15).trans hle18).trans hle41).trans hle42).trans hle43)) (hs3.mono (((((((((((((((((hle1.trans hle2).trans hle3).trans hle4).trans hle5).trans hle6).trans hle7).trans hle9).trans hle10).trans hle11).trans hle12).trans hle13).trans hle14).trans hle15).trans hle18).trans hle41).trans hle42).trans hle43)) hb3)) (fun w60 G44 r30 hpost18 hS78 hle44=>?_)
      refine WL.cV hS78 hb32 rfl rfl rfl (c_lsame hS78.imm (snapH (delT (k1 + 1) (insT t tx v p) (tx + 1) cg p) at_ (tx + 1)) (snapH t at_ (max t.last (-62135596800))) _ (hpost17.mono hle44) _ hpost18) (fun w61 G45 hS79 hle45=>?_)
      refine WL.split (fun (h27 : (decide ((snapH (delT (k1 + 1) (insT t tx v p) (tx + 1) cg p) at_ (tx + 1)) = (snapH t at_ (max t.last (-62135596800))))) = true)=>?_) (fun (h27 : (decide ((snapH (delT (k1 + 1) (insT t tx v p) (tx + 1) cg p) at_ (tx + 1)) = (snapH t at_ (max t.last (-62135596800))))) = false)=>?_)
      ·refine WL.loadG1 hS79 (Cells.drop 5 (hc1.mono ((((((((((((((((((hle2.trans hle3).trans hle4).trans hle5).trans hle6).trans hle7).trans hle9).trans hle10).trans hle11).trans hle12).trans hle13).trans hle14).trans hle15).trans hle18).trans hle41).trans hle42).trans hle43).trans hle44).trans hle45))) ti3 rfl rfl rfl ?_
       refine WL.lssS t.last (-62135596800) rfl rfl rfl (fun h28=>?_) (fun h28=>?_)
       ·exact RB hS79 rfl (by first | with_reducible rfl | exact absurd hag.1 (by assumption) | exact absurd hag.2.1 (of_decide_eq_false (by assumption)) | exact absurd hag.2.2 (by assumption) | exact absurd (und_no (at_:=at_) hI9 (by assumption) (by assumption) (by assumption) (by assumption) (by assumption) (by assumption) (by assumption)) (of_decide_eq_false (by assumption)) | exact und_5 hI9 (by assumption) (by assumption) | exact decide_eq_true hso.symm)
       refine WL.loadGAt hS79 (hc4.mono (((((((((hle12.trans hle13).trans hle14).trans hle15).trans hle18).trans hle41).trans hle42).trans hle43).trans hle44).trans hle45)) [strV ((insT t tx v p).s.name),v4, .int .i64 ((insT t tx v p).s.key),v5,v6, .int .i64 ((insT t tx v p).last)] ti28 rfl rfl rfl rfl rfl <| WL.loadG1 hS79 (Cells.drop 5 (hc1.mono ((((((((((((((((((hle2.trans hle3).trans hle4).trans hle5).trans hle6).trans hle7).trans hle9).trans hle10).trans hle11).trans hle12).trans hle13).trans hle14).trans hle15).trans hle18).trans hle41).trans hle42).trans hle43).trans hle44).trans hle45))) ti3 rfl rfl rfl ?_
       refine WL.cA hS79 hb47 rfl rfl rfl (c_hChanges hS79.imm (insT t tx v p) t.last tx _ (TableE_mk (insT t tx v p) hb6 (hs5.mono ((((((((((hle11.trans hle12).trans hle13).trans hle14).trans hle15).trans hle18).trans hle41).trans hle42).trans hle43).trans hle44).trans hle45)) hb7 (hs6.mono ((((((((((hle11.trans hle12).trans hle13).trans hle14).trans hle15).trans hle18).trans hle41).trans hle42).trans hle43).trans hle44).trans hle45)) (hs7.mono ((((((((((hle11.trans hle12).trans hle13).trans hle14).trans hle15).trans hle18).trans hle41).trans hle42).trans hle43).trans hle44).trans hle45)) hb8) (by assumption) htx64) ?_
       rintro w62 G46 _ ⟨r32,_,rfl,hs27,rfl⟩ hS80 hle46
       refine WL.neqS (chgsErr (insT t tx v p) t.last tx) 0 rfl rfl rfl (fun h29=>?_) (fun h29=>?_)
       ·refine WL.cmp .eql rfl .i64 (chgsErr (insT t tx v p) t.last tx) 5 rfl rfl rfl ?_
        exact RB hS80 rfl (by first | with_reducible rfl | exact absurd hag.1 (by assumption) | exact absurd hag.2.1 (of_decide_eq_false (by assumption)) | exact absurd hag.2.2 (by assumption) | exact absurd (und_no (at_:=at_) hI9 (by assumption) (by assumption) (by assumption) (by assumption) (by assumption) (by assumption) (by assumption)) (of_decide_eq_false (by assumption)) | exact und_5 hI9 (by assumption) (by assumption) | exact decide_eq_true hso.symm)
       have hsm:=und_small hI9 (by assumption) (by assumption)
       have hsn:=snapH_len (insT t tx v p) at_ t.last
       refine WL.loadGAt hS80 (hc4.mono ((((((((((hle12.trans hle13).trans hle14).trans hle15).trans hle18).trans hle41).trans hle42).trans hle43).trans hle44).trans hle45).trans hle46)) [strV ((insT t tx v p).s.name),v4, .int .i64 ((insT t tx v p).s.key),v5,v6, .int .i64 ((insT t tx v p).last)] ti28 rfl rfl rfl rfl rfl <| WL.loadG1 hS80 (Cells.drop 5 (hc1.mono (((((((((((((((((((hle2.trans hle3).trans hle4).trans hle5).trans hle6).trans hle7).trans hle9).trans hle10).trans hle11).trans hle12).trans hle13).trans hle14).trans hle15).trans hle18).trans hle41).trans hle42).trans hle43).trans hle44).trans hle45).trans hle46))) ti3 rfl rfl rfl ?_
       refine WL.cA hS80 hb31 rfl rfl rfl (c_Snapshot hS80.imm (insT t tx v p) at_ t.last _ (TableE_mk (insT t tx v p) hb6 (hs5.mono (((((((((((hle11.trans hle12).trans hle13).trans hle14).trans hle15).trans hle18).trans hle41).trans hle42).trans hle43).trans hle44).trans hle45).trans hle46)) hb7 (hs6.mono (((((((((((hle11.trans hle12).trans hle13).trans hle14).trans hle15).trans hle18).trans hle41).trans hle42).trans hle43).trans hle44).trans hle45).trans hle46)) (hs7.mono (((((((((((hle11.trans hle12).trans hle13).trans hle14).trans hle15).trans hle18).trans hle41).trans hle42).trans hle43).trans hle44).trans hle45).trans hle46)) hb8)) (fun w63 G47 r34 hpost20 hS81 hle47=>?_)
       refine WL.cR hb51 rfl rfl rfl (c_CloneLL hS81.imm (snapH (insT t tx v p) at_ t.last) _ hpost20) (fun w64 G48 r35 hres7 hpost21=>?_)
       have hS82:=hS81.call hres7
       have hle48:=hres7.le
       obtain ⟨o11,hr19,hf7⟩:=hpost21
       have hS83:=hS81.adoptO hres7 hf7
       have bd6:=hs27.bound
       refine WL.lenSl (hs27.mono (hle47.trans hle48)) ul26 rfl rfl ?_
       refine LP.go ft [] (fun m ρ1 w1=>∃ (k2 : Nat),∃ (v23 : Value) (o12 : OB),∃ (G49 : GH),m = (chgsH (insT t tx v p) t.last tx).length - k2 ∧ G48.le G49 ∧ St w [] G G49 [o12,some (b3,51,[.int .i64 cg.kind,strV cg.col,strV cg.oth, .int .i64 cg.v.k, .int .i64 cg.v.n,strV cg.v.s,vL])] w1 ∧ Row (ValE.slice 32) 24 36 G49 v23 (uRun t.last at_ (snapH (insT t tx v p) at_ t.last) ((chgsH (insT t tx v p) t.last tx).take k2)) o12 ∧ FR ρ1 [(1, .int .i64 tx),(4, .int .i64 at_),(5, .pointer (some p1)),(11, .pointer (some (⟨b1,0,none⟩ : Addr))),(23,v23),(168,r32),(169, .int .i64 (((chgsH (insT t tx v p) t.last tx).length : Nat) : Int)),(170, .int .i64 (k2 : Int))] ∧ k2 ≤ (chgsH (insT t tx v p) t.last tx).length) _ ⟨0,r35,o11,G48,rfl,(G48.le_refl),hS83,(Row.cast hr19 (by rfl)),⟨rfl,rfl,rfl,rfl,rfl,rfl,(by dsimp only [upd]; rfl),rfl,trivial⟩,(by omega)⟩ ?_
       rintro m ρ1 w65 ⟨k2,v23,o12,G49,rfl,hle49,hS84,hr20,hF9,f6⟩
       refine hF9.set ?_
       clear hF9
       have hul:=und_len (p:=t.last) (a:=at_) (s:=(snapH (insT t tx v p) at_ t.last)) (D:=(chgsH (insT t tx v p) t.last tx)) k2
       refine WL.lssS (k2 : Int) (((chgsH (insT t tx v p) t.last tx).length : Nat) : Int) rfl rfl rfl (fun h30=>?_) (fun h30=>?_)
       ·refine WL.indexAddr (hs27.mono ((hle47.trans hle48).trans hle49)) k2 (by omega) ul26 ti64 rfl rfl rfl rfl (fun p8 x5 hx5 he5=>?_)
        obtain ⟨cs9,hc15,hr21⟩:=he5
        have qo23:=HRowE_open hr21
        obtain ⟨v24,rfl,hs28,hb42,hb43,hb44,hb45⟩:=qo23
        refine WL.loadGAt hS84 hc15 [v24, .int .i64 x5.r.d.a, .int .i64 x5.r.d.b, .int .i64 x5.r.x.a, .int .i64 x5.r.x.b] ti64 rfl rfl rfl rfl rfl ?_
        refine WL.alloc hS84 ti64 rfl rfl (fun b12 w66 hn12 hS85=>?_)
        refine WL.store hS85 0 _ _ _ 0 _ [v24, .int .i64 x5.r.d.a, .int .i64 x5.r.d.b, .int .i64 x5.r.x.a, .int .i64 x5.r.x.b] [v24, .int .i64 x5.r.d.a, .int .i64 x5.r.d.b, .int .i64 x5.r.x.a, .int .i64 x5.r.x.b] _ rfl rfl ti64 rfl (Nat.le_of_ble_eq_true rfl) (by simp only [List.all_cons,List.all_nil,hs28.oneC,Bool.true_and] <;> rfl) rfl rfl rfl rfl rfl (fun w67 hS86=>?_)
        have qo24:=hS86.shutB hn12
        obtain ⟨G50,hle50,hc16,hS87⟩:=qo24
        refine WL.loadG1 hS87 (Cells.drop 0 (Cells.drop 0 (Cells.drop 1 hc16))) ti3 rfl rfl rfl ?_
        refine WL.lssS at_ x5.r.d.a rfl rfl rfl (fun h31=>?_) (fun h31=>?_)
        ·refine WL.incr k2 (by have hreach : reach = 140737488355328:=rfl; omega) rfl rfl rfl ?_
         exact BK.mk' _ ⟨k2 + 1,v23,o12,G50,rfl,(hle49.trans hle50),hS87,(Row.cast (hr20.mono hle50) (by (first | with_reducible exact (uRun_skip (by assumption) (by omega)).symm | with_reducible exact (uRun_del (by assumption) (by omega) (by omega) (by assumption)).symm | with_reducible exact (uRun_add (by assumption) (by omega) (by omega) (by assumption)).symm))),⟨rfl,rfl,rfl,rfl,rfl,rfl,(by dsimp only [upd]; rfl),rfl,trivial⟩,(by omega)⟩ (show (chgsH (insT t tx v p) t.last tx).length - (k2 + 1) < (chgsH (insT t tx v p) t.last tx).length - k2 by omega)
        refine WL.loadG1 hS87 (Cells.drop 1 (Cells.drop 0 (Cells.drop 1 hc16))) ti3 rfl rfl rfl ?_
        refine WL.geqS at_ x5.r.d.b rfl rfl rfl (fun h32=>?_) (fun h32=>?_)
        ·refine WL.incr k2 (by have hreach : reach = 140737488355328:=rfl; omega) rfl rfl rfl ?_
         exact BK.mk' _ ⟨k2 + 1,v23,o12,G50,rfl,(hle49.trans hle50),hS87,(Row.cast (hr20.mono hle50) (by (first | with_reducible exact (uRun_skip (by assumption) (by omega)).symm | with_reducible exact (uRun_del (by assumption) (by omega) (by omega) (by assumption)).symm | with_reducible exact (uRun_add (by assumption) (by omega) (by omega) (by assumption)).symm))),⟨rfl,rfl,rfl,rfl,rfl,rfl,(by dsimp only [upd]; rfl),rfl,trivial⟩,(by omega)⟩ (show (chgsH (insT t tx v p) t.last tx).length - (k2 + 1) < (chgsH (insT t tx v p) t.last tx).length - k2 by omega)
        refine WL.loadG1 hS87 (Cells.drop 0 (Cells.drop 2 (Cells.drop 1 hc16))) ti3 rfl rfl rfl <| WL.loadG1 hS87 (Cells.drop 5 (hc1.mono (((((((((((((((((((((((hle2.trans hle3).trans hle4).trans hle5).trans hle6).trans hle7).trans hle9).trans hle10).trans hle11).trans hle12).trans hle13).trans hle14).trans hle15).trans hle18).trans hle41).trans hle42).trans hle43).trans hle44).trans hle45).trans hle46).trans hle47).trans hle48).trans hle49).trans hle50))) ti3 rfl rfl rfl ?_
        refine WL.eqlS x5.r.x.a t.last rfl rfl rfl (fun h33=>?_) (fun h33=>?_)
        ·refine WL.cR hb60 rfl rfl rfl (c_DeleteRow hS87.imm (uRun t.last at_ (snapH (insT t tx v p) at_ t.last) ((chgsH (insT t tx v p) t.last tx).take k2)) (fun x8=>decide (x8 = x5.v)) _ _ (hr20.mono hle50) (hS87.lentAt 0 rfl) 61 #[.pointer (some (⟨b12,0,none⟩ : Addr))] ⟨hb61,fun G8 w8 v8 x8 hle8 hG8 hon8 hA8=>by exact c_und2 hG8 x8 x5.v x5.r.d.a x5.r.d.b x5.r.x.a x5.r.x.b v8 hA8 v24 ((hs28.mono hle50).mono hle8) (⟨b12,0,none⟩ : Addr) (hc16.mono hle8)⟩) (fun w68 G51 r36 hres8 hpost22=>?_)
         have hle51:=hres8.le
         obtain ⟨o13,hr22,hf8⟩:=hpost22
         have hS89:=hS87.callRowO 0 rfl hres8 hf8
         refine WL.incr k2 (by have hreach : reach = 140737488355328:=rfl; omega) rfl rfl rfl ?_
         exact BK.mk' _ ⟨k2 + 1,r36,o13,G51,rfl,(hle49.trans (hle50.trans hle51)),hS89,(Row.cast hr22 (by (first | with_reducible exact (uRun_skip (by assumption) (by omega)).symm | with_reducible exact (uRun_del (by assumption) (by omega) (by omega) (by assumption)).symm | with_reducible exact (uRun_add (by assumption) (by omega) (by omega) (by assumption)).symm))),⟨rfl,rfl,rfl,rfl,rfl,rfl,(by dsimp only [upd]; rfl),rfl,trivial⟩,(by omega)⟩ (show (chgsH (insT t tx v p) t.last tx).length - (k2 + 1) < (chgsH (insT t tx v p) t.last tx).length - k2 by omega)
        refine WL.loadG1 hS87 (Cells.drop 0 hc16) ti36 rfl rfl rfl ?_
        refine WL.buildSlice _ [(0,[v24])] [v24] hS87 sl56 rfl rfl rfl (by show [(0,(v24 : Value).cells.toList)] = _; simp only [(hs28.mono hle50).cells1] <;> rfl) (fun z hz=>by match z,hz with | [z0],_=>rfl) (fun b13 w69 hn13 hS90=>?_)
        refine WL.push (m:=([x5.v] : List (List Val))) sl56 rfl rfl rfl (hr20.mono hle50) hS90 1 rfl 0 _ _ _ _ _ rfl ⟨[v24],_,rfl,⟨_,rfl,(hs28.mono hle50)⟩,rfl⟩ rfl (by have hreach : reach = 140737488355328:=rfl; simp only [List.length_append,List.length_map,List.length_cons,List.length_nil]; omega) (by have hreach : reach = 140737488355328:=rfl; simp only [List.length_append,List.length_map,List.length_cons,List.length_nil]; omega) rfl rfl rfl (fun v25 o14 w70 hr23 hS91=>?_)
        have hS92:=hS91.tail
        refine WL.incr k2 (by have hreach : reach = 140737488355328:=rfl; omega) rfl rfl rfl ?_
        exact BK.mk' _ ⟨k2 + 1,v25,o14,G50,rfl,(hle49.trans hle50),hS92,(Row.cast hr23 (by (first | with_reducible exact (uRun_skip (by assumption) (by omega)).symm | with_reducible exact (uRun_del (by assumption) (by omega) (by omega) (by assumption)).symm | with_reducible exact (uRun_add (by assumption) (by omega) (by omega) (by assumption)).symm))),⟨rfl,rfl,rfl,rfl,rfl,rfl,(by dsimp only [upd]; rfl),rfl,trivial⟩,(by omega)⟩ (show (chgsH (insT t tx v p) t.last tx).length - (k2 + 1) < (chgsH (insT t tx v p) t.last tx).length - k2 by omega)
       have hfin:=und_fin (at_:=at_) hI9 (by assumption) (by assumption) (by assumption) (show (chgsH (insT t tx v p) t.last tx).length ≤ k2 by omega)
       refine WL.cR hb57 rfl rfl rfl (c_SortVV hS84.imm (uRun t.last at_ (snapH (insT t tx v p) at_ t.last) ((chgsH (insT t tx v p) t.last tx).take k2)) _ _ hr20 (hS84.lentAt 0 rfl) hfin.2.1) (fun w71 G52 r37 hres9 hpost23=>?_)
       have hle52:=hres9.le
       obtain ⟨rfl,l3,o15,hr24,hf9,hq3⟩:=hpost23
       have hS94:=hS84.callRow 0 rfl hres9 hr20 hr24 hf9
       have qo25:=Row.freeze hr24 hS94 0 rfl
       obtain ⟨G53,hle53,hs29,hS95⟩:=qo25
       have hso:=sorted_snap hfin.2.2.1 hq3.1 hq3.2 hfin.1 hfin.2.1 hfin.2.2.2
       refine WL.loadGAt hS95 (hc4.mono (((((((((((((((hle12.trans hle13).trans hle14).trans hle15).trans hle18).trans hle41).trans hle42).trans hle43).trans hle44).trans hle45).trans hle46).trans hle47).trans hle48).trans hle49).trans hle52).trans hle53)) [strV ((insT t tx v p).s.name),v4, .int .i64 ((insT t tx v p).s.key),v5,v6, .int .i64 ((insT t tx v p).last)] ti28 rfl rfl rfl rfl rfl ?_
       refine WL.cA hS95 hb31 rfl rfl rfl (c_Snapshot hS95.imm (insT t tx v p) at_ tx _ (TableE_mk (insT t tx v p) hb6 (hs5.mono ((((((((((((((((hle11.trans hle12).trans hle13).trans hle14).trans hle15).trans hle18).trans hle41).trans hle42).trans hle43).trans hle44).trans hle45).trans hle46).trans hle47).trans hle48).trans hle49).trans hle52).trans hle53)) hb7 (hs6.mono ((((((((((((((((hle11.trans hle12).trans hle13).trans hle14).trans hle15).trans hle18).trans hle41).trans hle42).trans hle43).trans hle44).trans hle45).trans hle46).trans hle47).trans hle48).trans hle49).trans hle52).trans hle53)) (hs7.mono ((((((((((((((((hle11.trans hle12).trans hle13).trans hle14).trans hle15).trans hle18).trans hle41).trans hle42).trans hle43).trans hle44).trans hle45).trans hle46).trans hle47).trans hle48).trans hle49).trans hle52).trans hle53)) hb8)) (fun w72 G54 r38 hpost24 hS96 hle54=>?_)
       refine WL.cV hS96 hb32 rfl rfl rfl (c_lsame hS96.imm l3 (snapH (insT t tx v p) at_ tx) _ (hs29.mono hle54) _ hpost24) (fun w73 G55 hS97 hle55=>?_)
       exact RB hS97 rfl (by first | with_reducible rfl | exact absurd hag.1 (by assumption) | exact absurd hag.2.1 (of_decide_eq_false (by assumption)) | exact absurd hag.2.2 (by assumption) | exact absurd (und_no (at_:=at_) hI9 (by assumption) (by assumption) (by assumption) (by assumption) (by assumption) (by assumption) (by assumption)) (of_decide_eq_false (by assumption)) | exact und_5 hI9 (by assumption) (by assumption) | exact decide_eq_true hso.symm)
      exact RB hS79 rfl (by first | with_reducible rfl | exact absurd hag.1 (by assumption) | exact absurd hag.2.1 (of_decide_eq_false (by assumption)) | exact absurd hag.2.2 (by assumption) | exact absurd (und_no (at_:=at_) hI9 (by assumption) (by assumption) (by assumption) (by assumption) (by assumption) (by assumption) (by assumption)) (of_decide_eq_false (by assumption)) | exact und_5 hI9 (by assumption) (by assumption) | exact decide_eq_true hso.symm)
     have h26 : (delE (k1 + 1) (insT t tx v p) (tx + 1) cg p) ≠ 0:=q2
     clear q2
     refine dr [(11,true),(17,false),(18,false),(19,false),(20,false)] [(127, .bool false)] hS75 ⟨fun _=>WL.cmpV .eql rfl .i64 (delE (k1 + 1) (insT t tx v p) (tx + 1) cg p) 0 _ hb41 rfl rfl rfl <| nu rfl rfl,trivial⟩ (fun w74 hS98=>?_)
     refine WL.no rfl rfl ?_
     refine ⟨hS98.down hS98.le (G42.le_refl),?_⟩
     refine WL.loadG1 hS98 (Cells.drop 5 (hc1.mono (((((((((((((((hle2.trans hle3).trans hle4).trans hle5).trans hle6).trans hle7).trans hle9).trans hle10).trans hle11).trans hle12).trans hle13).trans hle14).trans hle15).trans hle18).trans hle41).trans hle42))) ti3 rfl rfl rfl ?_
     refine WL.lssS t.last (-62135596800) rfl rfl rfl (fun h34=>?_) (fun h34=>?_)
     ·exact RB hS98 rfl (by first | with_reducible rfl | exact absurd hag.1 (by assumption) | exact absurd hag.2.1 (of_decide_eq_false (by assumption)) | exact absurd hag.2.2 (by assumption) | exact absurd (und_no (at_:=at_) hI9 (by assumption) (by assumption) (by assumption) (by assumption) (by assumption) (by assumption) (by assumption)) (of_decide_eq_false (by assumption)) | exact und_5 hI9 (by assumption) (by assumption) | exact decide_eq_true hso.symm)
     refine WL.loadGAt hS98 (hc4.mono ((((((hle12.trans hle13).trans hle14).trans hle15).trans hle18).trans hle41).trans hle42)) [strV ((insT t tx v p).s.name),v4, .int .i64 ((insT t tx v p).s.key),v5,v6, .int .i64 ((insT t tx v p).last)] ti28 rfl rfl rfl rfl rfl <| WL.loadG1 hS98 (Cells.drop 5 (hc1.mono (((((((((((((((hle2.trans hle3).trans hle4).trans hle5).trans hle6).trans hle7).trans hle9).trans hle10).trans hle11).trans hle12).trans hle13).trans hle14).trans hle15).trans hle18).trans hle41).trans hle42))) ti3 rfl rfl rfl ?_
     refine WL.cA hS98 hb47 rfl rfl rfl (c_hChanges hS98.imm (insT t tx v p) t.last tx _ (TableE_mk (insT t tx v p) hb6 (hs5.mono (((((((hle11.trans hle12).trans hle13).trans hle14).trans hle15).trans hle18).trans hle41).trans hle42)) hb7 (hs6.mono (((((((hle11.trans hle12).trans hle13).trans hle14).trans hle15).trans hle18).trans hle41).trans hle42)) (hs7.mono (((((((hle11.trans hle12).trans hle13).trans hle14).trans hle15).trans hle18).trans hle41).trans hle42)) hb8) (by assumption) htx64) ?_
     rintro w75 G56 _ ⟨r40,_,rfl,hs30,rfl⟩ hS99 hle56
     refine WL.neqS (chgsErr (insT t tx v p) t.last tx) 0 rfl rfl rfl (fun h35=>?_) (fun h35=>?_)
     ·refine WL.cmp .eql rfl .i64 (chgsErr (insT t tx v p) t.last tx) 5 rfl rfl rfl ?_
      exact RB hS99 rfl (by first | with_reducible rfl | exact absurd hag.1 (by assumption) | exact absurd hag.2.1 (of_decide_eq_false (by assumption)) | exact absurd hag.2.2 (by assumption) | exact absurd (und_no (at_:=at_) hI9 (by assumption) (by assumption) (by assumption) (by assumption) (by assumption) (by assumption) (by assumption)) (of_decide_eq_false (by assumption)) | exact und_5 hI9 (by assumption) (by assumption) | exact decide_eq_true hso.symm)
     have hsm:=und_small hI9 (by assumption) (by assumption)
     have hsn:=snapH_len (insT t tx v p) at_ t.last
     refine WL.loadGAt hS99 (hc4.mono (((((((hle12.trans hle13).trans hle14).trans hle15).trans hle18).trans hle41).trans hle42).trans hle56)) [strV ((insT t tx v p).s.name),v4, .int .i64 ((insT t tx v p).s.key),v5,v6, .int .i64 ((insT t tx v p).last)] ti28 rfl rfl rfl rfl rfl <| WL.loadG1 hS99 (Cells.drop 5 (hc1.mono ((((((((((((((((hle2.trans hle3).trans hle4).trans hle5).trans hle6).trans hle7).trans hle9).trans hle10).trans hle11).trans hle12).trans hle13).trans hle14).trans hle15).trans hle18).trans hle41).trans hle42).trans hle56))) ti3 rfl rfl rfl ?_
     refine WL.cA hS99 hb31 rfl rfl rfl (c_Snapshot hS99.imm (insT t tx v p) at_ t.last _ (TableE_mk (insT t tx v p) hb6 (hs5.mono ((((((((hle11.trans hle12).trans hle13).trans hle14).trans hle15).trans hle18).trans hle41).trans hle42).trans hle56)) hb7 (hs6.mono ((((((((hle11.trans hle12).trans hle13).trans hle14).trans hle15).trans hle18).trans hle41).trans hle42).trans hle56)) (hs7.mono ((((((((hle11.trans hle12).trans hle13).trans hle14).trans hle15).trans hle18).trans hle41).trans hle42).trans hle56)) hb8)) (fun w76 G57 r42 hpost26 hS100 hle57=>?_)
     refine WL.cR hb51 rfl rfl rfl (c_CloneLL hS100.imm (snapH (insT t tx v p) at_ t.last) _ hpost26) (fun w77 G58 r43 hres10 hpost27=>?_)
     have hS101:=hS100.call hres10
     have hle58:=hres10.le
     obtain ⟨o16,hr25,hf10⟩:=hpost27
     have hS102:=hS100.adoptO hres10 hf10
     have bd7:=hs30.bound
     refine WL.lenSl (hs30.mono (hle57.trans hle58)) ul26 rfl rfl ?_
     refine LP.go ft [] (fun m ρ1 w1=>∃ (k2 : Nat),∃ (v26 : Value) (o17 : OB),∃ (G59 : GH),m = (chgsH (insT t tx v p) t.last tx).length - k2 ∧ G58.le G59 ∧ St w [] G G59 [o17,some (b3,51,[.int .i64 cg.kind,strV cg.col,strV cg.oth, .int .i64 cg.v.k, .int .i64 cg.v.n,strV cg.v.s,vL])] w1 ∧ Row (ValE.slice 32) 24 36 G59 v26 (uRun t.last at_ (snapH (insT t tx v p) at_ t.last) ((chgsH (insT t tx v p) t.last tx).take k2)) o17 ∧ FR ρ1 [(1, .int .i64 tx),(4, .int .i64 at_),(5, .pointer (some p1)),(11, .pointer (some (⟨b1,0,none⟩ : Addr))),(23,v26),(168,r40),(169, .int .i64 (((chgsH (insT t tx v p) t.last tx).length : Nat) : Int)),(170, .int .i64 (k2 : Int))] ∧ k2 ≤ (chgsH (insT t tx v p) t.last tx).length) _ ⟨0,r43,o16,G58,rfl,(G58.le_refl),hS102,(Row.cast hr25 (by rfl)),⟨rfl,rfl,rfl,rfl,rfl,rfl,(by dsimp only [upd]; rfl),rfl,trivial⟩,(by omega)⟩ ?_
     rintro m ρ1 w78 ⟨k2,v26,o17,G59,rfl,hle59,hS103,hr26,hF9,f7⟩
     refine hF9.set ?_
     clear hF9
     have hul:=und_len (p:=t.last) (a:=at_) (s:=(snapH (insT t tx v p) at_ t.last)) (D:=(chgsH (insT t tx v p) t.last tx)) k2
     refine WL.lssS (k2 : Int) (((chgsH (insT t tx v p) t.last tx).length : Nat) : Int) rfl rfl rfl (fun h36=>?_) (fun h36=>?_)
     ·refine WL.indexAddr (hs30.mono ((hle57.trans hle58).trans hle59)) k2 (by omega) ul26 ti64 rfl rfl rfl rfl (fun p9 x6 hx6 he6=>?_)
      obtain ⟨cs10,hc17,hr27⟩:=he6
      have qo26:=HRowE_open hr27
      obtain ⟨v27,rfl,hs31,hb46,hb48,hb49,hb50⟩:=qo26
      refine WL.loadGAt hS103 hc17 [v27, .int .i64 x6.r.d.a, .int .i64 x6.r.d.b, .int .i64 x6.r.x.a, .int .i64 x6.r.x.b] ti64 rfl rfl rfl rfl rfl ?_
      refine WL.alloc hS103 ti64 rfl rfl (fun b14 w79 hn14 hS104=>?_)
      refine WL.store hS104 0 _ _ _ 0 _ [v27, .int .i64 x6.r.d.a, .int .i64 x6.r.d.b, .int .i64 x6.r.x.a, .int .i64 x6.r.x.b] [v27, .int .i64 x6.r.d.a, .int .i64 x6.r.d.b, .int .i64 x6.r.x.a, .int .i64 x6.r.x.b] _ rfl rfl ti64 rfl (Nat.le_of_ble_eq_true rfl) (by simp only [List.all_cons,List.all_nil,hs31.oneC,Bool.true_and] <;> rfl) rfl rfl rfl rfl rfl (fun w80 hS105=>?_)
      have qo27:=hS105.shutB hn14
      obtain ⟨G60,hle60,hc18,hS106⟩:=qo27
      refine WL.loadG1 hS106 (Cells.drop 0 (Cells.drop 0 (Cells.drop 1 hc18))) ti3 rfl rfl rfl ?_
      refine WL.lssS at_ x6.r.d.a rfl rfl rfl (fun h37=>?_) (fun h37=>?_)
      ·refine WL.incr k2 (by have hreach : reach = 140737488355328:=rfl; omega) rfl rfl rfl ?_
       exact BK.mk' _ ⟨k2 + 1,v26,o17,G60,rfl,(hle59.trans hle60),hS106,(Row.cast (hr26.mono hle60) (by (first | with_reducible exact (uRun_skip (by assumption) (by omega)).symm | with_reducible exact (uRun_del (by assumption) (by omega) (by omega) (by assumption)).symm | with_reducible exact (uRun_add (by assumption) (by omega) (by omega) (by assumption)).symm))),⟨rfl,rfl,rfl,rfl,rfl,rfl,(by dsimp only [upd]; rfl),rfl,trivial⟩,(by omega)⟩ (show (chgsH (insT t tx v p) t.last tx).length - (k2 + 1) < (chgsH (insT t tx v p) t.last tx).length - k2 by omega)
      refine WL.loadG1 hS106 (Cells.drop 1 (Cells.drop 0 (Cells.drop 1 hc18))) ti3 rfl rfl rfl ?_
      refine WL.geqS at_ x6.r.d.b rfl rfl rfl (fun h38=>?_) (fun h38=>?_)
      ·refine WL.incr k2 (by have hreach : reach = 140737488355328:=rfl; omega) rfl rfl rfl ?_
       exact BK.mk' _ ⟨k2 + 1,v26,o17,G60,rfl,(hle59.trans hle60),hS106,(Row.cast (hr26.mono hle60) (by (first | with_reducible exact (uRun_skip (by assumption) (by omega)).symm | with_reducible exact (uRun_del (by assumption) (by omega) (by omega) (by assumption)).symm | with_reducible exact (uRun_add (by assumption) (by omega) (by omega) (by assumption)).symm))),⟨rfl,rfl,rfl,rfl,rfl,rfl,(by dsimp only [upd]; rfl),rfl,trivial⟩,(by omega)⟩ (show (chgsH (insT t tx v p) t.last tx).length - (k2 + 1) < (chgsH (insT t tx v p) t.last tx).length - k2 by omega)
      refine WL.loadG1 hS106 (Cells.drop 0 (Cells.drop 2 (Cells.drop 1 hc18))) ti3 rfl rfl rfl <| WL.loadG1 hS106 (Cells.drop 5 (hc1.mono ((((((((((((((((((((hle2.trans hle3).trans hle4).trans hle5).trans hle6).trans hle7).trans hle9).trans hle10).trans hle11).trans hle12).trans hle13).trans hle14).trans hle15).trans hle18).trans hle41).trans hle42).trans hle56).trans hle57).trans hle58).trans hle59).trans hle60))) ti3 rfl rfl rfl ?_
      refine WL.eqlS x6.r.x.a t.last rfl rfl rfl (fun h39=>?_) (fun h39=>?_)
      ·refine WL.cR hb60 rfl rfl rfl (c_DeleteRow hS106.imm (uRun t.last at_ (snapH (insT t tx v p) at_ t.last) ((chgsH (insT t tx v p) t.last tx).take k2)) (fun x8=>decide (x8 = x6.v)) _ _ (hr26.mono hle60) (hS106.lentAt 0 rfl) 61 #[.pointer (some (⟨b14,0,none⟩ : Addr))] ⟨hb61,fun G8 w8 v8 x8 hle8 hG8 hon8 hA8=>by exact c_und2 hG8 x8 x6.v x6.r.d.a x6.r.d.b x6.r.x.a x6.r.x.b v8 hA8 v27 ((hs31.mono hle60).mono hle8) (⟨b14,0,none⟩ : Addr) (hc18.mono hle8)⟩) (fun w81 G61 r44 hres11 hpost28=>?_)
       have hle61:=hres11.le
       obtain ⟨o18,hr28,hf11⟩:=hpost28
       have hS108:=hS106.callRowO 0 rfl hres11 hf11
       refine WL.incr k2 (by have hreach : reach = 140737488355328:=rfl; omega) rfl rfl rfl ?_
       exact BK.mk' _ ⟨k2 + 1,r44,o18,G61,rfl,(hle59.trans (hle60.trans hle61)),hS108,(Row.cast hr28 (by (first | with_reducible exact (uRun_skip (by assumption) (by omega)).symm | with_reducible exact (uRun_del (by assumption) (by omega) (by omega) (by assumption)).symm | with_reducible exact (uRun_add (by assumption) (by omega) (by omega) (by assumption)).symm))),⟨rfl,rfl,rfl,rfl,rfl,rfl,(by dsimp only [upd]; rfl),rfl,trivial⟩,(by omega)⟩ (show (chgsH (insT t tx v p) t.last tx).length - (k2 + 1) < (chgsH (insT t tx v p) t.last tx).length - k2 by omega)
      refine WL.loadG1 hS106 (Cells.drop 0 hc18) ti36 rfl rfl rfl ?_
      refine WL.buildSlice _ [(0,[v27])] [v27] hS106 sl56 rfl rfl rfl (by show [(0,(v27 : Value).cells.toList)] = _; simp only [(hs31.mono hle60).cells1] <;> rfl) (fun z hz=>by match z,hz with | [z0],_=>rfl) (fun b15 w82 hn15 hS109=>?_)
      refine WL.push (m:=([x6.v] : List (List Val))) sl56 rfl rfl rfl (hr26.mono hle60) hS109 1 rfl 0 _ _ _ _ _ rfl ⟨[v27],_,rfl,⟨_,rfl,(hs31.mono hle60)⟩,rfl⟩ rfl (by have hreach : reach = 140737488355328:=rfl; simp only [List.length_append,List.length_map,List.length_cons,List.length_nil]; omega) (by have hreach : reach = 140737488355328:=rfl; simp only [List.length_append,List.length_map,List.length_cons,List.length_nil]; omega) rfl rfl rfl (fun v28 o19 w83 hr29 hS110=>?_)
      have hS111:=hS110.tail
      refine WL.incr k2 (by have hreach : reach = 140737488355328:=rfl; omega) rfl rfl rfl ?_
      exact BK.mk' _ ⟨k2 + 1,v28,o19,G60,rfl,(hle59.trans hle60),hS111,(Row.cast hr29 (by (first | with_reducible exact (uRun_skip (by assumption) (by omega)).symm | with_reducible exact (uRun_del (by assumption) (by omega) (by omega) (by assumption)).symm | with_reducible exact (uRun_add (by assumption) (by omega) (by omega) (by assumption)).symm))),⟨rfl,rfl,rfl,rfl,rfl,rfl,(by dsimp only [upd]; rfl),rfl,trivial⟩,(by omega)⟩ (show (chgsH (insT t tx v p) t.last tx).length - (k2 + 1) < (chgsH (insT t tx v p) t.last tx).length - k2 by omega)
     have hfin:=und_fin (at_:=at_) hI9 (by assumption) (by assumption) (by assumption) (show (chgsH (insT t tx v p) t.last tx).length ≤ k2 by omega)
     refine WL.cR hb57 rfl rfl rfl (c_SortVV hS103.imm (uRun t.last at_ (snapH (insT t tx v p) at_ t.last) ((chgsH (insT t tx v p) t.last tx).take k2)) _ _ hr26 (hS103.lentAt 0 rfl) hfin.2.1) (fun w84 G62 r45 hres12 hpost29=>?_)
     have hle62:=hres12.le
     obtain ⟨rfl,l4,o20,hr30,hf12,hq4⟩:=hpost29
     have hS113:=hS103.callRow 0 rfl hres12 hr26 hr30 hf12
     have qo28:=Row.freeze hr30 hS113 0 rfl
     obtain ⟨G63,hle63,hs32,hS114⟩:=qo28
     have hso:=sorted_snap hfin.2.2.1 hq4.1 hq4.2 hfin.1 hfin.2.1 hfin.2.2.2
     refine WL.loadGAt hS114 (hc4.mono ((((((((((((hle12.trans hle13).trans hle14).trans hle15).trans hle18).trans hle41).trans hle42).trans hle56).trans hle57).trans hle58).trans hle59).trans hle62).trans hle63)) [strV ((insT t tx v p).s.name),v4, .int .i64 ((insT t tx v p).s.key),v5,v6, .int .i64 ((insT t tx v p).last)] ti28 rfl rfl rfl rfl rfl ?_
     refine WL.cA hS114 hb31 rfl rfl rfl (c_Snapshot hS114.imm (insT t tx v p) at_ tx _ (TableE_mk (insT t tx v p) hb6 (hs5.mono (((((((((((((hle11.trans hle12).trans hle13).trans hle14).trans hle15).trans hle18).trans hle41).trans hle42).trans hle56).trans hle57).trans hle58).trans hle59).trans hle62).trans hle63)) hb7 (hs6.mono (((((((((((((hle11.trans hle12).trans hle13).trans hle14).trans hle15).trans hle18).trans hle41).trans hle42).trans hle56).trans hle57).trans hle58).trans hle59).trans hle62).trans hle63)) (hs7.mono (((((((((((((hle11.trans hle12).trans hle13).trans hle14).trans hle15).trans hle18).trans hle41).trans hle42).trans hle56).trans hle57).trans hle58).trans hle59).trans hle62).trans hle63)) hb8)) (fun w85 G64 r46 hpost30 hS115 hle64=>?_)
     refine WL.cV hS115 hb32 rfl rfl rfl (c_lsame hS115.imm l4 (snapH (insT t tx v p) at_ tx) _ (hs32.mono hle64) _ hpost30) (fun w86 G65 hS116 hle65=>?_)
     exact RB hS116 rfl (by first | with_reducible rfl | exact absurd hag.1 (by assumption) | exact absurd hag.2.1 (of_decide_eq_false (by assumption)) | exact absurd hag.2.2 (by assumption) | exact absurd (und_no (at_:=at_) hI9 (by assumption) (by assumption) (by assumption) (by assumption) (by assumption) (by assumption) (by assumption)) (of_decide_eq_false (by assumption)) | exact und_5 hI9 (by assumption) (by assumption) | exact decide_eq_true hso.symm)
    exact RB hS17 rfl (by first | with_reducible rfl | exact absurd hag.1 (by assumption) | exact absurd hag.2.1 (of_decide_eq_false (by assumption)) | exact absurd hag.2.2 (by assumption) | exact absurd (und_no (at_:=at_) hI9 (by assumption) (by assumption) (by assumption) (by assumption) (by assumption) (by assumption) (by assumption)) (of_decide_eq_false (by assumption)) | exact und_5 hI9 (by assumption) (by assumption) | exact decide_eq_true hso.symm)
   exact RB hS8 rfl (by first | with_reducible rfl | exact absurd hag.1 (by assumption) | exact absurd hag.2.1 (of_decide_eq_false (by assumption)) | exact absurd hag.2.2 (by assumption) | exact absurd (und_no (at_:=at_) hI9 (by assumption) (by assumption) (by assumption) (by assumption) (by assumption) (by assumption) (by assumption)) (of_decide_eq_false (by assumption)) | exact und_5 hI9 (by assumption) (by assumption) | exact decide_eq_true hso.symm)
  exact RB hS7 rfl (by first | with_reducible rfl | exact absurd hag.1 (by assumption) | exact absurd hag.2.1 (of_decide_eq_false (by assumption)) | exact absurd hag.2.2 (by assumption) | exact absurd (und_no (at_:=at_) hI9 (by assumption) (by assumption) (by assumption) (by assumption) (by assumption) (by assumption) (by assumption)) (of_decide_eq_false (by assumption)) | exact und_5 hI9 (by assumption) (by assumption) | exact decide_eq_true hso.symm)
 exact RB hS6 rfl (by first | with_reducible rfl | exact absurd hag.1 (by assumption) | exact absurd hag.2.1 (of_decide_eq_false (by assumption)) | exact absurd hag.2.2 (by assumption) | exact absurd (und_no (at_:=at_) hI9 (by assumption) (by assumption) (by assumption) (by assumption) (by assumption) (by assumption) (by assumption)) (of_decide_eq_false (by assumption)) | exact und_5 hI9 (by assumption) (by assumption) | exact decide_eq_true hso.symm)
end Go.Civ
