/- Lemmas: Wk1, Wn1. -/
import Derived.Test.YtjjkgobhlfmhhaaGreatQ29
import Derived.Test.YtjjkgobhlfmhhaaGreatQ32
import Derived.Test.YtjjkgobhlfmhhaaGreatQ42
import Derived.Test.YtjjkgobhlfmhhaaGreatQ45
import Derived.Test.YtjjkgobhlfmhhaaGreatQ46
import Derived.Test.YtjjkgobhlfmhhaaGreatProg
import Derived.KernelRfl
import Derived.WalkKit
set_option linter.unusedVariables false
set_option linter.unusedSimpArgs false
set_option maxRecDepth 100000
set_option maxHeartbeats 4000000
namespace Go.Civ
open Go.Proofs
theorem c_hDelete {G : GH} {w : World} (hG : G.In w) (d : Nat) (t : Table) (tx : Int) (c : Cond) (p : Span) (ct : List Value) (hct : TableE.rep G t ct) (cc : List Value) (hcc : (CondE d).rep G c cc) (cp : List Value) (hcp : SpanE.rep G p cp) (htx64 : I64 tx) : CL Tryz.prog (nat_lit 27) #[.agg ct.toArray, .int .i64 tx, .agg cc.toArray, .agg cp.toArray] [] w G fun G' _ r=>∃ r0 r1,r = .tuple #[r0,r1] ∧ Is TableE G' r0 (delT d t tx c p) ∧ r1 = .int .i64 (delE d t tx c p):=by
 refine calls_of_goR ft [] Tryz.func27 rfl rfl ?_
 have hS:=St.start (X:=[]) hG
 obtain ⟨v1,v2,v3,rfl,hb1,hs1,hb2,hs2,hs3,hb3⟩:=TableE_open hct
 obtain ⟨lv1,rfl,hb4,hb5,hb6,hb7,hb8,hb9,ho1⟩:=CondE_open hcc
 obtain ⟨rfl,hb10,hb11⟩:=SpanE_open hcp
 refine WL.boxG [strV t.s.name,v1, .int .i64 t.s.key,v2,v3, .int .i64 t.last] _ hS rfl rfl rfl (fun p1 w1 G1 hle1 hsp1 hc1 hS1=>?_)
 refine WL.boxG [.int .i64 c.kind,strV c.col,strV c.oth, .int .i64 c.v.k, .int .i64 c.v.n,strV c.v.s,lv1] _ hS1 rfl rfl rfl (fun p2 w2 G2 hle2 hsp2 hc2 hS2=>?_)
 refine WL.boxG [.int .i64 p.a, .int .i64 p.b] _ hS2 rfl rfl rfl (fun p3 w3 G3 hle3 hsp3 hc3 hS3=>?_)
 refine WL.alloc hS3 ti28 rfl rfl (fun b1 w4 hn1 hS4=>?_)
 refine WL.loadGAt hS4 (hc1.mono (hle2.trans hle3)) [strV t.s.name,v1, .int .i64 t.s.key,v2,v3, .int .i64 t.last] ti28 rfl rfl rfl rfl rfl ?_
 refine WL.cV hS4 hb15 rfl rfl rfl (c_hValid hS4.imm t _ (TableE_mk t hb1 (hs1.mono ((hle1.trans hle2).trans hle3)) hb2 (hs2.mono ((hle1.trans hle2).trans hle3)) (hs3.mono ((hle1.trans hle2).trans hle3)) hb3)) (fun w5 G4 hS5 hle4=>?_)
 refine WL.split (fun (h1 : (validT t) = true)=>?_) (fun (h1 : (validT t) = false)=>?_)
 ·refine WL.loadGAt hS5 (hc3.mono hle4) [.int .i64 p.a, .int .i64 p.b] ti38 rfl rfl rfl rfl rfl ?_
  refine WL.cV hS5 hb74 rfl rfl rfl (c_hspan hS5.imm p _ (SpanE_mk p hb10 hb11)) (fun w6 G5 hS6 hle5=>?_)
  refine WL.split (fun (h2 : (spanB p) = true)=>?_) (fun (h2 : (spanB p) = false)=>?_)
  ·have hok : insOk t p = true:=insOk_y (by assumption) (by assumption)
   have hck : I64 (checkF d c t.s.cols):=checkF_I64
   refine dr [(8,false),(9,false),(10,false)] [(20, .agg #[.int .i64 c.kind,strV c.col,strV c.oth, .int .i64 c.v.k, .int .i64 c.v.n,strV c.v.s,lv1]),(23,v1),(24, .int .i64 (checkF d c t.s.cols)),(25, .agg #[strV t.s.name,v1, .int .i64 t.s.key,v2,v3, .int .i64 t.last]),(27, .int .i64 (timE t tx))] hS6 ⟨fun _ hSw=>WL.loadGAt hSw (hc2.mono ((hle3.trans hle4).trans hle5)) [.int .i64 c.kind,strV c.col,strV c.oth, .int .i64 c.v.k, .int .i64 c.v.n,strV c.v.s,lv1] ti51 rfl rfl rfl rfl rfl <| nu rfl rfl,fun _ hSw=>WL.loadG1 hSw (Cells.drop 1 (Cells.drop 0 (hc1.mono (((hle2.trans hle3).trans hle4).trans hle5)))) ti22 rfl rfl rfl <| nu rfl rfl,fun _ hSw=>WL.callD hSw hb28 rfl rfl rfl (c_Check hSw.imm _ c t.s.cols _ ((CondE _).mono ((((hle1.trans hle2).trans hle3).trans hle4).trans hle5) hcc) _ (hs1.mono ((((hle1.trans hle2).trans hle3).trans hle4).trans hle5))) rfl,fun _ hSw=>WL.loadGAt hSw (hc1.mono (((hle2.trans hle3).trans hle4).trans hle5)) [strV t.s.name,v1, .int .i64 t.s.key,v2,v3, .int .i64 t.last] ti28 rfl rfl rfl rfl rfl <| nu rfl rfl,fun _ hSw=>WL.callD hSw hb76 rfl rfl rfl (c_timely hSw.imm t tx _ (TableE_mk t hb1 (hs1.mono ((((hle1.trans hle2).trans hle3).trans hle4).trans hle5)) hb2 (hs2.mono ((((hle1.trans hle2).trans hle3).trans hle4).trans hle5)) (hs3.mono ((((hle1.trans hle2).trans hle3).trans hle4).trans hle5)) hb3)) rfl,trivial⟩ (fun w7 hS7=>?_)
   refine WL.buildSlice _ [(0,[.int .i64 (checkF d c t.s.cols)]),(1,[.int .i64 (timE t tx)])] [.int .i64 (checkF d c t.s.cols), .int .i64 (timE t tx)] hS7 sl157 rfl rfl rfl rfl (fun z hz=>by match z,hz with | [z0,z1],_=>rfl) (fun b2 w9 hn2 hS8=>?_)
   obtain ⟨G6,hle6,hs4,hS9⟩:=St.sealSl (E:=Enc.int) (by_:=8) (l:=([(checkF d c t.s.cols),(timE t tx)] : List Int)) hS8 hn2 ⟨[.int .i64 (checkF d c t.s.cols)],_,rfl,⟨rfl,(by assumption)⟩,⟨[.int .i64 (timE t tx)],_,rfl,⟨rfl,(I64_timE t tx)⟩,rfl⟩⟩ rfl (by simp [reach]) (by simp [reach])
   refine WL.cV hS9 hb75 rfl rfl rfl (c_OrE hS9.imm [(checkF d c t.s.cols),(timE t tx)] _ hs4) (fun w10 G7 hS10 hle7=>?_)
   refine WL.neqS (cmpOr [(checkF d c t.s.cols),(timE t tx)]) 0 rfl rfl rfl (fun h3=>?_) (fun h3=>?_)
   ·refine WL.build _ [] [strV [], .slice none 0 0, .int .i64 0, .slice none 0 0, .slice none 0 0, .int .i64 0] ti28 rfl fl28 rfl rfl rfl rfl ?_
    refine WL.store hS10 0 _ _ _ 0 _ [strV [], .slice none 0 0, .int .i64 0, .slice none 0 0, .slice none 0 0, .int .i64 0] [strV [], .slice none 0 0, .int .i64 0, .slice none 0 0, .slice none 0 0, .int .i64 0] _ rfl rfl ti28 rfl (Nat.le_of_ble_eq_true rfl) rfl rfl rfl rfl rfl rfl (fun w11 hS11=>?_)
    exact RTR [.agg #[strV [], .slice none 0 0, .int .i64 0, .slice none 0 0, .slice none 0 0, .int .i64 0], .int .i64 (cmpOr [(checkF d c t.s.cols),(timE t tx)])] hS11 ⟨_,_,_,rfl,rfl,hS11.loadA 0 _ _ _ 0 [strV [], .slice none 0 0, .int .i64 0, .slice none 0 0, .slice none 0 0, .int .i64 0] rfl rfl rfl ti28 rfl,⟨_,rfl,rfl⟩⟩ ⟨_,_,rfl,(Is.cast ⟨_,rfl,(TableE_mk (Table.mk (Schema.mk [] [] 0 []) [] 0) (by simp [reach]) (Sl.nil ColE 24 G7) I64_0 (Sl.nil ForeignE 40 G7) (Sl.nil HRowE 56 G7) I64_0)⟩ (by with_reducible exact (del_2 hok (by assumption)).1)),(congrArg (Value.int .i64) (by with_reducible exact (del_2 hok (by assumption)).2))⟩
   refine WL.loadGAt hS10 (hc1.mono (((((hle2.trans hle3).trans hle4).trans hle5).trans hle6).trans hle7)) [strV t.s.name,v1, .int .i64 t.s.key,v2,v3, .int .i64 t.last] ti28 rfl rfl rfl rfl rfl <| WL.loadGAt hS10 (hc2.mono ((((hle3.trans hle4).trans hle5).trans hle6).trans hle7)) [.int .i64 c.kind,strV c.col,strV c.oth, .int .i64 c.v.k, .int .i64 c.v.n,strV c.v.s,lv1] ti51 rfl rfl rfl rfl rfl <| WL.loadGAt hS10 (hc3.mono (((hle4.trans hle5).trans hle6).trans hle7)) [.int .i64 p.a, .int .i64 p.b] ti38 rfl rfl rfl rfl rfl ?_
   refine WL.cA hS10 hb84 rfl rfl rfl (c_change hS10.imm _ t tx c p (fun x8=>(none : Option (List Val))) _ (TableE_mk t hb1 (hs1.mono ((((((hle1.trans hle2).trans hle3).trans hle4).trans hle5).trans hle6).trans hle7)) hb2 (hs2.mono ((((((hle1.trans hle2).trans hle3).trans hle4).trans hle5).trans hle6).trans hle7)) (hs3.mono ((((((hle1.trans hle2).trans hle3).trans hle4).trans hle5).trans hle6).trans hle7)) hb3) _ ((CondE _).mono ((((((hle1.trans hle2).trans hle3).trans hle4).trans hle5).trans hle6).trans hle7) hcc) _ (SpanE_mk p hb10 hb11) 85 #[] ⟨hb85,fun G8 w8 v8 x8 hle8 hG8 hon8 hA8=>by exact c_hDelete1 hG8 x8 v8 hA8⟩ htx64 (del_ok hok (by assumption))) ?_
   rintro w12 G9 _ ⟨r2,_,rfl,hs5,rfl⟩ hS12 hle9
   obtain ⟨cs1,rfl,hr1⟩:=hs5
   obtain ⟨v4,v5,v6,rfl,hb12,hs6,hb13,hs7,hs8,hb14⟩:=TableE_open hr1
   refine WL.store hS12 0 _ _ _ 0 _ [strV ((doneT t tx (chgRows (hldB d c (nms t)) (fun x8=>(none : Option (List Val))) tx p t.rows)).s.name),v4, .int .i64 ((doneT t tx (chgRows (hldB d c (nms t)) (fun x8=>(none : Option (List Val))) tx p t.rows)).s.key),v5,v6, .int .i64 ((doneT t tx (chgRows (hldB d c (nms t)) (fun x8=>(none : Option (List Val))) tx p t.rows)).last)] [strV ((doneT t tx (chgRows (hldB d c (nms t)) (fun x8=>(none : Option (List Val))) tx p t.rows)).s.name),v4, .int .i64 ((doneT t tx (chgRows (hldB d c (nms t)) (fun x8=>(none : Option (List Val))) tx p t.rows)).s.key),v5,v6, .int .i64 ((doneT t tx (chgRows (hldB d c (nms t)) (fun x8=>(none : Option (List Val))) tx p t.rows)).last)] _ rfl rfl ti28 rfl (Nat.le_of_ble_eq_true rfl) (by simp only [List.all_cons,List.all_nil,hs6.oneC,hs7.oneC,hs8.oneC,Bool.true_and] <;> rfl) rfl rfl rfl rfl rfl (fun w13 hS13=>?_)
   exact RTR [.agg #[strV ((doneT t tx (chgRows (hldB d c (nms t)) (fun x8=>(none : Option (List Val))) tx p t.rows)).s.name),v4, .int .i64 ((doneT t tx (chgRows (hldB d c (nms t)) (fun x8=>(none : Option (List Val))) tx p t.rows)).s.key),v5,v6, .int .i64 ((doneT t tx (chgRows (hldB d c (nms t)) (fun x8=>(none : Option (List Val))) tx p t.rows)).last)], .int .i64 (doneTE (chgRows (hldB d c (nms t)) (fun x8=>(none : Option (List Val))) tx p t.rows))] hS13 ⟨_,_,_,rfl,rfl,hS13.loadA 0 _ _ _ 0 [strV ((doneT t tx (chgRows (hldB d c (nms t)) (fun x8=>(none : Option (List Val))) tx p t.rows)).s.name),v4, .int .i64 ((doneT t tx (chgRows (hldB d c (nms t)) (fun x8=>(none : Option (List Val))) tx p t.rows)).s.key),v5,v6, .int .i64 ((doneT t tx (chgRows (hldB d c (nms t)) (fun x8=>(none : Option (List Val))) tx p t.rows)).last)] rfl rfl rfl ti28 rfl,⟨_,rfl,rfl⟩⟩ ⟨_,_,rfl,(Is.cast ⟨_,rfl,(TableE_mk (doneT t tx (chgRows (hldB d c (nms t)) (fun x8=>(none : Option (List Val))) tx p t.rows)) hb12 hs6 hb13 hs7 hs8 hb14)⟩ (by with_reducible exact (del_3 hok (by assumption)).1)),(congrArg (Value.int .i64) (by with_reducible exact (del_3 hok (by assumption)).2))⟩
  refine WL.build _ [] [strV [], .slice none 0 0, .int .i64 0, .slice none 0 0, .slice none 0 0, .int .i64 0] ti28 rfl fl28 rfl rfl rfl rfl ?_
  refine WL.store hS6 0 _ _ _ 0 _ [strV [], .slice none 0 0, .int .i64 0, .slice none 0 0, .slice none 0 0, .int .i64 0] [strV [], .slice none 0 0, .int .i64 0, .slice none 0 0, .slice none 0 0, .int .i64 0] _ rfl rfl ti28 rfl (Nat.le_of_ble_eq_true rfl) rfl rfl rfl rfl rfl rfl (fun w14 hS14=>?_)
  exact RTR [.agg #[strV [], .slice none 0 0, .int .i64 0, .slice none 0 0, .slice none 0 0, .int .i64 0], .int .i64 1] hS14 ⟨_,_,_,rfl,rfl,hS14.loadA 0 _ _ _ 0 [strV [], .slice none 0 0, .int .i64 0, .slice none 0 0, .slice none 0 0, .int .i64 0] rfl rfl rfl ti28 rfl,⟨_,rfl,rfl⟩⟩ ⟨_,_,rfl,(Is.cast ⟨_,rfl,(TableE_mk (Table.mk (Schema.mk [] [] 0 []) [] 0) (by simp [reach]) (Sl.nil ColE 24 G5) I64_0 (Sl.nil ForeignE 40 G5) (Sl.nil HRowE 56 G5) I64_0)⟩ (by with_reducible exact (del_1 (insOk_2 (by assumption))).1)),(congrArg (Value.int .i64) (by with_reducible exact (del_1 (insOk_2 (by assumption))).2))⟩
 refine WL.build _ [] [strV [], .slice none 0 0, .int .i64 0, .slice none 0 0, .slice none 0 0, .int .i64 0] ti28 rfl fl28 rfl rfl rfl rfl ?_
 refine WL.store hS5 0 _ _ _ 0 _ [strV [], .slice none 0 0, .int .i64 0, .slice none 0 0, .slice none 0 0, .int .i64 0] [strV [], .slice none 0 0, .int .i64 0, .slice none 0 0, .slice none 0 0, .int .i64 0] _ rfl rfl ti28 rfl (Nat.le_of_ble_eq_true rfl) rfl rfl rfl rfl rfl rfl (fun w15 hS15=>?_)
 exact RTR [.agg #[strV [], .slice none 0 0, .int .i64 0, .slice none 0 0, .slice none 0 0, .int .i64 0], .int .i64 1] hS15 ⟨_,_,_,rfl,rfl,hS15.loadA 0 _ _ _ 0 [strV [], .slice none 0 0, .int .i64 0, .slice none 0 0, .slice none 0 0, .int .i64 0] rfl rfl rfl ti28 rfl,⟨_,rfl,rfl⟩⟩ ⟨_,_,rfl,(Is.cast ⟨_,rfl,(TableE_mk (Table.mk (Schema.mk [] [] 0 []) [] 0) (by simp [reach]) (Sl.nil ColE 24 G4) I64_0 (Sl.nil ForeignE 40 G4) (Sl.nil HRowE 56 G4) I64_0)⟩ (by with_reducible exact (del_1 (insOk_1 (by assumption))).1)),(congrArg (Value.int .i64) (by with_reducible exact (del_1 (insOk_1 (by assumption))).2))⟩
end Go.Civ
set_option linter.unusedVariables false
set_option linter.unusedSimpArgs false
set_option maxRecDepth 100000
set_option maxHeartbeats 4000000
namespace Go.Civ
open Go.Proofs
theorem c_awake {G : GH} {w : World} (hG : G.In w) : CL Tryz.prog (nat_lit 13) #[] [] w G fun _ _ r=>r = .bool true:=by
 refine calls_of_go ft [] Tryz.func13 rfl rfl ?_
 have hS:=St.start (X:=[]) hG
 refine WL.cA hS hb62 rfl rfl rfl (c_column hS.imm) (fun w1 G1 r1 hpost1 hS1 hle1=>?_)
 obtain ⟨cs1,rfl,hr1⟩:=hpost1
 obtain ⟨v1,v2,rfl,hb1,hs1,hb2,hs2⟩:=SchemaE_open hr1
 refine WL.cA hS1 hb17 rfl rfl rfl (c_hNew hS1.imm colT _ (SchemaE_mk colT hb1 hs1 hb2 hs2)) ?_
 rintro w2 G2 _ ⟨r3,_,rfl,hs3,rfl⟩ hS2 hle2
 obtain ⟨cs2,rfl,hr2⟩:=hs3
 obtain ⟨v3,v4,v5,rfl,hb3,hs4,hb4,hs5,hs6,hb5⟩:=TableE_open hr2
 refine WL.alloc hS2 ti28 rfl rfl (fun b1 w3 hn1 hS3=>?_)
 refine WL.store hS3 0 _ _ _ 0 _ [strV ((newT colT).s.name),v3, .int .i64 ((newT colT).s.key),v4,v5, .int .i64 ((newT colT).last)] [strV ((newT colT).s.name),v3, .int .i64 ((newT colT).s.key),v4,v5, .int .i64 ((newT colT).last)] _ rfl rfl ti28 rfl (Nat.le_of_ble_eq_true rfl) (by simp only [List.all_cons,List.all_nil,hs4.oneC,hs5.oneC,hs6.oneC,Bool.true_and] <;> rfl) rfl rfl rfl rfl rfl (fun w4 hS4=>?_)
 refine WL.build _ [(0,[.int .i64 1]),(1,[.int .i64 5])] [.int .i64 1, .int .i64 5,strV []] ti48 rfl fl48 rfl rfl rfl rfl ?_
 refine WL.buildSlice _ [(0,[.int .i64 1, .int .i64 5,strV []])] [.int .i64 1, .int .i64 5,strV []] hS4 sl36 rfl rfl rfl rfl (fun z hz=>by match z,hz with | [z0,z1,z2],_=>rfl) (fun b2 w5 hn2 hS5=>?_)
 refine WL.loadOA hS5 1 _ _ _ 0 [strV ((newT colT).s.name),v3, .int .i64 ((newT colT).s.key),v4,v5, .int .i64 ((newT colT).last)] rfl rfl rfl ti28 rfl rfl rfl <| WL.build _ [(0,[.int .i64 0]),(1,[.int .i64 100])] [.int .i64 0, .int .i64 100] ti38 rfl fl38 rfl rfl rfl rfl ?_
 obtain ⟨G3,hle3,hs7,hS6⟩:=St.sealSl (E:=ValE) (by_:=32) (l:=([(Val.mk 1 5 [])] : List Val)) hS5 hn2 ⟨[.int .i64 1, .int .i64 5,strV []],_,rfl,(ValE_mk (Val.mk 1 5 []) (show I64 1 from by constructor <;> decide) (show I64 5 from by constructor <;> decide) (by simp [reach])),rfl⟩ rfl (by simp [reach]) (by simp [reach])
 refine WL.cA hS6 hb20 rfl rfl rfl (c_hInsert hS6.imm (newT colT) 10 [(Val.mk 1 5 [])] (Span.mk 0 100) _ (TableE_mk (newT colT) hb3 (hs4.mono hle3) hb4 (hs5.mono hle3) (hs6.mono hle3) hb5) _ hs7 _ (SpanE_mk (Span.mk 0 100) (show I64 0 from by constructor <;> decide) (show I64 100 from by constructor <;> decide)) (show I64 10 from by constructor <;> decide)) ?_
 rintro w6 G4 _ ⟨r6,_,rfl,hs8,rfl⟩ hS7 hle4
 obtain ⟨cs3,rfl,hr3⟩:=hs8
 obtain ⟨v6,v7,v9,rfl,hb6,hs9,hb7,hs10,hs11,hb8⟩:=TableE_open hr3
 refine WL.store hS7 0 _ _ _ 0 _ [strV ((insT (newT colT) 10 [(Val.mk 1 5 [])] (Span.mk 0 100)).s.name),v6, .int .i64 ((insT (newT colT) 10 [(Val.mk 1 5 [])] (Span.mk 0 100)).s.key),v7,v9, .int .i64 ((insT (newT colT) 10 [(Val.mk 1 5 [])] (Span.mk 0 100)).last)] [strV ((insT (newT colT) 10 [(Val.mk 1 5 [])] (Span.mk 0 100)).s.name),v6, .int .i64 ((insT (newT colT) 10 [(Val.mk 1 5 [])] (Span.mk 0 100)).s.key),v7,v9, .int .i64 ((insT (newT colT) 10 [(Val.mk 1 5 [])] (Span.mk 0 100)).last)] _ rfl rfl ti28 rfl (Nat.le_of_ble_eq_true rfl) (by simp only [List.all_cons,List.all_nil,hs9.oneC,hs10.oneC,hs11.oneC,Bool.true_and] <;> rfl) rfl rfl rfl rfl rfl (fun w7 hS8=>?_)
 refine WL.loadOA hS8 0 _ _ _ 0 [strV ((insT (newT colT) 10 [(Val.mk 1 5 [])] (Span.mk 0 100)).s.name),v6, .int .i64 ((insT (newT colT) 10 [(Val.mk 1 5 [])] (Span.mk 0 100)).s.key),v7,v9, .int .i64 ((insT (newT colT) 10 [(Val.mk 1 5 [])] (Span.mk 0 100)).last)] rfl rfl rfl ti28 rfl rfl rfl <| WL.build _ [(0,[.int .i64 3])] [.int .i64 3,strV [],strV [], .int .i64 0, .int .i64 0,strV [], .slice none 0 0] ti51 rfl fl51 rfl rfl rfl rfl <| WL.build _ [(0,[.int .i64 40]),(1,[.int .i64 60])] [.int .i64 40, .int .i64 60] ti38 rfl fl38 rfl rfl rfl rfl ?_
 refine WL.cA hS8 hb27 rfl rfl rfl (c_hDelete hS8.imm 1 (insT (newT colT) 10 [(Val.mk 1 5 [])] (Span.mk 0 100)) 20 (Cond.mk 3 [] [] (Val.mk 0 0 []) []) (Span.mk 40 60) _ (TableE_mk (insT (newT colT) 10 [(Val.mk 1 5 [])] (Span.mk 0 100)) hb6 hs9 hb7 hs10 hs11 hb8) _ ((CondE_succ (d:=0)).2 ⟨_,rfl,(show I64 3 from by constructor <;> decide),(by simp [reach]),(by simp [reach]),I64_0,I64_0,(by simp [reach]),Sl.nil (CondE 0) 96 G4⟩) _ (SpanE_mk (Span.mk 40 60) (show I64 40 from by constructor <;> decide) (show I64 60 from by constructor <;> decide)) (show I64 20 from by constructor <;> decide)) ?_
 rintro w9 G5 _ ⟨r9,_,rfl,hs12,rfl⟩ hS9 hle5
 obtain ⟨cs4,rfl,hr4⟩:=hs12
 obtain ⟨v10,v11,v12,rfl,hb9,hs13,hb10,hs14,hs15,hb11⟩:=TableE_open hr4
 refine WL.store hS9 0 _ _ _ 0 _ [strV ((delT 1 (insT (newT colT) 10 [(Val.mk 1 5 [])] (Span.mk 0 100)) 20 (Cond.mk 3 [] [] (Val.mk 0 0 []) []) (Span.mk 40 60)).s.name),v10, .int .i64 ((delT 1 (insT (newT colT) 10 [(Val.mk 1 5 [])] (Span.mk 0 100)) 20 (Cond.mk 3 [] [] (Val.mk 0 0 []) []) (Span.mk 40 60)).s.key),v11,v12, .int .i64 ((delT 1 (insT (newT colT) 10 [(Val.mk 1 5 [])] (Span.mk 0 100)) 20 (Cond.mk 3 [] [] (Val.mk 0 0 []) []) (Span.mk 40 60)).last)] [strV ((delT 1 (insT (newT colT) 10 [(Val.mk 1 5 [])] (Span.mk 0 100)) 20 (Cond.mk 3 [] [] (Val.mk 0 0 []) []) (Span.mk 40 60)).s.name),v10, .int .i64 ((delT 1 (insT (newT colT) 10 [(Val.mk 1 5 [])] (Span.mk 0 100)) 20 (Cond.mk 3 [] [] (Val.mk 0 0 []) []) (Span.mk 40 60)).s.key),v11,v12, .int .i64 ((delT 1 (insT (newT colT) 10 [(Val.mk 1 5 [])] (Span.mk 0 100)) 20 (Cond.mk 3 [] [] (Val.mk 0 0 []) []) (Span.mk 40 60)).last)] _ rfl rfl ti28 rfl (Nat.le_of_ble_eq_true rfl) (by simp only [List.all_cons,List.all_nil,hs13.oneC,hs14.oneC,hs15.oneC,Bool.true_and] <;> rfl) rfl rfl rfl rfl rfl (fun w10 hS10=>?_)
 refine WL.neqS (newE colT) 0 rfl rfl rfl (fun h1=>?_) (fun h1=>?_)
 ·exact RB hS10 rfl (by exact absurd aw_new.2 (by assumption))
 refine WL.neqS (insE_ (newT colT) 10 [(Val.mk 1 5 [])] (Span.mk 0 100)) 0 rfl rfl rfl (fun h2=>?_) (fun h2=>?_)
 ·exact RB hS10 rfl (by exact absurd awI_1.2 (by assumption))
 refine WL.neqS (delE 1 (insT (newT colT) 10 [(Val.mk 1 5 [])] (Span.mk 0 100)) 20 (Cond.mk 3 [] [] (Val.mk 0 0 []) []) (Span.mk 40 60)) 0 rfl rfl rfl (fun h3=>?_) (fun h3=>?_)
 ·exact RB hS10 rfl (by exact absurd awD_1.2 (by assumption))
 refine WL.loadO1 hS10 0 _ _ _ 4 _ rfl rfl ti26 rfl rfl rfl ?_
 have bd1:=hs15.bound
 refine WL.lenSl hs15 ul26 rfl rfl ?_
 refine WL.neqS ((((delT 1 (insT (newT colT) 10 [(Val.mk 1 5 [])] (Span.mk 0 100)) 20 (Cond.mk 3 [] [] (Val.mk 0 0 []) []) (Span.mk 40 60)).rows).length : Nat) : Int) 3 rfl rfl rfl (fun h4=>?_) (fun h4=>?_)
 ·exact RB hS10 rfl (by exact absurd awL (by assumption))
 refine WL.loadOA hS10 0 _ _ _ 0 [strV ((delT 1 (insT (newT colT) 10 [(Val.mk 1 5 [])] (Span.mk 0 100)) 20 (Cond.mk 3 [] [] (Val.mk 0 0 []) []) (Span.mk 40 60)).s.name),v10, .int .i64 ((delT 1 (insT (newT colT) 10 [(Val.mk 1 5 [])] (Span.mk 0 100)) 20 (Cond.mk 3 [] [] (Val.mk 0 0 []) []) (Span.mk 40 60)).s.key),v11,v12, .int .i64 ((delT 1 (insT (newT colT) 10 [(Val.mk 1 5 [])] (Span.mk 0 100)) 20 (Cond.mk 3 [] [] (Val.mk 0 0 []) []) (Span.mk 40 60)).last)] rfl rfl rfl ti28 rfl rfl rfl ?_
 refine WL.cA hS10 hb31 rfl rfl rfl (c_Snapshot hS10.imm (delT 1 (insT (newT colT) 10 [(Val.mk 1 5 [])] (Span.mk 0 100)) 20 (Cond.mk 3 [] [] (Val.mk 0 0 []) []) (Span.mk 40 60)) 50 15 _ (TableE_mk (delT 1 (insT (newT colT) 10 [(Val.mk 1 5 [])] (Span.mk 0 100)) 20 (Cond.mk 3 [] [] (Val.mk 0 0 []) []) (Span.mk 40 60)) hb9 hs13 hb10 hs14 hs15 hb11)) (fun w11 G6 r11 hpost5 hS11 hle6=>?_)
 have bd2:=hpost5.bound
 refine WL.lenSl hpost5 ul56 rfl rfl ?_
 refine WL.eqlS (((snapH (delT 1 (insT (newT colT) 10 [(Val.mk 1 5 [])] (Span.mk 0 100)) 20 (Cond.mk 3 [] [] (Val.mk 0 0 []) []) (Span.mk 40 60)) 50 15).length : Nat) : Int) 1 rfl rfl rfl (fun h5=>?_) (fun h5=>?_)
 ·refine WL.loadOA hS11 0 _ _ _ 0 [strV ((delT 1 (insT (newT colT) 10 [(Val.mk 1 5 [])] (Span.mk 0 100)) 20 (Cond.mk 3 [] [] (Val.mk 0 0 []) []) (Span.mk 40 60)).s.name),v10, .int .i64 ((delT 1 (insT (newT colT) 10 [(Val.mk 1 5 [])] (Span.mk 0 100)) 20 (Cond.mk 3 [] [] (Val.mk 0 0 []) []) (Span.mk 40 60)).s.key),v11,v12, .int .i64 ((delT 1 (insT (newT colT) 10 [(Val.mk 1 5 [])] (Span.mk 0 100)) 20 (Cond.mk 3 [] [] (Val.mk 0 0 []) []) (Span.mk 40 60)).last)] rfl rfl rfl ti28 rfl rfl rfl ?_
  refine WL.cA hS11 hb31 rfl rfl rfl (c_Snapshot hS11.imm (delT 1 (insT (newT colT) 10 [(Val.mk 1 5 [])] (Span.mk 0 100)) 20 (Cond.mk 3 [] [] (Val.mk 0 0 []) []) (Span.mk 40 60)) 50 25 _ (TableE_mk (delT 1 (insT (newT colT) 10 [(Val.mk 1 5 [])] (Span.mk 0 100)) 20 (Cond.mk 3 [] [] (Val.mk 0 0 []) []) (Span.mk 40 60)) hb9 (hs13.mono hle6) hb10 (hs14.mono hle6) (hs15.mono hle6) hb11)) (fun w12 G7 r12 hpost6 hS12 hle7=>?_)
  have bd3:=hpost6.bound
  refine WL.lenSl hpost6 ul56 rfl rfl ?_
  refine WL.eqlS (((snapH (delT 1 (insT (newT colT) 10 [(Val.mk 1 5 [])] (Span.mk 0 100)) 20 (Cond.mk 3 [] [] (Val.mk 0 0 []) []) (Span.mk 40 60)) 50 25).length : Nat) : Int) 0 rfl rfl rfl (fun h6=>?_) (fun h6=>?_)
  ·refine WL.loadO1 hS12 0 _ _ _ 5 _ rfl rfl ti3 rfl rfl rfl <| WL.cmp .eql rfl .i64 ((delT 1 (insT (newT colT) 10 [(Val.mk 1 5 [])] (Span.mk 0 100)) 20 (Cond.mk 3 [] [] (Val.mk 0 0 []) []) (Span.mk 40 60)).last) 20 rfl rfl rfl ?_
   exact RB hS12 rfl (by exact awLa)
  exact RB hS12 rfl (by exact absurd aw25 (by assumption))
 exact RB hS11 rfl (by exact absurd aw15 (by assumption))
end Go.Civ
