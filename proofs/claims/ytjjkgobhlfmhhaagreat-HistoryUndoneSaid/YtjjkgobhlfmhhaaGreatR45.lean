/- Lemmas: Wk1, Wl0, Civ74. -/
import Derived.Test.YtjjkgobhlfmhhaaGreatR18
import Derived.Test.YtjjkgobhlfmhhaaGreatR29
import Derived.Test.YtjjkgobhlfmhhaaGreatR32
import Derived.Test.YtjjkgobhlfmhhaaGreatR38
import Derived.Test.YtjjkgobhlfmhhaaGreatR40
import Derived.Test.YtjjkgobhlfmhhaaGreatR44
import Derived.Test.YtjjkgobhlfmhhaaGreatProg
import Derived.KernelRfl
import Derived.WalkKit
set_option linter.unusedVariables false
set_option linter.unusedSimpArgs false
set_option maxRecDepth 100000
set_option maxHeartbeats 4000000
namespace Go.Civ
open Go.Proofs
theorem c_hDelete {G : GH} {w : World} (hG : G.In w) (d : Nat) (t : Table) (tx : Int) (c : Cond) (p : Span) (ct : List Value) (hct : TableE.rep G t ct) (cc : List Value) (hcc : (CondE d).rep G c cc) (cp : List Value) (hcp : SpanE.rep G p cp) (htx64 : I64 tx) : CL Tryz.prog (nat_lit 27) #[.agg ct.toArray, .int .i64 tx, .agg cc.toArray, .agg cp.toArray] [] w G fun G' _ r=>∃ r0 r1,r = .tuple #[r0,r1] ∧ Is TableE G' r0 (delT d t tx c p) ∧ r1 = .int .i64 (delE d t tx c p):=by
 refine calls_of_goR ft [] Tryz.func27 rfl rfl ?_
 have hS:=St.start (X:=[]) hG
 obtain ⟨v1,v2,v3,rfl,hb1,hs1,hb2,hs2,hs3,hb3⟩:=TableE_open hct
 obtain ⟨lv1,rfl,hb4,hb5,hb6,hb7,hb8,hb9,ho1⟩:=CondE_open hcc
 obtain ⟨rfl,hb10,hb11⟩:=SpanE_open hcp
 refine WL.boxG [strV t.s.name,v1, .int .i64 t.s.key,v2,v3, .int .i64 t.last] _ hS rfl rfl rfl (fun p1 w1 G1 hle1 hsp1 hc1 hS1=>?_)
 refine WL.boxG [.int .i64 c.kind,strV c.col,strV c.oth, .int .i64 c.v.k, .int .i64 c.v.n,strV c.v.s,lv1] _ hS1 rfl rfl rfl (fun p2 w2 G2 hle2 hsp2 hc2 hS2=>?_)
 refine WL.boxG [.int .i64 p.a, .int .i64 p.b] _ hS2 rfl rfl rfl (fun p3 w3 G3 hle3 hsp3 hc3 hS3=>?_)
 refine WL.alloc hS3 ti28 rfl rfl (fun b1 w4 hn1 hS4=>?_)
 refine WL.loadGAt hS4 (hc1.mono (hle2.trans hle3)) [strV t.s.name,v1, .int .i64 t.s.key,v2,v3, .int .i64 t.last] ti28 rfl rfl rfl rfl rfl ?_
 refine WL.cV hS4 hb15 rfl rfl rfl (c_hValid hS4.imm t _ (TableE_mk t hb1 (hs1.mono ((hle1.trans hle2).trans hle3)) hb2 (hs2.mono ((hle1.trans hle2).trans hle3)) (hs3.mono ((hle1.trans hle2).trans hle3)) hb3)) (fun w5 G4 hS5 hle4=>?_)
 refine WL.split (fun (h1 : (validT t) = true)=>?_) (fun (h1 : (validT t) = false)=>?_)
 ·refine WL.loadGAt hS5 (hc3.mono hle4) [.int .i64 p.a, .int .i64 p.b] ti38 rfl rfl rfl rfl rfl ?_
  refine WL.cV hS5 hb74 rfl rfl rfl (c_hspan hS5.imm p _ (SpanE_mk p hb10 hb11)) (fun w6 G5 hS6 hle5=>?_)
  refine WL.split (fun (h2 : (spanB p) = true)=>?_) (fun (h2 : (spanB p) = false)=>?_)
  ·have hok : insOk t p = true:=insOk_y (by assumption) (by assumption)
   have hck : I64 (checkF d c t.s.cols):=checkF_I64
   refine dr [(8,false),(9,false),(10,false)] [(20, .agg #[.int .i64 c.kind,strV c.col,strV c.oth, .int .i64 c.v.k, .int .i64 c.v.n,strV c.v.s,lv1]),(23,v1),(24, .int .i64 (checkF d c t.s.cols)),(25, .agg #[strV t.s.name,v1, .int .i64 t.s.key,v2,v3, .int .i64 t.last]),(27, .int .i64 (timE t tx))] hS6 ⟨fun _ hSw=>WL.loadGAt hSw (hc2.mono ((hle3.trans hle4).trans hle5)) [.int .i64 c.kind,strV c.col,strV c.oth, .int .i64 c.v.k, .int .i64 c.v.n,strV c.v.s,lv1] ti51 rfl rfl rfl rfl rfl <| nu rfl rfl,fun _ hSw=>WL.loadG1 hSw (Cells.drop 1 (Cells.drop 0 (hc1.mono (((hle2.trans hle3).trans hle4).trans hle5)))) ti22 rfl rfl rfl <| nu rfl rfl,fun _ hSw=>WL.callD hSw hb28 rfl rfl rfl (c_Check hSw.imm _ c t.s.cols _ ((CondE _).mono ((((hle1.trans hle2).trans hle3).trans hle4).trans hle5) hcc) _ (hs1.mono ((((hle1.trans hle2).trans hle3).trans hle4).trans hle5))) rfl,fun _ hSw=>WL.loadGAt hSw (hc1.mono (((hle2.trans hle3).trans hle4).trans hle5)) [strV t.s.name,v1, .int .i64 t.s.key,v2,v3, .int .i64 t.last] ti28 rfl rfl rfl rfl rfl <| nu rfl rfl,fun _ hSw=>WL.callD hSw hb76 rfl rfl rfl (c_timely hSw.imm t tx _ (TableE_mk t hb1 (hs1.mono ((((hle1.trans hle2).trans hle3).trans hle4).trans hle5)) hb2 (hs2.mono ((((hle1.trans hle2).trans hle3).trans hle4).trans hle5)) (hs3.mono ((((hle1.trans hle2).trans hle3).trans hle4).trans hle5)) hb3)) rfl,trivial⟩ (fun w7 hS7=>?_)
   refine WL.buildSlice _ [(0,[.int .i64 (checkF d c t.s.cols)]),(1,[.int .i64 (timE t tx)])] [.int .i64 (checkF d c t.s.cols), .int .i64 (timE t tx)] hS7 sl157 rfl rfl rfl rfl (fun z hz=>by match z,hz with | [z0,z1],_=>rfl) (fun b2 w9 hn2 hS8=>?_)
   obtain ⟨G6,hle6,hs4,hS9⟩:=St.sealSl (E:=Enc.int) (by_:=8) (l:=([(checkF d c t.s.cols),(timE t tx)] : List Int)) hS8 hn2 ⟨[.int .i64 (checkF d c t.s.cols)],_,rfl,⟨rfl,(by assumption)⟩,⟨[.int .i64 (timE t tx)],_,rfl,⟨rfl,(I64_timE t tx)⟩,rfl⟩⟩ rfl (by simp [reach]) (by simp [reach])
   refine WL.cV hS9 hb75 rfl rfl rfl (c_OrE hS9.imm [(checkF d c t.s.cols),(timE t tx)] _ hs4) (fun w10 G7 hS10 hle7=>?_)
   refine WL.neqS (cmpOr [(checkF d c t.s.cols),(timE t tx)]) 0 rfl rfl rfl (fun h3=>?_) (fun h3=>?_)
   ·refine WL.build _ [] [strV [], .slice none 0 0, .int .i64 0, .slice none 0 0, .slice none 0 0, .int .i64 0] ti28 rfl fl28 rfl rfl rfl rfl ?_
    refine WL.store hS10 0 _ _ _ 0 _ [strV [], .slice none 0 0, .int .i64 0, .slice none 0 0, .slice none 0 0, .int .i64 0] [strV [], .slice none 0 0, .int .i64 0, .slice none 0 0, .slice none 0 0, .int .i64 0] _ rfl rfl ti28 rfl (Nat.le_of_ble_eq_true rfl) rfl rfl rfl rfl rfl rfl (fun w11 hS11=>?_)
    exact RTR [.agg #[strV [], .slice none 0 0, .int .i64 0, .slice none 0 0, .slice none 0 0, .int .i64 0], .int .i64 (cmpOr [(checkF d c t.s.cols),(timE t tx)])] hS11 ⟨_,_,_,rfl,rfl,hS11.loadA 0 _ _ _ 0 [strV [], .slice none 0 0, .int .i64 0, .slice none 0 0, .slice none 0 0, .int .i64 0] rfl rfl rfl ti28 rfl,⟨_,rfl,rfl⟩⟩ ⟨_,_,rfl,(Is.cast ⟨_,rfl,(TableE_mk (Table.mk (Schema.mk [] [] 0 []) [] 0) (by simp [reach]) (Sl.nil ColE 24 G7) I64_0 (Sl.nil ForeignE 40 G7) (Sl.nil HRowE 56 G7) I64_0)⟩ (by with_reducible exact (del_2 hok (by assumption)).1)),(congrArg (Value.int .i64) (by with_reducible exact (del_2 hok (by assumption)).2))⟩
   refine WL.loadGAt hS10 (hc1.mono (((((hle2.trans hle3).trans hle4).trans hle5).trans hle6).trans hle7)) [strV t.s.name,v1, .int .i64 t.s.key,v2,v3, .int .i64 t.last] ti28 rfl rfl rfl rfl rfl <| WL.loadGAt hS10 (hc2.mono ((((hle3.trans hle4).trans hle5).trans hle6).trans hle7)) [.int .i64 c.kind,strV c.col,strV c.oth, .int .i64 c.v.k, .int .i64 c.v.n,strV c.v.s,lv1] ti51 rfl rfl rfl rfl rfl <| WL.loadGAt hS10 (hc3.mono (((hle4.trans hle5).trans hle6).trans hle7)) [.int .i64 p.a, .int .i64 p.b] ti38 rfl rfl rfl rfl rfl ?_
   refine WL.cA hS10 hb84 rfl rfl rfl (c_change hS10.imm _ t tx c p (fun x8=>(none : Option (List Val))) _ (TableE_mk t hb1 (hs1.mono ((((((hle1.trans hle2).trans hle3).trans hle4).trans hle5).trans hle6).trans hle7)) hb2 (hs2.mono ((((((hle1.trans hle2).trans hle3).trans hle4).trans hle5).trans hle6).trans hle7)) (hs3.mono ((((((hle1.trans hle2).trans hle3).trans hle4).trans hle5).trans hle6).trans hle7)) hb3) _ ((CondE _).mono ((((((hle1.trans hle2).trans hle3).trans hle4).trans hle5).trans hle6).trans hle7) hcc) _ (SpanE_mk p hb10 hb11) 85 #[] ⟨hb85,fun G8 w8 v8 x8 hle8 hG8 hon8 hA8=>by exact c_hDelete1 hG8 x8 v8 hA8⟩ htx64 (del_ok hok (by assumption))) ?_
   rintro w12 G9 _ ⟨r2,_,rfl,hs5,rfl⟩ hS12 hle9
   obtain ⟨cs1,rfl,hr1⟩:=hs5
   obtain ⟨v4,v5,v6,rfl,hb12,hs6,hb13,hs7,hs8,hb14⟩:=TableE_open hr1
   refine WL.store hS12 0 _ _ _ 0 _ [strV ((doneT t tx (chgRows (hldB d c (nms t)) (fun x8=>(none : Option (List Val))) tx p t.rows)).s.name),v4, .int .i64 ((doneT t tx (chgRows (hldB d c (nms t)) (fun x8=>(none : Option (List Val))) tx p t.rows)).s.key),v5,v6, .int .i64 ((doneT t tx (chgRows (hldB d c (nms t)) (fun x8=>(none : Option (List Val))) tx p t.rows)).last)] [strV ((doneT t tx (chgRows (hldB d c (nms t)) (fun x8=>(none : Option (List Val))) tx p t.rows)).s.name),v4, .int .i64 ((doneT t tx (chgRows (hldB d c (nms t)) (fun x8=>(none : Option (List Val))) tx p t.rows)).s.key),v5,v6, .int .i64 ((doneT t tx (chgRows (hldB d c (nms t)) (fun x8=>(none : Option (List Val))) tx p t.rows)).last)] _ rfl rfl ti28 rfl (Nat.le_of_ble_eq_true rfl) (by simp only [List.all_cons,List.all_nil,hs6.oneC,hs7.oneC,hs8.oneC,Bool.true_and] <;> rfl) rfl rfl rfl rfl rfl (fun w13 hS13=>?_)
   exact RTR [.agg #[strV ((doneT t tx (chgRows (hldB d c (nms t)) (fun x8=>(none : Option (List Val))) tx p t.rows)).s.name),v4, .int .i64 ((doneT t tx (chgRows (hldB d c (nms t)) (fun x8=>(none : Option (List Val))) tx p t.rows)).s.key),v5,v6, .int .i64 ((doneT t tx (chgRows (hldB d c (nms t)) (fun x8=>(none : Option (List Val))) tx p t.rows)).last)], .int .i64 (doneTE (chgRows (hldB d c (nms t)) (fun x8=>(none : Option (List Val))) tx p t.rows))] hS13 ⟨_,_,_,rfl,rfl,hS13.loadA 0 _ _ _ 0 [strV ((doneT t tx (chgRows (hldB d c (nms t)) (fun x8=>(none : Option (List Val))) tx p t.rows)).s.name),v4, .int .i64 ((doneT t tx (chgRows (hldB d c (nms t)) (fun x8=>(none : Option (List Val))) tx p t.rows)).s.key),v5,v6, .int .i64 ((doneT t tx (chgRows (hldB d c (nms t)) (fun x8=>(none : Option (List Val))) tx p t.rows)).last)] rfl rfl rfl ti28 rfl,⟨_,rfl,rfl⟩⟩ ⟨_,_,rfl,(Is.cast ⟨_,rfl,(TableE_mk (doneT t tx (chgRows (hldB d c (nms t)) (fun x8=>(none : Option (List Val))) tx p t.rows)) hb12 hs6 hb13 hs7 hs8 hb14)⟩ (by with_reducible exact (del_3 hok (by assumption)).1)),(congrArg (Value.int .i64) (by with_reducible exact (del_3 hok (by assumption)).2))⟩
  refine WL.build _ [] [strV [], .slice none 0 0, .int .i64 0, .slice none 0 0, .slice none 0 0, .int .i64 0] ti28 rfl fl28 rfl rfl rfl rfl ?_
  refine WL.store hS6 0 _ _ _ 0 _ [strV [], .slice none 0 0, .int .i64 0, .slice none 0 0, .slice none 0 0, .int .i64 0] [strV [], .slice none 0 0, .int .i64 0, .slice none 0 0, .slice none 0 0, .int .i64 0] _ rfl rfl ti28 rfl (Nat.le_of_ble_eq_true rfl) rfl rfl rfl rfl rfl rfl (fun w14 hS14=>?_)
  exact RTR [.agg #[strV [], .slice none 0 0, .int .i64 0, .slice none 0 0, .slice none 0 0, .int .i64 0], .int .i64 1] hS14 ⟨_,_,_,rfl,rfl,hS14.loadA 0 _ _ _ 0 [strV [], .slice none 0 0, .int .i64 0, .slice none 0 0, .slice none 0 0, .int .i64 0] rfl rfl rfl ti28 rfl,⟨_,rfl,rfl⟩⟩ ⟨_,_,rfl,(Is.cast ⟨_,rfl,(TableE_mk (Table.mk (Schema.mk [] [] 0 []) [] 0) (by simp [reach]) (Sl.nil ColE 24 G5) I64_0 (Sl.nil ForeignE 40 G5) (Sl.nil HRowE 56 G5) I64_0)⟩ (by with_reducible exact (del_1 (insOk_2 (by assumption))).1)),(congrArg (Value.int .i64) (by with_reducible exact (del_1 (insOk_2 (by assumption))).2))⟩
 refine WL.build _ [] [strV [], .slice none 0 0, .int .i64 0, .slice none 0 0, .slice none 0 0, .int .i64 0] ti28 rfl fl28 rfl rfl rfl rfl ?_
 refine WL.store hS5 0 _ _ _ 0 _ [strV [], .slice none 0 0, .int .i64 0, .slice none 0 0, .slice none 0 0, .int .i64 0] [strV [], .slice none 0 0, .int .i64 0, .slice none 0 0, .slice none 0 0, .int .i64 0] _ rfl rfl ti28 rfl (Nat.le_of_ble_eq_true rfl) rfl rfl rfl rfl rfl rfl (fun w15 hS15=>?_)
 exact RTR [.agg #[strV [], .slice none 0 0, .int .i64 0, .slice none 0 0, .slice none 0 0, .int .i64 0], .int .i64 1] hS15 ⟨_,_,_,rfl,rfl,hS15.loadA 0 _ _ _ 0 [strV [], .slice none 0 0, .int .i64 0, .slice none 0 0, .slice none 0 0, .int .i64 0] rfl rfl rfl ti28 rfl,⟨_,rfl,rfl⟩⟩ ⟨_,_,rfl,(Is.cast ⟨_,rfl,(TableE_mk (Table.mk (Schema.mk [] [] 0 []) [] 0) (by simp [reach]) (Sl.nil ColE 24 G4) I64_0 (Sl.nil ForeignE 40 G4) (Sl.nil HRowE 56 G4) I64_0)⟩ (by with_reducible exact (del_1 (insOk_1 (by assumption))).1)),(congrArg (Value.int .i64) (by with_reducible exact (del_1 (insOk_1 (by assumption))).2))⟩
end Go.Civ
set_option linter.unusedVariables false
set_option linter.unusedSimpArgs false
set_option maxRecDepth 100000
set_option maxHeartbeats 4000000
namespace Go.Civ
open Go.Proofs
theorem c_Snapshot {G : GH} {w : World} (hG : G.In w) (t : Table) (at_ tx : Int) (ct : List Value) (hct : TableE.rep G t ct) : CL Tryz.prog (nat_lit 31) #[.agg ct.toArray, .int .i64 at_, .int .i64 tx] [] w G fun G' _ r=>Sl (ValE.slice 32) 24 G' r (snapH t at_ tx):=by
 refine calls_of_go ft [] Tryz.func31 rfl rfl ?_
 have hS:=St.start (X:=[]) hG
 obtain ⟨v1,v2,v3,rfl,hb1,hs1,hb2,hs2,hs3,hb3⟩:=TableE_open hct
 refine WL.boxG [strV t.s.name,v1, .int .i64 t.s.key,v2,v3, .int .i64 t.last] _ hS rfl rfl rfl (fun p1 w1 G1 hle1 hsp1 hc1 hS1=>?_)
 refine WL.loadGAt hS1 hc1 [strV t.s.name,v1, .int .i64 t.s.key,v2,v3, .int .i64 t.last] ti28 rfl rfl rfl rfl rfl ?_
 refine WL.cV hS1 hb15 rfl rfl rfl (c_hValid hS1.imm t _ (TableE_mk t hb1 (hs1.mono hle1) hb2 (hs2.mono hle1) (hs3.mono hle1) hb3)) (fun w2 G2 hS2 hle2=>?_)
 refine WL.split (fun (h1 : (validT t) = true)=>?_) (fun (h1 : (validT t) = false)=>?_)
 ·refine WL.cV hS2 hb91 rfl rfl rfl (c_instant hS2.imm at_) (fun w3 G3 hS3 hle3=>?_)
  refine WL.split (fun (h2 : (instB at_) = true)=>?_) (fun (h2 : (instB at_) = false)=>?_)
  ·refine WL.cV hS3 hb91 rfl rfl rfl (c_instant hS3.imm tx) (fun w4 G4 hS4 hle4=>?_)
   refine WL.split (fun (h3 : (instB tx) = true)=>?_) (fun (h3 : (instB tx) = false)=>?_)
   ·obtain ⟨hg9,hn9,h89,_⟩:=validT_good (by assumption : validT t = true)
    have hgl:=@grpH_len t.rows
    refine WL.loadG1 hS4 (Cells.drop 4 (hc1.mono ((hle2.trans hle3).trans hle4))) ti26 rfl rfl rfl ?_
    refine WL.cA hS4 hb92 rfl rfl rfl (c_groups hS4.imm t.rows _ (hs3.mono (((hle1.trans hle2).trans hle3).trans hle4)) hg9 (le1000 h89) (Nat.le_trans hn9 (by decide))) (fun w5 G5 r1 hpost1 hS5 hle5=>?_)
    have bd1:=hpost1.bound
    refine WL.lenSl hpost1 ul125 rfl rfl ?_
    have hS7:=hS5.pad
    refine LP.go ft [] (fun m ρ1 w1=>∃ (k1 : Nat),∃ (v4 : Value) (o1 : OB),∃ (G6 : GH),m = (grpH t.rows).length - k1 ∧ G5.le G6 ∧ St w [] G G6 [o1] w1 ∧ Row (ValE.slice 32) 24 36 G6 v4 (snapP ((grpH t.rows).take k1) at_ tx) o1 ∧ FR ρ1 [(1, .int .i64 at_),(2, .int .i64 tx),(7,v4),(25,r1),(26, .int .i64 (((grpH t.rows).length : Nat) : Int)),(27, .int .i64 (k1 : Int))] ∧ k1 ≤ (grpH t.rows).length) _ ⟨0,(.slice none 0 0),none,G5,rfl,(G5.le_refl),hS7,(Row.cast (Row.nil (ValE.slice 32) 24 36 G5) (by rfl)),⟨rfl,rfl,rfl,rfl,rfl,rfl,trivial⟩,(by omega)⟩ ?_
    rintro m ρ1 w6 ⟨k1,v4,o1,G6,rfl,hle6,hS6,hr1,hF9,f1⟩
    refine hF9.set ?_
    clear hF9
    have hsl:=snapP_len (grpH t.rows) k1 at_ tx
    refine WL.lssS (k1 : Int) (((grpH t.rows).length : Nat) : Int) rfl rfl rfl (fun h4=>?_) (fun h4=>?_)
    ·refine WL.indexAddr (hpost1.mono hle6) k1 (by omega) ul125 ti128 rfl rfl rfl rfl (fun p2 x1 hx1 he1=>?_)
     obtain ⟨cs1,hc2,hr2⟩:=he1
     obtain ⟨v5,v6,rfl,hs4,hs5⟩:=HGrpE_open hr2
     refine WL.loadGAt hS6 hc2 [v5,v6] ti128 rfl rfl rfl rfl rfl ?_
     refine WL.alloc hS6 ti128 rfl rfl (fun b1 w7 hn1 hS8=>?_)
     refine WL.store hS8 0 _ _ _ 0 _ [v5,v6] [v5,v6] _ rfl rfl ti128 rfl (Nat.le_of_ble_eq_true rfl) (by simp only [List.all_cons,List.all_nil,hs4.oneC,hs5.oneC,Bool.true_and] <;> rfl) rfl rfl rfl rfl rfl (fun w9 hS9=>?_)
     obtain ⟨G7,hle7,hc3,hS10⟩:=hS9.shutB hn1
     have hok9:=grpH_ok hg9 (Nat.le_trans hn9 (by decide)) (by assumption : (grpH t.rows)[k1]? = some _)
     refine WL.loadG1 hS10 (Cells.drop 1 hc3) ti26 rfl rfl rfl ?_
     refine WL.cA hS10 hb93 rfl rfl rfl (c_htimes hS10.imm x1.t tx _ (hs5.mono hle7) hok9.1 hok9.2) (fun w10 G9 r2 hpost2 hS11 hle9=>?_)
     refine WL.cV hS11 hb94 rfl rfl rfl (c_runsHas hS11.imm (timesH x1.t tx) at_ _ hpost2 (timesH_can hok9.1 _) (timesH_V hok9.1 _) (Nat.le_trans (timesH_len _ _) hok9.2)) (fun w11 G10 hS12 hle10=>?_)
     refine WL.split (fun (h5 : (inR (timesH x1.t tx) at_) = true)=>?_) (fun (h5 : (inR (timesH x1.t tx) at_) = false)=>?_)
     ·refine WL.loadG1 hS12 (Cells.drop 0 (hc3.mono (hle9.trans hle10))) ti36 rfl rfl rfl ?_
      refine WL.cA hS12 hb54 rfl rfl rfl (c_CloneVs hS12.imm x1.v _ (hs4.mono ((hle7.trans hle9).trans hle10))) (fun w12 G11 r3 hpost3 hS13 hle11=>?_)
      refine WL.buildSlice _ [(0,[r3])] [r3] hS13 sl56 rfl rfl rfl (by show [(0,(r3 : Value).cells.toList)] = _; simp only [hpost3.cells1] <;> rfl) (fun z hz=>by match z,hz with | [z0],_=>rfl) (fun b2 w13 hn2 hS14=>?_)
      refine WL.push (m:=([x1.v] : List (List Val))) sl56 rfl rfl rfl (hr1.mono (((hle7.trans hle9).trans hle10).trans hle11)) hS14 1 rfl 0 _ _ _ _ _ rfl ⟨[r3],_,rfl,⟨_,rfl,hpost3⟩,rfl⟩ rfl (by have hreach : reach = 140737488355328:=rfl; simp only [List.length_append,List.length_cons,List.length_nil]; omega) (by have hreach : reach = 140737488355328:=rfl; simp only [List.length_append,List.length_cons,List.length_nil]; omega) rfl rfl rfl (fun v7 o2 w14 hr3 hS15=>?_)
      have hS16:=hS15.tail
      refine WL.incr k1 (by have hreach : reach = 140737488355328:=rfl; omega) rfl rfl rfl ?_
      exact BK.mk' _ ⟨k1 + 1,v7,o2,G11,rfl,(hle6.trans (((hle7.trans hle9).trans hle10).trans hle11)),hS16,(Row.cast hr3 (by (exact (snapP_yes (by assumption) (by assumption)).symm))),⟨rfl,rfl,rfl,rfl,rfl,rfl,trivial⟩,(by omega)⟩ (show (grpH t.rows).length - (k1 + 1) < (grpH t.rows).length - k1 by omega)
     refine WL.incr k1 (by have hreach : reach = 140737488355328:=rfl; omega) rfl rfl rfl ?_
     exact BK.mk' _ ⟨k1 + 1,v4,o1,G10,rfl,(hle6.trans ((hle7.trans hle9).trans hle10)),hS12,(Row.cast (hr1.mono ((hle7.trans hle9).trans hle10)) (by (exact (snapP_no (by assumption) (by assumption)).symm))),⟨rfl,rfl,rfl,rfl,rfl,rfl,trivial⟩,(by omega)⟩ (show (grpH t.rows).length - (k1 + 1) < (grpH t.rows).length - k1 by omega)
    obtain ⟨G12,hle12,hs6,hS17⟩:=Row.freeze hr1 hS6 0 rfl
    exact RT hS17 rfl (Sl.cast hs6 (by exact snap_y (by assumption) (by assumption) (by assumption) (by omega)))
   exact RT hS4 rfl (Sl.cast (Sl.nil (ValE.slice 32) 24 G4) (by exact snap_3 (by assumption)))
  exact RT hS3 rfl (Sl.cast (Sl.nil (ValE.slice 32) 24 G3) (by exact snap_2 (by assumption)))
 exact RT hS2 rfl (Sl.cast (Sl.nil (ValE.slice 32) 24 G2) (by exact snap_1 (by assumption)))
end Go.Civ
namespace Go.Civ
open Go.RowKit
set_option linter.unusedVariables false
section
variable {α : Type} (pf : α → Bool)
def dStep (s : List α × Nat) (x : α) : List α × Nat := if pf x then s else (s.1.set s.2 x, s.2 + 1)
def dS (l : List α) (n k : Nat) : List α × Nat := ((l.take k).drop (n + 1)).foldl (dStep pf) (l, n)
variable {pf} {l : List α} {n k : Nat}
theorem dS_0 : dS pf l n (n + 1) = (l, n) := by
  unfold dS
  rw [List.drop_of_length_le (by rw [List.length_take]; omega)]; rfl
theorem dS_step {x : α} (hk : n + 1 ≤ k) (h : l[k]? = some x) : dS pf l n (k + 1) = dStep pf (dS pf l n k) x := by
  unfold dS
  have hl := (List.getElem?_eq_some_iff.1 h).1
  rw [List.take_add_one, h, List.drop_append_of_le_length (by rw [List.length_take]; omega)]
  simp [List.foldl_append]
structure DInv (pf : α → Bool) (l : List α) (n k : Nat) : Prop where
  len : (dS pf l n k).1.length = l.length
  lt : (dS pf l n k).2 < k
  rest : ∀ j, k ≤ j → (dS pf l n k).1[j]? = l[j]?
  pre : (dS pf l n k).1.take (dS pf l n k).2 = (l.take k).filter fun x => !pf x
theorem dS_inv {y : α} (hy : l[n]? = some y) (hp : pf y = true) (hn : ∀ j, j < n → ∀ x, l[j]? = some x → pf x = false) : ∀ k, n + 1 ≤ k → k ≤ l.length → DInv pf l n k := by
  intro k hk
  induction k with
  | zero => omega
  | succ k ih =>
    intro hl
    by_cases e : k = n
    · subst e
      refine ⟨by rw [dS_0], by rw [dS_0]; exact Nat.lt_succ_self _, fun j hj => by rw [dS_0], ?_⟩
      rw [dS_0]
      simp only
      rw [List.take_add_one, hy, List.filter_append]
      have e1 : (l.take k).filter (fun x => !pf x) = l.take k := List.filter_eq_self.2 fun x hx => by
        obtain ⟨j, hj⟩ := List.getElem?_of_mem hx
        rw [List.getElem?_take] at hj
        split at hj
        · rename_i h; rw [hn j h x hj]; rfl
        · cases hj
      rw [e1]
      simp [hp]
    · have I := ih (by omega) (by omega)
      have hx : l[k]? = some l[k] := List.getElem?_eq_getElem (by omega)
      have hs := dS_step (pf := pf) (n := n) (by omega) hx
      have hf : (l.take (k + 1)).filter (fun x => !pf x) = (l.take k).filter (fun x => !pf x) ++ if pf l[k] then [] else [l[k]] := by
        rw [List.take_add_one, hx, List.filter_append]
        cases hq : pf l[k] <;> simp [hq]
      unfold dStep at hs
      cases hq : pf l[k] with
      | true =>
        rw [hq] at hs
        simp only [if_true] at hs
        exact ⟨by rw [hs]; exact I.len, by rw [hs]; have := I.lt; omega, fun j hj => by rw [hs]; exact I.rest j (by omega), by rw [hs, hf, hq, I.pre]; simp⟩
      | false =>
        rw [hq] at hs
        simp only [Bool.false_eq_true, if_false] at hs
        have hlt := I.lt
        have hlen := I.len
        refine ⟨by rw [hs, List.length_set]; exact I.len, by rw [hs]; simp only; omega, fun j hj => ?_, ?_⟩
        · rw [hs]
          simp only
          rw [List.getElem?_set_ne (by omega)]
          exact I.rest j (by omega)
        · rw [hs, hf, hq]
          simp only [Bool.false_eq_true, if_false]
          rw [List.take_add_one, List.take_set_of_le (Nat.le_refl _), I.pre, List.getElem?_set_self (by omega)]
          rfl
theorem dS_mem {y x : α} (hy : l[n]? = some y) (hp : pf y = true) (hn : ∀ j, j < n → ∀ x, l[j]? = some x → pf x = false) (hk : n + 1 ≤ k) (hl : k ≤ l.length) (h : (dS pf l n k).1[k]? = some x) : l[k]? = some x := by
  rw [← (dS_inv hy hp hn k hk hl).rest k (Nat.le_refl _)]; exact h
theorem dS_yes {x : α} (hk : n + 1 ≤ k) (h : l[k]? = some x) (hp : pf x = true) : dS pf l n (k + 1) = dS pf l n k := by rw [dS_step hk h]; unfold dStep; rw [hp]; rfl
theorem dS_no {x : α} (hk : n + 1 ≤ k) (h : l[k]? = some x) (hp : pf x = false) : dS pf l n (k + 1) = ((dS pf l n k).1.set (dS pf l n k).2 x, (dS pf l n k).2 + 1) := by rw [dS_step hk h]; unfold dStep; rw [hp]; rfl
theorem idx_nat (h : idxF pf l ≠ -1) : ∃ m : Nat, idxF pf l = (m : Int) ∧ ∃ y, l[m]? = some y ∧ pf y = true ∧ ∀ j, j < m → ∀ x, l[j]? = some x → pf x = false := by
  unfold idxF at h ⊢
  cases e : l.findIdx? pf with
  | none => rw [e] at h; exact absurd rfl h
  | some m =>
    rw [List.findIdx?_eq_some_iff_getElem] at e
    obtain ⟨hl, h1, h2⟩ := e
    refine ⟨m, rfl, l[m], List.getElem?_eq_getElem hl, h1, fun j hj x hx => ?_⟩
    obtain ⟨_, rfl⟩ := List.getElem?_eq_some_iff.1 hx
    simpa using h2 j hj
theorem idx_none (h : idxF pf l = -1) : l = l.filter fun x => !pf x := by
  symm
  rw [List.filter_eq_self]
  intro x hx
  unfold idxF at h
  cases e : l.findIdx? pf with
  | none =>
    rw [List.findIdx?_eq_none_iff] at e
    rw [e x hx]; rfl
  | some m => rw [e] at h; simp at h
theorem dS_end {y z : α} {m : Nat} (hy : l[n]? = some y) (hp : pf y = true) (hn : ∀ j, j < n → ∀ x, l[j]? = some x → pf x = false) (hk : n + 1 ≤ k) (hl : k ≤ l.length) (he : l.length ≤ k) :
    ((dS pf l n k).1.take (dS pf l n k).2 ++ List.replicate m z).take (dS pf l n k).2 = l.filter fun x => !pf x := by
  have I := dS_inv hy hp hn k hk hl
  have hlt := I.lt
  have hlen := I.len
  rw [List.take_append_of_le_length (by rw [List.length_take]; omega), List.take_take, Nat.min_self, I.pre, List.take_of_length_le he]
end
end Go.Civ
