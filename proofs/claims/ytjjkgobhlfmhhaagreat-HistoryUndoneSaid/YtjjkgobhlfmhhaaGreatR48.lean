/- Lemmas: Wm3, Wm4, Wn0, Wn1, Sy, Civ75. -/
import Derived.Test.YtjjkgobhlfmhhaaGreatR25
import Derived.Test.YtjjkgobhlfmhhaaGreatR29
import Derived.Test.YtjjkgobhlfmhhaaGreatR32
import Derived.Test.YtjjkgobhlfmhhaaGreatR38
import Derived.Test.YtjjkgobhlfmhhaaGreatR43
import Derived.Test.YtjjkgobhlfmhhaaGreatR45
import Derived.Test.YtjjkgobhlfmhhaaGreatR47
import Derived.Test.YtjjkgobhlfmhhaaGreatProg
import Derived.KernelRfl
import Derived.WalkKit
set_option linter.unusedVariables false
set_option linter.unusedSimpArgs false
set_option maxRecDepth 100000
set_option maxHeartbeats 4000000
namespace Go.Civ
open Go.Proofs
theorem c_great1 {G : GH} {w : World} (hG : G.In w) (x : HRow) (cx : List Value) (hcx : HRowE.rep G x cx) : CL Tryz.prog (nat_lit 63) #[.agg cx.toArray] [] w G fun _ _ r=>r = .bool (longB x):=by
 refine calls_of_go ft [] Tryz.func63 rfl rfl ?_
 have hS:=St.start (X:=[]) hG
 obtain ⟨v1,rfl,hs1,hb1,hb2,hb3,hb4⟩:=HRowE_open hcx
 refine WL.boxG [v1, .int .i64 x.r.d.a, .int .i64 x.r.d.b, .int .i64 x.r.x.a, .int .i64 x.r.x.b] _ hS rfl rfl rfl (fun p1 w1 G1 hle1 hsp1 hc1 hS1=>?_)
 refine WL.loadG1 hS1 (Cells.drop 0 hc1) ti36 rfl rfl rfl ?_
 have bd1:=hs1.bound
 refine WL.lenSl (hs1.mono hle1) ul36 rfl rfl <| WL.cmp .gtr rfl .i64 (x.v.length : Int) 8 rfl rfl rfl ?_
 exact RB hS1 rfl (by rfl)
theorem c_great {G : GH} {w : World} (hG : G.In w) (l : List HRow) (vl : Value) (hvl : Sl HRowE 56 G vl l) : CL Tryz.prog (nat_lit 14) #[vl] [] w G fun _ _ r=>r = .bool (greatH l):=by
 refine calls_of_go ft [] Tryz.func14 rfl rfl ?_
 have hS:=St.start (X:=[]) hG
 have bd1:=hvl.bound
 refine WL.lenSl hvl ul26 rfl rfl ?_
 refine WL.gtrS (l.length : Int) 24 rfl rfl rfl (fun h1=>?_) (fun h1=>?_)
 ·exact RB hS rfl (by exact great_1 (by assumption))
 refine WL.cV hS hb34 rfl rfl rfl (c_ContainsR hS.imm l (fun x8=>longB x8) _ hvl 63 #[] ⟨hb63,fun G8 w8 v8 x8 hle8 hG8 hon8 hA8=>by obtain ⟨cs_x8,rfl,hr_x8⟩:=hA8; exact c_great1 hG8 x8 cs_x8 hr_x8⟩) (fun w1 G1 hS1 hle1=>?_)
 exact RB hS1 rfl (by exact great_2 (by omega))
theorem c_column {G : GH} {w : World} (hG : G.In w) : CL Tryz.prog (nat_lit 62) #[] [] w G fun G' _ r=>Is SchemaE G' r colT:=by
 refine calls_of_goR ft [] Tryz.func62 rfl rfl ?_
 have hS:=St.start (X:=[]) hG
 refine WL.alloc hS ti25 rfl rfl (fun b1 w1 hn1 hS1=>?_)
 refine WL.build _ [(0,[strV [97]]),(1,[.int .i64 1])] [strV [97], .int .i64 1] ti86 rfl fl86 rfl rfl rfl rfl ?_
 refine WL.buildSlice _ [(0,[strV [97], .int .i64 1])] [strV [97], .int .i64 1] hS1 sl22 rfl rfl rfl rfl (fun z hz=>by match z,hz with | [z0,z1],_=>rfl) (fun b2 w2 hn2 hS2=>?_)
 obtain ⟨G1,hle1,hs1,hS3⟩:=St.sealSl (E:=ColE) (by_:=24) (l:=([(Col.mk [97] 1)] : List Col)) hS2 hn2 ⟨[strV [97], .int .i64 1],_,rfl,(ColE_mk (Col.mk [97] 1) (by simp [reach]) (show I64 1 from by constructor <;> decide)),rfl⟩ rfl (by simp [reach]) (by simp [reach])
 refine WL.build _ [(0,[strV [116]]),(1,[.slice (some ⟨b2,0,none⟩) 1 1]),(2,[.int .i64 1])] [strV [116], .slice (some ⟨b2,0,none⟩) 1 1, .int .i64 1, .slice none 0 0] ti25 rfl fl25 rfl rfl rfl rfl ?_
 refine WL.store hS3 0 _ _ _ 0 _ [strV [116], .slice (some ⟨b2,0,none⟩) 1 1, .int .i64 1, .slice none 0 0] [strV [116], .slice (some ⟨b2,0,none⟩) 1 1, .int .i64 1, .slice none 0 0] _ rfl rfl ti25 rfl (Nat.le_of_ble_eq_true rfl) (by simp only [List.all_cons,List.all_nil,hs1.oneC,Bool.true_and] <;> rfl) rfl rfl rfl rfl rfl (fun w3 hS4=>?_)
 obtain ⟨G2,hle2,hc1,hS5⟩:=hS4.shutB hn1
 exact RTR [.agg #[strV [116], .slice (some ⟨b2,0,none⟩) 1 1, .int .i64 1, .slice none 0 0]] hS5 ⟨_,_,_,rfl,rfl,hS5.loadC hc1 ti25 rfl rfl,rfl⟩ (Is.cast ⟨_,rfl,(SchemaE_mk (Schema.mk [116] [(Col.mk [97] 1)] 1 []) (by simp [reach]) (hs1.mono hle2) (show I64 1 from by constructor <;> decide) (Sl.nil ForeignE 40 G2))⟩ (by rfl))
end Go.Civ
set_option linter.unusedVariables false
set_option linter.unusedSimpArgs false
set_option maxRecDepth 100000
set_option maxHeartbeats 4000000
namespace Go.Civ
open Go.Proofs
theorem c_awake {G : GH} {w : World} (hG : G.In w) : CL Tryz.prog (nat_lit 13) #[] [] w G fun _ _ r=>r = .bool true:=by
 refine calls_of_go ft [] Tryz.func13 rfl rfl ?_
 have hS:=St.start (X:=[]) hG
 refine WL.cA hS hb62 rfl rfl rfl (c_column hS.imm) (fun w1 G1 r1 hpost1 hS1 hle1=>?_)
 obtain ⟨cs1,rfl,hr1⟩:=hpost1
 obtain ⟨v1,v2,rfl,hb1,hs1,hb2,hs2⟩:=SchemaE_open hr1
 refine WL.cA hS1 hb17 rfl rfl rfl (c_hNew hS1.imm colT _ (SchemaE_mk colT hb1 hs1 hb2 hs2)) ?_
 rintro w2 G2 _ ⟨r3,_,rfl,hs3,rfl⟩ hS2 hle2
 obtain ⟨cs2,rfl,hr2⟩:=hs3
 obtain ⟨v3,v4,v5,rfl,hb3,hs4,hb4,hs5,hs6,hb5⟩:=TableE_open hr2
 refine WL.alloc hS2 ti28 rfl rfl (fun b1 w3 hn1 hS3=>?_)
 refine WL.store hS3 0 _ _ _ 0 _ [strV ((newT colT).s.name),v3, .int .i64 ((newT colT).s.key),v4,v5, .int .i64 ((newT colT).last)] [strV ((newT colT).s.name),v3, .int .i64 ((newT colT).s.key),v4,v5, .int .i64 ((newT colT).last)] _ rfl rfl ti28 rfl (Nat.le_of_ble_eq_true rfl) (by simp only [List.all_cons,List.all_nil,hs4.oneC,hs5.oneC,hs6.oneC,Bool.true_and] <;> rfl) rfl rfl rfl rfl rfl (fun w4 hS4=>?_)
 refine WL.build _ [(0,[.int .i64 1]),(1,[.int .i64 5])] [.int .i64 1, .int .i64 5,strV []] ti48 rfl fl48 rfl rfl rfl rfl ?_
 refine WL.buildSlice _ [(0,[.int .i64 1, .int .i64 5,strV []])] [.int .i64 1, .int .i64 5,strV []] hS4 sl36 rfl rfl rfl rfl (fun z hz=>by match z,hz with | [z0,z1,z2],_=>rfl) (fun b2 w5 hn2 hS5=>?_)
 refine WL.loadOA hS5 1 _ _ _ 0 [strV ((newT colT).s.name),v3, .int .i64 ((newT colT).s.key),v4,v5, .int .i64 ((newT colT).last)] rfl rfl rfl ti28 rfl rfl rfl <| WL.build _ [(0,[.int .i64 0]),(1,[.int .i64 100])] [.int .i64 0, .int .i64 100] ti38 rfl fl38 rfl rfl rfl rfl ?_
 obtain ⟨G3,hle3,hs7,hS6⟩:=St.sealSl (E:=ValE) (by_:=32) (l:=([(Val.mk 1 5 [])] : List Val)) hS5 hn2 ⟨[.int .i64 1, .int .i64 5,strV []],_,rfl,(ValE_mk (Val.mk 1 5 []) (show I64 1 from by constructor <;> decide) (show I64 5 from by constructor <;> decide) (by simp [reach])),rfl⟩ rfl (by simp [reach]) (by simp [reach])
 refine WL.cA hS6 hb20 rfl rfl rfl (c_hInsert hS6.imm (newT colT) 10 [(Val.mk 1 5 [])] (Span.mk 0 100) _ (TableE_mk (newT colT) hb3 (hs4.mono hle3) hb4 (hs5.mono hle3) (hs6.mono hle3) hb5) _ hs7 _ (SpanE_mk (Span.mk 0 100) (show I64 0 from by constructor <;> decide) (show I64 100 from by constructor <;> decide)) (show I64 10 from by constructor <;> decide)) ?_
 rintro w6 G4 _ ⟨r6,_,rfl,hs8,rfl⟩ hS7 hle4
 obtain ⟨cs3,rfl,hr3⟩:=hs8
 obtain ⟨v6,v7,v9,rfl,hb6,hs9,hb7,hs10,hs11,hb8⟩:=TableE_open hr3
 refine WL.store hS7 0 _ _ _ 0 _ [strV ((insT (newT colT) 10 [(Val.mk 1 5 [])] (Span.mk 0 100)).s.name),v6, .int .i64 ((insT (newT colT) 10 [(Val.mk 1 5 [])] (Span.mk 0 100)).s.key),v7,v9, .int .i64 ((insT (newT colT) 10 [(Val.mk 1 5 [])] (Span.mk 0 100)).last)] [strV ((insT (newT colT) 10 [(Val.mk 1 5 [])] (Span.mk 0 100)).s.name),v6, .int .i64 ((insT (newT colT) 10 [(Val.mk 1 5 [])] (Span.mk 0 100)).s.key),v7,v9, .int .i64 ((insT (newT colT) 10 [(Val.mk 1 5 [])] (Span.mk 0 100)).last)] _ rfl rfl ti28 rfl (Nat.le_of_ble_eq_true rfl) (by simp only [List.all_cons,List.all_nil,hs9.oneC,hs10.oneC,hs11.oneC,Bool.true_and] <;> rfl) rfl rfl rfl rfl rfl (fun w7 hS8=>?_)
 refine WL.loadOA hS8 0 _ _ _ 0 [strV ((insT (newT colT) 10 [(Val.mk 1 5 [])] (Span.mk 0 100)).s.name),v6, .int .i64 ((insT (newT colT) 10 [(Val.mk 1 5 [])] (Span.mk 0 100)).s.key),v7,v9, .int .i64 ((insT (newT colT) 10 [(Val.mk 1 5 [])] (Span.mk 0 100)).last)] rfl rfl rfl ti28 rfl rfl rfl <| WL.build _ [(0,[.int .i64 3])] [.int .i64 3,strV [],strV [], .int .i64 0, .int .i64 0,strV [], .slice none 0 0] ti51 rfl fl51 rfl rfl rfl rfl <| WL.build _ [(0,[.int .i64 40]),(1,[.int .i64 60])] [.int .i64 40, .int .i64 60] ti38 rfl fl38 rfl rfl rfl rfl ?_
 refine WL.cA hS8 hb27 rfl rfl rfl (c_hDelete hS8.imm 1 (insT (newT colT) 10 [(Val.mk 1 5 [])] (Span.mk 0 100)) 20 (Cond.mk 3 [] [] (Val.mk 0 0 []) []) (Span.mk 40 60) _ (TableE_mk (insT (newT colT) 10 [(Val.mk 1 5 [])] (Span.mk 0 100)) hb6 hs9 hb7 hs10 hs11 hb8) _ ((CondE_succ (d:=0)).2 ⟨_,rfl,(show I64 3 from by constructor <;> decide),(by simp [reach]),(by simp [reach]),I64_0,I64_0,(by simp [reach]),Sl.nil (CondE 0) 96 G4⟩) _ (SpanE_mk (Span.mk 40 60) (show I64 40 from by constructor <;> decide) (show I64 60 from by constructor <;> decide)) (show I64 20 from by constructor <;> decide)) ?_
 rintro w9 G5 _ ⟨r9,_,rfl,hs12,rfl⟩ hS9 hle5
 obtain ⟨cs4,rfl,hr4⟩:=hs12
 obtain ⟨v10,v11,v12,rfl,hb9,hs13,hb10,hs14,hs15,hb11⟩:=TableE_open hr4
 refine WL.store hS9 0 _ _ _ 0 _ [strV ((delT 1 (insT (newT colT) 10 [(Val.mk 1 5 [])] (Span.mk 0 100)) 20 (Cond.mk 3 [] [] (Val.mk 0 0 []) []) (Span.mk 40 60)).s.name),v10, .int .i64 ((delT 1 (insT (newT colT) 10 [(Val.mk 1 5 [])] (Span.mk 0 100)) 20 (Cond.mk 3 [] [] (Val.mk 0 0 []) []) (Span.mk 40 60)).s.key),v11,v12, .int .i64 ((delT 1 (insT (newT colT) 10 [(Val.mk 1 5 [])] (Span.mk 0 100)) 20 (Cond.mk 3 [] [] (Val.mk 0 0 []) []) (Span.mk 40 60)).last)] [strV ((delT 1 (insT (newT colT) 10 [(Val.mk 1 5 [])] (Span.mk 0 100)) 20 (Cond.mk 3 [] [] (Val.mk 0 0 []) []) (Span.mk 40 60)).s.name),v10, .int .i64 ((delT 1 (insT (newT colT) 10 [(Val.mk 1 5 [])] (Span.mk 0 100)) 20 (Cond.mk 3 [] [] (Val.mk 0 0 []) []) (Span.mk 40 60)).s.key),v11,v12, .int .i64 ((delT 1 (insT (newT colT) 10 [(Val.mk 1 5 [])] (Span.mk 0 100)) 20 (Cond.mk 3 [] [] (Val.mk 0 0 []) []) (Span.mk 40 60)).last)] _ rfl rfl ti28 rfl (Nat.le_of_ble_eq_true rfl) (by simp only [List.all_cons,List.all_nil,hs13.oneC,hs14.oneC,hs15.oneC,Bool.true_and] <;> rfl) rfl rfl rfl rfl rfl (fun w10 hS10=>?_)
 refine WL.neqS (newE colT) 0 rfl rfl rfl (fun h1=>?_) (fun h1=>?_)
 ·exact RB hS10 rfl (by exact absurd aw_new.2 (by assumption))
 refine WL.neqS (insE_ (newT colT) 10 [(Val.mk 1 5 [])] (Span.mk 0 100)) 0 rfl rfl rfl (fun h2=>?_) (fun h2=>?_)
 ·exact RB hS10 rfl (by exact absurd awI_1.2 (by assumption))
 refine WL.neqS (delE 1 (insT (newT colT) 10 [(Val.mk 1 5 [])] (Span.mk 0 100)) 20 (Cond.mk 3 [] [] (Val.mk 0 0 []) []) (Span.mk 40 60)) 0 rfl rfl rfl (fun h3=>?_) (fun h3=>?_)
 ·exact RB hS10 rfl (by exact absurd awD_1.2 (by assumption))
 refine WL.loadO1 hS10 0 _ _ _ 4 _ rfl rfl ti26 rfl rfl rfl ?_
 have bd1:=hs15.bound
 refine WL.lenSl hs15 ul26 rfl rfl ?_
 refine WL.neqS ((((delT 1 (insT (newT colT) 10 [(Val.mk 1 5 [])] (Span.mk 0 100)) 20 (Cond.mk 3 [] [] (Val.mk 0 0 []) []) (Span.mk 40 60)).rows).length : Nat) : Int) 3 rfl rfl rfl (fun h4=>?_) (fun h4=>?_)
 ·exact RB hS10 rfl (by exact absurd awL (by assumption))
 refine WL.loadOA hS10 0 _ _ _ 0 [strV ((delT 1 (insT (newT colT) 10 [(Val.mk 1 5 [])] (Span.mk 0 100)) 20 (Cond.mk 3 [] [] (Val.mk 0 0 []) []) (Span.mk 40 60)).s.name),v10, .int .i64 ((delT 1 (insT (newT colT) 10 [(Val.mk 1 5 [])] (Span.mk 0 100)) 20 (Cond.mk 3 [] [] (Val.mk 0 0 []) []) (Span.mk 40 60)).s.key),v11,v12, .int .i64 ((delT 1 (insT (newT colT) 10 [(Val.mk 1 5 [])] (Span.mk 0 100)) 20 (Cond.mk 3 [] [] (Val.mk 0 0 []) []) (Span.mk 40 60)).last)] rfl rfl rfl ti28 rfl rfl rfl ?_
 refine WL.cA hS10 hb31 rfl rfl rfl (c_Snapshot hS10.imm (delT 1 (insT (newT colT) 10 [(Val.mk 1 5 [])] (Span.mk 0 100)) 20 (Cond.mk 3 [] [] (Val.mk 0 0 []) []) (Span.mk 40 60)) 50 15 _ (TableE_mk (delT 1 (insT (newT colT) 10 [(Val.mk 1 5 [])] (Span.mk 0 100)) 20 (Cond.mk 3 [] [] (Val.mk 0 0 []) []) (Span.mk 40 60)) hb9 hs13 hb10 hs14 hs15 hb11)) (fun w11 G6 r11 hpost5 hS11 hle6=>?_)
 have bd2:=hpost5.bound
 refine WL.lenSl hpost5 ul56 rfl rfl ?_
 refine WL.eqlS (((snapH (delT 1 (insT (newT colT) 10 [(Val.mk 1 5 [])] (Span.mk 0 100)) 20 (Cond.mk 3 [] [] (Val.mk 0 0 []) []) (Span.mk 40 60)) 50 15).length : Nat) : Int) 1 rfl rfl rfl (fun h5=>?_) (fun h5=>?_)
 ·refine WL.loadOA hS11 0 _ _ _ 0 [strV ((delT 1 (insT (newT colT) 10 [(Val.mk 1 5 [])] (Span.mk 0 100)) 20 (Cond.mk 3 [] [] (Val.mk 0 0 []) []) (Span.mk 40 60)).s.name),v10, .int .i64 ((delT 1 (insT (newT colT) 10 [(Val.mk 1 5 [])] (Span.mk 0 100)) 20 (Cond.mk 3 [] [] (Val.mk 0 0 []) []) (Span.mk 40 60)).s.key),v11,v12, .int .i64 ((delT 1 (insT (newT colT) 10 [(Val.mk 1 5 [])] (Span.mk 0 100)) 20 (Cond.mk 3 [] [] (Val.mk 0 0 []) []) (Span.mk 40 60)).last)] rfl rfl rfl ti28 rfl rfl rfl ?_
  refine WL.cA hS11 hb31 rfl rfl rfl (c_Snapshot hS11.imm (delT 1 (insT (newT colT) 10 [(Val.mk 1 5 [])] (Span.mk 0 100)) 20 (Cond.mk 3 [] [] (Val.mk 0 0 []) []) (Span.mk 40 60)) 50 25 _ (TableE_mk (delT 1 (insT (newT colT) 10 [(Val.mk 1 5 [])] (Span.mk 0 100)) 20 (Cond.mk 3 [] [] (Val.mk 0 0 []) []) (Span.mk 40 60)) hb9 (hs13.mono hle6) hb10 (hs14.mono hle6) (hs15.mono hle6) hb11)) (fun w12 G7 r12 hpost6 hS12 hle7=>?_)
  have bd3:=hpost6.bound
  refine WL.lenSl hpost6 ul56 rfl rfl ?_
  refine WL.eqlS (((snapH (delT 1 (insT (newT colT) 10 [(Val.mk 1 5 [])] (Span.mk 0 100)) 20 (Cond.mk 3 [] [] (Val.mk 0 0 []) []) (Span.mk 40 60)) 50 25).length : Nat) : Int) 0 rfl rfl rfl (fun h6=>?_) (fun h6=>?_)
  ·refine WL.loadO1 hS12 0 _ _ _ 5 _ rfl rfl ti3 rfl rfl rfl <| WL.cmp .eql rfl .i64 ((delT 1 (insT (newT colT) 10 [(Val.mk 1 5 [])] (Span.mk 0 100)) 20 (Cond.mk 3 [] [] (Val.mk 0 0 []) []) (Span.mk 40 60)).last) 20 rfl rfl rfl ?_
   exact RB hS12 rfl (by exact awLa)
  exact RB hS12 rfl (by exact absurd aw25 (by assumption))
 exact RB hS11 rfl (by exact absurd aw15 (by assumption))
end Go.Civ
set_option linter.unusedVariables false
namespace Go.Civ
open Go.Proofs Go.Shelf Go.RowKit Go.Lib Go.Sort
theorem c_SortVV {G : GH} {w : World} (hG : G.In w) (l : VV) (vd : Value) (od : OB) (hvd : Row (ValE.slice 32) 24 (nat_lit 36) G vd l od) (hod : Lent w G od) (hV : ∀ u ∈ l, u.all valB = true) :
    Calls Tryz.prog (nat_lit 57) #[vd, .func (.func 58) #[] #[]] w fun e w' => ∃ r G', e = .returned r ∧ Res (blk od) w G w' G' ∧ r = .tuple #[] ∧ ∃ (l' : VV) (o' : OB), Row (ValE.slice 32) 24 (nat_lit 36) G' vd l' o' ∧ Lent w' G' o' ∧ (l'.Perm l ∧ l'.Pairwise fun x y => ¬ ordV y x < 0) :=
  sortRow1 Tryz.sortVV (E := ValE.slice 32) rfl ordV (fun u => u.all valB = true)
    (fun x hx => by rw [ordV_valid hx hx, ord.refl]; omega)
    (fun x y z hx hy hz p q => by rw [ordV_valid hx hy] at p; rw [ordV_valid hy hz] at q; rw [ordV_valid hx hz]; exact ord.trans _ _ _ p q)
    (fun x y z hx hy hz p q => by rw [ordV_valid hx hy] at p; rw [ordV_valid hy hz] at q; rw [ordV_valid hx hz]; exact ord.le_trans q p)
    58 (enters_of Tryz.func58 (by kernel_rfl) rfl) hG (fun W hW x y vx vy hx hy rx ry => by
      obtain ⟨ux, ex, sx⟩ := rx
      obtain ⟨uy, ey, sy⟩ := ry
      obtain rfl := (List.cons.inj ex).1
      obtain rfl := (List.cons.inj ey).1
      exact c_Order hW x y _ sx _ sy)
    [] _ ⟨.slice none 0 0, rfl, Sl.nil _ _ _⟩ rfl l hV vd od hvd hod
end Go.Civ
namespace Go.Civ
open Go.RowKit
set_option linter.unusedVariables false
section
variable {t : Table} {tx at_ : Int} {d : Span} {v : List Val} {k : Nat} {c : Cond}
theorem undC_more {cols : List Col} {k : Nat} {cl : Col} {x : Val} (hc : c = undC cols v k) (h1 : cols[k]? = some cl) (h2 : v[k]? = some x) : andC c (eqC cl x) = undC cols v (k + 1) := by rw [undC_step h1 h2, hc]
theorem undC_rest {cols : List Col} {k : Nat} (hc : c = undC cols v k) (h : (v.length : Int) ≤ (k : Int)) : c = undC cols v (k + 1) := by rw [undC_stop (by omega), hc]
theorem und_no (h : insE_ t tx v d = 0) (h1 : instB (tx + 1) = true) (ha : instB at_ = true) (hc : c = undC t.s.cols v k) (hk : k ≤ t.s.cols.length) (hk2 : (t.s.cols.length : Int) ≤ (k : Int)) (hd : delE (k + 1) (insT t tx v d) (tx + 1) c d = 0) (hn : (t.rows.any fun x => thereB v d x) = false) :
    snapH (delT (k + 1) (insT t tx v d) (tx + 1) c d) at_ (tx + 1) = snapH t at_ (max t.last (-62135596800)) := by
  subst hc
  exact und_law h h1 ha (by omega) hd hn
theorem und_inst (h : insE_ t tx v d = 0) (h5 : -62135596800 ≤ t.last) : instB t.last = true ∧ instB tx = true ∧ t.last < tx := by
  have H := ins_parts h
  have h1 := (validT_parts H.valid).2.2.1
  refine ⟨?_, H.inst, H.late⟩
  unfold instB; simp; omega
theorem und_5 (h : insE_ t tx v d = 0) (h5 : -62135596800 ≤ t.last) (hn : chgsErr (insT t tx v d) t.last tx ≠ 0) : Cmp.b .eql (chgsErr (insT t tx v d) t.last tx) 5 = true := by
  obtain ⟨i1, i2, i3⟩ := und_inst h h5
  have e := chgsErr_is (t := insT t tx v d) (ins_parts h).new.valid i1 i2 i3
  rw [e] at hn ⊢
  split at hn
  · exact absurd rfl hn
  · rename_i q; rw [if_neg q]; rfl
theorem und_small (h : insE_ t tx v d = 0) (h5 : -62135596800 ≤ t.last) (he : chgsErr (insT t tx v d) t.last tx = 0) : (chgsH (insT t tx v d) t.last tx).length ≤ 1000 ∧ chgsH (insT t tx v d) t.last tx = chgsOf (insT t tx v d).rows t.last tx := by
  obtain ⟨i1, i2, i3⟩ := und_inst h h5
  have e := chgsErr_is (t := insT t tx v d) (ins_parts h).new.valid i1 i2 i3
  have e2 : chgsH (insT t tx v d) t.last tx = chgsOf (insT t tx v d).rows t.last tx := by unfold chgsH; rw [if_pos he]
  rw [e2]
  rw [e] at he
  split at he
  · rename_i q; exact ⟨q, rfl⟩
  · cases he
theorem und_fin (h : insE_ t tx v d = 0) (h5 : -62135596800 ≤ t.last) (ha : instB at_ = true) (he : chgsErr (insT t tx v d) t.last tx = 0) {j : Nat} (hj : (chgsH (insT t tx v d) t.last tx).length ≤ j) :
    (uRun t.last at_ (snapH (insT t tx v d) at_ t.last) ((chgsH (insT t tx v d) t.last tx).take j)).Nodup ∧ (∀ u ∈ uRun t.last at_ (snapH (insT t tx v d) at_ t.last) ((chgsH (insT t tx v d) t.last tx).take j), u.all valB = true) ∧ IncV (snapH (insT t tx v d) at_ tx) ∧
      ∀ u, u ∈ snapH (insT t tx v d) at_ tx ↔ u ∈ uRun t.last at_ (snapH (insT t tx v d) at_ t.last) ((chgsH (insT t tx v d) t.last tx).take j) := by
  obtain ⟨i1, i2, i3⟩ := und_inst h h5
  rw [List.take_of_length_le hj, (und_small h h5 he).2]
  exact und_run (ins_parts h).new.valid i1 i2 ha (by omega)
theorem und_rows (h : insE_ t tx v d = 0) : (insT t tx v d).rows.length ≤ 500 := (validT_good (ins_parts h).new.valid).2.1
theorem und_len {p a : Int} {s : VV} {D : List HRow} (k : Nat) : (uRun p a s (D.take k)).length ≤ s.length + D.length := by
  have h1 := uRun_len (p := p) (a := a) (s := s) _ (D.take k) rfl
  have h2 := List.length_take_le' k D
  omega
end
section
variable {p a : Int} {s : VV} {D : List HRow} {k : Nat} {r : HRow}
theorem uRun_skip (h : D[k]? = some r) (h1 : a < r.r.d.a ∨ r.r.d.b ≤ a) : uRun p a s (D.take (k + 1)) = uRun p a s (D.take k) := by
  have : inS a r.r.d = false := by unfold inS; rw [Bool.eq_false_iff]; simp; omega
  rw [uRun_take h]; unfold uStep; rw [this]; rfl
theorem uRun_del (h : D[k]? = some r) (h1 : r.r.d.a ≤ a) (h2 : a < r.r.d.b) (h3 : r.r.x.a = p) : uRun p a s (D.take (k + 1)) = (uRun p a s (D.take k)).filter fun x => !decide (x = r.v) := by
  have : inS a r.r.d = true := by unfold inS; simp [h1, h2]
  rw [uRun_take h]; unfold uStep; rw [this, if_pos rfl, if_pos h3]
theorem uRun_add (h : D[k]? = some r) (h1 : r.r.d.a ≤ a) (h2 : a < r.r.d.b) (h3 : r.r.x.a ≠ p) : uRun p a s (D.take (k + 1)) = uRun p a s (D.take k) ++ [r.v] := by
  have : inS a r.r.d = true := by unfold inS; simp [h1, h2]
  rw [uRun_take h]; unfold uStep; rw [this, if_pos rfl, if_neg h3]
end
end Go.Civ
