/- Lemmas. -/
import Derived.Test.YthgeclodflmiaaaGreatC39
import Derived.Test.YthgeclodflmiaaaGreatProg
import Derived.KernelRfl
import Derived.WalkKit
set_option linter.unusedVariables false
set_option linter.unusedSimpArgs false
set_option maxRecDepth 100000
set_option maxHeartbeats 4000000
namespace Go.Civ
open Go.Proofs
theorem ZtO {G : GH} {w : World} (hG : G.In w) (l : List Pt) (vl : Value) (hvl : Sl PtE 40 G vl l) (hne : l ≠ []) : CL Tryz.prog (nat_lit 147) #[vl, .func (.func 117) #[] #[]] [] w G fun G' _ r=>Is PtE G' r (Xm l):=by
 refine Y8 ft [] Tryz.func147 rfl rfl ?_
 have hpos:=List.length_pos_iff.2 hne
 have hS:=St.start (X:=[]) hG
 refine WL.alloc hS ZX rfl rfl (fun b1 w1 hn1 hS1=>?_)
 have bd1:=hvl.bound
 refine Zl hvl ZbO rfl rfl ?_
 refine Zm (l.length : Int) 1 rfl rfl rfl (fun h1=>?_) (fun h1=>?_)
 ·exact absurd h1 (by omega)
 refine WL.indexAddr hvl 0 (by omega) ZbO ZX rfl rfl rfl rfl (fun p1 x1 hx1 he1=>?_)
 obtain ⟨cs1,hc1,hr1⟩:=he1
 obtain ⟨v1,rfl,hb1,hb2,hs1⟩:=XK hr1
 refine Zd hS1 hc1 [.int .i64 x1.tx, .int .i64 x1.vd,v1] ZX rfl rfl rfl rfl rfl ?_
 refine WL.alloc hS1 ZX rfl rfl (fun b2 w2 hn2 hS2=>?_)
 refine WL.store hS2 0 _ _ _ 0 _ [.int .i64 x1.tx, .int .i64 x1.vd,v1] [.int .i64 x1.tx, .int .i64 x1.vd,v1] _ rfl rfl ZX rfl (Nat.le_of_ble_eq_true rfl) (by simp only [List.all_cons,List.all_nil,hs1.oneC,Bool.true_and] <;> rfl) rfl rfl rfl rfl rfl (fun w3 hS3=>?_)
 refine LP.go ft [] (fun m ρ1 w1=>∃ (k1 : Nat),∃ (mp : Pt),∃ (mv : Value),∃ (G1 : GH),m = l.length - k1 ∧ G.le G1 ∧ St w [] G G1 [some (b2,105,[.int .i64 mp.tx, .int .i64 mp.vd,mv]),some (b1,105,[.int .i64 0, .int .i64 0, .slice none 0 0])] w1 ∧ FR ρ1 [(0,vl),(1, .func (.func 117) #[] #[]),(4, .pointer (some ⟨b1,0,none⟩)),(5, .pointer (some ⟨b2,0,none⟩)),(6, .int .i64 (k1 : Int))] ∧ k1 ≤ l.length ∧ mp = Xm (l.take k1) ∧ Sl ValE 32 G1 mv mp.v ∧ Z1 mp.tx ∧ Z1 mp.vd ∧ 1 ≤ k1) _ ⟨1,x1,v1,G,rfl,(G.le_refl),hS3,⟨rfl,rfl,rfl,rfl,rfl,trivial⟩,(by omega),(by exact Zq1 ‹_›),(hs1),‹_›,‹_›,(by omega)⟩ ?_
 rintro m ρ1 w4 ⟨k1,mp,mv,G1,rfl,hle1,hS4,hF9,f1,f2,f3,f4,f5,f6⟩
 refine hF9.set ?_
 clear hF9
 have bd2:=hvl.bound
 refine Zl (hvl.mono hle1) ZbO rfl rfl ?_
 refine Zm (k1 : Int) (l.length : Int) rfl rfl rfl (fun h2=>?_) (fun h2=>?_)
 ·obtain ⟨p2,x2,hx2,he2,ep1⟩:=Sl.at (hvl.mono hle1) k1 (by omega)
  obtain ⟨cs2,hc2,hr2⟩:=he2
  obtain ⟨v2,rfl,hb3,hb4,hs2⟩:=XK hr2
  rcases Cmp.dec .lss (XT x2 mp) 0 with ⟨hb5,q1⟩ | ⟨hb5,q1⟩
  ·have h3 : (XT x2 mp) < 0:=q1
   clear q1
   refine dr [] [(23, .pointer (some p2)),(24, .agg #[.int .i64 x2.tx, .int .i64 x2.vd,v2]),(25, .agg #[.int .i64 mp.tx, .int .i64 mp.vd,mv]),(26, .int .i64 (XT x2 mp)),(27, .bool true)] hS4 ⟨fun _=>Zi k1 ep1 ZbO ZX rfl rfl rfl rfl <| nu rfl rfl,fun _ hSw=>Zd hSw hc2 [.int .i64 x2.tx, .int .i64 x2.vd,v2] ZX rfl rfl rfl rfl rfl <| nu rfl rfl,fun _ hSw=>Yv hSw 0 _ _ _ 0 [.int .i64 mp.tx, .int .i64 mp.vd,mv] rfl rfl rfl ZX rfl rfl rfl <| nu rfl rfl,fun _ hSw=>ZO hSw ZqI rfl rfl rfl (Zga hSw.imm x2 mp _ (XF x2 hb3 hb4 hs2) _ (XF mp f4 f5 f3)) rfl,fun _=>WL.cmpV .lss rfl .i64 (XT x2 mp) 0 _ hb5 rfl rfl rfl <| nu rfl rfl,trivial⟩ (fun w5 hS5=>?_)
   refine WL.indexAddr (hvl.mono hle1) k1 (by omega) ZbO ZX rfl rfl rfl rfl (fun p3 x3 hx3 he3=>?_)
   obtain rfl : x2 = x3:=Option.some.inj (hx2.symm.trans hx3)
   obtain ⟨cs3,hc3,hr3⟩:=he3
   obtain ⟨v3,rfl,hb6,hb7,hs3⟩:=XK hr3
   refine Zd hS5 hc3 [.int .i64 x2.tx, .int .i64 x2.vd,v3] ZX rfl rfl rfl rfl rfl ?_
   refine WL.store hS5 0 _ _ _ 0 _ [.int .i64 x2.tx, .int .i64 x2.vd,v3] [.int .i64 x2.tx, .int .i64 x2.vd,v3] _ rfl rfl ZX rfl (Nat.le_of_ble_eq_true rfl) (by simp only [List.all_cons,List.all_nil,hs3.oneC,Bool.true_and] <;> rfl) rfl rfl rfl rfl rfl (fun w6 hS6=>?_)
   refine Zj k1 (by have hreach : reach = 140737488355328:=rfl; omega) rfl rfl rfl ?_
   exact BK.mk' _ ⟨k1 + 1,x2,v3,G1,rfl,hle1,hS6,⟨rfl,rfl,rfl,rfl,rfl,trivial⟩,(by omega),(by first | (rw [Zi1 ‹_› (by omega),← (by assumption : mp = Xm (l.take k1))]; first | exact (if_pos ‹_›).symm | exact (if_neg (by omega)).symm)),(hs3),‹_›,‹_›,(by omega)⟩ (show l.length - (k1 + 1) < l.length - k1 by omega)
  have h3 : 0 ≤ (XT x2 mp):=q1
  clear q1
  refine dr [] [(23, .pointer (some p2)),(24, .agg #[.int .i64 x2.tx, .int .i64 x2.vd,v2]),(25, .agg #[.int .i64 mp.tx, .int .i64 mp.vd,mv]),(26, .int .i64 (XT x2 mp)),(27, .bool false)] hS4 ⟨fun _=>Zi k1 ep1 ZbO ZX rfl rfl rfl rfl <| nu rfl rfl,fun _ hSw=>Zd hSw hc2 [.int .i64 x2.tx, .int .i64 x2.vd,v2] ZX rfl rfl rfl rfl rfl <| nu rfl rfl,fun _ hSw=>Yv hSw 0 _ _ _ 0 [.int .i64 mp.tx, .int .i64 mp.vd,mv] rfl rfl rfl ZX rfl rfl rfl <| nu rfl rfl,fun _ hSw=>ZO hSw ZqI rfl rfl rfl (Zga hSw.imm x2 mp _ (XF x2 hb3 hb4 hs2) _ (XF mp f4 f5 f3)) rfl,fun _=>WL.cmpV .lss rfl .i64 (XT x2 mp) 0 _ hb5 rfl rfl rfl <| nu rfl rfl,trivial⟩ (fun w7 hS7=>?_)
  refine Zj k1 (by have hreach : reach = 140737488355328:=rfl; omega) rfl rfl rfl ?_
  exact BK.mk' _ ⟨k1 + 1,mp,mv,G1,rfl,hle1,hS7,⟨rfl,rfl,rfl,rfl,rfl,trivial⟩,(by omega),(by first | (rw [Zi1 ‹_› (by omega),← (by assumption : mp = Xm (l.take k1))]; first | exact (if_pos ‹_›).symm | exact (if_neg (by omega)).symm)),(f3),‹_›,‹_›,(by omega)⟩ (show l.length - (k1 + 1) < l.length - k1 by omega)
 refine Yv hS4 0 _ _ _ 0 [.int .i64 mp.tx, .int .i64 mp.vd,mv] rfl rfl rfl ZX rfl rfl rfl ?_
 refine WL.store hS4 1 _ _ _ 0 _ [.int .i64 mp.tx, .int .i64 mp.vd,mv] [.int .i64 mp.tx, .int .i64 mp.vd,mv] _ rfl rfl ZX rfl (Nat.le_of_ble_eq_true rfl) (by simp only [List.all_cons,List.all_nil,f3.oneC,Bool.true_and] <;> rfl) rfl rfl rfl rfl rfl (fun w9 hS8=>?_)
 obtain ⟨G2,hle2,hc4,hS9⟩:=hS8.sealAt 1 rfl hn1
 exact X0 [.agg #[.int .i64 mp.tx, .int .i64 mp.vd,mv]] hS9 ⟨_,_,_,rfl,rfl,hS9.loadC hc4 ZX rfl rfl,rfl⟩ (Is.cast ⟨_,rfl,(XF mp f4 f5 (f3.mono hle2))⟩ (by rw [(by assumption : mp = Xm (l.take k1)),List.take_of_length_le (by omega)]))
theorem Zro {G : GH} {w : World} (hG : G.In w) (x : Link) (fr : Int) (cx : List Value) (hcx : Zhf.rep G x cx) (hfr : Z1 fr) (hk : LinkOk x) : CL Tryz.prog (nat_lit 91) #[.agg cx.toArray, .int .i64 fr] [] w G fun G' _ r=>∃ r0 r1,r = .tuple #[r0,r1] ∧ Is PtE G' r0 (ZY (Za5 x fr)) ∧ r1 = .bool ((Za5 x fr).isSome):=by
 refine Y8 ft [] Tryz.func91 rfl rfl ?_
 have hS:=St.start (X:=[]) hG
 obtain ⟨v1,v2,v3,v4,v5,v6,v7,rfl,hb1,hs1,hb2,hs2,hs3,hb3,hb4,hs4,hb5,hs5,hs6,hb6,hs7,hb7⟩:=Zew hcx
 refine Z3 [Zc x.t.s.name,v1, .int .i64 x.t.s.key,v2,v3, .int .i64 x.t.last,Zc x.o.s.name,v4, .int .i64 x.o.s.key,v5,v6, .int .i64 x.o.last,v7,Zc x.f.table] _ hS rfl rfl rfl (fun p1 w1 G1 hle1 hsp1 hc1 hS1=>?_)
 refine WL.alloc hS1 ZX rfl rfl (fun b1 w2 hn1 hS2=>?_)
 obtain ⟨hg9,hn9,h89,he9⟩:=ZW hk.o
 obtain ⟨hgt9,hnt9,ht89,het9⟩:=ZW hk.t
 refine Za hS2 (XL.drop 4 (XL.drop 0 hc1)) YJ rfl rfl rfl ?_
 have bd1:=hs3.bound
 refine Zl (hs3.mono hle1) Yn rfl rfl ?_
 have hS4:=hS2.pad
 refine LP.go ft [] (fun m ρ1 w1=>∃ (k1 : Nat),∃ (v9 : Value) (o1 : OB),∃ (G2 : GH),m = x.t.rows.length - k1 ∧ G1.le G2 ∧ St w [] G G2 [o1,some (b1,105,[.int .i64 0, .int .i64 0, .slice none 0 0])] w1 ∧ Yb PtE 40 105 G2 v9 (Y3 (lM x) x.o.rows (x.t.rows.take k1) fr) o1 ∧ FR ρ1 [(1, .int .i64 fr),(2, .pointer (some p1)),(4, .pointer (some ⟨b1,0,none⟩)),(6,v9),(18,v3),(19, .int .i64 (x.t.rows.length : Int)),(20, .int .i64 (k1 : Int))] ∧ k1 ≤ x.t.rows.length) _ ⟨0,(.slice none 0 0),none,G1,rfl,(G1.le_refl),hS4,(Yb.cast (Yb.nil PtE 40 105 G1) (by rfl)),⟨rfl,rfl,rfl,rfl,rfl,rfl,rfl,trivial⟩,(by omega)⟩ ?_
 rintro m ρ1 w3 ⟨k1,v9,o1,G2,rfl,hle2,hS3,hr1,hF9,f1⟩
 refine hF9.set ?_
 clear hF9
 have hgl9:=Zo5 (M:=lM x) (l:=x.o.rows) (fr:=fr) x.t.rows k1
 refine Zm (k1 : Int) (x.t.rows.length : Int) rfl rfl rfl (fun h1=>?_) (fun h1=>?_)
 ·refine WL.indexAddr (hs3.mono (hle1.trans hle2)) k1 (by omega) Yn Zt rfl rfl rfl rfl (fun p2 x1 hx1 he1=>?_)
  obtain ⟨cs1,hc2,hr2⟩:=he1
  obtain ⟨v10,rfl,hs8,hb8,hb9,hb10,YL⟩:=Z7 hr2
  refine Zd hS3 hc2 [v10, .int .i64 x1.r.d.a, .int .i64 x1.r.d.b, .int .i64 x1.r.x.a, .int .i64 x1.r.x.b] Zt rfl rfl rfl rfl rfl ?_
  refine WL.alloc hS3 Zt rfl rfl (fun b2 w4 hn2 hS5=>?_)
  refine WL.store hS5 0 _ _ _ 0 _ [v10, .int .i64 x1.r.d.a, .int .i64 x1.r.d.b, .int .i64 x1.r.x.a, .int .i64 x1.r.x.b] [v10, .int .i64 x1.r.d.a, .int .i64 x1.r.d.b, .int .i64 x1.r.x.a, .int .i64 x1.r.x.b] _ rfl rfl Zt rfl (Nat.le_of_ble_eq_true rfl) (by simp only [List.all_cons,List.all_nil,hs8.oneC,Bool.true_and] <;> rfl) rfl rfl rfl rfl rfl (fun w5 hS6=>?_)
  obtain ⟨G3,hle3,hc3,hS7⟩:=hS6.shutB hn2
  refine Za hS7 (XL.drop 0 (XL.drop 2 (XL.drop 1 hc3))) Zr rfl rfl rfl <| Zfi x1.r.x.a fr rfl rfl rfl ?_
  refine WL.buildSlice _ [(0,[.int .i64 (max x1.r.x.a fr)])] [.int .i64 (max x1.r.x.a fr)] hS7 ZS rfl rfl rfl rfl (fun z hz=>by match z,hz with | [z0],_=>rfl) (fun b3 w6 hn3 hS8=>?_)
  refine Za hS8 (XL.drop 4 (XL.drop 6 (hc1.mono (hle2.trans hle3)))) YJ rfl rfl rfl ?_
  have bd2:=hs6.bound
  refine Zl (hs6.mono ((hle1.trans hle2).trans hle3)) Yn rfl rfl ?_
  have hr3 : Yb Enc.int 8 3 G3 (.slice (some ⟨b3,0,none⟩) 1 1) [(max x1.r.x.a fr)] (some (b3,3,[.int .i64 (max x1.r.x.a fr)])):=Yb.ofNew ⟨[.int .i64 (max x1.r.x.a fr)],_,rfl,⟨rfl,(Zab hb10 hfr)⟩,rfl⟩ rfl (by simp [reach]) (by simp [reach])
  refine LP.go ft [] (fun m ρ1 w1=>∃ (k2 : Nat),∃ (v11 : Value) (o2 : OB),∃ (G4 : GH),m = x.o.rows.length - k2 ∧ G3.le G4 ∧ St w [] G G4 [o2,o1,some (b1,105,[.int .i64 0, .int .i64 0, .slice none 0 0])] w1 ∧ Yb Enc.int 8 3 G4 v11 (Y2 x1 fr :: Xd (lM x) (x.o.rows.take k2) x1 fr) o2 ∧ FR ρ1 [(1, .int .i64 fr),(2, .pointer (some p1)),(4, .pointer (some ⟨b1,0,none⟩)),(6,v9),(8, .pointer (some (⟨b2,0,none⟩ : Addr))),(9, .int .i64 (max x1.r.x.a fr)),(10,v11),(18,v3),(19, .int .i64 (x.t.rows.length : Int)),(20, .int .i64 (k1 : Int)),(34,v6),(35, .int .i64 (x.o.rows.length : Int)),(36, .int .i64 (k2 : Int))] ∧ k2 ≤ x.o.rows.length) _ ⟨0,(.slice (some ⟨b3,0,none⟩) 1 1),(some (b3,3,[.int .i64 (max x1.r.x.a fr)])),G3,rfl,(G3.le_refl),hS8,(Yb.cast hr3 (by rfl)),⟨rfl,rfl,rfl,rfl,rfl,rfl,rfl,rfl,rfl,rfl,rfl,rfl,rfl,trivial⟩,(by omega)⟩ ?_
  rintro m ρ1 w7 ⟨k2,v11,o2,G4,rfl,hle4,hS9,hr4,hF9,f2⟩
  refine hF9.set ?_
  clear hF9
  have hel9:=Zo3 (M:=lM x) (r:=x1) (fr:=fr) x.o.rows k2
  refine Zm (k2 : Int) (x.o.rows.length : Int) rfl rfl rfl (fun h2=>?_) (fun h2=>?_)
  ·refine WL.indexAddr (hs6.mono (((hle1.trans hle2).trans hle3).trans hle4)) k2 (by omega) Yn Zt rfl rfl rfl rfl (fun p3 x2 hx2 he2=>?_)
   obtain ⟨cs2,hc4,hr5⟩:=he2
   obtain ⟨v12,rfl,hs9,Xl,X2,Qg,Q8⟩:=Z7 hr5
   refine Zd hS9 hc4 [v12, .int .i64 x2.r.d.a, .int .i64 x2.r.d.b, .int .i64 x2.r.x.a, .int .i64 x2.r.x.b] Zt rfl rfl rfl rfl rfl ?_
   refine WL.alloc hS9 Zt rfl rfl (fun b4 w9 hn4 hS10=>?_)
   refine WL.store hS10 0 _ _ _ 0 _ [v12, .int .i64 x2.r.d.a, .int .i64 x2.r.d.b, .int .i64 x2.r.x.a, .int .i64 x2.r.x.b] [v12, .int .i64 x2.r.d.a, .int .i64 x2.r.d.b, .int .i64 x2.r.x.a, .int .i64 x2.r.x.b] _ rfl rfl Zt rfl (Nat.le_of_ble_eq_true rfl) (by simp only [List.all_cons,List.all_nil,hs9.oneC,Bool.true_and] <;> rfl) rfl rfl rfl rfl rfl (fun w10 hS11=>?_)
   obtain ⟨G5,hle5,hc5,hS12⟩:=hS11.shutB hn4
   refine Za hS12 (XL.drop 1 (XL.drop 2 (XL.drop 1 hc5))) Zr rfl rfl rfl ?_
   refine YZ x2.r.x.b (max x1.r.x.a fr) rfl rfl rfl (fun h3=>?_) (fun h3=>?_)
   ·refine Zd hS12 (hc1.mono (((hle2.trans hle3).trans hle4).trans hle5)) [Zc x.t.s.name,v1, .int .i64 x.t.s.key,v2,v3, .int .i64 x.t.last,Zc x.o.s.name,v4, .int .i64 x.o.s.key,v5,v6, .int .i64 x.o.last,v7,Zc x.f.table] ZiG rfl rfl rfl rfl rfl <| Za hS12 (XL.drop 0 (hc3.mono (hle4.trans hle5))) ZN rfl rfl rfl <| Zd hS12 hc5 [v12, .int .i64 x2.r.d.a, .int .i64 x2.r.d.b, .int .i64 x2.r.x.a, .int .i64 x2.r.x.b] Zt rfl rfl rfl rfl rfl ?_
    refine Zn hS12 ZqN rfl rfl rfl (Zi4 hS12.imm x x1.v x2 _ (ZcS x hb1 (hs1.mono ((((hle1.trans hle2).trans hle3).trans hle4).trans hle5)) hb2 (hs2.mono ((((hle1.trans hle2).trans hle3).trans hle4).trans hle5)) (hs3.mono ((((hle1.trans hle2).trans hle3).trans hle4).trans hle5)) hb3 hb4 (hs4.mono ((((hle1.trans hle2).trans hle3).trans hle4).trans hle5)) hb5 (hs5.mono ((((hle1.trans hle2).trans hle3).trans hle4).trans hle5)) (hs6.mono ((((hle1.trans hle2).trans hle3).trans hle4).trans hle5)) hb6 (hs7.mono ((((hle1.trans hle2).trans hle3).trans hle4).trans hle5)) hb7) _ (hs8.mono ((hle3.trans hle4).trans hle5)) _ (Ya x2 (hs9.mono hle5) Xl X2 Qg Q8) hk.cols (hk.len (List.mem_of_getElem? (by assumption : x.t.rows[k1]? = some _))) (hk.olen (List.mem_of_getElem? (by assumption : x.o.rows[k2]? = some _)))) (fun w11 G6 hS13 hle6=>?_)
    refine WL.split (fun (h4 : (mtB x.t.s x.f.cols x1.v x2.v) = true)=>?_) (fun (h4 : (mtB x.t.s x.f.cols x1.v x2.v) = false)=>?_)
    ·refine Za hS13 (XL.drop 1 (XL.drop 2 (XL.drop 1 (hc5.mono hle6)))) Zr rfl rfl rfl ?_
     refine WL.buildSlice _ [(0,[.int .i64 x2.r.x.b])] [.int .i64 x2.r.x.b] hS13 ZS rfl rfl rfl rfl (fun z hz=>by match z,hz with | [z0],_=>rfl) (fun b5 w12 hn5 hS14=>?_)
     refine WL.push (m:=([x2.r.x.b] : List Int)) ZS rfl rfl rfl (hr4.mono (hle5.trans hle6)) hS14 1 rfl 0 _ _ _ _ _ rfl ⟨[.int .i64 x2.r.x.b],_,rfl,⟨rfl,Q8⟩,rfl⟩ rfl (by have hreach : reach = 140737488355328:=rfl; simp only [List.length_append,List.length_cons,List.length_nil]; omega) (by have hreach : reach = 140737488355328:=rfl; simp only [List.length_append,List.length_cons,List.length_nil]; omega) rfl rfl rfl (fun v13 o3 w13 hr6 hS15=>?_)
     have hS16:=hS15.tail
     refine Zj k2 (by have hreach : reach = 140737488355328:=rfl; omega) rfl rfl rfl ?_
     exact BK.mk' _ ⟨k2 + 1,v13,o3,G6,rfl,(hle4.trans (hle5.trans hle6)),hS16,(Yb.cast hr6 (by (exact (congrArg (Y2 x1 fr :: ·) (Zo2 ‹_› ‹_› ‹_›)).symm))),⟨rfl,rfl,rfl,rfl,rfl,rfl,rfl,rfl,rfl,rfl,rfl,rfl,rfl,trivial⟩,(by omega)⟩ (show x.o.rows.length - (k2 + 1) < x.o.rows.length - k2 by omega)
    refine Zj k2 (by have hreach : reach = 140737488355328:=rfl; omega) rfl rfl rfl ?_
    exact BK.mk' _ ⟨k2 + 1,v11,o2,G6,rfl,(hle4.trans (hle5.trans hle6)),hS13,(Yb.cast (hr4.mono (hle5.trans hle6)) (by (exact (congrArg (Y2 x1 fr :: ·) (Zk0 ‹_› (by first | exact .inl ‹_› | exact .inr ‹_›))).symm))),⟨rfl,rfl,rfl,rfl,rfl,rfl,rfl,rfl,rfl,rfl,rfl,rfl,rfl,trivial⟩,(by omega)⟩ (show x.o.rows.length - (k2 + 1) < x.o.rows.length - k2 by omega)
   refine Zj k2 (by have hreach : reach = 140737488355328:=rfl; omega) rfl rfl rfl ?_
   exact BK.mk' _ ⟨k2 + 1,v11,o2,G5,rfl,(hle4.trans hle5),hS12,(Yb.cast (hr4.mono hle5) (by (exact (congrArg (Y2 x1 fr :: ·) (Zk0 ‹_› (by first | exact .inl ‹_› | exact .inr ‹_›))).symm))),⟨rfl,rfl,rfl,rfl,rfl,rfl,rfl,rfl,rfl,rfl,rfl,rfl,rfl,trivial⟩,(by omega)⟩ (show x.o.rows.length - (k2 + 1) < x.o.rows.length - k2 by omega)
  refine Zah ZqO rfl rfl rfl (Zli hS9.imm (Y2 x1 fr :: Xd (lM x) (x.o.rows.take k2) x1 fr) _ _ hr4 (hS9.lentAt 0 rfl)) (fun w14 G7 r1 hres1 hpost1=>?_)
  have hle7:=hres1.le
  obtain ⟨rfl,l1,o4,hr7,hf1,hq1⟩:=hpost1
  have hS18:=hS9.callRow 0 rfl hres1 hr4 hr7 hf1
  have hcut:=Yb.cast (l':=XO (Y2 x1 fr :: Xd (lM x) x.o.rows x1 fr)) hr7 (by rw [hq1,ZjP,List.take_of_length_le (by omega)])
  have hcl9:=Zo6 (M:=lM x) (l:=x.o.rows) (r:=x1) (fr:=fr)
  refine Zah ZqP rfl rfl rfl (Zie hS18.imm (XO (Y2 x1 fr :: Xd (lM x) x.o.rows x1 fr)) _ _ hcut (hS18.lentAt 0 rfl)) (fun w15 G9 r2 hres2 hpost2=>?_)
  have hle9:=hres2.le
  obtain ⟨o5,hr8,hf2,hq2⟩:=hpost2
  have hS20:=hS18.callRowR 0 rfl hres2 hcut hr8 hf2 hq2
  have bd3:=hr8.bound
  refine Qv hr8 Yc rfl rfl ?_
  refine LP.go ft [] (fun m ρ1 w1=>∃ (k3 : Nat),∃ (v14 : Value) (o6 : OB),∃ (G10 : GH),m = (Go.Lib.compact (XO (Y2 x1 fr :: Xd (lM x) x.o.rows x1 fr))).length - k3 ∧ G9.le G10 ∧ St w [] G G10 [o5,o6,some (b1,105,[.int .i64 0, .int .i64 0, .slice none 0 0])] w1 ∧ Yb PtE 40 105 G10 v14 (Y3 (lM x) x.o.rows (x.t.rows.take k1) fr) o6 ∧ FR ρ1 [(1, .int .i64 fr),(2, .pointer (some p1)),(4, .pointer (some ⟨b1,0,none⟩)),(6,v14),(8, .pointer (some (⟨b2,0,none⟩ : Addr))),(18,v3),(19, .int .i64 (x.t.rows.length : Int)),(20, .int .i64 (k1 : Int)),(64,r2),(65, .int .i64 (((Go.Lib.compact (XO (Y2 x1 fr :: Xd (lM x) x.o.rows x1 fr))).length : Nat) : Int)),(66, .int .i64 (k3 : Int))] ∧ k3 ≤ (Go.Lib.compact (XO (Y2 x1 fr :: Xd (lM x) x.o.rows x1 fr))).length ∧ XW (lM x) x.o.rows x1 (Go.Lib.compact (XO (Y2 x1 fr :: Xd (lM x) x.o.rows x1 fr))) = XW (lM x) x.o.rows x1 ((Go.Lib.compact (XO (Y2 x1 fr :: Xd (lM x) x.o.rows x1 fr))).drop k3)) _ ⟨0,v9,o1,G9,rfl,(G9.le_refl),hS20,(hr1.mono (((hle3.trans hle4).trans hle7).trans hle9)),⟨rfl,rfl,rfl,rfl,rfl,rfl,rfl,rfl,rfl,rfl,rfl,trivial⟩,(by omega),(by rfl)⟩ ?_
  rintro m ρ1 w16 ⟨k3,v14,o6,G10,rfl,hle10,hS21,hr9,hF9,f3,f4⟩
  refine hF9.set ?_
  clear hF9
  refine Zm (k3 : Int) (((Go.Lib.compact (XO (Y2 x1 fr :: Xd (lM x) x.o.rows x1 fr))).length : Nat) : Int) rfl rfl rfl (fun h5=>?_) (fun h5=>?_)
  ·refine Qx (hr8.mono hle10) k3 (by omega) Yc Zr rfl rfl rfl rfl (fun p4 x3 ec1 hx3 hr10 ra1=>?_)
   obtain ⟨rfl,QS⟩:=hr10
   refine Zgt ra1 hS21 0 rfl _ rfl Zr rfl rfl rfl <| Zd hS21 (XL.drop 2 (XL.drop 1 (hc3.mono (((hle4.trans hle7).trans hle9).trans hle10)))) [.int .i64 x1.r.x.a, .int .i64 x1.r.x.b] Zz rfl rfl rfl rfl rfl ?_
   refine Zn hS21 QE rfl rfl rfl (QF hS21.imm x1.r.x x3 _ (Zw x1.r.x hb10 YL)) (fun w17 G11 hS22 hle11=>?_)
   refine WL.split (fun (h6 : (X1 x3 x1.r.x) = true)=>?_) (fun (h6 : (X1 x3 x1.r.x) = false)=>?_)
   ·refine Zd hS22 (hc1.mono ((((((hle2.trans hle3).trans hle4).trans hle7).trans hle9).trans hle10).trans hle11)) [Zc x.t.s.name,v1, .int .i64 x.t.s.key,v2,v3, .int .i64 x.t.last,Zc x.o.s.name,v4, .int .i64 x.o.s.key,v5,v6, .int .i64 x.o.last,v7,Zc x.f.table] ZiG rfl rfl rfl rfl rfl <| Za hS22 (XL.drop 0 (hc3.mono ((((hle4.trans hle7).trans hle9).trans hle10).trans hle11))) ZN rfl rfl rfl <| Zd hS22 (XL.drop 0 (XL.drop 1 (hc3.mono ((((hle4.trans hle7).trans hle9).trans hle10).trans hle11)))) [.int .i64 x1.r.d.a, .int .i64 x1.r.d.b] Zz rfl rfl rfl rfl rfl ?_
    refine Z8 hS22 Zvy rfl rfl rfl (ZtN hS22.imm x x1.v x1.r.d x3 _ (ZcS x hb1 (hs1.mono (((((((hle1.trans hle2).trans hle3).trans hle4).trans hle7).trans hle9).trans hle10).trans hle11)) hb2 (hs2.mono (((((((hle1.trans hle2).trans hle3).trans hle4).trans hle7).trans hle9).trans hle10).trans hle11)) (hs3.mono (((((((hle1.trans hle2).trans hle3).trans hle4).trans hle7).trans hle9).trans hle10).trans hle11)) hb3 hb4 (hs4.mono (((((((hle1.trans hle2).trans hle3).trans hle4).trans hle7).trans hle9).trans hle10).trans hle11)) hb5 (hs5.mono (((((((hle1.trans hle2).trans hle3).trans hle4).trans hle7).trans hle9).trans hle10).trans hle11)) (hs6.mono (((((((hle1.trans hle2).trans hle3).trans hle4).trans hle7).trans hle9).trans hle10).trans hle11)) hb6 (hs7.mono (((((((hle1.trans hle2).trans hle3).trans hle4).trans hle7).trans hle9).trans hle10).trans hle11)) hb7) _ (hs8.mono (((((hle3.trans hle4).trans hle7).trans hle9).trans hle10).trans hle11)) _ (Zw x1.r.d hb8 hb9) hk (hk.len (List.mem_of_getElem? (by assumption : x.t.rows[k1]? = some _))) (Yd (hgt9 _ (List.mem_of_getElem? (by assumption : x.t.rows[k1]? = some _)))).2.1) (fun w18 G12 r3 hpost3 hS23 hle12=>?_)
    have bd4:=hpost3.bound
    refine Zl hpost3 YN rfl rfl ?_
    refine YZ (((XV (lM x) x.o.rows x1.v x1.r.d x3).length : Nat) : Int) 0 rfl rfl rfl (fun h7=>?_) (fun h7=>?_)
    ·obtain ⟨p5,x4,hx4,he3,ep1⟩:=Sl.at hpost3 0 (by omega)
     obtain ⟨cs3,hc6,hr11⟩:=he3
     obtain ⟨rfl,QK,ZaO⟩:=ZP hr11
     refine dr [(9,false),(10,false),(11,false)] [(90, .pointer (some p5)),(92, .int .i64 x4.a),(94,v10),(95, .agg #[.int .i64 x3, .int .i64 x4.a,v10])] hS23 ⟨fun _=>Zi 0 ep1 YN Zz rfl rfl rfl rfl <| nu rfl rfl,fun _ hSw=>Za hSw (XL.drop 0 hc6) Zr rfl rfl rfl <| nu rfl rfl,fun _ hSw=>Za hSw (XL.drop 0 (hc3.mono (((((hle4.trans hle7).trans hle9).trans hle10).trans hle11).trans hle12))) ZN rfl rfl rfl <| nu rfl rfl,fun _=>WL.build _ [(0,[.int .i64 x3]),(1,[.int .i64 x4.a]),(2,[v10])] [.int .i64 x3, .int .i64 x4.a,v10] ZX rfl ZiH rfl rfl (by show [(0,(.int .i64 x3 : Value).cells.toList),(1,(.int .i64 x4.a : Value).cells.toList),(2,(v10 : Value).cells.toList)] = _; simp only [(hs8.mono ((((((hle3.trans hle4).trans hle7).trans hle9).trans hle10).trans hle11).trans hle12)).cells1] <;> rfl) rfl <| nu rfl rfl,trivial⟩ (fun w19 hS24=>?_)
     refine WL.buildSlice _ [(0,[.int .i64 x3, .int .i64 x4.a,v10])] [.int .i64 x3, .int .i64 x4.a,v10] hS24 ZbP rfl rfl rfl rfl (fun z hz=>by match z,hz with | [z0,z1,z2],_=>rfl) (fun b6 w20 hn6 hS25=>?_)
     refine WL.push (m:=([(Pt.mk x3 x4.a x1.v)] : List Pt)) ZbP rfl rfl rfl (hr9.mono (hle11.trans hle12)) hS25 2 rfl 0 _ _ _ _ _ rfl ⟨[.int .i64 x3, .int .i64 x4.a,v10],_,rfl,(XF (Pt.mk x3 x4.a x1.v) QS QK (hs8.mono ((((((hle3.trans hle4).trans hle7).trans hle9).trans hle10).trans hle11).trans hle12))),rfl⟩ rfl (by have hreach : reach = 140737488355328:=rfl; simp only [List.length_append,List.length_cons,List.length_nil]; omega) (by have hreach : reach = 140737488355328:=rfl; simp only [List.length_append,List.length_cons,List.length_nil]; omega) rfl rfl rfl (fun v15 o7 w21 hr12 hS26=>?_)
     have hS27:=hS26.tail
     refine Zj k1 (by have hreach : reach = 140737488355328:=rfl; omega) rfl rfl rfl ?_
     have hS28:=hS27.tail
     exact BK.mk' _ ⟨k1 + 1,v15,o7,G12,rfl,(hle2.trans ((((((hle3.trans hle4).trans hle7).trans hle9).trans hle10).trans hle11).trans hle12)),hS28,(Yb.cast hr12 (by (exact (ZmH ‹_› (Eq.trans (by assumption : XW (lM x) x.o.rows x1 (Go.Lib.compact (XO (Y2 x1 fr :: Xd (lM x) x.o.rows x1 fr))) = _) (Zqz ‹_› ‹_› ‹_›))).symm))),⟨rfl,rfl,rfl,rfl,rfl,rfl,rfl,trivial⟩,(by omega)⟩ (show x.t.rows.length - (k1 + 1) < x.t.rows.length - k1 by omega)
    refine Zj k3 (by have hreach : reach = 140737488355328:=rfl; omega) rfl rfl rfl ?_
    exact BK.mk' _ ⟨k3 + 1,v14,o6,G12,rfl,(hle10.trans (hle11.trans hle12)),hS23,(hr9.mono (hle11.trans hle12)),⟨rfl,rfl,rfl,rfl,rfl,rfl,rfl,rfl,rfl,rfl,rfl,trivial⟩,(by omega),(by exact Eq.trans (by assumption : XW (lM x) x.o.rows x1 (Go.Lib.compact (XO (Y2 x1 fr :: Xd (lM x) x.o.rows x1 fr))) = _) (Zo4 ‹_› ‹_› ‹_›))⟩ (show (Go.Lib.compact (XO (Y2 x1 fr :: Xd (lM x) x.o.rows x1 fr))).length - (k3 + 1) < (Go.Lib.compact (XO (Y2 x1 fr :: Xd (lM x) x.o.rows x1 fr))).length - k3 by omega)
   refine Zj k1 (by have hreach : reach = 140737488355328:=rfl; omega) rfl rfl rfl ?_
   have hS29:=hS22.tail
   exact BK.mk' _ ⟨k1 + 1,v14,o6,G11,rfl,(hle2.trans (((((hle3.trans hle4).trans hle7).trans hle9).trans hle10).trans hle11)),hS29,(Yb.cast (hr9.mono hle11) (by (exact (Zhg ‹_› (Eq.trans (by assumption : XW (lM x) x.o.rows x1 (Go.Lib.compact (XO (Y2 x1 fr :: Xd (lM x) x.o.rows x1 fr))) = _) (Zqy ‹_› ‹_›))).symm))),⟨rfl,rfl,rfl,rfl,rfl,rfl,rfl,trivial⟩,(by omega)⟩ (show x.t.rows.length - (k1 + 1) < x.t.rows.length - k1 by omega)
  refine Zj k1 (by have hreach : reach = 140737488355328:=rfl; omega) rfl rfl rfl ?_
  have hS30:=hS21.tail
  exact BK.mk' _ ⟨k1 + 1,v14,o6,G10,rfl,(hle2.trans ((((hle3.trans hle4).trans hle7).trans hle9).trans hle10)),hS30,(Yb.cast hr9 (by (exact (Zhg ‹_› (Eq.trans (by assumption : XW (lM x) x.o.rows x1 (Go.Lib.compact (XO (Y2 x1 fr :: Xd (lM x) x.o.rows x1 fr))) = _) (Zq0 (by omega)))).symm))),⟨rfl,rfl,rfl,rfl,rfl,rfl,rfl,trivial⟩,(by omega)⟩ (show x.t.rows.length - (k1 + 1) < x.t.rows.length - k1 by omega)
 have bd5:=hr1.bound
 refine Qv hr1 ZbO rfl rfl ?_
 refine Xi (((Y3 (lM x) x.o.rows (x.t.rows.take k1) fr).length : Nat) : Int) 0 rfl rfl rfl (fun h8=>?_) (fun h8=>?_)
 ·refine WL.build _ [] [.int .i64 0, .int .i64 0, .slice none 0 0] ZX rfl ZiH rfl rfl rfl rfl ?_
  refine WL.store hS3 1 _ _ _ 0 _ [.int .i64 0, .int .i64 0, .slice none 0 0] [.int .i64 0, .int .i64 0, .slice none 0 0] _ rfl rfl ZX rfl (Nat.le_of_ble_eq_true rfl) rfl rfl rfl rfl rfl rfl (fun w22 hS31=>?_)
  exact X0 [.agg #[.int .i64 0, .int .i64 0, .slice none 0 0], .bool false] hS31 ⟨_,_,_,rfl,rfl,hS31.loadA 1 _ _ _ 0 [.int .i64 0, .int .i64 0, .slice none 0 0] rfl rfl rfl ZX rfl,⟨_,rfl,rfl⟩⟩ ⟨_,_,rfl,(Is.cast ⟨_,rfl,(XF (Pt.mk 0 0 []) Yl Yl (Sl.nil ValE 32 G2))⟩ (by exact (Zrm ‹_› (by omega)).1)),(congrArg Value.bool (by exact (Zrm ‹_› (by omega)).2))⟩
 obtain ⟨G13,hle13,hs10,hS32⟩:=Yb.freeze hr1 hS3 0 rfl
 refine Z8 hS32 Zuu rfl rfl rfl (ZtO hS32.imm (Y3 (lM x) x.o.rows (x.t.rows.take k1) fr) _ hs10 (ZtD ‹_›)) (fun w23 G14 r4 hpost4 hS33 hle14=>?_)
 obtain ⟨cs4,rfl,hr13⟩:=hpost4
 obtain ⟨v16,rfl,ZbC,Zcg,hs11⟩:=XK hr13
 refine WL.store hS33 1 _ _ _ 0 _ [.int .i64 ((Xm (Y3 (lM x) x.o.rows (x.t.rows.take k1) fr)).tx), .int .i64 ((Xm (Y3 (lM x) x.o.rows (x.t.rows.take k1) fr)).vd),v16] [.int .i64 ((Xm (Y3 (lM x) x.o.rows (x.t.rows.take k1) fr)).tx), .int .i64 ((Xm (Y3 (lM x) x.o.rows (x.t.rows.take k1) fr)).vd),v16] _ rfl rfl ZX rfl (Nat.le_of_ble_eq_true rfl) (by simp only [List.all_cons,List.all_nil,hs11.oneC,Bool.true_and] <;> rfl) rfl rfl rfl rfl rfl (fun w24 hS34=>?_)
 exact X0 [.agg #[.int .i64 ((Xm (Y3 (lM x) x.o.rows (x.t.rows.take k1) fr)).tx), .int .i64 ((Xm (Y3 (lM x) x.o.rows (x.t.rows.take k1) fr)).vd),v16], .bool true] hS34 ⟨_,_,_,rfl,rfl,hS34.loadA 1 _ _ _ 0 [.int .i64 ((Xm (Y3 (lM x) x.o.rows (x.t.rows.take k1) fr)).tx), .int .i64 ((Xm (Y3 (lM x) x.o.rows (x.t.rows.take k1) fr)).vd),v16] rfl rfl rfl ZX rfl,⟨_,rfl,rfl⟩⟩ ⟨_,_,rfl,(Is.cast ⟨_,rfl,(XF (Pt.mk ((Xm (Y3 (lM x) x.o.rows (x.t.rows.take k1) fr)).tx) ((Xm (Y3 (lM x) x.o.rows (x.t.rows.take k1) fr)).vd) ((Xm (Y3 (lM x) x.o.rows (x.t.rows.take k1) fr)).v)) ZbC Zcg hs11)⟩ (by exact (Zrn ‹_› (by omega)).1)),(congrArg Value.bool (by exact (Zrn ‹_› (by omega)).2))⟩
end Go.Civ
