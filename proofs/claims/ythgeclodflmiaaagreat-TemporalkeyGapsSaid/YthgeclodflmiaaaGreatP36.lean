/- Lemmas. -/
import Derived.Test.YthgeclodflmiaaaGreatP35
import Derived.Test.YthgeclodflmiaaaGreatProg
import Derived.KernelRfl
import Derived.WalkKit
set_option linter.unusedVariables false
set_option linter.unusedSimpArgs false
set_option maxRecDepth 100000
set_option maxHeartbeats 4000000
namespace Go.Civ
open Go.Proofs
theorem Zs6 {G : GH} {w : World} (hG : G.In w) (l : List Pt) (vl : Value) (hvl : Sl PtE 40 G vl l) (hne : l ≠ []) : CL Tryz.prog (nat_lit 147) #[vl, .func (.func 117) #[] #[]] [] w G fun G' _ r=>Is PtE G' r (YN l):=by
 refine Y9 ft [] Tryz.func147 rfl rfl ?_
 have hpos:=List.length_pos_iff.2 hne
 have hS:=St.start (X:=[]) hG
 refine WL.alloc hS ZP rfl rfl (fun b1 w1 hn1 hS1=>?_)
 have bd1:=hvl.bound
 refine Zi hvl Zby rfl rfl ?_
 refine Zq (l.length : Int) 1 rfl rfl rfl (fun h1=>?_) (fun h1=>?_)
 ·exact absurd h1 (by omega)
 refine WL.indexAddr hvl 0 (by omega) Zby ZP rfl rfl rfl rfl (fun p1 x1 hx1 he1=>?_)
 obtain ⟨cs1,hc1,hr1⟩:=he1
 obtain ⟨v1,rfl,hb1,hb2,hs1⟩:=XQ hr1
 refine Zc hS1 hc1 [.int .i64 x1.tx, .int .i64 x1.vd,v1] ZP rfl rfl rfl rfl rfl ?_
 refine WL.alloc hS1 ZP rfl rfl (fun b2 w2 hn2 hS2=>?_)
 refine WL.store hS2 0 _ _ _ 0 _ [.int .i64 x1.tx, .int .i64 x1.vd,v1] [.int .i64 x1.tx, .int .i64 x1.vd,v1] _ rfl rfl ZP rfl (Nat.le_of_ble_eq_true rfl) (by simp only [List.all_cons,List.all_nil,hs1.oneC,Bool.true_and] <;> rfl) rfl rfl rfl rfl rfl (fun w3 hS3=>?_)
 refine LP.go ft [] (fun m ρ1 w1=>∃ (k1 : Nat),∃ (mp : Pt),∃ (mv : Value),∃ (G1 : GH),m = l.length - k1 ∧ G.le G1 ∧ St w [] G G1 [some (b2,105,[.int .i64 mp.tx, .int .i64 mp.vd,mv]),some (b1,105,[.int .i64 0, .int .i64 0, .slice none 0 0])] w1 ∧ FR ρ1 [(0,vl),(1, .func (.func 117) #[] #[]),(4, .pointer (some ⟨b1,0,none⟩)),(5, .pointer (some ⟨b2,0,none⟩)),(6, .int .i64 (k1 : Int))] ∧ k1 ≤ l.length ∧ mp = YN (l.take k1) ∧ Sl ValE 32 G1 mv mp.v ∧ Zy mp.tx ∧ Zy mp.vd ∧ 1 ≤ k1) _ ⟨1,x1,v1,G,rfl,(G.le_refl),hS3,⟨rfl,rfl,rfl,rfl,rfl,trivial⟩,(by omega),(by exact Zpt ‹_›),(hs1),‹_›,‹_›,(by omega)⟩ ?_
 rintro m ρ1 w4 ⟨k1,mp,mv,G1,rfl,hle1,hS4,hF9,f1,f2,f3,f4,f5,f6⟩
 refine hF9.set ?_
 clear hF9
 have bd2:=hvl.bound
 refine Zi (hvl.mono hle1) Zby rfl rfl ?_
 refine Zq (k1 : Int) (l.length : Int) rfl rfl rfl (fun h2=>?_) (fun h2=>?_)
 ·obtain ⟨p2,x2,hx2,he2,ep1⟩:=Sl.at (hvl.mono hle1) k1 (by omega)
  obtain ⟨cs2,hc2,hr2⟩:=he2
  obtain ⟨v2,rfl,hb3,hb4,hs2⟩:=XQ hr2
  rcases Cmp.dec .lss (XR x2 mp) 0 with ⟨hb5,q1⟩ | ⟨hb5,q1⟩
  ·have h3 : (XR x2 mp) < 0:=q1
   clear q1
   refine dr [] [(23, .pointer (some p2)),(24, .agg #[.int .i64 x2.tx, .int .i64 x2.vd,v2]),(25, .agg #[.int .i64 mp.tx, .int .i64 mp.vd,mv]),(26, .int .i64 (XR x2 mp)),(27, .bool true)] hS4 ⟨fun _=>Zn k1 ep1 Zby ZP rfl rfl rfl rfl <| nu rfl rfl,fun _ hSw=>Zc hSw hc2 [.int .i64 x2.tx, .int .i64 x2.vd,v2] ZP rfl rfl rfl rfl rfl <| nu rfl rfl,fun _ hSw=>Yd hSw 0 _ _ _ 0 [.int .i64 mp.tx, .int .i64 mp.vd,mv] rfl rfl rfl ZP rfl rfl rfl <| nu rfl rfl,fun _ hSw=>ZH hSw Zp9 rfl rfl rfl (ZfE hSw.imm x2 mp _ (Xo x2 hb3 hb4 hs2) _ (Xo mp f4 f5 f3)) rfl,fun _=>WL.cmpV .lss rfl .i64 (XR x2 mp) 0 _ hb5 rfl rfl rfl <| nu rfl rfl,trivial⟩ (fun w5 hS5=>?_)
   refine WL.indexAddr (hvl.mono hle1) k1 (by omega) Zby ZP rfl rfl rfl rfl (fun p3 x3 hx3 he3=>?_)
   obtain rfl : x2 = x3:=Option.some.inj (hx2.symm.trans hx3)
   obtain ⟨cs3,hc3,hr3⟩:=he3
   obtain ⟨v3,rfl,hb6,hb7,hs3⟩:=XQ hr3
   refine Zc hS5 hc3 [.int .i64 x2.tx, .int .i64 x2.vd,v3] ZP rfl rfl rfl rfl rfl ?_
   refine WL.store hS5 0 _ _ _ 0 _ [.int .i64 x2.tx, .int .i64 x2.vd,v3] [.int .i64 x2.tx, .int .i64 x2.vd,v3] _ rfl rfl ZP rfl (Nat.le_of_ble_eq_true rfl) (by simp only [List.all_cons,List.all_nil,hs3.oneC,Bool.true_and] <;> rfl) rfl rfl rfl rfl rfl (fun w6 hS6=>?_)
   refine Zk k1 (by have hreach : reach = 140737488355328:=rfl; omega) rfl rfl rfl ?_
   exact BK.mk' _ ⟨k1 + 1,x2,v3,G1,rfl,hle1,hS6,⟨rfl,rfl,rfl,rfl,rfl,trivial⟩,(by omega),(by first | (rw [ZhV ‹_› (by omega),← (by assumption : mp = YN (l.take k1))]; first | exact (if_pos ‹_›).symm | exact (if_neg (by omega)).symm)),(hs3),‹_›,‹_›,(by omega)⟩ (show l.length - (k1 + 1) < l.length - k1 by omega)
  have h3 : 0 ≤ (XR x2 mp):=q1
  clear q1
  refine dr [] [(23, .pointer (some p2)),(24, .agg #[.int .i64 x2.tx, .int .i64 x2.vd,v2]),(25, .agg #[.int .i64 mp.tx, .int .i64 mp.vd,mv]),(26, .int .i64 (XR x2 mp)),(27, .bool false)] hS4 ⟨fun _=>Zn k1 ep1 Zby ZP rfl rfl rfl rfl <| nu rfl rfl,fun _ hSw=>Zc hSw hc2 [.int .i64 x2.tx, .int .i64 x2.vd,v2] ZP rfl rfl rfl rfl rfl <| nu rfl rfl,fun _ hSw=>Yd hSw 0 _ _ _ 0 [.int .i64 mp.tx, .int .i64 mp.vd,mv] rfl rfl rfl ZP rfl rfl rfl <| nu rfl rfl,fun _ hSw=>ZH hSw Zp9 rfl rfl rfl (ZfE hSw.imm x2 mp _ (Xo x2 hb3 hb4 hs2) _ (Xo mp f4 f5 f3)) rfl,fun _=>WL.cmpV .lss rfl .i64 (XR x2 mp) 0 _ hb5 rfl rfl rfl <| nu rfl rfl,trivial⟩ (fun w7 hS7=>?_)
  refine Zk k1 (by have hreach : reach = 140737488355328:=rfl; omega) rfl rfl rfl ?_
  exact BK.mk' _ ⟨k1 + 1,mp,mv,G1,rfl,hle1,hS7,⟨rfl,rfl,rfl,rfl,rfl,trivial⟩,(by omega),(by first | (rw [ZhV ‹_› (by omega),← (by assumption : mp = YN (l.take k1))]; first | exact (if_pos ‹_›).symm | exact (if_neg (by omega)).symm)),(f3),‹_›,‹_›,(by omega)⟩ (show l.length - (k1 + 1) < l.length - k1 by omega)
 refine Yd hS4 0 _ _ _ 0 [.int .i64 mp.tx, .int .i64 mp.vd,mv] rfl rfl rfl ZP rfl rfl rfl ?_
 refine WL.store hS4 1 _ _ _ 0 _ [.int .i64 mp.tx, .int .i64 mp.vd,mv] [.int .i64 mp.tx, .int .i64 mp.vd,mv] _ rfl rfl ZP rfl (Nat.le_of_ble_eq_true rfl) (by simp only [List.all_cons,List.all_nil,f3.oneC,Bool.true_and] <;> rfl) rfl rfl rfl rfl rfl (fun w9 hS8=>?_)
 obtain ⟨G2,hle2,hc4,hS9⟩:=hS8.sealAt 1 rfl hn1
 exact Xj [.agg #[.int .i64 mp.tx, .int .i64 mp.vd,mv]] hS9 ⟨_,_,_,rfl,rfl,hS9.loadC hc4 ZP rfl rfl,rfl⟩ (Is.cast ⟨_,rfl,(Xo mp f4 f5 (f3.mono hle2))⟩ (by rw [(by assumption : mp = YN (l.take k1)),List.take_of_length_le (by omega)]))
theorem Zt0 {G : GH} {w : World} (hG : G.In w) (x : Link) (fr : Int) (cx : List Value) (hcx : ZgM.rep G x cx) (hfr : Zy fr) (hk : LinkOk x) : CL Tryz.prog (nat_lit 91) #[.agg cx.toArray, .int .i64 fr] [] w G fun G' _ r=>∃ r0 r1,r = .tuple #[r0,r1] ∧ Is PtE G' r0 (ZD (YK x fr)) ∧ r1 = .bool ((YK x fr).isSome):=by
 refine Y9 ft [] Tryz.func91 rfl rfl ?_
 have hS:=St.start (X:=[]) hG
 obtain ⟨v1,v2,v3,v4,v5,v6,v7,rfl,hb1,hs1,hb2,hs2,hs3,hb3,hb4,hs4,hb5,hs5,hs6,hb6,hs7,hb7⟩:=ZdM hcx
 refine Zu [Zd x.t.s.name,v1, .int .i64 x.t.s.key,v2,v3, .int .i64 x.t.last,Zd x.o.s.name,v4, .int .i64 x.o.s.key,v5,v6, .int .i64 x.o.last,v7,Zd x.f.table] _ hS rfl rfl rfl (fun p1 w1 G1 hle1 hsp1 hc1 hS1=>?_)
 refine WL.alloc hS1 ZP rfl rfl (fun b1 w2 hn1 hS2=>?_)
 obtain ⟨hg9,hn9,h89,he9⟩:=ZE hk.o
 obtain ⟨hgt9,hnt9,ht89,het9⟩:=ZE hk.t
 refine Zb hS2 (Xl.drop 4 (Xl.drop 0 hc1)) YW rfl rfl rfl ?_
 have bd1:=hs3.bound
 refine Zi (hs3.mono hle1) YB rfl rfl ?_
 have hS4:=hS2.pad
 refine LP.go ft [] (fun m ρ1 w1=>∃ (k1 : Nat),∃ (v9 : Value) (o1 : OB),∃ (G2 : GH),m = x.t.rows.length - k1 ∧ G1.le G2 ∧ St w [] G G2 [o1,some (b1,105,[.int .i64 0, .int .i64 0, .slice none 0 0])] w1 ∧ ZS PtE 40 105 G2 v9 (Yg (lM x) x.o.rows (x.t.rows.take k1) fr) o1 ∧ FR ρ1 [(1, .int .i64 fr),(2, .pointer (some p1)),(4, .pointer (some ⟨b1,0,none⟩)),(6,v9),(18,v3),(19, .int .i64 (x.t.rows.length : Int)),(20, .int .i64 (k1 : Int))] ∧ k1 ≤ x.t.rows.length) _ ⟨0,(.slice none 0 0),none,G1,rfl,(G1.le_refl),hS4,(ZS.cast (ZS.nil PtE 40 105 G1) (by rfl)),⟨rfl,rfl,rfl,rfl,rfl,rfl,rfl,trivial⟩,(by omega)⟩ ?_
 rintro m ρ1 w3 ⟨k1,v9,o1,G2,rfl,hle2,hS3,hr1,hF9,f1⟩
 refine hF9.set ?_
 clear hF9
 have hgl9:=ZnF (M:=lM x) (l:=x.o.rows) (fr:=fr) x.t.rows k1
 refine Zq (k1 : Int) (x.t.rows.length : Int) rfl rfl rfl (fun h1=>?_) (fun h1=>?_)
 ·refine WL.indexAddr (hs3.mono (hle1.trans hle2)) k1 (by omega) YB Zx rfl rfl rfl rfl (fun p2 x1 hx1 he1=>?_)
  obtain ⟨cs1,hc2,hr2⟩:=he1
  obtain ⟨v10,rfl,hs8,hb8,hb9,hb10,Yq⟩:=ZK hr2
  refine Zc hS3 hc2 [v10, .int .i64 x1.r.d.a, .int .i64 x1.r.d.b, .int .i64 x1.r.x.a, .int .i64 x1.r.x.b] Zx rfl rfl rfl rfl rfl ?_
  refine WL.alloc hS3 Zx rfl rfl (fun b2 w4 hn2 hS5=>?_)
  refine WL.store hS5 0 _ _ _ 0 _ [v10, .int .i64 x1.r.d.a, .int .i64 x1.r.d.b, .int .i64 x1.r.x.a, .int .i64 x1.r.x.b] [v10, .int .i64 x1.r.d.a, .int .i64 x1.r.d.b, .int .i64 x1.r.x.a, .int .i64 x1.r.x.b] _ rfl rfl Zx rfl (Nat.le_of_ble_eq_true rfl) (by simp only [List.all_cons,List.all_nil,hs8.oneC,Bool.true_and] <;> rfl) rfl rfl rfl rfl rfl (fun w5 hS6=>?_)
  obtain ⟨G3,hle3,hc3,hS7⟩:=hS6.shutB hn2
  refine Zb hS7 (Xl.drop 0 (Xl.drop 2 (Xl.drop 1 hc3))) Z7 rfl rfl rfl <| ZeM x1.r.x.a fr rfl rfl rfl ?_
  refine WL.buildSlice _ [(0,[.int .i64 (max x1.r.x.a fr)])] [.int .i64 (max x1.r.x.a fr)] hS7 Zdu rfl rfl rfl rfl (fun z hz=>by match z,hz with | [z0],_=>rfl) (fun b3 w6 hn3 hS8=>?_)
  refine Zb hS8 (Xl.drop 4 (Xl.drop 6 (hc1.mono (hle2.trans hle3)))) YW rfl rfl rfl ?_
  have bd2:=hs6.bound
  refine Zi (hs6.mono ((hle1.trans hle2).trans hle3)) YB rfl rfl ?_
  have hr3 : ZS Enc.int 8 3 G3 (.slice (some ⟨b3,0,none⟩) 1 1) [(max x1.r.x.a fr)] (some (b3,3,[.int .i64 (max x1.r.x.a fr)])):=ZS.ofNew ⟨[.int .i64 (max x1.r.x.a fr)],_,rfl,⟨rfl,(QH hb10 hfr)⟩,rfl⟩ rfl (by simp [reach]) (by simp [reach])
  refine LP.go ft [] (fun m ρ1 w1=>∃ (k2 : Nat),∃ (v11 : Value) (o2 : OB),∃ (G4 : GH),m = x.o.rows.length - k2 ∧ G3.le G4 ∧ St w [] G G4 [o2,o1,some (b1,105,[.int .i64 0, .int .i64 0, .slice none 0 0])] w1 ∧ ZS Enc.int 8 3 G4 v11 (Yj x1 fr :: YH (lM x) (x.o.rows.take k2) x1 fr) o2 ∧ FR ρ1 [(1, .int .i64 fr),(2, .pointer (some p1)),(4, .pointer (some ⟨b1,0,none⟩)),(6,v9),(8, .pointer (some (⟨b2,0,none⟩ : Addr))),(9, .int .i64 (max x1.r.x.a fr)),(10,v11),(18,v3),(19, .int .i64 (x.t.rows.length : Int)),(20, .int .i64 (k1 : Int)),(34,v6),(35, .int .i64 (x.o.rows.length : Int)),(36, .int .i64 (k2 : Int))] ∧ k2 ≤ x.o.rows.length) _ ⟨0,(.slice (some ⟨b3,0,none⟩) 1 1),(some (b3,3,[.int .i64 (max x1.r.x.a fr)])),G3,rfl,(G3.le_refl),hS8,(ZS.cast hr3 (by rfl)),⟨rfl,rfl,rfl,rfl,rfl,rfl,rfl,rfl,rfl,rfl,rfl,rfl,rfl,trivial⟩,(by omega)⟩ ?_
  rintro m ρ1 w7 ⟨k2,v11,o2,G4,rfl,hle4,hS9,hr4,hF9,f2⟩
  refine hF9.set ?_
  clear hF9
  have hel9:=ZnD (M:=lM x) (r:=x1) (fr:=fr) x.o.rows k2
  refine Zq (k2 : Int) (x.o.rows.length : Int) rfl rfl rfl (fun h2=>?_) (fun h2=>?_)
  ·refine WL.indexAddr (hs6.mono (((hle1.trans hle2).trans hle3).trans hle4)) k2 (by omega) YB Zx rfl rfl rfl rfl (fun p3 x2 hx2 he2=>?_)
   obtain ⟨cs2,hc4,hr5⟩:=he2
   obtain ⟨v12,rfl,hs9,Xu,Xv,QN,ZaJ⟩:=ZK hr5
   refine Zc hS9 hc4 [v12, .int .i64 x2.r.d.a, .int .i64 x2.r.d.b, .int .i64 x2.r.x.a, .int .i64 x2.r.x.b] Zx rfl rfl rfl rfl rfl ?_
   refine WL.alloc hS9 Zx rfl rfl (fun b4 w9 hn4 hS10=>?_)
   refine WL.store hS10 0 _ _ _ 0 _ [v12, .int .i64 x2.r.d.a, .int .i64 x2.r.d.b, .int .i64 x2.r.x.a, .int .i64 x2.r.x.b] [v12, .int .i64 x2.r.d.a, .int .i64 x2.r.d.b, .int .i64 x2.r.x.a, .int .i64 x2.r.x.b] _ rfl rfl Zx rfl (Nat.le_of_ble_eq_true rfl) (by simp only [List.all_cons,List.all_nil,hs9.oneC,Bool.true_and] <;> rfl) rfl rfl rfl rfl rfl (fun w10 hS11=>?_)
   obtain ⟨G5,hle5,hc5,hS12⟩:=hS11.shutB hn4
   refine Zb hS12 (Xl.drop 1 (Xl.drop 2 (Xl.drop 1 hc5))) Z7 rfl rfl rfl ?_
   refine YD x2.r.x.b (max x1.r.x.a fr) rfl rfl rfl (fun h3=>?_) (fun h3=>?_)
   ·refine Zc hS12 (hc1.mono (((hle2.trans hle3).trans hle4).trans hle5)) [Zd x.t.s.name,v1, .int .i64 x.t.s.key,v2,v3, .int .i64 x.t.last,Zd x.o.s.name,v4, .int .i64 x.o.s.key,v5,v6, .int .i64 x.o.last,v7,Zd x.f.table] Zgh rfl rfl rfl rfl rfl <| Zb hS12 (Xl.drop 0 (hc3.mono (hle4.trans hle5))) ZG rfl rfl rfl <| Zc hS12 hc5 [v12, .int .i64 x2.r.d.a, .int .i64 x2.r.d.b, .int .i64 x2.r.x.a, .int .i64 x2.r.x.b] Zx rfl rfl rfl rfl rfl ?_
    refine Zj hS12 ZpE rfl rfl rfl (Zia hS12.imm x x1.v x2 _ (Zcz x hb1 (hs1.mono ((((hle1.trans hle2).trans hle3).trans hle4).trans hle5)) hb2 (hs2.mono ((((hle1.trans hle2).trans hle3).trans hle4).trans hle5)) (hs3.mono ((((hle1.trans hle2).trans hle3).trans hle4).trans hle5)) hb3 hb4 (hs4.mono ((((hle1.trans hle2).trans hle3).trans hle4).trans hle5)) hb5 (hs5.mono ((((hle1.trans hle2).trans hle3).trans hle4).trans hle5)) (hs6.mono ((((hle1.trans hle2).trans hle3).trans hle4).trans hle5)) hb6 (hs7.mono ((((hle1.trans hle2).trans hle3).trans hle4).trans hle5)) hb7) _ (hs8.mono ((hle3.trans hle4).trans hle5)) _ (ZM x2 (hs9.mono hle5) Xu Xv QN ZaJ) hk.cols (hk.len (List.mem_of_getElem? (by assumption : x.t.rows[k1]? = some _))) (hk.olen (List.mem_of_getElem? (by assumption : x.o.rows[k2]? = some _)))) (fun w11 G6 hS13 hle6=>?_)
    refine WL.split (fun (h4 : (XY x.t.s x.f.cols x1.v x2.v) = true)=>?_) (fun (h4 : (XY x.t.s x.f.cols x1.v x2.v) = false)=>?_)
    ·refine Zb hS13 (Xl.drop 1 (Xl.drop 2 (Xl.drop 1 (hc5.mono hle6)))) Z7 rfl rfl rfl ?_
     refine WL.buildSlice _ [(0,[.int .i64 x2.r.x.b])] [.int .i64 x2.r.x.b] hS13 Zdu rfl rfl rfl rfl (fun z hz=>by match z,hz with | [z0],_=>rfl) (fun b5 w12 hn5 hS14=>?_)
     refine WL.push (m:=([x2.r.x.b] : List Int)) Zdu rfl rfl rfl (hr4.mono (hle5.trans hle6)) hS14 1 rfl 0 _ _ _ _ _ rfl ⟨[.int .i64 x2.r.x.b],_,rfl,⟨rfl,ZaJ⟩,rfl⟩ rfl (by have hreach : reach = 140737488355328:=rfl; simp only [List.length_append,List.length_cons,List.length_nil]; omega) (by have hreach : reach = 140737488355328:=rfl; simp only [List.length_append,List.length_cons,List.length_nil]; omega) rfl rfl rfl (fun v13 o3 w13 hr6 hS15=>?_)
     have hS16:=hS15.tail
     refine Zk k2 (by have hreach : reach = 140737488355328:=rfl; omega) rfl rfl rfl ?_
     exact BK.mk' _ ⟨k2 + 1,v13,o3,G6,rfl,(hle4.trans (hle5.trans hle6)),hS16,(ZS.cast hr6 (by (exact (congrArg (Yj x1 fr :: ·) (ZnC ‹_› ‹_› ‹_›)).symm))),⟨rfl,rfl,rfl,rfl,rfl,rfl,rfl,rfl,rfl,rfl,rfl,rfl,rfl,trivial⟩,(by omega)⟩ (show x.o.rows.length - (k2 + 1) < x.o.rows.length - k2 by omega)
    refine Zk k2 (by have hreach : reach = 140737488355328:=rfl; omega) rfl rfl rfl ?_
    exact BK.mk' _ ⟨k2 + 1,v11,o2,G6,rfl,(hle4.trans (hle5.trans hle6)),hS13,(ZS.cast (hr4.mono (hle5.trans hle6)) (by (exact (congrArg (Yj x1 fr :: ·) (ZjM ‹_› (by first | exact .inl ‹_› | exact .inr ‹_›))).symm))),⟨rfl,rfl,rfl,rfl,rfl,rfl,rfl,rfl,rfl,rfl,rfl,rfl,rfl,trivial⟩,(by omega)⟩ (show x.o.rows.length - (k2 + 1) < x.o.rows.length - k2 by omega)
   refine Zk k2 (by have hreach : reach = 140737488355328:=rfl; omega) rfl rfl rfl ?_
   exact BK.mk' _ ⟨k2 + 1,v11,o2,G5,rfl,(hle4.trans hle5),hS12,(ZS.cast (hr4.mono hle5) (by (exact (congrArg (Yj x1 fr :: ·) (ZjM ‹_› (by first | exact .inl ‹_› | exact .inr ‹_›))).symm))),⟨rfl,rfl,rfl,rfl,rfl,rfl,rfl,rfl,rfl,rfl,rfl,rfl,rfl,trivial⟩,(by omega)⟩ (show x.o.rows.length - (k2 + 1) < x.o.rows.length - k2 by omega)
  refine QO ZpF rfl rfl rfl (Zk0 hS9.imm (Yj x1 fr :: YH (lM x) (x.o.rows.take k2) x1 fr) _ _ hr4 (hS9.lentAt 0 rfl)) (fun w14 G7 r1 hres1 hpost1=>?_)
  have hle7:=hres1.le
  obtain ⟨rfl,l1,o4,hr7,hf1,hq1⟩:=hpost1
  have hS18:=hS9.callRow 0 rfl hres1 hr4 hr7 hf1
  have hcut:=ZS.cast (l':=X2 (Yj x1 fr :: YH (lM x) x.o.rows x1 fr)) hr7 (by rw [hq1,Zjt,List.take_of_length_le (by omega)])
  have hcl9:=ZnG (M:=lM x) (l:=x.o.rows) (r:=x1) (fr:=fr)
  refine QO ZpG rfl rfl rfl (Zh9 hS18.imm (X2 (Yj x1 fr :: YH (lM x) x.o.rows x1 fr)) _ _ hcut (hS18.lentAt 0 rfl)) (fun w15 G9 r2 hres2 hpost2=>?_)
  have hle9:=hres2.le
  obtain ⟨o5,hr8,hf2,hq2⟩:=hpost2
  have hS20:=hS18.callRowR 0 rfl hres2 hcut hr8 hf2 hq2
  have bd3:=hr8.bound
  refine Qc hr8 Zds rfl rfl ?_
  refine LP.go ft [] (fun m ρ1 w1=>∃ (k3 : Nat),∃ (v14 : Value) (o6 : OB),∃ (G10 : GH),m = (Go.Lib.compact (X2 (Yj x1 fr :: YH (lM x) x.o.rows x1 fr))).length - k3 ∧ G9.le G10 ∧ St w [] G G10 [o5,o6,some (b1,105,[.int .i64 0, .int .i64 0, .slice none 0 0])] w1 ∧ ZS PtE 40 105 G10 v14 (Yg (lM x) x.o.rows (x.t.rows.take k1) fr) o6 ∧ FR ρ1 [(1, .int .i64 fr),(2, .pointer (some p1)),(4, .pointer (some ⟨b1,0,none⟩)),(6,v14),(8, .pointer (some (⟨b2,0,none⟩ : Addr))),(18,v3),(19, .int .i64 (x.t.rows.length : Int)),(20, .int .i64 (k1 : Int)),(64,r2),(65, .int .i64 (((Go.Lib.compact (X2 (Yj x1 fr :: YH (lM x) x.o.rows x1 fr))).length : Nat) : Int)),(66, .int .i64 (k3 : Int))] ∧ k3 ≤ (Go.Lib.compact (X2 (Yj x1 fr :: YH (lM x) x.o.rows x1 fr))).length ∧ XC (lM x) x.o.rows x1 (Go.Lib.compact (X2 (Yj x1 fr :: YH (lM x) x.o.rows x1 fr))) = XC (lM x) x.o.rows x1 ((Go.Lib.compact (X2 (Yj x1 fr :: YH (lM x) x.o.rows x1 fr))).drop k3)) _ ⟨0,v9,o1,G9,rfl,(G9.le_refl),hS20,(hr1.mono (((hle3.trans hle4).trans hle7).trans hle9)),⟨rfl,rfl,rfl,rfl,rfl,rfl,rfl,rfl,rfl,rfl,rfl,trivial⟩,(by omega),(by rfl)⟩ ?_
  rintro m ρ1 w16 ⟨k3,v14,o6,G10,rfl,hle10,hS21,hr9,hF9,f3,f4⟩
  refine hF9.set ?_
  clear hF9
  refine Zq (k3 : Int) (((Go.Lib.compact (X2 (Yj x1 fr :: YH (lM x) x.o.rows x1 fr))).length : Nat) : Int) rfl rfl rfl (fun h5=>?_) (fun h5=>?_)
  ·refine Qe (hr8.mono hle10) k3 (by omega) Zds Z7 rfl rfl rfl rfl (fun p4 x3 ec1 hx3 hr10 ra1=>?_)
   obtain ⟨rfl,ZbI⟩:=hr10
   refine ZfU ra1 hS21 0 rfl _ rfl Z7 rfl rfl rfl <| Zc hS21 (Xl.drop 2 (Xl.drop 1 (hc3.mono (((hle4.trans hle7).trans hle9).trans hle10)))) [.int .i64 x1.r.x.a, .int .i64 x1.r.x.b] Zt rfl rfl rfl rfl rfl ?_
   refine Zj hS21 Qy rfl rfl rfl (Qz hS21.imm x1.r.x x3 _ (Zs x1.r.x hb10 Yq)) (fun w17 G11 hS22 hle11=>?_)
   refine WL.split (fun (h6 : (Xf x3 x1.r.x) = true)=>?_) (fun (h6 : (Xf x3 x1.r.x) = false)=>?_)
   ·refine Zc hS22 (hc1.mono ((((((hle2.trans hle3).trans hle4).trans hle7).trans hle9).trans hle10).trans hle11)) [Zd x.t.s.name,v1, .int .i64 x.t.s.key,v2,v3, .int .i64 x.t.last,Zd x.o.s.name,v4, .int .i64 x.o.s.key,v5,v6, .int .i64 x.o.last,v7,Zd x.f.table] Zgh rfl rfl rfl rfl rfl <| Zb hS22 (Xl.drop 0 (hc3.mono ((((hle4.trans hle7).trans hle9).trans hle10).trans hle11))) ZG rfl rfl rfl <| Zc hS22 (Xl.drop 0 (Xl.drop 1 (hc3.mono ((((hle4.trans hle7).trans hle9).trans hle10).trans hle11)))) [.int .i64 x1.r.d.a, .int .i64 x1.r.d.b] Zt rfl rfl rfl rfl rfl ?_
    refine Z3 hS22 ZrC rfl rfl rfl (ZnL hS22.imm x x1.v x1.r.d x3 _ (Zcz x hb1 (hs1.mono (((((((hle1.trans hle2).trans hle3).trans hle4).trans hle7).trans hle9).trans hle10).trans hle11)) hb2 (hs2.mono (((((((hle1.trans hle2).trans hle3).trans hle4).trans hle7).trans hle9).trans hle10).trans hle11)) (hs3.mono (((((((hle1.trans hle2).trans hle3).trans hle4).trans hle7).trans hle9).trans hle10).trans hle11)) hb3 hb4 (hs4.mono (((((((hle1.trans hle2).trans hle3).trans hle4).trans hle7).trans hle9).trans hle10).trans hle11)) hb5 (hs5.mono (((((((hle1.trans hle2).trans hle3).trans hle4).trans hle7).trans hle9).trans hle10).trans hle11)) (hs6.mono (((((((hle1.trans hle2).trans hle3).trans hle4).trans hle7).trans hle9).trans hle10).trans hle11)) hb6 (hs7.mono (((((((hle1.trans hle2).trans hle3).trans hle4).trans hle7).trans hle9).trans hle10).trans hle11)) hb7) _ (hs8.mono (((((hle3.trans hle4).trans hle7).trans hle9).trans hle10).trans hle11)) _ (Zs x1.r.d hb8 hb9) hk (hk.len (List.mem_of_getElem? (by assumption : x.t.rows[k1]? = some _))) (ZU (hgt9 _ (List.mem_of_getElem? (by assumption : x.t.rows[k1]? = some _)))).2.1) (fun w18 G12 r3 hpost3 hS23 hle12=>?_)
    have bd4:=hpost3.bound
    refine Zi hpost3 Yx rfl rfl ?_
    refine YD (((Yk (lM x) x.o.rows x1.v x1.r.d x3).length : Nat) : Int) 0 rfl rfl rfl (fun h7=>?_) (fun h7=>?_)
    ·obtain ⟨p5,x4,hx4,he3,ep1⟩:=Sl.at hpost3 0 (by omega)
     obtain ⟨cs3,hc6,hr11⟩:=he3
     obtain ⟨rfl,Zbk,ZbJ⟩:=ZF hr11
     refine dr [(9,false),(10,false),(11,false)] [(90, .pointer (some p5)),(92, .int .i64 x4.a),(94,v10),(95, .agg #[.int .i64 x3, .int .i64 x4.a,v10])] hS23 ⟨fun _=>Zn 0 ep1 Yx Zt rfl rfl rfl rfl <| nu rfl rfl,fun _ hSw=>Zb hSw (Xl.drop 0 hc6) Z7 rfl rfl rfl <| nu rfl rfl,fun _ hSw=>Zb hSw (Xl.drop 0 (hc3.mono (((((hle4.trans hle7).trans hle9).trans hle10).trans hle11).trans hle12))) ZG rfl rfl rfl <| nu rfl rfl,fun _=>WL.build _ [(0,[.int .i64 x3]),(1,[.int .i64 x4.a]),(2,[v10])] [.int .i64 x3, .int .i64 x4.a,v10] ZP rfl Zim rfl rfl (by show [(0,(.int .i64 x3 : Value).cells.toList),(1,(.int .i64 x4.a : Value).cells.toList),(2,(v10 : Value).cells.toList)] = _; simp only [(hs8.mono ((((((hle3.trans hle4).trans hle7).trans hle9).trans hle10).trans hle11).trans hle12)).cells1] <;> rfl) rfl <| nu rfl rfl,trivial⟩ (fun w19 hS24=>?_)
     refine WL.buildSlice _ [(0,[.int .i64 x3, .int .i64 x4.a,v10])] [.int .i64 x3, .int .i64 x4.a,v10] hS24 Zbz rfl rfl rfl rfl (fun z hz=>by match z,hz with | [z0,z1,z2],_=>rfl) (fun b6 w20 hn6 hS25=>?_)
     refine WL.push (m:=([(Pt.mk x3 x4.a x1.v)] : List Pt)) Zbz rfl rfl rfl (hr9.mono (hle11.trans hle12)) hS25 2 rfl 0 _ _ _ _ _ rfl ⟨[.int .i64 x3, .int .i64 x4.a,v10],_,rfl,(Xo (Pt.mk x3 x4.a x1.v) ZbI Zbk (hs8.mono ((((((hle3.trans hle4).trans hle7).trans hle9).trans hle10).trans hle11).trans hle12))),rfl⟩ rfl (by have hreach : reach = 140737488355328:=rfl; simp only [List.length_append,List.length_cons,List.length_nil]; omega) (by have hreach : reach = 140737488355328:=rfl; simp only [List.length_append,List.length_cons,List.length_nil]; omega) rfl rfl rfl (fun v15 o7 w21 hr12 hS26=>?_)
     have hS27:=hS26.tail
     refine Zk k1 (by have hreach : reach = 140737488355328:=rfl; omega) rfl rfl rfl ?_
     have hS28:=hS27.tail
     exact BK.mk' _ ⟨k1 + 1,v15,o7,G12,rfl,(hle2.trans ((((((hle3.trans hle4).trans hle7).trans hle9).trans hle10).trans hle11).trans hle12)),hS28,(ZS.cast hr12 (by (exact (ZlS ‹_› (Eq.trans (by assumption : XC (lM x) x.o.rows x1 (Go.Lib.compact (X2 (Yj x1 fr :: YH (lM x) x.o.rows x1 fr))) = _) (Zpr ‹_› ‹_› ‹_›))).symm))),⟨rfl,rfl,rfl,rfl,rfl,rfl,rfl,trivial⟩,(by omega)⟩ (show x.t.rows.length - (k1 + 1) < x.t.rows.length - k1 by omega)
    refine Zk k3 (by have hreach : reach = 140737488355328:=rfl; omega) rfl rfl rfl ?_
    exact BK.mk' _ ⟨k3 + 1,v14,o6,G12,rfl,(hle10.trans (hle11.trans hle12)),hS23,(hr9.mono (hle11.trans hle12)),⟨rfl,rfl,rfl,rfl,rfl,rfl,rfl,rfl,rfl,rfl,rfl,trivial⟩,(by omega),(by exact Eq.trans (by assumption : XC (lM x) x.o.rows x1 (Go.Lib.compact (X2 (Yj x1 fr :: YH (lM x) x.o.rows x1 fr))) = _) (ZnE ‹_› ‹_› ‹_›))⟩ (show (Go.Lib.compact (X2 (Yj x1 fr :: YH (lM x) x.o.rows x1 fr))).length - (k3 + 1) < (Go.Lib.compact (X2 (Yj x1 fr :: YH (lM x) x.o.rows x1 fr))).length - k3 by omega)
   refine Zk k1 (by have hreach : reach = 140737488355328:=rfl; omega) rfl rfl rfl ?_
   have hS29:=hS22.tail
   exact BK.mk' _ ⟨k1 + 1,v14,o6,G11,rfl,(hle2.trans (((((hle3.trans hle4).trans hle7).trans hle9).trans hle10).trans hle11)),hS29,(ZS.cast (hr9.mono hle11) (by (exact (ZgN ‹_› (Eq.trans (by assumption : XC (lM x) x.o.rows x1 (Go.Lib.compact (X2 (Yj x1 fr :: YH (lM x) x.o.rows x1 fr))) = _) (Zpq ‹_› ‹_›))).symm))),⟨rfl,rfl,rfl,rfl,rfl,rfl,rfl,trivial⟩,(by omega)⟩ (show x.t.rows.length - (k1 + 1) < x.t.rows.length - k1 by omega)
  refine Zk k1 (by have hreach : reach = 140737488355328:=rfl; omega) rfl rfl rfl ?_
  have hS30:=hS21.tail
  exact BK.mk' _ ⟨k1 + 1,v14,o6,G10,rfl,(hle2.trans ((((hle3.trans hle4).trans hle7).trans hle9).trans hle10)),hS30,(ZS.cast hr9 (by (exact (ZgN ‹_› (Eq.trans (by assumption : XC (lM x) x.o.rows x1 (Go.Lib.compact (X2 (Yj x1 fr :: YH (lM x) x.o.rows x1 fr))) = _) (Zps (by omega)))).symm))),⟨rfl,rfl,rfl,rfl,rfl,rfl,rfl,trivial⟩,(by omega)⟩ (show x.t.rows.length - (k1 + 1) < x.t.rows.length - k1 by omega)
 have bd5:=hr1.bound
 refine Qc hr1 Zby rfl rfl ?_
 refine YC (((Yg (lM x) x.o.rows (x.t.rows.take k1) fr).length : Nat) : Int) 0 rfl rfl rfl (fun h8=>?_) (fun h8=>?_)
 ·refine WL.build _ [] [.int .i64 0, .int .i64 0, .slice none 0 0] ZP rfl Zim rfl rfl rfl rfl ?_
  refine WL.store hS3 1 _ _ _ 0 _ [.int .i64 0, .int .i64 0, .slice none 0 0] [.int .i64 0, .int .i64 0, .slice none 0 0] _ rfl rfl ZP rfl (Nat.le_of_ble_eq_true rfl) rfl rfl rfl rfl rfl rfl (fun w22 hS31=>?_)
  exact Xj [.agg #[.int .i64 0, .int .i64 0, .slice none 0 0], .bool false] hS31 ⟨_,_,_,rfl,rfl,hS31.loadA 1 _ _ _ 0 [.int .i64 0, .int .i64 0, .slice none 0 0] rfl rfl rfl ZP rfl,⟨_,rfl,rfl⟩⟩ ⟨_,_,rfl,(Is.cast ⟨_,rfl,(Xo (Pt.mk 0 0 []) ZN ZN (Sl.nil ValE 32 G2))⟩ (by exact (Zqf ‹_› (by omega)).1)),(congrArg Value.bool (by exact (Zqf ‹_› (by omega)).2))⟩
 obtain ⟨G13,hle13,hs10,hS32⟩:=ZS.freeze hr1 hS3 0 rfl
 refine Z3 hS32 ZsZ rfl rfl rfl (Zs6 hS32.imm (Yg (lM x) x.o.rows (x.t.rows.take k1) fr) _ hs10 (Zsy ‹_›)) (fun w23 G14 r4 hpost4 hS33 hle14=>?_)
 obtain ⟨cs4,rfl,hr13⟩:=hpost4
 obtain ⟨v16,rfl,Zfz,Zeg,hs11⟩:=XQ hr13
 refine WL.store hS33 1 _ _ _ 0 _ [.int .i64 ((YN (Yg (lM x) x.o.rows (x.t.rows.take k1) fr)).tx), .int .i64 ((YN (Yg (lM x) x.o.rows (x.t.rows.take k1) fr)).vd),v16] [.int .i64 ((YN (Yg (lM x) x.o.rows (x.t.rows.take k1) fr)).tx), .int .i64 ((YN (Yg (lM x) x.o.rows (x.t.rows.take k1) fr)).vd),v16] _ rfl rfl ZP rfl (Nat.le_of_ble_eq_true rfl) (by simp only [List.all_cons,List.all_nil,hs11.oneC,Bool.true_and] <;> rfl) rfl rfl rfl rfl rfl (fun w24 hS34=>?_)
 exact Xj [.agg #[.int .i64 ((YN (Yg (lM x) x.o.rows (x.t.rows.take k1) fr)).tx), .int .i64 ((YN (Yg (lM x) x.o.rows (x.t.rows.take k1) fr)).vd),v16], .bool true] hS34 ⟨_,_,_,rfl,rfl,hS34.loadA 1 _ _ _ 0 [.int .i64 ((YN (Yg (lM x) x.o.rows (x.t.rows.take k1) fr)).tx), .int .i64 ((YN (Yg (lM x) x.o.rows (x.t.rows.take k1) fr)).vd),v16] rfl rfl rfl ZP rfl,⟨_,rfl,rfl⟩⟩ ⟨_,_,rfl,(Is.cast ⟨_,rfl,(Xo (Pt.mk ((YN (Yg (lM x) x.o.rows (x.t.rows.take k1) fr)).tx) ((YN (Yg (lM x) x.o.rows (x.t.rows.take k1) fr)).vd) ((YN (Yg (lM x) x.o.rows (x.t.rows.take k1) fr)).v)) Zfz Zeg hs11)⟩ (by exact (Zqg ‹_› (by omega)).1)),(congrArg Value.bool (by exact (Zqg ‹_› (by omega)).2))⟩
end Go.Civ
