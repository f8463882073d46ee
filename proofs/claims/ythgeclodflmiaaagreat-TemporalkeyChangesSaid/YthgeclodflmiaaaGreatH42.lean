/- Lemmas. -/
import Derived.Test.YthgeclodflmiaaaGreatH27
import Derived.Test.YthgeclodflmiaaaGreatH34
import Derived.Test.YthgeclodflmiaaaGreatH41
import Derived.Test.YthgeclodflmiaaaGreatProg
import Derived.KernelRfl
import Derived.WalkKit
set_option linter.unusedVariables false
set_option linter.unusedSimpArgs false
set_option maxRecDepth 100000
set_option maxHeartbeats 4000000
namespace Go.Civ
open Go.Proofs
theorem Ziy {G : GH} {w : World} (hG : G.In w) (t : Table) (tx : Int) (v : List Val) (d : Span) (ct : List Value) (hct : TableE.rep G t ct) (vv : Value) (hvv : Sl ValE 32 G vv v) (cd : List Value) (hcd : SpanE.rep G d cd) (htx64 : Zw tx) : CL Tryz.prog (nat_lit 18) #[.agg ct.toArray, .int .i64 tx,vv, .agg cd.toArray] [] w G fun G' _ r=>∃ r0 r1,r = .tuple #[r0,r1] ∧ Is TableE G' r0 (YI t tx v d) ∧ r1 = .int .i64 (Zc6 t tx v d):=by
 refine YB ft [] Tryz.func18 rfl rfl ?_
 have hS:=St.start (X:=[]) hG
 obtain ⟨v1,v2,v3,rfl,hb1,hs1,hb2,hs2,hs3,hb3⟩:=Zy hct
 obtain ⟨rfl,hb4,hb5⟩:=ZE hcd
 refine Zv [Zb t.s.name,v1, .int .i64 t.s.key,v2,v3, .int .i64 t.last] _ hS rfl rfl rfl (fun p1 w1 G1 hle1 hsp1 hc1 hS1=>?_)
 refine Zv [.int .i64 d.a, .int .i64 d.b] _ hS1 rfl rfl rfl (fun p2 w2 G2 hle2 hsp2 hc2 hS2=>?_)
 refine WL.alloc hS2 Zm rfl rfl (fun b1 w3 hn1 hS3=>?_)
 refine Zc hS3 (hc1.mono hle2) [Zb t.s.name,v1, .int .i64 t.s.key,v2,v3, .int .i64 t.last] Zm rfl rfl rfl rfl rfl ?_
 refine Zn hS3 Zq0 rfl rfl rfl (Zix hS3.imm t _ (Zi t hb1 (hs1.mono (hle1.trans hle2)) hb2 (hs2.mono (hle1.trans hle2)) (hs3.mono (hle1.trans hle2)) hb3)) (fun w4 G3 hS4 hle3=>?_)
 refine WL.split (fun (h1 : (Y6 t) = true)=>?_) (fun (h1 : (Y6 t) = false)=>?_)
 ·refine Zc hS4 (hc1.mono (hle2.trans hle3)) [Zb t.s.name,v1, .int .i64 t.s.key,v2,v3, .int .i64 t.last] Zm rfl rfl rfl rfl rfl <| Zc hS4 (hc2.mono hle3) [.int .i64 d.a, .int .i64 d.b] Zu rfl rfl rfl rfl rfl <| Z6 hS4 Zag rfl rfl rfl (ZfO hS4.imm t tx v d _ (Zi t hb1 (hs1.mono ((hle1.trans hle2).trans hle3)) hb2 (hs2.mono ((hle1.trans hle2).trans hle3)) (hs3.mono ((hle1.trans hle2).trans hle3)) hb3) _ (hvv.mono ((hle1.trans hle2).trans hle3)) _ (Zs d hb4 hb5) htx64) ?_
  rintro w5 G4 _ ⟨r2,_,rfl,hs4,rfl⟩ hS5 hle4
  obtain ⟨cs1,rfl,hr1⟩:=hs4
  obtain ⟨v4,v5,v6,rfl,hb6,hs5,hb7,hs6,hs7,hb8⟩:=Zy hr1
  refine WL.alloc hS5 Zm rfl rfl (fun b2 w6 hn2 hS6=>?_)
  refine WL.store hS6 0 _ _ _ 0 _ [Zb ((ZF t tx v d).s.name),v4, .int .i64 ((ZF t tx v d).s.key),v5,v6, .int .i64 ((ZF t tx v d).last)] [Zb ((ZF t tx v d).s.name),v4, .int .i64 ((ZF t tx v d).s.key),v5,v6, .int .i64 ((ZF t tx v d).last)] _ rfl rfl Zm rfl (Nat.le_of_ble_eq_true rfl) (by simp only [List.all_cons,List.all_nil,hs5.oneC,hs6.oneC,hs7.oneC,Bool.true_and] <;> rfl) rfl rfl rfl rfl rfl (fun w7 hS7=>?_)
  refine Yf (Y2 t tx v d) 0 rfl rfl rfl (fun h2=>?_) (fun h2=>?_)
  ·refine WL.build _ [] [Zb [], .slice none 0 0, .int .i64 0, .slice none 0 0, .slice none 0 0, .int .i64 0] Zm rfl XU rfl rfl rfl rfl ?_
   refine WL.store hS7 1 _ _ _ 0 _ [Zb [], .slice none 0 0, .int .i64 0, .slice none 0 0, .slice none 0 0, .int .i64 0] [Zb [], .slice none 0 0, .int .i64 0, .slice none 0 0, .slice none 0 0, .int .i64 0] _ rfl rfl Zm rfl (Nat.le_of_ble_eq_true rfl) rfl rfl rfl rfl rfl rfl (fun w9 hS8=>?_)
   exact Xe [.agg #[Zb [], .slice none 0 0, .int .i64 0, .slice none 0 0, .slice none 0 0, .int .i64 0], .int .i64 (Y2 t tx v d)] hS8 ⟨_,_,_,rfl,rfl,hS8.loadA 1 _ _ _ 0 [Zb [], .slice none 0 0, .int .i64 0, .slice none 0 0, .slice none 0 0, .int .i64 0] rfl rfl rfl Zm rfl,⟨_,rfl,rfl⟩⟩ ⟨_,_,rfl,(Is.cast ⟨_,rfl,(Zi (Table.mk (Schema.mk [] [] 0 []) [] 0) (by simp [reach]) (Sl.nil ColE 24 G4) ZM (Sl.nil ForeignE 40 G4) (Sl.nil HRowE 56 G4) ZM)⟩ (by exact (Zs1 ‹_› ‹_›).1)),(congrArg (Value.int .i64) (by exact (Zs1 ‹_› ‹_›).2))⟩
  have hIns:=ZfD (by assumption : Y2 t tx v d = 0)
  obtain ⟨hgd,hnd,h8d,hed⟩:=Y5 hIns.valid
  have hkv:=ZrG hIns
  have hkp:=Zit hIns.valid
  have hkl:=Zgl hIns.valid
  refine WL.build _ [(0,[.int .i64 tx]),(1,[.int .i64 253402300800])] [.int .i64 tx, .int .i64 253402300800] Zu rfl X6 rfl rfl rfl rfl ?_
  refine WL.alloc hS7 Zu rfl rfl (fun b3 w10 hn3 hS9=>?_)
  refine WL.store hS9 0 _ _ _ 0 _ [.int .i64 tx, .int .i64 253402300800] [.int .i64 tx, .int .i64 253402300800] _ rfl rfl Zu rfl (Nat.le_of_ble_eq_true rfl) rfl rfl rfl rfl rfl rfl (fun w11 hS10=>?_)
  obtain ⟨G5,hle5,hc3,hS11⟩:=hS10.shutB hn3
  refine dr [(1,true),(5,false),(6,false),(7,false)] [(43, .agg #[.int .i64 d.a, .int .i64 d.b]),(44, .agg #[.int .i64 tx, .int .i64 253402300800]),(45, .agg #[.int .i64 d.a, .int .i64 d.b, .int .i64 tx, .int .i64 253402300800])] hS11 ⟨fun _ hSw=>Zc hSw (hc2.mono ((hle3.trans hle4).trans hle5)) [.int .i64 d.a, .int .i64 d.b] Zu rfl rfl rfl rfl rfl <| nu rfl rfl,fun _ hSw=>Zc hSw hc3 [.int .i64 tx, .int .i64 253402300800] Zu rfl rfl rfl rfl rfl <| nu rfl rfl,fun _=>WL.build _ [(0,[.int .i64 d.a, .int .i64 d.b]),(1,[.int .i64 tx, .int .i64 253402300800])] [.int .i64 d.a, .int .i64 d.b, .int .i64 tx, .int .i64 253402300800] Zb8 rfl Zdc rfl rfl rfl rfl <| nu rfl rfl,trivial⟩ (fun w12 hS12=>?_)
  refine Z6 hS12 Ze5 rfl rfl rfl (Zab hS12.imm v _ (hvv.mono ((((hle1.trans hle2).trans hle3).trans hle4).trans hle5))) (fun w13 G6 r4 hpost2 hS13 hle6=>?_)
  refine ⟨hS13.down hS12.le hle6,?_⟩
  refine WL.build _ [(0,[r4]),(1,[.int .i64 d.a, .int .i64 d.b, .int .i64 tx, .int .i64 253402300800])] [r4, .int .i64 d.a, .int .i64 d.b, .int .i64 tx, .int .i64 253402300800] Zt rfl Zbr rfl rfl (by show [(0,(r4 : Value).cells.toList),(1,(.agg #[.int .i64 d.a, .int .i64 d.b, .int .i64 tx, .int .i64 253402300800] : Value).cells.toList)] = _; simp only [hpost2.cells1] <;> rfl) rfl ?_
  refine WL.buildSlice _ [(0,[r4, .int .i64 d.a, .int .i64 d.b, .int .i64 tx, .int .i64 253402300800])] [r4, .int .i64 d.a, .int .i64 d.b, .int .i64 tx, .int .i64 253402300800] hS13 Y4 rfl rfl rfl rfl (fun z hz=>by match z,hz with | [z0,z1,z2,z3,z4],_=>rfl) (fun b4 w14 hn4 hS14=>?_)
  refine Za hS14 (Xw.drop 4 (hc1.mono ((((hle2.trans hle3).trans hle4).trans hle5).trans hle6))) Xg rfl rfl rfl ?_
  have bd1:=hs3.bound
  refine Zj (hs3.mono (((((hle1.trans hle2).trans hle3).trans hle4).trans hle5).trans hle6)) Yq rfl rfl ?_
  have hr2 : Ye HRowE 56 37 G6 (.slice (some ⟨b4,0,none⟩) 1 1) [(HRow.mk v (Rect.mk d (Span.mk tx 253402300800)))] (some (b4,37,[r4, .int .i64 d.a, .int .i64 d.b, .int .i64 tx, .int .i64 253402300800])):=Ye.ofNew ⟨[r4, .int .i64 d.a, .int .i64 d.b, .int .i64 tx, .int .i64 253402300800],_,rfl,(ZQ (HRow.mk v (Rect.mk d (Span.mk tx 253402300800))) hpost2 hb4 hb5 htx64 (show Zw 253402300800 from by constructor <;> decide)),rfl⟩ rfl (by simp [reach]) (by simp [reach])
  refine LP.go ft [] (fun m ρ1 w1=>∃ (k1 : Nat),∃ (v7 : Value) (o1 : OB),∃ (G7 : GH),m = t.rows.length - k1 ∧ G6.le G7 ∧ St w [] G G7 [o1,some (b2,28,[Zb ((ZF t tx v d).s.name),v4, .int .i64 ((ZF t tx v d).s.key),v5,v6, .int .i64 ((ZF t tx v d).last)]),some (b1,28,[Zb [], .slice none 0 0, .int .i64 0, .slice none 0 0, .slice none 0 0, .int .i64 0])] w1 ∧ Ye HRowE 56 37 G7 v7 (Za0 t.s.key.toNat t.rows tx v d k1) o1 ∧ FR ρ1 [(1, .int .i64 tx),(2,vv),(4, .pointer (some p1)),(7, .pointer (some p2)),(8, .pointer (some ⟨b1,0,none⟩)),(10, .pointer (some ⟨b2,0,none⟩)),(12, .pointer (some (⟨b3,0,none⟩ : Addr))),(13,v7),(49,v3),(50, .int .i64 (t.rows.length : Int)),(51, .int .i64 (k1 : Int))] ∧ k1 ≤ t.rows.length) _ ⟨0,(.slice (some ⟨b4,0,none⟩) 1 1),(some (b4,37,[r4, .int .i64 d.a, .int .i64 d.b, .int .i64 tx, .int .i64 253402300800])),G6,rfl,(G6.le_refl),hS14,(Ye.cast hr2 (by rfl)),⟨rfl,rfl,rfl,rfl,rfl,rfl,rfl,rfl,rfl,rfl,rfl,trivial⟩,(by omega)⟩ ?_
  rintro m ρ1 w15 ⟨k1,v7,o1,G7,rfl,hle7,hS15,hr3,hF9,f1⟩
  refine hF9.set ?_
  clear hF9
  have hml:=ZpK (K:=t.s.key.toNat) (v:=v) (tx:=tx) (k:=k1) hgd hIns.span
  refine Zq (k1 : Int) (t.rows.length : Int) rfl rfl rfl (fun h3=>?_) (fun h3=>?_)
  ·refine WL.indexAddr (hs3.mono ((((((hle1.trans hle2).trans hle3).trans hle4).trans hle5).trans hle6).trans hle7)) k1 (by omega) Yq Zt rfl rfl rfl rfl (fun p3 x1 hx1 he1=>?_)
   obtain ⟨cs2,hc4,hr4⟩:=he1
   obtain ⟨v9,rfl,hs8,hb9,hb10,YD,YW⟩:=ZA hr4
   refine Zc hS15 hc4 [v9, .int .i64 x1.r.d.a, .int .i64 x1.r.d.b, .int .i64 x1.r.x.a, .int .i64 x1.r.x.b] Zt rfl rfl rfl rfl rfl ?_
   refine WL.alloc hS15 Zt rfl rfl (fun b5 w16 hn5 hS16=>?_)
   refine WL.store hS16 0 _ _ _ 0 _ [v9, .int .i64 x1.r.d.a, .int .i64 x1.r.d.b, .int .i64 x1.r.x.a, .int .i64 x1.r.x.b] [v9, .int .i64 x1.r.d.a, .int .i64 x1.r.d.b, .int .i64 x1.r.x.a, .int .i64 x1.r.x.b] _ rfl rfl Zt rfl (Nat.le_of_ble_eq_true rfl) (by simp only [List.all_cons,List.all_nil,hs8.oneC,Bool.true_and] <;> rfl) rfl rfl rfl rfl rfl (fun w17 hS17=>?_)
   have hgx:=hgd x1 (List.mem_of_getElem? hx1)
   have hrd:=(Yx hgx).2.1
   have hsp:=hIns.span
   have hkx:=hkl x1 (List.mem_of_getElem? hx1)
   have hdl:=ZrE hgx hsp
   refine ZD hS17 0 _ _ _ 1 [.int .i64 x1.r.d.a, .int .i64 x1.r.d.b] rfl rfl rfl Zu rfl rfl rfl ?_
   refine WL.buildSlice _ [(0,[.int .i64 x1.r.d.a, .int .i64 x1.r.d.b])] [.int .i64 x1.r.d.a, .int .i64 x1.r.d.b] hS17 YO rfl rfl rfl rfl (fun z hz=>by match z,hz with | [z0,z1],_=>rfl) (fun b6 w18 hn6 hS18=>?_)
   refine Zc hS18 (hc2.mono ((((hle3.trans hle4).trans hle5).trans hle6).trans hle7)) [.int .i64 d.a, .int .i64 d.b] Zu rfl rfl rfl rfl rfl ?_
   refine WL.buildSlice _ [(0,[.int .i64 d.a, .int .i64 d.b])] [.int .i64 d.a, .int .i64 d.b] hS18 YO rfl rfl rfl rfl (fun z hz=>by match z,hz with | [z0,z1],_=>rfl) (fun b7 w19 hn7 hS19=>?_)
   obtain ⟨G9,hle9,hs9,hS20⟩:=St.sealSlAt (E:=SpanE) (by_:=16) (l:=([x1.r.d] : List Span)) hS19 1 rfl hn6 ⟨[.int .i64 x1.r.d.a, .int .i64 x1.r.d.b],_,rfl,(Zs x1.r.d hb9 hb10),rfl⟩ rfl (by simp [reach]) (by simp [reach])
   obtain ⟨G10,hle10,hs10,hS21⟩:=St.sealSl (E:=SpanE) (by_:=16) (l:=([d] : List Span)) hS20 hn7 ⟨[.int .i64 d.a, .int .i64 d.b],_,rfl,(Zs d hb4 hb5),rfl⟩ rfl (by simp [reach]) (by simp [reach])
   refine Z6 hS21 Zuw rfl rfl rfl (Zmh hS21.imm [x1.r.d] [d] _ (hs9.mono hle10) _ hs10 (ZcR (Xb hrd)) (ZcR (Xb hsp)) (by intro s hs; rw [List.mem_singleton.1 hs]; exact ZcN hrd) (by intro s hs; rw [List.mem_singleton.1 hs]; exact ZcN hsp) (by simp) (by simp)) ?_
   rintro w20 G11 _ ⟨r6,_,rfl,hs11,rfl⟩ hS22 hle11
   rcases Cmp.dec .eql x1.r.x.b 253402300800 with ⟨Xj,q1⟩ | ⟨Xj,q1⟩
   ·have h4 : x1.r.x.b = 253402300800:=q1
    clear q1
    refine drT [11,16,17,18,19] [(68, .int .i64 x1.r.x.b),(69, .bool true),(72,v9),(75, .int .i64 t.s.key),(80, .int .i64 t.s.key)] hS22 ⟨fun _ hSw=>ZU hSw 1 _ _ _ 4 _ rfl rfl Zp rfl rfl rfl <| nu rfl rfl,fun _=>WL.cmpV .eql rfl .i64 x1.r.x.b 253402300800 _ Xj rfl rfl rfl <| nu rfl rfl,fun _ hSw=>ZU hSw 1 _ _ _ 0 _ rfl rfl ZH rfl rfl rfl <| nu rfl rfl,fun _ hSw=>Za hSw (Xw.drop 2 (Xw.drop 0 (hc1.mono ((((((((hle2.trans hle3).trans hle4).trans hle5).trans hle6).trans hle7).trans hle9).trans hle10).trans hle11)))) Zp rfl rfl rfl <| nu rfl rfl,fun _ hSw=>Za hSw (Xw.drop 2 (Xw.drop 0 (hc1.mono ((((((((hle2.trans hle3).trans hle4).trans hle5).trans hle6).trans hle7).trans hle9).trans hle10).trans hle11)))) Zp rfl rfl rfl <| nu rfl rfl,trivial⟩ (fun w21 hS23=>?_)
    refine TG.fork 4 [11,16,17,18,19] [11,16] rfl rfl (by decide) (by decide) (TA.cons rfl ?_ (TA.cons rfl ?_ TA.nil))
    ·refine Yr (hs8.mono ((hle9.trans hle10).trans hle11)) ((t.s.key).toNat) (by omega) Yd Z3 rfl rfl rfl (congrArg (Value.int .i64) (Int.toNat_of_nonneg (by omega)).symm) (fun v10 hs12=>?_)
     refine ⟨fun _=>hS23.down hS23.le (G11.le_refl),?_⟩
     refine TG.fork 3 [16,17,18,19] [16] rfl rfl (by decide) (by decide) (TA.cons rfl ?_ TA.nil)
     refine Yr (hvv.mono (((((((((hle1.trans hle2).trans hle3).trans hle4).trans hle5).trans hle6).trans hle7).trans hle9).trans hle10).trans hle11)) ((t.s.key).toNat) (by omega) Yd Z3 rfl rfl rfl (congrArg (Value.int .i64) (Int.toNat_of_nonneg (by omega)).symm) (fun v11 hs13=>?_)
     refine ⟨fun _=>hS23.down hS23.le (G11.le_refl),?_⟩
     refine TG.fork 2 [17,18,19] [17] rfl rfl (by decide) (by decide) (TA.cons rfl ?_ TA.nil)
     refine Zn hS23 Zbs rfl rfl rfl (ZbY hS23.imm (x1.v.take ((t.s.key).toNat)) (v.take ((t.s.key).toNat)) _ hs12 _ hs13) (fun w22 G12 hS24 hle12=>?_)
     refine WL.split (fun (h5 : (decide ((x1.v.take ((t.s.key).toNat)) = (v.take ((t.s.key).toNat)))) = true)=>?_) (fun (h5 : (decide ((x1.v.take ((t.s.key).toNat)) = (v.take ((t.s.key).toNat)))) = false)=>?_)
     ·refine ⟨fun h=>absurd h (by decide),?_⟩
      refine TG.quiet 1 [18,19] 18 rfl rfl rfl rfl rfl (by decide) (fun w9 K9 k9=>Za2 rfl rfl k9) ?_
      refine TG.quiet 0 [19] 19 rfl rfl rfl rfl rfl (by decide) (fun w9 K9 k9=>WL.assign rfl k9) ?_
      refine TG.fin rfl ?_
      refine ZD hS24 1 _ _ _ 1 [.int .i64 x1.r.d.a, .int .i64 x1.r.d.b] rfl rfl rfl Zu rfl rfl rfl ?_
      refine WL.buildSlice _ [(0,[.int .i64 x1.r.d.a, .int .i64 x1.r.d.b])] [.int .i64 x1.r.d.a, .int .i64 x1.r.d.b] hS24 YO rfl rfl rfl rfl (fun z hz=>by match z,hz with | [z0,z1],_=>rfl) (fun b8 w23 hn8 hS25=>?_)
      obtain ⟨G13,hle13,hs14,hS26⟩:=St.sealSl (E:=SpanE) (by_:=16) (l:=([x1.r.d] : List Span)) hS25 hn8 ⟨[.int .i64 x1.r.d.a, .int .i64 x1.r.d.b],_,rfl,(Zs x1.r.d hb9 hb10),rfl⟩ rfl (by simp [reach]) (by simp [reach])
      refine Zn hS26 Zq1 rfl rfl rfl (ZeL hS26.imm (ZX 3 [x1.r.d] [d]) [x1.r.d] _ (hs11.mono (hle12.trans hle13)) _ hs14) (fun w24 G14 hS27 hle14=>?_)
      refine WL.split (fun (h6 : (decide ((ZX 3 [x1.r.d] [d]) = [x1.r.d])) = true)=>?_) (fun (h6 : (decide ((ZX 3 [x1.r.d] [d]) = [x1.r.d])) = false)=>?_)
      ·refine ZD hS27 1 _ _ _ 0 [v9, .int .i64 x1.r.d.a, .int .i64 x1.r.d.b, .int .i64 x1.r.x.a, .int .i64 x1.r.x.b] rfl rfl rfl Zt rfl rfl rfl ?_
       refine WL.buildSlice _ [(0,[v9, .int .i64 x1.r.d.a, .int .i64 x1.r.d.b, .int .i64 x1.r.x.a, .int .i64 x1.r.x.b])] [v9, .int .i64 x1.r.d.a, .int .i64 x1.r.d.b, .int .i64 x1.r.x.a, .int .i64 x1.r.x.b] hS27 Y4 rfl rfl rfl rfl (fun z hz=>by match z,hz with | [z0,z1,z2,z3,z4],_=>rfl) (fun b9 w25 hn9 hS28=>?_)
       refine WL.push (m:=([x1] : List HRow)) Y4 rfl rfl rfl (hr3.mono (((((hle9.trans hle10).trans hle11).trans hle12).trans hle13).trans hle14)) hS28 3 rfl 0 _ _ _ _ _ rfl ⟨[v9, .int .i64 x1.r.d.a, .int .i64 x1.r.d.b, .int .i64 x1.r.x.a, .int .i64 x1.r.x.b],_,rfl,(ZQ x1 (hs8.mono (((((hle9.trans hle10).trans hle11).trans hle12).trans hle13).trans hle14)) hb9 hb10 YD YW),rfl⟩ rfl (by have hreach : reach = 140737488355328:=rfl; simp only [List.length_append,List.length_cons,List.length_nil]; omega) (by have hreach : reach = 140737488355328:=rfl; simp only [List.length_append,List.length_cons,List.length_nil]; omega) rfl rfl rfl (fun v12 o2 w26 hr5 hS29=>?_)
       have hS30:=hS29.tail
       refine Zl k1 (by have hreach : reach = 140737488355328:=rfl; omega) rfl rfl rfl ?_
       have hS31:=hS30.tail
       have hS32:=hS31.tail
       exact BK.mk' _ ⟨k1 + 1,v12,o2,G14,rfl,(hle7.trans (((((hle9.trans hle10).trans hle11).trans hle12).trans hle13).trans hle14)),hS32,(Ye.cast hr5 (by (with_reducible exact (Zch ‹_› (by first | exact .inl ‹_› | exact .inr (.inl ‹_›) | exact .inr (.inr ‹_›))).symm))),⟨rfl,rfl,rfl,rfl,rfl,rfl,rfl,rfl,rfl,rfl,rfl,trivial⟩,(by omega)⟩ (show t.rows.length - (k1 + 1) < t.rows.length - k1 by omega)
      have bd2:=hs11.bound
      refine Zj (hs11.mono ((hle12.trans hle13).trans hle14)) YT rfl rfl ?_
      refine LP.go ft [] (fun m ρ1 w1=>∃ (k2 : Nat),∃ (v13 : Value) (o3 : OB),∃ (G15 : GH),m = (ZX 3 [x1.r.d] [d]).length - k2 ∧ G14.le G15 ∧ St w [] G G15 [none,some (b5,37,[v9, .int .i64 x1.r.d.a, .int .i64 x1.r.d.b, .int .i64 x1.r.x.a, .int .i64 x1.r.x.b]),o3,some (b2,28,[Zb ((ZF t tx v d).s.name),v4, .int .i64 ((ZF t tx v d).s.key),v5,v6, .int .i64 ((ZF t tx v d).last)]),some (b1,28,[Zb [], .slice none 0 0, .int .i64 0, .slice none 0 0, .slice none 0 0, .int .i64 0])] w1 ∧ Ye HRowE 56 37 G15 v13 ((Za0 t.s.key.toNat t.rows tx v d k1) ++ Xl x1.v ((ZX 3 [x1.r.d] [d]).take k2) tx 253402300800) o3 ∧ FR ρ1 [(1, .int .i64 tx),(2,vv),(4, .pointer (some p1)),(7, .pointer (some p2)),(8, .pointer (some ⟨b1,0,none⟩)),(10, .pointer (some ⟨b2,0,none⟩)),(12, .pointer (some (⟨b3,0,none⟩ : Addr))),(13,v13),(15, .pointer (some ⟨b5,0,none⟩)),(49,v3),(50, .int .i64 (t.rows.length : Int)),(51, .int .i64 (k1 : Int)),(98,r6),(99, .int .i64 (((ZX 3 [x1.r.d] [d]).length : Nat) : Int)),(100, .int .i64 (k2 : Int))] ∧ k2 ≤ (ZX 3 [x1.r.d] [d]).length) _ ⟨0,v7,o1,G14,rfl,(G14.le_refl),hS27,(Ye.cast (hr3.mono (((((hle9.trans hle10).trans hle11).trans hle12).trans hle13).trans hle14)) (by simp [Xl])),⟨rfl,rfl,rfl,rfl,rfl,rfl,rfl,rfl,rfl,rfl,rfl,rfl,rfl,rfl,rfl,trivial⟩,(by omega)⟩ ?_
      rintro m ρ1 w27 ⟨k2,v13,o3,G15,rfl,hle15,hS33,hr6,hF9,f2⟩
      refine hF9.set ?_
      clear hF9
      have hol:=Zcc x1.v ((ZX 3 [x1.r.d] [d]).take k2) tx 253402300800
      have hot:=List.length_take_le' k2 (ZX 3 [x1.r.d] [d])
      refine Zq (k2 : Int) (((ZX 3 [x1.r.d] [d]).length : Nat) : Int) rfl rfl rfl (fun h7=>?_) (fun h7=>?_)
      ·refine WL.indexAddr (hs11.mono (((hle12.trans hle13).trans hle14).trans hle15)) k2 (by omega) YT Zu rfl rfl rfl rfl (fun p4 x2 hx2 he2=>?_)
       obtain ⟨cs3,hc5,hr7⟩:=he2
       obtain ⟨rfl,XD,X7⟩:=ZE hr7
       refine Zc hS33 hc5 [.int .i64 x2.a, .int .i64 x2.b] Zu rfl rfl rfl rfl rfl ?_
       refine WL.alloc hS33 Zu rfl rfl (fun b10 w28 hn10 hS34=>?_)
       refine WL.store hS34 0 _ _ _ 0 _ [.int .i64 x2.a, .int .i64 x2.b] [.int .i64 x2.a, .int .i64 x2.b] _ rfl rfl Zu rfl (Nat.le_of_ble_eq_true rfl) rfl rfl rfl rfl rfl rfl (fun w29 hS35=>?_)
       obtain ⟨G16,hle16,hc6,hS36⟩:=hS35.shutB hn10
       refine ZU hS36 1 _ _ _ 0 _ rfl rfl ZH rfl rfl rfl <| Zc hS36 hc6 [.int .i64 x2.a, .int .i64 x2.b] Zu rfl rfl rfl rfl rfl <| Zc hS36 (hc3.mono (((((((((hle6.trans hle7).trans hle9).trans hle10).trans hle11).trans hle12).trans hle13).trans hle14).trans hle15).trans hle16)) [.int .i64 tx, .int .i64 253402300800] Zu rfl rfl rfl rfl rfl <| WL.build _ [(0,[.int .i64 x2.a, .int .i64 x2.b]),(1,[.int .i64 tx, .int .i64 253402300800])] [.int .i64 x2.a, .int .i64 x2.b, .int .i64 tx, .int .i64 253402300800] Zb8 rfl Zdc rfl rfl rfl rfl ?_
       refine WL.build _ [(0,[v9]),(1,[.int .i64 x2.a, .int .i64 x2.b, .int .i64 tx, .int .i64 253402300800])] [v9, .int .i64 x2.a, .int .i64 x2.b, .int .i64 tx, .int .i64 253402300800] Zt rfl Zbr rfl rfl (by show [(0,(v9 : Value).cells.toList),(1,(.agg #[.int .i64 x2.a, .int .i64 x2.b, .int .i64 tx, .int .i64 253402300800] : Value).cells.toList)] = _; simp only [(hs8.mono (((((((hle9.trans hle10).trans hle11).trans hle12).trans hle13).trans hle14).trans hle15).trans hle16)).cells1] <;> rfl) rfl ?_
       refine WL.buildSlice _ [(0,[v9, .int .i64 x2.a, .int .i64 x2.b, .int .i64 tx, .int .i64 253402300800])] [v9, .int .i64 x2.a, .int .i64 x2.b, .int .i64 tx, .int .i64 253402300800] hS36 Y4 rfl rfl rfl rfl (fun z hz=>by match z,hz with | [z0,z1,z2,z3,z4],_=>rfl) (fun b11 w30 hn11 hS37=>?_)
       refine WL.push (m:=([(HRow.mk x1.v (Rect.mk x2 (Span.mk tx 253402300800)))] : List HRow)) Y4 rfl rfl rfl (hr6.mono hle16) hS37 3 rfl 0 _ _ _ _ _ rfl ⟨[v9, .int .i64 x2.a, .int .i64 x2.b, .int .i64 tx, .int .i64 253402300800],_,rfl,(ZQ (HRow.mk x1.v (Rect.mk x2 (Span.mk tx 253402300800))) (hs8.mono (((((((hle9.trans hle10).trans hle11).trans hle12).trans hle13).trans hle14).trans hle15).trans hle16)) XD X7 htx64 (show Zw 253402300800 from by constructor <;> decide)),rfl⟩ rfl (by have hreach : reach = 140737488355328:=rfl; simp only [List.length_append,List.length_cons,List.length_nil]; omega) (by have hreach : reach = 140737488355328:=rfl; simp only [List.length_append,List.length_cons,List.length_nil]; omega) rfl rfl rfl (fun v14 o4 w31 hr8 hS38=>?_)
       have hS39:=hS38.tail
       refine Zl k2 (by have hreach : reach = 140737488355328:=rfl; omega) rfl rfl rfl ?_
       exact BK.mk' _ ⟨k2 + 1,v14,o4,G16,rfl,(hle15.trans hle16),hS39,(Ye.cast hr8 (by (rw [ZdB ‹_›,List.append_assoc]))),⟨rfl,rfl,rfl,rfl,rfl,rfl,rfl,rfl,rfl,rfl,rfl,rfl,rfl,rfl,rfl,trivial⟩,(by omega)⟩ (show (ZX 3 [x1.r.d] [d]).length - (k2 + 1) < (ZX 3 [x1.r.d] [d]).length - k2 by omega)
      refine WL.store hS33 1 _ _ _ 4 _ [.int .i64 tx] [v9, .int .i64 x1.r.d.a, .int .i64 x1.r.d.b, .int .i64 x1.r.x.a, .int .i64 tx] _ rfl rfl Zp rfl (Nat.le_of_ble_eq_true rfl) rfl rfl rfl rfl rfl rfl (fun w32 hS40=>?_)
      refine ZD hS40 1 _ _ _ 0 [v9, .int .i64 x1.r.d.a, .int .i64 x1.r.d.b, .int .i64 x1.r.x.a, .int .i64 tx] rfl rfl rfl Zt rfl rfl rfl ?_
      refine WL.buildSlice _ [(0,[v9, .int .i64 x1.r.d.a, .int .i64 x1.r.d.b, .int .i64 x1.r.x.a, .int .i64 tx])] [v9, .int .i64 x1.r.d.a, .int .i64 x1.r.d.b, .int .i64 x1.r.x.a, .int .i64 tx] hS40 Y4 rfl rfl rfl rfl (fun z hz=>by match z,hz with | [z0,z1,z2,z3,z4],_=>rfl) (fun b12 w33 hn12 hS41=>?_)
      refine WL.push (m:=([(HRow.mk x1.v (Rect.mk x1.r.d (Span.mk x1.r.x.a tx)))] : List HRow)) Y4 rfl rfl rfl hr6 hS41 3 rfl 0 _ _ _ _ _ rfl ⟨[v9, .int .i64 x1.r.d.a, .int .i64 x1.r.d.b, .int .i64 x1.r.x.a, .int .i64 tx],_,rfl,(ZQ (HRow.mk x1.v (Rect.mk x1.r.d (Span.mk x1.r.x.a tx))) (hs8.mono ((((((hle9.trans hle10).trans hle11).trans hle12).trans hle13).trans hle14).trans hle15)) hb9 hb10 YD htx64),rfl⟩ rfl (by have hreach : reach = 140737488355328:=rfl; simp only [List.length_append,List.length_cons,List.length_nil]; omega) (by have hreach : reach = 140737488355328:=rfl; simp only [List.length_append,List.length_cons,List.length_nil]; omega) rfl rfl rfl (fun v15 o5 w34 hr9 hS42=>?_)
      have hS43:=hS42.tail
      refine Zl k1 (by have hreach : reach = 140737488355328:=rfl; omega) rfl rfl rfl ?_
      have hS44:=hS43.tail
      have hS45:=hS44.tail
      exact BK.mk' _ ⟨k1 + 1,v15,o5,G15,rfl,(hle7.trans ((((((hle9.trans hle10).trans hle11).trans hle12).trans hle13).trans hle14).trans hle15)),hS45,(Ye.cast hr9 (by ((rw [ZgD (by omega)]; with_reducible exact (Zju ‹_› ‹_› ‹_› ‹_›).symm)))),⟨rfl,rfl,rfl,rfl,rfl,rfl,rfl,rfl,rfl,rfl,rfl,trivial⟩,(by omega)⟩ (show t.rows.length - (k1 + 1) < t.rows.length - k1 by omega)
     refine ⟨fun h=>absurd h (by decide),?_⟩
     refine TG.quiet 1 [18,19] 18 rfl rfl rfl rfl rfl (by decide) (fun w9 K9 k9=>Za2 rfl rfl k9) ?_
     refine TG.quiet 0 [19] 19 rfl rfl rfl rfl rfl (by decide) (fun w9 K9 k9=>WL.assign rfl k9) ?_
     refine TG.fin rfl ?_
     refine ZD hS24 1 _ _ _ 0 [v9, .int .i64 x1.r.d.a, .int .i64 x1.r.d.b, .int .i64 x1.r.x.a, .int .i64 x1.r.x.b] rfl rfl rfl Zt rfl rfl rfl ?_
     refine WL.buildSlice _ [(0,[v9, .int .i64 x1.r.d.a, .int .i64 x1.r.d.b, .int .i64 x1.r.x.a, .int .i64 x1.r.x.b])] [v9, .int .i64 x1.r.d.a, .int .i64 x1.r.d.b, .int .i64 x1.r.x.a, .int .i64 x1.r.x.b] hS24 Y4 rfl rfl rfl rfl (fun z hz=>by match z,hz with | [z0,z1,z2,z3,z4],_=>rfl) (fun b13 w35 hn13 hS46=>?_)
     refine WL.push (m:=([x1] : List HRow)) Y4 rfl rfl rfl (hr3.mono (((hle9.trans hle10).trans hle11).trans hle12)) hS46 3 rfl 0 _ _ _ _ _ rfl ⟨[v9, .int .i64 x1.r.d.a, .int .i64 x1.r.d.b, .int .i64 x1.r.x.a, .int .i64 x1.r.x.b],_,rfl,(ZQ x1 (hs8.mono (((hle9.trans hle10).trans hle11).trans hle12)) hb9 hb10 YD YW),rfl⟩ rfl (by have hreach : reach = 140737488355328:=rfl; simp only [List.length_append,List.length_cons,List.length_nil]; omega) (by have hreach : reach = 140737488355328:=rfl; simp only [List.length_append,List.length_cons,List.length_nil]; omega) rfl rfl rfl (fun v16 o6 w36 hr10 hS47=>?_)
     have hS48:=hS47.tail
     refine Zl k1 (by have hreach : reach = 140737488355328:=rfl; omega) rfl rfl rfl ?_
     have hS49:=hS48.tail
     have hS50:=hS49.tail
     exact BK.mk' _ ⟨k1 + 1,v16,o6,G12,rfl,(hle7.trans (((hle9.trans hle10).trans hle11).trans hle12)),hS50,(Ye.cast hr10 (by (with_reducible exact (Zch ‹_› (by first | exact .inl ‹_› | exact .inr (.inl ‹_›) | exact .inr (.inr ‹_›))).symm))),⟨rfl,rfl,rfl,rfl,rfl,rfl,rfl,rfl,rfl,rfl,rfl,trivial⟩,(by omega)⟩ (show t.rows.length - (k1 + 1) < t.rows.length - k1 by omega)
    refine Yr (hvv.mono (((((((((hle1.trans hle2).trans hle3).trans hle4).trans hle5).trans hle6).trans hle7).trans hle9).trans hle10).trans hle11)) ((t.s.key).toNat) (by omega) Yd Z3 rfl rfl rfl (congrArg (Value.int .i64) (Int.toNat_of_nonneg (by omega)).symm) (fun v17 hs15=>?_)
    refine ⟨fun _=>hS23.down hS23.le (G11.le_refl),?_⟩
    refine TG.fork 3 [11,17,18,19] [11] rfl rfl (by decide) (by decide) (TA.cons rfl ?_ TA.nil)
    refine Yr (hs8.mono ((hle9.trans hle10).trans hle11)) ((t.s.key).toNat) (by omega) Yd Z3 rfl rfl rfl (congrArg (Value.int .i64) (Int.toNat_of_nonneg (by omega)).symm) (fun v18 hs16=>?_)
    refine ⟨fun _=>hS23.down hS23.le (G11.le_refl),?_⟩
    refine TG.fork 2 [17,18,19] [17] rfl rfl (by decide) (by decide) (TA.cons rfl ?_ TA.nil)
    refine Zn hS23 Zbs rfl rfl rfl (ZbY hS23.imm (x1.v.take ((t.s.key).toNat)) (v.take ((t.s.key).toNat)) _ hs16 _ hs15) (fun w37 G17 hS51 hle17=>?_)
    refine WL.split (fun (h8 : (decide ((x1.v.take ((t.s.key).toNat)) = (v.take ((t.s.key).toNat)))) = true)=>?_) (fun (h8 : (decide ((x1.v.take ((t.s.key).toNat)) = (v.take ((t.s.key).toNat)))) = false)=>?_)
    ·refine ⟨fun h=>absurd h (by decide),?_⟩
     refine TG.quiet 1 [18,19] 18 rfl rfl rfl rfl rfl (by decide) (fun w9 K9 k9=>Za2 rfl rfl k9) ?_
     refine TG.quiet 0 [19] 19 rfl rfl rfl rfl rfl (by decide) (fun w9 K9 k9=>WL.assign rfl k9) ?_
     refine TG.fin rfl ?_
     refine ZD hS51 1 _ _ _ 1 [.int .i64 x1.r.d.a, .int .i64 x1.r.d.b] rfl rfl rfl Zu rfl rfl rfl ?_
     refine WL.buildSlice _ [(0,[.int .i64 x1.r.d.a, .int .i64 x1.r.d.b])] [.int .i64 x1.r.d.a, .int .i64 x1.r.d.b] hS51 YO rfl rfl rfl rfl (fun z hz=>by match z,hz with | [z0,z1],_=>rfl) (fun b14 w38 hn14 hS52=>?_)
     obtain ⟨G18,hle18,hs17,hS53⟩:=St.sealSl (E:=SpanE) (by_:=16) (l:=([x1.r.d] : List Span)) hS52 hn14 ⟨[.int .i64 x1.r.d.a, .int .i64 x1.r.d.b],_,rfl,(Zs x1.r.d hb9 hb10),rfl⟩ rfl (by simp [reach]) (by simp [reach])
     refine Zn hS53 Zq1 rfl rfl rfl (ZeL hS53.imm (ZX 3 [x1.r.d] [d]) [x1.r.d] _ (hs11.mono (hle17.trans hle18)) _ hs17) (fun w39 G19 hS54 hle19=>?_)
     refine WL.split (fun (h9 : (decide ((ZX 3 [x1.r.d] [d]) = [x1.r.d])) = true)=>?_) (fun (h9 : (decide ((ZX 3 [x1.r.d] [d]) = [x1.r.d])) = false)=>?_)
     ·refine ZD hS54 1 _ _ _ 0 [v9, .int .i64 x1.r.d.a, .int .i64 x1.r.d.b, .int .i64 x1.r.x.a, .int .i64 x1.r.x.b] rfl rfl rfl Zt rfl rfl rfl ?_
      refine WL.buildSlice _ [(0,[v9, .int .i64 x1.r.d.a, .int .i64 x1.r.d.b, .int .i64 x1.r.x.a, .int .i64 x1.r.x.b])] [v9, .int .i64 x1.r.d.a, .int .i64 x1.r.d.b, .int .i64 x1.r.x.a, .int .i64 x1.r.x.b] hS54 Y4 rfl rfl rfl rfl (fun z hz=>by match z,hz with | [z0,z1,z2,z3,z4],_=>rfl) (fun b15 w40 hn15 hS55=>?_)
      refine WL.push (m:=([x1] : List HRow)) Y4 rfl rfl rfl (hr3.mono (((((hle9.trans hle10).trans hle11).trans hle17).trans hle18).trans hle19)) hS55 3 rfl 0 _ _ _ _ _ rfl ⟨[v9, .int .i64 x1.r.d.a, .int .i64 x1.r.d.b, .int .i64 x1.r.x.a, .int .i64 x1.r.x.b],_,rfl,(ZQ x1 (hs8.mono (((((hle9.trans hle10).trans hle11).trans hle17).trans hle18).trans hle19)) hb9 hb10 YD YW),rfl⟩ rfl (by have hreach : reach = 140737488355328:=rfl; simp only [List.length_append,List.length_cons,List.length_nil]; omega) (by have hreach : reach = 140737488355328:=rfl; simp only [List.length_append,List.length_cons,List.length_nil]; omega) rfl rfl rfl (fun v19 o7 w41 hr11 hS56=>?_)
      have hS57:=hS56.tail
      refine Zl k1 (by have hreach : reach = 140737488355328:=rfl; omega) rfl rfl rfl ?_
      have hS58:=hS57.tail
      have hS59:=hS58.tail
      exact BK.mk' _ ⟨k1 + 1,v19,o7,G19,rfl,(hle7.trans (((((hle9.trans hle10).trans hle11).trans hle17).trans hle18).trans hle19)),hS59,(Ye.cast hr11 (by (with_reducible exact (Zch ‹_› (by first | exact .inl ‹_› | exact .inr (.inl ‹_›) | exact .inr (.inr ‹_›))).symm))),⟨rfl,rfl,rfl,rfl,rfl,rfl,rfl,rfl,rfl,rfl,rfl,trivial⟩,(by omega)⟩ (show t.rows.length - (k1 + 1) < t.rows.length - k1 by omega)
     have bd3:=hs11.bound
     refine Zj (hs11.mono ((hle17.trans hle18).trans hle19)) YT rfl rfl ?_
     refine LP.go ft [] (fun m ρ1 w1=>∃ (k2 : Nat),∃ (v20 : Value) (o8 : OB),∃ (G20 : GH),m = (ZX 3 [x1.r.d] [d]).length - k2 ∧ G19.le G20 ∧ St w [] G G20 [none,some (b5,37,[v9, .int .i64 x1.r.d.a, .int .i64 x1.r.d.b, .int .i64 x1.r.x.a, .int .i64 x1.r.x.b]),o8,some (b2,28,[Zb ((ZF t tx v d).s.name),v4, .int .i64 ((ZF t tx v d).s.key),v5,v6, .int .i64 ((ZF t tx v d).last)]),some (b1,28,[Zb [], .slice none 0 0, .int .i64 0, .slice none 0 0, .slice none 0 0, .int .i64 0])] w1 ∧ Ye HRowE 56 37 G20 v20 ((Za0 t.s.key.toNat t.rows tx v d k1) ++ Xl x1.v ((ZX 3 [x1.r.d] [d]).take k2) tx 253402300800) o8 ∧ FR ρ1 [(1, .int .i64 tx),(2,vv),(4, .pointer (some p1)),(7, .pointer (some p2)),(8, .pointer (some ⟨b1,0,none⟩)),(10, .pointer (some ⟨b2,0,none⟩)),(12, .pointer (some (⟨b3,0,none⟩ : Addr))),(13,v20),(15, .pointer (some ⟨b5,0,none⟩)),(49,v3),(50, .int .i64 (t.rows.length : Int)),(51, .int .i64 (k1 : Int)),(98,r6),(99, .int .i64 (((ZX 3 [x1.r.d] [d]).length : Nat) : Int)),(100, .int .i64 (k2 : Int))] ∧ k2 ≤ (ZX 3 [x1.r.d] [d]).length) _ ⟨0,v7,o1,G19,rfl,(G19.le_refl),hS54,(Ye.cast (hr3.mono (((((hle9.trans hle10).trans hle11).trans hle17).trans hle18).trans hle19)) (by simp [Xl])),⟨rfl,rfl,rfl,rfl,rfl,rfl,rfl,rfl,rfl,rfl,rfl,rfl,rfl,rfl,rfl,trivial⟩,(by omega)⟩ ?_
     rintro m ρ1 w42 ⟨k2,v20,o8,G20,rfl,hle20,hS60,hr12,hF9,f3⟩
     refine hF9.set ?_
     clear hF9
     have hol:=Zcc x1.v ((ZX 3 [x1.r.d] [d]).take k2) tx 253402300800
     have hot:=List.length_take_le' k2 (ZX 3 [x1.r.d] [d])
     refine Zq (k2 : Int) (((ZX 3 [x1.r.d] [d]).length : Nat) : Int) rfl rfl rfl (fun h10=>?_) (fun h10=>?_)
     ·refine WL.indexAddr (hs11.mono (((hle17.trans hle18).trans hle19).trans hle20)) k2 (by omega) YT Zu rfl rfl rfl rfl (fun p5 x3 hx3 he3=>?_)
      obtain ⟨cs4,hc7,hr13⟩:=he3
      obtain ⟨rfl,Qi,Qd⟩:=ZE hr13
      refine Zc hS60 hc7 [.int .i64 x3.a, .int .i64 x3.b] Zu rfl rfl rfl rfl rfl ?_
      refine WL.alloc hS60 Zu rfl rfl (fun b16 w43 hn16 hS61=>?_)
      refine WL.store hS61 0 _ _ _ 0 _ [.int .i64 x3.a, .int .i64 x3.b] [.int .i64 x3.a, .int .i64 x3.b] _ rfl rfl Zu rfl (Nat.le_of_ble_eq_true rfl) rfl rfl rfl rfl rfl rfl (fun w44 hS62=>?_)
      obtain ⟨G21,hle21,hc8,hS63⟩:=hS62.shutB hn16
      refine ZU hS63 1 _ _ _ 0 _ rfl rfl ZH rfl rfl rfl <| Zc hS63 hc8 [.int .i64 x3.a, .int .i64 x3.b] Zu rfl rfl rfl rfl rfl <| Zc hS63 (hc3.mono (((((((((hle6.trans hle7).trans hle9).trans hle10).trans hle11).trans hle17).trans hle18).trans hle19).trans hle20).trans hle21)) [.int .i64 tx, .int .i64 253402300800] Zu rfl rfl rfl rfl rfl <| WL.build _ [(0,[.int .i64 x3.a, .int .i64 x3.b]),(1,[.int .i64 tx, .int .i64 253402300800])] [.int .i64 x3.a, .int .i64 x3.b, .int .i64 tx, .int .i64 253402300800] Zb8 rfl Zdc rfl rfl rfl rfl ?_
      refine WL.build _ [(0,[v9]),(1,[.int .i64 x3.a, .int .i64 x3.b, .int .i64 tx, .int .i64 253402300800])] [v9, .int .i64 x3.a, .int .i64 x3.b, .int .i64 tx, .int .i64 253402300800] Zt rfl Zbr rfl rfl (by show [(0,(v9 : Value).cells.toList),(1,(.agg #[.int .i64 x3.a, .int .i64 x3.b, .int .i64 tx, .int .i64 253402300800] : Value).cells.toList)] = _; simp only [(hs8.mono (((((((hle9.trans hle10).trans hle11).trans hle17).trans hle18).trans hle19).trans hle20).trans hle21)).cells1] <;> rfl) rfl ?_
      refine WL.buildSlice _ [(0,[v9, .int .i64 x3.a, .int .i64 x3.b, .int .i64 tx, .int .i64 253402300800])] [v9, .int .i64 x3.a, .int .i64 x3.b, .int .i64 tx, .int .i64 253402300800] hS63 Y4 rfl rfl rfl rfl (fun z hz=>by match z,hz with | [z0,z1,z2,z3,z4],_=>rfl) (fun b17 w45 hn17 hS64=>?_)
      refine WL.push (m:=([(HRow.mk x1.v (Rect.mk x3 (Span.mk tx 253402300800)))] : List HRow)) Y4 rfl rfl rfl (hr12.mono hle21) hS64 3 rfl 0 _ _ _ _ _ rfl ⟨[v9, .int .i64 x3.a, .int .i64 x3.b, .int .i64 tx, .int .i64 253402300800],_,rfl,(ZQ (HRow.mk x1.v (Rect.mk x3 (Span.mk tx 253402300800))) (hs8.mono (((((((hle9.trans hle10).trans hle11).trans hle17).trans hle18).trans hle19).trans hle20).trans hle21)) Qi Qd htx64 (show Zw 253402300800 from by constructor <;> decide)),rfl⟩ rfl (by have hreach : reach = 140737488355328:=rfl; simp only [List.length_append,List.length_cons,List.length_nil]; omega) (by have hreach : reach = 140737488355328:=rfl; simp only [List.length_append,List.length_cons,List.length_nil]; omega) rfl rfl rfl (fun v21 o9 w46 hr14 hS65=>?_)
      have hS66:=hS65.tail
      refine Zl k2 (by have hreach : reach = 140737488355328:=rfl; omega) rfl rfl rfl ?_
      exact BK.mk' _ ⟨k2 + 1,v21,o9,G21,rfl,(hle20.trans hle21),hS66,(Ye.cast hr14 (by (rw [ZdB ‹_›,List.append_assoc]))),⟨rfl,rfl,rfl,rfl,rfl,rfl,rfl,rfl,rfl,rfl,rfl,rfl,rfl,rfl,rfl,trivial⟩,(by omega)⟩ (show (ZX 3 [x1.r.d] [d]).length - (k2 + 1) < (ZX 3 [x1.r.d] [d]).length - k2 by omega)
     refine WL.store hS60 1 _ _ _ 4 _ [.int .i64 tx] [v9, .int .i64 x1.r.d.a, .int .i64 x1.r.d.b, .int .i64 x1.r.x.a, .int .i64 tx] _ rfl rfl Zp rfl (Nat.le_of_ble_eq_true rfl) rfl rfl rfl rfl rfl rfl (fun w47 hS67=>?_)
     refine ZD hS67 1 _ _ _ 0 [v9, .int .i64 x1.r.d.a, .int .i64 x1.r.d.b, .int .i64 x1.r.x.a, .int .i64 tx] rfl rfl rfl Zt rfl rfl rfl ?_
     refine WL.buildSlice _ [(0,[v9, .int .i64 x1.r.d.a, .int .i64 x1.r.d.b, .int .i64 x1.r.x.a, .int .i64 tx])] [v9, .int .i64 x1.r.d.a, .int .i64 x1.r.d.b, .int .i64 x1.r.x.a, .int .i64 tx] hS67 Y4 rfl rfl rfl rfl (fun z hz=>by match z,hz with | [z0,z1,z2,z3,z4],_=>rfl) (fun b18 w48 hn18 hS68=>?_)
     refine WL.push (m:=([(HRow.mk x1.v (Rect.mk x1.r.d (Span.mk x1.r.x.a tx)))] : List HRow)) Y4 rfl rfl rfl hr12 hS68 3 rfl 0 _ _ _ _ _ rfl ⟨[v9, .int .i64 x1.r.d.a, .int .i64 x1.r.d.b, .int .i64 x1.r.x.a, .int .i64 tx],_,rfl,(ZQ (HRow.mk x1.v (Rect.mk x1.r.d (Span.mk x1.r.x.a tx))) (hs8.mono ((((((hle9.trans hle10).trans hle11).trans hle17).trans hle18).trans hle19).trans hle20)) hb9 hb10 YD htx64),rfl⟩ rfl (by have hreach : reach = 140737488355328:=rfl; simp only [List.length_append,List.length_cons,List.length_nil]; omega) (by have hreach : reach = 140737488355328:=rfl; simp only [List.length_append,List.length_cons,List.length_nil]; omega) rfl rfl rfl (fun v22 o10 w49 hr15 hS69=>?_)
     have hS70:=hS69.tail
     refine Zl k1 (by have hreach : reach = 140737488355328:=rfl; omega) rfl rfl rfl ?_
     have hS71:=hS70.tail
     have hS72:=hS71.tail
     exact BK.mk' _ ⟨k1 + 1,v22,o10,G20,rfl,(hle7.trans ((((((hle9.trans hle10).trans hle11).trans hle17).trans hle18).trans hle19).trans hle20)),hS72,(Ye.cast hr15 (by ((rw [ZgD (by omega)]; with_reducible exact (Zju ‹_› ‹_› ‹_› ‹_›).symm)))),⟨rfl,rfl,rfl,rfl,rfl,rfl,rfl,rfl,rfl,rfl,rfl,trivial⟩,(by omega)⟩ (show t.rows.length - (k1 + 1) < t.rows.length - k1 by omega)
    refine ⟨fun h=>absurd h (by decide),?_⟩
    refine TG.quiet 1 [18,19] 18 rfl rfl rfl rfl rfl (by decide) (fun w9 K9 k9=>Za2 rfl rfl k9) ?_
    refine TG.quiet 0 [19] 19 rfl rfl rfl rfl rfl (by decide) (fun w9 K9 k9=>WL.assign rfl k9) ?_
    refine TG.fin rfl ?_
    refine ZD hS51 1 _ _ _ 0 [v9, .int .i64 x1.r.d.a, .int .i64 x1.r.d.b, .int .i64 x1.r.x.a, .int .i64 x1.r.x.b] rfl rfl rfl Zt rfl rfl rfl ?_
    refine WL.buildSlice _ [(0,[v9, .int .i64 x1.r.d.a, .int .i64 x1.r.d.b, .int .i64 x1.r.x.a, .int .i64 x1.r.x.b])] [v9, .int .i64 x1.r.d.a, .int .i64 x1.r.d.b, .int .i64 x1.r.x.a, .int .i64 x1.r.x.b] hS51 Y4 rfl rfl rfl rfl (fun z hz=>by match z,hz with | [z0,z1,z2,z3,z4],_=>rfl) (fun b19 w50 hn19 hS73=>?_)
    refine WL.push (m:=([x1] : List HRow)) Y4 rfl rfl rfl (hr3.mono (((hle9.trans hle10).trans hle11).trans hle17)) hS73 3 rfl 0 _ _ _ _ _ rfl ⟨[v9, .int .i64 x1.r.d.a, .int .i64 x1.r.d.b, .int .i64 x1.r.x.a, .int .i64 x1.r.x.b],_,rfl,(ZQ x1 (hs8.mono (((hle9.trans hle10).trans hle11).trans hle17)) hb9 hb10 YD YW),rfl⟩ rfl (by have hreach : reach = 140737488355328:=rfl; simp only [List.length_append,List.length_cons,List.length_nil]; omega) (by have hreach : reach = 140737488355328:=rfl; simp only [List.length_append,List.length_cons,List.length_nil]; omega) rfl rfl rfl (fun v23 o11 w51 hr16 hS74=>?_)
    have hS75:=hS74.tail
    refine Zl k1 (by have hreach : reach = 140737488355328:=rfl; omega) rfl rfl rfl ?_
    have hS76:=hS75.tail
    have hS77:=hS76.tail
    exact BK.mk' _ ⟨k1 + 1,v23,o11,G17,rfl,(hle7.trans (((hle9.trans hle10).trans hle11).trans hle17)),hS77,(Ye.cast hr16 (by (with_reducible exact (Zch ‹_› (by first | exact .inl ‹_› | exact .inr (.inl ‹_›) | exact .inr (.inr ‹_›))).symm))),⟨rfl,rfl,rfl,rfl,rfl,rfl,rfl,rfl,rfl,rfl,rfl,trivial⟩,(by omega)⟩ (show t.rows.length - (k1 + 1) < t.rows.length - k1 by omega)
   have h4 : x1.r.x.b ≠ 253402300800:=q1
   clear q1
   refine drT [11,16,17,18,19] [(68, .int .i64 x1.r.x.b),(69, .bool false)] hS22 ⟨fun _ hSw=>ZU hSw 1 _ _ _ 4 _ rfl rfl Zp rfl rfl rfl <| nu rfl rfl,fun _=>WL.cmpV .eql rfl .i64 x1.r.x.b 253402300800 _ Xj rfl rfl rfl <| nu rfl rfl,trivial⟩ (fun w52 hS78=>?_)
   refine TG.fork 4 [11,16,17,18,19] [11,16] rfl rfl (by decide) (by decide) (TA.cons rfl ?_ (TA.cons rfl ?_ TA.nil))
   ·refine WL.no rfl rfl ?_
    refine ⟨fun _=>hS78.down hS78.le (G11.le_refl),?_⟩
    refine TG.fork 3 [16,17,18,19] [16] rfl rfl (by decide) (by decide) (TA.cons rfl ?_ TA.nil)
    refine WL.no rfl rfl ?_
    refine ⟨fun _=>hS78.down hS78.le (G11.le_refl),?_⟩
    refine TG.fork 2 [17,18,19] [17] rfl rfl (by decide) (by decide) (TA.cons rfl ?_ TA.nil)
    refine WL.no rfl rfl ?_
    refine ⟨fun h=>absurd h (by decide),?_⟩
    refine TG.quiet 1 [18,19] 18 rfl rfl rfl rfl rfl (by decide) (fun w9 K9 k9=>QJ rfl rfl k9) ?_
    refine TG.quiet 0 [19] 19 rfl rfl rfl rfl rfl (by decide) (fun w9 K9 k9=>WL.assign rfl k9) ?_
    refine TG.fin rfl ?_
    refine ZD hS78 1 _ _ _ 0 [v9, .int .i64 x1.r.d.a, .int .i64 x1.r.d.b, .int .i64 x1.r.x.a, .int .i64 x1.r.x.b] rfl rfl rfl Zt rfl rfl rfl ?_
    refine WL.buildSlice _ [(0,[v9, .int .i64 x1.r.d.a, .int .i64 x1.r.d.b, .int .i64 x1.r.x.a, .int .i64 x1.r.x.b])] [v9, .int .i64 x1.r.d.a, .int .i64 x1.r.d.b, .int .i64 x1.r.x.a, .int .i64 x1.r.x.b] hS78 Y4 rfl rfl rfl rfl (fun z hz=>by match z,hz with | [z0,z1,z2,z3,z4],_=>rfl) (fun b20 w53 hn20 hS79=>?_)
    refine WL.push (m:=([x1] : List HRow)) Y4 rfl rfl rfl (hr3.mono ((hle9.trans hle10).trans hle11)) hS79 3 rfl 0 _ _ _ _ _ rfl ⟨[v9, .int .i64 x1.r.d.a, .int .i64 x1.r.d.b, .int .i64 x1.r.x.a, .int .i64 x1.r.x.b],_,rfl,(ZQ x1 (hs8.mono ((hle9.trans hle10).trans hle11)) hb9 hb10 YD YW),rfl⟩ rfl (by have hreach : reach = 140737488355328:=rfl; simp only [List.length_append,List.length_cons,List.length_nil]; omega) (by have hreach : reach = 140737488355328:=rfl; simp only [List.length_append,List.length_cons,List.length_nil]; omega) rfl rfl rfl (fun v24 o12 w54 hr17 hS80=>?_)
    have hS81:=hS80.tail
    refine Zl k1 (by have hreach : reach = 140737488355328:=rfl; omega) rfl rfl rfl ?_
    have hS82:=hS81.tail
    have hS83:=hS82.tail
    exact BK.mk' _ ⟨k1 + 1,v24,o12,G11,rfl,(hle7.trans ((hle9.trans hle10).trans hle11)),hS83,(Ye.cast hr17 (by (with_reducible exact (Zch ‹_› (by first | exact .inl ‹_› | exact .inr (.inl ‹_›) | exact .inr (.inr ‹_›))).symm))),⟨rfl,rfl,rfl,rfl,rfl,rfl,rfl,rfl,rfl,rfl,rfl,trivial⟩,(by omega)⟩ (show t.rows.length - (k1 + 1) < t.rows.length - k1 by omega)
   refine WL.no rfl rfl ?_
   refine ⟨fun _=>hS78.down hS78.le (G11.le_refl),?_⟩
   refine TG.fork 3 [11,17,18,19] [11] rfl rfl (by decide) (by decide) (TA.cons rfl ?_ TA.nil)
   refine WL.no rfl rfl ?_
   refine ⟨fun _=>hS78.down hS78.le (G11.le_refl),?_⟩
   refine TG.fork 2 [17,18,19] [17] rfl rfl (by decide) (by decide) (TA.cons rfl ?_ TA.nil)
   refine WL.no rfl rfl ?_
   refine ⟨fun h=>absurd h (by decide),?_⟩
   refine TG.quiet 1 [18,19] 18 rfl rfl rfl rfl rfl (by decide) (fun w9 K9 k9=>QJ rfl rfl k9) ?_
   refine TG.quiet 0 [19] 19 rfl rfl rfl rfl rfl (by decide) (fun w9 K9 k9=>WL.assign rfl k9) ?_
   refine TG.fin rfl ?_
   refine ZD hS78 1 _ _ _ 0 [v9, .int .i64 x1.r.d.a, .int .i64 x1.r.d.b, .int .i64 x1.r.x.a, .int .i64 x1.r.x.b] rfl rfl rfl Zt rfl rfl rfl ?_
   refine WL.buildSlice _ [(0,[v9, .int .i64 x1.r.d.a, .int .i64 x1.r.d.b, .int .i64 x1.r.x.a, .int .i64 x1.r.x.b])] [v9, .int .i64 x1.r.d.a, .int .i64 x1.r.d.b, .int .i64 x1.r.x.a, .int .i64 x1.r.x.b] hS78 Y4 rfl rfl rfl rfl (fun z hz=>by match z,hz with | [z0,z1,z2,z3,z4],_=>rfl) (fun b21 w55 hn21 hS84=>?_)
   refine WL.push (m:=([x1] : List HRow)) Y4 rfl rfl rfl (hr3.mono ((hle9.trans hle10).trans hle11)) hS84 3 rfl 0 _ _ _ _ _ rfl ⟨[v9, .int .i64 x1.r.d.a, .int .i64 x1.r.d.b, .int .i64 x1.r.x.a, .int .i64 x1.r.x.b],_,rfl,(ZQ x1 (hs8.mono ((hle9.trans hle10).trans hle11)) hb9 hb10 YD YW),rfl⟩ rfl (by have hreach : reach = 140737488355328:=rfl; simp only [List.length_append,List.length_cons,List.length_nil]; omega) (by have hreach : reach = 140737488355328:=rfl; simp only [List.length_append,List.length_cons,List.length_nil]; omega) rfl rfl rfl (fun v25 o13 w56 hr18 hS85=>?_)
   have hS86:=hS85.tail
   refine Zl k1 (by have hreach : reach = 140737488355328:=rfl; omega) rfl rfl rfl ?_
   have hS87:=hS86.tail
   have hS88:=hS87.tail
   exact BK.mk' _ ⟨k1 + 1,v25,o13,G11,rfl,(hle7.trans ((hle9.trans hle10).trans hle11)),hS88,(Ye.cast hr18 (by (with_reducible exact (Zch ‹_› (by first | exact .inl ‹_› | exact .inr (.inl ‹_›) | exact .inr (.inr ‹_›))).symm))),⟨rfl,rfl,rfl,rfl,rfl,rfl,rfl,rfl,rfl,rfl,rfl,trivial⟩,(by omega)⟩ (show t.rows.length - (k1 + 1) < t.rows.length - k1 by omega)
  have hmr:=Ye.cast (l':=XP t tx v d) hr3 (by rw [ZpJ (by omega)]; rfl)
  obtain ⟨G22,hle22,hs18,hS89⟩:=Ye.freeze hmr hS15 0 rfl
  refine Qf ZwH rfl rfl rfl (ZnU hS89.imm (XP t tx v d) _ hs18 (Zvn hIns)) (fun w57 G23 r8 hres1 hpost4=>?_)
  have hS90:=hS89.call hres1
  have hle23:=hres1.le
  obtain ⟨r9,_,rfl,hs19,rfl⟩:=hpost4
  obtain ⟨o14,hr19,hf1⟩:=hs19
  have hS91:=hS89.adoptO hres1 hf1
  refine WL.store hS91 2 _ _ _ 4 _ [r9] [Zb ((ZF t tx v d).s.name),v4, .int .i64 ((ZF t tx v d).s.key),v5,r9, .int .i64 ((ZF t tx v d).last)] _ rfl hr19.cells1 Xg rfl (Nat.le_of_ble_eq_true rfl) (by simp only [List.all_cons,List.all_nil,hr19.oneC,Bool.true_and] <;> rfl) rfl rfl rfl rfl rfl (fun w58 hS92=>?_)
  refine Yf (QH (XP t tx v d)) 0 rfl rfl rfl (fun h11=>?_) (fun h11=>?_)
  ·refine WL.build _ [] [Zb [], .slice none 0 0, .int .i64 0, .slice none 0 0, .slice none 0 0, .int .i64 0] Zm rfl XU rfl rfl rfl rfl ?_
   refine WL.store hS92 3 _ _ _ 0 _ [Zb [], .slice none 0 0, .int .i64 0, .slice none 0 0, .slice none 0 0, .int .i64 0] [Zb [], .slice none 0 0, .int .i64 0, .slice none 0 0, .slice none 0 0, .int .i64 0] _ rfl rfl Zm rfl (Nat.le_of_ble_eq_true rfl) rfl rfl rfl rfl rfl rfl (fun w59 hS93=>?_)
   exact Xe [.agg #[Zb [], .slice none 0 0, .int .i64 0, .slice none 0 0, .slice none 0 0, .int .i64 0], .int .i64 (QH (XP t tx v d))] hS93 ⟨_,_,_,rfl,rfl,hS93.loadA 3 _ _ _ 0 [Zb [], .slice none 0 0, .int .i64 0, .slice none 0 0, .slice none 0 0, .int .i64 0] rfl rfl rfl Zm rfl,⟨_,rfl,rfl⟩⟩ ⟨_,_,rfl,(Is.cast ⟨_,rfl,(Zi (Table.mk (Schema.mk [] [] 0 []) [] 0) (by simp [reach]) (Sl.nil ColE 24 G23) ZM (Sl.nil ForeignE 40 G23) (Sl.nil HRowE 56 G23) ZM)⟩ (by exact (Zs2 ‹_› ‹_› ‹_›).1)),(congrArg (Value.int .i64) (by exact (Zs2 ‹_› ‹_› ‹_›).2))⟩
  refine ZU hS92 2 _ _ _ 4 _ rfl rfl Xg rfl rfl rfl ?_
  have bd4:=hr19.bound
  refine Za3 hr19 Yq rfl rfl ?_
  refine LP.go ft [] (fun m ρ1 w1=>∃ (k3 : Nat),∃ (o15 : OB),∃ (G24 : GH),m = (Qg (XP t tx v d)).length - k3 ∧ G23.le G24 ∧ St w [] G G24 [o15,none,some (b2,28,[Zb ((ZF t tx v d).s.name),v4, .int .i64 ((ZF t tx v d).s.key),v5,r9, .int .i64 ((ZF t tx v d).last)]),some (b1,28,[Zb [], .slice none 0 0, .int .i64 0, .slice none 0 0, .slice none 0 0, .int .i64 0])] w1 ∧ Ye HRowE 56 37 G24 r9 (Qg (XP t tx v d)) o15 ∧ FR ρ1 [(8, .pointer (some ⟨b1,0,none⟩)),(10, .pointer (some ⟨b2,0,none⟩)),(134,r9),(135, .int .i64 (((Qg (XP t tx v d)).length : Nat) : Int)),(136, .int .i64 (k3 : Int))] ∧ k3 ≤ (Qg (XP t tx v d)).length) _ ⟨0,o14,G23,rfl,(G23.le_refl),hS92,hr19,⟨rfl,rfl,rfl,rfl,rfl,trivial⟩,(by omega)⟩ ?_
  rintro m ρ1 w60 ⟨k3,o15,G24,rfl,hle24,hS94,hr20,hF9,f4⟩
  refine hF9.set ?_
  clear hF9
  refine Zq (k3 : Int) (((Qg (XP t tx v d)).length : Nat) : Int) rfl rfl rfl (fun h12=>?_) (fun h12=>?_)
  ·refine QB hr20 k3 (by omega) Yq Zt rfl rfl rfl rfl (fun p6 x4 ec1 hx4 hr21 ra1=>?_)
   obtain ⟨v26,rfl,hs20,Qn,Q6,Zah,ZdM⟩:=ZA hr21
   refine Zfi ra1 hS94 0 rfl Zt rfl rfl rfl rfl ?_
   refine WL.alloc hS94 Zt rfl rfl (fun b22 w61 hn22 hS95=>?_)
   refine WL.store hS95 0 _ _ _ 0 _ [v26, .int .i64 x4.r.d.a, .int .i64 x4.r.d.b, .int .i64 x4.r.x.a, .int .i64 x4.r.x.b] [v26, .int .i64 x4.r.d.a, .int .i64 x4.r.d.b, .int .i64 x4.r.x.a, .int .i64 x4.r.x.b] _ rfl rfl Zt rfl (Nat.le_of_ble_eq_true rfl) (by simp only [List.all_cons,List.all_nil,hs20.oneC,Bool.true_and] <;> rfl) rfl rfl rfl rfl rfl (fun w62 hS96=>?_)
   obtain ⟨G25,hle25,hc9,hS97⟩:=hS96.shutB hn22
   obtain ⟨p7,x5,ec2,hx5,hr22,ra2,ep1⟩:=Ye.atP (hr20.mono hle25) k3 (by omega)
   obtain rfl : x4 = x5:=Option.some.inj (hx4.symm.trans hx5)
   obtain ⟨v27,rfl,hs21,Zdd,Zfq,Zde,Zg8⟩:=ZA hr22
   refine dr [(5,true),(8,false)] [(142,r9),(145,v26),(147, .pointer (some p7))] hS97 ⟨fun _ hSw=>ZU hSw 2 _ _ _ 4 _ rfl rfl Xg rfl rfl rfl <| nu rfl rfl,fun _ hSw=>Za hSw (Xw.drop 0 hc9) ZH rfl rfl rfl <| nu rfl rfl,fun _=>Zk k3 ep1 Yq Zt rfl rfl rfl rfl <| nu rfl rfl,trivial⟩ (fun w63 hS98=>?_)
   refine Z6 hS98 Ze5 rfl rfl rfl (Zab hS98.imm x4.v _ (hs20.mono hle25)) (fun w64 G26 r11 hpost5 hS99 hle26=>?_)
   refine ⟨hS99.down hS98.le hle26,?_⟩
   refine Zcr (hr20.mono (hle25.trans hle26)) ra2 hS99 0 rfl (by omega) rfl 0 _ [r11] x4 [r11, .int .i64 x4.r.d.a, .int .i64 x4.r.d.b, .int .i64 x4.r.x.a, .int .i64 x4.r.x.b] hpost5.cells1 ZH rfl (Nat.le_of_ble_eq_true rfl) (by simp only [List.all_cons,List.all_nil,hpost5.oneC,Bool.true_and] <;> rfl) rfl (ZQ x4 hpost5 Zdd Zfq Zde Zg8) rfl rfl rfl (fun o16 w65 hr23 hS100=>?_)
   refine Zl k3 (by have hreach : reach = 140737488355328:=rfl; omega) rfl rfl rfl ?_
   exact BK.mk' _ ⟨k3 + 1,o16,G26,rfl,(hle24.trans (hle25.trans hle26)),hS100,(Ye.cast hr23 (by (exact ZrF ‹_›))),⟨rfl,rfl,rfl,rfl,rfl,trivial⟩,(by omega)⟩ (show (Qg (XP t tx v d)).length - (k3 + 1) < (Qg (XP t tx v d)).length - k3 by omega)
  refine ZD hS94 2 _ _ _ 0 [Zb ((ZF t tx v d).s.name),v4, .int .i64 ((ZF t tx v d).s.key),v5,r9, .int .i64 ((ZF t tx v d).last)] rfl rfl rfl Zm rfl rfl rfl ?_
  refine WL.store hS94 3 _ _ _ 0 _ [Zb ((ZF t tx v d).s.name),v4, .int .i64 ((ZF t tx v d).s.key),v5,r9, .int .i64 ((ZF t tx v d).last)] [Zb ((ZF t tx v d).s.name),v4, .int .i64 ((ZF t tx v d).s.key),v5,r9, .int .i64 ((ZF t tx v d).last)] _ rfl rfl Zm rfl (Nat.le_of_ble_eq_true rfl) (by simp only [List.all_cons,List.all_nil,(hs5.mono (((((hle5.trans hle6).trans hle7).trans hle22).trans hle23).trans hle24)).oneC,(hs6.mono (((((hle5.trans hle6).trans hle7).trans hle22).trans hle23).trans hle24)).oneC,hr20.oneC,Bool.true_and] <;> rfl) rfl rfl rfl rfl rfl (fun w66 hS101=>?_)
  obtain ⟨G27,hle27,hs22,hS102⟩:=Ye.freeze hr20 hS101 0 rfl
  exact Xe [.agg #[Zb ((ZF t tx v d).s.name),v4, .int .i64 ((ZF t tx v d).s.key),v5,r9, .int .i64 ((ZF t tx v d).last)], .int .i64 0] hS102 ⟨_,_,_,rfl,rfl,hS102.loadA 3 _ _ _ 0 [Zb ((ZF t tx v d).s.name),v4, .int .i64 ((ZF t tx v d).s.key),v5,r9, .int .i64 ((ZF t tx v d).last)] rfl rfl rfl Zm rfl,⟨_,rfl,rfl⟩⟩ ⟨_,_,rfl,(Is.cast ⟨_,rfl,(Zi (Table.mk (Schema.mk ((ZF t tx v d).s.name) ((ZF t tx v d).s.cols) ((ZF t tx v d).s.key) ((ZF t tx v d).s.fks)) (Qg (XP t tx v d)) ((ZF t tx v d).last)) hb6 (hs5.mono ((((((hle5.trans hle6).trans hle7).trans hle22).trans hle23).trans hle24).trans hle27)) hb7 (hs6.mono ((((((hle5.trans hle6).trans hle7).trans hle22).trans hle23).trans hle24).trans hle27)) hs22 hb8)⟩ (by exact (ZnR ‹_› ‹_› ‹_›).1)),(congrArg (Value.int .i64) (by exact (ZnR ‹_› ‹_› ‹_›).2))⟩
 refine WL.build _ [] [Zb [], .slice none 0 0, .int .i64 0, .slice none 0 0, .slice none 0 0, .int .i64 0] Zm rfl XU rfl rfl rfl rfl ?_
 refine WL.store hS4 0 _ _ _ 0 _ [Zb [], .slice none 0 0, .int .i64 0, .slice none 0 0, .slice none 0 0, .int .i64 0] [Zb [], .slice none 0 0, .int .i64 0, .slice none 0 0, .slice none 0 0, .int .i64 0] _ rfl rfl Zm rfl (Nat.le_of_ble_eq_true rfl) rfl rfl rfl rfl rfl rfl (fun w67 hS103=>?_)
 exact Xe [.agg #[Zb [], .slice none 0 0, .int .i64 0, .slice none 0 0, .slice none 0 0, .int .i64 0], .int .i64 1] hS103 ⟨_,_,_,rfl,rfl,hS103.loadA 0 _ _ _ 0 [Zb [], .slice none 0 0, .int .i64 0, .slice none 0 0, .slice none 0 0, .int .i64 0] rfl rfl rfl Zm rfl,⟨_,rfl,rfl⟩⟩ ⟨_,_,rfl,(Is.cast ⟨_,rfl,(Zi (Table.mk (Schema.mk [] [] 0 []) [] 0) (by simp [reach]) (Sl.nil ColE 24 G3) ZM (Sl.nil ForeignE 40 G3) (Sl.nil HRowE 56 G3) ZM)⟩ (by exact (Zs0 ‹_›).1)),(congrArg (Value.int .i64) (by exact (Zs0 ‹_›).2))⟩
end Go.Civ
