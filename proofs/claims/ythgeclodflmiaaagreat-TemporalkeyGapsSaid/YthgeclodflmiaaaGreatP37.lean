/- Lemmas. -/
import Derived.Test.YthgeclodflmiaaaGreatP33
import Derived.Test.YthgeclodflmiaaaGreatP36
import Derived.Test.YthgeclodflmiaaaGreatProg
import Derived.KernelRfl
import Derived.WalkKit
set_option linter.unusedVariables false
set_option linter.unusedSimpArgs false
set_option maxRecDepth 100000
set_option maxHeartbeats 4000000
namespace Go.Civ
open Go.Proofs
theorem ZeK {G : GH} {w : World} (hG : G.In w) (t o : Table) (f : Foreign) (ct : List Value) (hct : TableE.rep G t ct) (cu : List Value) (hcu : TableE.rep G o cu) (cf : List Value) (hcf : ForeignE.rep G f cf) : CL Tryz.prog (nat_lit 27) #[.agg ct.toArray, .agg cu.toArray, .agg cf.toArray] [] w G fun G' _ r=>∃ r0 r1,r = .tuple #[r0,r1] ∧ Is HRowE G' r0 (Z5 t o f) ∧ r1 = .bool (Q2 t o f):=by
 refine Y9 ft [] Tryz.func27 rfl rfl ?_
 have hS:=St.start (X:=[]) hG
 obtain ⟨v1,v2,v3,rfl,hb1,hs1,hb2,hs2,hs3,hb3⟩:=Z0 hct
 obtain ⟨v4,v5,v6,rfl,hb4,hs4,hb5,hs5,hs6,hb6⟩:=Z0 hcu
 obtain ⟨v7,rfl,hs7,hb7⟩:=Y1 hcf
 refine Zu [Zd t.s.name,v1, .int .i64 t.s.key,v2,v3, .int .i64 t.last] _ hS rfl rfl rfl (fun p1 w1 G1 hle1 hsp1 hc1 hS1=>?_)
 refine Zu [Zd o.s.name,v4, .int .i64 o.s.key,v5,v6, .int .i64 o.last] _ hS1 rfl rfl rfl (fun p2 w2 G2 hle2 hsp2 hc2 hS2=>?_)
 refine Zu [v7,Zd f.table] _ hS2 rfl rfl rfl (fun p3 w3 G3 hle3 hsp3 hc3 hS3=>?_)
 refine WL.alloc hS3 Zx rfl rfl (fun b1 w4 hn1 hS4=>?_)
 refine Zc hS4 (hc1.mono (hle2.trans hle3)) [Zd t.s.name,v1, .int .i64 t.s.key,v2,v3, .int .i64 t.last] Zp rfl rfl rfl rfl rfl ?_
 refine Zj hS4 QN rfl rfl rfl (XS hS4.imm t _ (Zl t hb1 (hs1.mono ((hle1.trans hle2).trans hle3)) hb2 (hs2.mono ((hle1.trans hle2).trans hle3)) (hs3.mono ((hle1.trans hle2).trans hle3)) hb3)) (fun w5 G4 hS5 hle4=>?_)
 refine WL.split (fun (h1 : (Zm t) = true)=>?_) (fun (h1 : (Zm t) = false)=>?_)
 ·refine Zc hS5 (hc2.mono (hle3.trans hle4)) [Zd o.s.name,v4, .int .i64 o.s.key,v5,v6, .int .i64 o.last] Zp rfl rfl rfl rfl rfl ?_
  refine Zj hS5 QN rfl rfl rfl (XS hS5.imm o _ (Zl o hb4 (hs4.mono (((hle1.trans hle2).trans hle3).trans hle4)) hb5 (hs5.mono (((hle1.trans hle2).trans hle3).trans hle4)) (hs6.mono (((hle1.trans hle2).trans hle3).trans hle4)) hb6)) (fun w6 G5 hS6 hle5=>?_)
  refine WL.split (fun (h2 : (Zm o) = true)=>?_) (fun (h2 : (Zm o) = false)=>?_)
  ·refine Zc hS6 (Xl.drop 0 (hc1.mono (((hle2.trans hle3).trans hle4).trans hle5))) [Zd t.s.name,v1, .int .i64 t.s.key,v2] Xg rfl rfl rfl rfl rfl <| Zc hS6 (Xl.drop 0 (hc2.mono ((hle3.trans hle4).trans hle5))) [Zd o.s.name,v4, .int .i64 o.s.key,v5] Xg rfl rfl rfl rfl rfl <| Zc hS6 (hc3.mono (hle4.trans hle5)) [v7,Zd f.table] XZ rfl rfl rfl rfl rfl ?_
   refine Zj hS6 ZrB rfl rfl rfl (ZnO hS6.imm t.s o.s f _ (ZL t.s hb1 (hs1.mono ((((hle1.trans hle2).trans hle3).trans hle4).trans hle5)) hb2 (hs2.mono ((((hle1.trans hle2).trans hle3).trans hle4).trans hle5))) _ (ZL o.s hb4 (hs4.mono ((((hle1.trans hle2).trans hle3).trans hle4).trans hle5)) hb5 (hs5.mono ((((hle1.trans hle2).trans hle3).trans hle4).trans hle5))) _ (Xc f (hs7.mono ((((hle1.trans hle2).trans hle3).trans hle4).trans hle5)) hb7) (Y3 (by assumption : Zm t = true)).1 (Y3 (by assumption : Zm o = true)).1) (fun w7 G6 hS7 hle6=>?_)
   refine WL.split (fun (h3 : (YP t.s o.s f) = true)=>?_) (fun (h3 : (YP t.s o.s f) = false)=>?_)
   ·refine Zc hS7 (hc1.mono ((((hle2.trans hle3).trans hle4).trans hle5).trans hle6)) [Zd t.s.name,v1, .int .i64 t.s.key,v2,v3, .int .i64 t.last] Zp rfl rfl rfl rfl rfl <| Zc hS7 (hc2.mono (((hle3.trans hle4).trans hle5).trans hle6)) [Zd o.s.name,v4, .int .i64 o.s.key,v5,v6, .int .i64 o.last] Zp rfl rfl rfl rfl rfl <| Zc hS7 (hc3.mono ((hle4.trans hle5).trans hle6)) [v7,Zd f.table] XZ rfl rfl rfl rfl rfl <| WL.build _ [(0,[Zd t.s.name,v1, .int .i64 t.s.key,v2,v3, .int .i64 t.last]),(1,[Zd o.s.name,v4, .int .i64 o.s.key,v5,v6, .int .i64 o.last]),(2,[v7,Zd f.table])] [Zd t.s.name,v1, .int .i64 t.s.key,v2,v3, .int .i64 t.last,Zd o.s.name,v4, .int .i64 o.s.key,v5,v6, .int .i64 o.last,v7,Zd f.table] Zgh rfl Zp2 rfl rfl rfl rfl ?_
    refine Z3 hS7 ZtO rfl rfl rfl (Zt0 hS7.imm (Link.mk t o f) (-62135596800) _ (Zcz (Link.mk t o f) hb1 (hs1.mono (((((hle1.trans hle2).trans hle3).trans hle4).trans hle5).trans hle6)) hb2 (hs2.mono (((((hle1.trans hle2).trans hle3).trans hle4).trans hle5).trans hle6)) (hs3.mono (((((hle1.trans hle2).trans hle3).trans hle4).trans hle5).trans hle6)) hb3 hb4 (hs4.mono (((((hle1.trans hle2).trans hle3).trans hle4).trans hle5).trans hle6)) hb5 (hs5.mono (((((hle1.trans hle2).trans hle3).trans hle4).trans hle5).trans hle6)) (hs6.mono (((((hle1.trans hle2).trans hle3).trans hle4).trans hle5).trans hle6)) hb6 (hs7.mono (((((hle1.trans hle2).trans hle3).trans hle4).trans hle5).trans hle6)) hb7) (show Zy (-62135596800) from by constructor <;> decide) (Zbv ‹_› ‹_› ‹_›)) ?_
    rintro w9 G7 _ ⟨r2,_,rfl,hs8,rfl⟩ hS8 hle7
    obtain ⟨cs1,rfl,hr1⟩:=hs8
    obtain ⟨v9,rfl,hb8,hb9,hs9⟩:=XQ hr1
    refine WL.alloc hS8 ZP rfl rfl (fun b2 w10 hn2 hS9=>?_)
    refine WL.store hS9 0 _ _ _ 0 _ [.int .i64 ((ZD (YK (Link.mk t o f) (-62135596800))).tx), .int .i64 ((ZD (YK (Link.mk t o f) (-62135596800))).vd),v9] [.int .i64 ((ZD (YK (Link.mk t o f) (-62135596800))).tx), .int .i64 ((ZD (YK (Link.mk t o f) (-62135596800))).vd),v9] _ rfl rfl ZP rfl (Nat.le_of_ble_eq_true rfl) (by simp only [List.all_cons,List.all_nil,hs9.oneC,Bool.true_and] <;> rfl) rfl rfl rfl rfl rfl (fun w11 hS10=>?_)
    obtain ⟨G9,hle9,hc4,hS11⟩:=hS10.shutB hn2
    refine XA (d:=35) rfl (fun (h4 : ((YK (Link.mk t o f) (-62135596800)).isSome) = true)=>?_) (fun (h4 : ((YK (Link.mk t o f) (-62135596800)).isSome) = false)=>?_)
    ·refine Zc hS11 hc4 [.int .i64 ((ZD (YK (Link.mk t o f) (-62135596800))).tx), .int .i64 ((ZD (YK (Link.mk t o f) (-62135596800))).vd),v9] ZP rfl rfl rfl rfl rfl ?_
     refine Z3 hS11 Zr7 rfl rfl rfl (Zk7 hS11.imm (ZD (YK (Link.mk t o f) (-62135596800))) _ (Xo (ZD (YK (Link.mk t o f) (-62135596800))) hb8 hb9 (hs9.mono hle9)) (ZfJ (Zbv ‹_› ‹_› ‹_›) (by decide) ‹_›).1 (ZfJ (Zbv ‹_› ‹_› ‹_›) (by decide) ‹_›).2) (fun w12 G10 r4 hpost2 hS12 hle10=>?_)
     obtain ⟨cs2,rfl,hr2⟩:=hpost2
     obtain ⟨v10,rfl,hs10,hb10,Yq,Xu,Xv⟩:=ZK hr2
     refine WL.store hS12 0 _ _ _ 0 _ [v10, .int .i64 ((Yt (some (ZD (YK (Link.mk t o f) (-62135596800))))).r.d.a), .int .i64 ((Yt (some (ZD (YK (Link.mk t o f) (-62135596800))))).r.d.b), .int .i64 ((Yt (some (ZD (YK (Link.mk t o f) (-62135596800))))).r.x.a), .int .i64 ((Yt (some (ZD (YK (Link.mk t o f) (-62135596800))))).r.x.b)] [v10, .int .i64 ((Yt (some (ZD (YK (Link.mk t o f) (-62135596800))))).r.d.a), .int .i64 ((Yt (some (ZD (YK (Link.mk t o f) (-62135596800))))).r.d.b), .int .i64 ((Yt (some (ZD (YK (Link.mk t o f) (-62135596800))))).r.x.a), .int .i64 ((Yt (some (ZD (YK (Link.mk t o f) (-62135596800))))).r.x.b)] _ rfl rfl Zx rfl (Nat.le_of_ble_eq_true rfl) (by simp only [List.all_cons,List.all_nil,hs10.oneC,Bool.true_and] <;> rfl) rfl rfl rfl rfl rfl (fun w13 hS13=>?_)
     exact Xj [.agg #[v10, .int .i64 ((Yt (some (ZD (YK (Link.mk t o f) (-62135596800))))).r.d.a), .int .i64 ((Yt (some (ZD (YK (Link.mk t o f) (-62135596800))))).r.d.b), .int .i64 ((Yt (some (ZD (YK (Link.mk t o f) (-62135596800))))).r.x.a), .int .i64 ((Yt (some (ZD (YK (Link.mk t o f) (-62135596800))))).r.x.b)], .bool false] hS13 ⟨_,_,_,rfl,rfl,hS13.loadA 0 _ _ _ 0 [v10, .int .i64 ((Yt (some (ZD (YK (Link.mk t o f) (-62135596800))))).r.d.a), .int .i64 ((Yt (some (ZD (YK (Link.mk t o f) (-62135596800))))).r.d.b), .int .i64 ((Yt (some (ZD (YK (Link.mk t o f) (-62135596800))))).r.x.a), .int .i64 ((Yt (some (ZD (YK (Link.mk t o f) (-62135596800))))).r.x.b)] rfl rfl rfl Zx rfl,⟨_,rfl,rfl⟩⟩ ⟨_,_,rfl,(Is.cast ⟨_,rfl,(ZM (Yt (some (ZD (YK (Link.mk t o f) (-62135596800))))) hs10 hb10 Yq Xu Xv)⟩ (by exact (ZlT (Zbw ‹_› ‹_› ‹_›) ‹_›).1)),(congrArg Value.bool (by exact (ZlT (Zbw ‹_› ‹_› ‹_›) ‹_›).2))⟩
    refine WL.build _ [] [.slice none 0 0, .int .i64 0, .int .i64 0, .int .i64 0, .int .i64 0] Zx rfl Zbj rfl rfl rfl rfl ?_
    refine WL.store hS11 0 _ _ _ 0 _ [.slice none 0 0, .int .i64 0, .int .i64 0, .int .i64 0, .int .i64 0] [.slice none 0 0, .int .i64 0, .int .i64 0, .int .i64 0, .int .i64 0] _ rfl rfl Zx rfl (Nat.le_of_ble_eq_true rfl) rfl rfl rfl rfl rfl rfl (fun w14 hS14=>?_)
    exact Xj [.agg #[.slice none 0 0, .int .i64 0, .int .i64 0, .int .i64 0, .int .i64 0], .bool true] hS14 ⟨_,_,_,rfl,rfl,hS14.loadA 0 _ _ _ 0 [.slice none 0 0, .int .i64 0, .int .i64 0, .int .i64 0, .int .i64 0] rfl rfl rfl Zx rfl,⟨_,rfl,rfl⟩⟩ ⟨_,_,rfl,(Is.cast ⟨_,rfl,(ZM (HRow.mk [] (Rect.mk (Span.mk 0 0) (Span.mk 0 0))) (Sl.nil ValE 32 G9) ZN ZN ZN ZN)⟩ (by exact (Zqh (Zbw ‹_› ‹_› ‹_›) ‹_›).1)),(congrArg Value.bool (by exact (Zqh (Zbw ‹_› ‹_› ‹_›) ‹_›).2))⟩
   refine WL.build _ [] [.slice none 0 0, .int .i64 0, .int .i64 0, .int .i64 0, .int .i64 0] Zx rfl Zbj rfl rfl rfl rfl ?_
   refine WL.store hS7 0 _ _ _ 0 _ [.slice none 0 0, .int .i64 0, .int .i64 0, .int .i64 0, .int .i64 0] [.slice none 0 0, .int .i64 0, .int .i64 0, .int .i64 0, .int .i64 0] _ rfl rfl Zx rfl (Nat.le_of_ble_eq_true rfl) rfl rfl rfl rfl rfl rfl (fun w15 hS15=>?_)
   exact Xj [.agg #[.slice none 0 0, .int .i64 0, .int .i64 0, .int .i64 0, .int .i64 0], .bool false] hS15 ⟨_,_,_,rfl,rfl,hS15.loadA 0 _ _ _ 0 [.slice none 0 0, .int .i64 0, .int .i64 0, .int .i64 0, .int .i64 0] rfl rfl rfl Zx rfl,⟨_,rfl,rfl⟩⟩ ⟨_,_,rfl,(Is.cast ⟨_,rfl,(ZM (HRow.mk [] (Rect.mk (Span.mk 0 0) (Span.mk 0 0))) (Sl.nil ValE 32 G6) ZN ZN ZN ZN)⟩ (by exact (ZdO (ZaY (by first | exact .inl ‹_› | exact .inr (.inl ‹_›) | exact .inr (.inr ‹_›)))).1)),(congrArg Value.bool (by exact (ZdO (ZaY (by first | exact .inl ‹_› | exact .inr (.inl ‹_›) | exact .inr (.inr ‹_›)))).2))⟩
  refine WL.build _ [] [.slice none 0 0, .int .i64 0, .int .i64 0, .int .i64 0, .int .i64 0] Zx rfl Zbj rfl rfl rfl rfl ?_
  refine WL.store hS6 0 _ _ _ 0 _ [.slice none 0 0, .int .i64 0, .int .i64 0, .int .i64 0, .int .i64 0] [.slice none 0 0, .int .i64 0, .int .i64 0, .int .i64 0, .int .i64 0] _ rfl rfl Zx rfl (Nat.le_of_ble_eq_true rfl) rfl rfl rfl rfl rfl rfl (fun w16 hS16=>?_)
  exact Xj [.agg #[.slice none 0 0, .int .i64 0, .int .i64 0, .int .i64 0, .int .i64 0], .bool false] hS16 ⟨_,_,_,rfl,rfl,hS16.loadA 0 _ _ _ 0 [.slice none 0 0, .int .i64 0, .int .i64 0, .int .i64 0, .int .i64 0] rfl rfl rfl Zx rfl,⟨_,rfl,rfl⟩⟩ ⟨_,_,rfl,(Is.cast ⟨_,rfl,(ZM (HRow.mk [] (Rect.mk (Span.mk 0 0) (Span.mk 0 0))) (Sl.nil ValE 32 G5) ZN ZN ZN ZN)⟩ (by exact (ZdO (ZaY (by first | exact .inl ‹_› | exact .inr (.inl ‹_›) | exact .inr (.inr ‹_›)))).1)),(congrArg Value.bool (by exact (ZdO (ZaY (by first | exact .inl ‹_› | exact .inr (.inl ‹_›) | exact .inr (.inr ‹_›)))).2))⟩
 refine WL.build _ [] [.slice none 0 0, .int .i64 0, .int .i64 0, .int .i64 0, .int .i64 0] Zx rfl Zbj rfl rfl rfl rfl ?_
 refine WL.store hS5 0 _ _ _ 0 _ [.slice none 0 0, .int .i64 0, .int .i64 0, .int .i64 0, .int .i64 0] [.slice none 0 0, .int .i64 0, .int .i64 0, .int .i64 0, .int .i64 0] _ rfl rfl Zx rfl (Nat.le_of_ble_eq_true rfl) rfl rfl rfl rfl rfl rfl (fun w17 hS17=>?_)
 exact Xj [.agg #[.slice none 0 0, .int .i64 0, .int .i64 0, .int .i64 0, .int .i64 0], .bool false] hS17 ⟨_,_,_,rfl,rfl,hS17.loadA 0 _ _ _ 0 [.slice none 0 0, .int .i64 0, .int .i64 0, .int .i64 0, .int .i64 0] rfl rfl rfl Zx rfl,⟨_,rfl,rfl⟩⟩ ⟨_,_,rfl,(Is.cast ⟨_,rfl,(ZM (HRow.mk [] (Rect.mk (Span.mk 0 0) (Span.mk 0 0))) (Sl.nil ValE 32 G4) ZN ZN ZN ZN)⟩ (by exact (ZdO (ZaY (by first | exact .inl ‹_› | exact .inr (.inl ‹_›) | exact .inr (.inr ‹_›)))).1)),(congrArg Value.bool (by exact (ZdO (ZaY (by first | exact .inl ‹_› | exact .inr (.inl ‹_›) | exact .inr (.inr ‹_›)))).2))⟩
theorem Zs7 {G : GH} {w : World} (hG : G.In w) (t o : Table) (f : Foreign) (tx : Int) (ct : List Value) (hct : TableE.rep G t ct) (cu : List Value) (hcu : TableE.rep G o cu) (cf : List Value) (hcf : ForeignE.rep G f cf) : CL Tryz.prog (nat_lit 31) #[.agg ct.toArray, .agg cu.toArray, .agg cf.toArray, .int .i64 tx] [] w G fun G' _ r=>Sl Qf 40 G' r (ZW t o f tx):=by
 refine Zg ft [] Tryz.func31 rfl rfl ?_
 have hS:=St.start (X:=[]) hG
 obtain ⟨v1,v2,v3,rfl,hb1,hs1,hb2,hs2,hs3,hb3⟩:=Z0 hct
 obtain ⟨v4,v5,v6,rfl,hb4,hs4,hb5,hs5,hs6,hb6⟩:=Z0 hcu
 obtain ⟨v7,rfl,hs7,hb7⟩:=Y1 hcf
 refine Zu [Zd t.s.name,v1, .int .i64 t.s.key,v2,v3, .int .i64 t.last] _ hS rfl rfl rfl (fun p1 w1 G1 hle1 hsp1 hc1 hS1=>?_)
 refine Zu [Zd o.s.name,v4, .int .i64 o.s.key,v5,v6, .int .i64 o.last] _ hS1 rfl rfl rfl (fun p2 w2 G2 hle2 hsp2 hc2 hS2=>?_)
 refine Zu [v7,Zd f.table] _ hS2 rfl rfl rfl (fun p3 w3 G3 hle3 hsp3 hc3 hS3=>?_)
 refine Zc hS3 (hc1.mono (hle2.trans hle3)) [Zd t.s.name,v1, .int .i64 t.s.key,v2,v3, .int .i64 t.last] Zp rfl rfl rfl rfl rfl ?_
 refine Zj hS3 QN rfl rfl rfl (XS hS3.imm t _ (Zl t hb1 (hs1.mono ((hle1.trans hle2).trans hle3)) hb2 (hs2.mono ((hle1.trans hle2).trans hle3)) (hs3.mono ((hle1.trans hle2).trans hle3)) hb3)) (fun w4 G4 hS4 hle4=>?_)
 refine WL.split (fun (h1 : (Zm t) = true)=>?_) (fun (h1 : (Zm t) = false)=>?_)
 ·refine Zc hS4 (hc2.mono (hle3.trans hle4)) [Zd o.s.name,v4, .int .i64 o.s.key,v5,v6, .int .i64 o.last] Zp rfl rfl rfl rfl rfl ?_
  refine Zj hS4 QN rfl rfl rfl (XS hS4.imm o _ (Zl o hb4 (hs4.mono (((hle1.trans hle2).trans hle3).trans hle4)) hb5 (hs5.mono (((hle1.trans hle2).trans hle3).trans hle4)) (hs6.mono (((hle1.trans hle2).trans hle3).trans hle4)) hb6)) (fun w5 G5 hS5 hle5=>?_)
  refine WL.split (fun (h2 : (Zm o) = true)=>?_) (fun (h2 : (Zm o) = false)=>?_)
  ·refine Zc hS5 (Xl.drop 0 (hc1.mono (((hle2.trans hle3).trans hle4).trans hle5))) [Zd t.s.name,v1, .int .i64 t.s.key,v2] Xg rfl rfl rfl rfl rfl <| Zc hS5 (Xl.drop 0 (hc2.mono ((hle3.trans hle4).trans hle5))) [Zd o.s.name,v4, .int .i64 o.s.key,v5] Xg rfl rfl rfl rfl rfl <| Zc hS5 (hc3.mono (hle4.trans hle5)) [v7,Zd f.table] XZ rfl rfl rfl rfl rfl ?_
   refine Zj hS5 ZrB rfl rfl rfl (ZnO hS5.imm t.s o.s f _ (ZL t.s hb1 (hs1.mono ((((hle1.trans hle2).trans hle3).trans hle4).trans hle5)) hb2 (hs2.mono ((((hle1.trans hle2).trans hle3).trans hle4).trans hle5))) _ (ZL o.s hb4 (hs4.mono ((((hle1.trans hle2).trans hle3).trans hle4).trans hle5)) hb5 (hs5.mono ((((hle1.trans hle2).trans hle3).trans hle4).trans hle5))) _ (Xc f (hs7.mono ((((hle1.trans hle2).trans hle3).trans hle4).trans hle5)) hb7) (Y3 (by assumption : Zm t = true)).1 (Y3 (by assumption : Zm o = true)).1) (fun w6 G6 hS6 hle6=>?_)
   refine WL.split (fun (h3 : (YP t.s o.s f) = true)=>?_) (fun (h3 : (YP t.s o.s f) = false)=>?_)
   ·refine Zq tx (-62135596800) rfl rfl rfl (fun h4=>?_) (fun h4=>?_)
    ·exact RT hS6 rfl (Sl.cast (Sl.nil Qf 40 G6) (by with_reducible exact ZeI (.inr (ZkG (by first | exact .inl ‹_› | exact .inr ‹_›)))))
    refine XJ tx 253402300800 rfl rfl rfl (fun h5=>?_) (fun h5=>?_)
    ·exact RT hS6 rfl (Sl.cast (Sl.nil Qf 40 G6) (by with_reducible exact ZeI (.inr (ZkG (by first | exact .inl ‹_› | exact .inr ‹_›)))))
    have hcov : Qq t o f = true:=(Zbw ‹_› ‹_› ‹_›)
    have hins : ZB tx = true:=Zpu ‹_› ‹_›
    have hal9:=Znb (by assumption : Zm t = true) tx
    have hol9:=(ZE (by assumption : Zm o = true)).2.1
    have hlk : LinkOk (Link.mk t o f):=(Zbv ‹_› ‹_› ‹_›)
    refine Zc hS6 (hc1.mono ((((hle2.trans hle3).trans hle4).trans hle5).trans hle6)) [Zd t.s.name,v1, .int .i64 t.s.key,v2,v3, .int .i64 t.last] Zp rfl rfl rfl rfl rfl ?_
    refine Z3 hS6 Zr4 rfl rfl rfl (ZpW hS6.imm t tx _ (Zl t hb1 (hs1.mono (((((hle1.trans hle2).trans hle3).trans hle4).trans hle5).trans hle6)) hb2 (hs2.mono (((((hle1.trans hle2).trans hle3).trans hle4).trans hle5).trans hle6)) (hs3.mono (((((hle1.trans hle2).trans hle3).trans hle4).trans hle5).trans hle6)) hb3)) (fun w7 G7 r1 hpost1 hS7 hle7=>?_)
    have bd1:=hpost1.bound
    refine Zi hpost1 Zcl rfl rfl ?_
    have hS9:=hS7.pad
    refine LP.go ft [] (fun m ρ1 w1=>∃ (k1 : Nat),∃ (v9 : Value) (o1 : OB),∃ (G9 : GH),m = (X1 t tx).length - k1 ∧ G7.le G9 ∧ St w [] G G9 [o1] w1 ∧ ZS Qf 40 73 G9 v9 (Qp (XY t.s f.cols) o.rows tx ((X1 t tx).take k1)) o1 ∧ FR ρ1 [(3, .int .i64 tx),(4, .pointer (some p1)),(5, .pointer (some p2)),(6, .pointer (some p3)),(9,v9),(41,r1),(42, .int .i64 (((X1 t tx).length : Nat) : Int)),(43, .int .i64 (k1 : Int))] ∧ k1 ≤ (X1 t tx).length) _ ⟨0,(.slice none 0 0),none,G7,rfl,(G7.le_refl),hS9,(ZS.cast (ZS.nil Qf 40 73 G7) (by rfl)),⟨rfl,rfl,rfl,rfl,rfl,rfl,rfl,rfl,trivial⟩,(by omega)⟩ ?_
    rintro m ρ1 w9 ⟨k1,v9,o1,G9,rfl,hle9,hS8,hr1,hF9,f1⟩
    refine hF9.set ?_
    clear hF9
    have hgp9:=ZdX (M:=XY t.s f.cols) (tx:=tx) hol9 hal9 k1
    refine Zq (k1 : Int) (((X1 t tx).length : Nat) : Int) rfl rfl rfl (fun h6=>?_) (fun h6=>?_)
    ·refine WL.indexAddr (hpost1.mono hle9) k1 (by omega) Zcl QY rfl rfl rfl rfl (fun p4 x1 hx1 he1=>?_)
     obtain ⟨cs1,hc4,hr2⟩:=he1
     obtain ⟨v10,rfl,hs8,hb8,hb9⟩:=ZaE hr2
     refine Zc hS8 hc4 [v10, .int .i64 x1.t.a, .int .i64 x1.t.b] QY rfl rfl rfl rfl rfl ?_
     refine WL.alloc hS8 QY rfl rfl (fun b1 w10 hn1 hS10=>?_)
     refine WL.store hS10 0 _ _ _ 0 _ [v10, .int .i64 x1.t.a, .int .i64 x1.t.b] [v10, .int .i64 x1.t.a, .int .i64 x1.t.b] _ rfl rfl QY rfl (Nat.le_of_ble_eq_true rfl) (by simp only [List.all_cons,List.all_nil,hs8.oneC,Bool.true_and] <;> rfl) rfl rfl rfl rfl rfl (fun w11 hS11=>?_)
     obtain ⟨G10,hle10,hc5,hS12⟩:=hS11.shutB hn1
     have har:=Zs0 (by assumption : Zm t = true) (List.mem_of_getElem? hx1)
     have hll9 : (Yk (lM (Link.mk t o f)) (Link.mk t o f).o.rows x1.v x1.t tx).length ≤ 5000:=ZhW (M:=XY t.s f.cols) (tx:=tx) (v:=x1.v) (d:=x1.t) hol9
     have hrl9 : t.s.cols.length ≤ x1.v.length:=by obtain ⟨r,hr,er⟩:=har.1; rw [← er]; exact hlk.len hr
     refine Zc hS12 (hc1.mono (((((((hle2.trans hle3).trans hle4).trans hle5).trans hle6).trans hle7).trans hle9).trans hle10)) [Zd t.s.name,v1, .int .i64 t.s.key,v2,v3, .int .i64 t.last] Zp rfl rfl rfl rfl rfl <| Zc hS12 (hc2.mono ((((((hle3.trans hle4).trans hle5).trans hle6).trans hle7).trans hle9).trans hle10)) [Zd o.s.name,v4, .int .i64 o.s.key,v5,v6, .int .i64 o.last] Zp rfl rfl rfl rfl rfl <| Zc hS12 (hc3.mono (((((hle4.trans hle5).trans hle6).trans hle7).trans hle9).trans hle10)) [v7,Zd f.table] XZ rfl rfl rfl rfl rfl <| WL.build _ [(0,[Zd t.s.name,v1, .int .i64 t.s.key,v2,v3, .int .i64 t.last]),(1,[Zd o.s.name,v4, .int .i64 o.s.key,v5,v6, .int .i64 o.last]),(2,[v7,Zd f.table])] [Zd t.s.name,v1, .int .i64 t.s.key,v2,v3, .int .i64 t.last,Zd o.s.name,v4, .int .i64 o.s.key,v5,v6, .int .i64 o.last,v7,Zd f.table] Zgh rfl Zp2 rfl rfl rfl rfl <| Zb hS12 (Xl.drop 0 hc5) ZG rfl rfl rfl <| Zc hS12 (Xl.drop 1 hc5) [.int .i64 x1.t.a, .int .i64 x1.t.b] Zt rfl rfl rfl rfl rfl ?_
     refine Z3 hS12 ZrC rfl rfl rfl (ZnL hS12.imm (Link.mk t o f) x1.v x1.t tx _ (Zcz (Link.mk t o f) hb1 (hs1.mono ((((((((hle1.trans hle2).trans hle3).trans hle4).trans hle5).trans hle6).trans hle7).trans hle9).trans hle10)) hb2 (hs2.mono ((((((((hle1.trans hle2).trans hle3).trans hle4).trans hle5).trans hle6).trans hle7).trans hle9).trans hle10)) (hs3.mono ((((((((hle1.trans hle2).trans hle3).trans hle4).trans hle5).trans hle6).trans hle7).trans hle9).trans hle10)) hb3 hb4 (hs4.mono ((((((((hle1.trans hle2).trans hle3).trans hle4).trans hle5).trans hle6).trans hle7).trans hle9).trans hle10)) hb5 (hs5.mono ((((((((hle1.trans hle2).trans hle3).trans hle4).trans hle5).trans hle6).trans hle7).trans hle9).trans hle10)) (hs6.mono ((((((((hle1.trans hle2).trans hle3).trans hle4).trans hle5).trans hle6).trans hle7).trans hle9).trans hle10)) hb6 (hs7.mono ((((((((hle1.trans hle2).trans hle3).trans hle4).trans hle5).trans hle6).trans hle7).trans hle9).trans hle10)) hb7) _ (hs8.mono hle10) _ (Zs x1.t hb8 hb9) hlk hrl9 har.2) (fun w12 G11 r2 hpost2 hS13 hle11=>?_)
     have bd2:=hpost2.bound
     refine Zi hpost2 Yx rfl rfl ?_
     refine LP.go ft [] (fun m ρ1 w1=>∃ (k2 : Nat),∃ (v11 : Value) (o2 : OB),∃ (G12 : GH),m = (Yk (lM (Link.mk t o f)) (Link.mk t o f).o.rows x1.v x1.t tx).length - k2 ∧ G11.le G12 ∧ St w [] G G12 [o2] w1 ∧ ZS Qf 40 73 G12 v11 (Qp (XY t.s f.cols) o.rows tx ((X1 t tx).take k1) ++ ((Yk (lM (Link.mk t o f)) (Link.mk t o f).o.rows x1.v x1.t tx).take k2).map (Fact.mk x1.v)) o2 ∧ FR ρ1 [(3, .int .i64 tx),(4, .pointer (some p1)),(5, .pointer (some p2)),(6, .pointer (some p3)),(9,v11),(11, .pointer (some (⟨b1,0,none⟩ : Addr))),(41,r1),(42, .int .i64 (((X1 t tx).length : Nat) : Int)),(43, .int .i64 (k1 : Int)),(56,r2),(57, .int .i64 (((Yk (lM (Link.mk t o f)) (Link.mk t o f).o.rows x1.v x1.t tx).length : Nat) : Int)),(58, .int .i64 (k2 : Int))] ∧ k2 ≤ (Yk (lM (Link.mk t o f)) (Link.mk t o f).o.rows x1.v x1.t tx).length) _ ⟨0,v9,o1,G11,rfl,(G11.le_refl),hS13,(ZS.cast (hr1.mono (hle10.trans hle11)) (by simp)),⟨rfl,rfl,rfl,rfl,rfl,rfl,rfl,rfl,rfl,rfl,rfl,rfl,trivial⟩,(by omega)⟩ ?_
     rintro m ρ1 w13 ⟨k2,v11,o2,G12,rfl,hle12,hS14,hr3,hF9,f2⟩
     refine hF9.set ?_
     clear hF9
     have htl9:=List.length_take_le' k2 (Yk (lM (Link.mk t o f)) (Link.mk t o f).o.rows x1.v x1.t tx)
     refine Zq (k2 : Int) (((Yk (lM (Link.mk t o f)) (Link.mk t o f).o.rows x1.v x1.t tx).length : Nat) : Int) rfl rfl rfl (fun h7=>?_) (fun h7=>?_)
     ·refine WL.indexAddr (hpost2.mono hle12) k2 (by omega) Yx Zt rfl rfl rfl rfl (fun p5 x2 hx2 he2=>?_)
      obtain ⟨cs2,hc6,hr4⟩:=he2
      obtain ⟨rfl,hb10,Yq⟩:=ZF hr4
      refine Zc hS14 hc6 [.int .i64 x2.a, .int .i64 x2.b] Zt rfl rfl rfl rfl rfl ?_
      refine WL.alloc hS14 Zt rfl rfl (fun b2 w14 hn2 hS15=>?_)
      refine WL.store hS15 0 _ _ _ 0 _ [.int .i64 x2.a, .int .i64 x2.b] [.int .i64 x2.a, .int .i64 x2.b] _ rfl rfl Zt rfl (Nat.le_of_ble_eq_true rfl) rfl rfl rfl rfl rfl rfl (fun w15 hS16=>?_)
      obtain ⟨G13,hle13,hc7,hS17⟩:=hS16.shutB hn2
      refine dr [(3,true),(5,false),(6,false),(7,false),(8,false)] [(64,v10),(66, .agg #[.int .i64 x2.a, .int .i64 x2.b])] hS17 ⟨fun _ hSw=>Zb hSw (Xl.drop 0 (hc5.mono ((hle11.trans hle12).trans hle13))) ZG rfl rfl rfl <| nu rfl rfl,fun _ hSw=>Zc hSw hc7 [.int .i64 x2.a, .int .i64 x2.b] Zt rfl rfl rfl rfl rfl <| nu rfl rfl,trivial⟩ (fun w16 hS18=>?_)
      refine Z3 hS18 ZcP rfl rfl rfl (XI hS18.imm x1.v _ (hs8.mono (((hle10.trans hle11).trans hle12).trans hle13))) (fun w17 G14 r3 hpost3 hS19 hle14=>?_)
      refine ⟨hS19.down hS18.le hle14,?_⟩
      refine WL.build _ [(0,[r3]),(1,[.int .i64 x2.a, .int .i64 x2.b])] [r3, .int .i64 x2.a, .int .i64 x2.b] QY rfl Zrx rfl rfl (by show [(0,(r3 : Value).cells.toList),(1,(.agg #[.int .i64 x2.a, .int .i64 x2.b] : Value).cells.toList)] = _; simp only [hpost3.cells1] <;> rfl) rfl ?_
      refine WL.buildSlice _ [(0,[r3, .int .i64 x2.a, .int .i64 x2.b])] [r3, .int .i64 x2.a, .int .i64 x2.b] hS19 Zle rfl rfl rfl rfl (fun z hz=>by match z,hz with | [z0,z1,z2],_=>rfl) (fun b3 w18 hn3 hS20=>?_)
      refine WL.push (m:=([(Fact.mk x1.v x2)] : List Fact)) Zle rfl rfl rfl (hr3.mono (hle13.trans hle14)) hS20 1 rfl 0 _ _ _ _ _ rfl ⟨[r3, .int .i64 x2.a, .int .i64 x2.b],_,rfl,(ZiB (Fact.mk x1.v x2) hpost3 hb10 Yq),rfl⟩ rfl (by have hreach : reach = 140737488355328:=rfl; simp only [List.length_append,List.length_map,List.length_take,List.length_cons,List.length_nil]; omega) (by have hreach : reach = 140737488355328:=rfl; simp only [List.length_append,List.length_map,List.length_take,List.length_cons,List.length_nil]; omega) rfl rfl rfl (fun v12 o3 w19 hr5 hS21=>?_)
      have hS22:=hS21.tail
      refine Zk k2 (by have hreach : reach = 140737488355328:=rfl; omega) rfl rfl rfl ?_
      exact BK.mk' _ ⟨k2 + 1,v12,o3,G14,rfl,(hle12.trans (hle13.trans hle14)),hS22,(ZS.cast hr5 (by (rw [ZhD ‹_›,List.append_assoc]))),⟨rfl,rfl,rfl,rfl,rfl,rfl,rfl,rfl,rfl,rfl,rfl,rfl,trivial⟩,(by omega)⟩ (show (Yk (lM (Link.mk t o f)) (Link.mk t o f).o.rows x1.v x1.t tx).length - (k2 + 1) < (Yk (lM (Link.mk t o f)) (Link.mk t o f).o.rows x1.v x1.t tx).length - k2 by omega)
     refine Zk k1 (by have hreach : reach = 140737488355328:=rfl; omega) rfl rfl rfl ?_
     exact BK.mk' _ ⟨k1 + 1,v11,o2,G12,rfl,(hle9.trans ((hle10.trans hle11).trans hle12)),hS14,(ZS.cast hr3 (by (rw [ZlU ‹_›,Zjw (by omega)]))),⟨rfl,rfl,rfl,rfl,rfl,rfl,rfl,rfl,trivial⟩,(by omega)⟩ (show (X1 t tx).length - (k1 + 1) < (X1 t tx).length - k1 by omega)
    obtain ⟨G15,hle15,hs9,hS23⟩:=ZS.freeze hr1 hS8 0 rfl
    exact RT hS23 rfl (Sl.cast hs9 (by with_reducible exact Zsz hcov hins (by omega)))
   exact RT hS6 rfl (Sl.cast (Sl.nil Qf 40 G6) (by with_reducible exact ZeI (.inl (ZaY (by first | exact .inl ‹_› | exact .inr (.inl ‹_›) | exact .inr (.inr ‹_›))))))
  exact RT hS5 rfl (Sl.cast (Sl.nil Qf 40 G5) (by with_reducible exact ZeI (.inl (ZaY (by first | exact .inl ‹_› | exact .inr (.inl ‹_›) | exact .inr (.inr ‹_›))))))
 exact RT hS4 rfl (Sl.cast (Sl.nil Qf 40 G4) (by with_reducible exact ZeI (.inl (ZaY (by first | exact .inl ‹_› | exact .inr (.inl ‹_›) | exact .inr (.inr ‹_›))))))
end Go.Civ
