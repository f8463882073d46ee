/- Lemmas. -/
import Derived.Test.YthgeclodflmiaaaGreatM28
import Derived.Test.YthgeclodflmiaaaGreatM33
import Derived.Test.YthgeclodflmiaaaGreatM40
import Derived.Test.YthgeclodflmiaaaGreatProg
import Derived.KernelRfl
import Derived.WalkKit
set_option linter.unusedVariables false
set_option linter.unusedSimpArgs false
set_option maxRecDepth 100000
set_option maxHeartbeats 4000000
namespace Go.Civ
open Go.Proofs
theorem ZoS {G : GH} {w : World} (hG : G.In w) (t o : Table) (f : Foreign) (ct : List Value) (hct : TableE.rep G t ct) (cu : List Value) (hcu : TableE.rep G o cu) (cf : List Value) (hcf : ForeignE.rep G f cf) : CL Tryz.prog (nat_lit 27) #[.agg ct.toArray, .agg cu.toArray, .agg cf.toArray] [] w G fun G' _ r=>∃ r0 r1,r = .tuple #[r0,r1] ∧ Is HRowE G' r0 (Y1 t o f) ∧ r1 = .bool (QK t o f):=by
 refine Y9 ft [] Tryz.func27 rfl rfl ?_
 have hS:=St.start (X:=[]) hG
 obtain ⟨v1,v2,v3,rfl,hb1,hs1,hb2,hs2,hs3,hb3⟩:=Z1 hct
 obtain ⟨v4,v5,v6,rfl,hb4,hs4,hb5,hs5,hs6,hb6⟩:=Z1 hcu
 obtain ⟨v7,rfl,hs7,hb7⟩:=Y6 hcf
 refine Zu [Zd t.s.name,v1, .int .i64 t.s.key,v2,v3, .int .i64 t.last] _ hS rfl rfl rfl (fun p1 w1 G1 hle1 hsp1 hc1 hS1=>?_)
 refine Zu [Zd o.s.name,v4, .int .i64 o.s.key,v5,v6, .int .i64 o.last] _ hS1 rfl rfl rfl (fun p2 w2 G2 hle2 hsp2 hc2 hS2=>?_)
 refine Zu [v7,Zd f.table] _ hS2 rfl rfl rfl (fun p3 w3 G3 hle3 hsp3 hc3 hS3=>?_)
 refine WL.alloc hS3 Zr rfl rfl (fun b1 w4 hn1 hS4=>?_)
 refine Zc hS4 (hc1.mono (hle2.trans hle3)) [Zd t.s.name,v1, .int .i64 t.s.key,v2,v3, .int .i64 t.last] Zv rfl rfl rfl rfl rfl ?_
 refine Zm hS4 Xm rfl rfl rfl (Q8 hS4.imm t _ (Zq t hb1 (hs1.mono ((hle1.trans hle2).trans hle3)) hb2 (hs2.mono ((hle1.trans hle2).trans hle3)) (hs3.mono ((hle1.trans hle2).trans hle3)) hb3)) (fun w5 G4 hS5 hle4=>?_)
 refine WL.split (fun (h1 : (Zo t) = true)=>?_) (fun (h1 : (Zo t) = false)=>?_)
 ·refine Zc hS5 (hc2.mono (hle3.trans hle4)) [Zd o.s.name,v4, .int .i64 o.s.key,v5,v6, .int .i64 o.last] Zv rfl rfl rfl rfl rfl ?_
  refine Zm hS5 Xm rfl rfl rfl (Q8 hS5.imm o _ (Zq o hb4 (hs4.mono (((hle1.trans hle2).trans hle3).trans hle4)) hb5 (hs5.mono (((hle1.trans hle2).trans hle3).trans hle4)) (hs6.mono (((hle1.trans hle2).trans hle3).trans hle4)) hb6)) (fun w6 G5 hS6 hle5=>?_)
  refine WL.split (fun (h2 : (Zo o) = true)=>?_) (fun (h2 : (Zo o) = false)=>?_)
  ·refine Zc hS6 (XV.drop 0 (hc1.mono (((hle2.trans hle3).trans hle4).trans hle5))) [Zd t.s.name,v1, .int .i64 t.s.key,v2] XG rfl rfl rfl rfl rfl <| Zc hS6 (XV.drop 0 (hc2.mono ((hle3.trans hle4).trans hle5))) [Zd o.s.name,v4, .int .i64 o.s.key,v5] XG rfl rfl rfl rfl rfl <| Zc hS6 (hc3.mono (hle4.trans hle5)) [v7,Zd f.table] Qr rfl rfl rfl rfl rfl ?_
   refine Zm hS6 Ztg rfl rfl rfl (ZoR hS6.imm t.s o.s f _ (Yb t.s hb1 (hs1.mono ((((hle1.trans hle2).trans hle3).trans hle4).trans hle5)) hb2 (hs2.mono ((((hle1.trans hle2).trans hle3).trans hle4).trans hle5))) _ (Yb o.s hb4 (hs4.mono ((((hle1.trans hle2).trans hle3).trans hle4).trans hle5)) hb5 (hs5.mono ((((hle1.trans hle2).trans hle3).trans hle4).trans hle5))) _ (Xw f (hs7.mono ((((hle1.trans hle2).trans hle3).trans hle4).trans hle5)) hb7) (Yz (by assumption : Zo t = true)).1 (Yz (by assumption : Zo o = true)).1) (fun w7 G6 hS7 hle6=>?_)
   refine WL.split (fun (h3 : (Xd t.s o.s f) = true)=>?_) (fun (h3 : (Xd t.s o.s f) = false)=>?_)
   ·refine Zc hS7 (hc1.mono ((((hle2.trans hle3).trans hle4).trans hle5).trans hle6)) [Zd t.s.name,v1, .int .i64 t.s.key,v2,v3, .int .i64 t.last] Zv rfl rfl rfl rfl rfl <| Zc hS7 (hc2.mono (((hle3.trans hle4).trans hle5).trans hle6)) [Zd o.s.name,v4, .int .i64 o.s.key,v5,v6, .int .i64 o.last] Zv rfl rfl rfl rfl rfl <| Zc hS7 (hc3.mono ((hle4.trans hle5).trans hle6)) [v7,Zd f.table] Qr rfl rfl rfl rfl rfl <| WL.build _ [(0,[Zd t.s.name,v1, .int .i64 t.s.key,v2,v3, .int .i64 t.last]),(1,[Zd o.s.name,v4, .int .i64 o.s.key,v5,v6, .int .i64 o.last]),(2,[v7,Zd f.table])] [Zd t.s.name,v1, .int .i64 t.s.key,v2,v3, .int .i64 t.last,Zd o.s.name,v4, .int .i64 o.s.key,v5,v6, .int .i64 o.last,v7,Zd f.table] ZgC rfl ZqP rfl rfl rfl rfl ?_
    refine Z3 hS7 ZvD rfl rfl rfl (Zvn hS7.imm (Link.mk t o f) (-62135596800) _ (ZcJ (Link.mk t o f) hb1 (hs1.mono (((((hle1.trans hle2).trans hle3).trans hle4).trans hle5).trans hle6)) hb2 (hs2.mono (((((hle1.trans hle2).trans hle3).trans hle4).trans hle5).trans hle6)) (hs3.mono (((((hle1.trans hle2).trans hle3).trans hle4).trans hle5).trans hle6)) hb3 hb4 (hs4.mono (((((hle1.trans hle2).trans hle3).trans hle4).trans hle5).trans hle6)) hb5 (hs5.mono (((((hle1.trans hle2).trans hle3).trans hle4).trans hle5).trans hle6)) (hs6.mono (((((hle1.trans hle2).trans hle3).trans hle4).trans hle5).trans hle6)) hb6 (hs7.mono (((((hle1.trans hle2).trans hle3).trans hle4).trans hle5).trans hle6)) hb7) (show Zz (-62135596800) from by constructor <;> decide) (Zbi ‹_› ‹_› ‹_›)) ?_
    rintro w9 G7 _ ⟨r2,_,rfl,hs8,rfl⟩ hS8 hle7
    obtain ⟨cs1,rfl,hr1⟩:=hs8
    obtain ⟨v9,rfl,hb8,hb9,hs9⟩:=Qm hr1
    refine WL.alloc hS8 ZU rfl rfl (fun b2 w10 hn2 hS9=>?_)
    refine WL.store hS9 0 _ _ _ 0 _ [.int .i64 ((ZK (YF (Link.mk t o f) (-62135596800))).tx), .int .i64 ((ZK (YF (Link.mk t o f) (-62135596800))).vd),v9] [.int .i64 ((ZK (YF (Link.mk t o f) (-62135596800))).tx), .int .i64 ((ZK (YF (Link.mk t o f) (-62135596800))).vd),v9] _ rfl rfl ZU rfl (Nat.le_of_ble_eq_true rfl) (by simp only [List.all_cons,List.all_nil,hs9.oneC,Bool.true_and] <;> rfl) rfl rfl rfl rfl rfl (fun w11 hS10=>?_)
    obtain ⟨G9,hle9,hc4,hS11⟩:=hS10.shutB hn2
    refine XD (d:=35) rfl (fun (h4 : ((YF (Link.mk t o f) (-62135596800)).isSome) = true)=>?_) (fun (h4 : ((YF (Link.mk t o f) (-62135596800)).isSome) = false)=>?_)
    ·refine Zc hS11 hc4 [.int .i64 ((ZK (YF (Link.mk t o f) (-62135596800))).tx), .int .i64 ((ZK (YF (Link.mk t o f) (-62135596800))).vd),v9] ZU rfl rfl rfl rfl rfl ?_
     refine Z3 hS11 ZsZ rfl rfl rfl (Zl0 hS11.imm (ZK (YF (Link.mk t o f) (-62135596800))) _ (X7 (ZK (YF (Link.mk t o f) (-62135596800))) hb8 hb9 (hs9.mono hle9)) (ZkE (Zbi ‹_› ‹_› ‹_›) (by decide) ‹_›).1 (ZkE (Zbi ‹_› ‹_› ‹_›) (by decide) ‹_›).2) (fun w12 G10 r4 hpost2 hS12 hle10=>?_)
     obtain ⟨cs2,rfl,hr2⟩:=hpost2
     obtain ⟨v10,rfl,hs10,hb10,Y4,Xf,YT⟩:=Z0 hr2
     refine WL.store hS12 0 _ _ _ 0 _ [v10, .int .i64 ((ZJ (some (ZK (YF (Link.mk t o f) (-62135596800))))).r.d.a), .int .i64 ((ZJ (some (ZK (YF (Link.mk t o f) (-62135596800))))).r.d.b), .int .i64 ((ZJ (some (ZK (YF (Link.mk t o f) (-62135596800))))).r.x.a), .int .i64 ((ZJ (some (ZK (YF (Link.mk t o f) (-62135596800))))).r.x.b)] [v10, .int .i64 ((ZJ (some (ZK (YF (Link.mk t o f) (-62135596800))))).r.d.a), .int .i64 ((ZJ (some (ZK (YF (Link.mk t o f) (-62135596800))))).r.d.b), .int .i64 ((ZJ (some (ZK (YF (Link.mk t o f) (-62135596800))))).r.x.a), .int .i64 ((ZJ (some (ZK (YF (Link.mk t o f) (-62135596800))))).r.x.b)] _ rfl rfl Zr rfl (Nat.le_of_ble_eq_true rfl) (by simp only [List.all_cons,List.all_nil,hs10.oneC,Bool.true_and] <;> rfl) rfl rfl rfl rfl rfl (fun w13 hS13=>?_)
     exact Xr [.agg #[v10, .int .i64 ((ZJ (some (ZK (YF (Link.mk t o f) (-62135596800))))).r.d.a), .int .i64 ((ZJ (some (ZK (YF (Link.mk t o f) (-62135596800))))).r.d.b), .int .i64 ((ZJ (some (ZK (YF (Link.mk t o f) (-62135596800))))).r.x.a), .int .i64 ((ZJ (some (ZK (YF (Link.mk t o f) (-62135596800))))).r.x.b)], .bool false] hS13 ⟨_,_,_,rfl,rfl,hS13.loadA 0 _ _ _ 0 [v10, .int .i64 ((ZJ (some (ZK (YF (Link.mk t o f) (-62135596800))))).r.d.a), .int .i64 ((ZJ (some (ZK (YF (Link.mk t o f) (-62135596800))))).r.d.b), .int .i64 ((ZJ (some (ZK (YF (Link.mk t o f) (-62135596800))))).r.x.a), .int .i64 ((ZJ (some (ZK (YF (Link.mk t o f) (-62135596800))))).r.x.b)] rfl rfl rfl Zr rfl,⟨_,rfl,rfl⟩⟩ ⟨_,_,rfl,(Is.cast ⟨_,rfl,(ZH (ZJ (some (ZK (YF (Link.mk t o f) (-62135596800))))) hs10 hb10 Y4 Xf YT)⟩ (by exact (Zr5 (ZbI ‹_› ‹_› ‹_›) ‹_›).1)),(congrArg Value.bool (by exact (Zr5 (ZbI ‹_› ‹_› ‹_›) ‹_›).2))⟩
    refine WL.build _ [] [.slice none 0 0, .int .i64 0, .int .i64 0, .int .i64 0, .int .i64 0] Zr rfl QR rfl rfl rfl rfl ?_
    refine WL.store hS11 0 _ _ _ 0 _ [.slice none 0 0, .int .i64 0, .int .i64 0, .int .i64 0, .int .i64 0] [.slice none 0 0, .int .i64 0, .int .i64 0, .int .i64 0, .int .i64 0] _ rfl rfl Zr rfl (Nat.le_of_ble_eq_true rfl) rfl rfl rfl rfl rfl rfl (fun w14 hS14=>?_)
    exact Xr [.agg #[.slice none 0 0, .int .i64 0, .int .i64 0, .int .i64 0, .int .i64 0], .bool true] hS14 ⟨_,_,_,rfl,rfl,hS14.loadA 0 _ _ _ 0 [.slice none 0 0, .int .i64 0, .int .i64 0, .int .i64 0, .int .i64 0] rfl rfl rfl Zr rfl,⟨_,rfl,rfl⟩⟩ ⟨_,_,rfl,(Is.cast ⟨_,rfl,(ZH (HRow.mk [] (Rect.mk (Span.mk 0 0) (Span.mk 0 0))) (Sl.nil ValE 32 G9) ZO ZO ZO ZO)⟩ (by exact (Zr6 (ZbI ‹_› ‹_› ‹_›) ‹_›).1)),(congrArg Value.bool (by exact (Zr6 (ZbI ‹_› ‹_› ‹_›) ‹_›).2))⟩
   refine WL.build _ [] [.slice none 0 0, .int .i64 0, .int .i64 0, .int .i64 0, .int .i64 0] Zr rfl QR rfl rfl rfl rfl ?_
   refine WL.store hS7 0 _ _ _ 0 _ [.slice none 0 0, .int .i64 0, .int .i64 0, .int .i64 0, .int .i64 0] [.slice none 0 0, .int .i64 0, .int .i64 0, .int .i64 0, .int .i64 0] _ rfl rfl Zr rfl (Nat.le_of_ble_eq_true rfl) rfl rfl rfl rfl rfl rfl (fun w15 hS15=>?_)
   exact Xr [.agg #[.slice none 0 0, .int .i64 0, .int .i64 0, .int .i64 0, .int .i64 0], .bool false] hS15 ⟨_,_,_,rfl,rfl,hS15.loadA 0 _ _ _ 0 [.slice none 0 0, .int .i64 0, .int .i64 0, .int .i64 0, .int .i64 0] rfl rfl rfl Zr rfl,⟨_,rfl,rfl⟩⟩ ⟨_,_,rfl,(Is.cast ⟨_,rfl,(ZH (HRow.mk [] (Rect.mk (Span.mk 0 0) (Span.mk 0 0))) (Sl.nil ValE 32 G6) ZO ZO ZO ZO)⟩ (by exact (Zeu (ZaR (by first | exact .inl ‹_› | exact .inr (.inl ‹_›) | exact .inr (.inr ‹_›)))).1)),(congrArg Value.bool (by exact (Zeu (ZaR (by first | exact .inl ‹_› | exact .inr (.inl ‹_›) | exact .inr (.inr ‹_›)))).2))⟩
  refine WL.build _ [] [.slice none 0 0, .int .i64 0, .int .i64 0, .int .i64 0, .int .i64 0] Zr rfl QR rfl rfl rfl rfl ?_
  refine WL.store hS6 0 _ _ _ 0 _ [.slice none 0 0, .int .i64 0, .int .i64 0, .int .i64 0, .int .i64 0] [.slice none 0 0, .int .i64 0, .int .i64 0, .int .i64 0, .int .i64 0] _ rfl rfl Zr rfl (Nat.le_of_ble_eq_true rfl) rfl rfl rfl rfl rfl rfl (fun w16 hS16=>?_)
  exact Xr [.agg #[.slice none 0 0, .int .i64 0, .int .i64 0, .int .i64 0, .int .i64 0], .bool false] hS16 ⟨_,_,_,rfl,rfl,hS16.loadA 0 _ _ _ 0 [.slice none 0 0, .int .i64 0, .int .i64 0, .int .i64 0, .int .i64 0] rfl rfl rfl Zr rfl,⟨_,rfl,rfl⟩⟩ ⟨_,_,rfl,(Is.cast ⟨_,rfl,(ZH (HRow.mk [] (Rect.mk (Span.mk 0 0) (Span.mk 0 0))) (Sl.nil ValE 32 G5) ZO ZO ZO ZO)⟩ (by exact (Zeu (ZaR (by first | exact .inl ‹_› | exact .inr (.inl ‹_›) | exact .inr (.inr ‹_›)))).1)),(congrArg Value.bool (by exact (Zeu (ZaR (by first | exact .inl ‹_› | exact .inr (.inl ‹_›) | exact .inr (.inr ‹_›)))).2))⟩
 refine WL.build _ [] [.slice none 0 0, .int .i64 0, .int .i64 0, .int .i64 0, .int .i64 0] Zr rfl QR rfl rfl rfl rfl ?_
 refine WL.store hS5 0 _ _ _ 0 _ [.slice none 0 0, .int .i64 0, .int .i64 0, .int .i64 0, .int .i64 0] [.slice none 0 0, .int .i64 0, .int .i64 0, .int .i64 0, .int .i64 0] _ rfl rfl Zr rfl (Nat.le_of_ble_eq_true rfl) rfl rfl rfl rfl rfl rfl (fun w17 hS17=>?_)
 exact Xr [.agg #[.slice none 0 0, .int .i64 0, .int .i64 0, .int .i64 0, .int .i64 0], .bool false] hS17 ⟨_,_,_,rfl,rfl,hS17.loadA 0 _ _ _ 0 [.slice none 0 0, .int .i64 0, .int .i64 0, .int .i64 0, .int .i64 0] rfl rfl rfl Zr rfl,⟨_,rfl,rfl⟩⟩ ⟨_,_,rfl,(Is.cast ⟨_,rfl,(ZH (HRow.mk [] (Rect.mk (Span.mk 0 0) (Span.mk 0 0))) (Sl.nil ValE 32 G4) ZO ZO ZO ZO)⟩ (by exact (Zeu (ZaR (by first | exact .inl ‹_› | exact .inr (.inl ‹_›) | exact .inr (.inr ‹_›)))).1)),(congrArg Value.bool (by exact (Zeu (ZaR (by first | exact .inl ‹_› | exact .inr (.inl ‹_›) | exact .inr (.inr ‹_›)))).2))⟩
theorem Zuf {G : GH} {w : World} (hG : G.In w) (t o : Table) (f : Foreign) (tx : Int) (ct : List Value) (hct : TableE.rep G t ct) (cu : List Value) (hcu : TableE.rep G o cu) (cf : List Value) (hcf : ForeignE.rep G f cf) : CL Tryz.prog (nat_lit 31) #[.agg ct.toArray, .agg cu.toArray, .agg cf.toArray, .int .i64 tx] [] w G fun G' _ r=>Sl Xj 40 G' r (Zam t o f tx):=by
 refine Zg ft [] Tryz.func31 rfl rfl ?_
 have hS:=St.start (X:=[]) hG
 obtain ⟨v1,v2,v3,rfl,hb1,hs1,hb2,hs2,hs3,hb3⟩:=Z1 hct
 obtain ⟨v4,v5,v6,rfl,hb4,hs4,hb5,hs5,hs6,hb6⟩:=Z1 hcu
 obtain ⟨v7,rfl,hs7,hb7⟩:=Y6 hcf
 refine Zu [Zd t.s.name,v1, .int .i64 t.s.key,v2,v3, .int .i64 t.last] _ hS rfl rfl rfl (fun p1 w1 G1 hle1 hsp1 hc1 hS1=>?_)
 refine Zu [Zd o.s.name,v4, .int .i64 o.s.key,v5,v6, .int .i64 o.last] _ hS1 rfl rfl rfl (fun p2 w2 G2 hle2 hsp2 hc2 hS2=>?_)
 refine Zu [v7,Zd f.table] _ hS2 rfl rfl rfl (fun p3 w3 G3 hle3 hsp3 hc3 hS3=>?_)
 refine Zc hS3 (hc1.mono (hle2.trans hle3)) [Zd t.s.name,v1, .int .i64 t.s.key,v2,v3, .int .i64 t.last] Zv rfl rfl rfl rfl rfl ?_
 refine Zm hS3 Xm rfl rfl rfl (Q8 hS3.imm t _ (Zq t hb1 (hs1.mono ((hle1.trans hle2).trans hle3)) hb2 (hs2.mono ((hle1.trans hle2).trans hle3)) (hs3.mono ((hle1.trans hle2).trans hle3)) hb3)) (fun w4 G4 hS4 hle4=>?_)
 refine WL.split (fun (h1 : (Zo t) = true)=>?_) (fun (h1 : (Zo t) = false)=>?_)
 ·refine Zc hS4 (hc2.mono (hle3.trans hle4)) [Zd o.s.name,v4, .int .i64 o.s.key,v5,v6, .int .i64 o.last] Zv rfl rfl rfl rfl rfl ?_
  refine Zm hS4 Xm rfl rfl rfl (Q8 hS4.imm o _ (Zq o hb4 (hs4.mono (((hle1.trans hle2).trans hle3).trans hle4)) hb5 (hs5.mono (((hle1.trans hle2).trans hle3).trans hle4)) (hs6.mono (((hle1.trans hle2).trans hle3).trans hle4)) hb6)) (fun w5 G5 hS5 hle5=>?_)
  refine WL.split (fun (h2 : (Zo o) = true)=>?_) (fun (h2 : (Zo o) = false)=>?_)
  ·refine Zc hS5 (XV.drop 0 (hc1.mono (((hle2.trans hle3).trans hle4).trans hle5))) [Zd t.s.name,v1, .int .i64 t.s.key,v2] XG rfl rfl rfl rfl rfl <| Zc hS5 (XV.drop 0 (hc2.mono ((hle3.trans hle4).trans hle5))) [Zd o.s.name,v4, .int .i64 o.s.key,v5] XG rfl rfl rfl rfl rfl <| Zc hS5 (hc3.mono (hle4.trans hle5)) [v7,Zd f.table] Qr rfl rfl rfl rfl rfl ?_
   refine Zm hS5 Ztg rfl rfl rfl (ZoR hS5.imm t.s o.s f _ (Yb t.s hb1 (hs1.mono ((((hle1.trans hle2).trans hle3).trans hle4).trans hle5)) hb2 (hs2.mono ((((hle1.trans hle2).trans hle3).trans hle4).trans hle5))) _ (Yb o.s hb4 (hs4.mono ((((hle1.trans hle2).trans hle3).trans hle4).trans hle5)) hb5 (hs5.mono ((((hle1.trans hle2).trans hle3).trans hle4).trans hle5))) _ (Xw f (hs7.mono ((((hle1.trans hle2).trans hle3).trans hle4).trans hle5)) hb7) (Yz (by assumption : Zo t = true)).1 (Yz (by assumption : Zo o = true)).1) (fun w6 G6 hS6 hle6=>?_)
   refine WL.split (fun (h3 : (Xd t.s o.s f) = true)=>?_) (fun (h3 : (Xd t.s o.s f) = false)=>?_)
   ·refine Zl tx (-62135596800) rfl rfl rfl (fun h4=>?_) (fun h4=>?_)
    ·exact RT hS6 rfl (Sl.cast (Sl.nil Xj 40 G6) (by with_reducible exact ZcL (.inr (ZlC (by first | exact .inl ‹_› | exact .inr ‹_›)))))
    refine XE tx 253402300800 rfl rfl rfl (fun h5=>?_) (fun h5=>?_)
    ·exact RT hS6 rfl (Sl.cast (Sl.nil Xj 40 G6) (by with_reducible exact ZcL (.inr (ZlC (by first | exact .inl ‹_› | exact .inr ‹_›)))))
    have hcov : ZaD t o f = true:=(ZbI ‹_› ‹_› ‹_›)
    have hins : ZM tx = true:=ZqE ‹_› ‹_›
    have hal9:=ZtL (by assumption : Zo t = true) tx
    have hol9:=(ZD (by assumption : Zo o = true)).2.1
    have hlk : LinkOk (Link.mk t o f):=(Zbi ‹_› ‹_› ‹_›)
    refine Zc hS6 (hc1.mono ((((hle2.trans hle3).trans hle4).trans hle5).trans hle6)) [Zd t.s.name,v1, .int .i64 t.s.key,v2,v3, .int .i64 t.last] Zv rfl rfl rfl rfl rfl ?_
    refine Z3 hS6 ZsW rfl rfl rfl (Zru hS6.imm t tx _ (Zq t hb1 (hs1.mono (((((hle1.trans hle2).trans hle3).trans hle4).trans hle5).trans hle6)) hb2 (hs2.mono (((((hle1.trans hle2).trans hle3).trans hle4).trans hle5).trans hle6)) (hs3.mono (((((hle1.trans hle2).trans hle3).trans hle4).trans hle5).trans hle6)) hb3)) (fun w7 G7 r1 hpost1 hS7 hle7=>?_)
    have bd1:=hpost1.bound
    refine Zi hpost1 YS rfl rfl ?_
    have hS9:=hS7.pad
    refine LP.go ft [] (fun m ρ1 w1=>∃ (k1 : Nat),∃ (v9 : Value) (o1 : OB),∃ (G9 : GH),m = (Qb t tx).length - k1 ∧ G7.le G9 ∧ St w [] G G9 [o1] w1 ∧ ZQ Xj 40 73 G9 v9 (ZaB (mtB t.s f.cols) o.rows tx ((Qb t tx).take k1)) o1 ∧ FR ρ1 [(3, .int .i64 tx),(4, .pointer (some p1)),(5, .pointer (some p2)),(6, .pointer (some p3)),(9,v9),(41,r1),(42, .int .i64 (((Qb t tx).length : Nat) : Int)),(43, .int .i64 (k1 : Int))] ∧ k1 ≤ (Qb t tx).length) _ ⟨0,(.slice none 0 0),none,G7,rfl,(G7.le_refl),hS9,(ZQ.cast (ZQ.nil Xj 40 73 G7) (by rfl)),⟨rfl,rfl,rfl,rfl,rfl,rfl,rfl,rfl,trivial⟩,(by omega)⟩ ?_
    rintro m ρ1 w9 ⟨k1,v9,o1,G9,rfl,hle9,hS8,hr1,hF9,f1⟩
    refine hF9.set ?_
    clear hF9
    have hgp9:=ZiJ (M:=mtB t.s f.cols) (tx:=tx) hol9 hal9 k1
    refine Zl (k1 : Int) (((Qb t tx).length : Nat) : Int) rfl rfl rfl (fun h6=>?_) (fun h6=>?_)
    ·refine WL.indexAddr (hpost1.mono hle9) k1 (by omega) YS Xl rfl rfl rfl rfl (fun p4 x1 hx1 he1=>?_)
     obtain ⟨cs1,hc4,hr2⟩:=he1
     obtain ⟨v10,rfl,hs8,hb8,hb9⟩:=YY hr2
     refine Zc hS8 hc4 [v10, .int .i64 x1.t.a, .int .i64 x1.t.b] Xl rfl rfl rfl rfl rfl ?_
     refine WL.alloc hS8 Xl rfl rfl (fun b1 w10 hn1 hS10=>?_)
     refine WL.store hS10 0 _ _ _ 0 _ [v10, .int .i64 x1.t.a, .int .i64 x1.t.b] [v10, .int .i64 x1.t.a, .int .i64 x1.t.b] _ rfl rfl Xl rfl (Nat.le_of_ble_eq_true rfl) (by simp only [List.all_cons,List.all_nil,hs8.oneC,Bool.true_and] <;> rfl) rfl rfl rfl rfl rfl (fun w11 hS11=>?_)
     obtain ⟨G10,hle10,hc5,hS12⟩:=hS11.shutB hn1
     have har:=Zue (by assumption : Zo t = true) (List.mem_of_getElem? hx1)
     have hll9 : (YE (lM (Link.mk t o f)) (Link.mk t o f).o.rows x1.v x1.t tx).length ≤ 5000:=Zi5 (M:=mtB t.s f.cols) (tx:=tx) (v:=x1.v) (d:=x1.t) hol9
     have hrl9 : t.s.cols.length ≤ x1.v.length:=by obtain ⟨r,hr,er⟩:=har.1; rw [← er]; exact hlk.len hr
     refine Zc hS12 (hc1.mono (((((((hle2.trans hle3).trans hle4).trans hle5).trans hle6).trans hle7).trans hle9).trans hle10)) [Zd t.s.name,v1, .int .i64 t.s.key,v2,v3, .int .i64 t.last] Zv rfl rfl rfl rfl rfl <| Zc hS12 (hc2.mono ((((((hle3.trans hle4).trans hle5).trans hle6).trans hle7).trans hle9).trans hle10)) [Zd o.s.name,v4, .int .i64 o.s.key,v5,v6, .int .i64 o.last] Zv rfl rfl rfl rfl rfl <| Zc hS12 (hc3.mono (((((hle4.trans hle5).trans hle6).trans hle7).trans hle9).trans hle10)) [v7,Zd f.table] Qr rfl rfl rfl rfl rfl <| WL.build _ [(0,[Zd t.s.name,v1, .int .i64 t.s.key,v2,v3, .int .i64 t.last]),(1,[Zd o.s.name,v4, .int .i64 o.s.key,v5,v6, .int .i64 o.last]),(2,[v7,Zd f.table])] [Zd t.s.name,v1, .int .i64 t.s.key,v2,v3, .int .i64 t.last,Zd o.s.name,v4, .int .i64 o.s.key,v5,v6, .int .i64 o.last,v7,Zd f.table] ZgC rfl ZqP rfl rfl rfl rfl <| Za hS12 (XV.drop 0 hc5) Z9 rfl rfl rfl <| Zc hS12 (XV.drop 1 hc5) [.int .i64 x1.t.a, .int .i64 x1.t.b] Zs rfl rfl rfl rfl rfl ?_
     refine Z3 hS12 Zth rfl rfl rfl (ZoO hS12.imm (Link.mk t o f) x1.v x1.t tx _ (ZcJ (Link.mk t o f) hb1 (hs1.mono ((((((((hle1.trans hle2).trans hle3).trans hle4).trans hle5).trans hle6).trans hle7).trans hle9).trans hle10)) hb2 (hs2.mono ((((((((hle1.trans hle2).trans hle3).trans hle4).trans hle5).trans hle6).trans hle7).trans hle9).trans hle10)) (hs3.mono ((((((((hle1.trans hle2).trans hle3).trans hle4).trans hle5).trans hle6).trans hle7).trans hle9).trans hle10)) hb3 hb4 (hs4.mono ((((((((hle1.trans hle2).trans hle3).trans hle4).trans hle5).trans hle6).trans hle7).trans hle9).trans hle10)) hb5 (hs5.mono ((((((((hle1.trans hle2).trans hle3).trans hle4).trans hle5).trans hle6).trans hle7).trans hle9).trans hle10)) (hs6.mono ((((((((hle1.trans hle2).trans hle3).trans hle4).trans hle5).trans hle6).trans hle7).trans hle9).trans hle10)) hb6 (hs7.mono ((((((((hle1.trans hle2).trans hle3).trans hle4).trans hle5).trans hle6).trans hle7).trans hle9).trans hle10)) hb7) _ (hs8.mono hle10) _ (Zt x1.t hb8 hb9) hlk hrl9 har.2) (fun w12 G11 r2 hpost2 hS13 hle11=>?_)
     have bd2:=hpost2.bound
     refine Zi hpost2 Yd rfl rfl ?_
     refine LP.go ft [] (fun m ρ1 w1=>∃ (k2 : Nat),∃ (v11 : Value) (o2 : OB),∃ (G12 : GH),m = (YE (lM (Link.mk t o f)) (Link.mk t o f).o.rows x1.v x1.t tx).length - k2 ∧ G11.le G12 ∧ St w [] G G12 [o2] w1 ∧ ZQ Xj 40 73 G12 v11 (ZaB (mtB t.s f.cols) o.rows tx ((Qb t tx).take k1) ++ ((YE (lM (Link.mk t o f)) (Link.mk t o f).o.rows x1.v x1.t tx).take k2).map (Fact.mk x1.v)) o2 ∧ FR ρ1 [(3, .int .i64 tx),(4, .pointer (some p1)),(5, .pointer (some p2)),(6, .pointer (some p3)),(9,v11),(11, .pointer (some (⟨b1,0,none⟩ : Addr))),(41,r1),(42, .int .i64 (((Qb t tx).length : Nat) : Int)),(43, .int .i64 (k1 : Int)),(56,r2),(57, .int .i64 (((YE (lM (Link.mk t o f)) (Link.mk t o f).o.rows x1.v x1.t tx).length : Nat) : Int)),(58, .int .i64 (k2 : Int))] ∧ k2 ≤ (YE (lM (Link.mk t o f)) (Link.mk t o f).o.rows x1.v x1.t tx).length) _ ⟨0,v9,o1,G11,rfl,(G11.le_refl),hS13,(ZQ.cast (hr1.mono (hle10.trans hle11)) (by simp)),⟨rfl,rfl,rfl,rfl,rfl,rfl,rfl,rfl,rfl,rfl,rfl,rfl,trivial⟩,(by omega)⟩ ?_
     rintro m ρ1 w13 ⟨k2,v11,o2,G12,rfl,hle12,hS14,hr3,hF9,f2⟩
     refine hF9.set ?_
     clear hF9
     have htl9:=List.length_take_le' k2 (YE (lM (Link.mk t o f)) (Link.mk t o f).o.rows x1.v x1.t tx)
     refine Zl (k2 : Int) (((YE (lM (Link.mk t o f)) (Link.mk t o f).o.rows x1.v x1.t tx).length : Nat) : Int) rfl rfl rfl (fun h7=>?_) (fun h7=>?_)
     ·refine WL.indexAddr (hpost2.mono hle12) k2 (by omega) Yd Zs rfl rfl rfl rfl (fun p5 x2 hx2 he2=>?_)
      obtain ⟨cs2,hc6,hr4⟩:=he2
      obtain ⟨rfl,hb10,Y4⟩:=Z6 hr4
      refine Zc hS14 hc6 [.int .i64 x2.a, .int .i64 x2.b] Zs rfl rfl rfl rfl rfl ?_
      refine WL.alloc hS14 Zs rfl rfl (fun b2 w14 hn2 hS15=>?_)
      refine WL.store hS15 0 _ _ _ 0 _ [.int .i64 x2.a, .int .i64 x2.b] [.int .i64 x2.a, .int .i64 x2.b] _ rfl rfl Zs rfl (Nat.le_of_ble_eq_true rfl) rfl rfl rfl rfl rfl rfl (fun w15 hS16=>?_)
      obtain ⟨G13,hle13,hc7,hS17⟩:=hS16.shutB hn2
      refine dr [(3,true),(5,false),(6,false),(7,false),(8,false)] [(64,v10),(66, .agg #[.int .i64 x2.a, .int .i64 x2.b])] hS17 ⟨fun _ hSw=>Za hSw (XV.drop 0 (hc5.mono ((hle11.trans hle12).trans hle13))) Z9 rfl rfl rfl <| nu rfl rfl,fun _ hSw=>Zc hSw hc7 [.int .i64 x2.a, .int .i64 x2.b] Zs rfl rfl rfl rfl rfl <| nu rfl rfl,trivial⟩ (fun w16 hS18=>?_)
      refine Z3 hS18 ZdL rfl rfl rfl (Q0 hS18.imm x1.v _ (hs8.mono (((hle10.trans hle11).trans hle12).trans hle13))) (fun w17 G14 r3 hpost3 hS19 hle14=>?_)
      refine ⟨hS19.down hS18.le hle14,?_⟩
      refine WL.build _ [(0,[r3]),(1,[.int .i64 x2.a, .int .i64 x2.b])] [r3, .int .i64 x2.a, .int .i64 x2.b] Xl rfl ZlV rfl rfl (by show [(0,(r3 : Value).cells.toList),(1,(.agg #[.int .i64 x2.a, .int .i64 x2.b] : Value).cells.toList)] = _; simp only [hpost3.cells1] <;> rfl) rfl ?_
      refine WL.buildSlice _ [(0,[r3, .int .i64 x2.a, .int .i64 x2.b])] [r3, .int .i64 x2.a, .int .i64 x2.b] hS19 Ze9 rfl rfl rfl rfl (fun z hz=>by match z,hz with | [z0,z1,z2],_=>rfl) (fun b3 w18 hn3 hS20=>?_)
      refine WL.push (m:=([(Fact.mk x1.v x2)] : List Fact)) Ze9 rfl rfl rfl (hr3.mono (hle13.trans hle14)) hS20 1 rfl 0 _ _ _ _ _ rfl ⟨[r3, .int .i64 x2.a, .int .i64 x2.b],_,rfl,(ZdF (Fact.mk x1.v x2) hpost3 hb10 Y4),rfl⟩ rfl (by have hreach : reach = 140737488355328:=rfl; simp only [List.length_append,List.length_map,List.length_take,List.length_cons,List.length_nil]; omega) (by have hreach : reach = 140737488355328:=rfl; simp only [List.length_append,List.length_map,List.length_take,List.length_cons,List.length_nil]; omega) rfl rfl rfl (fun v12 o3 w19 hr5 hS21=>?_)
      have hS22:=hS21.tail
      refine Zj k2 (by have hreach : reach = 140737488355328:=rfl; omega) rfl rfl rfl ?_
      exact BK.mk' _ ⟨k2 + 1,v12,o3,G14,rfl,(hle12.trans (hle13.trans hle14)),hS22,(ZQ.cast hr5 (by (rw [YX ‹_›,List.append_assoc]))),⟨rfl,rfl,rfl,rfl,rfl,rfl,rfl,rfl,rfl,rfl,rfl,rfl,trivial⟩,(by omega)⟩ (show (YE (lM (Link.mk t o f)) (Link.mk t o f).o.rows x1.v x1.t tx).length - (k2 + 1) < (YE (lM (Link.mk t o f)) (Link.mk t o f).o.rows x1.v x1.t tx).length - k2 by omega)
     refine Zj k1 (by have hreach : reach = 140737488355328:=rfl; omega) rfl rfl rfl ?_
     exact BK.mk' _ ⟨k1 + 1,v11,o2,G12,rfl,(hle9.trans ((hle10.trans hle11).trans hle12)),hS14,(ZQ.cast hr3 (by (rw [ZmO ‹_›,Zee (by omega)]))),⟨rfl,rfl,rfl,rfl,rfl,rfl,rfl,rfl,trivial⟩,(by omega)⟩ (show (Qb t tx).length - (k1 + 1) < (Qb t tx).length - k1 by omega)
    obtain ⟨G15,hle15,hs9,hS23⟩:=ZQ.freeze hr1 hS8 0 rfl
    exact RT hS23 rfl (Sl.cast hs9 (by with_reducible exact Zud hcov hins (by omega)))
   exact RT hS6 rfl (Sl.cast (Sl.nil Xj 40 G6) (by with_reducible exact ZcL (.inl (ZaR (by first | exact .inl ‹_› | exact .inr (.inl ‹_›) | exact .inr (.inr ‹_›))))))
  exact RT hS5 rfl (Sl.cast (Sl.nil Xj 40 G5) (by with_reducible exact ZcL (.inl (ZaR (by first | exact .inl ‹_› | exact .inr (.inl ‹_›) | exact .inr (.inr ‹_›))))))
 exact RT hS4 rfl (Sl.cast (Sl.nil Xj 40 G4) (by with_reducible exact ZcL (.inl (ZaR (by first | exact .inl ‹_› | exact .inr (.inl ‹_›) | exact .inr (.inr ‹_›))))))
end Go.Civ
