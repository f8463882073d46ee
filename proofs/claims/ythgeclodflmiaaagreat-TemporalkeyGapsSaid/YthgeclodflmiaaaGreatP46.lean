/- Lemmas. -/
import Derived.Test.YthgeclodflmiaaaGreatP25
import Derived.Test.YthgeclodflmiaaaGreatP37
import Derived.Test.YthgeclodflmiaaaGreatP42
import Derived.Test.YthgeclodflmiaaaGreatP43
import Derived.Test.YthgeclodflmiaaaGreatP44
import Derived.Test.YthgeclodflmiaaaGreatProg
import Derived.KernelRfl
import Derived.WalkKit
set_option linter.unusedVariables false
set_option linter.unusedSimpArgs false
set_option maxRecDepth 100000
set_option maxHeartbeats 4000000
namespace Go.Civ
open Go.Proofs
theorem Zfe {G : GH} {w : World} (hG : G.In w) (t o : Table) (f : Foreign) (y tx : Int) (ct : List Value) (hct : TableE.rep G t ct) (cu : List Value) (hcu : TableE.rep G o cu) (cf : List Value) (hcf : ForeignE.rep G f cf) : CL Tryz.prog (nat_lit 7) #[.agg ct.toArray, .agg cu.toArray, .agg cf.toArray, .int .i64 y, .int .i64 tx] [] w G fun _ _ r=>r = .bool true:=by
 refine Zg ft [] Tryz.func7 rfl rfl ?_
 have hS:=St.start (X:=[]) hG
 have qo1:=Z0 hct
 obtain ⟨v1,v2,v3,rfl,hb1,hs1,hb2,hs2,hs3,hb3⟩:=qo1
 have qo2:=Z0 hcu
 obtain ⟨v4,v5,v6,rfl,hb4,hs4,hb5,hs5,hs6,hb6⟩:=qo2
 have qo3:=Y1 hcf
 obtain ⟨v7,rfl,hs7,hb7⟩:=qo3
 refine Zu [Zd t.s.name,v1, .int .i64 t.s.key,v2,v3, .int .i64 t.last] _ hS rfl rfl rfl (fun p1 w1 G1 hle1 hsp1 hc1 hS1=>?_)
 refine Zu [Zd o.s.name,v4, .int .i64 o.s.key,v5,v6, .int .i64 o.last] _ hS1 rfl rfl rfl (fun p2 w2 G2 hle2 hsp2 hc2 hS2=>?_)
 refine Zu [v7,Zd f.table] _ hS2 rfl rfl rfl (fun p3 w3 G3 hle3 hsp3 hc3 hS3=>?_)
 refine Zj hS3 Yq rfl rfl rfl (X9 hS3.imm) (fun w4 G4 hS4 hle4=>?_)
 refine Zc hS4 (hc1.mono ((hle2.trans hle3).trans hle4)) [Zd t.s.name,v1, .int .i64 t.s.key,v2,v3, .int .i64 t.last] Zp rfl rfl rfl rfl rfl ?_
 refine Zj hS4 Xu rfl rfl rfl (Zfd hS4.imm t _ (Zl t hb1 (hs1.mono (((hle1.trans hle2).trans hle3).trans hle4)) hb2 (hs2.mono (((hle1.trans hle2).trans hle3).trans hle4)) (hs3.mono (((hle1.trans hle2).trans hle3).trans hle4)) hb3)) (fun w5 G5 hS5 hle5=>?_)
 refine WL.split (fun (h1 : (Xq t) = true)=>?_) (fun (h1 : (Xq t) = false)=>?_)
 ·refine Zc hS5 (hc2.mono ((hle3.trans hle4).trans hle5)) [Zd o.s.name,v4, .int .i64 o.s.key,v5,v6, .int .i64 o.last] Zp rfl rfl rfl rfl rfl ?_
  refine Zj hS5 Xu rfl rfl rfl (Zfd hS5.imm o _ (Zl o hb4 (hs4.mono ((((hle1.trans hle2).trans hle3).trans hle4).trans hle5)) hb5 (hs5.mono ((((hle1.trans hle2).trans hle3).trans hle4).trans hle5)) (hs6.mono ((((hle1.trans hle2).trans hle3).trans hle4).trans hle5)) hb6)) (fun w6 G6 hS6 hle6=>?_)
  refine WL.split (fun (h2 : (Xq o) = true)=>?_) (fun (h2 : (Xq o) = false)=>?_)
  ·refine Zc hS6 (hc1.mono ((((hle2.trans hle3).trans hle4).trans hle5).trans hle6)) [Zd t.s.name,v1, .int .i64 t.s.key,v2,v3, .int .i64 t.last] Zp rfl rfl rfl rfl rfl ?_
   refine Zj hS6 QN rfl rfl rfl (XS hS6.imm t _ (Zl t hb1 (hs1.mono (((((hle1.trans hle2).trans hle3).trans hle4).trans hle5).trans hle6)) hb2 (hs2.mono (((((hle1.trans hle2).trans hle3).trans hle4).trans hle5).trans hle6)) (hs3.mono (((((hle1.trans hle2).trans hle3).trans hle4).trans hle5).trans hle6)) hb3)) (fun w7 G7 hS7 hle7=>?_)
   refine WL.split (fun (h3 : (Zm t) = true)=>?_) (fun (h3 : (Zm t) = false)=>?_)
   ·refine Zc hS7 (hc2.mono ((((hle3.trans hle4).trans hle5).trans hle6).trans hle7)) [Zd o.s.name,v4, .int .i64 o.s.key,v5,v6, .int .i64 o.last] Zp rfl rfl rfl rfl rfl ?_
    refine Zj hS7 QN rfl rfl rfl (XS hS7.imm o _ (Zl o hb4 (hs4.mono ((((((hle1.trans hle2).trans hle3).trans hle4).trans hle5).trans hle6).trans hle7)) hb5 (hs5.mono ((((((hle1.trans hle2).trans hle3).trans hle4).trans hle5).trans hle6).trans hle7)) (hs6.mono ((((((hle1.trans hle2).trans hle3).trans hle4).trans hle5).trans hle6).trans hle7)) hb6)) (fun w9 G9 hS8 hle9=>?_)
    refine WL.split (fun (h4 : (Zm o) = true)=>?_) (fun (h4 : (Zm o) = false)=>?_)
    ·refine Zb hS8 (Xl.drop 0 (hc3.mono ((((hle4.trans hle5).trans hle6).trans hle7).trans hle9))) XM rfl rfl rfl ?_
     have bd1:=hs7.bound
     refine Zi (hs7.mono (((((((hle1.trans hle2).trans hle3).trans hle4).trans hle5).trans hle6).trans hle7).trans hle9)) Y8 rfl rfl ?_
     refine YD (f.cols.length : Int) 20 rfl rfl rfl (fun h5=>?_) (fun h5=>?_)
     ·refine Zj hS8 Yq rfl rfl rfl (X9 hS8.imm) (fun w10 G10 hS9 hle10=>?_)
      exact RB hS9 rfl (by first | with_reducible rfl | exact absurd ‹_› (X0 ‹_› ‹_› ‹_› ‹_› ‹_›) | exact tf ‹_› (Q3 hgt9.2.2))
     refine Zc hS8 (Xl.drop 0 (hc1.mono ((((((hle2.trans hle3).trans hle4).trans hle5).trans hle6).trans hle7).trans hle9))) [Zd t.s.name,v1, .int .i64 t.s.key,v2] Xg rfl rfl rfl rfl rfl <| Zc hS8 (Xl.drop 0 (hc2.mono (((((hle3.trans hle4).trans hle5).trans hle6).trans hle7).trans hle9))) [Zd o.s.name,v4, .int .i64 o.s.key,v5] Xg rfl rfl rfl rfl rfl <| Zc hS8 (hc3.mono ((((hle4.trans hle5).trans hle6).trans hle7).trans hle9)) [v7,Zd f.table] XZ rfl rfl rfl rfl rfl ?_
     refine Zj hS8 Zof rfl rfl rfl (Zrh hS8.imm t.s o.s f _ (ZL t.s hb1 (hs1.mono (((((((hle1.trans hle2).trans hle3).trans hle4).trans hle5).trans hle6).trans hle7).trans hle9)) hb2 (hs2.mono (((((((hle1.trans hle2).trans hle3).trans hle4).trans hle5).trans hle6).trans hle7).trans hle9))) _ (ZL o.s hb4 (hs4.mono (((((((hle1.trans hle2).trans hle3).trans hle4).trans hle5).trans hle6).trans hle7).trans hle9)) hb5 (hs5.mono (((((((hle1.trans hle2).trans hle3).trans hle4).trans hle5).trans hle6).trans hle7).trans hle9))) _ (Xc f (hs7.mono (((((((hle1.trans hle2).trans hle3).trans hle4).trans hle5).trans hle6).trans hle7).trans hle9)) hb7) (Y3 (by assumption : Zm t = true)).1 (Y3 (by assumption : Zm o = true)).1) (fun w11 G11 hS10 hle11=>?_)
     refine WL.split (fun (h6 : (YP t.s o.s f) = true)=>?_) (fun (h6 : (YP t.s o.s f) = false)=>?_)
     ·refine Zj hS10 Zlg rfl rfl rfl (ZkD hS10.imm y) (fun w12 G12 hS11 hle12=>?_)
      refine WL.split (fun (h7 : (ZB y) = true)=>?_) (fun (h7 : (ZB y) = false)=>?_)
      ·refine Zj hS11 Zlg rfl rfl rfl (ZkD hS11.imm tx) (fun w13 G13 hS12 hle13=>?_)
       refine WL.split (fun (h8 : (ZB tx) = true)=>?_) (fun (h8 : (ZB tx) = false)=>?_)
       ·have hlg9:=ZnK (tx:=tx) (f:=f) (by assumption : Zm t = true) (by assumption : Zm o = true)
        have hlk : LinkOk (Link.mk t o f):=Zbv ‹_› ‹_› ‹_›
        refine Zc hS12 (hc1.mono (((((((((hle2.trans hle3).trans hle4).trans hle5).trans hle6).trans hle7).trans hle9).trans hle11).trans hle12).trans hle13)) [Zd t.s.name,v1, .int .i64 t.s.key,v2,v3, .int .i64 t.last] Zp rfl rfl rfl rfl rfl <| Zc hS12 (hc2.mono ((((((((hle3.trans hle4).trans hle5).trans hle6).trans hle7).trans hle9).trans hle11).trans hle12).trans hle13)) [Zd o.s.name,v4, .int .i64 o.s.key,v5,v6, .int .i64 o.last] Zp rfl rfl rfl rfl rfl <| Zc hS12 (hc3.mono (((((((hle4.trans hle5).trans hle6).trans hle7).trans hle9).trans hle11).trans hle12).trans hle13)) [v7,Zd f.table] XZ rfl rfl rfl rfl rfl ?_
        refine Z3 hS12 Zoe rfl rfl rfl (Zs7 hS12.imm t o f tx _ (Zl t hb1 (hs1.mono ((((((((((hle1.trans hle2).trans hle3).trans hle4).trans hle5).trans hle6).trans hle7).trans hle9).trans hle11).trans hle12).trans hle13)) hb2 (hs2.mono ((((((((((hle1.trans hle2).trans hle3).trans hle4).trans hle5).trans hle6).trans hle7).trans hle9).trans hle11).trans hle12).trans hle13)) (hs3.mono ((((((((((hle1.trans hle2).trans hle3).trans hle4).trans hle5).trans hle6).trans hle7).trans hle9).trans hle11).trans hle12).trans hle13)) hb3) _ (Zl o hb4 (hs4.mono ((((((((((hle1.trans hle2).trans hle3).trans hle4).trans hle5).trans hle6).trans hle7).trans hle9).trans hle11).trans hle12).trans hle13)) hb5 (hs5.mono ((((((((((hle1.trans hle2).trans hle3).trans hle4).trans hle5).trans hle6).trans hle7).trans hle9).trans hle11).trans hle12).trans hle13)) (hs6.mono ((((((((((hle1.trans hle2).trans hle3).trans hle4).trans hle5).trans hle6).trans hle7).trans hle9).trans hle11).trans hle12).trans hle13)) hb6) _ (Xc f (hs7.mono ((((((((((hle1.trans hle2).trans hle3).trans hle4).trans hle5).trans hle6).trans hle7).trans hle9).trans hle11).trans hle12).trans hle13)) hb7)) (fun w14 G14 r1 hpost1 hS13 hle14=>?_)
        refine Zc hS13 (hc1.mono ((((((((((hle2.trans hle3).trans hle4).trans hle5).trans hle6).trans hle7).trans hle9).trans hle11).trans hle12).trans hle13).trans hle14)) [Zd t.s.name,v1, .int .i64 t.s.key,v2,v3, .int .i64 t.last] Zp rfl rfl rfl rfl rfl <| Zc hS13 (hc2.mono (((((((((hle3.trans hle4).trans hle5).trans hle6).trans hle7).trans hle9).trans hle11).trans hle12).trans hle13).trans hle14)) [Zd o.s.name,v4, .int .i64 o.s.key,v5,v6, .int .i64 o.last] Zp rfl rfl rfl rfl rfl <| Zc hS13 (hc3.mono ((((((((hle4.trans hle5).trans hle6).trans hle7).trans hle9).trans hle11).trans hle12).trans hle13).trans hle14)) [v7,Zd f.table] XZ rfl rfl rfl rfl rfl <| Z3 hS13 ZiP rfl rfl rfl (ZeK hS13.imm t o f _ (Zl t hb1 (hs1.mono (((((((((((hle1.trans hle2).trans hle3).trans hle4).trans hle5).trans hle6).trans hle7).trans hle9).trans hle11).trans hle12).trans hle13).trans hle14)) hb2 (hs2.mono (((((((((((hle1.trans hle2).trans hle3).trans hle4).trans hle5).trans hle6).trans hle7).trans hle9).trans hle11).trans hle12).trans hle13).trans hle14)) (hs3.mono (((((((((((hle1.trans hle2).trans hle3).trans hle4).trans hle5).trans hle6).trans hle7).trans hle9).trans hle11).trans hle12).trans hle13).trans hle14)) hb3) _ (Zl o hb4 (hs4.mono (((((((((((hle1.trans hle2).trans hle3).trans hle4).trans hle5).trans hle6).trans hle7).trans hle9).trans hle11).trans hle12).trans hle13).trans hle14)) hb5 (hs5.mono (((((((((((hle1.trans hle2).trans hle3).trans hle4).trans hle5).trans hle6).trans hle7).trans hle9).trans hle11).trans hle12).trans hle13).trans hle14)) (hs6.mono (((((((((((hle1.trans hle2).trans hle3).trans hle4).trans hle5).trans hle6).trans hle7).trans hle9).trans hle11).trans hle12).trans hle13).trans hle14)) hb6) _ (Xc f (hs7.mono (((((((((((hle1.trans hle2).trans hle3).trans hle4).trans hle5).trans hle6).trans hle7).trans hle9).trans hle11).trans hle12).trans hle13).trans hle14)) hb7)) ?_
        rintro w15 G15 _ ⟨r3,_,rfl,hs8,rfl⟩ hS14 hle15
        obtain ⟨cs1,rfl,hr1⟩:=hs8
        have qo4:=ZK hr1
        obtain ⟨v9,rfl,hs9,hb8,hb9,hb10,Xv⟩:=qo4
        refine WL.alloc hS14 Zx rfl rfl (fun b1 w16 hn1 hS15=>?_)
        refine WL.store hS15 0 _ _ _ 0 _ [v9, .int .i64 ((Z5 t o f).r.d.a), .int .i64 ((Z5 t o f).r.d.b), .int .i64 ((Z5 t o f).r.x.a), .int .i64 ((Z5 t o f).r.x.b)] [v9, .int .i64 ((Z5 t o f).r.d.a), .int .i64 ((Z5 t o f).r.d.b), .int .i64 ((Z5 t o f).r.x.a), .int .i64 ((Z5 t o f).r.x.b)] _ rfl rfl Zx rfl (Nat.le_of_ble_eq_true rfl) (by simp only [List.all_cons,List.all_nil,hs9.oneC,Bool.true_and] <;> rfl) rfl rfl rfl rfl rfl (fun w17 hS16=>?_)
        have qo5:=hS16.shutB hn1
        obtain ⟨G16,hle16,hc4,hS17⟩:=qo5
        refine XA (d:=80) rfl (fun (h9 : (Q2 t o f) = true)=>?_) (fun (h9 : (Q2 t o f) = false)=>?_)
        ·have bd2:=hpost1.bound
         refine Zi (hpost1.mono (hle15.trans hle16)) Zcl rfl rfl ?_
         refine YD (((ZW t o f tx).length : Nat) : Int) 0 rfl rfl rfl (fun h10=>?_) (fun h10=>?_)
         ·exact RB hS17 rfl (by first | with_reducible rfl | exact absurd ‹_› (X0 ‹_› ‹_› ‹_› ‹_› ‹_›) | exact tf ‹_› (Q3 hgt9.2.2))
         refine Zc hS17 (hc1.mono ((((((((((((hle2.trans hle3).trans hle4).trans hle5).trans hle6).trans hle7).trans hle9).trans hle11).trans hle12).trans hle13).trans hle14).trans hle15).trans hle16)) [Zd t.s.name,v1, .int .i64 t.s.key,v2,v3, .int .i64 t.last] Zp rfl rfl rfl rfl rfl ?_
         refine Z3 hS17 ZbK rfl rfl rfl (XG hS17.imm t y tx _ (Zl t hb1 (hs1.mono (((((((((((((hle1.trans hle2).trans hle3).trans hle4).trans hle5).trans hle6).trans hle7).trans hle9).trans hle11).trans hle12).trans hle13).trans hle14).trans hle15).trans hle16)) hb2 (hs2.mono (((((((((((((hle1.trans hle2).trans hle3).trans hle4).trans hle5).trans hle6).trans hle7).trans hle9).trans hle11).trans hle12).trans hle13).trans hle14).trans hle15).trans hle16)) (hs3.mono (((((((((((((hle1.trans hle2).trans hle3).trans hle4).trans hle5).trans hle6).trans hle7).trans hle9).trans hle11).trans hle12).trans hle13).trans hle14).trans hle15).trans hle16)) hb3)) (fun w18 G17 r5 hpost3 hS18 hle17=>?_)
         have bd3:=hpost3.bound
         refine Zi hpost3 ZaI rfl rfl ?_
         refine LP.go ft [] (fun m ρ1 w1=>∃ (k1 : Nat),∃ (G18 : GH),m = (Zz t y tx).length - k1 ∧ G17.le G18 ∧ St w [] G G18 [] w1 ∧ FR ρ1 [(3, .int .i64 y),(4, .int .i64 tx),(5, .pointer (some p1)),(6, .pointer (some p2)),(7, .pointer (some p3)),(11,r1),(90,r5),(91, .int .i64 (((Zz t y tx).length : Nat) : Int)),(92, .int .i64 (k1 : Int))] ∧ k1 ≤ (Zz t y tx).length) _ ⟨0,G17,rfl,(G17.le_refl),hS18,⟨rfl,rfl,rfl,rfl,rfl,rfl,rfl,rfl,rfl,trivial⟩,(by omega)⟩ ?_
         rintro m ρ1 w19 ⟨k1,G18,rfl,hle18,hS19,hF9,f1⟩
         refine hF9.set ?_
         clear hF9
         refine Zq (k1 : Int) (((Zz t y tx).length : Nat) : Int) rfl rfl rfl (fun h11=>?_) (fun h11=>?_)
         ·refine WL.indexAddr (hpost3.mono hle18) k1 (by omega) ZaI ZG rfl rfl rfl rfl (fun p4 x1 hx1 he1=>?_)
          obtain ⟨cs2,hc5,hr2⟩:=he1
          obtain ⟨v10,rfl,hs10⟩:=hr2
          refine Zb hS19 hc5 ZG rfl rfl rfl ?_
          have hgt9:=ZhY (by assumption : Zm t = true) (by assumption : Zm o = true) (by assumption : YP t.s o.s f = true) (by assumption : ZB tx = true) (by assumption : ZB y = true) (List.mem_of_getElem? hx1)
          have hvl9 : t.s.cols.length ≤ x1.length:=ZhZ (by assumption : Zm t = true) (List.mem_of_getElem? hx1)
          refine Zc hS19 (Xl.drop 0 (hc1.mono ((((((((((((((hle2.trans hle3).trans hle4).trans hle5).trans hle6).trans hle7).trans hle9).trans hle11).trans hle12).trans hle13).trans hle14).trans hle15).trans hle16).trans hle17).trans hle18))) [Zd t.s.name,v1, .int .i64 t.s.key,v2] Xg rfl rfl rfl rfl rfl <| Zc hS19 (hc3.mono ((((((((((((hle4.trans hle5).trans hle6).trans hle7).trans hle9).trans hle11).trans hle12).trans hle13).trans hle14).trans hle15).trans hle16).trans hle17).trans hle18)) [v7,Zd f.table] XZ rfl rfl rfl rfl rfl ?_
          refine Z3 hS19 Zog rfl rfl rfl (ZkL hS19.imm t.s f x1 _ (ZL t.s hb1 (hs1.mono (((((((((((((((hle1.trans hle2).trans hle3).trans hle4).trans hle5).trans hle6).trans hle7).trans hle9).trans hle11).trans hle12).trans hle13).trans hle14).trans hle15).trans hle16).trans hle17).trans hle18)) hb2 (hs2.mono (((((((((((((((hle1.trans hle2).trans hle3).trans hle4).trans hle5).trans hle6).trans hle7).trans hle9).trans hle11).trans hle12).trans hle13).trans hle14).trans hle15).trans hle16).trans hle17).trans hle18))) _ (Xc f (hs7.mono (((((((((((((((hle1.trans hle2).trans hle3).trans hle4).trans hle5).trans hle6).trans hle7).trans hle9).trans hle11).trans hle12).trans hle13).trans hle14).trans hle15).trans hle16).trans hle17).trans hle18)) hb7) _ hs10 hlk.cols hvl9 (by omega)) (fun w20 G19 r6 hpost4 hS20 hle19=>?_)
          refine WL.alloc hS20 ZG rfl rfl (fun b2 w21 hn2 hS21=>?_)
          refine WL.store hS21 0 _ _ _ 0 _ [r6] [r6] _ rfl hpost4.cells1 ZG rfl (Nat.le_of_ble_eq_true rfl) (by simp only [List.all_cons,List.all_nil,hpost4.oneC,Bool.true_and] <;> rfl) rfl rfl rfl rfl rfl (fun w22 hS22=>?_)
          have qo6:=hS22.shutB hn2
          obtain ⟨G20,hle20,hc6,hS23⟩:=qo6
          refine Zc hS23 (hc2.mono (((((((((((((((hle3.trans hle4).trans hle5).trans hle6).trans hle7).trans hle9).trans hle11).trans hle12).trans hle13).trans hle14).trans hle15).trans hle16).trans hle17).trans hle18).trans hle19).trans hle20)) [Zd o.s.name,v4, .int .i64 o.s.key,v5,v6, .int .i64 o.last] Zp rfl rfl rfl rfl rfl ?_
          refine Z3 hS23 ZbK rfl rfl rfl (XG hS23.imm o y tx _ (Zl o hb4 (hs4.mono (((((((((((((((((hle1.trans hle2).trans hle3).trans hle4).trans hle5).trans hle6).trans hle7).trans hle9).trans hle11).trans hle12).trans hle13).trans hle14).trans hle15).trans hle16).trans hle17).trans hle18).trans hle19).trans hle20)) hb5 (hs5.mono (((((((((((((((((hle1.trans hle2).trans hle3).trans hle4).trans hle5).trans hle6).trans hle7).trans hle9).trans hle11).trans hle12).trans hle13).trans hle14).trans hle15).trans hle16).trans hle17).trans hle18).trans hle19).trans hle20)) (hs6.mono (((((((((((((((((hle1.trans hle2).trans hle3).trans hle4).trans hle5).trans hle6).trans hle7).trans hle9).trans hle11).trans hle12).trans hle13).trans hle14).trans hle15).trans hle16).trans hle17).trans hle18).trans hle19).trans hle20)) hb6)) (fun w23 G21 r7 hpost5 hS24 hle21=>?_)
          refine Zj hS24 ZiR rfl rfl rfl (Zaa hS24.imm (Zz o y tx) (fun x8=>decide (YO (Schema.mk o.s.name o.s.cols o.s.key o.s.fks) x8 = (YY t.s f.cols x1))) _ hpost5 38 #[.pointer (some p2), .pointer (some (⟨b2,0,none⟩ : Addr))] ⟨Zlh,fun G8 w8 v8 x8 hle8 hG8 hon8 hA8=>by exact Zqj hG8 x8 (YY t.s f.cols x1) o.s.name o.s.cols o.s.key o.s.fks o.rows o.last v8 hA8 v4 ((hs4.mono ((((((((((((((((((hle1.trans hle2).trans hle3).trans hle4).trans hle5).trans hle6).trans hle7).trans hle9).trans hle11).trans hle12).trans hle13).trans hle14).trans hle15).trans hle16).trans hle17).trans hle18).trans hle19).trans hle20).trans hle21)).mono hle8) v5 ((hs5.mono ((((((((((((((((((hle1.trans hle2).trans hle3).trans hle4).trans hle5).trans hle6).trans hle7).trans hle9).trans hle11).trans hle12).trans hle13).trans hle14).trans hle15).trans hle16).trans hle17).trans hle18).trans hle19).trans hle20).trans hle21)).mono hle8) v6 ((hs6.mono ((((((((((((((((((hle1.trans hle2).trans hle3).trans hle4).trans hle5).trans hle6).trans hle7).trans hle9).trans hle11).trans hle12).trans hle13).trans hle14).trans hle15).trans hle16).trans hle17).trans hle18).trans hle19).trans hle20).trans hle21)).mono hle8) p2 ((hc2.mono ((((((((((((((((hle3.trans hle4).trans hle5).trans hle6).trans hle7).trans hle9).trans hle11).trans hle12).trans hle13).trans hle14).trans hle15).trans hle16).trans hle17).trans hle18).trans hle19).trans hle20).trans hle21)).mono hle8) r6 ((hpost4.mono (hle20.trans hle21)).mono hle8) (⟨b2,0,none⟩ : Addr) ((hc6.mono hle21).mono hle8) ‹_› ‹_›⟩) (fun w24 G22 hS25 hle22=>?_)
          have bd4:=hpost1.bound
          refine Zi (hpost1.mono (((((((hle15.trans hle16).trans hle17).trans hle18).trans hle19).trans hle20).trans hle21).trans hle22)) Zcl rfl rfl ?_
          have hS27:=hS25.pad
          refine LP.go ft [] (fun m ρ1 w1=>∃ (k2 : Nat),∃ (v11 : Value) (o1 : OB),∃ (G23 : GH),m = (ZW t o f tx).length - k2 ∧ G22.le G23 ∧ St w [] G G23 [o1] w1 ∧ ZS SpanE 16 33 G23 v11 (ZV ((ZW t o f tx).take k2) x1) o1 ∧ FR ρ1 [(3, .int .i64 y),(4, .int .i64 tx),(5, .pointer (some p1)),(6, .pointer (some p2)),(7, .pointer (some p3)),(11,r1),(15,v10),(17, .bool ((Zz o y tx).any (fun x8=>decide (YO (Schema.mk o.s.name o.s.cols o.s.key o.s.fks) x8 = (YY t.s f.cols x1))))),(18,v11),(90,r5),(91, .int .i64 (((Zz t y tx).length : Nat) : Int)),(92, .int .i64 (k1 : Int)),(107,r1),(108, .int .i64 (((ZW t o f tx).length : Nat) : Int)),(109, .int .i64 (k2 : Int))] ∧ k2 ≤ (ZW t o f tx).length) _ ⟨0,(.slice none 0 0),none,G22,rfl,(G22.le_refl),hS27,(ZS.cast (ZS.nil SpanE 16 33 G22) (by rfl)),⟨rfl,rfl,rfl,rfl,rfl,rfl,rfl,rfl,rfl,rfl,rfl,rfl,rfl,rfl,rfl,trivial⟩,(by omega)⟩ ?_
          rintro m ρ1 w25 ⟨k2,v11,o1,G23,rfl,hle23,hS26,hr3,hF9,f2⟩
          refine hF9.set ?_
          clear hF9
          have htk9:=ZcA (ZW t o f tx) k2 x1
          refine Zq (k2 : Int) (((ZW t o f tx).length : Nat) : Int) rfl rfl rfl (fun h12=>?_) (fun h12=>?_)
          ·refine WL.indexAddr (hpost1.mono ((((((((hle15.trans hle16).trans hle17).trans hle18).trans hle19).trans hle20).trans hle21).trans hle22).trans hle23)) k2 (by omega) Zcl QY rfl rfl rfl rfl (fun p5 x2 hx2 he2=>?_)
           obtain ⟨cs3,hc7,hr4⟩:=he2
           have qo7:=ZaE hr4
           obtain ⟨v12,rfl,hs11,ZaJ,ZbI⟩:=qo7
           refine Zc hS26 hc7 [v12, .int .i64 x2.t.a, .int .i64 x2.t.b] QY rfl rfl rfl rfl rfl ?_
           refine WL.alloc hS26 QY rfl rfl (fun b3 w26 hn3 hS28=>?_)
           refine WL.store hS28 0 _ _ _ 0 _ [v12, .int .i64 x2.t.a, .int .i64 x2.t.b] [v12, .int .i64 x2.t.a, .int .i64 x2.t.b] _ rfl rfl QY rfl (Nat.le_of_ble_eq_true rfl) (by simp only [List.all_cons,List.all_nil,hs11.oneC,Bool.true_and] <;> rfl) rfl rfl rfl rfl rfl (fun w27 hS29=>?_)
           have qo8:=hS29.shutB hn3
           obtain ⟨G24,hle24,hc8,hS30⟩:=qo8
           refine Zb hS30 (Xl.drop 0 hc8) ZG rfl rfl rfl ?_
           refine Zj hS30 ZaK rfl rfl rfl (XK hS30.imm x2.v x1 _ (hs11.mono hle24) _ (hs10.mono (((((hle19.trans hle20).trans hle21).trans hle22).trans hle23).trans hle24))) (fun w28 G25 hS31 hle25=>?_)
           refine WL.split (fun (h13 : (decide (x2.v = x1)) = true)=>?_) (fun (h13 : (decide (x2.v = x1)) = false)=>?_)
           ·refine Zc hS31 (Xl.drop 1 (hc8.mono hle25)) [.int .i64 x2.t.a, .int .i64 x2.t.b] Zt rfl rfl rfl rfl rfl ?_
            refine WL.buildSlice _ [(0,[.int .i64 x2.t.a, .int .i64 x2.t.b])] [.int .i64 x2.t.a, .int .i64 x2.t.b] hS31 Yn rfl rfl rfl rfl (fun z hz=>by match z,hz with | [z0,z1],_=>rfl) (fun b4 w29 hn4 hS32=>?_)
            refine WL.push (m:=([x2.t] : List Span)) Yn rfl rfl rfl (hr3.mono (hle24.trans hle25)) hS32 1 rfl 0 _ _ _ _ _ rfl ⟨[.int .i64 x2.t.a, .int .i64 x2.t.b],_,rfl,(Zs x2.t ZaJ ZbI),rfl⟩ rfl (by have hreach : reach = 140737488355328:=rfl; simp only [List.length_append,List.length_cons,List.length_nil]; omega) (by have hreach : reach = 140737488355328:=rfl; simp only [List.length_append,List.length_cons,List.length_nil]; omega) rfl rfl rfl (fun v13 o2 w30 hr5 hS33=>?_)
            have hS34:=hS33.tail
            refine Zk k2 (by have hreach : reach = 140737488355328:=rfl; omega) rfl rfl rfl ?_
            exact BK.mk' _ ⟨k2 + 1,v13,o2,G25,rfl,(hle23.trans (hle24.trans hle25)),hS34,(ZS.cast hr5 (by (first | exact (Zb2 ‹_› ‹_›).symm | exact (ZbV ‹_› ‹_›).symm))),⟨rfl,rfl,rfl,rfl,rfl,rfl,rfl,rfl,rfl,rfl,rfl,rfl,rfl,rfl,rfl,trivial⟩,(by omega)⟩ (show (ZW t o f tx).length - (k2 + 1) < (ZW t o f tx).length - k2 by omega)
           refine Zk k2 (by have hreach : reach = 140737488355328:=rfl; omega) rfl rfl rfl ?_
           exact BK.mk' _ ⟨k2 + 1,v11,o1,G25,rfl,(hle23.trans (hle24.trans hle25)),hS31,(ZS.cast (hr3.mono (hle24.trans hle25)) (by (first | exact (Zb2 ‹_› ‹_›).symm | exact (ZbV ‹_› ‹_›).symm))),⟨rfl,rfl,rfl,rfl,rfl,rfl,rfl,rfl,rfl,rfl,rfl,rfl,rfl,rfl,rfl,trivial⟩,(by omega)⟩ (show (ZW t o f tx).length - (k2 + 1) < (ZW t o f tx).length - k2 by omega)
          have qo9:=ZS.freeze hr3 hS26 0 rfl
          obtain ⟨G26,hle26,hs12,hS35⟩:=qo9
          have htm:=Sl.cast (l':=ZV (ZW t o f tx) x1) hs12 (by rw [List.take_of_length_le (by omega)])
          have htl9:=ZjQ (f:=f) (tx:=tx) (v:=x1) (ZdH (by assumption : Xq t = true)).1 (ZdH (by assumption : Xq o = true)).1 (by assumption : Zm t = true) (by assumption : Zm o = true)
          refine Zj hS35 Zf1 rfl rfl rfl (Zaw hS35.imm (ZV (ZW t o f tx) x1) _ htm hgt9.1 hgt9.2.1 htl9) (fun w31 G27 hS36 hle27=>?_)
          refine Zj hS36 ZiS rfl rfl rfl (Zex hS36.imm (ZV (ZW t o f tx) x1) y _ (htm.mono hle27) hgt9.1 hgt9.2.1 htl9) (fun w32 G28 hS37 hle28=>?_)
          refine Y4 (Y0 (ZV (ZW t o f tx) x1) y) ((Zz o y tx).any (fun x8=>decide (YO (Schema.mk o.s.name o.s.cols o.s.key o.s.fks) x8 = (YY t.s f.cols x1)))) ul4 rfl rfl rfl ?_
          refine WL.split (fun (h14 : ((Y0 (ZV (ZW t o f tx) x1) y) == ((Zz o y tx).any (fun x8=>decide (YO (Schema.mk o.s.name o.s.cols o.s.key o.s.fks) x8 = (YY t.s f.cols x1))))) = true)=>?_) (fun (h14 : ((Y0 (ZV (ZW t o f tx) x1) y) == ((Zz o y tx).any (fun x8=>decide (YO (Schema.mk o.s.name o.s.cols o.s.key o.s.fks) x8 = (YY t.s f.cols x1))))) = false)=>?_)
          ·exact RB hS37 rfl (by first | with_reducible rfl | exact absurd ‹_› (X0 ‹_› ‹_› ‹_› ‹_› ‹_›) | exact tf ‹_› (Q3 hgt9.2.2))
          refine Zk k1 (by have hreach : reach = 140737488355328:=rfl; omega) rfl rfl rfl ?_
          have hS38:=hS37.tail
          exact BK.mk' _ ⟨k1 + 1,G28,rfl,(hle18.trans (((((((hle19.trans hle20).trans hle21).trans hle22).trans hle23).trans hle26).trans hle27).trans hle28)),hS38,⟨rfl,rfl,rfl,rfl,rfl,rfl,rfl,rfl,rfl,trivial⟩,(by omega)⟩ (show (Zz t y tx).length - (k1 + 1) < (Zz t y tx).length - k1 by omega)
         exact RB hS19 rfl (by first | with_reducible rfl | exact absurd ‹_› (X0 ‹_› ‹_› ‹_› ‹_› ‹_›) | exact tf ‹_› (Q3 hgt9.2.2))
        refine Zc hS17 (hc1.mono ((((((((((((hle2.trans hle3).trans hle4).trans hle5).trans hle6).trans hle7).trans hle9).trans hle11).trans hle12).trans hle13).trans hle14).trans hle15).trans hle16)) [Zd t.s.name,v1, .int .i64 t.s.key,v2,v3, .int .i64 t.last] Zp rfl rfl rfl rfl rfl ?_
        refine Z3 hS17 ZbK rfl rfl rfl (XG hS17.imm t y tx _ (Zl t hb1 (hs1.mono (((((((((((((hle1.trans hle2).trans hle3).trans hle4).trans hle5).trans hle6).trans hle7).trans hle9).trans hle11).trans hle12).trans hle13).trans hle14).trans hle15).trans hle16)) hb2 (hs2.mono (((((((((((((hle1.trans hle2).trans hle3).trans hle4).trans hle5).trans hle6).trans hle7).trans hle9).trans hle11).trans hle12).trans hle13).trans hle14).trans hle15).trans hle16)) (hs3.mono (((((((((((((hle1.trans hle2).trans hle3).trans hle4).trans hle5).trans hle6).trans hle7).trans hle9).trans hle11).trans hle12).trans hle13).trans hle14).trans hle15).trans hle16)) hb3)) (fun w33 G29 r8 hpost6 hS39 hle29=>?_)
        have bd5:=hpost6.bound
        refine Zi hpost6 ZaI rfl rfl ?_
        refine LP.go ft [] (fun m ρ1 w1=>∃ (k1 : Nat),∃ (G30 : GH),m = (Zz t y tx).length - k1 ∧ G29.le G30 ∧ St w [] G G30 [] w1 ∧ FR ρ1 [(3, .int .i64 y),(4, .int .i64 tx),(5, .pointer (some p1)),(6, .pointer (some p2)),(7, .pointer (some p3)),(11,r1),(90,r8),(91, .int .i64 (((Zz t y tx).length : Nat) : Int)),(92, .int .i64 (k1 : Int))] ∧ k1 ≤ (Zz t y tx).length) _ ⟨0,G29,rfl,(G29.le_refl),hS39,⟨rfl,rfl,rfl,rfl,rfl,rfl,rfl,rfl,rfl,trivial⟩,(by omega)⟩ ?_
        rintro m ρ1 w34 ⟨k1,G30,rfl,hle30,hS40,hF9,f3⟩
        refine hF9.set ?_
        clear hF9
        refine Zq (k1 : Int) (((Zz t y tx).length : Nat) : Int) rfl rfl rfl (fun h15=>?_) (fun h15=>?_)
        ·refine WL.indexAddr (hpost6.mono hle30) k1 (by omega) ZaI ZG rfl rfl rfl rfl (fun p6 x3 hx3 he3=>?_)
         obtain ⟨cs4,hc9,hr6⟩:=he3
         obtain ⟨v14,rfl,hs13⟩:=hr6
         refine Zb hS40 hc9 ZG rfl rfl rfl ?_
         have hgt9:=ZhY (by assumption : Zm t = true) (by assumption : Zm o = true) (by assumption : YP t.s o.s f = true) (by assumption : ZB tx = true) (by assumption : ZB y = true) (List.mem_of_getElem? hx3)
         have hvl9 : t.s.cols.length ≤ x3.length:=ZhZ (by assumption : Zm t = true) (List.mem_of_getElem? hx3)
         refine Zc hS40 (Xl.drop 0 (hc1.mono ((((((((((((((hle2.trans hle3).trans hle4).trans hle5).trans hle6).trans hle7).trans hle9).trans hle11).trans hle12).trans hle13).trans hle14).trans hle15).trans hle16).trans hle29).trans hle30))) [Zd t.s.name,v1, .int .i64 t.s.key,v2] Xg rfl rfl rfl rfl rfl <| Zc hS40 (hc3.mono ((((((((((((hle4.trans hle5).trans hle6).trans hle7).trans hle9).trans hle11).trans hle12).trans hle13).trans hle14).trans hle15).trans hle16).trans hle29).trans hle30)) [v7,Zd f.table] XZ rfl rfl rfl rfl rfl ?_
         refine Z3 hS40 Zog rfl rfl rfl (ZkL hS40.imm t.s f x3 _ (ZL t.s hb1 (hs1.mono (((((((((((((((hle1.trans hle2).trans hle3).trans hle4).trans hle5).trans hle6).trans hle7).trans hle9).trans hle11).trans hle12).trans hle13).trans hle14).trans hle15).trans hle16).trans hle29).trans hle30)) hb2 (hs2.mono (((((((((((((((hle1.trans hle2).trans hle3).trans hle4).trans hle5).trans hle6).trans hle7).trans hle9).trans hle11).trans hle12).trans hle13).trans hle14).trans hle15).trans hle16).trans hle29).trans hle30))) _ (Xc f (hs7.mono (((((((((((((((hle1.trans hle2).trans hle3).trans hle4).trans hle5).trans hle6).trans hle7).trans hle9).trans hle11).trans hle12).trans hle13).trans hle14).trans hle15).trans hle16).trans hle29).trans hle30)) hb7) _ hs13 hlk.cols hvl9 (by omega)) (fun w35 G31 r9 hpost7 hS41 hle31=>?_)
         refine WL.alloc hS41 ZG rfl rfl (fun b5 w36 hn5 hS42=>?_)
         refine WL.store hS42 0 _ _ _ 0 _ [r9] [r9] _ rfl hpost7.cells1 ZG rfl (Nat.le_of_ble_eq_true rfl) (by simp only [List.all_cons,List.all_nil,hpost7.oneC,Bool.true_and] <;> rfl) rfl rfl rfl rfl rfl (fun w37 hS43=>?_)
         have qo10:=hS43.shutB hn5
         obtain ⟨G32,hle32,hc10,hS44⟩:=qo10
         refine Zc hS44 (hc2.mono (((((((((((((((hle3.trans hle4).trans hle5).trans hle6).trans hle7).trans hle9).trans hle11).trans hle12).trans hle13).trans hle14).trans hle15).trans hle16).trans hle29).trans hle30).trans hle31).trans hle32)) [Zd o.s.name,v4, .int .i64 o.s.key,v5,v6, .int .i64 o.last] Zp rfl rfl rfl rfl rfl ?_
         refine Z3 hS44 ZbK rfl rfl rfl (XG hS44.imm o y tx _ (Zl o hb4 (hs4.mono (((((((((((((((((hle1.trans hle2).trans hle3).trans hle4).trans hle5).trans hle6).trans hle7).trans hle9).trans hle11).trans hle12).trans hle13).trans hle14).trans hle15).trans hle16).trans hle29).trans hle30).trans hle31).trans hle32)) hb5 (hs5.mono (((((((((((((((((hle1.trans hle2).trans hle3).trans hle4).trans hle5).trans hle6).trans hle7).trans hle9).trans hle11).trans hle12).trans hle13).trans hle14).trans hle15).trans hle16).trans hle29).trans hle30).trans hle31).trans hle32)) (hs6.mono (((((((((((((((((hle1.trans hle2).trans hle3).trans hle4).trans hle5).trans hle6).trans hle7).trans hle9).trans hle11).trans hle12).trans hle13).trans hle14).trans hle15).trans hle16).trans hle29).trans hle30).trans hle31).trans hle32)) hb6)) (fun w38 G33 r10 hpost8 hS45 hle33=>?_)
         refine Zj hS45 ZiR rfl rfl rfl (Zaa hS45.imm (Zz o y tx) (fun x8=>decide (YO (Schema.mk o.s.name o.s.cols o.s.key o.s.fks) x8 = (YY t.s f.cols x3))) _ hpost8 38 #[.pointer (some p2), .pointer (some (⟨b5,0,none⟩ : Addr))] ⟨Zlh,fun G8 w8 v8 x8 hle8 hG8 hon8 hA8=>by exact Zqj hG8 x8 (YY t.s f.cols x3) o.s.name o.s.cols o.s.key o.s.fks o.rows o.last v8 hA8 v4 ((hs4.mono ((((((((((((((((((hle1.trans hle2).trans hle3).trans hle4).trans hle5).trans hle6).trans hle7).trans hle9).trans hle11).trans hle12).trans hle13).trans hle14).trans hle15).trans hle16).trans hle29).trans hle30).trans hle31).trans hle32).trans hle33)).mono hle8) v5 ((hs5.mono ((((((((((((((((((hle1.trans hle2).trans hle3).trans hle4).trans hle5).trans hle6).trans hle7).trans hle9).trans hle11).trans hle12).trans hle13).trans hle14).trans hle15).trans hle16).trans hle29).trans hle30).trans hle31).trans hle32).trans hle33)).mono hle8) v6 ((hs6.mono ((((((((((((((((((hle1.trans hle2).trans hle3).trans hle4).trans hle5).trans hle6).trans hle7).trans hle9).trans hle11).trans hle12).trans hle13).trans hle14).trans hle15).trans hle16).trans hle29).trans hle30).trans hle31).trans hle32).trans hle33)).mono hle8) p2 ((hc2.mono ((((((((((((((((hle3.trans hle4).trans hle5).trans hle6).trans hle7).trans hle9).trans hle11).trans hle12).trans hle13).trans hle14).trans hle15).trans hle16).trans hle29).trans hle30).trans hle31).trans hle32).trans hle33)).mono hle8) r9 ((hpost7.mono (hle32.trans hle33)).mono hle8) (⟨b5,0,none⟩ : Addr) ((hc10.mono hle33).mono hle8) ‹_› ‹_›⟩) (fun w39 G34 hS46 hle34=>?_)
         have bd6:=hpost1.bound
         refine Zi (hpost1.mono (((((((hle15.trans hle16).trans hle29).trans hle30).trans hle31).trans hle32).trans hle33).trans hle34)) Zcl rfl rfl ?_
         have hS48:=hS46.pad
         refine LP.go ft [] (fun m ρ1 w1=>∃ (k2 : Nat),∃ (v15 : Value) (o3 : OB),∃ (G35 : GH),m = (ZW t o f tx).length - k2 ∧ G34.le G35 ∧ St w [] G G35 [o3] w1 ∧ ZS SpanE 16 33 G35 v15 (ZV ((ZW t o f tx).take k2) x3) o3 ∧ FR ρ1 [(3, .int .i64 y),(4, .int .i64 tx),(5, .pointer (some p1)),(6, .pointer (some p2)),(7, .pointer (some p3)),(11,r1),(15,v14),(17, .bool ((Zz o y tx).any (fun x8=>decide (YO (Schema.mk o.s.name o.s.cols o.s.key o.s.fks) x8 = (YY t.s f.cols x3))))),(18,v15),(90,r8),(91, .int .i64 (((Zz t y tx).length : Nat) : Int)),(92, .int .i64 (k1 : Int)),(107,r1),(108, .int .i64 (((ZW t o f tx).length : Nat) : Int)),(109, .int .i64 (k2 : Int))] ∧ k2 ≤ (ZW t o f tx).length) _ ⟨0,(.slice none 0 0),none,G34,rfl,(G34.le_refl),hS48,(ZS.cast (ZS.nil SpanE 16 33 G34) (by rfl)),⟨rfl,rfl,rfl,rfl,rfl,rfl,rfl,rfl,rfl,rfl,rfl,rfl,rfl,rfl,rfl,trivial⟩,(by omega)⟩ ?_
         rintro m ρ1 w40 ⟨k2,v15,o3,G35,rfl,hle35,hS47,hr7,hF9,f4⟩
         refine hF9.set ?_
         clear hF9
         have htk9:=ZcA (ZW t o f tx) k2 x3
         refine Zq (k2 : Int) (((ZW t o f tx).length : Nat) : Int) rfl rfl rfl (fun h16=>?_) (fun h16=>?_)
         ·refine WL.indexAddr (hpost1.mono ((((((((hle15.trans hle16).trans hle29).trans hle30).trans hle31).trans hle32).trans hle33).trans hle34).trans hle35)) k2 (by omega) Zcl QY rfl rfl rfl rfl (fun p7 x4 hx4 he4=>?_)
          obtain ⟨cs5,hc11,hr8⟩:=he4
          have qo11:=ZaE hr8
          obtain ⟨v16,rfl,hs14,Zbk,ZbJ⟩:=qo11
          refine Zc hS47 hc11 [v16, .int .i64 x4.t.a, .int .i64 x4.t.b] QY rfl rfl rfl rfl rfl ?_
          refine WL.alloc hS47 QY rfl rfl (fun b6 w41 hn6 hS49=>?_)
          refine WL.store hS49 0 _ _ _ 0 _ [v16, .int .i64 x4.t.a, .int .i64 x4.t.b] [v16, .int .i64 x4.t.a, .int .i64 x4.t.b] _ rfl rfl QY rfl (Nat.le_of_ble_eq_true rfl) (by simp only [List.all_cons,List.all_nil,hs14.oneC,Bool.true_and] <;> rfl) rfl rfl rfl rfl rfl (fun w42 hS50=>?_)
          have qo12:=hS50.shutB hn6
          obtain ⟨G36,hle36,hc12,hS51⟩:=qo12
          refine Zb hS51 (Xl.drop 0 hc12) ZG rfl rfl rfl ?_
          refine Zj hS51 ZaK rfl rfl rfl (XK hS51.imm x4.v x3 _ (hs14.mono hle36) _ (hs13.mono (((((hle31.trans hle32).trans hle33).trans hle34).trans hle35).trans hle36))) (fun w43 G37 hS52 hle37=>?_)
          refine WL.split (fun (h17 : (decide (x4.v = x3)) = true)=>?_) (fun (h17 : (decide (x4.v = x3)) = false)=>?_)
          ·refine Zc hS52 (Xl.drop 1 (hc12.mono hle37)) [.int .i64 x4.t.a, .int .i64 x4.t.b] Zt rfl rfl rfl rfl rfl ?_
           refine WL.buildSlice _ [(0,[.int .i64 x4.t.a, .int .i64 x4.t.b])] [.int .i64 x4.t.a, .int .i64 x4.t.b] hS52 Yn rfl rfl rfl rfl (fun z hz=>by match z,hz with | [z0,z1],_=>rfl) (fun b7 w44 hn7 hS53=>?_)
           refine WL.push (m:=([x4.t] : List Span)) Yn rfl rfl rfl (hr7.mono (hle36.trans hle37)) hS53 1 rfl 0 _ _ _ _ _ rfl ⟨[.int .i64 x4.t.a, .int .i64 x4.t.b],_,rfl,(Zs x4.t Zbk ZbJ),rfl⟩ rfl (by have hreach : reach = 140737488355328:=rfl; simp only [List.length_append,List.length_cons,List.length_nil]; omega) (by have hreach : reach = 140737488355328:=rfl; simp only [List.length_append,List.length_cons,List.length_nil]; omega) rfl rfl rfl (fun v17 o4 w45 hr9 hS54=>?_)
           have hS55:=hS54.tail
           refine Zk k2 (by have hreach : reach = 140737488355328:=rfl; omega) rfl rfl rfl ?_
           exact BK.mk' _ ⟨k2 + 1,v17,o4,G37,rfl,(hle35.trans (hle36.trans hle37)),hS55,(ZS.cast hr9 (by (first | exact (Zb2 ‹_› ‹_›).symm | exact (ZbV ‹_› ‹_›).symm))),⟨rfl,rfl,rfl,rfl,rfl,rfl,rfl,rfl,rfl,rfl,rfl,rfl,rfl,rfl,rfl,trivial⟩,(by omega)⟩ (show (ZW t o f tx).length - (k2 + 1) < (ZW t o f tx).length - k2 by omega)
          refine Zk k2 (by have hreach : reach = 140737488355328:=rfl; omega) rfl rfl rfl ?_
          exact BK.mk' _ ⟨k2 + 1,v15,o3,G37,rfl,(hle35.trans (hle36.trans hle37)),hS52,(ZS.cast (hr7.mono (hle36.trans hle37)) (by (first | exact (Zb2 ‹_› ‹_›).symm | exact (ZbV ‹_› ‹_›).symm))),⟨rfl,rfl,rfl,rfl,rfl,rfl,rfl,rfl,rfl,rfl,rfl,rfl,rfl,rfl,rfl,trivial⟩,(by omega)⟩ (show (ZW t o f tx).length - (k2 + 1) < (ZW t o f tx).length - k2 by omega)
         have qo13:=ZS.freeze hr7 hS47 0 rfl
         obtain ⟨G38,hle38,hs15,hS56⟩:=qo13
         have htm:=Sl.cast (l':=ZV (ZW t o f tx) x3) hs15 (by rw [List.take_of_length_le (by omega)])
         have htl9:=ZjQ (f:=f) (tx:=tx) (v:=x3) (ZdH (by assumption : Xq t = true)).1 (ZdH (by assumption : Xq o = true)).1 (by assumption : Zm t = true) (by assumption : Zm o = true)
         refine Zj hS56 Zf1 rfl rfl rfl (Zaw hS56.imm (ZV (ZW t o f tx) x3) _ htm hgt9.1 hgt9.2.1 htl9) (fun w46 G39 hS57 hle39=>?_)
         refine Zj hS57 ZiS rfl rfl rfl (Zex hS57.imm (ZV (ZW t o f tx) x3) y _ (htm.mono hle39) hgt9.1 hgt9.2.1 htl9) (fun w47 G40 hS58 hle40=>?_)
         refine Y4 (Y0 (ZV (ZW t o f tx) x3) y) ((Zz o y tx).any (fun x8=>decide (YO (Schema.mk o.s.name o.s.cols o.s.key o.s.fks) x8 = (YY t.s f.cols x3)))) ul4 rfl rfl rfl ?_
         refine WL.split (fun (h18 : ((Y0 (ZV (ZW t o f tx) x3) y) == ((Zz o y tx).any (fun x8=>decide (YO (Schema.mk o.s.name o.s.cols o.s.key o.s.fks) x8 = (YY t.s f.cols x3))))) = true)=>?_) (fun (h18 : ((Y0 (ZV (ZW t o f tx) x3) y) == ((Zz o y tx).any (fun x8=>decide (YO (Schema.mk o.s.name o.s.cols o.s.key o.s.fks) x8 = (YY t.s f.cols x3))))) = false)=>?_)
         ·exact RB hS58 rfl (by first | with_reducible rfl | exact absurd ‹_› (X0 ‹_› ‹_› ‹_› ‹_› ‹_›) | exact tf ‹_› (Q3 hgt9.2.2))
         refine Zk k1 (by have hreach : reach = 140737488355328:=rfl; omega) rfl rfl rfl ?_
         have hS59:=hS58.tail
         exact BK.mk' _ ⟨k1 + 1,G40,rfl,(hle30.trans (((((((hle31.trans hle32).trans hle33).trans hle34).trans hle35).trans hle38).trans hle39).trans hle40)),hS59,⟨rfl,rfl,rfl,rfl,rfl,rfl,rfl,rfl,rfl,trivial⟩,(by omega)⟩ (show (Zz t y tx).length - (k1 + 1) < (Zz t y tx).length - k1 by omega)
        exact RB hS40 rfl (by first | with_reducible rfl | exact absurd ‹_› (X0 ‹_› ‹_› ‹_› ‹_› ‹_›) | exact tf ‹_› (Q3 hgt9.2.2))
       refine Zj hS12 Yq rfl rfl rfl (X9 hS12.imm) (fun w48 G41 hS60 hle41=>?_)
       exact RB hS60 rfl (by first | with_reducible rfl | exact absurd ‹_› (X0 ‹_› ‹_› ‹_› ‹_› ‹_›) | exact tf ‹_› (Q3 hgt9.2.2))
      refine Zj hS11 Yq rfl rfl rfl (X9 hS11.imm) (fun w49 G42 hS61 hle42=>?_)
      exact RB hS61 rfl (by first | with_reducible rfl | exact absurd ‹_› (X0 ‹_› ‹_› ‹_› ‹_› ‹_›) | exact tf ‹_› (Q3 hgt9.2.2))
     refine Zj hS10 Yq rfl rfl rfl (X9 hS10.imm) (fun w50 G43 hS62 hle43=>?_)
     exact RB hS62 rfl (by first | with_reducible rfl | exact absurd ‹_› (X0 ‹_› ‹_› ‹_› ‹_› ‹_›) | exact tf ‹_› (Q3 hgt9.2.2))
    refine Zj hS8 Yq rfl rfl rfl (X9 hS8.imm) (fun w51 G44 hS63 hle44=>?_)
    exact RB hS63 rfl (by first | with_reducible rfl | exact absurd ‹_› (X0 ‹_› ‹_› ‹_› ‹_› ‹_›) | exact tf ‹_› (Q3 hgt9.2.2))
   refine Zj hS7 Yq rfl rfl rfl (X9 hS7.imm) (fun w52 G45 hS64 hle45=>?_)
   exact RB hS64 rfl (by first | with_reducible rfl | exact absurd ‹_› (X0 ‹_› ‹_› ‹_› ‹_› ‹_›) | exact tf ‹_› (Q3 hgt9.2.2))
  refine Zj hS6 Yq rfl rfl rfl (X9 hS6.imm) (fun w53 G46 hS65 hle46=>?_)
  exact RB hS65 rfl (by first | with_reducible rfl | exact absurd ‹_› (X0 ‹_› ‹_› ‹_› ‹_› ‹_›) | exact tf ‹_› (Q3 hgt9.2.2))
 refine Zj hS5 Yq rfl rfl rfl (X9 hS5.imm) (fun w54 G47 hS66 hle47=>?_)
 exact RB hS66 rfl (by first | with_reducible rfl | exact absurd ‹_› (X0 ‹_› ‹_› ‹_› ‹_› ‹_›) | exact tf ‹_› (Q3 hgt9.2.2))
end Go.Civ
