/- Lemmas. -/
import Derived.Test.YthgeclodflmiaaaGreatM38
import Derived.Test.YthgeclodflmiaaaGreatM41
import Derived.Test.YthgeclodflmiaaaGreatM43
import Derived.Test.YthgeclodflmiaaaGreatProg
import Derived.KernelRfl
import Derived.WalkKit
set_option linter.unusedVariables false
set_option linter.unusedSimpArgs false
set_option maxRecDepth 100000
set_option maxHeartbeats 4000000
namespace Go.Civ
open Go.Proofs
theorem Ze2 {G : GH} {w : World} (hG : G.In w) (t o : Table) (f : Foreign) (tx : Int) (ct : List Value) (hct : TableE.rep G t ct) (cu : List Value) (hcu : TableE.rep G o cu) (cf : List Value) (hcf : ForeignE.rep G f cf) : CL Tryz.prog (nat_lit 6) #[.agg ct.toArray, .agg cu.toArray, .agg cf.toArray, .int .i64 tx] [] w G fun _ _ r=>r = .bool true:=by
 refine Zg ft [] Tryz.func6 rfl rfl ?_
 have hS:=St.start (X:=[]) hG
 obtain ⟨v1,v2,v3,rfl,hb1,hs1,hb2,hs2,hs3,hb3⟩:=Z1 hct
 obtain ⟨v4,v5,v6,rfl,hb4,hs4,hb5,hs5,hs6,hb6⟩:=Z1 hcu
 obtain ⟨v7,rfl,hs7,hb7⟩:=Y6 hcf
 refine Zu [Zd t.s.name,v1, .int .i64 t.s.key,v2,v3, .int .i64 t.last] _ hS rfl rfl rfl (fun p1 w1 G1 hle1 hsp1 hc1 hS1=>?_)
 refine Zu [Zd o.s.name,v4, .int .i64 o.s.key,v5,v6, .int .i64 o.last] _ hS1 rfl rfl rfl (fun p2 w2 G2 hle2 hsp2 hc2 hS2=>?_)
 refine Zu [v7,Zd f.table] _ hS2 rfl rfl rfl (fun p3 w3 G3 hle3 hsp3 hc3 hS3=>?_)
 refine Zm hS3 Y4 rfl rfl rfl (Zf7 hS3.imm) (fun w4 G4 hS4 hle4=>?_)
 refine Zc hS4 (hc1.mono ((hle2.trans hle3).trans hle4)) [Zd t.s.name,v1, .int .i64 t.s.key,v2,v3, .int .i64 t.last] Zv rfl rfl rfl rfl rfl ?_
 refine Zm hS4 Xf rfl rfl rfl (Zl9 hS4.imm t _ (Zq t hb1 (hs1.mono (((hle1.trans hle2).trans hle3).trans hle4)) hb2 (hs2.mono (((hle1.trans hle2).trans hle3).trans hle4)) (hs3.mono (((hle1.trans hle2).trans hle3).trans hle4)) hb3)) (fun w5 G5 hS5 hle5=>?_)
 refine WL.split (fun (h1 : (Zb3 t) = true)=>?_) (fun (h1 : (Zb3 t) = false)=>?_)
 ·refine Zc hS5 (hc2.mono ((hle3.trans hle4).trans hle5)) [Zd o.s.name,v4, .int .i64 o.s.key,v5,v6, .int .i64 o.last] Zv rfl rfl rfl rfl rfl ?_
  refine Zm hS5 Xf rfl rfl rfl (Zl9 hS5.imm o _ (Zq o hb4 (hs4.mono ((((hle1.trans hle2).trans hle3).trans hle4).trans hle5)) hb5 (hs5.mono ((((hle1.trans hle2).trans hle3).trans hle4).trans hle5)) (hs6.mono ((((hle1.trans hle2).trans hle3).trans hle4).trans hle5)) hb6)) (fun w6 G6 hS6 hle6=>?_)
  refine WL.split (fun (h2 : (Zb3 o) = true)=>?_) (fun (h2 : (Zb3 o) = false)=>?_)
  ·refine Za hS6 (XV.drop 0 (hc3.mono ((hle4.trans hle5).trans hle6))) QG rfl rfl rfl ?_
   have bd1:=hs7.bound
   refine Zi (hs7.mono (((((hle1.trans hle2).trans hle3).trans hle4).trans hle5).trans hle6)) Xa rfl rfl ?_
   refine YP (f.cols.length : Int) 20 rfl rfl rfl (fun h3=>?_) (fun h3=>?_)
   ·refine Zm hS6 Y4 rfl rfl rfl (Zf7 hS6.imm) (fun w7 G7 hS7 hle7=>?_)
    exact RB hS7 rfl (by with_reducible rfl)
   refine Zc hS6 (hc1.mono ((((hle2.trans hle3).trans hle4).trans hle5).trans hle6)) [Zd t.s.name,v1, .int .i64 t.s.key,v2,v3, .int .i64 t.last] Zv rfl rfl rfl rfl rfl <| Zc hS6 (hc2.mono (((hle3.trans hle4).trans hle5).trans hle6)) [Zd o.s.name,v4, .int .i64 o.s.key,v5,v6, .int .i64 o.last] Zv rfl rfl rfl rfl rfl <| Zc hS6 (hc3.mono ((hle4.trans hle5).trans hle6)) [v7,Zd f.table] Qr rfl rfl rfl rfl rfl <| Z3 hS6 Zj4 rfl rfl rfl (ZoS hS6.imm t o f _ (Zq t hb1 (hs1.mono (((((hle1.trans hle2).trans hle3).trans hle4).trans hle5).trans hle6)) hb2 (hs2.mono (((((hle1.trans hle2).trans hle3).trans hle4).trans hle5).trans hle6)) (hs3.mono (((((hle1.trans hle2).trans hle3).trans hle4).trans hle5).trans hle6)) hb3) _ (Zq o hb4 (hs4.mono (((((hle1.trans hle2).trans hle3).trans hle4).trans hle5).trans hle6)) hb5 (hs5.mono (((((hle1.trans hle2).trans hle3).trans hle4).trans hle5).trans hle6)) (hs6.mono (((((hle1.trans hle2).trans hle3).trans hle4).trans hle5).trans hle6)) hb6) _ (Xw f (hs7.mono (((((hle1.trans hle2).trans hle3).trans hle4).trans hle5).trans hle6)) hb7)) ?_
   rintro w9 G9 _ ⟨r2,_,rfl,hs8,rfl⟩ hS8 hle9
   obtain ⟨cs1,rfl,hr1⟩:=hs8
   obtain ⟨v9,rfl,hs9,hb8,hb9,hb10,YT⟩:=Z0 hr1
   refine WL.alloc hS8 Zr rfl rfl (fun b1 w10 hn1 hS9=>?_)
   refine WL.store hS9 0 _ _ _ 0 _ [v9, .int .i64 ((Y1 t o f).r.d.a), .int .i64 ((Y1 t o f).r.d.b), .int .i64 ((Y1 t o f).r.x.a), .int .i64 ((Y1 t o f).r.x.b)] [v9, .int .i64 ((Y1 t o f).r.d.a), .int .i64 ((Y1 t o f).r.d.b), .int .i64 ((Y1 t o f).r.x.a), .int .i64 ((Y1 t o f).r.x.b)] _ rfl rfl Zr rfl (Nat.le_of_ble_eq_true rfl) (by simp only [List.all_cons,List.all_nil,hs9.oneC,Bool.true_and] <;> rfl) rfl rfl rfl rfl rfl (fun w11 hS10=>?_)
   obtain ⟨G10,hle10,hc4,hS11⟩:=hS10.shutB hn1
   refine Zc hS11 (hc1.mono ((((((hle2.trans hle3).trans hle4).trans hle5).trans hle6).trans hle9).trans hle10)) [Zd t.s.name,v1, .int .i64 t.s.key,v2,v3, .int .i64 t.last] Zv rfl rfl rfl rfl rfl <| Zc hS11 (hc2.mono (((((hle3.trans hle4).trans hle5).trans hle6).trans hle9).trans hle10)) [Zd o.s.name,v4, .int .i64 o.s.key,v5,v6, .int .i64 o.last] Zv rfl rfl rfl rfl rfl <| Zc hS11 (hc3.mono ((((hle4.trans hle5).trans hle6).trans hle9).trans hle10)) [v7,Zd f.table] Qr rfl rfl rfl rfl rfl ?_
   refine Z3 hS11 Zps rfl rfl rfl (Zuf hS11.imm t o f tx _ (Zq t hb1 (hs1.mono (((((((hle1.trans hle2).trans hle3).trans hle4).trans hle5).trans hle6).trans hle9).trans hle10)) hb2 (hs2.mono (((((((hle1.trans hle2).trans hle3).trans hle4).trans hle5).trans hle6).trans hle9).trans hle10)) (hs3.mono (((((((hle1.trans hle2).trans hle3).trans hle4).trans hle5).trans hle6).trans hle9).trans hle10)) hb3) _ (Zq o hb4 (hs4.mono (((((((hle1.trans hle2).trans hle3).trans hle4).trans hle5).trans hle6).trans hle9).trans hle10)) hb5 (hs5.mono (((((((hle1.trans hle2).trans hle3).trans hle4).trans hle5).trans hle6).trans hle9).trans hle10)) (hs6.mono (((((((hle1.trans hle2).trans hle3).trans hle4).trans hle5).trans hle6).trans hle9).trans hle10)) hb6) _ (Xw f (hs7.mono (((((((hle1.trans hle2).trans hle3).trans hle4).trans hle5).trans hle6).trans hle9).trans hle10)) hb7)) (fun w12 G11 r4 hpost2 hS12 hle11=>?_)
   refine Zc hS12 (hc1.mono (((((((hle2.trans hle3).trans hle4).trans hle5).trans hle6).trans hle9).trans hle10).trans hle11)) [Zd t.s.name,v1, .int .i64 t.s.key,v2,v3, .int .i64 t.last] Zv rfl rfl rfl rfl rfl ?_
   refine Zm hS12 Xm rfl rfl rfl (Q8 hS12.imm t _ (Zq t hb1 (hs1.mono ((((((((hle1.trans hle2).trans hle3).trans hle4).trans hle5).trans hle6).trans hle9).trans hle10).trans hle11)) hb2 (hs2.mono ((((((((hle1.trans hle2).trans hle3).trans hle4).trans hle5).trans hle6).trans hle9).trans hle10).trans hle11)) (hs3.mono ((((((((hle1.trans hle2).trans hle3).trans hle4).trans hle5).trans hle6).trans hle9).trans hle10).trans hle11)) hb3)) (fun w13 G12 hS13 hle12=>?_)
   refine WL.split (fun (h4 : (Zo t) = true)=>?_) (fun (h4 : (Zo t) = false)=>?_)
   ·refine Zc hS13 (hc2.mono (((((((hle3.trans hle4).trans hle5).trans hle6).trans hle9).trans hle10).trans hle11).trans hle12)) [Zd o.s.name,v4, .int .i64 o.s.key,v5,v6, .int .i64 o.last] Zv rfl rfl rfl rfl rfl ?_
    refine Zm hS13 Xm rfl rfl rfl (Q8 hS13.imm o _ (Zq o hb4 (hs4.mono (((((((((hle1.trans hle2).trans hle3).trans hle4).trans hle5).trans hle6).trans hle9).trans hle10).trans hle11).trans hle12)) hb5 (hs5.mono (((((((((hle1.trans hle2).trans hle3).trans hle4).trans hle5).trans hle6).trans hle9).trans hle10).trans hle11).trans hle12)) (hs6.mono (((((((((hle1.trans hle2).trans hle3).trans hle4).trans hle5).trans hle6).trans hle9).trans hle10).trans hle11).trans hle12)) hb6)) (fun w14 G13 hS14 hle13=>?_)
    refine WL.split (fun (h5 : (Zo o) = true)=>?_) (fun (h5 : (Zo o) = false)=>?_)
    ·refine Zc hS14 (XV.drop 0 (hc1.mono (((((((((hle2.trans hle3).trans hle4).trans hle5).trans hle6).trans hle9).trans hle10).trans hle11).trans hle12).trans hle13))) [Zd t.s.name,v1, .int .i64 t.s.key,v2] XG rfl rfl rfl rfl rfl <| Zc hS14 (XV.drop 0 (hc2.mono ((((((((hle3.trans hle4).trans hle5).trans hle6).trans hle9).trans hle10).trans hle11).trans hle12).trans hle13))) [Zd o.s.name,v4, .int .i64 o.s.key,v5] XG rfl rfl rfl rfl rfl <| Zc hS14 (hc3.mono (((((((hle4.trans hle5).trans hle6).trans hle9).trans hle10).trans hle11).trans hle12).trans hle13)) [v7,Zd f.table] Qr rfl rfl rfl rfl rfl ?_
     refine Zm hS14 ZlX rfl rfl rfl (ZsB hS14.imm t.s o.s f _ (Yb t.s hb1 (hs1.mono ((((((((((hle1.trans hle2).trans hle3).trans hle4).trans hle5).trans hle6).trans hle9).trans hle10).trans hle11).trans hle12).trans hle13)) hb2 (hs2.mono ((((((((((hle1.trans hle2).trans hle3).trans hle4).trans hle5).trans hle6).trans hle9).trans hle10).trans hle11).trans hle12).trans hle13))) _ (Yb o.s hb4 (hs4.mono ((((((((((hle1.trans hle2).trans hle3).trans hle4).trans hle5).trans hle6).trans hle9).trans hle10).trans hle11).trans hle12).trans hle13)) hb5 (hs5.mono ((((((((((hle1.trans hle2).trans hle3).trans hle4).trans hle5).trans hle6).trans hle9).trans hle10).trans hle11).trans hle12).trans hle13))) _ (Xw f (hs7.mono ((((((((((hle1.trans hle2).trans hle3).trans hle4).trans hle5).trans hle6).trans hle9).trans hle10).trans hle11).trans hle12).trans hle13)) hb7) (Yz (by assumption : Zo t = true)).1 (Yz (by assumption : Zo o = true)).1) (fun w15 G14 hS15 hle14=>?_)
     refine WL.split (fun (h6 : (Xd t.s o.s f) = true)=>?_) (fun (h6 : (Xd t.s o.s f) = false)=>?_)
     ·refine Zc hS15 (hc1.mono ((((((((((hle2.trans hle3).trans hle4).trans hle5).trans hle6).trans hle9).trans hle10).trans hle11).trans hle12).trans hle13).trans hle14)) [Zd t.s.name,v1, .int .i64 t.s.key,v2,v3, .int .i64 t.last] Zv rfl rfl rfl rfl rfl <| Zc hS15 (hc2.mono (((((((((hle3.trans hle4).trans hle5).trans hle6).trans hle9).trans hle10).trans hle11).trans hle12).trans hle13).trans hle14)) [Zd o.s.name,v4, .int .i64 o.s.key,v5,v6, .int .i64 o.last] Zv rfl rfl rfl rfl rfl <| Zc hS15 (hc3.mono ((((((((hle4.trans hle5).trans hle6).trans hle9).trans hle10).trans hle11).trans hle12).trans hle13).trans hle14)) [v7,Zd f.table] Qr rfl rfl rfl rfl rfl ?_
      refine Z3 hS15 ZlY rfl rfl rfl (Zum hS15.imm t o f (-62135596800) _ (Zq t hb1 (hs1.mono (((((((((((hle1.trans hle2).trans hle3).trans hle4).trans hle5).trans hle6).trans hle9).trans hle10).trans hle11).trans hle12).trans hle13).trans hle14)) hb2 (hs2.mono (((((((((((hle1.trans hle2).trans hle3).trans hle4).trans hle5).trans hle6).trans hle9).trans hle10).trans hle11).trans hle12).trans hle13).trans hle14)) (hs3.mono (((((((((((hle1.trans hle2).trans hle3).trans hle4).trans hle5).trans hle6).trans hle9).trans hle10).trans hle11).trans hle12).trans hle13).trans hle14)) hb3) _ (Zq o hb4 (hs4.mono (((((((((((hle1.trans hle2).trans hle3).trans hle4).trans hle5).trans hle6).trans hle9).trans hle10).trans hle11).trans hle12).trans hle13).trans hle14)) hb5 (hs5.mono (((((((((((hle1.trans hle2).trans hle3).trans hle4).trans hle5).trans hle6).trans hle9).trans hle10).trans hle11).trans hle12).trans hle13).trans hle14)) (hs6.mono (((((((((((hle1.trans hle2).trans hle3).trans hle4).trans hle5).trans hle6).trans hle9).trans hle10).trans hle11).trans hle12).trans hle13).trans hle14)) hb6) _ (Xw f (hs7.mono (((((((((((hle1.trans hle2).trans hle3).trans hle4).trans hle5).trans hle6).trans hle9).trans hle10).trans hle11).trans hle12).trans hle13).trans hle14)) hb7) (show Zz (-62135596800) from by constructor <;> decide) (by decide) ‹_› ‹_› (Zbi ‹_› ‹_› ‹_›)) ?_
      rintro w16 G15 _ ⟨r6,_,rfl,hs10,rfl⟩ hS16 hle15
      obtain ⟨cs2,rfl,hr2⟩:=hs10
      obtain ⟨v10,rfl,hs11,Zau,Zbo,Zc5,Zdj⟩:=Z0 hr2
      refine WL.alloc hS16 Zr rfl rfl (fun b2 w17 hn2 hS17=>?_)
      refine WL.store hS17 0 _ _ _ 0 _ [v10, .int .i64 ((ZJ (YH t o f (-62135596800))).r.d.a), .int .i64 ((ZJ (YH t o f (-62135596800))).r.d.b), .int .i64 ((ZJ (YH t o f (-62135596800))).r.x.a), .int .i64 ((ZJ (YH t o f (-62135596800))).r.x.b)] [v10, .int .i64 ((ZJ (YH t o f (-62135596800))).r.d.a), .int .i64 ((ZJ (YH t o f (-62135596800))).r.d.b), .int .i64 ((ZJ (YH t o f (-62135596800))).r.x.a), .int .i64 ((ZJ (YH t o f (-62135596800))).r.x.b)] _ rfl rfl Zr rfl (Nat.le_of_ble_eq_true rfl) (by simp only [List.all_cons,List.all_nil,hs11.oneC,Bool.true_and] <;> rfl) rfl rfl rfl rfl rfl (fun w18 hS18=>?_)
      obtain ⟨G16,hle16,hc5,hS19⟩:=hS18.shutB hn2
      refine YN (QK t o f) ((YH t o f (-62135596800)).isSome) ul4 rfl rfl rfl ?_
      refine WL.split (fun (h7 : ((QK t o f) == ((YH t o f (-62135596800)).isSome)) = true)=>?_) (fun (h7 : ((QK t o f) == ((YH t o f (-62135596800)).isSome)) = false)=>?_)
      ·exact RB hS19 rfl (by with_reducible exact tf ‹_› (ZsC (t:=t) (o:=o) (f:=f) ‹_› ‹_› ‹_›))
      refine Zc hS19 (hc4.mono (((((hle11.trans hle12).trans hle13).trans hle14).trans hle15).trans hle16)) [v9, .int .i64 ((Y1 t o f).r.d.a), .int .i64 ((Y1 t o f).r.d.b), .int .i64 ((Y1 t o f).r.x.a), .int .i64 ((Y1 t o f).r.x.b)] Zr rfl rfl rfl rfl rfl <| Zc hS19 hc5 [v10, .int .i64 ((ZJ (YH t o f (-62135596800))).r.d.a), .int .i64 ((ZJ (YH t o f (-62135596800))).r.d.b), .int .i64 ((ZJ (YH t o f (-62135596800))).r.x.a), .int .i64 ((ZJ (YH t o f (-62135596800))).r.x.b)] Zr rfl rfl rfl rfl rfl ?_
      refine Zm hS19 ZaI rfl rfl rfl (ZtW hS19.imm (Y1 t o f) (ZJ (YH t o f (-62135596800))) _ (ZH (Y1 t o f) (hs9.mono ((((((hle10.trans hle11).trans hle12).trans hle13).trans hle14).trans hle15).trans hle16)) hb8 hb9 hb10 YT) _ (ZH (ZJ (YH t o f (-62135596800))) (hs11.mono hle16) Zau Zbo Zc5 Zdj)) (fun w19 G17 hS20 hle17=>?_)
      refine WL.split (fun (h8 : (Zdd (Y1 t o f) (ZJ (YH t o f (-62135596800)))) = true)=>?_) (fun (h8 : (Zdd (Y1 t o f) (ZJ (YH t o f (-62135596800)))) = false)=>?_)
      ·refine Zm hS20 ZlZ rfl rfl rfl (Zs3 hS20.imm tx) (fun w20 G18 hS21 hle18=>?_)
       refine WL.split (fun (h9 : (ZM tx) = true)=>?_) (fun (h9 : (ZM tx) = false)=>?_)
       ·refine Zc hS21 (hc1.mono ((((((((((((((hle2.trans hle3).trans hle4).trans hle5).trans hle6).trans hle9).trans hle10).trans hle11).trans hle12).trans hle13).trans hle14).trans hle15).trans hle16).trans hle17).trans hle18)) [Zd t.s.name,v1, .int .i64 t.s.key,v2,v3, .int .i64 t.last] Zv rfl rfl rfl rfl rfl <| Zc hS21 (hc2.mono (((((((((((((hle3.trans hle4).trans hle5).trans hle6).trans hle9).trans hle10).trans hle11).trans hle12).trans hle13).trans hle14).trans hle15).trans hle16).trans hle17).trans hle18)) [Zd o.s.name,v4, .int .i64 o.s.key,v5,v6, .int .i64 o.last] Zv rfl rfl rfl rfl rfl <| Zc hS21 (hc3.mono ((((((((((((hle4.trans hle5).trans hle6).trans hle9).trans hle10).trans hle11).trans hle12).trans hle13).trans hle14).trans hle15).trans hle16).trans hle17).trans hle18)) [v7,Zd f.table] Qr rfl rfl rfl rfl rfl ?_
        refine Z3 hS21 Zv2 rfl rfl rfl (ZsD hS21.imm t o f tx _ (Zq t hb1 (hs1.mono (((((((((((((((hle1.trans hle2).trans hle3).trans hle4).trans hle5).trans hle6).trans hle9).trans hle10).trans hle11).trans hle12).trans hle13).trans hle14).trans hle15).trans hle16).trans hle17).trans hle18)) hb2 (hs2.mono (((((((((((((((hle1.trans hle2).trans hle3).trans hle4).trans hle5).trans hle6).trans hle9).trans hle10).trans hle11).trans hle12).trans hle13).trans hle14).trans hle15).trans hle16).trans hle17).trans hle18)) (hs3.mono (((((((((((((((hle1.trans hle2).trans hle3).trans hle4).trans hle5).trans hle6).trans hle9).trans hle10).trans hle11).trans hle12).trans hle13).trans hle14).trans hle15).trans hle16).trans hle17).trans hle18)) hb3) _ (Zq o hb4 (hs4.mono (((((((((((((((hle1.trans hle2).trans hle3).trans hle4).trans hle5).trans hle6).trans hle9).trans hle10).trans hle11).trans hle12).trans hle13).trans hle14).trans hle15).trans hle16).trans hle17).trans hle18)) hb5 (hs5.mono (((((((((((((((hle1.trans hle2).trans hle3).trans hle4).trans hle5).trans hle6).trans hle9).trans hle10).trans hle11).trans hle12).trans hle13).trans hle14).trans hle15).trans hle16).trans hle17).trans hle18)) (hs6.mono (((((((((((((((hle1.trans hle2).trans hle3).trans hle4).trans hle5).trans hle6).trans hle9).trans hle10).trans hle11).trans hle12).trans hle13).trans hle14).trans hle15).trans hle16).trans hle17).trans hle18)) hb6) _ (Xw f (hs7.mono (((((((((((((((hle1.trans hle2).trans hle3).trans hle4).trans hle5).trans hle6).trans hle9).trans hle10).trans hle11).trans hle12).trans hle13).trans hle14).trans hle15).trans hle16).trans hle17).trans hle18)) hb7) ‹_› ‹_› (Zbi ‹_› ‹_› ‹_›)) (fun w21 G19 r8 hpost4 hS22 hle19=>?_)
        refine Zm hS22 Zpt rfl rfl rfl (Zq3 hS22.imm (Zam t o f tx) (Zhw t o f tx) _ (hpost2.mono (((((((hle12.trans hle13).trans hle14).trans hle15).trans hle16).trans hle17).trans hle18).trans hle19)) _ hpost4) (fun w22 G20 hS23 hle20=>?_)
        exact RB hS23 rfl (by with_reducible exact decide_eq_true (ZqG (t:=t) (o:=o) (f:=f) (tx:=tx) ‹_› ‹_› ‹_› ‹_›))
       have bd2:=hpost2.bound
       refine Zi (hpost2.mono ((((((hle12.trans hle13).trans hle14).trans hle15).trans hle16).trans hle17).trans hle18)) YS rfl rfl <| ZZ .eql rfl .i64 (((Zam t o f tx).length : Nat) : Int) 0 rfl rfl rfl ?_
       exact RB hS21 rfl (by with_reducible exact ZqF ‹_›)
      exact RB hS20 rfl (by with_reducible exact tf (ZkF (t:=t) (o:=o) (f:=f) ‹_› ‹_› ‹_›).2 ‹_›)
     refine XD (d:=10) rfl (fun (h10 : (QK t o f) = true)=>?_) (fun (h10 : (QK t o f) = false)=>?_)
     ·exact RB hS15 rfl (by with_reducible exact tf ‹_› (Zab (t:=t) (o:=o) (f:=f) (tx:=tx) (by first | exact .inl ‹_› | exact .inr (.inl ‹_›) | exact .inr (.inr ‹_›))).1)
     refine Zc hS15 (hc4.mono (((hle11.trans hle12).trans hle13).trans hle14)) [v9, .int .i64 ((Y1 t o f).r.d.a), .int .i64 ((Y1 t o f).r.d.b), .int .i64 ((Y1 t o f).r.x.a), .int .i64 ((Y1 t o f).r.x.b)] Zr rfl rfl rfl rfl rfl ?_
     refine Zm hS15 QI rfl rfl rfl (Zk5 hS15.imm (Y1 t o f) _ (ZH (Y1 t o f) (hs9.mono ((((hle10.trans hle11).trans hle12).trans hle13).trans hle14)) hb8 hb9 hb10 YT)) (fun w23 G21 hS24 hle21=>?_)
     refine WL.split (fun (h11 : (Zb2 (Y1 t o f)) = true)=>?_) (fun (h11 : (Zb2 (Y1 t o f)) = false)=>?_)
     ·have bd3:=hpost2.bound
      refine Zi (hpost2.mono (((hle12.trans hle13).trans hle14).trans hle21)) YS rfl rfl <| ZZ .eql rfl .i64 (((Zam t o f tx).length : Nat) : Int) 0 rfl rfl rfl ?_
      exact RB hS24 rfl (by with_reducible exact (Zab (t:=t) (o:=o) (f:=f) (tx:=tx) (by first | exact .inl ‹_› | exact .inr (.inl ‹_›) | exact .inr (.inr ‹_›))).2.2)
     exact RB hS24 rfl (by with_reducible exact tf (Zab (t:=t) (o:=o) (f:=f) (tx:=tx) (by first | exact .inl ‹_› | exact .inr (.inl ‹_›) | exact .inr (.inr ‹_›))).2.1 ‹_›)
    refine XD (d:=10) rfl (fun (h12 : (QK t o f) = true)=>?_) (fun (h12 : (QK t o f) = false)=>?_)
    ·exact RB hS14 rfl (by with_reducible exact tf ‹_› (Zab (t:=t) (o:=o) (f:=f) (tx:=tx) (by first | exact .inl ‹_› | exact .inr (.inl ‹_›) | exact .inr (.inr ‹_›))).1)
    refine Zc hS14 (hc4.mono ((hle11.trans hle12).trans hle13)) [v9, .int .i64 ((Y1 t o f).r.d.a), .int .i64 ((Y1 t o f).r.d.b), .int .i64 ((Y1 t o f).r.x.a), .int .i64 ((Y1 t o f).r.x.b)] Zr rfl rfl rfl rfl rfl ?_
    refine Zm hS14 QI rfl rfl rfl (Zk5 hS14.imm (Y1 t o f) _ (ZH (Y1 t o f) (hs9.mono (((hle10.trans hle11).trans hle12).trans hle13)) hb8 hb9 hb10 YT)) (fun w24 G22 hS25 hle22=>?_)
    refine WL.split (fun (h13 : (Zb2 (Y1 t o f)) = true)=>?_) (fun (h13 : (Zb2 (Y1 t o f)) = false)=>?_)
    ·have bd4:=hpost2.bound
     refine Zi (hpost2.mono ((hle12.trans hle13).trans hle22)) YS rfl rfl <| ZZ .eql rfl .i64 (((Zam t o f tx).length : Nat) : Int) 0 rfl rfl rfl ?_
     exact RB hS25 rfl (by with_reducible exact (Zab (t:=t) (o:=o) (f:=f) (tx:=tx) (by first | exact .inl ‹_› | exact .inr (.inl ‹_›) | exact .inr (.inr ‹_›))).2.2)
    exact RB hS25 rfl (by with_reducible exact tf (Zab (t:=t) (o:=o) (f:=f) (tx:=tx) (by first | exact .inl ‹_› | exact .inr (.inl ‹_›) | exact .inr (.inr ‹_›))).2.1 ‹_›)
   refine XD (d:=10) rfl (fun (h14 : (QK t o f) = true)=>?_) (fun (h14 : (QK t o f) = false)=>?_)
   ·exact RB hS13 rfl (by with_reducible exact tf ‹_› (Zab (t:=t) (o:=o) (f:=f) (tx:=tx) (by first | exact .inl ‹_› | exact .inr (.inl ‹_›) | exact .inr (.inr ‹_›))).1)
   refine Zc hS13 (hc4.mono (hle11.trans hle12)) [v9, .int .i64 ((Y1 t o f).r.d.a), .int .i64 ((Y1 t o f).r.d.b), .int .i64 ((Y1 t o f).r.x.a), .int .i64 ((Y1 t o f).r.x.b)] Zr rfl rfl rfl rfl rfl ?_
   refine Zm hS13 QI rfl rfl rfl (Zk5 hS13.imm (Y1 t o f) _ (ZH (Y1 t o f) (hs9.mono ((hle10.trans hle11).trans hle12)) hb8 hb9 hb10 YT)) (fun w25 G23 hS26 hle23=>?_)
   refine WL.split (fun (h15 : (Zb2 (Y1 t o f)) = true)=>?_) (fun (h15 : (Zb2 (Y1 t o f)) = false)=>?_)
   ·have bd5:=hpost2.bound
    refine Zi (hpost2.mono (hle12.trans hle23)) YS rfl rfl <| ZZ .eql rfl .i64 (((Zam t o f tx).length : Nat) : Int) 0 rfl rfl rfl ?_
    exact RB hS26 rfl (by with_reducible exact (Zab (t:=t) (o:=o) (f:=f) (tx:=tx) (by first | exact .inl ‹_› | exact .inr (.inl ‹_›) | exact .inr (.inr ‹_›))).2.2)
   exact RB hS26 rfl (by with_reducible exact tf (Zab (t:=t) (o:=o) (f:=f) (tx:=tx) (by first | exact .inl ‹_› | exact .inr (.inl ‹_›) | exact .inr (.inr ‹_›))).2.1 ‹_›)
  refine Zm hS6 Y4 rfl rfl rfl (Zf7 hS6.imm) (fun w26 G24 hS27 hle24=>?_)
  exact RB hS27 rfl (by with_reducible rfl)
 refine Zm hS5 Y4 rfl rfl rfl (Zf7 hS5.imm) (fun w27 G25 hS28 hle25=>?_)
 exact RB hS28 rfl (by with_reducible rfl)
end Go.Civ
