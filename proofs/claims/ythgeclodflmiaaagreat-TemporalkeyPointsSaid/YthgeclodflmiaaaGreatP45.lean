/- Lemmas. -/
import Derived.Test.YthgeclodflmiaaaGreatP37
import Derived.Test.YthgeclodflmiaaaGreatP42
import Derived.Test.YthgeclodflmiaaaGreatP43
import Derived.Test.YthgeclodflmiaaaGreatP44
import Derived.Test.YthgeclodflmiaaaGreatProg
import Derived.KernelRfl
import Derived.WalkKit
set_option linter.unusedVariables false
set_option linter.unusedSimpArgs false
set_option maxRecDepth 100000
set_option maxHeartbeats 4000000
namespace Go.Civ
open Go.Proofs
theorem ZdY {G : GH} {w : World} (hG : G.In w) (t o : Table) (f : Foreign) (ct : List Value) (hct : TableE.rep G t ct) (cu : List Value) (hcu : TableE.rep G o cu) (cf : List Value) (hcf : ForeignE.rep G f cf) : CL Tryz.prog (nat_lit 5) #[.agg ct.toArray, .agg cu.toArray, .agg cf.toArray] [] w G fun _ _ r=>r = .bool true:=by
 refine Zg ft [] Tryz.func5 rfl rfl ?_
 have hS:=St.start (X:=[]) hG
 have qo1:=Z0 hct
 obtain ⟨v1,v2,v3,rfl,hb1,hs1,hb2,hs2,hs3,hb3⟩:=qo1
 have qo2:=Z0 hcu
 obtain ⟨v4,v5,v6,rfl,hb4,hs4,hb5,hs5,hs6,hb6⟩:=qo2
 have qo3:=Y1 hcf
 obtain ⟨v7,rfl,hs7,hb7⟩:=qo3
 refine Zu [Zd t.s.name,v1, .int .i64 t.s.key,v2,v3, .int .i64 t.last] _ hS rfl rfl rfl (fun p1 w1 G1 hle1 hsp1 hc1 hS1=>?_)
 refine Zu [Zd o.s.name,v4, .int .i64 o.s.key,v5,v6, .int .i64 o.last] _ hS1 rfl rfl rfl (fun p2 w2 G2 hle2 hsp2 hc2 hS2=>?_)
 refine Zu [v7,Zd f.table] _ hS2 rfl rfl rfl (fun p3 w3 G3 hle3 hsp3 hc3 hS3=>?_)
 refine Zj hS3 Yq rfl rfl rfl (X9 hS3.imm) (fun w4 G4 hS4 hle4=>?_)
 refine Zc hS4 (hc1.mono ((hle2.trans hle3).trans hle4)) [Zd t.s.name,v1, .int .i64 t.s.key,v2,v3, .int .i64 t.last] Zp rfl rfl rfl rfl rfl ?_
 refine Zj hS4 Xu rfl rfl rfl (Zfd hS4.imm t _ (Zl t hb1 (hs1.mono (((hle1.trans hle2).trans hle3).trans hle4)) hb2 (hs2.mono (((hle1.trans hle2).trans hle3).trans hle4)) (hs3.mono (((hle1.trans hle2).trans hle3).trans hle4)) hb3)) (fun w5 G5 hS5 hle5=>?_)
 refine WL.split (fun (h1 : (Xq t) = true)=>?_) (fun (h1 : (Xq t) = false)=>?_)
 ·refine Zc hS5 (hc2.mono ((hle3.trans hle4).trans hle5)) [Zd o.s.name,v4, .int .i64 o.s.key,v5,v6, .int .i64 o.last] Zp rfl rfl rfl rfl rfl ?_
  refine Zj hS5 Xu rfl rfl rfl (Zfd hS5.imm o _ (Zl o hb4 (hs4.mono ((((hle1.trans hle2).trans hle3).trans hle4).trans hle5)) hb5 (hs5.mono ((((hle1.trans hle2).trans hle3).trans hle4).trans hle5)) (hs6.mono ((((hle1.trans hle2).trans hle3).trans hle4).trans hle5)) hb6)) (fun w6 G6 hS6 hle6=>?_)
  refine WL.split (fun (h2 : (Xq o) = true)=>?_) (fun (h2 : (Xq o) = false)=>?_)
  ·refine Zc hS6 (hc1.mono ((((hle2.trans hle3).trans hle4).trans hle5).trans hle6)) [Zd t.s.name,v1, .int .i64 t.s.key,v2,v3, .int .i64 t.last] Zp rfl rfl rfl rfl rfl ?_
   refine Zj hS6 QN rfl rfl rfl (XS hS6.imm t _ (Zl t hb1 (hs1.mono (((((hle1.trans hle2).trans hle3).trans hle4).trans hle5).trans hle6)) hb2 (hs2.mono (((((hle1.trans hle2).trans hle3).trans hle4).trans hle5).trans hle6)) (hs3.mono (((((hle1.trans hle2).trans hle3).trans hle4).trans hle5).trans hle6)) hb3)) (fun w7 G7 hS7 hle7=>?_)
   refine WL.split (fun (h3 : (Zm t) = true)=>?_) (fun (h3 : (Zm t) = false)=>?_)
   ·refine Zb hS7 (Xl.drop 0 (hc3.mono (((hle4.trans hle5).trans hle6).trans hle7))) XM rfl rfl rfl ?_
    have bd1:=hs7.bound
    refine Zi (hs7.mono ((((((hle1.trans hle2).trans hle3).trans hle4).trans hle5).trans hle6).trans hle7)) Y8 rfl rfl ?_
    refine YD (f.cols.length : Int) 20 rfl rfl rfl (fun h4=>?_) (fun h4=>?_)
    ·refine Zj hS7 Yq rfl rfl rfl (X9 hS7.imm) (fun w9 G9 hS8 hle9=>?_)
     exact RB hS8 rfl (by first | with_reducible rfl | with_reducible exact tf hpu.2 ‹_› | with_reducible exact absurd (congrArg (fun n : Nat=>(n : Int)) hpc.2.1) ‹_› | with_reducible exact tf hpc.2.2.1 ‹_› | exact congrArg not hpc.2.2.2 | (exfalso; omega))
    refine Zc hS7 (hc1.mono (((((hle2.trans hle3).trans hle4).trans hle5).trans hle6).trans hle7)) [Zd t.s.name,v1, .int .i64 t.s.key,v2,v3, .int .i64 t.last] Zp rfl rfl rfl rfl rfl <| Z3 hS7 Xv rfl rfl rfl (ZjJ hS7.imm t _ (Zl t hb1 (hs1.mono ((((((hle1.trans hle2).trans hle3).trans hle4).trans hle5).trans hle6).trans hle7)) hb2 (hs2.mono ((((((hle1.trans hle2).trans hle3).trans hle4).trans hle5).trans hle6).trans hle7)) (hs3.mono ((((((hle1.trans hle2).trans hle3).trans hle4).trans hle5).trans hle6).trans hle7)) hb3)) ?_
    rintro w10 G10 _ ⟨r2,_,rfl,hs8,rfl⟩ hS9 hle10
    obtain ⟨cs1,rfl,hr1⟩:=hs8
    have qo4:=ZK hr1
    obtain ⟨v9,rfl,hs9,hb8,hb9,hb10,ZbI⟩:=qo4
    refine WL.alloc hS9 Zx rfl rfl (fun b1 w11 hn1 hS10=>?_)
    refine WL.store hS10 0 _ _ _ 0 _ [v9, .int .i64 ((Z8 t).r.d.a), .int .i64 ((Z8 t).r.d.b), .int .i64 ((Z8 t).r.x.a), .int .i64 ((Z8 t).r.x.b)] [v9, .int .i64 ((Z8 t).r.d.a), .int .i64 ((Z8 t).r.d.b), .int .i64 ((Z8 t).r.x.a), .int .i64 ((Z8 t).r.x.b)] _ rfl rfl Zx rfl (Nat.le_of_ble_eq_true rfl) (by simp only [List.all_cons,List.all_nil,hs9.oneC,Bool.true_and] <;> rfl) rfl rfl rfl rfl rfl (fun w12 hS11=>?_)
    have qo5:=hS11.shutB hn1
    obtain ⟨G11,hle11,hc4,hS12⟩:=qo5
    refine XA (d:=48) rfl (fun (h5 : (YA t) = true)=>?_) (fun (h5 : (YA t) = false)=>?_)
    ·refine Zc hS12 (hc1.mono (((((((hle2.trans hle3).trans hle4).trans hle5).trans hle6).trans hle7).trans hle10).trans hle11)) [Zd t.s.name,v1, .int .i64 t.s.key,v2,v3, .int .i64 t.last] Zp rfl rfl rfl rfl rfl <| Zc hS12 (hc2.mono ((((((hle3.trans hle4).trans hle5).trans hle6).trans hle7).trans hle10).trans hle11)) [Zd o.s.name,v4, .int .i64 o.s.key,v5,v6, .int .i64 o.last] Zp rfl rfl rfl rfl rfl <| Zc hS12 (hc3.mono (((((hle4.trans hle5).trans hle6).trans hle7).trans hle10).trans hle11)) [v7,Zd f.table] XZ rfl rfl rfl rfl rfl <| Z3 hS12 ZiP rfl rfl rfl (ZeK hS12.imm t o f _ (Zl t hb1 (hs1.mono ((((((((hle1.trans hle2).trans hle3).trans hle4).trans hle5).trans hle6).trans hle7).trans hle10).trans hle11)) hb2 (hs2.mono ((((((((hle1.trans hle2).trans hle3).trans hle4).trans hle5).trans hle6).trans hle7).trans hle10).trans hle11)) (hs3.mono ((((((((hle1.trans hle2).trans hle3).trans hle4).trans hle5).trans hle6).trans hle7).trans hle10).trans hle11)) hb3) _ (Zl o hb4 (hs4.mono ((((((((hle1.trans hle2).trans hle3).trans hle4).trans hle5).trans hle6).trans hle7).trans hle10).trans hle11)) hb5 (hs5.mono ((((((((hle1.trans hle2).trans hle3).trans hle4).trans hle5).trans hle6).trans hle7).trans hle10).trans hle11)) (hs6.mono ((((((((hle1.trans hle2).trans hle3).trans hle4).trans hle5).trans hle6).trans hle7).trans hle10).trans hle11)) hb6) _ (Xc f (hs7.mono ((((((((hle1.trans hle2).trans hle3).trans hle4).trans hle5).trans hle6).trans hle7).trans hle10).trans hle11)) hb7)) ?_
     rintro w13 G12 _ ⟨r5,_,rfl,hs10,rfl⟩ hS13 hle12
     obtain ⟨cs2,rfl,hr2⟩:=hs10
     have qo6:=ZK hr2
     obtain ⟨v10,rfl,hs11,Zbk,ZbJ,Zfz,Zeg⟩:=qo6
     refine WL.alloc hS13 Zx rfl rfl (fun b2 w14 hn2 hS14=>?_)
     refine WL.store hS14 0 _ _ _ 0 _ [v10, .int .i64 ((Z5 t o f).r.d.a), .int .i64 ((Z5 t o f).r.d.b), .int .i64 ((Z5 t o f).r.x.a), .int .i64 ((Z5 t o f).r.x.b)] [v10, .int .i64 ((Z5 t o f).r.d.a), .int .i64 ((Z5 t o f).r.d.b), .int .i64 ((Z5 t o f).r.x.a), .int .i64 ((Z5 t o f).r.x.b)] _ rfl rfl Zx rfl (Nat.le_of_ble_eq_true rfl) (by simp only [List.all_cons,List.all_nil,hs11.oneC,Bool.true_and] <;> rfl) rfl rfl rfl rfl rfl (fun w15 hS15=>?_)
     have qo7:=hS15.shutB hn2
     obtain ⟨G13,hle13,hc5,hS16⟩:=qo7
     refine XA (d:=103) rfl (fun (h6 : (Q2 t o f) = true)=>?_) (fun (h6 : (Q2 t o f) = false)=>?_)
     ·exact RB hS16 rfl (by first | with_reducible rfl | with_reducible exact tf hpu.2 ‹_› | with_reducible exact absurd (congrArg (fun n : Nat=>(n : Int)) hpc.2.1) ‹_› | with_reducible exact tf hpc.2.2.1 ‹_› | exact congrArg not hpc.2.2.2 | (exfalso; omega))
     refine Zc hS16 hc5 [v10, .int .i64 ((Z5 t o f).r.d.a), .int .i64 ((Z5 t o f).r.d.b), .int .i64 ((Z5 t o f).r.x.a), .int .i64 ((Z5 t o f).r.x.b)] Zx rfl rfl rfl rfl rfl ?_
     refine Zj hS16 ZaJ rfl rfl rfl (Znz hS16.imm (Z5 t o f) _ (ZM (Z5 t o f) (hs11.mono hle13) Zbk ZbJ Zfz Zeg)) (fun w16 G14 hS17 hle14=>?_)
     refine WL.split (fun (h7 : (ZaX (Z5 t o f)) = true)=>?_) (fun (h7 : (ZaX (Z5 t o f)) = false)=>?_)
     ·exact RB hS17 rfl (by first | with_reducible rfl | with_reducible exact tf hpu.2 ‹_› | with_reducible exact absurd (congrArg (fun n : Nat=>(n : Int)) hpc.2.1) ‹_› | with_reducible exact tf hpc.2.2.1 ‹_› | exact congrArg not hpc.2.2.2 | (exfalso; omega))
     have hpc:=ZkK (by assumption : Q2 t o f = false) (by assumption : ZaX (Z5 t o f) = false)
     refine Zb hS17 (Xl.drop 0 (hc5.mono hle14)) ZG rfl rfl rfl ?_
     have bd2:=hs11.bound
     refine Zi (hs11.mono (hle13.trans hle14)) Ys rfl rfl <| Zb hS17 (Xl.drop 1 (Xl.drop 0 (hc1.mono ((((((((((hle2.trans hle3).trans hle4).trans hle5).trans hle6).trans hle7).trans hle10).trans hle11).trans hle12).trans hle13).trans hle14)))) QM rfl rfl rfl ?_
     have bd3:=hs1.bound
     refine Zi (hs1.mono (((((((((((hle1.trans hle2).trans hle3).trans hle4).trans hle5).trans hle6).trans hle7).trans hle10).trans hle11).trans hle12).trans hle13).trans hle14)) Qa rfl rfl ?_
     refine YQ ((((Z5 t o f).v).length : Nat) : Int) (t.s.cols.length : Int) rfl rfl rfl (fun h8=>?_) (fun h8=>?_)
     ·exact RB hS17 rfl (by first | with_reducible rfl | with_reducible exact tf hpu.2 ‹_› | with_reducible exact absurd (congrArg (fun n : Nat=>(n : Int)) hpc.2.1) ‹_› | with_reducible exact tf hpc.2.2.1 ‹_› | exact congrArg not hpc.2.2.2 | (exfalso; omega))
     refine dr [(8,true),(9,false)] [(120, .int .i64 ((Z5 t o f).r.d.a)),(124, .int .i64 ((Z5 t o f).r.x.a))] hS17 ⟨fun _ hSw=>Zb hSw (Xl.drop 0 (Xl.drop 0 (Xl.drop 1 (hc5.mono hle14)))) Z7 rfl rfl rfl <| nu rfl rfl,fun _ hSw=>Zb hSw (Xl.drop 0 (Xl.drop 2 (Xl.drop 1 (hc5.mono hle14)))) Z7 rfl rfl rfl <| nu rfl rfl,trivial⟩ (fun w17 hS18=>?_)
     refine WL.assign rfl ?_
     refine ⟨hS18.down hS18.le (G14.le_refl),?_⟩
     refine WL.alloc hS18 ZG rfl rfl (fun b3 w18 hn3 hS19=>?_)
     have hS20:=hS19.pad
     refine Zb hS20 (Xl.drop 0 (hc3.mono ((((((((hle4.trans hle5).trans hle6).trans hle7).trans hle10).trans hle11).trans hle12).trans hle13).trans hle14))) XM rfl rfl rfl ?_
     have bd4:=hs7.bound
     refine Zi (hs7.mono (((((((((((hle1.trans hle2).trans hle3).trans hle4).trans hle5).trans hle6).trans hle7).trans hle10).trans hle11).trans hle12).trans hle13).trans hle14)) Y8 rfl rfl ?_
     refine LP.go ft [] (fun m ρ1 w1=>∃ (k2 : Nat),∃ (v11 : Value) (o1 : OB),∃ (G15 : GH),m = f.cols.length - k2 ∧ G14.le G15 ∧ St w [] G G15 [o1,some (b3,31,[v11])] w1 ∧ ZS ValE 32 58 G15 v11 (YY t.s (f.cols.take k2) (Z5 t o f).v) o1 ∧ FR ρ1 [(3, .pointer (some p1)),(4, .pointer (some p2)),(13, .pointer (some (⟨b2,0,none⟩ : Addr))),(15, .int .i64 ((Z5 t o f).r.d.a)),(16, .int .i64 ((Z5 t o f).r.x.a)),(17, .pointer (some ⟨b3,0,none⟩)),(126,v7),(127, .int .i64 (f.cols.length : Int)),(128, .int .i64 (k2 : Int))] ∧ k2 ≤ f.cols.length) _ ⟨0,(.slice none 0 0),none,G14,rfl,(G14.le_refl),hS20,(ZS.cast (ZS.nil ValE 32 58 G14) (by rfl)),⟨rfl,rfl,rfl,rfl,rfl,rfl,rfl,rfl,rfl,trivial⟩,(by omega)⟩ ?_
     rintro m ρ1 w19 ⟨k2,v11,o1,G15,rfl,hle15,hS21,hr3,hF9,f1⟩
     refine hF9.set ?_
     clear hF9
     have hrl:=ZfK (s:=t.s) (v:=(Z5 t o f).v) f.cols k2
     refine Zq (k2 : Int) (f.cols.length : Int) rfl rfl rfl (fun h9=>?_) (fun h9=>?_)
     ·refine WL.indexAddr (hs7.mono ((((((((((((hle1.trans hle2).trans hle3).trans hle4).trans hle5).trans hle6).trans hle7).trans hle10).trans hle11).trans hle12).trans hle13).trans hle14).trans hle15)) k2 (by omega) Y8 Yw rfl rfl rfl rfl (fun p4 x1 hx1 he1=>?_)
      obtain ⟨cs3,hc6,hr4⟩:=he1
      obtain ⟨rfl,Zlf⟩:=hr4
      refine Zb hS21 hc6 Yw rfl rfl rfl ?_
      have hix9:=hpc.1 x1 (List.mem_of_getElem? hx1)
      have hlt9:=Zdg hix9
      have hvl9:=hpc.2.1
      have qo8:=Sl.at (hs11.mono ((hle13.trans hle14).trans hle15)) (((Yy (t.s.cols.map Col.name) x1)).toNat) (by omega)
      obtain ⟨p5,x2,hx2,he2,ep1⟩:=qo8
      obtain ⟨cs4,hc7,hr5⟩:=he2
      have qo9:=Yv hr5
      obtain ⟨rfl,ZiO,Zoe,Zof⟩:=qo9
      refine dr [(9,true),(10,false),(11,false)] [(132,v11),(134,v10),(136, .agg #[Zd t.s.name,v1, .int .i64 t.s.key,v2]),(138, .int .i64 (Yy (t.s.cols.map Col.name) x1)),(139, .pointer (some p5)),(140, .agg #[.int .i64 x2.k, .int .i64 x2.n,Zd x2.s])] hS21 ⟨fun _ hSw=>ZQ hSw 1 _ _ _ 0 _ rfl rfl ZG rfl rfl rfl <| nu rfl rfl,fun _ hSw=>Zb hSw (Xl.drop 0 (hc5.mono (hle14.trans hle15))) ZG rfl rfl rfl <| nu rfl rfl,fun _ hSw=>Zc hSw (Xl.drop 0 (hc1.mono (((((((((((hle2.trans hle3).trans hle4).trans hle5).trans hle6).trans hle7).trans hle10).trans hle11).trans hle12).trans hle13).trans hle14).trans hle15))) [Zd t.s.name,v1, .int .i64 t.s.key,v2] Xg rfl rfl rfl rfl rfl <| nu rfl rfl,fun _ hSw=>ZH hSw ZiQ rfl rfl rfl (ZbD hSw.imm t.s x1 _ (ZL t.s hb1 (hs1.mono ((((((((((((hle1.trans hle2).trans hle3).trans hle4).trans hle5).trans hle6).trans hle7).trans hle10).trans hle11).trans hle12).trans hle13).trans hle14).trans hle15)) hb2 (hs2.mono ((((((((((((hle1.trans hle2).trans hle3).trans hle4).trans hle5).trans hle6).trans hle7).trans hle10).trans hle11).trans hle12).trans hle13).trans hle14).trans hle15)))) rfl,fun _=>Zn (((Yy (t.s.cols.map Col.name) x1)).toNat) ep1 Ys Ya rfl rfl rfl (congrArg (Value.int .i64) (Int.toNat_of_nonneg (by omega)).symm) <| nu rfl rfl,fun _ hSw=>Zc hSw hc7 [.int .i64 x2.k, .int .i64 x2.n,Zd x2.s] Ya rfl rfl rfl rfl rfl <| nu rfl rfl,trivial⟩ (fun w20 hS22=>?_)
      refine WL.buildSlice _ [(0,[.int .i64 x2.k, .int .i64 x2.n,Zd x2.s])] [.int .i64 x2.k, .int .i64 x2.n,Zd x2.s] hS22 Zdt rfl rfl rfl rfl (fun z hz=>by match z,hz with | [z0,z1,z2],_=>rfl) (fun b4 w21 hn4 hS23=>?_)
      refine ⟨hS23.tail.down hS22.le (G15.le_refl),?_⟩
      refine WL.push (m:=([x2] : List Val)) Zdt rfl rfl rfl hr3 hS23 1 rfl 0 _ _ _ _ _ rfl ⟨[.int .i64 x2.k, .int .i64 x2.n,Zd x2.s],_,rfl,(Qb x2 ZiO Zoe Zof),rfl⟩ rfl (by have hreach : reach = 140737488355328:=rfl; simp only [List.length_append,List.length_cons,List.length_nil]; omega) (by have hreach : reach = 140737488355328:=rfl; simp only [List.length_append,List.length_cons,List.length_nil]; omega) rfl rfl rfl (fun v12 o2 w22 hr6 hS24=>?_)
      have hS25:=hS24.tail
      refine WL.store hS25 1 _ _ _ 0 _ [v12] [v12] _ rfl hr6.cells1 ZG rfl (Nat.le_of_ble_eq_true rfl) (by simp only [List.all_cons,List.all_nil,hr6.oneC,Bool.true_and] <;> rfl) rfl rfl rfl rfl rfl (fun w23 hS26=>?_)
      refine Zk k2 (by have hreach : reach = 140737488355328:=rfl; omega) rfl rfl rfl ?_
      exact BK.mk' _ ⟨k2 + 1,v12,o2,G15,rfl,hle15,hS26,(ZS.cast hr6 (by (exact (ZeJ ‹_› ‹_›).symm))),⟨rfl,rfl,rfl,rfl,rfl,rfl,rfl,rfl,rfl,trivial⟩,(by omega)⟩ (show f.cols.length - (k2 + 1) < f.cols.length - k2 by omega)
     have qo10:=ZS.freeze hr3 hS21 0 rfl
     obtain ⟨G16,hle16,hs12,hS27⟩:=qo10
     have hkf:=Sl.cast (l':=YY t.s f.cols (Z5 t o f).v) hs12 (by rw [List.take_of_length_le (by omega)])
     have qo11:=hS27.sealAt 1 rfl hn3
     obtain ⟨G17,hle17,hc8,hS28⟩:=qo11
     refine Zc hS28 (hc1.mono (((((((((((((hle2.trans hle3).trans hle4).trans hle5).trans hle6).trans hle7).trans hle10).trans hle11).trans hle12).trans hle13).trans hle14).trans hle15).trans hle16).trans hle17)) [Zd t.s.name,v1, .int .i64 t.s.key,v2,v3, .int .i64 t.last] Zp rfl rfl rfl rfl rfl <| Zb hS28 (Xl.drop 0 (hc5.mono (((hle14.trans hle15).trans hle16).trans hle17))) ZG rfl rfl rfl ?_
     refine Zj hS28 ZgQ rfl rfl rfl (ZjG hS28.imm t ((Z5 t o f).v) ((Z5 t o f).r.d.a) ((Z5 t o f).r.x.a) _ (Zl t hb1 (hs1.mono ((((((((((((((hle1.trans hle2).trans hle3).trans hle4).trans hle5).trans hle6).trans hle7).trans hle10).trans hle11).trans hle12).trans hle13).trans hle14).trans hle15).trans hle16).trans hle17)) hb2 (hs2.mono ((((((((((((((hle1.trans hle2).trans hle3).trans hle4).trans hle5).trans hle6).trans hle7).trans hle10).trans hle11).trans hle12).trans hle13).trans hle14).trans hle15).trans hle16).trans hle17)) (hs3.mono ((((((((((((((hle1.trans hle2).trans hle3).trans hle4).trans hle5).trans hle6).trans hle7).trans hle10).trans hle11).trans hle12).trans hle13).trans hle14).trans hle15).trans hle16).trans hle17)) hb3) _ (hs11.mono ((((hle13.trans hle14).trans hle15).trans hle16).trans hle17))) (fun w24 G18 hS29 hle18=>?_)
     refine WL.split (fun (h10 : (Zct t ((Z5 t o f).v) ((Z5 t o f).r.d.a) ((Z5 t o f).r.x.a)) = true)=>?_) (fun (h10 : (Zct t ((Z5 t o f).v) ((Z5 t o f).r.d.a) ((Z5 t o f).r.x.a)) = false)=>?_)
     ·refine Zc hS29 (hc2.mono (((((((((((((hle3.trans hle4).trans hle5).trans hle6).trans hle7).trans hle10).trans hle11).trans hle12).trans hle13).trans hle14).trans hle15).trans hle16).trans hle17).trans hle18)) [Zd o.s.name,v4, .int .i64 o.s.key,v5,v6, .int .i64 o.last] Zp rfl rfl rfl rfl rfl ?_
      refine Z3 hS29 ZbK rfl rfl rfl (XG hS29.imm o ((Z5 t o f).r.d.a) ((Z5 t o f).r.x.a) _ (Zl o hb4 (hs4.mono (((((((((((((((hle1.trans hle2).trans hle3).trans hle4).trans hle5).trans hle6).trans hle7).trans hle10).trans hle11).trans hle12).trans hle13).trans hle14).trans hle15).trans hle16).trans hle17).trans hle18)) hb5 (hs5.mono (((((((((((((((hle1.trans hle2).trans hle3).trans hle4).trans hle5).trans hle6).trans hle7).trans hle10).trans hle11).trans hle12).trans hle13).trans hle14).trans hle15).trans hle16).trans hle17).trans hle18)) (hs6.mono (((((((((((((((hle1.trans hle2).trans hle3).trans hle4).trans hle5).trans hle6).trans hle7).trans hle10).trans hle11).trans hle12).trans hle13).trans hle14).trans hle15).trans hle16).trans hle17).trans hle18)) hb6)) (fun w25 G19 r7 hpost3 hS30 hle19=>?_)
      refine Zj hS30 ZiR rfl rfl rfl (Zaa hS30.imm (Zz o ((Z5 t o f).r.d.a) ((Z5 t o f).r.x.a)) (fun x8=>decide (YO (Schema.mk o.s.name o.s.cols o.s.key o.s.fks) x8 = (YY t.s f.cols (Z5 t o f).v))) _ hpost3 30 #[.pointer (some p2), .pointer (some (⟨b3,0,none⟩ : Addr))] ⟨Zr0,fun G8 w8 v8 x8 hle8 hG8 hon8 hA8=>by exact Zqi hG8 x8 (YY t.s f.cols (Z5 t o f).v) o.s.name o.s.cols o.s.key o.s.fks o.rows o.last v8 hA8 v4 ((hs4.mono ((((((((((((((((hle1.trans hle2).trans hle3).trans hle4).trans hle5).trans hle6).trans hle7).trans hle10).trans hle11).trans hle12).trans hle13).trans hle14).trans hle15).trans hle16).trans hle17).trans hle18).trans hle19)).mono hle8) v5 ((hs5.mono ((((((((((((((((hle1.trans hle2).trans hle3).trans hle4).trans hle5).trans hle6).trans hle7).trans hle10).trans hle11).trans hle12).trans hle13).trans hle14).trans hle15).trans hle16).trans hle17).trans hle18).trans hle19)).mono hle8) v6 ((hs6.mono ((((((((((((((((hle1.trans hle2).trans hle3).trans hle4).trans hle5).trans hle6).trans hle7).trans hle10).trans hle11).trans hle12).trans hle13).trans hle14).trans hle15).trans hle16).trans hle17).trans hle18).trans hle19)).mono hle8) p2 ((hc2.mono ((((((((((((((hle3.trans hle4).trans hle5).trans hle6).trans hle7).trans hle10).trans hle11).trans hle12).trans hle13).trans hle14).trans hle15).trans hle16).trans hle17).trans hle18).trans hle19)).mono hle8) v11 ((hkf.mono ((hle17.trans hle18).trans hle19)).mono hle8) (⟨b3,0,none⟩ : Addr) ((hc8.mono (hle18.trans hle19)).mono hle8) ‹_› ‹_›⟩) (fun w26 G20 hS31 hle20=>?_)
      exact RB hS31 rfl (by first | with_reducible rfl | with_reducible exact tf hpu.2 ‹_› | with_reducible exact absurd (congrArg (fun n : Nat=>(n : Int)) hpc.2.1) ‹_› | with_reducible exact tf hpc.2.2.1 ‹_› | exact congrArg not hpc.2.2.2 | (exfalso; omega))
     exact RB hS29 rfl (by first | with_reducible rfl | with_reducible exact tf hpu.2 ‹_› | with_reducible exact absurd (congrArg (fun n : Nat=>(n : Int)) hpc.2.1) ‹_› | with_reducible exact tf hpc.2.2.1 ‹_› | exact congrArg not hpc.2.2.2 | (exfalso; omega))
    refine Zc hS12 (hc1.mono (((((((hle2.trans hle3).trans hle4).trans hle5).trans hle6).trans hle7).trans hle10).trans hle11)) [Zd t.s.name,v1, .int .i64 t.s.key,v2,v3, .int .i64 t.last] Zp rfl rfl rfl rfl rfl <| Zb hS12 (Xl.drop 0 (Xl.drop 0 (Xl.drop 1 hc4))) Z7 rfl rfl rfl <| Zb hS12 (Xl.drop 0 (Xl.drop 2 (Xl.drop 1 hc4))) Z7 rfl rfl rfl ?_
    refine Z3 hS12 ZbK rfl rfl rfl (XG hS12.imm t ((Z8 t).r.d.a) ((Z8 t).r.x.a) _ (Zl t hb1 (hs1.mono ((((((((hle1.trans hle2).trans hle3).trans hle4).trans hle5).trans hle6).trans hle7).trans hle10).trans hle11)) hb2 (hs2.mono ((((((((hle1.trans hle2).trans hle3).trans hle4).trans hle5).trans hle6).trans hle7).trans hle10).trans hle11)) (hs3.mono ((((((((hle1.trans hle2).trans hle3).trans hle4).trans hle5).trans hle6).trans hle7).trans hle10).trans hle11)) hb3)) (fun w27 G21 r8 hpost4 hS32 hle21=>?_)
    have hpu:=Zpx (by assumption : Zm t = true) (by assumption : YA t = false)
    have hsl9:=Znj t (Z8 t).r.d.a (Z8 t).r.x.a
    have bd5:=hpost4.bound
    refine Zi hpost4 ZaI rfl rfl ?_
    refine LP.go ft [] (fun m ρ1 w1=>∃ (k1 : Nat),∃ (n9 : Nat),∃ (G22 : GH),m = (Zz t ((Z8 t).r.d.a) ((Z8 t).r.x.a)).length - k1 ∧ G21.le G22 ∧ St w [] G G22 [] w1 ∧ FR ρ1 [(3, .pointer (some p1)),(4, .pointer (some p2)),(5, .pointer (some p3)),(7, .pointer (some (⟨b1,0,none⟩ : Addr))),(10, .int .i64 (n9 : Int)),(61,r8),(62, .int .i64 (((Zz t ((Z8 t).r.d.a) ((Z8 t).r.x.a)).length : Nat) : Int)),(63, .int .i64 (k1 : Int))] ∧ k1 ≤ (Zz t ((Z8 t).r.d.a) ((Z8 t).r.x.a)).length ∧ n9 = ZaZ t.s (Z8 t).v ((Zz t (Z8 t).r.d.a (Z8 t).r.x.a).take k1)) _ ⟨0,0,G21,rfl,(G21.le_refl),hS32,⟨rfl,rfl,rfl,rfl,rfl,rfl,rfl,rfl,trivial⟩,(by omega),(rfl)⟩ ?_
    rintro m ρ1 w28 ⟨k1,n9,G22,rfl,hle22,hS33,hF9,f2,f3⟩
    refine hF9.set ?_
    clear hF9
    have hcn9:=Zpw (s:=t.s) (w:=(Z8 t).v) (Zz t (Z8 t).r.d.a (Z8 t).r.x.a) k1
    have hnc:=(by assumption : n9 = ZaZ t.s (Z8 t).v ((Zz t (Z8 t).r.d.a (Z8 t).r.x.a).take k1))
    refine Zq (k1 : Int) (((Zz t ((Z8 t).r.d.a) ((Z8 t).r.x.a)).length : Nat) : Int) rfl rfl rfl (fun h11=>?_) (fun h11=>?_)
    ·refine WL.indexAddr (hpost4.mono hle22) k1 (by omega) ZaI ZG rfl rfl rfl rfl (fun p6 x3 hx3 he3=>?_)
     obtain ⟨cs5,hc9,hr7⟩:=he3
     obtain ⟨v13,rfl,hs13⟩:=hr7
     refine Zb hS33 hc9 ZG rfl rfl rfl ?_
     refine dr [(3,true),(8,false),(9,false)] [(68, .agg #[Zd t.s.name,v1, .int .i64 t.s.key,v2]),(72, .agg #[Zd t.s.name,v1, .int .i64 t.s.key,v2]),(74,v9)] hS33 ⟨fun _ hSw=>Zc hSw (Xl.drop 0 (hc1.mono (((((((((hle2.trans hle3).trans hle4).trans hle5).trans hle6).trans hle7).trans hle10).trans hle11).trans hle21).trans hle22))) [Zd t.s.name,v1, .int .i64 t.s.key,v2] Xg rfl rfl rfl rfl rfl <| nu rfl rfl,fun _ hSw=>Zc hSw (Xl.drop 0 (hc1.mono (((((((((hle2.trans hle3).trans hle4).trans hle5).trans hle6).trans hle7).trans hle10).trans hle11).trans hle21).trans hle22))) [Zd t.s.name,v1, .int .i64 t.s.key,v2] Xg rfl rfl rfl rfl rfl <| nu rfl rfl,fun _ hSw=>Zb hSw (Xl.drop 0 (hc4.mono (hle21.trans hle22))) ZG rfl rfl rfl <| nu rfl rfl,trivial⟩ (fun w29 hS34=>?_)
     refine Z3 hS34 Zf0 rfl rfl rfl (ZgO hS34.imm t.s x3 _ (ZL t.s hb1 (hs1.mono ((((((((((hle1.trans hle2).trans hle3).trans hle4).trans hle5).trans hle6).trans hle7).trans hle10).trans hle11).trans hle21).trans hle22)) hb2 (hs2.mono ((((((((((hle1.trans hle2).trans hle3).trans hle4).trans hle5).trans hle6).trans hle7).trans hle10).trans hle11).trans hle21).trans hle22))) _ hs13) (fun w30 G23 r9 hpost5 hS35 hle23=>?_)
     refine ⟨hS35.down hS34.le hle23,?_⟩
     refine Z3 hS35 Zf0 rfl rfl rfl (ZgO hS35.imm t.s ((Z8 t).v) _ (ZL t.s hb1 (hs1.mono (((((((((((hle1.trans hle2).trans hle3).trans hle4).trans hle5).trans hle6).trans hle7).trans hle10).trans hle11).trans hle21).trans hle22).trans hle23)) hb2 (hs2.mono (((((((((((hle1.trans hle2).trans hle3).trans hle4).trans hle5).trans hle6).trans hle7).trans hle10).trans hle11).trans hle21).trans hle22).trans hle23))) _ (hs9.mono (((hle11.trans hle21).trans hle22).trans hle23))) (fun w31 G24 r10 hpost6 hS36 hle24=>?_)
     refine Zj hS36 ZaK rfl rfl rfl (XK hS36.imm (YO t.s x3) (YO t.s ((Z8 t).v)) _ (hpost5.mono hle24) _ hpost6) (fun w32 G25 hS37 hle25=>?_)
     refine WL.split (fun (h12 : (decide ((YO t.s x3) = (YO t.s ((Z8 t).v)))) = true)=>?_) (fun (h12 : (decide ((YO t.s x3) = (YO t.s ((Z8 t).v)))) = false)=>?_)
     ·refine Zk n9 (by have hreach : reach = 140737488355328:=rfl; omega) rfl rfl rfl ?_
      refine Zk k1 (by have hreach : reach = 140737488355328:=rfl; omega) rfl rfl rfl ?_
      exact BK.mk' _ ⟨k1 + 1,n9 + 1,G25,rfl,(hle22.trans ((hle23.trans hle24).trans hle25)),hS37,⟨rfl,rfl,rfl,rfl,rfl,rfl,rfl,rfl,trivial⟩,(by omega),(by first | (rw [ZjN ‹_› ‹_›,← hnc]) | (rw [ZkI ‹_› ‹_›,← hnc]))⟩ (show (Zz t ((Z8 t).r.d.a) ((Z8 t).r.x.a)).length - (k1 + 1) < (Zz t ((Z8 t).r.d.a) ((Z8 t).r.x.a)).length - k1 by omega)
     refine Zk k1 (by have hreach : reach = 140737488355328:=rfl; omega) rfl rfl rfl ?_
     exact BK.mk' _ ⟨k1 + 1,n9,G25,rfl,(hle22.trans ((hle23.trans hle24).trans hle25)),hS37,⟨rfl,rfl,rfl,rfl,rfl,rfl,rfl,rfl,trivial⟩,(by omega),(by first | (rw [ZjN ‹_› ‹_›,← hnc]) | (rw [ZkI ‹_› ‹_›,← hnc]))⟩ (show (Zz t ((Z8 t).r.d.a) ((Z8 t).r.x.a)).length - (k1 + 1) < (Zz t ((Z8 t).r.d.a) ((Z8 t).r.x.a)).length - k1 by omega)
    have hn92 : 2 ≤ n9:=by rw [(by assumption : n9 = ZaZ t.s (Z8 t).v ((Zz t (Z8 t).r.d.a (Z8 t).r.x.a).take k1)),List.take_of_length_le (by omega)]; exact hpu.1
    refine Zq (n9 : Int) 2 rfl rfl rfl (fun h13=>?_) (fun h13=>?_)
    ·exact RB hS33 rfl (by first | with_reducible rfl | with_reducible exact tf hpu.2 ‹_› | with_reducible exact absurd (congrArg (fun n : Nat=>(n : Int)) hpc.2.1) ‹_› | with_reducible exact tf hpc.2.2.1 ‹_› | exact congrArg not hpc.2.2.2 | (exfalso; omega))
    refine Zc hS33 (hc1.mono (((((((((hle2.trans hle3).trans hle4).trans hle5).trans hle6).trans hle7).trans hle10).trans hle11).trans hle21).trans hle22)) [Zd t.s.name,v1, .int .i64 t.s.key,v2,v3, .int .i64 t.last] Zp rfl rfl rfl rfl rfl <| Zb hS33 (Xl.drop 0 (hc4.mono (hle21.trans hle22))) ZG rfl rfl rfl <| Zb hS33 (Xl.drop 0 (Xl.drop 0 (Xl.drop 1 (hc4.mono (hle21.trans hle22))))) Z7 rfl rfl rfl <| Zb hS33 (Xl.drop 0 (Xl.drop 2 (Xl.drop 1 (hc4.mono (hle21.trans hle22))))) Z7 rfl rfl rfl ?_
    refine Zj hS33 ZgQ rfl rfl rfl (ZjG hS33.imm t ((Z8 t).v) ((Z8 t).r.d.a) ((Z8 t).r.x.a) _ (Zl t hb1 (hs1.mono ((((((((((hle1.trans hle2).trans hle3).trans hle4).trans hle5).trans hle6).trans hle7).trans hle10).trans hle11).trans hle21).trans hle22)) hb2 (hs2.mono ((((((((((hle1.trans hle2).trans hle3).trans hle4).trans hle5).trans hle6).trans hle7).trans hle10).trans hle11).trans hle21).trans hle22)) (hs3.mono ((((((((((hle1.trans hle2).trans hle3).trans hle4).trans hle5).trans hle6).trans hle7).trans hle10).trans hle11).trans hle21).trans hle22)) hb3) _ (hs9.mono ((hle11.trans hle21).trans hle22))) (fun w33 G26 hS38 hle26=>?_)
    refine WL.split (fun (h14 : (Zct t ((Z8 t).v) ((Z8 t).r.d.a) ((Z8 t).r.x.a)) = true)=>?_) (fun (h14 : (Zct t ((Z8 t).v) ((Z8 t).r.d.a) ((Z8 t).r.x.a)) = false)=>?_)
    ·refine Zc hS38 (hc1.mono ((((((((((hle2.trans hle3).trans hle4).trans hle5).trans hle6).trans hle7).trans hle10).trans hle11).trans hle21).trans hle22).trans hle26)) [Zd t.s.name,v1, .int .i64 t.s.key,v2,v3, .int .i64 t.last] Zp rfl rfl rfl rfl rfl <| Zc hS38 (hc2.mono (((((((((hle3.trans hle4).trans hle5).trans hle6).trans hle7).trans hle10).trans hle11).trans hle21).trans hle22).trans hle26)) [Zd o.s.name,v4, .int .i64 o.s.key,v5,v6, .int .i64 o.last] Zp rfl rfl rfl rfl rfl <| Zc hS38 (hc3.mono ((((((((hle4.trans hle5).trans hle6).trans hle7).trans hle10).trans hle11).trans hle21).trans hle22).trans hle26)) [v7,Zd f.table] XZ rfl rfl rfl rfl rfl <| Z3 hS38 ZiP rfl rfl rfl (ZeK hS38.imm t o f _ (Zl t hb1 (hs1.mono (((((((((((hle1.trans hle2).trans hle3).trans hle4).trans hle5).trans hle6).trans hle7).trans hle10).trans hle11).trans hle21).trans hle22).trans hle26)) hb2 (hs2.mono (((((((((((hle1.trans hle2).trans hle3).trans hle4).trans hle5).trans hle6).trans hle7).trans hle10).trans hle11).trans hle21).trans hle22).trans hle26)) (hs3.mono (((((((((((hle1.trans hle2).trans hle3).trans hle4).trans hle5).trans hle6).trans hle7).trans hle10).trans hle11).trans hle21).trans hle22).trans hle26)) hb3) _ (Zl o hb4 (hs4.mono (((((((((((hle1.trans hle2).trans hle3).trans hle4).trans hle5).trans hle6).trans hle7).trans hle10).trans hle11).trans hle21).trans hle22).trans hle26)) hb5 (hs5.mono (((((((((((hle1.trans hle2).trans hle3).trans hle4).trans hle5).trans hle6).trans hle7).trans hle10).trans hle11).trans hle21).trans hle22).trans hle26)) (hs6.mono (((((((((((hle1.trans hle2).trans hle3).trans hle4).trans hle5).trans hle6).trans hle7).trans hle10).trans hle11).trans hle21).trans hle22).trans hle26)) hb6) _ (Xc f (hs7.mono (((((((((((hle1.trans hle2).trans hle3).trans hle4).trans hle5).trans hle6).trans hle7).trans hle10).trans hle11).trans hle21).trans hle22).trans hle26)) hb7)) ?_
     rintro w34 G27 _ ⟨r12,_,rfl,hs14,rfl⟩ hS39 hle27
     obtain ⟨cs6,rfl,hr8⟩:=hs14
     have qo12:=ZK hr8
     obtain ⟨v14,rfl,hs15,Zr1,Zlg,Zr2,Zr3⟩:=qo12
     refine WL.alloc hS39 Zx rfl rfl (fun b5 w35 hn5 hS40=>?_)
     refine WL.store hS40 0 _ _ _ 0 _ [v14, .int .i64 ((Z5 t o f).r.d.a), .int .i64 ((Z5 t o f).r.d.b), .int .i64 ((Z5 t o f).r.x.a), .int .i64 ((Z5 t o f).r.x.b)] [v14, .int .i64 ((Z5 t o f).r.d.a), .int .i64 ((Z5 t o f).r.d.b), .int .i64 ((Z5 t o f).r.x.a), .int .i64 ((Z5 t o f).r.x.b)] _ rfl rfl Zx rfl (Nat.le_of_ble_eq_true rfl) (by simp only [List.all_cons,List.all_nil,hs15.oneC,Bool.true_and] <;> rfl) rfl rfl rfl rfl rfl (fun w36 hS41=>?_)
     have qo13:=hS41.shutB hn5
     obtain ⟨G28,hle28,hc10,hS42⟩:=qo13
     refine XA (d:=103) rfl (fun (h15 : (Q2 t o f) = true)=>?_) (fun (h15 : (Q2 t o f) = false)=>?_)
     ·exact RB hS42 rfl (by first | with_reducible rfl | with_reducible exact tf hpu.2 ‹_› | with_reducible exact absurd (congrArg (fun n : Nat=>(n : Int)) hpc.2.1) ‹_› | with_reducible exact tf hpc.2.2.1 ‹_› | exact congrArg not hpc.2.2.2 | (exfalso; omega))
     refine Zc hS42 hc10 [v14, .int .i64 ((Z5 t o f).r.d.a), .int .i64 ((Z5 t o f).r.d.b), .int .i64 ((Z5 t o f).r.x.a), .int .i64 ((Z5 t o f).r.x.b)] Zx rfl rfl rfl rfl rfl ?_
     refine Zj hS42 ZaJ rfl rfl rfl (Znz hS42.imm (Z5 t o f) _ (ZM (Z5 t o f) (hs15.mono hle28) Zr1 Zlg Zr2 Zr3)) (fun w37 G29 hS43 hle29=>?_)
     refine WL.split (fun (h16 : (ZaX (Z5 t o f)) = true)=>?_) (fun (h16 : (ZaX (Z5 t o f)) = false)=>?_)
     ·exact RB hS43 rfl (by first | with_reducible rfl | with_reducible exact tf hpu.2 ‹_› | with_reducible exact absurd (congrArg (fun n : Nat=>(n : Int)) hpc.2.1) ‹_› | with_reducible exact tf hpc.2.2.1 ‹_› | exact congrArg not hpc.2.2.2 | (exfalso; omega))
     have hpc:=ZkK (by assumption : Q2 t o f = false) (by assumption : ZaX (Z5 t o f) = false)
     refine Zb hS43 (Xl.drop 0 (hc10.mono hle29)) ZG rfl rfl rfl ?_
     have bd6:=hs15.bound
     refine Zi (hs15.mono (hle28.trans hle29)) Ys rfl rfl <| Zb hS43 (Xl.drop 1 (Xl.drop 0 (hc1.mono (((((((((((((hle2.trans hle3).trans hle4).trans hle5).trans hle6).trans hle7).trans hle10).trans hle11).trans hle21).trans hle22).trans hle26).trans hle27).trans hle28).trans hle29)))) QM rfl rfl rfl ?_
     have bd7:=hs1.bound
     refine Zi (hs1.mono ((((((((((((((hle1.trans hle2).trans hle3).trans hle4).trans hle5).trans hle6).trans hle7).trans hle10).trans hle11).trans hle21).trans hle22).trans hle26).trans hle27).trans hle28).trans hle29)) Qa rfl rfl ?_
     refine YQ ((((Z5 t o f).v).length : Nat) : Int) (t.s.cols.length : Int) rfl rfl rfl (fun h17=>?_) (fun h17=>?_)
     ·exact RB hS43 rfl (by first | with_reducible rfl | with_reducible exact tf hpu.2 ‹_› | with_reducible exact absurd (congrArg (fun n : Nat=>(n : Int)) hpc.2.1) ‹_› | with_reducible exact tf hpc.2.2.1 ‹_› | exact congrArg not hpc.2.2.2 | (exfalso; omega))
     refine dr [(8,true),(9,false)] [(120, .int .i64 ((Z5 t o f).r.d.a)),(124, .int .i64 ((Z5 t o f).r.x.a))] hS43 ⟨fun _ hSw=>Zb hSw (Xl.drop 0 (Xl.drop 0 (Xl.drop 1 (hc10.mono hle29)))) Z7 rfl rfl rfl <| nu rfl rfl,fun _ hSw=>Zb hSw (Xl.drop 0 (Xl.drop 2 (Xl.drop 1 (hc10.mono hle29)))) Z7 rfl rfl rfl <| nu rfl rfl,trivial⟩ (fun w38 hS44=>?_)
     refine WL.assign rfl ?_
     refine ⟨hS44.down hS44.le (G29.le_refl),?_⟩
     refine WL.alloc hS44 ZG rfl rfl (fun b6 w39 hn6 hS45=>?_)
     have hS46:=hS45.pad
     refine Zb hS46 (Xl.drop 0 (hc3.mono (((((((((((hle4.trans hle5).trans hle6).trans hle7).trans hle10).trans hle11).trans hle21).trans hle22).trans hle26).trans hle27).trans hle28).trans hle29))) XM rfl rfl rfl ?_
     have bd8:=hs7.bound
     refine Zi (hs7.mono ((((((((((((((hle1.trans hle2).trans hle3).trans hle4).trans hle5).trans hle6).trans hle7).trans hle10).trans hle11).trans hle21).trans hle22).trans hle26).trans hle27).trans hle28).trans hle29)) Y8 rfl rfl ?_
     refine LP.go ft [] (fun m ρ1 w1=>∃ (k2 : Nat),∃ (v15 : Value) (o3 : OB),∃ (G30 : GH),m = f.cols.length - k2 ∧ G29.le G30 ∧ St w [] G G30 [o3,some (b6,31,[v15])] w1 ∧ ZS ValE 32 58 G30 v15 (YY t.s (f.cols.take k2) (Z5 t o f).v) o3 ∧ FR ρ1 [(3, .pointer (some p1)),(4, .pointer (some p2)),(13, .pointer (some (⟨b5,0,none⟩ : Addr))),(15, .int .i64 ((Z5 t o f).r.d.a)),(16, .int .i64 ((Z5 t o f).r.x.a)),(17, .pointer (some ⟨b6,0,none⟩)),(126,v7),(127, .int .i64 (f.cols.length : Int)),(128, .int .i64 (k2 : Int))] ∧ k2 ≤ f.cols.length) _ ⟨0,(.slice none 0 0),none,G29,rfl,(G29.le_refl),hS46,(ZS.cast (ZS.nil ValE 32 58 G29) (by rfl)),⟨rfl,rfl,rfl,rfl,rfl,rfl,rfl,rfl,rfl,trivial⟩,(by omega)⟩ ?_
     rintro m ρ1 w40 ⟨k2,v15,o3,G30,rfl,hle30,hS47,hr9,hF9,f4⟩
     refine hF9.set ?_
     clear hF9
     have hrl:=ZfK (s:=t.s) (v:=(Z5 t o f).v) f.cols k2
     refine Zq (k2 : Int) (f.cols.length : Int) rfl rfl rfl (fun h18=>?_) (fun h18=>?_)
     ·refine WL.indexAddr (hs7.mono (((((((((((((((hle1.trans hle2).trans hle3).trans hle4).trans hle5).trans hle6).trans hle7).trans hle10).trans hle11).trans hle21).trans hle22).trans hle26).trans hle27).trans hle28).trans hle29).trans hle30)) k2 (by omega) Y8 Yw rfl rfl rfl rfl (fun p7 x4 hx4 he4=>?_)
      obtain ⟨cs7,hc11,hr10⟩:=he4
      obtain ⟨rfl,Zog⟩:=hr10
      refine Zb hS47 hc11 Yw rfl rfl rfl ?_
      have hix9:=hpc.1 x4 (List.mem_of_getElem? hx4)
      have hlt9:=Zdg hix9
      have hvl9:=hpc.2.1
      have qo14:=Sl.at (hs15.mono ((hle28.trans hle29).trans hle30)) (((Yy (t.s.cols.map Col.name) x4)).toNat) (by omega)
      obtain ⟨p8,x5,hx5,he5,ep2⟩:=qo14
      obtain ⟨cs8,hc12,hr11⟩:=he5
      have qo15:=Yv hr11
      obtain ⟨rfl,Zlh,Zf1,ZiS⟩:=qo15
      refine dr [(9,true),(10,false),(11,false)] [(132,v15),(134,v14),(136, .agg #[Zd t.s.name,v1, .int .i64 t.s.key,v2]),(138, .int .i64 (Yy (t.s.cols.map Col.name) x4)),(139, .pointer (some p8)),(140, .agg #[.int .i64 x5.k, .int .i64 x5.n,Zd x5.s])] hS47 ⟨fun _ hSw=>ZQ hSw 1 _ _ _ 0 _ rfl rfl ZG rfl rfl rfl <| nu rfl rfl,fun _ hSw=>Zb hSw (Xl.drop 0 (hc10.mono (hle29.trans hle30))) ZG rfl rfl rfl <| nu rfl rfl,fun _ hSw=>Zc hSw (Xl.drop 0 (hc1.mono ((((((((((((((hle2.trans hle3).trans hle4).trans hle5).trans hle6).trans hle7).trans hle10).trans hle11).trans hle21).trans hle22).trans hle26).trans hle27).trans hle28).trans hle29).trans hle30))) [Zd t.s.name,v1, .int .i64 t.s.key,v2] Xg rfl rfl rfl rfl rfl <| nu rfl rfl,fun _ hSw=>ZH hSw ZiQ rfl rfl rfl (ZbD hSw.imm t.s x4 _ (ZL t.s hb1 (hs1.mono (((((((((((((((hle1.trans hle2).trans hle3).trans hle4).trans hle5).trans hle6).trans hle7).trans hle10).trans hle11).trans hle21).trans hle22).trans hle26).trans hle27).trans hle28).trans hle29).trans hle30)) hb2 (hs2.mono (((((((((((((((hle1.trans hle2).trans hle3).trans hle4).trans hle5).trans hle6).trans hle7).trans hle10).trans hle11).trans hle21).trans hle22).trans hle26).trans hle27).trans hle28).trans hle29).trans hle30)))) rfl,fun _=>Zn (((Yy (t.s.cols.map Col.name) x4)).toNat) ep2 Ys Ya rfl rfl rfl (congrArg (Value.int .i64) (Int.toNat_of_nonneg (by omega)).symm) <| nu rfl rfl,fun _ hSw=>Zc hSw hc12 [.int .i64 x5.k, .int .i64 x5.n,Zd x5.s] Ya rfl rfl rfl rfl rfl <| nu rfl rfl,trivial⟩ (fun w41 hS48=>?_)
      refine WL.buildSlice _ [(0,[.int .i64 x5.k, .int .i64 x5.n,Zd x5.s])] [.int .i64 x5.k, .int .i64 x5.n,Zd x5.s] hS48 Zdt rfl rfl rfl rfl (fun z hz=>by match z,hz with | [z0,z1,z2],_=>rfl) (fun b7 w42 hn7 hS49=>?_)
      refine ⟨hS49.tail.down hS48.le (G30.le_refl),?_⟩
      refine WL.push (m:=([x5] : List Val)) Zdt rfl rfl rfl hr9 hS49 1 rfl 0 _ _ _ _ _ rfl ⟨[.int .i64 x5.k, .int .i64 x5.n,Zd x5.s],_,rfl,(Qb x5 Zlh Zf1 ZiS),rfl⟩ rfl (by have hreach : reach = 140737488355328:=rfl; simp only [List.length_append,List.length_cons,List.length_nil]; omega) (by have hreach : reach = 140737488355328:=rfl; simp only [List.length_append,List.length_cons,List.length_nil]; omega) rfl rfl rfl (fun v16 o4 w43 hr12 hS50=>?_)
      have hS51:=hS50.tail
      refine WL.store hS51 1 _ _ _ 0 _ [v16] [v16] _ rfl hr12.cells1 ZG rfl (Nat.le_of_ble_eq_true rfl) (by simp only [List.all_cons,List.all_nil,hr12.oneC,Bool.true_and] <;> rfl) rfl rfl rfl rfl rfl (fun w44 hS52=>?_)
      refine Zk k2 (by have hreach : reach = 140737488355328:=rfl; omega) rfl rfl rfl ?_
      exact BK.mk' _ ⟨k2 + 1,v16,o4,G30,rfl,hle30,hS52,(ZS.cast hr12 (by (exact (ZeJ ‹_› ‹_›).symm))),⟨rfl,rfl,rfl,rfl,rfl,rfl,rfl,rfl,rfl,trivial⟩,(by omega)⟩ (show f.cols.length - (k2 + 1) < f.cols.length - k2 by omega)
     have qo16:=ZS.freeze hr9 hS47 0 rfl
     obtain ⟨G31,hle31,hs16,hS53⟩:=qo16
     have hkf:=Sl.cast (l':=YY t.s f.cols (Z5 t o f).v) hs16 (by rw [List.take_of_length_le (by omega)])
     have qo17:=hS53.sealAt 1 rfl hn6
     obtain ⟨G32,hle32,hc13,hS54⟩:=qo17
     refine Zc hS54 (hc1.mono ((((((((((((((((hle2.trans hle3).trans hle4).trans hle5).trans hle6).trans hle7).trans hle10).trans hle11).trans hle21).trans hle22).trans hle26).trans hle27).trans hle28).trans hle29).trans hle30).trans hle31).trans hle32)) [Zd t.s.name,v1, .int .i64 t.s.key,v2,v3, .int .i64 t.last] Zp rfl rfl rfl rfl rfl <| Zb hS54 (Xl.drop 0 (hc10.mono (((hle29.trans hle30).trans hle31).trans hle32))) ZG rfl rfl rfl ?_
     refine Zj hS54 ZgQ rfl rfl rfl (ZjG hS54.imm t ((Z5 t o f).v) ((Z5 t o f).r.d.a) ((Z5 t o f).r.x.a) _ (Zl t hb1 (hs1.mono (((((((((((((((((hle1.trans hle2).trans hle3).trans hle4).trans hle5).trans hle6).trans hle7).trans hle10).trans hle11).trans hle21).trans hle22).trans hle26).trans hle27).trans hle28).trans hle29).trans hle30).trans hle31).trans hle32)) hb2 (hs2.mono (((((((((((((((((hle1.trans hle2).trans hle3).trans hle4).trans hle5).trans hle6).trans hle7).trans hle10).trans hle11).trans hle21).trans hle22).trans hle26).trans hle27).trans hle28).trans hle29).trans hle30).trans hle31).trans hle32)) (hs3.mono (((((((((((((((((hle1.trans hle2).trans hle3).trans hle4).trans hle5).trans hle6).trans hle7).trans hle10).trans hle11).trans hle21).trans hle22).trans hle26).trans hle27).trans hle28).trans hle29).trans hle30).trans hle31).trans hle32)) hb3) _ (hs15.mono ((((hle28.trans hle29).trans hle30).trans hle31).trans hle32))) (fun w45 G33 hS55 hle33=>?_)
     refine WL.split (fun (h19 : (Zct t ((Z5 t o f).v) ((Z5 t o f).r.d.a) ((Z5 t o f).r.x.a)) = true)=>?_) (fun (h19 : (Zct t ((Z5 t o f).v) ((Z5 t o f).r.d.a) ((Z5 t o f).r.x.a)) = false)=>?_)
     ·refine Zc hS55 (hc2.mono ((((((((((((((((hle3.trans hle4).trans hle5).trans hle6).trans hle7).trans hle10).trans hle11).trans hle21).trans hle22).trans hle26).trans hle27).trans hle28).trans hle29).trans hle30).trans hle31).trans hle32).trans hle33)) [Zd o.s.name,v4, .int .i64 o.s.key,v5,v6, .int .i64 o.last] Zp rfl rfl rfl rfl rfl ?_
      refine Z3 hS55 ZbK rfl rfl rfl (XG hS55.imm o ((Z5 t o f).r.d.a) ((Z5 t o f).r.x.a) _ (Zl o hb4 (hs4.mono ((((((((((((((((((hle1.trans hle2).trans hle3).trans hle4).trans hle5).trans hle6).trans hle7).trans hle10).trans hle11).trans hle21).trans hle22).trans hle26).trans hle27).trans hle28).trans hle29).trans hle30).trans hle31).trans hle32).trans hle33)) hb5 (hs5.mono ((((((((((((((((((hle1.trans hle2).trans hle3).trans hle4).trans hle5).trans hle6).trans hle7).trans hle10).trans hle11).trans hle21).trans hle22).trans hle26).trans hle27).trans hle28).trans hle29).trans hle30).trans hle31).trans hle32).trans hle33)) (hs6.mono ((((((((((((((((((hle1.trans hle2).trans hle3).trans hle4).trans hle5).trans hle6).trans hle7).trans hle10).trans hle11).trans hle21).trans hle22).trans hle26).trans hle27).trans hle28).trans hle29).trans hle30).trans hle31).trans hle32).trans hle33)) hb6)) (fun w46 G34 r14 hpost8 hS56 hle34=>?_)
      refine Zj hS56 ZiR rfl rfl rfl (Zaa hS56.imm (Zz o ((Z5 t o f).r.d.a) ((Z5 t o f).r.x.a)) (fun x8=>decide (YO (Schema.mk o.s.name o.s.cols o.s.key o.s.fks) x8 = (YY t.s f.cols (Z5 t o f).v))) _ hpost8 30 #[.pointer (some p2), .pointer (some (⟨b6,0,none⟩ : Addr))] ⟨Zr0,fun G8 w8 v8 x8 hle8 hG8 hon8 hA8=>by exact Zqi hG8 x8 (YY t.s f.cols (Z5 t o f).v) o.s.name o.s.cols o.s.key o.s.fks o.rows o.last v8 hA8 v4 ((hs4.mono (((((((((((((((((((hle1.trans hle2).trans hle3).trans hle4).trans hle5).trans hle6).trans hle7).trans hle10).trans hle11).trans hle21).trans hle22).trans hle26).trans hle27).trans hle28).trans hle29).trans hle30).trans hle31).trans hle32).trans hle33).trans hle34)).mono hle8) v5 ((hs5.mono (((((((((((((((((((hle1.trans hle2).trans hle3).trans hle4).trans hle5).trans hle6).trans hle7).trans hle10).trans hle11).trans hle21).trans hle22).trans hle26).trans hle27).trans hle28).trans hle29).trans hle30).trans hle31).trans hle32).trans hle33).trans hle34)).mono hle8) v6 ((hs6.mono (((((((((((((((((((hle1.trans hle2).trans hle3).trans hle4).trans hle5).trans hle6).trans hle7).trans hle10).trans hle11).trans hle21).trans hle22).trans hle26).trans hle27).trans hle28).trans hle29).trans hle30).trans hle31).trans hle32).trans hle33).trans hle34)).mono hle8) p2 ((hc2.mono (((((((((((((((((hle3.trans hle4).trans hle5).trans hle6).trans hle7).trans hle10).trans hle11).trans hle21).trans hle22).trans hle26).trans hle27).trans hle28).trans hle29).trans hle30).trans hle31).trans hle32).trans hle33).trans hle34)).mono hle8) v15 ((hkf.mono ((hle32.trans hle33).trans hle34)).mono hle8) (⟨b6,0,none⟩ : Addr) ((hc13.mono (hle33.trans hle34)).mono hle8) ‹_› ‹_›⟩) (fun w47 G35 hS57 hle35=>?_)
      exact RB hS57 rfl (by first | with_reducible rfl | with_reducible exact tf hpu.2 ‹_› | with_reducible exact absurd (congrArg (fun n : Nat=>(n : Int)) hpc.2.1) ‹_› | with_reducible exact tf hpc.2.2.1 ‹_› | exact congrArg not hpc.2.2.2 | (exfalso; omega))
     exact RB hS55 rfl (by first | with_reducible rfl | with_reducible exact tf hpu.2 ‹_› | with_reducible exact absurd (congrArg (fun n : Nat=>(n : Int)) hpc.2.1) ‹_› | with_reducible exact tf hpc.2.2.1 ‹_› | exact congrArg not hpc.2.2.2 | (exfalso; omega))
    exact RB hS38 rfl (by first | with_reducible rfl | with_reducible exact tf hpu.2 ‹_› | with_reducible exact absurd (congrArg (fun n : Nat=>(n : Int)) hpc.2.1) ‹_› | with_reducible exact tf hpc.2.2.1 ‹_› | exact congrArg not hpc.2.2.2 | (exfalso; omega))
   refine Zj hS7 Yq rfl rfl rfl (X9 hS7.imm) (fun w48 G36 hS58 hle36=>?_)
   exact RB hS58 rfl (by first | with_reducible rfl | with_reducible exact tf hpu.2 ‹_› | with_reducible exact absurd (congrArg (fun n : Nat=>(n : Int)) hpc.2.1) ‹_› | with_reducible exact tf hpc.2.2.1 ‹_› | exact congrArg not hpc.2.2.2 | (exfalso; omega))
  refine Zj hS6 Yq rfl rfl rfl (X9 hS6.imm) (fun w49 G37 hS59 hle37=>?_)
  exact RB hS59 rfl (by first | with_reducible rfl | with_reducible exact tf hpu.2 ‹_› | with_reducible exact absurd (congrArg (fun n : Nat=>(n : Int)) hpc.2.1) ‹_› | with_reducible exact tf hpc.2.2.1 ‹_› | exact congrArg not hpc.2.2.2 | (exfalso; omega))
 refine Zj hS5 Yq rfl rfl rfl (X9 hS5.imm) (fun w50 G38 hS60 hle38=>?_)
 exact RB hS60 rfl (by first | with_reducible rfl | with_reducible exact tf hpu.2 ‹_› | with_reducible exact absurd (congrArg (fun n : Nat=>(n : Int)) hpc.2.1) ‹_› | with_reducible exact tf hpc.2.2.1 ‹_› | exact congrArg not hpc.2.2.2 | (exfalso; omega))
end Go.Civ
