/- Lemmas. -/
import Derived.Test.YthgeclodflmiaaaGreatH18
import Derived.Test.YthgeclodflmiaaaGreatH28
import Derived.Test.YthgeclodflmiaaaGreatH32
import Derived.Test.YthgeclodflmiaaaGreatH34
import Derived.Test.YthgeclodflmiaaaGreatProg
import Derived.KernelRfl
import Derived.WalkKit
set_option linter.unusedVariables false
set_option linter.unusedSimpArgs false
set_option maxRecDepth 100000
set_option maxHeartbeats 4000000
namespace Go.Civ
open Go.Proofs
theorem Zg1 {G : GH} {w : World} (hG : G.In w) (t : Table) (ct : List Value) (hct : TableE.rep G t ct) (hv : Z2 t = true) : CL Tryz.prog (nat_lit 60) #[.agg ct.toArray] [] w G fun G' _ r=>∃ r0 r1,r = .tuple #[r0,r1] ∧ Is PtE G' r0 (Yk (Zx t)) ∧ r1 = .bool ((Zx t).isSome):=by
 refine YB ft [] Tryz.func60 rfl rfl ?_
 have hS:=St.start (X:=[]) hG
 obtain ⟨v1,v2,v3,rfl,hb1,hs1,hb2,hs2,hs3,hb3⟩:=Zy hct
 refine Zv [Zb t.s.name,v1, .int .i64 t.s.key,v2,v3, .int .i64 t.last] _ hS rfl rfl rfl (fun p1 w1 G1 hle1 hsp1 hc1 hS1=>?_)
 refine WL.alloc hS1 Xr rfl rfl (fun b1 w2 hn1 hS2=>?_)
 obtain ⟨hg9,hn9,h89,he9⟩:=Y5 hv
 have hkl:=Zgl hv
 have hk1:=Zit hv
 refine Za hS2 (Xw.drop 4 hc1) Xg rfl rfl rfl ?_
 have bd1:=hs3.bound
 refine Zj (hs3.mono hle1) Yq rfl rfl ?_
 have hS4:=hS2.pad
 refine LP.go ft [] (fun m ρ1 w1=>∃ (k1 : Nat),∃ (v4 : Value) (o1 : OB),∃ (G2 : GH),m = t.rows.length - k1 ∧ G1.le G2 ∧ St w [] G G2 [o1,some (b1,105,[.int .i64 0, .int .i64 0, .slice none 0 0])] w1 ∧ Ye PtE 40 105 G2 v4 (ZaS t.s.key.toNat t.rows k1) o1 ∧ FR ρ1 [(1, .pointer (some p1)),(2, .pointer (some ⟨b1,0,none⟩)),(4,v4),(17,v3),(18, .int .i64 (t.rows.length : Int)),(19, .int .i64 (k1 : Int))] ∧ k1 ≤ t.rows.length) _ ⟨0,(.slice none 0 0),none,G1,rfl,(G1.le_refl),hS4,(Ye.cast (Ye.nil PtE 40 105 G1) (by rfl)),⟨rfl,rfl,rfl,rfl,rfl,rfl,trivial⟩,(by omega)⟩ ?_
 rintro m ρ1 w3 ⟨k1,v4,o1,G2,rfl,hle2,hS3,hr1,hF9,f1⟩
 refine hF9.set ?_
 clear hF9
 have hpl:=ZfH (k:=t.s.key.toNat) hn9 k1
 refine Zq (k1 : Int) (t.rows.length : Int) rfl rfl rfl (fun h1=>?_) (fun h1=>?_)
 ·refine WL.indexAddr (hs3.mono (hle1.trans hle2)) k1 (by omega) Yq Zt rfl rfl rfl rfl (fun p2 x1 hx1 he1=>?_)
  obtain ⟨cs1,hc2,hr2⟩:=he1
  obtain ⟨v5,rfl,hs4,hb4,hb5,hb6,hb7⟩:=ZA hr2
  refine Zc hS3 hc2 [v5, .int .i64 x1.r.d.a, .int .i64 x1.r.d.b, .int .i64 x1.r.x.a, .int .i64 x1.r.x.b] Zt rfl rfl rfl rfl rfl ?_
  refine WL.alloc hS3 Zt rfl rfl (fun b2 w4 hn2 hS5=>?_)
  refine WL.store hS5 0 _ _ _ 0 _ [v5, .int .i64 x1.r.d.a, .int .i64 x1.r.d.b, .int .i64 x1.r.x.a, .int .i64 x1.r.x.b] [v5, .int .i64 x1.r.d.a, .int .i64 x1.r.d.b, .int .i64 x1.r.x.a, .int .i64 x1.r.x.b] _ rfl rfl Zt rfl (Nat.le_of_ble_eq_true rfl) (by simp only [List.all_cons,List.all_nil,hs4.oneC,Bool.true_and] <;> rfl) rfl rfl rfl rfl rfl (fun w5 hS6=>?_)
  obtain ⟨G3,hle3,hc3,hS7⟩:=hS6.shutB hn2
  refine Za hS7 (Xw.drop 4 (hc1.mono (hle2.trans hle3))) Xg rfl rfl rfl ?_
  refine Yr (hs3.mono ((hle1.trans hle2).trans hle3)) k1 (by omega) Yq Zt rfl rfl rfl rfl (fun v6 hs5=>?_)
  have bd2:=hs5.bound
  refine Zj hs5 Yq rfl rfl ?_
  refine LP.go ft [] (fun m ρ1 w1=>∃ (k2 : Nat),∃ (v7 : Value) (o2 : OB),∃ (G4 : GH),m = (t.rows.take k1).length - k2 ∧ G3.le G4 ∧ St w [] G G4 [o2,some (b1,105,[.int .i64 0, .int .i64 0, .slice none 0 0])] w1 ∧ Ye PtE 40 105 G4 v7 (ZaS t.s.key.toNat t.rows k1 ++ ZaT t.s.key.toNat x1 ((t.rows.take k1).take k2)) o2 ∧ FR ρ1 [(1, .pointer (some p1)),(2, .pointer (some ⟨b1,0,none⟩)),(4,v7),(6, .pointer (some (⟨b2,0,none⟩ : Addr))),(17,v3),(18, .int .i64 (t.rows.length : Int)),(19, .int .i64 (k1 : Int)),(27,v6),(28, .int .i64 (((t.rows.take k1).length : Nat) : Int)),(29, .int .i64 (k2 : Int))] ∧ k2 ≤ (t.rows.take k1).length) _ ⟨0,v4,o1,G3,rfl,(G3.le_refl),hS7,(Ye.cast (hr1.mono hle3) (by (simp [ZaT]))),⟨rfl,rfl,rfl,rfl,rfl,rfl,rfl,rfl,rfl,rfl,trivial⟩,(by omega)⟩ ?_
  rintro m ρ1 w6 ⟨k2,v7,o2,G4,rfl,hle4,hS8,hr3,hF9,f2⟩
  refine hF9.set ?_
  clear hF9
  have hpl:=ZfH (k:=t.s.key.toNat) hn9 k1
  have hpi:=Zjj (k:=t.s.key.toNat) (a:=x1) (m:=(t.rows.take k1).take k2)
  have hpt:=List.length_take_le' k2 (t.rows.take k1)
  have hpu:=List.length_take_le' k1 t.rows
  refine Zq (k2 : Int) (((t.rows.take k1).length : Nat) : Int) rfl rfl rfl (fun h2=>?_) (fun h2=>?_)
  ·refine WL.indexAddr (hs5.mono hle4) k2 (by omega) Yq Zt rfl rfl rfl rfl (fun p3 x2 hx2 he2=>?_)
   obtain ⟨cs2,hc4,hr4⟩:=he2
   obtain ⟨v9,rfl,hs6,hb8,hb9,hb10,YD⟩:=ZA hr4
   refine Zc hS8 hc4 [v9, .int .i64 x2.r.d.a, .int .i64 x2.r.d.b, .int .i64 x2.r.x.a, .int .i64 x2.r.x.b] Zt rfl rfl rfl rfl rfl ?_
   refine WL.alloc hS8 Zt rfl rfl (fun b3 w7 hn3 hS9=>?_)
   refine WL.store hS9 0 _ _ _ 0 _ [v9, .int .i64 x2.r.d.a, .int .i64 x2.r.d.b, .int .i64 x2.r.x.a, .int .i64 x2.r.x.b] [v9, .int .i64 x2.r.d.a, .int .i64 x2.r.d.b, .int .i64 x2.r.x.a, .int .i64 x2.r.x.b] _ rfl rfl Zt rfl (Nat.le_of_ble_eq_true rfl) (by simp only [List.all_cons,List.all_nil,hs6.oneC,Bool.true_and] <;> rfl) rfl rfl rfl rfl rfl (fun w9 hS10=>?_)
   obtain ⟨G5,hle5,hc5,hS11⟩:=hS10.shutB hn3
   refine Za hS11 (Xw.drop 0 (Xw.drop 2 (Xw.drop 1 (hc3.mono (hle4.trans hle5))))) Zp rfl rfl rfl <| Za hS11 (Xw.drop 0 (Xw.drop 2 (Xw.drop 1 hc5))) Zp rfl rfl rfl <| ZfT x1.r.x.a x2.r.x.a rfl rfl rfl <| Za hS11 (Xw.drop 0 (Xw.drop 0 (Xw.drop 1 (hc3.mono (hle4.trans hle5))))) Zp rfl rfl rfl <| Za hS11 (Xw.drop 0 (Xw.drop 0 (Xw.drop 1 hc5))) Zp rfl rfl rfl <| ZfT x1.r.d.a x2.r.d.a rfl rfl rfl <| WL.build _ [(0,[.int .i64 (max x1.r.x.a x2.r.x.a)]),(1,[.int .i64 (max x1.r.d.a x2.r.d.a)])] [.int .i64 (max x1.r.x.a x2.r.x.a), .int .i64 (max x1.r.d.a x2.r.d.a), .slice none 0 0] Xr rfl ZrU rfl rfl rfl rfl ?_
   refine WL.alloc hS11 Xr rfl rfl (fun b4 w10 hn4 hS12=>?_)
   refine WL.store hS12 0 _ _ _ 0 _ [.int .i64 (max x1.r.x.a x2.r.x.a), .int .i64 (max x1.r.d.a x2.r.d.a), .slice none 0 0] [.int .i64 (max x1.r.x.a x2.r.x.a), .int .i64 (max x1.r.d.a x2.r.d.a), .slice none 0 0] _ rfl rfl Xr rfl (Nat.le_of_ble_eq_true rfl) rfl rfl rfl rfl rfl rfl (fun w11 hS13=>?_)
   have hvka:=hkl x1 (List.mem_of_getElem? (by assumption : t.rows[k1]? = some x1))
   have hvkb:=hkl x2 (List.mem_of_mem_take (List.mem_of_getElem? hx2))
   rcases Bool.eq_false_or_eq_true (QO (max x1.r.x.a x2.r.x.a) x1.r.x) with h3 | h3
   ·rcases Bool.eq_false_or_eq_true (QO (max x1.r.x.a x2.r.x.a) x2.r.x) with h4 | h4
    ·rcases Bool.eq_false_or_eq_true (QO (max x1.r.d.a x2.r.d.a) x1.r.d) with h5 | h5
     ·rcases Bool.eq_false_or_eq_true (QO (max x1.r.d.a x2.r.d.a) x2.r.d) with h6 | h6
      ·refine drT [36,42,43,44] [(54, .agg #[.int .i64 x1.r.x.a, .int .i64 x1.r.x.b]),(56, .int .i64 (max x1.r.x.a x2.r.x.a)),(57, .bool true),(61, .agg #[.int .i64 x2.r.x.a, .int .i64 x2.r.x.b]),(63, .int .i64 (max x1.r.x.a x2.r.x.a)),(64, .bool true),(69, .agg #[.int .i64 x1.r.d.a, .int .i64 x1.r.d.b]),(71, .int .i64 (max x1.r.d.a x2.r.d.a)),(72, .bool true),(77, .agg #[.int .i64 x2.r.d.a, .int .i64 x2.r.d.b]),(79, .int .i64 (max x1.r.d.a x2.r.d.a)),(80, .bool true),(84,v5),(87, .int .i64 t.s.key),(90,v9),(93, .int .i64 t.s.key)] hS13 ⟨fun _ hSw=>Zc hSw (Xw.drop 2 (Xw.drop 1 (hc3.mono (hle4.trans hle5)))) [.int .i64 x1.r.x.a, .int .i64 x1.r.x.b] Zu rfl rfl rfl rfl rfl <| nu rfl rfl,fun _ hSw=>ZU hSw 0 _ _ _ 0 _ rfl rfl Zp rfl rfl rfl <| nu rfl rfl,fun _ hSw=>Z4 hSw Zaw rfl rfl rfl (Zaz hSw.imm x1.r.x (max x1.r.x.a x2.r.x.a) _ (Zs x1.r.x hb6 hb7)) (congrArg Value.bool h3.symm),fun _ hSw=>Zc hSw (Xw.drop 2 (Xw.drop 1 hc5)) [.int .i64 x2.r.x.a, .int .i64 x2.r.x.b] Zu rfl rfl rfl rfl rfl <| nu rfl rfl,fun _ hSw=>ZU hSw 0 _ _ _ 0 _ rfl rfl Zp rfl rfl rfl <| nu rfl rfl,fun _ hSw=>Z4 hSw Zaw rfl rfl rfl (Zaz hSw.imm x2.r.x (max x1.r.x.a x2.r.x.a) _ (Zs x2.r.x hb10 YD)) (congrArg Value.bool h4.symm),fun _ hSw=>Zc hSw (Xw.drop 0 (Xw.drop 1 (hc3.mono (hle4.trans hle5)))) [.int .i64 x1.r.d.a, .int .i64 x1.r.d.b] Zu rfl rfl rfl rfl rfl <| nu rfl rfl,fun _ hSw=>ZU hSw 0 _ _ _ 1 _ rfl rfl Zp rfl rfl rfl <| nu rfl rfl,fun _ hSw=>Z4 hSw Zaw rfl rfl rfl (Zaz hSw.imm x1.r.d (max x1.r.d.a x2.r.d.a) _ (Zs x1.r.d hb4 hb5)) (congrArg Value.bool h5.symm),fun _ hSw=>Zc hSw (Xw.drop 0 (Xw.drop 1 hc5)) [.int .i64 x2.r.d.a, .int .i64 x2.r.d.b] Zu rfl rfl rfl rfl rfl <| nu rfl rfl,fun _ hSw=>ZU hSw 0 _ _ _ 1 _ rfl rfl Zp rfl rfl rfl <| nu rfl rfl,fun _ hSw=>Z4 hSw Zaw rfl rfl rfl (Zaz hSw.imm x2.r.d (max x1.r.d.a x2.r.d.a) _ (Zs x2.r.d hb8 hb9)) (congrArg Value.bool h6.symm),fun _ hSw=>Za hSw (Xw.drop 0 (hc3.mono (hle4.trans hle5))) ZH rfl rfl rfl <| nu rfl rfl,fun _ hSw=>Za hSw (Xw.drop 2 (Xw.drop 0 (hc1.mono (((hle2.trans hle3).trans hle4).trans hle5)))) Zp rfl rfl rfl <| nu rfl rfl,fun _ hSw=>Za hSw (Xw.drop 0 hc5) ZH rfl rfl rfl <| nu rfl rfl,fun _ hSw=>Za hSw (Xw.drop 2 (Xw.drop 0 (hc1.mono (((hle2.trans hle3).trans hle4).trans hle5)))) Zp rfl rfl rfl <| nu rfl rfl,trivial⟩ (fun w12 hS14=>?_)
       refine TGI.toTG (I:=fun w9=>GH.In G5 w9) _ _ _ _ ?_
       refine TGI.fork 3 [36,42,43,44] [36,42] rfl rfl (by decide) (by decide) (TAI.cons rfl ?_ (TAI.cons rfl ?_ TAI.nil))
       ·refine Yr (hs4.mono ((hle3.trans hle4).trans hle5)) ((t.s.key).toNat) (by omega) Yd Z3 rfl rfl rfl (congrArg (Value.int .i64) (Int.toNat_of_nonneg (by omega)).symm) (fun v10 hs7=>?_)
        refine ⟨fun _=>hS14.down hS14.le (G5.le_refl),hS14.imm,?_⟩
        refine TGI.fork 2 [42,43,44] [42] rfl rfl (by decide) (by decide) (TAI.cons rfl ?_ TAI.nil)
        refine Yr (hs6.mono hle5) ((t.s.key).toNat) (by omega) Yd Z3 rfl rfl rfl (congrArg (Value.int .i64) (Int.toNat_of_nonneg (by omega)).symm) (fun v11 hs8=>?_)
        refine ⟨fun _=>hS14.down hS14.le (G5.le_refl),hS14.imm,?_⟩
        refine TGI.fork 1 [43,44] [43] rfl rfl (by decide) (by decide) (TAI.cons rfl ?_ TAI.nil)
        refine Zn hS14 Zbs rfl rfl rfl (ZbY hS14.imm (x1.v.take ((t.s.key).toNat)) (x2.v.take ((t.s.key).toNat)) _ hs7 _ hs8) (fun w13 G6 hS15 hle6=>?_)
        refine WL.split (fun (h7 : (decide ((x1.v.take ((t.s.key).toNat)) = (x2.v.take ((t.s.key).toNat)))) = true)=>?_) (fun (h7 : (decide ((x1.v.take ((t.s.key).toNat)) = (x2.v.take ((t.s.key).toNat)))) = false)=>?_)
        ·refine ⟨fun h=>absurd h (by decide),(hS15.imm.down hle6),?_⟩
         refine TGI.quiet 0 [44] 44 rfl rfl rfl rfl rfl (by decide) (hS15.imm.down hle6) (fun w9 _ K9 k9=>Za2 rfl rfl k9) ?_
         refine TGI.fin rfl ?_
         refine Za hS15 (Xw.drop 0 (hc3.mono ((hle4.trans hle5).trans hle6))) ZH rfl rfl rfl ?_
         refine WL.store hS15 0 _ _ _ 2 _ [v5] [.int .i64 (max x1.r.x.a x2.r.x.a), .int .i64 (max x1.r.d.a x2.r.d.a),v5] _ rfl (hs4.mono (((hle3.trans hle4).trans hle5).trans hle6)).cells1 ZH rfl (Nat.le_of_ble_eq_true rfl) (by simp only [List.all_cons,List.all_nil,(hs4.mono (((hle3.trans hle4).trans hle5).trans hle6)).oneC,Bool.true_and] <;> rfl) rfl rfl rfl rfl rfl (fun w14 hS16=>?_)
         refine Za hS16 (Xw.drop 0 (hc5.mono hle6)) ZH rfl rfl rfl <| Za hS16 (Xw.drop 0 (hc3.mono ((hle4.trans hle5).trans hle6))) ZH rfl rfl rfl ?_
         refine Zn hS16 ZjA rfl rfl rfl (ZfY hS16.imm x2.v x1.v _ (hs6.mono (hle5.trans hle6)) _ (hs4.mono (((hle3.trans hle4).trans hle5).trans hle6))) (fun w15 G7 hS17 hle7=>?_)
         refine Zq (X4 x2.v x1.v) 0 rfl rfl rfl (fun h8=>?_) (fun h8=>?_)
         ·refine Za hS17 (Xw.drop 0 (hc5.mono (hle6.trans hle7))) ZH rfl rfl rfl ?_
          refine WL.store hS17 0 _ _ _ 2 _ [v9] [.int .i64 (max x1.r.x.a x2.r.x.a), .int .i64 (max x1.r.d.a x2.r.d.a),v9] _ rfl (hs6.mono ((hle5.trans hle6).trans hle7)).cells1 ZH rfl (Nat.le_of_ble_eq_true rfl) (by simp only [List.all_cons,List.all_nil,(hs6.mono ((hle5.trans hle6).trans hle7)).oneC,Bool.true_and] <;> rfl) rfl rfl rfl rfl rfl (fun w16 hS18=>?_)
          refine ZD hS18 0 _ _ _ 0 [.int .i64 (max x1.r.x.a x2.r.x.a), .int .i64 (max x1.r.d.a x2.r.d.a),v9] rfl rfl rfl Xr rfl rfl rfl ?_
          refine WL.buildSlice _ [(0,[.int .i64 (max x1.r.x.a x2.r.x.a), .int .i64 (max x1.r.d.a x2.r.d.a),v9])] [.int .i64 (max x1.r.x.a x2.r.x.a), .int .i64 (max x1.r.d.a x2.r.d.a),v9] hS18 Zdz rfl rfl rfl rfl (fun z hz=>by match z,hz with | [z0,z1,z2],_=>rfl) (fun b5 w17 hn5 hS19=>?_)
          refine WL.push (m:=([(Pt.mk (max x1.r.x.a x2.r.x.a) (max x1.r.d.a x2.r.d.a) x2.v)] : List Pt)) Zdz rfl rfl rfl (hr3.mono ((hle5.trans hle6).trans hle7)) hS19 2 rfl 0 _ _ _ _ _ rfl ⟨[.int .i64 (max x1.r.x.a x2.r.x.a), .int .i64 (max x1.r.d.a x2.r.d.a),v9],_,rfl,(Zbk (Pt.mk (max x1.r.x.a x2.r.x.a) (max x1.r.d.a x2.r.d.a) x2.v) (Zam hb6 hb10) (Zam hb4 hb8) (hs6.mono ((hle5.trans hle6).trans hle7))),rfl⟩ rfl (by have hreach : reach = 140737488355328:=rfl; simp only [List.length_append,List.length_cons,List.length_nil]; omega) (by have hreach : reach = 140737488355328:=rfl; simp only [List.length_append,List.length_cons,List.length_nil]; omega) rfl rfl rfl (fun v12 o3 w18 hr5 hS20=>?_)
          have hS21:=hS20.tail
          refine Zl k2 (by have hreach : reach = 140737488355328:=rfl; omega) rfl rfl rfl ?_
          have hS22:=hS21.tail
          exact BK.mk' _ ⟨k2 + 1,v12,o3,G7,rfl,(hle4.trans ((hle5.trans hle6).trans hle7)),hS22,(Ye.cast hr5 (by ((rw [ZdI ‹_› ‹_› ‹_› ‹_› ‹_› ‹_›,List.append_assoc]; first | rw [Zgj ‹_›] | rw [Zgk ‹_›])))),⟨rfl,rfl,rfl,rfl,rfl,rfl,rfl,rfl,rfl,rfl,trivial⟩,(by omega)⟩ (show (t.rows.take k1).length - (k2 + 1) < (t.rows.take k1).length - k2 by omega)
         refine ZD hS17 0 _ _ _ 0 [.int .i64 (max x1.r.x.a x2.r.x.a), .int .i64 (max x1.r.d.a x2.r.d.a),v5] rfl rfl rfl Xr rfl rfl rfl ?_
         refine WL.buildSlice _ [(0,[.int .i64 (max x1.r.x.a x2.r.x.a), .int .i64 (max x1.r.d.a x2.r.d.a),v5])] [.int .i64 (max x1.r.x.a x2.r.x.a), .int .i64 (max x1.r.d.a x2.r.d.a),v5] hS17 Zdz rfl rfl rfl rfl (fun z hz=>by match z,hz with | [z0,z1,z2],_=>rfl) (fun b6 w19 hn6 hS23=>?_)
         refine WL.push (m:=([(Pt.mk (max x1.r.x.a x2.r.x.a) (max x1.r.d.a x2.r.d.a) x1.v)] : List Pt)) Zdz rfl rfl rfl (hr3.mono ((hle5.trans hle6).trans hle7)) hS23 2 rfl 0 _ _ _ _ _ rfl ⟨[.int .i64 (max x1.r.x.a x2.r.x.a), .int .i64 (max x1.r.d.a x2.r.d.a),v5],_,rfl,(Zbk (Pt.mk (max x1.r.x.a x2.r.x.a) (max x1.r.d.a x2.r.d.a) x1.v) (Zam hb6 hb10) (Zam hb4 hb8) (hs4.mono ((((hle3.trans hle4).trans hle5).trans hle6).trans hle7))),rfl⟩ rfl (by have hreach : reach = 140737488355328:=rfl; simp only [List.length_append,List.length_cons,List.length_nil]; omega) (by have hreach : reach = 140737488355328:=rfl; simp only [List.length_append,List.length_cons,List.length_nil]; omega) rfl rfl rfl (fun v13 o4 w20 hr6 hS24=>?_)
         have hS25:=hS24.tail
         refine Zl k2 (by have hreach : reach = 140737488355328:=rfl; omega) rfl rfl rfl ?_
         have hS26:=hS25.tail
         exact BK.mk' _ ⟨k2 + 1,v13,o4,G7,rfl,(hle4.trans ((hle5.trans hle6).trans hle7)),hS26,(Ye.cast hr6 (by ((rw [ZdI ‹_› ‹_› ‹_› ‹_› ‹_› ‹_›,List.append_assoc]; first | rw [Zgj ‹_›] | rw [Zgk ‹_›])))),⟨rfl,rfl,rfl,rfl,rfl,rfl,rfl,rfl,rfl,rfl,trivial⟩,(by omega)⟩ (show (t.rows.take k1).length - (k2 + 1) < (t.rows.take k1).length - k2 by omega)
        refine ⟨fun h=>absurd h (by decide),(hS15.imm.down hle6),?_⟩
        refine TGI.quiet 0 [44] 44 rfl rfl rfl rfl rfl (by decide) (hS15.imm.down hle6) (fun w9 _ K9 k9=>Za2 rfl rfl k9) ?_
        refine TGI.fin rfl ?_
        refine Zl k2 (by have hreach : reach = 140737488355328:=rfl; omega) rfl rfl rfl ?_
        have hS27:=hS15.tail
        exact BK.mk' _ ⟨k2 + 1,v7,o2,G6,rfl,(hle4.trans (hle5.trans hle6)),hS27,(Ye.cast (hr3.mono (hle5.trans hle6)) (by ((rw [QN ‹_› (by first | exact .inl ‹_› | exact .inr (.inl ‹_›) | exact .inr (.inr (.inl ‹_›)) | exact .inr (.inr (.inr (.inl ‹_›))) | exact .inr (.inr (.inr (.inr ‹_›))))])))),⟨rfl,rfl,rfl,rfl,rfl,rfl,rfl,rfl,rfl,rfl,trivial⟩,(by omega)⟩ (show (t.rows.take k1).length - (k2 + 1) < (t.rows.take k1).length - k2 by omega)
       refine Yr (hs6.mono hle5) ((t.s.key).toNat) (by omega) Yd Z3 rfl rfl rfl (congrArg (Value.int .i64) (Int.toNat_of_nonneg (by omega)).symm) (fun v14 hs9=>?_)
       refine ⟨fun _=>hS14.down hS14.le (G5.le_refl),hS14.imm,?_⟩
       refine TGI.fork 2 [36,43,44] [36] rfl rfl (by decide) (by decide) (TAI.cons rfl ?_ TAI.nil)
       refine Yr (hs4.mono ((hle3.trans hle4).trans hle5)) ((t.s.key).toNat) (by omega) Yd Z3 rfl rfl rfl (congrArg (Value.int .i64) (Int.toNat_of_nonneg (by omega)).symm) (fun v15 hs10=>?_)
       refine ⟨fun _=>hS14.down hS14.le (G5.le_refl),hS14.imm,?_⟩
       refine TGI.fork 1 [43,44] [43] rfl rfl (by decide) (by decide) (TAI.cons rfl ?_ TAI.nil)
       refine Zn hS14 Zbs rfl rfl rfl (ZbY hS14.imm (x1.v.take ((t.s.key).toNat)) (x2.v.take ((t.s.key).toNat)) _ hs10 _ hs9) (fun w21 G9 hS28 hle9=>?_)
       refine WL.split (fun (h9 : (decide ((x1.v.take ((t.s.key).toNat)) = (x2.v.take ((t.s.key).toNat)))) = true)=>?_) (fun (h9 : (decide ((x1.v.take ((t.s.key).toNat)) = (x2.v.take ((t.s.key).toNat)))) = false)=>?_)
       ·refine ⟨fun h=>absurd h (by decide),(hS28.imm.down hle9),?_⟩
        refine TGI.quiet 0 [44] 44 rfl rfl rfl rfl rfl (by decide) (hS28.imm.down hle9) (fun w9 _ K9 k9=>Za2 rfl rfl k9) ?_
        refine TGI.fin rfl ?_
        refine Za hS28 (Xw.drop 0 (hc3.mono ((hle4.trans hle5).trans hle9))) ZH rfl rfl rfl ?_
        refine WL.store hS28 0 _ _ _ 2 _ [v5] [.int .i64 (max x1.r.x.a x2.r.x.a), .int .i64 (max x1.r.d.a x2.r.d.a),v5] _ rfl (hs4.mono (((hle3.trans hle4).trans hle5).trans hle9)).cells1 ZH rfl (Nat.le_of_ble_eq_true rfl) (by simp only [List.all_cons,List.all_nil,(hs4.mono (((hle3.trans hle4).trans hle5).trans hle9)).oneC,Bool.true_and] <;> rfl) rfl rfl rfl rfl rfl (fun w22 hS29=>?_)
        refine Za hS29 (Xw.drop 0 (hc5.mono hle9)) ZH rfl rfl rfl <| Za hS29 (Xw.drop 0 (hc3.mono ((hle4.trans hle5).trans hle9))) ZH rfl rfl rfl ?_
        refine Zn hS29 ZjA rfl rfl rfl (ZfY hS29.imm x2.v x1.v _ (hs6.mono (hle5.trans hle9)) _ (hs4.mono (((hle3.trans hle4).trans hle5).trans hle9))) (fun w23 G10 hS30 hle10=>?_)
        refine Zq (X4 x2.v x1.v) 0 rfl rfl rfl (fun h10=>?_) (fun h10=>?_)
        ·refine Za hS30 (Xw.drop 0 (hc5.mono (hle9.trans hle10))) ZH rfl rfl rfl ?_
         refine WL.store hS30 0 _ _ _ 2 _ [v9] [.int .i64 (max x1.r.x.a x2.r.x.a), .int .i64 (max x1.r.d.a x2.r.d.a),v9] _ rfl (hs6.mono ((hle5.trans hle9).trans hle10)).cells1 ZH rfl (Nat.le_of_ble_eq_true rfl) (by simp only [List.all_cons,List.all_nil,(hs6.mono ((hle5.trans hle9).trans hle10)).oneC,Bool.true_and] <;> rfl) rfl rfl rfl rfl rfl (fun w24 hS31=>?_)
         refine ZD hS31 0 _ _ _ 0 [.int .i64 (max x1.r.x.a x2.r.x.a), .int .i64 (max x1.r.d.a x2.r.d.a),v9] rfl rfl rfl Xr rfl rfl rfl ?_
         refine WL.buildSlice _ [(0,[.int .i64 (max x1.r.x.a x2.r.x.a), .int .i64 (max x1.r.d.a x2.r.d.a),v9])] [.int .i64 (max x1.r.x.a x2.r.x.a), .int .i64 (max x1.r.d.a x2.r.d.a),v9] hS31 Zdz rfl rfl rfl rfl (fun z hz=>by match z,hz with | [z0,z1,z2],_=>rfl) (fun b7 w25 hn7 hS32=>?_)
         refine WL.push (m:=([(Pt.mk (max x1.r.x.a x2.r.x.a) (max x1.r.d.a x2.r.d.a) x2.v)] : List Pt)) Zdz rfl rfl rfl (hr3.mono ((hle5.trans hle9).trans hle10)) hS32 2 rfl 0 _ _ _ _ _ rfl ⟨[.int .i64 (max x1.r.x.a x2.r.x.a), .int .i64 (max x1.r.d.a x2.r.d.a),v9],_,rfl,(Zbk (Pt.mk (max x1.r.x.a x2.r.x.a) (max x1.r.d.a x2.r.d.a) x2.v) (Zam hb6 hb10) (Zam hb4 hb8) (hs6.mono ((hle5.trans hle9).trans hle10))),rfl⟩ rfl (by have hreach : reach = 140737488355328:=rfl; simp only [List.length_append,List.length_cons,List.length_nil]; omega) (by have hreach : reach = 140737488355328:=rfl; simp only [List.length_append,List.length_cons,List.length_nil]; omega) rfl rfl rfl (fun v16 o5 w26 hr7 hS33=>?_)
         have hS34:=hS33.tail
         refine Zl k2 (by have hreach : reach = 140737488355328:=rfl; omega) rfl rfl rfl ?_
         have hS35:=hS34.tail
         exact BK.mk' _ ⟨k2 + 1,v16,o5,G10,rfl,(hle4.trans ((hle5.trans hle9).trans hle10)),hS35,(Ye.cast hr7 (by ((rw [ZdI ‹_› ‹_› ‹_› ‹_› ‹_› ‹_›,List.append_assoc]; first | rw [Zgj ‹_›] | rw [Zgk ‹_›])))),⟨rfl,rfl,rfl,rfl,rfl,rfl,rfl,rfl,rfl,rfl,trivial⟩,(by omega)⟩ (show (t.rows.take k1).length - (k2 + 1) < (t.rows.take k1).length - k2 by omega)
        refine ZD hS30 0 _ _ _ 0 [.int .i64 (max x1.r.x.a x2.r.x.a), .int .i64 (max x1.r.d.a x2.r.d.a),v5] rfl rfl rfl Xr rfl rfl rfl ?_
        refine WL.buildSlice _ [(0,[.int .i64 (max x1.r.x.a x2.r.x.a), .int .i64 (max x1.r.d.a x2.r.d.a),v5])] [.int .i64 (max x1.r.x.a x2.r.x.a), .int .i64 (max x1.r.d.a x2.r.d.a),v5] hS30 Zdz rfl rfl rfl rfl (fun z hz=>by match z,hz with | [z0,z1,z2],_=>rfl) (fun b8 w27 hn8 hS36=>?_)
        refine WL.push (m:=([(Pt.mk (max x1.r.x.a x2.r.x.a) (max x1.r.d.a x2.r.d.a) x1.v)] : List Pt)) Zdz rfl rfl rfl (hr3.mono ((hle5.trans hle9).trans hle10)) hS36 2 rfl 0 _ _ _ _ _ rfl ⟨[.int .i64 (max x1.r.x.a x2.r.x.a), .int .i64 (max x1.r.d.a x2.r.d.a),v5],_,rfl,(Zbk (Pt.mk (max x1.r.x.a x2.r.x.a) (max x1.r.d.a x2.r.d.a) x1.v) (Zam hb6 hb10) (Zam hb4 hb8) (hs4.mono ((((hle3.trans hle4).trans hle5).trans hle9).trans hle10))),rfl⟩ rfl (by have hreach : reach = 140737488355328:=rfl; simp only [List.length_append,List.length_cons,List.length_nil]; omega) (by have hreach : reach = 140737488355328:=rfl; simp only [List.length_append,List.length_cons,List.length_nil]; omega) rfl rfl rfl (fun v17 o6 w28 hr8 hS37=>?_)
        have hS38:=hS37.tail
        refine Zl k2 (by have hreach : reach = 140737488355328:=rfl; omega) rfl rfl rfl ?_
        have hS39:=hS38.tail
        exact BK.mk' _ ⟨k2 + 1,v17,o6,G10,rfl,(hle4.trans ((hle5.trans hle9).trans hle10)),hS39,(Ye.cast hr8 (by ((rw [ZdI ‹_› ‹_› ‹_› ‹_› ‹_› ‹_›,List.append_assoc]; first | rw [Zgj ‹_›] | rw [Zgk ‹_›])))),⟨rfl,rfl,rfl,rfl,rfl,rfl,rfl,rfl,rfl,rfl,trivial⟩,(by omega)⟩ (show (t.rows.take k1).length - (k2 + 1) < (t.rows.take k1).length - k2 by omega)
       refine ⟨fun h=>absurd h (by decide),(hS28.imm.down hle9),?_⟩
       refine TGI.quiet 0 [44] 44 rfl rfl rfl rfl rfl (by decide) (hS28.imm.down hle9) (fun w9 _ K9 k9=>Za2 rfl rfl k9) ?_
       refine TGI.fin rfl ?_
       refine Zl k2 (by have hreach : reach = 140737488355328:=rfl; omega) rfl rfl rfl ?_
       have hS40:=hS28.tail
       exact BK.mk' _ ⟨k2 + 1,v7,o2,G9,rfl,(hle4.trans (hle5.trans hle9)),hS40,(Ye.cast (hr3.mono (hle5.trans hle9)) (by ((rw [QN ‹_› (by first | exact .inl ‹_› | exact .inr (.inl ‹_›) | exact .inr (.inr (.inl ‹_›)) | exact .inr (.inr (.inr (.inl ‹_›))) | exact .inr (.inr (.inr (.inr ‹_›))))])))),⟨rfl,rfl,rfl,rfl,rfl,rfl,rfl,rfl,rfl,rfl,trivial⟩,(by omega)⟩ (show (t.rows.take k1).length - (k2 + 1) < (t.rows.take k1).length - k2 by omega)
      refine drT [36,42,43,44] [(54, .agg #[.int .i64 x1.r.x.a, .int .i64 x1.r.x.b]),(56, .int .i64 (max x1.r.x.a x2.r.x.a)),(57, .bool true),(61, .agg #[.int .i64 x2.r.x.a, .int .i64 x2.r.x.b]),(63, .int .i64 (max x1.r.x.a x2.r.x.a)),(64, .bool true),(69, .agg #[.int .i64 x1.r.d.a, .int .i64 x1.r.d.b]),(71, .int .i64 (max x1.r.d.a x2.r.d.a)),(72, .bool true),(77, .agg #[.int .i64 x2.r.d.a, .int .i64 x2.r.d.b]),(79, .int .i64 (max x1.r.d.a x2.r.d.a)),(80, .bool false)] hS13 ⟨fun _ hSw=>Zc hSw (Xw.drop 2 (Xw.drop 1 (hc3.mono (hle4.trans hle5)))) [.int .i64 x1.r.x.a, .int .i64 x1.r.x.b] Zu rfl rfl rfl rfl rfl <| nu rfl rfl,fun _ hSw=>ZU hSw 0 _ _ _ 0 _ rfl rfl Zp rfl rfl rfl <| nu rfl rfl,fun _ hSw=>Z4 hSw Zaw rfl rfl rfl (Zaz hSw.imm x1.r.x (max x1.r.x.a x2.r.x.a) _ (Zs x1.r.x hb6 hb7)) (congrArg Value.bool h3.symm),fun _ hSw=>Zc hSw (Xw.drop 2 (Xw.drop 1 hc5)) [.int .i64 x2.r.x.a, .int .i64 x2.r.x.b] Zu rfl rfl rfl rfl rfl <| nu rfl rfl,fun _ hSw=>ZU hSw 0 _ _ _ 0 _ rfl rfl Zp rfl rfl rfl <| nu rfl rfl,fun _ hSw=>Z4 hSw Zaw rfl rfl rfl (Zaz hSw.imm x2.r.x (max x1.r.x.a x2.r.x.a) _ (Zs x2.r.x hb10 YD)) (congrArg Value.bool h4.symm),fun _ hSw=>Zc hSw (Xw.drop 0 (Xw.drop 1 (hc3.mono (hle4.trans hle5)))) [.int .i64 x1.r.d.a, .int .i64 x1.r.d.b] Zu rfl rfl rfl rfl rfl <| nu rfl rfl,fun _ hSw=>ZU hSw 0 _ _ _ 1 _ rfl rfl Zp rfl rfl rfl <| nu rfl rfl,fun _ hSw=>Z4 hSw Zaw rfl rfl rfl (Zaz hSw.imm x1.r.d (max x1.r.d.a x2.r.d.a) _ (Zs x1.r.d hb4 hb5)) (congrArg Value.bool h5.symm),fun _ hSw=>Zc hSw (Xw.drop 0 (Xw.drop 1 hc5)) [.int .i64 x2.r.d.a, .int .i64 x2.r.d.b] Zu rfl rfl rfl rfl rfl <| nu rfl rfl,fun _ hSw=>ZU hSw 0 _ _ _ 1 _ rfl rfl Zp rfl rfl rfl <| nu rfl rfl,fun _ hSw=>Z4 hSw Zaw rfl rfl rfl (Zaz hSw.imm x2.r.d (max x1.r.d.a x2.r.d.a) _ (Zs x2.r.d hb8 hb9)) (congrArg Value.bool h6.symm),trivial⟩ (fun w29 hS41=>?_)
      refine TGI.toTG (I:=fun w9=>GH.In G5 w9) _ _ _ _ ?_
      refine TGI.fork 3 [36,42,43,44] [36,42] rfl rfl (by decide) (by decide) (TAI.cons rfl ?_ (TAI.cons rfl ?_ TAI.nil))
      ·refine WL.no rfl rfl ?_
       refine ⟨fun _=>hS41.down hS41.le (G5.le_refl),hS41.imm,?_⟩
       refine TGI.fork 2 [42,43,44] [42] rfl rfl (by decide) (by decide) (TAI.cons rfl ?_ TAI.nil)
       refine WL.no rfl rfl ?_
       refine ⟨fun _=>hS41.down hS41.le (G5.le_refl),hS41.imm,?_⟩
       refine TGI.fork 1 [43,44] [43] rfl rfl (by decide) (by decide) (TAI.cons rfl ?_ TAI.nil)
       refine WL.no rfl rfl ?_
       refine ⟨fun h=>absurd h (by decide),hS41.imm,?_⟩
       refine TGI.quiet 0 [44] 44 rfl rfl rfl rfl rfl (by decide) hS41.imm (fun w9 _ K9 k9=>QJ rfl rfl k9) ?_
       refine TGI.fin rfl ?_
       refine Zl k2 (by have hreach : reach = 140737488355328:=rfl; omega) rfl rfl rfl ?_
       have hS42:=hS41.tail
       exact BK.mk' _ ⟨k2 + 1,v7,o2,G5,rfl,(hle4.trans hle5),hS42,(Ye.cast (hr3.mono hle5) (by ((rw [QN ‹_› (by first | exact .inl ‹_› | exact .inr (.inl ‹_›) | exact .inr (.inr (.inl ‹_›)) | exact .inr (.inr (.inr (.inl ‹_›))) | exact .inr (.inr (.inr (.inr ‹_›))))])))),⟨rfl,rfl,rfl,rfl,rfl,rfl,rfl,rfl,rfl,rfl,trivial⟩,(by omega)⟩ (show (t.rows.take k1).length - (k2 + 1) < (t.rows.take k1).length - k2 by omega)
      refine WL.no rfl rfl ?_
      refine ⟨fun _=>hS41.down hS41.le (G5.le_refl),hS41.imm,?_⟩
      refine TGI.fork 2 [36,43,44] [36] rfl rfl (by decide) (by decide) (TAI.cons rfl ?_ TAI.nil)
      refine WL.no rfl rfl ?_
      refine ⟨fun _=>hS41.down hS41.le (G5.le_refl),hS41.imm,?_⟩
      refine TGI.fork 1 [43,44] [43] rfl rfl (by decide) (by decide) (TAI.cons rfl ?_ TAI.nil)
      refine WL.no rfl rfl ?_
      refine ⟨fun h=>absurd h (by decide),hS41.imm,?_⟩
      refine TGI.quiet 0 [44] 44 rfl rfl rfl rfl rfl (by decide) hS41.imm (fun w9 _ K9 k9=>QJ rfl rfl k9) ?_
      refine TGI.fin rfl ?_
      refine Zl k2 (by have hreach : reach = 140737488355328:=rfl; omega) rfl rfl rfl ?_
      have hS43:=hS41.tail
      exact BK.mk' _ ⟨k2 + 1,v7,o2,G5,rfl,(hle4.trans hle5),hS43,(Ye.cast (hr3.mono hle5) (by ((rw [QN ‹_› (by first | exact .inl ‹_› | exact .inr (.inl ‹_›) | exact .inr (.inr (.inl ‹_›)) | exact .inr (.inr (.inr (.inl ‹_›))) | exact .inr (.inr (.inr (.inr ‹_›))))])))),⟨rfl,rfl,rfl,rfl,rfl,rfl,rfl,rfl,rfl,rfl,trivial⟩,(by omega)⟩ (show (t.rows.take k1).length - (k2 + 1) < (t.rows.take k1).length - k2 by omega)
     refine drT [36,42,43,44] [(54, .agg #[.int .i64 x1.r.x.a, .int .i64 x1.r.x.b]),(56, .int .i64 (max x1.r.x.a x2.r.x.a)),(57, .bool true),(61, .agg #[.int .i64 x2.r.x.a, .int .i64 x2.r.x.b]),(63, .int .i64 (max x1.r.x.a x2.r.x.a)),(64, .bool true),(69, .agg #[.int .i64 x1.r.d.a, .int .i64 x1.r.d.b]),(71, .int .i64 (max x1.r.d.a x2.r.d.a)),(72, .bool false)] hS13 ⟨fun _ hSw=>Zc hSw (Xw.drop 2 (Xw.drop 1 (hc3.mono (hle4.trans hle5)))) [.int .i64 x1.r.x.a, .int .i64 x1.r.x.b] Zu rfl rfl rfl rfl rfl <| nu rfl rfl,fun _ hSw=>ZU hSw 0 _ _ _ 0 _ rfl rfl Zp rfl rfl rfl <| nu rfl rfl,fun _ hSw=>Z4 hSw Zaw rfl rfl rfl (Zaz hSw.imm x1.r.x (max x1.r.x.a x2.r.x.a) _ (Zs x1.r.x hb6 hb7)) (congrArg Value.bool h3.symm),fun _ hSw=>Zc hSw (Xw.drop 2 (Xw.drop 1 hc5)) [.int .i64 x2.r.x.a, .int .i64 x2.r.x.b] Zu rfl rfl rfl rfl rfl <| nu rfl rfl,fun _ hSw=>ZU hSw 0 _ _ _ 0 _ rfl rfl Zp rfl rfl rfl <| nu rfl rfl,fun _ hSw=>Z4 hSw Zaw rfl rfl rfl (Zaz hSw.imm x2.r.x (max x1.r.x.a x2.r.x.a) _ (Zs x2.r.x hb10 YD)) (congrArg Value.bool h4.symm),fun _ hSw=>Zc hSw (Xw.drop 0 (Xw.drop 1 (hc3.mono (hle4.trans hle5)))) [.int .i64 x1.r.d.a, .int .i64 x1.r.d.b] Zu rfl rfl rfl rfl rfl <| nu rfl rfl,fun _ hSw=>ZU hSw 0 _ _ _ 1 _ rfl rfl Zp rfl rfl rfl <| nu rfl rfl,fun _ hSw=>Z4 hSw Zaw rfl rfl rfl (Zaz hSw.imm x1.r.d (max x1.r.d.a x2.r.d.a) _ (Zs x1.r.d hb4 hb5)) (congrArg Value.bool h5.symm),trivial⟩ (fun w30 hS44=>?_)
     refine TGI.toTG (I:=fun w9=>GH.In G5 w9) _ _ _ _ ?_
     refine TGI.fork 3 [36,42,43,44] [36,42] rfl rfl (by decide) (by decide) (TAI.cons rfl ?_ (TAI.cons rfl ?_ TAI.nil))
     ·refine WL.no rfl rfl ?_
      refine ⟨fun _=>hS44.down hS44.le (G5.le_refl),hS44.imm,?_⟩
      refine TGI.fork 2 [42,43,44] [42] rfl rfl (by decide) (by decide) (TAI.cons rfl ?_ TAI.nil)
      refine WL.no rfl rfl ?_
      refine ⟨fun _=>hS44.down hS44.le (G5.le_refl),hS44.imm,?_⟩
      refine TGI.fork 1 [43,44] [43] rfl rfl (by decide) (by decide) (TAI.cons rfl ?_ TAI.nil)
      refine WL.no rfl rfl ?_
      refine ⟨fun h=>absurd h (by decide),hS44.imm,?_⟩
      refine TGI.quiet 0 [44] 44 rfl rfl rfl rfl rfl (by decide) hS44.imm (fun w9 _ K9 k9=>QJ rfl rfl k9) ?_
      refine TGI.fin rfl ?_
      refine Zl k2 (by have hreach : reach = 140737488355328:=rfl; omega) rfl rfl rfl ?_
      have hS45:=hS44.tail
      exact BK.mk' _ ⟨k2 + 1,v7,o2,G5,rfl,(hle4.trans hle5),hS45,(Ye.cast (hr3.mono hle5) (by ((rw [QN ‹_› (by first | exact .inl ‹_› | exact .inr (.inl ‹_›) | exact .inr (.inr (.inl ‹_›)) | exact .inr (.inr (.inr (.inl ‹_›))) | exact .inr (.inr (.inr (.inr ‹_›))))])))),⟨rfl,rfl,rfl,rfl,rfl,rfl,rfl,rfl,rfl,rfl,trivial⟩,(by omega)⟩ (show (t.rows.take k1).length - (k2 + 1) < (t.rows.take k1).length - k2 by omega)
     refine WL.no rfl rfl ?_
     refine ⟨fun _=>hS44.down hS44.le (G5.le_refl),hS44.imm,?_⟩
     refine TGI.fork 2 [36,43,44] [36] rfl rfl (by decide) (by decide) (TAI.cons rfl ?_ TAI.nil)
     refine WL.no rfl rfl ?_
     refine ⟨fun _=>hS44.down hS44.le (G5.le_refl),hS44.imm,?_⟩
     refine TGI.fork 1 [43,44] [43] rfl rfl (by decide) (by decide) (TAI.cons rfl ?_ TAI.nil)
     refine WL.no rfl rfl ?_
     refine ⟨fun h=>absurd h (by decide),hS44.imm,?_⟩
     refine TGI.quiet 0 [44] 44 rfl rfl rfl rfl rfl (by decide) hS44.imm (fun w9 _ K9 k9=>QJ rfl rfl k9) ?_
     refine TGI.fin rfl ?_
     refine Zl k2 (by have hreach : reach = 140737488355328:=rfl; omega) rfl rfl rfl ?_
     have hS46:=hS44.tail
     exact BK.mk' _ ⟨k2 + 1,v7,o2,G5,rfl,(hle4.trans hle5),hS46,(Ye.cast (hr3.mono hle5) (by ((rw [QN ‹_› (by first | exact .inl ‹_› | exact .inr (.inl ‹_›) | exact .inr (.inr (.inl ‹_›)) | exact .inr (.inr (.inr (.inl ‹_›))) | exact .inr (.inr (.inr (.inr ‹_›))))])))),⟨rfl,rfl,rfl,rfl,rfl,rfl,rfl,rfl,rfl,rfl,trivial⟩,(by omega)⟩ (show (t.rows.take k1).length - (k2 + 1) < (t.rows.take k1).length - k2 by omega)
    refine drT [36,42,43,44] [(54, .agg #[.int .i64 x1.r.x.a, .int .i64 x1.r.x.b]),(56, .int .i64 (max x1.r.x.a x2.r.x.a)),(57, .bool true),(61, .agg #[.int .i64 x2.r.x.a, .int .i64 x2.r.x.b]),(63, .int .i64 (max x1.r.x.a x2.r.x.a)),(64, .bool false)] hS13 ⟨fun _ hSw=>Zc hSw (Xw.drop 2 (Xw.drop 1 (hc3.mono (hle4.trans hle5)))) [.int .i64 x1.r.x.a, .int .i64 x1.r.x.b] Zu rfl rfl rfl rfl rfl <| nu rfl rfl,fun _ hSw=>ZU hSw 0 _ _ _ 0 _ rfl rfl Zp rfl rfl rfl <| nu rfl rfl,fun _ hSw=>Z4 hSw Zaw rfl rfl rfl (Zaz hSw.imm x1.r.x (max x1.r.x.a x2.r.x.a) _ (Zs x1.r.x hb6 hb7)) (congrArg Value.bool h3.symm),fun _ hSw=>Zc hSw (Xw.drop 2 (Xw.drop 1 hc5)) [.int .i64 x2.r.x.a, .int .i64 x2.r.x.b] Zu rfl rfl rfl rfl rfl <| nu rfl rfl,fun _ hSw=>ZU hSw 0 _ _ _ 0 _ rfl rfl Zp rfl rfl rfl <| nu rfl rfl,fun _ hSw=>Z4 hSw Zaw rfl rfl rfl (Zaz hSw.imm x2.r.x (max x1.r.x.a x2.r.x.a) _ (Zs x2.r.x hb10 YD)) (congrArg Value.bool h4.symm),trivial⟩ (fun w31 hS47=>?_)
    refine TGI.toTG (I:=fun w9=>GH.In G5 w9) _ _ _ _ ?_
    refine TGI.fork 3 [36,42,43,44] [36,42] rfl rfl (by decide) (by decide) (TAI.cons rfl ?_ (TAI.cons rfl ?_ TAI.nil))
    ·refine WL.no rfl rfl ?_
     refine ⟨fun _=>hS47.down hS47.le (G5.le_refl),hS47.imm,?_⟩
     refine TGI.fork 2 [42,43,44] [42] rfl rfl (by decide) (by decide) (TAI.cons rfl ?_ TAI.nil)
     refine WL.no rfl rfl ?_
     refine ⟨fun _=>hS47.down hS47.le (G5.le_refl),hS47.imm,?_⟩
     refine TGI.fork 1 [43,44] [43] rfl rfl (by decide) (by decide) (TAI.cons rfl ?_ TAI.nil)
     refine WL.no rfl rfl ?_
     refine ⟨fun h=>absurd h (by decide),hS47.imm,?_⟩
     refine TGI.quiet 0 [44] 44 rfl rfl rfl rfl rfl (by decide) hS47.imm (fun w9 _ K9 k9=>QJ rfl rfl k9) ?_
     refine TGI.fin rfl ?_
     refine Zl k2 (by have hreach : reach = 140737488355328:=rfl; omega) rfl rfl rfl ?_
     have hS48:=hS47.tail
     exact BK.mk' _ ⟨k2 + 1,v7,o2,G5,rfl,(hle4.trans hle5),hS48,(Ye.cast (hr3.mono hle5) (by ((rw [QN ‹_› (by first | exact .inl ‹_› | exact .inr (.inl ‹_›) | exact .inr (.inr (.inl ‹_›)) | exact .inr (.inr (.inr (.inl ‹_›))) | exact .inr (.inr (.inr (.inr ‹_›))))])))),⟨rfl,rfl,rfl,rfl,rfl,rfl,rfl,rfl,rfl,rfl,trivial⟩,(by omega)⟩ (show (t.rows.take k1).length - (k2 + 1) < (t.rows.take k1).length - k2 by omega)
    refine WL.no rfl rfl ?_
    refine ⟨fun _=>hS47.down hS47.le (G5.le_refl),hS47.imm,?_⟩
    refine TGI.fork 2 [36,43,44] [36] rfl rfl (by decide) (by decide) (TAI.cons rfl ?_ TAI.nil)
    refine WL.no rfl rfl ?_
    refine ⟨fun _=>hS47.down hS47.le (G5.le_refl),hS47.imm,?_⟩
    refine TGI.fork 1 [43,44] [43] rfl rfl (by decide) (by decide) (TAI.cons rfl ?_ TAI.nil)
    refine WL.no rfl rfl ?_
    refine ⟨fun h=>absurd h (by decide),hS47.imm,?_⟩
    refine TGI.quiet 0 [44] 44 rfl rfl rfl rfl rfl (by decide) hS47.imm (fun w9 _ K9 k9=>QJ rfl rfl k9) ?_
    refine TGI.fin rfl ?_
    refine Zl k2 (by have hreach : reach = 140737488355328:=rfl; omega) rfl rfl rfl ?_
    have hS49:=hS47.tail
    exact BK.mk' _ ⟨k2 + 1,v7,o2,G5,rfl,(hle4.trans hle5),hS49,(Ye.cast (hr3.mono hle5) (by ((rw [QN ‹_› (by first | exact .inl ‹_› | exact .inr (.inl ‹_›) | exact .inr (.inr (.inl ‹_›)) | exact .inr (.inr (.inr (.inl ‹_›))) | exact .inr (.inr (.inr (.inr ‹_›))))])))),⟨rfl,rfl,rfl,rfl,rfl,rfl,rfl,rfl,rfl,rfl,trivial⟩,(by omega)⟩ (show (t.rows.take k1).length - (k2 + 1) < (t.rows.take k1).length - k2 by omega)
   refine drT [36,42,43,44] [(54, .agg #[.int .i64 x1.r.x.a, .int .i64 x1.r.x.b]),(56, .int .i64 (max x1.r.x.a x2.r.x.a)),(57, .bool false)] hS13 ⟨fun _ hSw=>Zc hSw (Xw.drop 2 (Xw.drop 1 (hc3.mono (hle4.trans hle5)))) [.int .i64 x1.r.x.a, .int .i64 x1.r.x.b] Zu rfl rfl rfl rfl rfl <| nu rfl rfl,fun _ hSw=>ZU hSw 0 _ _ _ 0 _ rfl rfl Zp rfl rfl rfl <| nu rfl rfl,fun _ hSw=>Z4 hSw Zaw rfl rfl rfl (Zaz hSw.imm x1.r.x (max x1.r.x.a x2.r.x.a) _ (Zs x1.r.x hb6 hb7)) (congrArg Value.bool h3.symm),trivial⟩ (fun w32 hS50=>?_)
   refine TGI.toTG (I:=fun w9=>GH.In G5 w9) _ _ _ _ ?_
   refine TGI.fork 3 [36,42,43,44] [36,42] rfl rfl (by decide) (by decide) (TAI.cons rfl ?_ (TAI.cons rfl ?_ TAI.nil))
   ·refine WL.no rfl rfl ?_
    refine ⟨fun _=>hS50.down hS50.le (G5.le_refl),hS50.imm,?_⟩
    refine TGI.fork 2 [42,43,44] [42] rfl rfl (by decide) (by decide) (TAI.cons rfl ?_ TAI.nil)
    refine WL.no rfl rfl ?_
    refine ⟨fun _=>hS50.down hS50.le (G5.le_refl),hS50.imm,?_⟩
    refine TGI.fork 1 [43,44] [43] rfl rfl (by decide) (by decide) (TAI.cons rfl ?_ TAI.nil)
    refine WL.no rfl rfl ?_
    refine ⟨fun h=>absurd h (by decide),hS50.imm,?_⟩
    refine TGI.quiet 0 [44] 44 rfl rfl rfl rfl rfl (by decide) hS50.imm (fun w9 _ K9 k9=>QJ rfl rfl k9) ?_
    refine TGI.fin rfl ?_
    refine Zl k2 (by have hreach : reach = 140737488355328:=rfl; omega) rfl rfl rfl ?_
    have hS51:=hS50.tail
    exact BK.mk' _ ⟨k2 + 1,v7,o2,G5,rfl,(hle4.trans hle5),hS51,(Ye.cast (hr3.mono hle5) (by ((rw [QN ‹_› (by first | exact .inl ‹_› | exact .inr (.inl ‹_›) | exact .inr (.inr (.inl ‹_›)) | exact .inr (.inr (.inr (.inl ‹_›))) | exact .inr (.inr (.inr (.inr ‹_›))))])))),⟨rfl,rfl,rfl,rfl,rfl,rfl,rfl,rfl,rfl,rfl,trivial⟩,(by omega)⟩ (show (t.rows.take k1).length - (k2 + 1) < (t.rows.take k1).length - k2 by omega)
   refine WL.no rfl rfl ?_
   refine ⟨fun _=>hS50.down hS50.le (G5.le_refl),hS50.imm,?_⟩
   refine TGI.fork 2 [36,43,44] [36] rfl rfl (by decide) (by decide) (TAI.cons rfl ?_ TAI.nil)
   refine WL.no rfl rfl ?_
   refine ⟨fun _=>hS50.down hS50.le (G5.le_refl),hS50.imm,?_⟩
   refine TGI.fork 1 [43,44] [43] rfl rfl (by decide) (by decide) (TAI.cons rfl ?_ TAI.nil)
   refine WL.no rfl rfl ?_
   refine ⟨fun h=>absurd h (by decide),hS50.imm,?_⟩
   refine TGI.quiet 0 [44] 44 rfl rfl rfl rfl rfl (by decide) hS50.imm (fun w9 _ K9 k9=>QJ rfl rfl k9) ?_
   refine TGI.fin rfl ?_
   refine Zl k2 (by have hreach : reach = 140737488355328:=rfl; omega) rfl rfl rfl ?_
   have hS52:=hS50.tail
   exact BK.mk' _ ⟨k2 + 1,v7,o2,G5,rfl,(hle4.trans hle5),hS52,(Ye.cast (hr3.mono hle5) (by ((rw [QN ‹_› (by first | exact .inl ‹_› | exact .inr (.inl ‹_›) | exact .inr (.inr (.inl ‹_›)) | exact .inr (.inr (.inr (.inl ‹_›))) | exact .inr (.inr (.inr (.inr ‹_›))))])))),⟨rfl,rfl,rfl,rfl,rfl,rfl,rfl,rfl,rfl,rfl,trivial⟩,(by omega)⟩ (show (t.rows.take k1).length - (k2 + 1) < (t.rows.take k1).length - k2 by omega)
  refine Zl k1 (by have hreach : reach = 140737488355328:=rfl; omega) rfl rfl rfl ?_
  exact BK.mk' _ ⟨k1 + 1,v7,o2,G4,rfl,(hle2.trans (hle3.trans hle4)),hS8,(Ye.cast hr3 (by (rw [ZnI ‹_›,List.take_of_length_le (i:=k2) (by omega)]))),⟨rfl,rfl,rfl,rfl,rfl,rfl,trivial⟩,(by omega)⟩ (show t.rows.length - (k1 + 1) < t.rows.length - k1 by omega)
 have bd3:=hr1.bound
 refine Za3 hr1 ZmV rfl rfl ?_
 refine ZC (((ZaS t.s.key.toNat t.rows k1).length : Nat) : Int) 0 rfl rfl rfl (fun h11=>?_) (fun h11=>?_)
 ·refine WL.build _ [] [.int .i64 0, .int .i64 0, .slice none 0 0] Xr rfl ZrU rfl rfl rfl rfl ?_
  refine WL.store hS3 1 _ _ _ 0 _ [.int .i64 0, .int .i64 0, .slice none 0 0] [.int .i64 0, .int .i64 0, .slice none 0 0] _ rfl rfl Xr rfl (Nat.le_of_ble_eq_true rfl) rfl rfl rfl rfl rfl rfl (fun w33 hS53=>?_)
  exact Xe [.agg #[.int .i64 0, .int .i64 0, .slice none 0 0], .bool false] hS53 ⟨_,_,_,rfl,rfl,hS53.loadA 1 _ _ _ 0 [.int .i64 0, .int .i64 0, .slice none 0 0] rfl rfl rfl Xr rfl,⟨_,rfl,rfl⟩⟩ ⟨_,_,rfl,(Is.cast ⟨_,rfl,(Zbk (Pt.mk 0 0 []) ZM ZM (Sl.nil ValE 32 G2))⟩ (by exact (Zps (by omega) (by omega)).1)),(congrArg Value.bool (by exact (Zps (by omega) (by omega)).2))⟩
 refine Qf Zv8 rfl rfl rfl (Zt4 hS3.imm (ZaS t.s.key.toNat t.rows k1) _ _ hr1 (hS3.lentAt 0 rfl) (by rw [ZfG (by omega)]; exact ZhR hg9)) (fun w34 G11 r1 hres1 hpost1=>?_)
 have hle11:=hres1.le
 obtain ⟨rfl,l1,o7,hr9,hf1,hq1⟩:=hpost1
 have hS55:=hS3.callRow 0 rfl hres1 hr1 hr9 hf1
 refine QB hr9 0 (by (have h9:=hq1.1.length_eq; omega)) ZmV Xr rfl rfl rfl rfl (fun p4 x3 ec1 hx3 hr10 ra1=>?_)
 obtain ⟨v18,rfl,YW,Xj,hs11⟩:=Zcf hr10
 refine Zfi ra1 hS55 0 rfl Xr rfl rfl rfl rfl ?_
 refine WL.alloc hS55 Xr rfl rfl (fun b9 w35 hn9 hS56=>?_)
 refine WL.store hS56 0 _ _ _ 0 _ [.int .i64 x3.tx, .int .i64 x3.vd,v18] [.int .i64 x3.tx, .int .i64 x3.vd,v18] _ rfl rfl Xr rfl (Nat.le_of_ble_eq_true rfl) (by simp only [List.all_cons,List.all_nil,hs11.oneC,Bool.true_and] <;> rfl) rfl rfl rfl rfl rfl (fun w36 hS57=>?_)
 have hp9 : _root_.List.Perm l1 (Xs t.s.key.toNat t.rows):=by have h9:=hq1.1; rwa [ZfG (by omega)] at h9
 have hvd:=Zpr hv hp9 hq1.2 hx3
 refine Zc hS57 (hc1.mono (hle2.trans hle11)) [Zb t.s.name,v1, .int .i64 t.s.key,v2,v3, .int .i64 t.last] Zm rfl rfl rfl rfl rfl <| ZU hS57 0 _ _ _ 1 _ rfl rfl Zp rfl rfl rfl <| ZU hS57 0 _ _ _ 0 _ rfl rfl Zp rfl rfl rfl ?_
 refine Z6 hS57 Zdd rfl rfl rfl (ZnK hS57.imm t x3.vd x3.tx _ (Zi t hb1 (hs1.mono ((hle1.trans hle2).trans hle11)) hb2 (hs2.mono ((hle1.trans hle2).trans hle11)) (hs3.mono ((hle1.trans hle2).trans hle11)) hb3)) (fun w37 G12 r2 hpost2 hS58 hle12=>?_)
 have bd4:=hpost2.bound
 refine Zj hpost2 Qh rfl rfl ?_
 refine LP.go ft [] (fun m ρ1 w1=>∃ (k3 : Nat),∃ (G13 : GH),m = (YF t x3.vd x3.tx).length - k3 ∧ G12.le G13 ∧ St w [] G G13 [some (b9,105,[.int .i64 x3.tx, .int .i64 x3.vd,v18]),o7,some (b1,105,[.int .i64 0, .int .i64 0, .slice none 0 0])] w1 ∧ FR ρ1 [(1, .pointer (some p1)),(2, .pointer (some ⟨b1,0,none⟩)),(10, .pointer (some ⟨b9,0,none⟩)),(11,r2),(130,r2),(131, .int .i64 (((YF t x3.vd x3.tx).length : Nat) : Int)),(132, .int .i64 (k3 : Int))] ∧ k3 ≤ (YF t x3.vd x3.tx).length ∧ ∀ j,j < k3 → ∀ x,(YF t x3.vd x3.tx)[j]? = some x → (((YF t x3.vd x3.tx)).drop (j + 1)).any (fun y=>decide (x.take t.s.key.toNat = y.take t.s.key.toNat)) = false) _ ⟨0,G12,rfl,(G12.le_refl),hS58,⟨rfl,rfl,rfl,rfl,rfl,rfl,rfl,trivial⟩,(by omega),(by intro j hj; omega)⟩ ?_
 rintro m ρ1 w38 ⟨k3,G13,rfl,hle13,hS59,hF9,f3,f4⟩
 refine hF9.set ?_
 clear hF9
 refine Zq (k3 : Int) (((YF t x3.vd x3.tx).length : Nat) : Int) rfl rfl rfl (fun h12=>?_) (fun h12=>?_)
 ·refine WL.indexAddr (hpost2.mono hle13) k3 (by omega) Qh ZH rfl rfl rfl rfl (fun p5 x4 hx4 he3=>?_)
  obtain ⟨cs3,hc6,hr11⟩:=he3
  obtain ⟨v19,rfl,hs12⟩:=hr11
  refine Za hS59 hc6 ZH rfl rfl rfl ?_
  refine Zl k3 (by have hreach : reach = 140737488355328:=rfl; omega) rfl rfl rfl ?_
  refine Qo (hpost2.mono hle13) (k3 + 1) (by omega) Qh ZH rfl rfl rfl rfl (fun v20 hs13=>?_)
  have bd5:=hs13.bound
  refine Zj hs13 Qh rfl rfl ?_
  refine LP.go ft [] (fun m ρ1 w1=>∃ (k4 : Nat),∃ (G14 : GH),m = ((YF t x3.vd x3.tx).drop (k3 + 1)).length - k4 ∧ G13.le G14 ∧ St w [] G G14 [some (b9,105,[.int .i64 x3.tx, .int .i64 x3.vd,v18]),o7,some (b1,105,[.int .i64 0, .int .i64 0, .slice none 0 0])] w1 ∧ FR ρ1 [(1, .pointer (some p1)),(2, .pointer (some ⟨b1,0,none⟩)),(10, .pointer (some ⟨b9,0,none⟩)),(11,r2),(13,v19),(130,r2),(131, .int .i64 (((YF t x3.vd x3.tx).length : Nat) : Int)),(132, .int .i64 (k3 : Int)),(140,v20),(141, .int .i64 ((((YF t x3.vd x3.tx).drop (k3 + 1)).length : Nat) : Int)),(142, .int .i64 (k4 : Int))] ∧ k4 ≤ ((YF t x3.vd x3.tx).drop (k3 + 1)).length ∧ ∀ j,j < k4 → ∀ y,(((YF t x3.vd x3.tx)).drop (k3 + 1))[j]? = some y → decide (x4.take t.s.key.toNat = y.take t.s.key.toNat) = false) _ ⟨0,G13,rfl,(G13.le_refl),hS59,⟨rfl,rfl,rfl,rfl,rfl,rfl,rfl,rfl,rfl,rfl,rfl,trivial⟩,(by omega),(by intro j hj; omega)⟩ ?_
  rintro m ρ1 w39 ⟨k4,G14,rfl,hle14,hS60,hF9,f5,f6⟩
  refine hF9.set ?_
  clear hF9
  refine Zq (k4 : Int) ((((YF t x3.vd x3.tx).drop (k3 + 1)).length : Nat) : Int) rfl rfl rfl (fun h13=>?_) (fun h13=>?_)
  ·refine WL.indexAddr (hs13.mono hle14) k4 (by omega) Qh ZH rfl rfl rfl rfl (fun p6 x5 hx5 he4=>?_)
   obtain ⟨cs4,hc7,hr12⟩:=he4
   obtain ⟨v21,rfl,hs14⟩:=hr12
   refine Za hS60 hc7 ZH rfl rfl rfl ?_
   have hsnk:=Zrz hv hvd.1 hvd.2.1
   have hsa:=hsnk x4 (List.mem_of_getElem? hx4)
   have hsb:=hsnk x5 (List.mem_of_mem_drop (List.mem_of_getElem? hx5))
   refine drT [4,9,10] [(149, .int .i64 t.s.key),(154, .int .i64 t.s.key)] hS60 ⟨fun _ hSw=>Za hSw (Xw.drop 2 (Xw.drop 0 (hc1.mono ((((hle2.trans hle11).trans hle12).trans hle13).trans hle14)))) Zp rfl rfl rfl <| nu rfl rfl,fun _ hSw=>Za hSw (Xw.drop 2 (Xw.drop 0 (hc1.mono ((((hle2.trans hle11).trans hle12).trans hle13).trans hle14)))) Zp rfl rfl rfl <| nu rfl rfl,trivial⟩ (fun w40 hS61=>?_)
   refine TGI.toTG (I:=fun w9=>GH.In G14 w9) _ _ _ _ ?_
   refine TGI.fork 2 [4,9,10] [4,9] rfl rfl (by decide) (by decide) (TAI.cons rfl ?_ (TAI.cons rfl ?_ TAI.nil))
   ·refine Yr (hs12.mono hle14) ((t.s.key).toNat) (by omega) Yd Z3 rfl rfl rfl (congrArg (Value.int .i64) (Int.toNat_of_nonneg (by omega)).symm) (fun v22 hs15=>?_)
    refine ⟨fun _=>hS61.down hS61.le (G14.le_refl),hS61.imm,?_⟩
    refine TGI.fork 1 [9,10] [9] rfl rfl (by decide) (by decide) (TAI.cons rfl ?_ TAI.nil)
    refine Yr hs14 ((t.s.key).toNat) (by omega) Yd Z3 rfl rfl rfl (congrArg (Value.int .i64) (Int.toNat_of_nonneg (by omega)).symm) (fun v23 hs16=>?_)
    refine ⟨fun _=>hS61.down hS61.le (G14.le_refl),hS61.imm,?_⟩
    refine TGI.fork 0 [10] [10] rfl rfl (by decide) (by decide) (TAI.cons rfl ?_ TAI.nil)
    refine Zn hS61 Zbs rfl rfl rfl (ZbY hS61.imm (x4.take ((t.s.key).toNat)) (x5.take ((t.s.key).toNat)) _ hs15 _ hs16) (fun w41 G15 hS62 hle15=>?_)
    refine WL.split (fun (h14 : (decide ((x4.take ((t.s.key).toNat)) = (x5.take ((t.s.key).toNat)))) = true)=>?_) (fun (h14 : (decide ((x4.take ((t.s.key).toNat)) = (x5.take ((t.s.key).toNat)))) = false)=>?_)
    ·refine ⟨fun h=>absurd h (by decide),(hS62.imm.down hle15),?_⟩
     refine TGI.fin rfl ?_
     refine WL.store hS62 0 _ _ _ 2 _ [v19] [.int .i64 x3.tx, .int .i64 x3.vd,v19] _ rfl (hs12.mono (hle14.trans hle15)).cells1 ZH rfl (Nat.le_of_ble_eq_true rfl) (by simp only [List.all_cons,List.all_nil,(hs12.mono (hle14.trans hle15)).oneC,Bool.true_and] <;> rfl) rfl rfl rfl rfl rfl (fun w42 hS63=>?_)
     refine ZD hS63 0 _ _ _ 0 [.int .i64 x3.tx, .int .i64 x3.vd,v19] rfl rfl rfl Xr rfl rfl rfl ?_
     refine WL.store hS63 2 _ _ _ 0 _ [.int .i64 x3.tx, .int .i64 x3.vd,v19] [.int .i64 x3.tx, .int .i64 x3.vd,v19] _ rfl rfl Xr rfl (Nat.le_of_ble_eq_true rfl) (by simp only [List.all_cons,List.all_nil,(hs12.mono (hle14.trans hle15)).oneC,Bool.true_and] <;> rfl) rfl rfl rfl rfl rfl (fun w43 hS64=>?_)
     exact Xe [.agg #[.int .i64 x3.tx, .int .i64 x3.vd,v19], .bool true] hS64 ⟨_,_,_,rfl,rfl,hS64.loadA 2 _ _ _ 0 [.int .i64 x3.tx, .int .i64 x3.vd,v19] rfl rfl rfl Xr rfl,⟨_,rfl,rfl⟩⟩ ⟨_,_,rfl,(Is.cast ⟨_,rfl,(Zbk (Pt.mk x3.tx x3.vd x4) YW Xj (hs12.mono (hle14.trans hle15)))⟩ (by exact (ZhS hvd (ZfI ‹_› ‹_› ⟨_,List.mem_of_getElem? ‹_›,of_decide_eq_true ‹_›⟩)).1)),(congrArg Value.bool (by exact (ZhS hvd (ZfI ‹_› ‹_› ⟨_,List.mem_of_getElem? ‹_›,of_decide_eq_true ‹_›⟩)).2))⟩
    refine ⟨fun h=>absurd h (by decide),(hS62.imm.down hle15),?_⟩
    refine TGI.fin rfl ?_
    refine Zl k4 (by have hreach : reach = 140737488355328:=rfl; omega) rfl rfl rfl ?_
    exact BK.mk' _ ⟨k4 + 1,G15,rfl,(hle14.trans hle15),hS62,⟨rfl,rfl,rfl,rfl,rfl,rfl,rfl,rfl,rfl,rfl,rfl,trivial⟩,(by omega),(by exact Xy ‹_› ‹_› ‹_›)⟩ (show ((YF t x3.vd x3.tx).drop (k3 + 1)).length - (k4 + 1) < ((YF t x3.vd x3.tx).drop (k3 + 1)).length - k4 by omega)
   refine Yr hs14 ((t.s.key).toNat) (by omega) Yd Z3 rfl rfl rfl (congrArg (Value.int .i64) (Int.toNat_of_nonneg (by omega)).symm) (fun v24 hs17=>?_)
   refine ⟨fun _=>hS61.down hS61.le (G14.le_refl),hS61.imm,?_⟩
   refine TGI.fork 1 [4,10] [4] rfl rfl (by decide) (by decide) (TAI.cons rfl ?_ TAI.nil)
   refine Yr (hs12.mono hle14) ((t.s.key).toNat) (by omega) Yd Z3 rfl rfl rfl (congrArg (Value.int .i64) (Int.toNat_of_nonneg (by omega)).symm) (fun v25 hs18=>?_)
   refine ⟨fun _=>hS61.down hS61.le (G14.le_refl),hS61.imm,?_⟩
   refine TGI.fork 0 [10] [10] rfl rfl (by decide) (by decide) (TAI.cons rfl ?_ TAI.nil)
   refine Zn hS61 Zbs rfl rfl rfl (ZbY hS61.imm (x4.take ((t.s.key).toNat)) (x5.take ((t.s.key).toNat)) _ hs18 _ hs17) (fun w44 G16 hS65 hle16=>?_)
   refine WL.split (fun (h15 : (decide ((x4.take ((t.s.key).toNat)) = (x5.take ((t.s.key).toNat)))) = true)=>?_) (fun (h15 : (decide ((x4.take ((t.s.key).toNat)) = (x5.take ((t.s.key).toNat)))) = false)=>?_)
   ·refine ⟨fun h=>absurd h (by decide),(hS65.imm.down hle16),?_⟩
    refine TGI.fin rfl ?_
    refine WL.store hS65 0 _ _ _ 2 _ [v19] [.int .i64 x3.tx, .int .i64 x3.vd,v19] _ rfl (hs12.mono (hle14.trans hle16)).cells1 ZH rfl (Nat.le_of_ble_eq_true rfl) (by simp only [List.all_cons,List.all_nil,(hs12.mono (hle14.trans hle16)).oneC,Bool.true_and] <;> rfl) rfl rfl rfl rfl rfl (fun w45 hS66=>?_)
    refine ZD hS66 0 _ _ _ 0 [.int .i64 x3.tx, .int .i64 x3.vd,v19] rfl rfl rfl Xr rfl rfl rfl ?_
    refine WL.store hS66 2 _ _ _ 0 _ [.int .i64 x3.tx, .int .i64 x3.vd,v19] [.int .i64 x3.tx, .int .i64 x3.vd,v19] _ rfl rfl Xr rfl (Nat.le_of_ble_eq_true rfl) (by simp only [List.all_cons,List.all_nil,(hs12.mono (hle14.trans hle16)).oneC,Bool.true_and] <;> rfl) rfl rfl rfl rfl rfl (fun w46 hS67=>?_)
    exact Xe [.agg #[.int .i64 x3.tx, .int .i64 x3.vd,v19], .bool true] hS67 ⟨_,_,_,rfl,rfl,hS67.loadA 2 _ _ _ 0 [.int .i64 x3.tx, .int .i64 x3.vd,v19] rfl rfl rfl Xr rfl,⟨_,rfl,rfl⟩⟩ ⟨_,_,rfl,(Is.cast ⟨_,rfl,(Zbk (Pt.mk x3.tx x3.vd x4) YW Xj (hs12.mono (hle14.trans hle16)))⟩ (by exact (ZhS hvd (ZfI ‹_› ‹_› ⟨_,List.mem_of_getElem? ‹_›,of_decide_eq_true ‹_›⟩)).1)),(congrArg Value.bool (by exact (ZhS hvd (ZfI ‹_› ‹_› ⟨_,List.mem_of_getElem? ‹_›,of_decide_eq_true ‹_›⟩)).2))⟩
   refine ⟨fun h=>absurd h (by decide),(hS65.imm.down hle16),?_⟩
   refine TGI.fin rfl ?_
   refine Zl k4 (by have hreach : reach = 140737488355328:=rfl; omega) rfl rfl rfl ?_
   exact BK.mk' _ ⟨k4 + 1,G16,rfl,(hle14.trans hle16),hS65,⟨rfl,rfl,rfl,rfl,rfl,rfl,rfl,rfl,rfl,rfl,rfl,trivial⟩,(by omega),(by exact Xy ‹_› ‹_› ‹_›)⟩ (show ((YF t x3.vd x3.tx).drop (k3 + 1)).length - (k4 + 1) < ((YF t x3.vd x3.tx).drop (k3 + 1)).length - k4 by omega)
  refine Zl k3 (by have hreach : reach = 140737488355328:=rfl; omega) rfl rfl rfl ?_
  exact BK.mk' _ ⟨k3 + 1,G14,rfl,(hle13.trans hle14),hS60,⟨rfl,rfl,rfl,rfl,rfl,rfl,rfl,trivial⟩,(by omega),(by exact ZkM (P:=fun j (x : List Val)=>(((YF t x3.vd x3.tx)).drop (j + 1)).any (fun y=>decide (x.take t.s.key.toNat = y.take t.s.key.toNat)) = false) ‹_› ‹_› (Zt2 ‹_› (by omega)))⟩ (show (YF t x3.vd x3.tx).length - (k3 + 1) < (YF t x3.vd x3.tx).length - k3 by omega)
 refine ZD hS59 0 _ _ _ 0 [.int .i64 x3.tx, .int .i64 x3.vd,v18] rfl rfl rfl Xr rfl rfl rfl ?_
 refine WL.store hS59 2 _ _ _ 0 _ [.int .i64 x3.tx, .int .i64 x3.vd,v18] [.int .i64 x3.tx, .int .i64 x3.vd,v18] _ rfl rfl Xr rfl (Nat.le_of_ble_eq_true rfl) (by simp only [List.all_cons,List.all_nil,(hs11.mono (hle12.trans hle13)).oneC,Bool.true_and] <;> rfl) rfl rfl rfl rfl rfl (fun w47 hS68=>?_)
 exact Xe [.agg #[.int .i64 x3.tx, .int .i64 x3.vd,v18], .bool true] hS68 ⟨_,_,_,rfl,rfl,hS68.loadA 2 _ _ _ 0 [.int .i64 x3.tx, .int .i64 x3.vd,v18] rfl rfl rfl Xr rfl,⟨_,rfl,rfl⟩⟩ ⟨_,_,rfl,(Is.cast ⟨_,rfl,(Zbk x3 YW Xj (hs11.mono (hle12.trans hle13)))⟩ (by exact absurd (Zmm ‹_› (by omega)) hvd.2.2.2)),(congrArg Value.bool (by exact absurd (Zmm ‹_› (by omega)) hvd.2.2.2))⟩
end Go.Civ
