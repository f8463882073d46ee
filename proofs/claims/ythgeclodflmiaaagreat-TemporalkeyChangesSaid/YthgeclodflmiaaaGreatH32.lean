/- Lemmas. -/
import Derived.Test.YthgeclodflmiaaaGreatH14
import Derived.Test.YthgeclodflmiaaaGreatH21
import Derived.Test.YthgeclodflmiaaaGreatH24
import Derived.Test.YthgeclodflmiaaaGreatH28
import Derived.Test.YthgeclodflmiaaaGreatH30
import Derived.Test.YthgeclodflmiaaaGreatH31
import Derived.Test.YthgeclodflmiaaaGreatProg
import Derived.KernelRfl
import Derived.WalkKit
set_option linter.unusedVariables false
set_option linter.unusedSimpArgs false
set_option maxRecDepth 100000
set_option maxHeartbeats 4000000
namespace Go.Civ
open Go.Proofs
theorem ZnK {G : GH} {w : World} (hG : G.In w) (t : Table) (at_ tx : Int) (ct : List Value) (hct : TableE.rep G t ct) : CL Tryz.prog (nat_lit 23) #[.agg ct.toArray, .int .i64 at_, .int .i64 tx] [] w G fun G' _ r=>Sl (ValE.slice 32) 24 G' r (YF t at_ tx):=by
 refine Zg ft [] Tryz.func23 rfl rfl ?_
 have hS:=St.start (X:=[]) hG
 obtain ⟨v1,v2,v3,rfl,hb1,hs1,hb2,hs2,hs3,hb3⟩:=Zy hct
 refine Zv [Zb t.s.name,v1, .int .i64 t.s.key,v2,v3, .int .i64 t.last] _ hS rfl rfl rfl (fun p1 w1 G1 hle1 hsp1 hc1 hS1=>?_)
 refine Zc hS1 hc1 [Zb t.s.name,v1, .int .i64 t.s.key,v2,v3, .int .i64 t.last] Zm rfl rfl rfl rfl rfl ?_
 refine Zn hS1 XD rfl rfl rfl (ZaH hS1.imm t _ (Zi t hb1 (hs1.mono hle1) hb2 (hs2.mono hle1) (hs3.mono hle1) hb3)) (fun w2 G2 hS2 hle2=>?_)
 refine WL.split (fun (h1 : (Z2 t) = true)=>?_) (fun (h1 : (Z2 t) = false)=>?_)
 ·refine Zn hS2 Znd rfl rfl rfl (ZdJ hS2.imm at_) (fun w3 G3 hS3 hle3=>?_)
  refine WL.split (fun (h2 : (Yp at_) = true)=>?_) (fun (h2 : (Yp at_) = false)=>?_)
  ·refine Zn hS3 Znd rfl rfl rfl (ZdJ hS3.imm tx) (fun w4 G4 hS4 hle4=>?_)
   refine WL.split (fun (h3 : (Yp tx) = true)=>?_) (fun (h3 : (Yp tx) = false)=>?_)
   ·obtain ⟨hg9,hn9,h89,_⟩:=Y5 (by assumption : Z2 t = true)
    have hgl:=@Zdo t.rows
    refine Za hS4 (Xw.drop 4 (hc1.mono ((hle2.trans hle3).trans hle4))) Xg rfl rfl rfl ?_
    refine Z6 hS4 Zne rfl rfl rfl (ZeV hS4.imm t.rows _ (hs3.mono (((hle1.trans hle2).trans hle3).trans hle4)) hg9 (ZkY h89) (Nat.le_trans hn9 (by decide))) (fun w5 G5 r1 hpost1 hS5 hle5=>?_)
    have bd1:=hpost1.bound
    refine Zj hpost1 Zav rfl rfl ?_
    have hS7:=hS5.pad
    refine LP.go ft [] (fun m ρ1 w1=>∃ (k1 : Nat),∃ (v4 : Value) (o1 : OB),∃ (G6 : GH),m = (Yl t.rows).length - k1 ∧ G5.le G6 ∧ St w [] G G6 [o1] w1 ∧ Ye (ValE.slice 32) 24 31 G6 v4 (Zcn ((Yl t.rows).take k1) at_ tx) o1 ∧ FR ρ1 [(1, .int .i64 at_),(2, .int .i64 tx),(7,v4),(25,r1),(26, .int .i64 (((Yl t.rows).length : Nat) : Int)),(27, .int .i64 (k1 : Int))] ∧ k1 ≤ (Yl t.rows).length) _ ⟨0,(.slice none 0 0),none,G5,rfl,(G5.le_refl),hS7,(Ye.cast (Ye.nil (ValE.slice 32) 24 31 G5) (by rfl)),⟨rfl,rfl,rfl,rfl,rfl,rfl,trivial⟩,(by omega)⟩ ?_
    rintro m ρ1 w6 ⟨k1,v4,o1,G6,rfl,hle6,hS6,hr1,hF9,f1⟩
    refine hF9.set ?_
    clear hF9
    have hsl:=ZoZ (Yl t.rows) k1 at_ tx
    refine Zq (k1 : Int) (((Yl t.rows).length : Nat) : Int) rfl rfl rfl (fun h4=>?_) (fun h4=>?_)
    ·refine WL.indexAddr (hpost1.mono hle6) k1 (by omega) Zav XI rfl rfl rfl rfl (fun p2 x1 hx1 he1=>?_)
     obtain ⟨cs1,hc2,hr2⟩:=he1
     obtain ⟨v5,v6,rfl,hs4,hs5⟩:=Zai hr2
     refine Zc hS6 hc2 [v5,v6] XI rfl rfl rfl rfl rfl ?_
     refine WL.alloc hS6 XI rfl rfl (fun b1 w7 hn1 hS8=>?_)
     refine WL.store hS8 0 _ _ _ 0 _ [v5,v6] [v5,v6] _ rfl rfl XI rfl (Nat.le_of_ble_eq_true rfl) (by simp only [List.all_cons,List.all_nil,hs4.oneC,hs5.oneC,Bool.true_and] <;> rfl) rfl rfl rfl rfl rfl (fun w9 hS9=>?_)
     obtain ⟨G7,hle7,hc3,hS10⟩:=hS9.shutB hn1
     have hok9:=Zgf hg9 (Nat.le_trans hn9 (by decide)) (by assumption : (Yl t.rows)[k1]? = some _)
     refine Za hS10 (Xw.drop 1 hc3) Xg rfl rfl rfl ?_
     refine Z6 hS10 Zq3 rfl rfl rfl (ZgG hS10.imm x1.t tx _ (hs5.mono hle7) hok9.1 hok9.2) (fun w10 G9 r2 hpost2 hS11 hle9=>?_)
     refine Zn hS11 Zqu rfl rfl rfl (ZoR hS11.imm (ZB x1.t tx) at_ _ hpost2 (ZbG hok9.1 _) (ZqW hok9.1 _) (Nat.le_trans (ZcC _ _) hok9.2)) (fun w11 G10 hS12 hle10=>?_)
     refine WL.split (fun (h5 : (Xq (ZB x1.t tx) at_) = true)=>?_) (fun (h5 : (Xq (ZB x1.t tx) at_) = false)=>?_)
     ·refine Za hS12 (Xw.drop 0 (hc3.mono (hle9.trans hle10))) ZH rfl rfl rfl ?_
      refine Z6 hS12 Ze5 rfl rfl rfl (Zab hS12.imm x1.v _ (hs4.mono ((hle7.trans hle9).trans hle10))) (fun w12 G11 r3 hpost3 hS13 hle11=>?_)
      refine WL.buildSlice _ [(0,[r3])] [r3] hS13 Q5 rfl rfl rfl (by show [(0,(r3 : Value).cells.toList)] = _; simp only [hpost3.cells1] <;> rfl) (fun z hz=>by match z,hz with | [z0],_=>rfl) (fun b2 w13 hn2 hS14=>?_)
      refine WL.push (m:=([x1.v] : List (List Val))) Q5 rfl rfl rfl (hr1.mono (((hle7.trans hle9).trans hle10).trans hle11)) hS14 1 rfl 0 _ _ _ _ _ rfl ⟨[r3],_,rfl,⟨_,rfl,hpost3⟩,rfl⟩ rfl (by have hreach : reach = 140737488355328:=rfl; simp only [List.length_append,List.length_cons,List.length_nil]; omega) (by have hreach : reach = 140737488355328:=rfl; simp only [List.length_append,List.length_cons,List.length_nil]; omega) rfl rfl rfl (fun v7 o2 w14 hr3 hS15=>?_)
      have hS16:=hS15.tail
      refine Zl k1 (by have hreach : reach = 140737488355328:=rfl; omega) rfl rfl rfl ?_
      exact BK.mk' _ ⟨k1 + 1,v7,o2,G11,rfl,(hle6.trans (((hle7.trans hle9).trans hle10).trans hle11)),hS16,(Ye.cast hr3 (by (exact (ZoY ‹_› ‹_›).symm))),⟨rfl,rfl,rfl,rfl,rfl,rfl,trivial⟩,(by omega)⟩ (show (Yl t.rows).length - (k1 + 1) < (Yl t.rows).length - k1 by omega)
     refine Zl k1 (by have hreach : reach = 140737488355328:=rfl; omega) rfl rfl rfl ?_
     exact BK.mk' _ ⟨k1 + 1,v4,o1,G10,rfl,(hle6.trans ((hle7.trans hle9).trans hle10)),hS12,(Ye.cast (hr1.mono ((hle7.trans hle9).trans hle10)) (by (exact (Zrg ‹_› ‹_›).symm))),⟨rfl,rfl,rfl,rfl,rfl,rfl,trivial⟩,(by omega)⟩ (show (Yl t.rows).length - (k1 + 1) < (Yl t.rows).length - k1 by omega)
    obtain ⟨G12,hle12,hs6,hS17⟩:=Ye.freeze hr1 hS6 0 rfl
    exact RT hS17 rfl (Sl.cast hs6 (by exact Zva ‹_› ‹_› ‹_› (by omega)))
   exact RT hS4 rfl (Sl.cast (Sl.nil (ValE.slice 32) 24 G4) (by exact ZuZ ‹_›))
  exact RT hS3 rfl (Sl.cast (Sl.nil (ValE.slice 32) 24 G3) (by exact ZuY ‹_›))
 exact RT hS2 rfl (Sl.cast (Sl.nil (ValE.slice 32) 24 G2) (by exact ZuX ‹_›))
theorem Zws {G : GH} {w : World} (hG : G.In w) (t : Table) (tx : Int) (ct : List Value) (hct : TableE.rep G t ct) : CL Tryz.prog (nat_lit 57) #[.agg ct.toArray, .int .i64 tx] [] w G fun G' _ r=>Sl Zdx 40 G' r (atH t tx):=by
 refine Zg ft [] Tryz.func57 rfl rfl ?_
 have hS:=St.start (X:=[]) hG
 obtain ⟨v1,v2,v3,rfl,hb1,hs1,hb2,hs2,hs3,hb3⟩:=Zy hct
 refine Zv [Zb t.s.name,v1, .int .i64 t.s.key,v2,v3, .int .i64 t.last] _ hS rfl rfl rfl (fun p1 w1 G1 hle1 hsp1 hc1 hS1=>?_)
 refine Zc hS1 hc1 [Zb t.s.name,v1, .int .i64 t.s.key,v2,v3, .int .i64 t.last] Zm rfl rfl rfl rfl rfl ?_
 refine Zn hS1 XD rfl rfl rfl (ZaH hS1.imm t _ (Zi t hb1 (hs1.mono hle1) hb2 (hs2.mono hle1) (hs3.mono hle1) hb3)) (fun w2 G2 hS2 hle2=>?_)
 refine WL.split (fun (h1 : (Z2 t) = true)=>?_) (fun (h1 : (Z2 t) = false)=>?_)
 ·refine Zn hS2 Znd rfl rfl rfl (ZdJ hS2.imm tx) (fun w3 G3 hS3 hle3=>?_)
  refine WL.split (fun (h2 : (Yp tx) = true)=>?_) (fun (h2 : (Yp tx) = false)=>?_)
  ·obtain ⟨hg9,hn9,h89,_⟩:=Y5 (by assumption : Z2 t = true)
   have hgl:=@Zdo t.rows
   refine Za hS3 (Xw.drop 4 (hc1.mono (hle2.trans hle3))) Xg rfl rfl rfl ?_
   refine Z6 hS3 Zne rfl rfl rfl (ZeV hS3.imm t.rows _ (hs3.mono ((hle1.trans hle2).trans hle3)) hg9 (ZkY h89) (Nat.le_trans hn9 (by decide))) (fun w4 G4 r1 hpost1 hS4 hle4=>?_)
   have bd1:=hpost1.bound
   refine Zj hpost1 Zav rfl rfl ?_
   have hS6:=hS4.pad
   refine LP.go ft [] (fun m ρ1 w1=>∃ (k1 : Nat),∃ (v4 : Value) (o1 : OB),∃ (G5 : GH),m = (Yl t.rows).length - k1 ∧ G4.le G5 ∧ St w [] G G5 [o1] w1 ∧ Ye Zdx 40 73 G5 v4 (Zbj ((Yl t.rows).take k1) tx) o1 ∧ FR ρ1 [(1, .int .i64 tx),(5,v4),(20,r1),(21, .int .i64 (((Yl t.rows).length : Nat) : Int)),(22, .int .i64 (k1 : Int))] ∧ k1 ≤ (Yl t.rows).length) _ ⟨0,(.slice none 0 0),none,G4,rfl,(G4.le_refl),hS6,(Ye.cast (Ye.nil Zdx 40 73 G4) (by rfl)),⟨rfl,rfl,rfl,rfl,rfl,trivial⟩,(by omega)⟩ ?_
   rintro m ρ1 w5 ⟨k1,v4,o1,G5,rfl,hle5,hS5,hr1,hF9,f1⟩
   refine hF9.set ?_
   clear hF9
   have hfl:=Ziq (k:=k1) (tx:=tx) hn9
   refine Zq (k1 : Int) (((Yl t.rows).length : Nat) : Int) rfl rfl rfl (fun h3=>?_) (fun h3=>?_)
   ·refine WL.indexAddr (hpost1.mono hle5) k1 (by omega) Zav XI rfl rfl rfl rfl (fun p2 x1 hx1 he1=>?_)
    obtain ⟨cs1,hc2,hr2⟩:=he1
    obtain ⟨v5,v6,rfl,hs4,hs5⟩:=Zai hr2
    refine Zc hS5 hc2 [v5,v6] XI rfl rfl rfl rfl rfl ?_
    refine WL.alloc hS5 XI rfl rfl (fun b1 w6 hn1 hS7=>?_)
    refine WL.store hS7 0 _ _ _ 0 _ [v5,v6] [v5,v6] _ rfl rfl XI rfl (Nat.le_of_ble_eq_true rfl) (by simp only [List.all_cons,List.all_nil,hs4.oneC,hs5.oneC,Bool.true_and] <;> rfl) rfl rfl rfl rfl rfl (fun w7 hS8=>?_)
    obtain ⟨G6,hle6,hc3,hS9⟩:=hS8.shutB hn1
    have hok9:=Zgf hg9 (Nat.le_trans hn9 (by decide)) (by assumption : (Yl t.rows)[k1]? = some _)
    refine Za hS9 (Xw.drop 1 hc3) Xg rfl rfl rfl ?_
    refine Z6 hS9 Zq3 rfl rfl rfl (ZgG hS9.imm x1.t tx _ (hs5.mono hle6) hok9.1 hok9.2) (fun w9 G7 r2 hpost2 hS10 hle7=>?_)
    have bd2:=hpost2.bound
    refine Zj hpost2 YT rfl rfl ?_
    refine LP.go ft [] (fun m ρ1 w1=>∃ (k2 : Nat),∃ (v7 : Value) (o2 : OB),∃ (G9 : GH),m = (ZB x1.t tx).length - k2 ∧ G7.le G9 ∧ St w [] G G9 [o2] w1 ∧ Ye Zdx 40 73 G9 v7 (Zbj ((Yl t.rows).take k1) tx ++ ((ZB x1.t tx).take k2).map (Fact.mk x1.v)) o2 ∧ FR ρ1 [(1, .int .i64 tx),(5,v7),(7, .pointer (some (⟨b1,0,none⟩ : Addr))),(20,r1),(21, .int .i64 (((Yl t.rows).length : Nat) : Int)),(22, .int .i64 (k1 : Int)),(29,r2),(30, .int .i64 (((ZB x1.t tx).length : Nat) : Int)),(31, .int .i64 (k2 : Int))] ∧ k2 ≤ (ZB x1.t tx).length) _ ⟨0,v4,o1,G7,rfl,(G7.le_refl),hS10,(Ye.cast (hr1.mono (hle6.trans hle7)) (by simp)),⟨rfl,rfl,rfl,rfl,rfl,rfl,rfl,rfl,rfl,trivial⟩,(by omega)⟩ ?_
    rintro m ρ1 w10 ⟨k2,v7,o2,G9,rfl,hle9,hS11,hr3,hF9,f2⟩
    refine hF9.set ?_
    clear hF9
    have htl:=Nat.le_trans (ZcC x1.t tx) hok9.2
    refine Zq (k2 : Int) (((ZB x1.t tx).length : Nat) : Int) rfl rfl rfl (fun h4=>?_) (fun h4=>?_)
    ·refine WL.indexAddr (hpost2.mono hle9) k2 (by omega) YT Zu rfl rfl rfl rfl (fun p3 x2 hx2 he2=>?_)
     obtain ⟨cs2,hc4,hr4⟩:=he2
     obtain ⟨rfl,hb4,hb5⟩:=ZE hr4
     refine Zc hS11 hc4 [.int .i64 x2.a, .int .i64 x2.b] Zu rfl rfl rfl rfl rfl ?_
     refine WL.alloc hS11 Zu rfl rfl (fun b2 w11 hn2 hS12=>?_)
     refine WL.store hS12 0 _ _ _ 0 _ [.int .i64 x2.a, .int .i64 x2.b] [.int .i64 x2.a, .int .i64 x2.b] _ rfl rfl Zu rfl (Nat.le_of_ble_eq_true rfl) rfl rfl rfl rfl rfl rfl (fun w12 hS13=>?_)
     obtain ⟨G10,hle10,hc5,hS14⟩:=hS13.shutB hn2
     refine dr [(3,true),(5,false),(6,false),(7,false),(8,false)] [(37,v5),(39, .agg #[.int .i64 x2.a, .int .i64 x2.b])] hS14 ⟨fun _ hSw=>Za hSw (Xw.drop 0 (hc3.mono ((hle7.trans hle9).trans hle10))) ZH rfl rfl rfl <| nu rfl rfl,fun _ hSw=>Zc hSw hc5 [.int .i64 x2.a, .int .i64 x2.b] Zu rfl rfl rfl rfl rfl <| nu rfl rfl,trivial⟩ (fun w13 hS15=>?_)
     refine Z6 hS15 Ze5 rfl rfl rfl (Zab hS15.imm x1.v _ (hs4.mono (((hle6.trans hle7).trans hle9).trans hle10))) (fun w14 G11 r3 hpost3 hS16 hle11=>?_)
     refine ⟨hS16.down hS15.le hle11,?_⟩
     refine WL.build _ [(0,[r3]),(1,[.int .i64 x2.a, .int .i64 x2.b])] [r3, .int .i64 x2.a, .int .i64 x2.b] ZmQ rfl Zw8 rfl rfl (by show [(0,(r3 : Value).cells.toList),(1,(.agg #[.int .i64 x2.a, .int .i64 x2.b] : Value).cells.toList)] = _; simp only [hpost3.cells1] <;> rfl) rfl ?_
     refine WL.buildSlice _ [(0,[r3, .int .i64 x2.a, .int .i64 x2.b])] [r3, .int .i64 x2.a, .int .i64 x2.b] hS16 Zuh rfl rfl rfl rfl (fun z hz=>by match z,hz with | [z0,z1,z2],_=>rfl) (fun b3 w15 hn3 hS17=>?_)
     refine WL.push (m:=([(Fact.mk x1.v x2)] : List Fact)) Zuh rfl rfl rfl (hr3.mono (hle10.trans hle11)) hS17 1 rfl 0 _ _ _ _ _ rfl ⟨[r3, .int .i64 x2.a, .int .i64 x2.b],_,rfl,(ZpW (Fact.mk x1.v x2) hpost3 hb4 hb5),rfl⟩ rfl (by have hreach : reach = 140737488355328:=rfl; simp only [List.length_append,List.length_map,List.length_take,List.length_cons,List.length_nil]; omega) (by have hreach : reach = 140737488355328:=rfl; simp only [List.length_append,List.length_map,List.length_take,List.length_cons,List.length_nil]; omega) rfl rfl rfl (fun v9 o3 w16 hr5 hS18=>?_)
     have hS19:=hS18.tail
     refine Zl k2 (by have hreach : reach = 140737488355328:=rfl; omega) rfl rfl rfl ?_
     exact BK.mk' _ ⟨k2 + 1,v9,o3,G11,rfl,(hle9.trans (hle10.trans hle11)),hS19,(Ye.cast hr5 (by (rw [ZaE ‹_›,List.append_assoc]))),⟨rfl,rfl,rfl,rfl,rfl,rfl,rfl,rfl,rfl,trivial⟩,(by omega)⟩ (show (ZB x1.t tx).length - (k2 + 1) < (ZB x1.t tx).length - k2 by omega)
    refine Zl k1 (by have hreach : reach = 140737488355328:=rfl; omega) rfl rfl rfl ?_
    exact BK.mk' _ ⟨k1 + 1,v7,o2,G9,rfl,(hle5.trans ((hle6.trans hle7).trans hle9)),hS11,(Ye.cast hr3 (by (rw [ZlK ‹_›,Zrh (by omega)]))),⟨rfl,rfl,rfl,rfl,rfl,trivial⟩,(by omega)⟩ (show (Yl t.rows).length - (k1 + 1) < (Yl t.rows).length - k1 by omega)
   obtain ⟨G12,hle12,hs6,hS20⟩:=Ye.freeze hr1 hS5 0 rfl
   exact RT hS20 rfl (Sl.cast hs6 (by exact ZwN ‹_› ‹_› (by omega)))
  exact RT hS3 rfl (Sl.cast (Sl.nil Zdx 40 G3) (by exact ZwM ‹_›))
 exact RT hS2 rfl (Sl.cast (Sl.nil Zdx 40 G2) (by exact ZwL ‹_›))
end Go.Civ
set_option linter.unusedVariables false
set_option linter.unusedSimpArgs false
set_option maxRecDepth 100000
set_option maxHeartbeats 4000000
namespace Go.Civ
open Go.Proofs
theorem ZrA {G : GH} {w : World} (hG : G.In w) (d : Nat) (c : Cond) (ns : List (List UInt8)) (l : List Val) (cc : List Value) (hcc : (Y1 d).rep G c cc) (vn : Value) (hvn : Sl Enc.str 16 G vn ns) (vl : Value) (hvl : Sl ValE 32 G vl l) : CL Tryz.prog (nat_lit 197) #[.agg cc.toArray,vn,vl] [] w G fun _ _ r=>∃ r0 r1,r = .tuple #[r0,r1] ∧ r0 = .bool (Yt d c ns l) ∧ r1 = .int .i64 (ZeE d c ns l):=by
 refine Zg ft [] Tryz.func197 rfl rfl ?_
 have hS:=St.start (X:=[]) hG
 obtain ⟨lv1,rfl,hb1,hb2,hb3,hb4,hb5,hb6,ho1⟩:=YS hcc
 refine Zv [.int .i64 c.kind,Zb c.col,Zb c.oth, .int .i64 c.v.k, .int .i64 c.v.n,Zb c.v.s,lv1] _ hS rfl rfl rfl (fun p1 w1 G1 hle1 hsp1 hc1 hS1=>?_)
 have bd1:=hvn.bound
 refine Zj (hvn.mono hle1) Zb9 rfl rfl ?_
 have bd2:=hvl.bound
 refine Zj (hvl.mono hle1) Yd rfl rfl ?_
 refine Yf (ns.length : Int) (l.length : Int) rfl rfl rfl (fun h1=>?_) (fun h1=>?_)
 ·exact RT hS1 rfl ⟨_,_,rfl,(congrArg Value.bool (by exact (Zek (by first | exact .inl (by omega) | exact .inr (.inl (by omega)) | exact .inr (.inr ‹_›))).1.symm)),(congrArg (Value.int .i64) (by exact (Zek (by first | exact .inl (by omega) | exact .inr (.inl (by omega)) | exact .inr (.inr ‹_›))).2.symm))⟩
 have bd3:=hvn.bound
 refine Zj (hvn.mono hle1) Zb9 rfl rfl ?_
 refine YX (ns.length : Int) 100 rfl rfl rfl (fun h2=>?_) (fun h2=>?_)
 ·exact RT hS1 rfl ⟨_,_,rfl,(congrArg Value.bool (by exact (Zek (by first | exact .inl (by omega) | exact .inr (.inl (by omega)) | exact .inr (.inr ‹_›))).1.symm)),(congrArg (Value.int .i64) (by exact (Zek (by first | exact .inl (by omega) | exact .inr (.inl (by omega)) | exact .inr (.inr ‹_›))).2.symm))⟩
 refine Zn hS1 ZjB rfl rfl rfl (ZjE hS1.imm l _ (hvl.mono hle1)) (fun w2 G2 hS2 hle2=>?_)
 refine WL.split (fun (h3 : (l.all Zz) = true)=>?_) (fun (h3 : (l.all Zz) = false)=>?_)
 ·have bd4:=hvn.bound
  refine Zj (hvn.mono (hle1.trans hle2)) Zb9 rfl rfl ?_
  have hS4:=hS2.pad
  refine LP.go ft [] (fun m ρ1 w1=>∃ (k1 : Nat),∃ (v1 : Value) (o1 : OB),∃ (G3 : GH),m = ns.length - k1 ∧ G2.le G3 ∧ St w [] G G3 [o1] w1 ∧ Ye ColE 24 130 G3 v1 (Zaj ns l k1) o1 ∧ FR ρ1 [(2,vl),(3, .pointer (some p1)),(8,v1),(27,vn),(28, .int .i64 (ns.length : Int)),(29, .int .i64 (k1 : Int))] ∧ k1 ≤ ns.length) _ ⟨0,(.slice none 0 0),none,G2,rfl,(G2.le_refl),hS4,(Ye.cast (Ye.nil ColE 24 130 G2) (by simp [Zaj])),⟨rfl,rfl,rfl,rfl,rfl,rfl,trivial⟩,(by omega)⟩ ?_
  rintro m ρ1 w3 ⟨k1,v1,o1,G3,rfl,hle3,hS3,hr1,hF9,f1⟩
  refine hF9.set ?_
  clear hF9
  have hcl8:=Zo0 ns l k1
  refine Zq (k1 : Int) (ns.length : Int) rfl rfl rfl (fun h4=>?_) (fun h4=>?_)
  ·refine WL.indexAddr (hvn.mono ((hle1.trans hle2).trans hle3)) k1 (by omega) Zb9 Yj rfl rfl rfl rfl (fun p2 x1 hx1 he1=>?_)
   obtain ⟨cs1,hc2,hr2⟩:=he1
   obtain ⟨rfl,hb7⟩:=hr2
   refine Za hS3 hc2 Yj rfl rfl rfl ?_
   refine WL.indexAddr (hvl.mono ((hle1.trans hle2).trans hle3)) k1 (by omega) Yd Z3 rfl rfl rfl rfl (fun p3 x2 hx2 he2=>?_)
   obtain ⟨cs2,hc3,hr3⟩:=he2
   obtain ⟨rfl,hb8,hb9,hb10⟩:=ZV hr3
   refine Za hS3 (Xw.drop 0 hc3) Zp rfl rfl rfl <| WL.build _ [(0,[Zb x1]),(1,[.int .i64 x2.k])] [Zb x1, .int .i64 x2.k] Xi rfl ZmS rfl rfl rfl rfl ?_
   refine WL.buildSlice _ [(0,[Zb x1, .int .i64 x2.k])] [Zb x1, .int .i64 x2.k] hS3 Zqm rfl rfl rfl rfl (fun z hz=>by match z,hz with | [z0,z1],_=>rfl) (fun b1 w4 hn1 hS5=>?_)
   refine WL.push (m:=([(Col.mk x1 x2.k)] : List Col)) Zqm rfl rfl rfl hr1 hS5 1 rfl 0 _ _ _ _ _ rfl ⟨[Zb x1, .int .i64 x2.k],_,rfl,(Zeb (Col.mk x1 x2.k) hb7 hb8),rfl⟩ rfl (by have hreach : reach = 140737488355328:=rfl; simp only [List.length_append,List.length_cons,List.length_nil]; omega) (by have hreach : reach = 140737488355328:=rfl; simp only [List.length_append,List.length_cons,List.length_nil]; omega) rfl rfl rfl (fun v2 o2 w5 hr4 hS6=>?_)
   have hS7:=hS6.tail
   refine Zl k1 (by have hreach : reach = 140737488355328:=rfl; omega) rfl rfl rfl ?_
   exact BK.mk' _ ⟨k1 + 1,v2,o2,G3,rfl,hle3,hS7,(Ye.cast hr4 (by (exact (Znp ‹_› ‹_›).symm))),⟨rfl,rfl,rfl,rfl,rfl,rfl,trivial⟩,(by omega)⟩ (show ns.length - (k1 + 1) < ns.length - k1 by omega)
  have hcn9 : Zaj ns l k1 = QF ns l:=Zo1 (by omega)
  refine Zc hS3 (hc1.mono (hle2.trans hle3)) [.int .i64 c.kind,Zb c.col,Zb c.oth, .int .i64 c.v.k, .int .i64 c.v.n,Zb c.v.s,lv1] Xp rfl rfl rfl rfl rfl ?_
  obtain ⟨G4,hle4,hs1,hS8⟩:=Ye.freeze hr1 hS3 0 rfl
  refine Zn hS8 Znh rfl rfl rfl (Ziu hS8.imm _ c (Zaj ns l k1) _ ((Y1 _).mono (((hle1.trans hle2).trans hle3).trans hle4) hcc) _ hs1) (fun w6 G5 hS9 hle5=>?_)
  refine Yf (ZW d c (Zaj ns l k1)) 0 rfl rfl rfl (fun h5=>?_) (fun h5=>?_)
  ·exact RT hS9 rfl ⟨_,_,rfl,(congrArg Value.bool (by exact (ZkL hcn9 (ZjG (by omega) (by omega) ‹_›) ‹_›).1.symm)),(congrArg (Value.int .i64) (by exact (ZkL hcn9 (ZjG (by omega) (by omega) ‹_›) ‹_›).2.symm))⟩
  have hwt:=Znr (by assumption : ZW d c (Zaj ns l k1) = 0)
  have hcl9 : l.length = (Zaj ns l k1).length:=by rw [hcn9,Znq (by omega)]
  refine Zc hS9 (hc1.mono (((hle2.trans hle3).trans hle4).trans hle5)) [.int .i64 c.kind,Zb c.col,Zb c.oth, .int .i64 c.v.k, .int .i64 c.v.n,Zb c.v.s,lv1] Xp rfl rfl rfl rfl rfl ?_
  refine Zn hS9 ZfX rfl rfl rfl (Zpw _ hS9.imm c (Zaj ns l k1) l _ ((Y1 _).mono ((((hle1.trans hle2).trans hle3).trans hle4).trans hle5) hcc) _ (hs1.mono hle5) _ (hvl.mono ((((hle1.trans hle2).trans hle3).trans hle4).trans hle5)) hwt.1 hwt.2 hcl9) (fun w7 G6 hS10 hle6=>?_)
  exact RT hS10 rfl ⟨_,_,rfl,(congrArg Value.bool (by exact (Zmb hcn9 (ZjG (by omega) (by omega) ‹_›) ‹_›).1.symm)),(congrArg (Value.int .i64) (by exact (Zmb hcn9 (ZjG (by omega) (by omega) ‹_›) ‹_›).2.symm))⟩
 exact RT hS2 rfl ⟨_,_,rfl,(congrArg Value.bool (by exact (Zek (by first | exact .inl (by omega) | exact .inr (.inl (by omega)) | exact .inr (.inr ‹_›))).1.symm)),(congrArg (Value.int .i64) (by exact (Zek (by first | exact .inl (by omega) | exact .inr (.inl (by omega)) | exact .inr (.inr ‹_›))).2.symm))⟩
end Go.Civ
namespace Go.Civ
open Go.RowKit
set_option linter.unusedVariables false
def Xn (t : Table) (e : Int) : Table:=if e = 0 then (if (Zx t).isSome then Qs else t) else Qs
def Zba (t : Table) (e : Int) : Int:=if e = 0 then (if (Zx t).isSome then 14 else 0) else e
section
variable {t : Table} {e : Int}
theorem ZjL (h : e ≠ 0) : Qs = Xn t e ∧ e = Zba t e:=by unfold Xn Zba; rw [if_neg h,if_neg h]; exact ⟨rfl,rfl⟩
theorem ZjM (h : e = 0) (h2 : (Zx t).isSome = true) : Qs = Xn t e ∧ 14 = Zba t e:=by unfold Xn Zba; rw [if_pos h,if_pos h,h2]; exact ⟨rfl,rfl⟩
theorem ZjN (h : e = 0) (h2 : (Zx t).isSome = false) : t = Xn t e ∧ 0 = Zba t e:=by unfold Xn Zba; rw [if_pos h,if_pos h,h2]; exact ⟨rfl,rfl⟩
end
def Zo (t : Table) (tx : Int) (v : List Val) (d : Span) : Table:=if Y6 t then Xn (ZF t tx v d) (Y2 t tx v d) else Qs
def Qb (t : Table) (tx : Int) (v : List Val) (d : Span) : Int:=if Y6 t then Zba (ZF t tx v d) (Y2 t tx v d) else 1
def Yh (k : Nat) (t : Table) (tx : Int) (c : Cond) (set : List Val) (mask : List Bool) (d : Span) : Table:=if Y6 t then Xn (YH k t tx c set mask d) (Xv k t tx c set mask d) else Qs
def ZbM (k : Nat) (t : Table) (tx : Int) (c : Cond) (set : List Val) (mask : List Bool) (d : Span) : Int:=if Y6 t then Zba (YH k t tx c set mask d) (Xv k t tx c set mask d) else 1
section
variable {t : Table} {tx : Int} {v set : List Val} {d : Span} {k : Nat} {c : Cond} {mask : List Bool}
theorem Zp9 (h : Y6 t = false) : Qs = Zo t tx v d ∧ 1 = Qb t tx v d:=by unfold Zo Qb; rw [h]; exact ⟨rfl,rfl⟩
theorem ZhV (h : Y6 t = true) : Xn (ZF t tx v d) (Y2 t tx v d) = Zo t tx v d ∧ Zba (ZF t tx v d) (Y2 t tx v d) = Qb t tx v d:=by unfold Zo Qb; rw [h]; exact ⟨rfl,rfl⟩
theorem ZpA (h : Y6 t = false) : Qs = Yh k t tx c set mask d ∧ 1 = ZbM k t tx c set mask d:=by unfold Yh ZbM; rw [h]; exact ⟨rfl,rfl⟩
theorem ZpB (h : Y6 t = true) : Xn (YH k t tx c set mask d) (Xv k t tx c set mask d) = Yh k t tx c set mask d ∧ Zba (YH k t tx c set mask d) (Xv k t tx c set mask d) = ZbM k t tx c set mask d:=by unfold Yh ZbM; rw [h]; exact ⟨rfl,rfl⟩
theorem Zjs (h : Y2 t tx v d = 0) : Z2 (ZF t tx v d) = true:=(ZfD h).new.valid
theorem Zjt (h : Xv k t tx c set mask d = 0) : Z2 (YH k t tx c set mask d) = true:=(Zp1 h).chg.new.valid
end
theorem ZpC {t : Table} (h : Z2 t = false) : HRow.mk [] (Rect.mk (Span.mk 0 0) (Span.mk 0 0)) = YV t ∧ false = Y6 t:=by unfold YV Y6; rw [h]; exact ⟨rfl,rfl⟩
theorem ZpD {t : Table} (h : Z2 t = true) (h2 : (Zx t).isSome = true) : ZN (some (Yk (Zx t))) = YV t ∧ false = Y6 t:=by
 unfold YV Y6; rw [h]
 cases e : Zx t with
 | none=>rw [e] at h2; cases h2
 | some p=>exact ⟨rfl,rfl⟩
theorem ZpE {t : Table} (h : Z2 t = true) (h2 : (Zx t).isSome = false) : HRow.mk [] (Rect.mk (Span.mk 0 0) (Span.mk 0 0)) = YV t ∧ true = Y6 t:=by
 unfold YV Y6; rw [h]
 cases e : Zx t with
 | none=>exact ⟨rfl,rfl⟩
 | some p=>rw [e] at h2; cases h2
theorem ZhW {t : Table} (hv : Z2 t = true) (h : (Zx t).isSome = true) : Yp (Yk (Zx t)).tx = true ∧ Yp (Yk (Zx t)).vd = true:=by
 by_cases e : Xs t.s.key.toNat t.rows = []
 ·rw [ZhT e] at h; cases h
 ·have hm:=ZeT (ZhR (k:=t.s.key.toNat) (Y5 hv).1) e
  unfold Zx
  rw [ZcK e]
  have h9:=Zjk hv hm.1
  exact h9
def Zf (nm : List UInt8) : List Val:=[⟨1,1,[]⟩,⟨2,0,nm⟩]
abbrev Q4 : Schema:=⟨[112,101,111,112,108,101],[⟨[105,100],1⟩,⟨[110,97,109,101],2⟩],1,[]⟩
def peopR : List HRow:=[⟨Zf [97],⟨⟨0,10⟩,⟨5,253402300800⟩⟩⟩]
def Z0 : Table:=⟨Q4,peopR,5⟩
def peopR2 : List HRow:=[⟨Zf [97],⟨⟨0,10⟩,⟨5,253402300800⟩⟩⟩,⟨Zf [98],⟨⟨5,20⟩,⟨6,253402300800⟩⟩⟩]
def peopR3 : List HRow:=[⟨Zf [97],⟨⟨0,10⟩,⟨5,6⟩⟩⟩,⟨Zf [97],⟨⟨0,5⟩,⟨6,253402300800⟩⟩⟩,⟨Zf [98],⟨⟨5,20⟩,⟨6,253402300800⟩⟩⟩]
theorem Zvg : YM Q4 = true:=by decide
theorem Ziw : Z7 Q4 = ⟨Q4,[], -62135596801⟩ ∧ Zcd Q4 = 0:=Zro Zvg
theorem Zs3 : Z2 ⟨Q4,[], -62135596801⟩ = true:=by rw [← Ziw.1]; exact ZnB Zvg
theorem Zvh : ZS (QV ⟨Q4,[], -62135596801⟩ 5 (Zf [97]) ⟨0,10⟩) = peopR:=by rw [Zeh (ZnC (by decide))]; decide
theorem Zms : ZF ⟨Q4,[], -62135596801⟩ 5 (Zf [97]) ⟨0,10⟩ = Z0 ∧ Y2 ⟨Q4,[], -62135596801⟩ 5 (Zf [97]) ⟨0,10⟩ = 0:=by
 have h:=ZbK (t:=⟨Q4,[], -62135596801⟩) (tx:=5) (v:=Zf [97]) (d:=⟨0,10⟩) (Zep Zs3 (by decide)) (by decide)
 rw [← h.1,← h.2]; unfold Z1 X0; rw [Zvh]; decide
theorem Zvi : Y6 ⟨Q4,[], -62135596801⟩ = true:=by unfold Y6; rw [Zs3]; rfl
theorem ZpF : Zx Z0 = none:=ZhT (by decide)
theorem ZfQ : Zo (Z7 Q4) 5 (Zf [97]) ⟨0,10⟩ = Z0 ∧ Qb (Z7 Q4) 5 (Zf [97]) ⟨0,10⟩ = 0:=by
 rw [Ziw.1]
 have h:=ZhV (t:=⟨Q4,[], -62135596801⟩) (tx:=5) (v:=Zf [97]) (d:=⟨0,10⟩) Zvi
 rw [← h.1,← h.2,Zms.1,Zms.2]
 unfold Xn Zba; rw [ZpF]; exact ⟨rfl,rfl⟩
theorem Zs4 : Z2 Z0 = true:=by rw [← ZoA]; decide
theorem ZpG : Y6 Z0 = true:=by unfold Y6; rw [Zs4,ZpF]; rfl
theorem Zvj : ZS (QV Z0 6 (Zf [98]) ⟨5,20⟩) = peopR2:=by rw [Zeh (ZnC (by decide))]; decide
theorem ZgT : ZF Z0 6 (Zf [98]) ⟨5,20⟩ = ⟨Q4,peopR2,6⟩ ∧ Y2 Z0 6 (Zf [98]) ⟨5,20⟩ = 0:=by
 have h:=ZbK (t:=Z0) (tx:=6) (v:=Zf [98]) (d:=⟨5,20⟩) (Zep Zs4 (by decide)) (by decide)
 rw [← h.1,← h.2]; unfold Z1 X0; rw [Zvj]; decide
theorem Zvk : (Zx ⟨Q4,peopR2,6⟩).isSome = true:=by unfold Zx; rw [ZcK (by decide)]; rfl
theorem Zvl : Qb Z0 6 (Zf [98]) ⟨5,20⟩ = 14:=by
 have h:=ZhV (t:=Z0) (tx:=6) (v:=Zf [98]) (d:=⟨5,20⟩) ZpG
 rw [← h.2,ZgT.1,ZgT.2]
 unfold Zba; rw [Zvk]; rfl
theorem ZpH : ZS (XP Z0 6 (Zf [98]) ⟨5,20⟩) = peopR3:=by unfold XP; rw [Zeh (ZnC (by decide))]; decide
theorem ZnS : MrgP Z0 6 (Zf [98]) ⟨5,20⟩:=Zp8 ZpG ZgT.2 (by rw [ZpH]; decide) (by decide)
theorem Zvm : YI Z0 6 (Zf [98]) ⟨5,20⟩ = ⟨Q4,peopR3,6⟩:=by rw [ZnS.is,ZpH]; rfl
theorem Zl5 : atH (YI Z0 6 (Zf [98]) ⟨5,20⟩) 6 = [⟨Zf [97],⟨0,5⟩⟩,⟨Zf [98],⟨5,20⟩⟩]:=by
 rw [Zve ZnS.valid (by decide),Zvm]; decide
theorem ZtG : (((atH (YI Z0 6 (Zf [98]) ⟨5,20⟩) 6).length : Nat) : Int) = 2:=by rw [Zl5]; rfl
theorem Zwt {x : Fact} (h : (atH (YI Z0 6 (Zf [98]) ⟨5,20⟩) 6)[0]? = some x) : x.t = ⟨0,5⟩:=by rw [Zl5] at h; obtain rfl:=Option.some.inj h; rfl
theorem Zwu {x : Fact} (h : (atH (YI Z0 6 (Zf [98]) ⟨5,20⟩) 6)[1]? = some x) : x.t = ⟨5,20⟩:=by rw [Zl5] at h; obtain rfl:=Option.some.inj h; rfl
end Go.Civ
