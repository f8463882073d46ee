/- Lemmas. -/
import Derived.Test.YthgeclodflmiaaaGreatN11
import Derived.Test.YthgeclodflmiaaaGreatN12
import Derived.Test.YthgeclodflmiaaaGreatN21
import Derived.Test.YthgeclodflmiaaaGreatN24
import Derived.Test.YthgeclodflmiaaaGreatN25
import Derived.Test.YthgeclodflmiaaaGreatN27
import Derived.Test.YthgeclodflmiaaaGreatN28
import Derived.Test.YthgeclodflmiaaaGreatN29
import Derived.Test.YthgeclodflmiaaaGreatProg
import Derived.KernelRfl
import Derived.WalkKit
set_option linter.unusedVariables false
namespace Go.Civ
open Go.Proofs Go.Shelf Go.RowKit Go.Lib Go.Sort
theorem Ztu {G : GH} {w : World} (hG : G.In w) (l : List Pt) (vd : Value) (od : OB) (hvd : Yf PtE 40 (nat_lit 105) G vd l od) (hod : QW w G od) (hV : VP l) :
  Calls Tryz.prog (nat_lit 116) #[vd, .func (.func 117) #[] #[]] w fun e w'=>∃ r G',e = .returned r ∧ Res (QL od) w G w' G' ∧ r = .tuple #[] ∧ ∃ (l' : List Pt) (o' : OB),Yf PtE 40 (nat_lit 105) G' vd l' o' ∧ QW w' G' o' ∧ (l'.Perm l ∧ l'.Pairwise fun x y=>¬ Zam y x < 0):=
 Zme Tryz.sortPt (E:=PtE) (by decide) Tryz.isAgg105 Tryz.sizeOf105 Zam (fun p=>p.v.all Zy = true)
  (fun x hx=>by rw [QA hx hx,QJ.refl]; omega)
  (fun x y z hx hy hz p q=>by rw [QA hx hy] at p; rw [QA hy hz] at q; rw [QA hx hz]; exact QJ.trans _ _ _ p q)
  (fun x y z hx hy hz p q=>by rw [QA hx hy] at p; rw [QA hy hz] at q; rw [QA hx hz]; exact QJ.le_trans q p)
  117 (enters_of Tryz.func117 (by kernel_rfl) rfl) hG (fun W hW x y cx cy hx hy rx ry=>Zrq hW x y cx rx cy ry)
  ZhD _ (Zbc (v:= .slice none 0 0) ZhD Y5 Y5 (Sl.nil _ _ _)) rfl l hV vd od hvd hod
end Go.Civ
set_option linter.unusedVariables false
set_option linter.unusedSimpArgs false
set_option maxRecDepth 100000
set_option maxHeartbeats 4000000
namespace Go.Civ
open Go.Proofs
theorem Zn7 {G : GH} {w : World} (hG : G.In w) (t : Table) (at_ tx : Int) (ct : List Value) (hct : TableE.rep G t ct) : CL Tryz.prog (nat_lit 23) #[.agg ct.toArray, .int .i64 at_, .int .i64 tx] [] w G fun G' _ r=>Sl (ValE.slice 32) 24 G' r (YB t at_ tx):=by
 refine Zf ft [] Tryz.func23 rfl rfl ?_
 have hS:=St.start (X:=[]) hG
 obtain ⟨v1,v2,v3,rfl,hb1,hs1,hb2,hs2,hs3,hb3⟩:=ZF hct
 refine Z1 [Zb t.s.name,v1, .int .i64 t.s.key,v2,v3, .int .i64 t.last] _ hS rfl rfl rfl (fun p1 w1 G1 hle1 hsp1 hc1 hS1=>?_)
 refine Zd hS1 hc1 [Zb t.s.name,v1, .int .i64 t.s.key,v2,v3, .int .i64 t.last] Zw rfl rfl rfl rfl rfl ?_
 refine Zn hS1 Qm rfl rfl rfl (ZcX hS1.imm t _ (Zu t hb1 (hs1.mono hle1) hb2 (hs2.mono hle1) (hs3.mono hle1) hb3)) (fun w2 G2 hS2 hle2=>?_)
 refine WL.split (fun (h1 : (Z3 t) = true)=>?_) (fun (h1 : (Z3 t) = false)=>?_)
 ·refine Zn hS2 ZmR rfl rfl rfl (Zd6 hS2.imm at_) (fun w3 G3 hS3 hle3=>?_)
  refine WL.split (fun (h2 : (Yu at_) = true)=>?_) (fun (h2 : (Yu at_) = false)=>?_)
  ·refine Zn hS3 ZmR rfl rfl rfl (Zd6 hS3.imm tx) (fun w4 G4 hS4 hle4=>?_)
   refine WL.split (fun (h3 : (Yu tx) = true)=>?_) (fun (h3 : (Yu tx) = false)=>?_)
   ·obtain ⟨hg9,hn9,h89,_⟩:=ZS (by assumption : Z3 t = true)
    have hgl:=@ZcR t.rows
    refine Za hS4 (XZ.drop 4 (hc1.mono ((hle2.trans hle3).trans hle4))) YX rfl rfl rfl ?_
    refine Z6 hS4 ZmS rfl rfl rfl (ZeN hS4.imm t.rows _ (hs3.mono (((hle1.trans hle2).trans hle3).trans hle4)) hg9 (ZkE h89) (Nat.le_trans hn9 (by decide))) (fun w5 G5 r1 hpost1 hS5 hle5=>?_)
    have bd1:=hpost1.bound
    refine Zj hpost1 Zaq rfl rfl ?_
    have hS7:=hS5.pad
    refine LP.go ft [] (fun m ρ1 w1=>∃ (k1 : Nat),∃ (v4 : Value) (o1 : OB),∃ (G6 : GH),m = (Ys t.rows).length - k1 ∧ G5.le G6 ∧ St w [] G G6 [o1] w1 ∧ Yf (ValE.slice 32) 24 31 G6 v4 (Zce ((Ys t.rows).take k1) at_ tx) o1 ∧ FR ρ1 [(1, .int .i64 at_),(2, .int .i64 tx),(7,v4),(25,r1),(26, .int .i64 (((Ys t.rows).length : Nat) : Int)),(27, .int .i64 (k1 : Int))] ∧ k1 ≤ (Ys t.rows).length) _ ⟨0,(.slice none 0 0),none,G5,rfl,(G5.le_refl),hS7,(Yf.cast (Yf.nil (ValE.slice 32) 24 31 G5) (by rfl)),⟨rfl,rfl,rfl,rfl,rfl,rfl,trivial⟩,(by omega)⟩ ?_
    rintro m ρ1 w6 ⟨k1,v4,o1,G6,rfl,hle6,hS6,hr1,hF9,f1⟩
    refine hF9.set ?_
    clear hF9
    have hsl:=Zpa (Ys t.rows) k1 at_ tx
    refine Zo (k1 : Int) (((Ys t.rows).length : Nat) : Int) rfl rfl rfl (fun h4=>?_) (fun h4=>?_)
    ·refine WL.indexAddr (hpost1.mono hle6) k1 (by omega) Zaq XF rfl rfl rfl rfl (fun p2 x1 hx1 he1=>?_)
     obtain ⟨cs1,hc2,hr2⟩:=he1
     obtain ⟨v5,v6,rfl,hs4,hs5⟩:=QZ hr2
     refine Zd hS6 hc2 [v5,v6] XF rfl rfl rfl rfl rfl ?_
     refine WL.alloc hS6 XF rfl rfl (fun b1 w7 hn1 hS8=>?_)
     refine WL.store hS8 0 _ _ _ 0 _ [v5,v6] [v5,v6] _ rfl rfl XF rfl (Nat.le_of_ble_eq_true rfl) (by simp only [List.all_cons,List.all_nil,hs4.oneC,hs5.oneC,Bool.true_and] <;> rfl) rfl rfl rfl rfl rfl (fun w9 hS9=>?_)
     obtain ⟨G7,hle7,hc3,hS10⟩:=hS9.shutB hn1
     have hok9:=ZfN hg9 (Nat.le_trans hn9 (by decide)) (by assumption : (Ys t.rows)[k1]? = some _)
     refine Za hS10 (XZ.drop 1 hc3) YX rfl rfl rfl ?_
     refine Z6 hS10 Zqw rfl rfl rfl (Zg0 hS10.imm x1.t tx _ (hs5.mono hle7) hok9.1 hok9.2) (fun w10 G9 r2 hpost2 hS11 hle9=>?_)
     refine Zn hS11 ZtV rfl rfl rfl (ZoP hS11.imm (Z4 x1.t tx) at_ _ hpost2 (ZbB hok9.1 _) (ZqQ hok9.1 _) (Nat.le_trans (Zb5 _ _) hok9.2)) (fun w11 G10 hS12 hle10=>?_)
     refine WL.split (fun (h5 : (YC (Z4 x1.t tx) at_) = true)=>?_) (fun (h5 : (YC (Z4 x1.t tx) at_) = false)=>?_)
     ·refine Za hS12 (XZ.drop 0 (hc3.mono (hle9.trans hle10))) ZK rfl rfl rfl ?_
      refine Z6 hS12 Zfi rfl rfl rfl (QS hS12.imm x1.v _ (hs4.mono ((hle7.trans hle9).trans hle10))) (fun w12 G11 r3 hpost3 hS13 hle11=>?_)
      refine WL.buildSlice _ [(0,[r3])] [r3] hS13 Q0 rfl rfl rfl (by show [(0,(r3 : Value).cells.toList)] = _; simp only [hpost3.cells1] <;> rfl) (fun z hz=>by match z,hz with | [z0],_=>rfl) (fun b2 w13 hn2 hS14=>?_)
      refine WL.push (m:=([x1.v] : List (List Val))) Q0 rfl rfl rfl (hr1.mono (((hle7.trans hle9).trans hle10).trans hle11)) hS14 1 rfl 0 _ _ _ _ _ rfl ⟨[r3],_,rfl,⟨_,rfl,hpost3⟩,rfl⟩ rfl (by have hreach : reach = 140737488355328:=rfl; simp only [List.length_append,List.length_cons,List.length_nil]; omega) (by have hreach : reach = 140737488355328:=rfl; simp only [List.length_append,List.length_cons,List.length_nil]; omega) rfl rfl rfl (fun v7 o2 w14 hr3 hS15=>?_)
      have hS16:=hS15.tail
      refine Zk k1 (by have hreach : reach = 140737488355328:=rfl; omega) rfl rfl rfl ?_
      exact BK.mk' _ ⟨k1 + 1,v7,o2,G11,rfl,(hle6.trans (((hle7.trans hle9).trans hle10).trans hle11)),hS16,(Yf.cast hr3 (by (exact (ZoZ ‹_› ‹_›).symm))),⟨rfl,rfl,rfl,rfl,rfl,rfl,trivial⟩,(by omega)⟩ (show (Ys t.rows).length - (k1 + 1) < (Ys t.rows).length - k1 by omega)
     refine Zk k1 (by have hreach : reach = 140737488355328:=rfl; omega) rfl rfl rfl ?_
     exact BK.mk' _ ⟨k1 + 1,v4,o1,G10,rfl,(hle6.trans ((hle7.trans hle9).trans hle10)),hS12,(Yf.cast (hr1.mono ((hle7.trans hle9).trans hle10)) (by (exact (Zrb ‹_› ‹_›).symm))),⟨rfl,rfl,rfl,rfl,rfl,rfl,trivial⟩,(by omega)⟩ (show (Ys t.rows).length - (k1 + 1) < (Ys t.rows).length - k1 by omega)
    obtain ⟨G12,hle12,hs6,hS17⟩:=Yf.freeze hr1 hS6 0 rfl
    exact RT hS17 rfl (Sl.cast hs6 (by exact ZuA ‹_› ‹_› ‹_› (by omega)))
   exact RT hS4 rfl (Sl.cast (Sl.nil (ValE.slice 32) 24 G4) (by exact Zu9 ‹_›))
  exact RT hS3 rfl (Sl.cast (Sl.nil (ValE.slice 32) 24 G3) (by exact Zu8 ‹_›))
 exact RT hS2 rfl (Sl.cast (Sl.nil (ValE.slice 32) 24 G2) (by exact Zu7 ‹_›))
theorem ZvR {G : GH} {w : World} (hG : G.In w) (t : Table) (tx : Int) (ct : List Value) (hct : TableE.rep G t ct) : CL Tryz.prog (nat_lit 57) #[.agg ct.toArray, .int .i64 tx] [] w G fun G' _ r=>Sl Zdd 40 G' r (atH t tx):=by
 refine Zf ft [] Tryz.func57 rfl rfl ?_
 have hS:=St.start (X:=[]) hG
 obtain ⟨v1,v2,v3,rfl,hb1,hs1,hb2,hs2,hs3,hb3⟩:=ZF hct
 refine Z1 [Zb t.s.name,v1, .int .i64 t.s.key,v2,v3, .int .i64 t.last] _ hS rfl rfl rfl (fun p1 w1 G1 hle1 hsp1 hc1 hS1=>?_)
 refine Zd hS1 hc1 [Zb t.s.name,v1, .int .i64 t.s.key,v2,v3, .int .i64 t.last] Zw rfl rfl rfl rfl rfl ?_
 refine Zn hS1 Qm rfl rfl rfl (ZcX hS1.imm t _ (Zu t hb1 (hs1.mono hle1) hb2 (hs2.mono hle1) (hs3.mono hle1) hb3)) (fun w2 G2 hS2 hle2=>?_)
 refine WL.split (fun (h1 : (Z3 t) = true)=>?_) (fun (h1 : (Z3 t) = false)=>?_)
 ·refine Zn hS2 ZmR rfl rfl rfl (Zd6 hS2.imm tx) (fun w3 G3 hS3 hle3=>?_)
  refine WL.split (fun (h2 : (Yu tx) = true)=>?_) (fun (h2 : (Yu tx) = false)=>?_)
  ·obtain ⟨hg9,hn9,h89,_⟩:=ZS (by assumption : Z3 t = true)
   have hgl:=@ZcR t.rows
   refine Za hS3 (XZ.drop 4 (hc1.mono (hle2.trans hle3))) YX rfl rfl rfl ?_
   refine Z6 hS3 ZmS rfl rfl rfl (ZeN hS3.imm t.rows _ (hs3.mono ((hle1.trans hle2).trans hle3)) hg9 (ZkE h89) (Nat.le_trans hn9 (by decide))) (fun w4 G4 r1 hpost1 hS4 hle4=>?_)
   have bd1:=hpost1.bound
   refine Zj hpost1 Zaq rfl rfl ?_
   have hS6:=hS4.pad
   refine LP.go ft [] (fun m ρ1 w1=>∃ (k1 : Nat),∃ (v4 : Value) (o1 : OB),∃ (G5 : GH),m = (Ys t.rows).length - k1 ∧ G4.le G5 ∧ St w [] G G5 [o1] w1 ∧ Yf Zdd 40 73 G5 v4 (ZaZ ((Ys t.rows).take k1) tx) o1 ∧ FR ρ1 [(1, .int .i64 tx),(5,v4),(20,r1),(21, .int .i64 (((Ys t.rows).length : Nat) : Int)),(22, .int .i64 (k1 : Int))] ∧ k1 ≤ (Ys t.rows).length) _ ⟨0,(.slice none 0 0),none,G4,rfl,(G4.le_refl),hS6,(Yf.cast (Yf.nil Zdd 40 73 G4) (by rfl)),⟨rfl,rfl,rfl,rfl,rfl,trivial⟩,(by omega)⟩ ?_
   rintro m ρ1 w5 ⟨k1,v4,o1,G5,rfl,hle5,hS5,hr1,hF9,f1⟩
   refine hF9.set ?_
   clear hF9
   have hfl:=Zid (k:=k1) (tx:=tx) hn9
   refine Zo (k1 : Int) (((Ys t.rows).length : Nat) : Int) rfl rfl rfl (fun h3=>?_) (fun h3=>?_)
   ·refine WL.indexAddr (hpost1.mono hle5) k1 (by omega) Zaq XF rfl rfl rfl rfl (fun p2 x1 hx1 he1=>?_)
    obtain ⟨cs1,hc2,hr2⟩:=he1
    obtain ⟨v5,v6,rfl,hs4,hs5⟩:=QZ hr2
    refine Zd hS5 hc2 [v5,v6] XF rfl rfl rfl rfl rfl ?_
    refine WL.alloc hS5 XF rfl rfl (fun b1 w6 hn1 hS7=>?_)
    refine WL.store hS7 0 _ _ _ 0 _ [v5,v6] [v5,v6] _ rfl rfl XF rfl (Nat.le_of_ble_eq_true rfl) (by simp only [List.all_cons,List.all_nil,hs4.oneC,hs5.oneC,Bool.true_and] <;> rfl) rfl rfl rfl rfl rfl (fun w7 hS8=>?_)
    obtain ⟨G6,hle6,hc3,hS9⟩:=hS8.shutB hn1
    have hok9:=ZfN hg9 (Nat.le_trans hn9 (by decide)) (by assumption : (Ys t.rows)[k1]? = some _)
    refine Za hS9 (XZ.drop 1 hc3) YX rfl rfl rfl ?_
    refine Z6 hS9 Zqw rfl rfl rfl (Zg0 hS9.imm x1.t tx _ (hs5.mono hle6) hok9.1 hok9.2) (fun w9 G7 r2 hpost2 hS10 hle7=>?_)
    have bd2:=hpost2.bound
    refine Zj hpost2 Yd rfl rfl ?_
    refine LP.go ft [] (fun m ρ1 w1=>∃ (k2 : Nat),∃ (v7 : Value) (o2 : OB),∃ (G9 : GH),m = (Z4 x1.t tx).length - k2 ∧ G7.le G9 ∧ St w [] G G9 [o2] w1 ∧ Yf Zdd 40 73 G9 v7 (ZaZ ((Ys t.rows).take k1) tx ++ ((Z4 x1.t tx).take k2).map (Fact.mk x1.v)) o2 ∧ FR ρ1 [(1, .int .i64 tx),(5,v7),(7, .pointer (some (⟨b1,0,none⟩ : Addr))),(20,r1),(21, .int .i64 (((Ys t.rows).length : Nat) : Int)),(22, .int .i64 (k1 : Int)),(29,r2),(30, .int .i64 (((Z4 x1.t tx).length : Nat) : Int)),(31, .int .i64 (k2 : Int))] ∧ k2 ≤ (Z4 x1.t tx).length) _ ⟨0,v4,o1,G7,rfl,(G7.le_refl),hS10,(Yf.cast (hr1.mono (hle6.trans hle7)) (by simp)),⟨rfl,rfl,rfl,rfl,rfl,rfl,rfl,rfl,rfl,trivial⟩,(by omega)⟩ ?_
    rintro m ρ1 w10 ⟨k2,v7,o2,G9,rfl,hle9,hS11,hr3,hF9,f2⟩
    refine hF9.set ?_
    clear hF9
    have htl:=Nat.le_trans (Zb5 x1.t tx) hok9.2
    refine Zo (k2 : Int) (((Z4 x1.t tx).length : Nat) : Int) rfl rfl rfl (fun h4=>?_) (fun h4=>?_)
    ·refine WL.indexAddr (hpost2.mono hle9) k2 (by omega) Yd Zm rfl rfl rfl rfl (fun p3 x2 hx2 he2=>?_)
     obtain ⟨cs2,hc4,hr4⟩:=he2
     obtain ⟨rfl,hb4,hb5⟩:=Z2 hr4
     refine Zd hS11 hc4 [.int .i64 x2.a, .int .i64 x2.b] Zm rfl rfl rfl rfl rfl ?_
     refine WL.alloc hS11 Zm rfl rfl (fun b2 w11 hn2 hS12=>?_)
     refine WL.store hS12 0 _ _ _ 0 _ [.int .i64 x2.a, .int .i64 x2.b] [.int .i64 x2.a, .int .i64 x2.b] _ rfl rfl Zm rfl (Nat.le_of_ble_eq_true rfl) rfl rfl rfl rfl rfl rfl (fun w12 hS13=>?_)
     obtain ⟨G10,hle10,hc5,hS14⟩:=hS13.shutB hn2
     refine dr [(3,true),(5,false),(6,false),(7,false),(8,false)] [(37,v5),(39, .agg #[.int .i64 x2.a, .int .i64 x2.b])] hS14 ⟨fun _ hSw=>Za hSw (XZ.drop 0 (hc3.mono ((hle7.trans hle9).trans hle10))) ZK rfl rfl rfl <| nu rfl rfl,fun _ hSw=>Zd hSw hc5 [.int .i64 x2.a, .int .i64 x2.b] Zm rfl rfl rfl rfl rfl <| nu rfl rfl,trivial⟩ (fun w13 hS15=>?_)
     refine Z6 hS15 Zfi rfl rfl rfl (QS hS15.imm x1.v _ (hs4.mono (((hle6.trans hle7).trans hle9).trans hle10))) (fun w14 G11 r3 hpost3 hS16 hle11=>?_)
     refine ⟨hS16.down hS15.le hle11,?_⟩
     refine WL.build _ [(0,[r3]),(1,[.int .i64 x2.a, .int .i64 x2.b])] [r3, .int .i64 x2.a, .int .i64 x2.b] ZmG rfl Zwk rfl rfl (by show [(0,(r3 : Value).cells.toList),(1,(.agg #[.int .i64 x2.a, .int .i64 x2.b] : Value).cells.toList)] = _; simp only [hpost3.cells1] <;> rfl) rfl ?_
     refine WL.buildSlice _ [(0,[r3, .int .i64 x2.a, .int .i64 x2.b])] [r3, .int .i64 x2.a, .int .i64 x2.b] hS16 ZtU rfl rfl rfl rfl (fun z hz=>by match z,hz with | [z0,z1,z2],_=>rfl) (fun b3 w15 hn3 hS17=>?_)
     refine WL.push (m:=([(Fact.mk x1.v x2)] : List Fact)) ZtU rfl rfl rfl (hr3.mono (hle10.trans hle11)) hS17 1 rfl 0 _ _ _ _ _ rfl ⟨[r3, .int .i64 x2.a, .int .i64 x2.b],_,rfl,(ZpU (Fact.mk x1.v x2) hpost3 hb4 hb5),rfl⟩ rfl (by have hreach : reach = 140737488355328:=rfl; simp only [List.length_append,List.length_map,List.length_take,List.length_cons,List.length_nil]; omega) (by have hreach : reach = 140737488355328:=rfl; simp only [List.length_append,List.length_map,List.length_take,List.length_cons,List.length_nil]; omega) rfl rfl rfl (fun v9 o3 w16 hr5 hS18=>?_)
     have hS19:=hS18.tail
     refine Zk k2 (by have hreach : reach = 140737488355328:=rfl; omega) rfl rfl rfl ?_
     exact BK.mk' _ ⟨k2 + 1,v9,o3,G11,rfl,(hle9.trans (hle10.trans hle11)),hS19,(Yf.cast hr5 (by (rw [Q9 ‹_›,List.append_assoc]))),⟨rfl,rfl,rfl,rfl,rfl,rfl,rfl,rfl,rfl,trivial⟩,(by omega)⟩ (show (Z4 x1.t tx).length - (k2 + 1) < (Z4 x1.t tx).length - k2 by omega)
    refine Zk k1 (by have hreach : reach = 140737488355328:=rfl; omega) rfl rfl rfl ?_
    exact BK.mk' _ ⟨k1 + 1,v7,o2,G9,rfl,(hle5.trans ((hle6.trans hle7).trans hle9)),hS11,(Yf.cast hr3 (by (rw [Zl4 ‹_›,Zrc (by omega)]))),⟨rfl,rfl,rfl,rfl,rfl,trivial⟩,(by omega)⟩ (show (Ys t.rows).length - (k1 + 1) < (Ys t.rows).length - k1 by omega)
   obtain ⟨G12,hle12,hs6,hS20⟩:=Yf.freeze hr1 hS5 0 rfl
   exact RT hS20 rfl (Sl.cast hs6 (by exact ZwC ‹_› ‹_› (by omega)))
  exact RT hS3 rfl (Sl.cast (Sl.nil Zdd 40 G3) (by exact ZwB ‹_›))
 exact RT hS2 rfl (Sl.cast (Sl.nil Zdd 40 G2) (by exact ZwA ‹_›))
end Go.Civ
namespace Go.Civ
open Go.RowKit
set_option linter.unusedVariables false
theorem ZkV {α β : Type} {f : α → β → Bool} : ∀ {a : List α} {b : List β} {j : Nat} {x : α} {y : β},Qp f a b = true → a[j]? = some x → b[j]? = some y → f x y = true
 | [],_,_,_,_,_,h,_=>by simp at h
 | _ :: _,[],_,_,_,_,_,h=>by simp at h
 | x0 :: a,y0 :: b,0,x,y,h,h1,h2=>by simp at h1 h2; subst h1 h2; simp [Qp] at h; exact h.1
 | x0 :: a,y0 :: b,j + 1,x,y,h,h1,h2=>by simp [Qp] at h; exact ZkV h.2 (by simpa using h1) (by simpa using h2)
theorem Zc8 {s : Schema} {v : List Val} (h : YJ s v = 0) : YE s = true ∧ v.all Zy = true ∧ Qp (fun (c : Col) (x : Val)=>decide (c.kind = x.k)) s.cols v = true:=by
 unfold YJ at h
 split at h
 ·rename_i h1
  split at h
  ·rename_i h2
   simp only [Bool.and_eq_true] at h1
   exact ⟨h1.1,h1.2,h2⟩
  ·cases h
 ·cases h
def addN (out : VV) (m : List Val) : VV:=if out.any (fun l=>decide (l = m)) then out else out ++ [m]
section
variable {d : Nat} {c : Cond} {ns : List (List UInt8)} {set : List Val} {mask : List Bool} {b : VV}
end
section
variable {t : Table} {tx at_ later past : Int} {d : Span} {u : List Val}
end
end Go.Civ
namespace Go.Civ
section
variable {t : Table} {tx at_ later past : Int} {d : Span} {v : List Val} {b : VV} {k : Nat} {c : Cond} {ns : List (List UInt8)} {set : List Val} {mask : List Bool} {l : List Val}
end
end Go.Civ
set_option linter.unusedVariables false
set_option linter.unusedSimpArgs false
set_option maxRecDepth 100000
set_option maxHeartbeats 4000000
namespace Go.Civ
open Go.Proofs
theorem ZnI {G : GH} {w : World} (hG : G.In w) (l : List HRow) (vl : Value) (hvl : Sl HRowE 56 G vl l) (hgood : ZA l) (hlen : ∀ r ∈ l,r.v.length ≤ 1000) (hl : l.length ≤ 2000) : CL Tryz.prog (nat_lit 66) #[vl] [] w G fun G' w' r=>∃ o,Yf HRowE 56 (nat_lit 37) G' r (Z5 l) o ∧ ZfD w w' G' o:=by
 refine Zf ft [] Tryz.func66 rfl rfl ?_
 have hS:=St.start (X:=[]) hG
 refine Z6 hS ZmS rfl rfl rfl (ZeN hS.imm l _ hvl hgood hlen hl) (fun w1 G1 r1 hpost1 hS1 hle1=>?_)
 have bd1:=hpost1.bound
 refine Zj hpost1 Zaq rfl rfl ?_
 have hS3:=hS1.pad
 refine LP.go ft [] (fun m ρ1 w1=>∃ (k1 : Nat),∃ (v1 : Value) (o1 : OB),∃ (G2 : GH),m = (Ys l).length - k1 ∧ G1.le G2 ∧ St w [] G G2 [o1] w1 ∧ Yf HRowE 56 37 G2 v1 (Zc5 ((Ys l).take k1)) o1 ∧ FR ρ1 [(3,v1),(7,r1),(8, .int .i64 (((Ys l).length : Nat) : Int)),(9, .int .i64 (k1 : Int))] ∧ k1 ≤ (Ys l).length) _ ⟨0,(.slice none 0 0),none,G1,rfl,(G1.le_refl),hS3,(Yf.nil HRowE 56 37 G1),⟨rfl,rfl,rfl,rfl,trivial⟩,(by omega)⟩ ?_
 rintro m ρ1 w2 ⟨k1,v1,o1,G2,rfl,hle2,hS2,hr1,hF9,f1⟩
 refine hF9.set ?_
 clear hF9
 have hgl:=@ZcR l
 have hpl:=ZeU (k:=k1) (fun g hg=>Nat.le_trans (Zhy g hg) hl) (Nat.le_trans hgl hl)
 refine Zo (k1 : Int) (((Ys l).length : Nat) : Int) rfl rfl rfl (fun h1=>?_) (fun h1=>?_)
 ·refine WL.indexAddr (hpost1.mono hle2) k1 (by omega) Zaq XF rfl rfl rfl rfl (fun p1 x1 hx1 he1=>?_)
  obtain ⟨cs1,hc1,hr2⟩:=he1
  obtain ⟨v2,v3,rfl,hs1,hs2⟩:=QZ hr2
  refine Zd hS2 hc1 [v2,v3] XF rfl rfl rfl rfl rfl ?_
  refine WL.alloc hS2 XF rfl rfl (fun b1 w3 hn1 hS4=>?_)
  refine WL.store hS4 0 _ _ _ 0 _ [v2,v3] [v2,v3] _ rfl rfl XF rfl (Nat.le_of_ble_eq_true rfl) (by simp only [List.all_cons,List.all_nil,hs1.oneC,hs2.oneC,Bool.true_and] <;> rfl) rfl rfl rfl rfl rfl (fun w4 hS5=>?_)
  obtain ⟨G3,hle3,hc2,hS6⟩:=hS5.shutB hn1
  have hok:=ZfN hgood hl (by assumption : (Ys l)[k1]? = some _); have hgn:=Zft hok.2
  refine Zd hS6 hc2 [v2,v3] XF rfl rfl rfl rfl rfl ?_
  refine Z6 hS6 ZrT rfl rfl rfl (ZiZ hS6.imm x1 _ (Ze0 x1 (hs1.mono hle3) (hs2.mono hle3)) hok.1 hok.2) (fun w5 G4 r2 hpost2 hS7 hle4=>?_)
  refine ZU ZX rfl rfl rfl (hr1.mono (hle3.trans hle4)) hS7 0 rfl hpost2 (by have hreach : reach = 140737488355328:=rfl; (show _ * 56 ≤ _; omega)) (by have hreach : reach = 140737488355328:=rfl; omega) rfl rfl rfl (fun v4 o2 w6 hr3 hS8=>?_)
  refine Zk k1 (by have hreach : reach = 140737488355328:=rfl; omega) rfl rfl rfl ?_
  exact BK.mk' _ ⟨k1 + 1,v4,o2,G4,rfl,(hle2.trans (hle3.trans hle4)),hS8,(Yf.cast hr3 (by (rw [Zhx ‹_›]))),⟨rfl,rfl,rfl,rfl,trivial⟩,(by omega)⟩ (show (Ys l).length - (k1 + 1) < (Ys l).length - k1 by omega)
 exact RT hS2 rfl ⟨_,Yf.cast hr1 (by rw [List.take_of_length_le (by omega)]; rfl),hS2.freshAt 0 rfl⟩
theorem ZnJ {G : GH} {w : World} (hG : G.In w) (l : List HRow) (vl : Value) (hvl : Sl HRowE 56 G vl l) (hlen : ∀ r ∈ l,r.v.length ≤ 1000) : CL Tryz.prog (nat_lit 76) #[vl] [] w G fun G' w' r=>∃ r0 r1,r = .tuple #[r0,r1] ∧ (∃ o,Yf HRowE 56 (nat_lit 37) G' r0 (Qe l) o ∧ ZfD w w' G' o) ∧ r1 = .int .i64 (Q8 l):=by
 refine Zf ft [] Tryz.func76 rfl rfl ?_
 have hS:=St.start (X:=[]) hG
 have bd1:=hvl.bound
 refine Zj hvl Yl rfl rfl ?_
 refine YL (l.length : Int) 1000 rfl rfl rfl (fun h1=>?_) (fun h1=>?_)
 ·exact RT hS rfl ⟨_,_,rfl,⟨none,Yf.cast (Yf.nil _ _ _ _) (by exact (ZiK (by omega)).1.symm),fun _ h=>by cases h⟩,(congrArg (Value.int .i64) (by exact (ZiK (by omega)).2.symm))⟩
 refine Zn hS ZtW rfl rfl rfl (Zgl hS.imm l (fun x8=>!Y0 x8) _ hvl 132 #[] ⟨Zvn,fun G8 w8 v8 x8 hle8 hG8 hon8 hA8=>by obtain ⟨cs_x8,rfl,hr_x8⟩:=hA8; exact Zn6 hG8 x8 cs_x8 hr_x8⟩) (fun w1 G1 hS1 hle1=>?_)
 refine WL.split (fun (h2 : (l.any (fun x8=>!Y0 x8)) = true)=>?_) (fun (h2 : (l.any (fun x8=>!Y0 x8)) = false)=>?_)
 ·exact RT hS1 rfl ⟨_,_,rfl,⟨none,Yf.cast (Yf.nil _ _ _ _) (by exact (ZiL (by omega) ‹_›).1.symm),fun _ h=>by cases h⟩,(congrArg (Value.int .i64) (by exact (ZiL (by omega) ‹_›).2.symm))⟩
 refine ZaC ZmO rfl rfl rfl (ZnI hS1.imm l _ (hvl.mono hle1) (Zgj ‹_›) hlen (by omega)) (fun w2 G2 r1 hres1 hpost1=>?_)
 have hS2:=hS1.call hres1
 have hle2:=hres1.le
 obtain ⟨o1,hr1,hf1⟩:=hpost1
 have hS3:=hS1.adoptO hres1 hf1
 have bd2:=hr1.bound
 refine X9 hr1 Yl rfl rfl ?_
 refine YL (((Z5 l).length : Nat) : Int) 500 rfl rfl rfl (fun h3=>?_) (fun h3=>?_)
 ·exact RT hS3 rfl ⟨_,_,rfl,⟨none,Yf.cast (Yf.nil _ _ _ _) (by exact (Zh3 (by omega) ‹_› (by omega)).1.symm),fun _ h=>by cases h⟩,(congrArg (Value.int .i64) (by exact (Zh3 (by omega) ‹_› (by omega)).2.symm))⟩
 exact RT hS3 rfl ⟨_,_,rfl,⟨_,Yf.cast hr1 (by exact (Zg1 (by omega) ‹_› (by omega)).1.symm),hS3.freshAt 0 rfl⟩,(congrArg (Value.int .i64) (by exact (Zg1 (by omega) ‹_› (by omega)).2.symm))⟩
end Go.Civ
