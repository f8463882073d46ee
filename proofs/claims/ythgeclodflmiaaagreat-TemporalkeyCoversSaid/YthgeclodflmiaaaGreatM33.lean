/- Lemmas. -/
import Derived.Test.YthgeclodflmiaaaGreatM21
import Derived.Test.YthgeclodflmiaaaGreatM28
import Derived.Test.YthgeclodflmiaaaGreatM32
import Derived.Test.YthgeclodflmiaaaGreatProg
import Derived.KernelRfl
import Derived.WalkKit
set_option linter.unusedVariables false
set_option linter.unusedSimpArgs false
set_option maxRecDepth 100000
set_option maxHeartbeats 4000000
namespace Go.Civ
open Go.Proofs
theorem ZmF {G : GH} {w : World} (hG : G.In w) (t : Table) (at_ tx : Int) (ct : List Value) (hct : TableE.rep G t ct) : CL Tryz.prog (nat_lit 23) #[.agg ct.toArray, .int .i64 at_, .int .i64 tx] [] w G fun G' _ r=>Sl (ValE.slice 32) 24 G' r (Yy t at_ tx):=by
 refine Zg ft [] Tryz.func23 rfl rfl ?_
 have hS:=St.start (X:=[]) hG
 obtain ⟨v1,v2,v3,rfl,hb1,hs1,hb2,hs2,hs3,hb3⟩:=Z1 hct
 refine Zu [Zd t.s.name,v1, .int .i64 t.s.key,v2,v3, .int .i64 t.last] _ hS rfl rfl rfl (fun p1 w1 G1 hle1 hsp1 hc1 hS1=>?_)
 refine Zc hS1 hc1 [Zd t.s.name,v1, .int .i64 t.s.key,v2,v3, .int .i64 t.last] Zv rfl rfl rfl rfl rfl ?_
 refine Zm hS1 Xm rfl rfl rfl (Q8 hS1.imm t _ (Zq t hb1 (hs1.mono hle1) hb2 (hs2.mono hle1) (hs3.mono hle1) hb3)) (fun w2 G2 hS2 hle2=>?_)
 refine WL.split (fun (h1 : (Zo t) = true)=>?_) (fun (h1 : (Zo t) = false)=>?_)
 ·refine Zm hS2 Zme rfl rfl rfl (Zdc hS2.imm at_) (fun w3 G3 hS3 hle3=>?_)
  refine WL.split (fun (h2 : (ZM at_) = true)=>?_) (fun (h2 : (ZM at_) = false)=>?_)
  ·refine Zm hS3 Zme rfl rfl rfl (Zdc hS3.imm tx) (fun w4 G4 hS4 hle4=>?_)
   refine WL.split (fun (h3 : (ZM tx) = true)=>?_) (fun (h3 : (ZM tx) = false)=>?_)
   ·obtain ⟨hg9,hn9,h89,_⟩:=ZD (by assumption : Zo t = true)
    have hgl:=@ZcE t.rows
    refine Za hS4 (XV.drop 4 (hc1.mono ((hle2.trans hle3).trans hle4))) YD rfl rfl rfl ?_
    refine Z3 hS4 Zmf rfl rfl rfl (Zek hS4.imm t.rows _ (hs3.mono (((hle1.trans hle2).trans hle3).trans hle4)) hg9 (Zka h89) (Nat.le_trans hn9 (by decide))) (fun w5 G5 r1 hpost1 hS5 hle5=>?_)
    have bd1:=hpost1.bound
    refine Zi hpost1 Zai rfl rfl ?_
    have hS7:=hS5.pad
    refine LP.go ft [] (fun m ρ1 w1=>∃ (k1 : Nat),∃ (v4 : Value) (o1 : OB),∃ (G6 : GH),m = (ZY t.rows).length - k1 ∧ G5.le G6 ∧ St w [] G G6 [o1] w1 ∧ ZQ (ValE.slice 32) 24 31 G6 v4 (ZbN ((ZY t.rows).take k1) at_ tx) o1 ∧ FR ρ1 [(1, .int .i64 at_),(2, .int .i64 tx),(7,v4),(25,r1),(26, .int .i64 (((ZY t.rows).length : Nat) : Int)),(27, .int .i64 (k1 : Int))] ∧ k1 ≤ (ZY t.rows).length) _ ⟨0,(.slice none 0 0),none,G5,rfl,(G5.le_refl),hS7,(ZQ.cast (ZQ.nil (ValE.slice 32) 24 31 G5) (by rfl)),⟨rfl,rfl,rfl,rfl,rfl,rfl,trivial⟩,(by omega)⟩ ?_
    rintro m ρ1 w6 ⟨k1,v4,o1,G6,rfl,hle6,hS6,hr1,hF9,f1⟩
    refine hF9.set ?_
    clear hF9
    have hsl:=ZnS (ZY t.rows) k1 at_ tx
    refine Zl (k1 : Int) (((ZY t.rows).length : Nat) : Int) rfl rfl rfl (fun h4=>?_) (fun h4=>?_)
    ·refine WL.indexAddr (hpost1.mono hle6) k1 (by omega) Zai X4 rfl rfl rfl rfl (fun p2 x1 hx1 he1=>?_)
     obtain ⟨cs1,hc2,hr2⟩:=he1
     obtain ⟨v5,v6,rfl,hs4,hs5⟩:=QS hr2
     refine Zc hS6 hc2 [v5,v6] X4 rfl rfl rfl rfl rfl ?_
     refine WL.alloc hS6 X4 rfl rfl (fun b1 w7 hn1 hS8=>?_)
     refine WL.store hS8 0 _ _ _ 0 _ [v5,v6] [v5,v6] _ rfl rfl X4 rfl (Nat.le_of_ble_eq_true rfl) (by simp only [List.all_cons,List.all_nil,hs4.oneC,hs5.oneC,Bool.true_and] <;> rfl) rfl rfl rfl rfl rfl (fun w9 hS9=>?_)
     obtain ⟨G7,hle7,hc3,hS10⟩:=hS9.shutB hn1
     have hok9:=Zf0 hg9 (Nat.le_trans hn9 (by decide)) (by assumption : (ZY t.rows)[k1]? = some _)
     refine Za hS10 (XV.drop 1 hc3) YD rfl rfl rfl ?_
     refine Z3 hS10 Zpy rfl rfl rfl (Zgf hS10.imm x1.t tx _ (hs5.mono hle7) hok9.1 hok9.2) (fun w10 G9 r2 hpost2 hS11 hle9=>?_)
     refine Zm hS11 Zv3 rfl rfl rfl (ZnK hS11.imm (ZB x1.t tx) at_ _ hpost2 (Za7 hok9.1 _) (ZpR hok9.1 _) (Nat.le_trans (Zbr _ _) hok9.2)) (fun w11 G10 hS12 hle10=>?_)
     refine WL.split (fun (h5 : (Yu (ZB x1.t tx) at_) = true)=>?_) (fun (h5 : (Yu (ZB x1.t tx) at_) = false)=>?_)
     ·refine Za hS12 (XV.drop 0 (hc3.mono (hle9.trans hle10))) Z9 rfl rfl rfl ?_
      refine Z3 hS12 ZdL rfl rfl rfl (Q0 hS12.imm x1.v _ (hs4.mono ((hle7.trans hle9).trans hle10))) (fun w12 G11 r3 hpost3 hS13 hle11=>?_)
      refine WL.buildSlice _ [(0,[r3])] [r3] hS13 Qs rfl rfl rfl (by show [(0,(r3 : Value).cells.toList)] = _; simp only [hpost3.cells1] <;> rfl) (fun z hz=>by match z,hz with | [z0],_=>rfl) (fun b2 w13 hn2 hS14=>?_)
      refine WL.push (m:=([x1.v] : List (List Val))) Qs rfl rfl rfl (hr1.mono (((hle7.trans hle9).trans hle10).trans hle11)) hS14 1 rfl 0 _ _ _ _ _ rfl ⟨[r3],_,rfl,⟨_,rfl,hpost3⟩,rfl⟩ rfl (by have hreach : reach = 140737488355328:=rfl; simp only [List.length_append,List.length_cons,List.length_nil]; omega) (by have hreach : reach = 140737488355328:=rfl; simp only [List.length_append,List.length_cons,List.length_nil]; omega) rfl rfl rfl (fun v7 o2 w14 hr3 hS15=>?_)
      have hS16:=hS15.tail
      refine Zj k1 (by have hreach : reach = 140737488355328:=rfl; omega) rfl rfl rfl ?_
      exact BK.mk' _ ⟨k1 + 1,v7,o2,G11,rfl,(hle6.trans (((hle7.trans hle9).trans hle10).trans hle11)),hS16,(ZQ.cast hr3 (by (exact (ZnR ‹_› ‹_›).symm))),⟨rfl,rfl,rfl,rfl,rfl,rfl,trivial⟩,(by omega)⟩ (show (ZY t.rows).length - (k1 + 1) < (ZY t.rows).length - k1 by omega)
     refine Zj k1 (by have hreach : reach = 140737488355328:=rfl; omega) rfl rfl rfl ?_
     exact BK.mk' _ ⟨k1 + 1,v4,o1,G10,rfl,(hle6.trans ((hle7.trans hle9).trans hle10)),hS12,(ZQ.cast (hr1.mono ((hle7.trans hle9).trans hle10)) (by (exact (Zqa ‹_› ‹_›).symm))),⟨rfl,rfl,rfl,rfl,rfl,rfl,trivial⟩,(by omega)⟩ (show (ZY t.rows).length - (k1 + 1) < (ZY t.rows).length - k1 by omega)
    obtain ⟨G12,hle12,hs6,hS17⟩:=ZQ.freeze hr1 hS6 0 rfl
    exact RT hS17 rfl (Sl.cast hs6 (by exact ZtH ‹_› ‹_› ‹_› (by omega)))
   exact RT hS4 rfl (Sl.cast (Sl.nil (ValE.slice 32) 24 G4) (by exact ZtG ‹_›))
  exact RT hS3 rfl (Sl.cast (Sl.nil (ValE.slice 32) 24 G3) (by exact ZtF ‹_›))
 exact RT hS2 rfl (Sl.cast (Sl.nil (ValE.slice 32) 24 G2) (by exact ZtE ‹_›))
theorem Zru {G : GH} {w : World} (hG : G.In w) (t : Table) (tx : Int) (ct : List Value) (hct : TableE.rep G t ct) : CL Tryz.prog (nat_lit 57) #[.agg ct.toArray, .int .i64 tx] [] w G fun G' _ r=>Sl Xj 40 G' r (Qb t tx):=by
 refine Zg ft [] Tryz.func57 rfl rfl ?_
 have hS:=St.start (X:=[]) hG
 obtain ⟨v1,v2,v3,rfl,hb1,hs1,hb2,hs2,hs3,hb3⟩:=Z1 hct
 refine Zu [Zd t.s.name,v1, .int .i64 t.s.key,v2,v3, .int .i64 t.last] _ hS rfl rfl rfl (fun p1 w1 G1 hle1 hsp1 hc1 hS1=>?_)
 refine Zc hS1 hc1 [Zd t.s.name,v1, .int .i64 t.s.key,v2,v3, .int .i64 t.last] Zv rfl rfl rfl rfl rfl ?_
 refine Zm hS1 Xm rfl rfl rfl (Q8 hS1.imm t _ (Zq t hb1 (hs1.mono hle1) hb2 (hs2.mono hle1) (hs3.mono hle1) hb3)) (fun w2 G2 hS2 hle2=>?_)
 refine WL.split (fun (h1 : (Zo t) = true)=>?_) (fun (h1 : (Zo t) = false)=>?_)
 ·refine Zm hS2 Zme rfl rfl rfl (Zdc hS2.imm tx) (fun w3 G3 hS3 hle3=>?_)
  refine WL.split (fun (h2 : (ZM tx) = true)=>?_) (fun (h2 : (ZM tx) = false)=>?_)
  ·obtain ⟨hg9,hn9,h89,_⟩:=ZD (by assumption : Zo t = true)
   have hgl:=@ZcE t.rows
   refine Za hS3 (XV.drop 4 (hc1.mono (hle2.trans hle3))) YD rfl rfl rfl ?_
   refine Z3 hS3 Zmf rfl rfl rfl (Zek hS3.imm t.rows _ (hs3.mono ((hle1.trans hle2).trans hle3)) hg9 (Zka h89) (Nat.le_trans hn9 (by decide))) (fun w4 G4 r1 hpost1 hS4 hle4=>?_)
   have bd1:=hpost1.bound
   refine Zi hpost1 Zai rfl rfl ?_
   have hS6:=hS4.pad
   refine LP.go ft [] (fun m ρ1 w1=>∃ (k1 : Nat),∃ (v4 : Value) (o1 : OB),∃ (G5 : GH),m = (ZY t.rows).length - k1 ∧ G4.le G5 ∧ St w [] G G5 [o1] w1 ∧ ZQ Xj 40 73 G5 v4 (ZaQ ((ZY t.rows).take k1) tx) o1 ∧ FR ρ1 [(1, .int .i64 tx),(5,v4),(20,r1),(21, .int .i64 (((ZY t.rows).length : Nat) : Int)),(22, .int .i64 (k1 : Int))] ∧ k1 ≤ (ZY t.rows).length) _ ⟨0,(.slice none 0 0),none,G4,rfl,(G4.le_refl),hS6,(ZQ.cast (ZQ.nil Xj 40 73 G4) (by rfl)),⟨rfl,rfl,rfl,rfl,rfl,trivial⟩,(by omega)⟩ ?_
   rintro m ρ1 w5 ⟨k1,v4,o1,G5,rfl,hle5,hS5,hr1,hF9,f1⟩
   refine hF9.set ?_
   clear hF9
   have hfl:=Zd6 (k:=k1) (tx:=tx) hn9
   refine Zl (k1 : Int) (((ZY t.rows).length : Nat) : Int) rfl rfl rfl (fun h3=>?_) (fun h3=>?_)
   ·refine WL.indexAddr (hpost1.mono hle5) k1 (by omega) Zai X4 rfl rfl rfl rfl (fun p2 x1 hx1 he1=>?_)
    obtain ⟨cs1,hc2,hr2⟩:=he1
    obtain ⟨v5,v6,rfl,hs4,hs5⟩:=QS hr2
    refine Zc hS5 hc2 [v5,v6] X4 rfl rfl rfl rfl rfl ?_
    refine WL.alloc hS5 X4 rfl rfl (fun b1 w6 hn1 hS7=>?_)
    refine WL.store hS7 0 _ _ _ 0 _ [v5,v6] [v5,v6] _ rfl rfl X4 rfl (Nat.le_of_ble_eq_true rfl) (by simp only [List.all_cons,List.all_nil,hs4.oneC,hs5.oneC,Bool.true_and] <;> rfl) rfl rfl rfl rfl rfl (fun w7 hS8=>?_)
    obtain ⟨G6,hle6,hc3,hS9⟩:=hS8.shutB hn1
    have hok9:=Zf0 hg9 (Nat.le_trans hn9 (by decide)) (by assumption : (ZY t.rows)[k1]? = some _)
    refine Za hS9 (XV.drop 1 hc3) YD rfl rfl rfl ?_
    refine Z3 hS9 Zpy rfl rfl rfl (Zgf hS9.imm x1.t tx _ (hs5.mono hle6) hok9.1 hok9.2) (fun w9 G7 r2 hpost2 hS10 hle7=>?_)
    have bd2:=hpost2.bound
    refine Zi hpost2 Yd rfl rfl ?_
    refine LP.go ft [] (fun m ρ1 w1=>∃ (k2 : Nat),∃ (v7 : Value) (o2 : OB),∃ (G9 : GH),m = (ZB x1.t tx).length - k2 ∧ G7.le G9 ∧ St w [] G G9 [o2] w1 ∧ ZQ Xj 40 73 G9 v7 (ZaQ ((ZY t.rows).take k1) tx ++ ((ZB x1.t tx).take k2).map (Fact.mk x1.v)) o2 ∧ FR ρ1 [(1, .int .i64 tx),(5,v7),(7, .pointer (some (⟨b1,0,none⟩ : Addr))),(20,r1),(21, .int .i64 (((ZY t.rows).length : Nat) : Int)),(22, .int .i64 (k1 : Int)),(29,r2),(30, .int .i64 (((ZB x1.t tx).length : Nat) : Int)),(31, .int .i64 (k2 : Int))] ∧ k2 ≤ (ZB x1.t tx).length) _ ⟨0,v4,o1,G7,rfl,(G7.le_refl),hS10,(ZQ.cast (hr1.mono (hle6.trans hle7)) (by simp)),⟨rfl,rfl,rfl,rfl,rfl,rfl,rfl,rfl,rfl,trivial⟩,(by omega)⟩ ?_
    rintro m ρ1 w10 ⟨k2,v7,o2,G9,rfl,hle9,hS11,hr3,hF9,f2⟩
    refine hF9.set ?_
    clear hF9
    have htl:=Nat.le_trans (Zbr x1.t tx) hok9.2
    refine Zl (k2 : Int) (((ZB x1.t tx).length : Nat) : Int) rfl rfl rfl (fun h4=>?_) (fun h4=>?_)
    ·refine WL.indexAddr (hpost2.mono hle9) k2 (by omega) Yd Zs rfl rfl rfl rfl (fun p3 x2 hx2 he2=>?_)
     obtain ⟨cs2,hc4,hr4⟩:=he2
     obtain ⟨rfl,hb4,hb5⟩:=Z6 hr4
     refine Zc hS11 hc4 [.int .i64 x2.a, .int .i64 x2.b] Zs rfl rfl rfl rfl rfl ?_
     refine WL.alloc hS11 Zs rfl rfl (fun b2 w11 hn2 hS12=>?_)
     refine WL.store hS12 0 _ _ _ 0 _ [.int .i64 x2.a, .int .i64 x2.b] [.int .i64 x2.a, .int .i64 x2.b] _ rfl rfl Zs rfl (Nat.le_of_ble_eq_true rfl) rfl rfl rfl rfl rfl rfl (fun w12 hS13=>?_)
     obtain ⟨G10,hle10,hc5,hS14⟩:=hS13.shutB hn2
     refine dr [(3,true),(5,false),(6,false),(7,false),(8,false)] [(37,v5),(39, .agg #[.int .i64 x2.a, .int .i64 x2.b])] hS14 ⟨fun _ hSw=>Za hSw (XV.drop 0 (hc3.mono ((hle7.trans hle9).trans hle10))) Z9 rfl rfl rfl <| nu rfl rfl,fun _ hSw=>Zc hSw hc5 [.int .i64 x2.a, .int .i64 x2.b] Zs rfl rfl rfl rfl rfl <| nu rfl rfl,trivial⟩ (fun w13 hS15=>?_)
     refine Z3 hS15 ZdL rfl rfl rfl (Q0 hS15.imm x1.v _ (hs4.mono (((hle6.trans hle7).trans hle9).trans hle10))) (fun w14 G11 r3 hpost3 hS16 hle11=>?_)
     refine ⟨hS16.down hS15.le hle11,?_⟩
     refine WL.build _ [(0,[r3]),(1,[.int .i64 x2.a, .int .i64 x2.b])] [r3, .int .i64 x2.a, .int .i64 x2.b] Xl rfl ZlV rfl rfl (by show [(0,(r3 : Value).cells.toList),(1,(.agg #[.int .i64 x2.a, .int .i64 x2.b] : Value).cells.toList)] = _; simp only [hpost3.cells1] <;> rfl) rfl ?_
     refine WL.buildSlice _ [(0,[r3, .int .i64 x2.a, .int .i64 x2.b])] [r3, .int .i64 x2.a, .int .i64 x2.b] hS16 Ze9 rfl rfl rfl rfl (fun z hz=>by match z,hz with | [z0,z1,z2],_=>rfl) (fun b3 w15 hn3 hS17=>?_)
     refine WL.push (m:=([(Fact.mk x1.v x2)] : List Fact)) Ze9 rfl rfl rfl (hr3.mono (hle10.trans hle11)) hS17 1 rfl 0 _ _ _ _ _ rfl ⟨[r3, .int .i64 x2.a, .int .i64 x2.b],_,rfl,(ZdF (Fact.mk x1.v x2) hpost3 hb4 hb5),rfl⟩ rfl (by have hreach : reach = 140737488355328:=rfl; simp only [List.length_append,List.length_map,List.length_take,List.length_cons,List.length_nil]; omega) (by have hreach : reach = 140737488355328:=rfl; simp only [List.length_append,List.length_map,List.length_take,List.length_cons,List.length_nil]; omega) rfl rfl rfl (fun v9 o3 w16 hr5 hS18=>?_)
     have hS19:=hS18.tail
     refine Zj k2 (by have hreach : reach = 140737488355328:=rfl; omega) rfl rfl rfl ?_
     exact BK.mk' _ ⟨k2 + 1,v9,o3,G11,rfl,(hle9.trans (hle10.trans hle11)),hS19,(ZQ.cast hr5 (by (rw [YX ‹_›,List.append_assoc]))),⟨rfl,rfl,rfl,rfl,rfl,rfl,rfl,rfl,rfl,trivial⟩,(by omega)⟩ (show (ZB x1.t tx).length - (k2 + 1) < (ZB x1.t tx).length - k2 by omega)
    refine Zj k1 (by have hreach : reach = 140737488355328:=rfl; omega) rfl rfl rfl ?_
    exact BK.mk' _ ⟨k1 + 1,v7,o2,G9,rfl,(hle5.trans ((hle6.trans hle7).trans hle9)),hS11,(ZQ.cast hr3 (by (rw [ZkR ‹_›,Zee (by omega)]))),⟨rfl,rfl,rfl,rfl,rfl,trivial⟩,(by omega)⟩ (show (ZY t.rows).length - (k1 + 1) < (ZY t.rows).length - k1 by omega)
   obtain ⟨G12,hle12,hs6,hS20⟩:=ZQ.freeze hr1 hS5 0 rfl
   exact RT hS20 rfl (Sl.cast hs6 (by exact ZvK ‹_› ‹_› (by omega)))
  exact RT hS3 rfl (Sl.cast (Sl.nil Xj 40 G3) (by exact ZvJ ‹_›))
 exact RT hS2 rfl (Sl.cast (Sl.nil Xj 40 G2) (by exact ZvI ‹_›))
end Go.Civ
set_option linter.unusedVariables false
set_option linter.unusedSimpArgs false
set_option maxRecDepth 100000
set_option maxHeartbeats 4000000
namespace Go.Civ
open Go.Proofs
theorem ZfO {G : GH} {w : World} (hG : G.In w) (l : List HRow) (at_ tx : Int) (vl : Value) (hvl : Sl HRowE 56 G vl l) (hl : l.length ≤ 2000) : CL Tryz.prog (nat_lit 70) #[vl, .int .i64 at_, .int .i64 tx] [] w G fun G' _ r=>Sl (ValE.slice 32) 24 G' r (YC l at_ tx):=by
 refine Zg ft [] Tryz.func70 rfl rfl ?_
 have hS:=St.start (X:=[]) hG
 have hS2:=hS.pad
 refine LP.go ft [] (fun m ρ1 w1=>∃ (k1 : Nat),∃ (v1 : Value) (o1 : OB),∃ (G1 : GH),m = l.length - k1 ∧ G.le G1 ∧ St w [] G G1 [o1] w1 ∧ ZQ HRowE 56 37 G1 v1 (QV (l.take k1) at_ tx) o1 ∧ FR ρ1 [(0,vl),(1, .int .i64 at_),(2, .int .i64 tx),(7,v1),(8, .int .i64 (k1 : Int))] ∧ k1 ≤ l.length) _ ⟨0,(.slice none 0 0),none,G,rfl,(G.le_refl),hS2,(ZQ.cast (ZQ.nil HRowE 56 37 G) (by rfl)),⟨rfl,rfl,rfl,rfl,rfl,trivial⟩,(by omega)⟩ ?_
 rintro m ρ1 w1 ⟨k1,v1,o1,G1,rfl,hle1,hS1,hr1,hF9,f1⟩
 refine hF9.set ?_
 clear hF9
 have hhl:=ZnX l at_ tx k1
 have bd1:=hvl.bound
 refine Zi (hvl.mono hle1) Yc rfl rfl ?_
 refine Zl (k1 : Int) (l.length : Int) rfl rfl rfl (fun h1=>?_) (fun h1=>?_)
 ·refine WL.indexAddr (hvl.mono hle1) k1 (by omega) Yc Zr rfl rfl rfl rfl (fun p1 x1 hx1 he1=>?_)
  obtain ⟨cs1,hc1,hr2⟩:=he1
  obtain ⟨v2,rfl,hs1,hb1,hb2,hb3,hb4⟩:=Z0 hr2
  refine Zc hS1 (XV.drop 1 hc1) [.int .i64 x1.r.d.a, .int .i64 x1.r.d.b, .int .i64 x1.r.x.a, .int .i64 x1.r.x.b] ZaH rfl rfl rfl rfl rfl ?_
  refine WL.alloc hS1 ZaH rfl rfl (fun b1 w2 hn1 hS3=>?_)
  refine WL.store hS3 0 _ _ _ 0 _ [.int .i64 x1.r.d.a, .int .i64 x1.r.d.b, .int .i64 x1.r.x.a, .int .i64 x1.r.x.b] [.int .i64 x1.r.d.a, .int .i64 x1.r.d.b, .int .i64 x1.r.x.a, .int .i64 x1.r.x.b] _ rfl rfl ZaH rfl (Nat.le_of_ble_eq_true rfl) rfl rfl rfl rfl rfl rfl (fun w3 hS4=>?_)
  obtain ⟨G2,hle2,hc2,hS5⟩:=hS4.shutB hn1
  refine Za hS5 (XV.drop 0 (XV.drop 0 hc2)) Zn rfl rfl rfl ?_
  refine Qe x1.r.d.a at_ rfl rfl rfl (fun h2=>?_) (fun h2=>?_)
  ·refine Za hS5 (XV.drop 1 (XV.drop 0 hc2)) Zn rfl rfl rfl ?_
   refine Zl at_ x1.r.d.b rfl rfl rfl (fun h3=>?_) (fun h3=>?_)
   ·refine Za hS5 (XV.drop 0 (XV.drop 2 hc2)) Zn rfl rfl rfl ?_
    refine Qe x1.r.x.a tx rfl rfl rfl (fun h4=>?_) (fun h4=>?_)
    ·refine Za hS5 (XV.drop 1 (XV.drop 2 hc2)) Zn rfl rfl rfl ?_
     refine Zl tx x1.r.x.b rfl rfl rfl (fun h5=>?_) (fun h5=>?_)
     ·refine WL.indexAddr (hvl.mono (hle1.trans hle2)) k1 (by omega) Yc Zr rfl rfl rfl rfl (fun p2 x2 hx2 he2=>?_)
      obtain rfl : x1 = x2:=Option.some.inj (hx1.symm.trans hx2)
      obtain ⟨cs2,hc3,hr3⟩:=he2
      obtain ⟨v3,rfl,hs2,hb5,hb6,hb7,hb8⟩:=Z0 hr3
      refine Zc hS5 hc3 [v3, .int .i64 x1.r.d.a, .int .i64 x1.r.d.b, .int .i64 x1.r.x.a, .int .i64 x1.r.x.b] Zr rfl rfl rfl rfl rfl ?_
      refine WL.buildSlice _ [(0,[v3, .int .i64 x1.r.d.a, .int .i64 x1.r.d.b, .int .i64 x1.r.x.a, .int .i64 x1.r.x.b])] [v3, .int .i64 x1.r.d.a, .int .i64 x1.r.d.b, .int .i64 x1.r.x.a, .int .i64 x1.r.x.b] hS5 YK rfl rfl rfl rfl (fun z hz=>by match z,hz with | [z0,z1,z2,z3,z4],_=>rfl) (fun b2 w4 hn2 hS6=>?_)
      refine WL.push (m:=([x1] : List HRow)) YK rfl rfl rfl (hr1.mono hle2) hS6 1 rfl 0 _ _ _ _ _ rfl ⟨[v3, .int .i64 x1.r.d.a, .int .i64 x1.r.d.b, .int .i64 x1.r.x.a, .int .i64 x1.r.x.b],_,rfl,(ZH x1 hs2 hb5 hb6 hb7 hb8),rfl⟩ rfl (by have hreach : reach = 140737488355328:=rfl; simp only [List.length_append,List.length_map,List.length_cons,List.length_nil]; omega) (by have hreach : reach = 140737488355328:=rfl; simp only [List.length_append,List.length_map,List.length_cons,List.length_nil]; omega) rfl rfl rfl (fun v4 o2 w5 hr4 hS7=>?_)
      have hS8:=hS7.tail
      refine Zj k1 (by have hreach : reach = 140737488355328:=rfl; omega) rfl rfl rfl ?_
      exact BK.mk' _ ⟨k1 + 1,v4,o2,G2,rfl,(hle1.trans hle2),hS8,(ZQ.cast hr4 (by (exact (ZnW ‹_› ‹_› ‹_› ‹_› ‹_›).symm))),⟨rfl,rfl,rfl,rfl,rfl,trivial⟩,(by omega)⟩ (show l.length - (k1 + 1) < l.length - k1 by omega)
     refine Zj k1 (by have hreach : reach = 140737488355328:=rfl; omega) rfl rfl rfl ?_
     exact BK.mk' _ ⟨k1 + 1,v1,o1,G2,rfl,(hle1.trans hle2),hS5,(ZQ.cast (hr1.mono hle2) (by (exact (Zeg ‹_› (by omega)).symm))),⟨rfl,rfl,rfl,rfl,rfl,trivial⟩,(by omega)⟩ (show l.length - (k1 + 1) < l.length - k1 by omega)
    refine Zj k1 (by have hreach : reach = 140737488355328:=rfl; omega) rfl rfl rfl ?_
    exact BK.mk' _ ⟨k1 + 1,v1,o1,G2,rfl,(hle1.trans hle2),hS5,(ZQ.cast (hr1.mono hle2) (by (exact (Zeg ‹_› (by omega)).symm))),⟨rfl,rfl,rfl,rfl,rfl,trivial⟩,(by omega)⟩ (show l.length - (k1 + 1) < l.length - k1 by omega)
   refine Zj k1 (by have hreach : reach = 140737488355328:=rfl; omega) rfl rfl rfl ?_
   exact BK.mk' _ ⟨k1 + 1,v1,o1,G2,rfl,(hle1.trans hle2),hS5,(ZQ.cast (hr1.mono hle2) (by (exact (Zeg ‹_› (by omega)).symm))),⟨rfl,rfl,rfl,rfl,rfl,trivial⟩,(by omega)⟩ (show l.length - (k1 + 1) < l.length - k1 by omega)
  refine Zj k1 (by have hreach : reach = 140737488355328:=rfl; omega) rfl rfl rfl ?_
  exact BK.mk' _ ⟨k1 + 1,v1,o1,G2,rfl,(hle1.trans hle2),hS5,(ZQ.cast (hr1.mono hle2) (by (exact (Zeg ‹_› (by omega)).symm))),⟨rfl,rfl,rfl,rfl,rfl,trivial⟩,(by omega)⟩ (show l.length - (k1 + 1) < l.length - k1 by omega)
 obtain ⟨G3,hle3,hs3,hS9⟩:=ZQ.freeze hr1 hS1 0 rfl
 refine Z3 hS9 ZqZ rfl rfl rfl (Zk4 hS9.imm (QV (l.take k1) at_ tx) _ hs3 (by omega)) (fun w6 G4 r1 hpost1 hS10 hle4=>?_)
 exact RT hS10 rfl (Sl.cast hpost1 (by rw [List.take_of_length_le (by omega)]; rfl))
theorem Zr8 {G : GH} {w : World} (hG : G.In w) (l : List HRow) (tx : Int) (vl : Value) (hvl : Sl HRowE 56 G vl l) (hl : l.length ≤ 2000) : CL Tryz.prog (nat_lit 96) #[vl, .int .i64 tx] [] w G fun G' _ r=>Sl Xj 40 G' r (Yx l tx (Z8 l)):=by
 refine Zg ft [] Tryz.func96 rfl rfl ?_
 have hS:=St.start (X:=[]) hG
 refine Z3 hS ZqZ rfl rfl rfl (Zk4 hS.imm l _ hvl (by omega)) (fun w1 G1 r1 hpost1 hS1 hle1=>?_)
 have hS3:=hS1.pad
 refine LP.go ft [] (fun m ρ1 w1=>∃ (k1 : Nat),∃ (v1 : Value) (o1 : OB),∃ (G2 : GH),m = (Z8 l).length - k1 ∧ G1.le G2 ∧ St w [] G G2 [o1] w1 ∧ ZQ Xj 40 73 G2 v1 (Yx l tx ((Z8 l).take k1)) o1 ∧ FR ρ1 [(0,vl),(1, .int .i64 tx),(5,r1),(6,v1),(7, .int .i64 (k1 : Int))] ∧ k1 ≤ (Z8 l).length) _ ⟨0,(.slice none 0 0),none,G1,rfl,(G1.le_refl),hS3,(ZQ.cast (ZQ.nil Xj 40 73 G1) (by rfl)),⟨rfl,rfl,rfl,rfl,rfl,trivial⟩,(by omega)⟩ ?_
 rintro m ρ1 w2 ⟨k1,v1,o1,G2,rfl,hle2,hS2,hr1,hF9,f1⟩
 refine hF9.set ?_
 clear hF9
 have hrl:=Zkf (tx:=tx) hl k1
 have bd1:=hpost1.bound
 refine Zi (hpost1.mono hle2) X6 rfl rfl ?_
 refine Zl (k1 : Int) (((Z8 l).length : Nat) : Int) rfl rfl rfl (fun h1=>?_) (fun h1=>?_)
 ·refine WL.indexAddr (hpost1.mono hle2) k1 (by omega) X6 Z9 rfl rfl rfl rfl (fun p1 x1 hx1 he1=>?_)
  obtain ⟨cs1,hc1,hr2⟩:=he1
  obtain ⟨v2,rfl,hs1⟩:=hr2
  refine Za hS2 hc1 Z9 rfl rfl rfl ?_
  refine Z3 hS2 ZuG rfl rfl rfl (Zq2 hS2.imm l x1 tx _ (hvl.mono (hle1.trans hle2)) _ hs1 hl) (fun w3 G3 r2 hpost2 hS4 hle3=>?_)
  refine LP.go ft [] (fun m ρ1 w1=>∃ (k2 : Nat),∃ (v3 : Value) (o2 : OB),∃ (G4 : GH),m = (Xt l x1 tx).length - k2 ∧ G3.le G4 ∧ St w [] G G4 [o2] w1 ∧ ZQ Xj 40 73 G4 v3 (Yx l tx ((Z8 l).take k1) ++ ((Xt l x1 tx).take k2).map (Fact.mk x1)) o2 ∧ FR ρ1 [(0,vl),(1, .int .i64 tx),(5,r1),(6,v3),(7, .int .i64 (k1 : Int)),(8,r2),(9, .int .i64 (k2 : Int))] ∧ k2 ≤ (Xt l x1 tx).length) _ ⟨0,v1,o1,G3,rfl,(G3.le_refl),hS4,(ZQ.cast (hr1.mono hle3) (by simp)),⟨rfl,rfl,rfl,rfl,rfl,rfl,rfl,trivial⟩,(by omega)⟩ ?_
  rintro m ρ1 w4 ⟨k2,v3,o2,G4,rfl,hle4,hS5,hr3,hF9,f2⟩
  refine hF9.set ?_
  clear hF9
  have htl:=Zhd l x1 tx
  have htk:=List.length_take_le' k2 (Xt l x1 tx)
  have bd2:=hpost2.bound
  refine Zi (hpost2.mono hle4) Yd rfl rfl ?_
  refine Zl (k2 : Int) (((Xt l x1 tx).length : Nat) : Int) rfl rfl rfl (fun h2=>?_) (fun h2=>?_)
  ·obtain ⟨p2,x2,hx2,he2,ep1⟩:=Sl.at (hpost1.mono ((hle2.trans hle3).trans hle4)) k1 (by omega)
   obtain rfl : x1 = x2:=Option.some.inj (hx1.symm.trans hx2)
   obtain ⟨cs2,hc2,hr4⟩:=he2
   obtain ⟨v4,rfl,hs2⟩:=hr4
   obtain ⟨p3,x3,hx3,he3,ep2⟩:=Sl.at (hpost2.mono hle4) k2 (by omega)
   obtain ⟨cs3,hc3,hr5⟩:=he3
   obtain ⟨rfl,hb1,hb2⟩:=Z6 hr5
   refine dr [(10,false),(11,false),(12,false)] [(34, .pointer (some p2)),(35,v4),(38, .pointer (some p3)),(39, .agg #[.int .i64 x3.a, .int .i64 x3.b]),(40, .agg #[v4, .int .i64 x3.a, .int .i64 x3.b])] hS5 ⟨fun _=>Ze k1 ep1 X6 Z9 rfl rfl rfl rfl <| nu rfl rfl,fun _ hSw=>Za hSw hc2 Z9 rfl rfl rfl <| nu rfl rfl,fun _=>Ze k2 ep2 Yd Zs rfl rfl rfl rfl <| nu rfl rfl,fun _ hSw=>Zc hSw hc3 [.int .i64 x3.a, .int .i64 x3.b] Zs rfl rfl rfl rfl rfl <| nu rfl rfl,fun _=>WL.build _ [(0,[v4]),(1,[.int .i64 x3.a, .int .i64 x3.b])] [v4, .int .i64 x3.a, .int .i64 x3.b] Xl rfl ZlV rfl rfl (by show [(0,(v4 : Value).cells.toList),(1,(.agg #[.int .i64 x3.a, .int .i64 x3.b] : Value).cells.toList)] = _; simp only [hs2.cells1] <;> rfl) rfl <| nu rfl rfl,trivial⟩ (fun w5 hS6=>?_)
   refine WL.buildSlice _ [(0,[v4, .int .i64 x3.a, .int .i64 x3.b])] [v4, .int .i64 x3.a, .int .i64 x3.b] hS6 Ze9 rfl rfl rfl rfl (fun z hz=>by match z,hz with | [z0,z1,z2],_=>rfl) (fun b1 w6 hn1 hS7=>?_)
   refine WL.push (m:=([(Fact.mk x1 x3)] : List Fact)) Ze9 rfl rfl rfl hr3 hS7 1 rfl 0 _ _ _ _ _ rfl ⟨[v4, .int .i64 x3.a, .int .i64 x3.b],_,rfl,(ZdF (Fact.mk x1 x3) hs2 hb1 hb2),rfl⟩ rfl (by have hreach : reach = 140737488355328:=rfl; simp only [List.length_append,List.length_map,List.length_cons,List.length_nil]; omega) (by have hreach : reach = 140737488355328:=rfl; simp only [List.length_append,List.length_map,List.length_cons,List.length_nil]; omega) rfl rfl rfl (fun v5 o3 w7 hr6 hS8=>?_)
   have hS9:=hS8.tail
   refine Zj k2 (by have hreach : reach = 140737488355328:=rfl; omega) rfl rfl rfl ?_
   exact BK.mk' _ ⟨k2 + 1,v5,o3,G4,rfl,hle4,hS9,(ZQ.cast hr6 (by (rw [YX ‹_›,List.append_assoc]))),⟨rfl,rfl,rfl,rfl,rfl,rfl,rfl,trivial⟩,(by omega)⟩ (show (Xt l x1 tx).length - (k2 + 1) < (Xt l x1 tx).length - k2 by omega)
  refine Zj k1 (by have hreach : reach = 140737488355328:=rfl; omega) rfl rfl rfl ?_
  exact BK.mk' _ ⟨k1 + 1,v3,o2,G4,rfl,(hle2.trans (hle3.trans hle4)),hS5,(ZQ.cast hr3 (by (rw [ZnY ‹_›,Zee (by omega)]))),⟨rfl,rfl,rfl,rfl,rfl,trivial⟩,(by omega)⟩ (show (Z8 l).length - (k1 + 1) < (Z8 l).length - k1 by omega)
 obtain ⟨G5,hle5,hs3,hS10⟩:=ZQ.freeze hr1 hS2 0 rfl
 exact RT hS10 rfl (Sl.cast hs3 (by rw [List.take_of_length_le (by omega)]))
end Go.Civ
