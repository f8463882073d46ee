/- Lemmas. -/
import Derived.Test.YthgeclodflmiaaaGreatC16
import Derived.Test.YthgeclodflmiaaaGreatC21
import Derived.Test.YthgeclodflmiaaaGreatC26
import Derived.Test.YthgeclodflmiaaaGreatC27
import Derived.Test.YthgeclodflmiaaaGreatC28
import Derived.Test.YthgeclodflmiaaaGreatProg
import Derived.KernelRfl
import Derived.WalkKit
set_option linter.unusedVariables false
namespace Go.Civ
open Go.Proofs Go.Shelf Go.RowKit Go.Lib Go.Sort
theorem ZrZ {G : GH} {w : World} (hG : G.In w) (l : List Pt) (vd : Value) (od : OB) (hvd : Yb PtE 40 (nat_lit 105) G vd l od) (hod : Zat w G od) (hV : VP l) :
  Calls Tryz.prog (nat_lit 116) #[vd, .func (.func 117) #[] #[]] w fun e w'=>∃ r G',e = .returned r ∧ Res (blk od) w G w' G' ∧ r = .tuple #[] ∧ ∃ (l' : List Pt) (o' : OB),Yb PtE 40 (nat_lit 105) G' vd l' o' ∧ Zat w' G' o' ∧ (l'.Perm l ∧ l'.Pairwise fun x y=>¬ XT y x < 0):=
 Zlq Tryz.sortPt (E:=PtE) (by decide) Tryz.isAgg105 Tryz.sizeOf105 XT (fun p=>p.v.all ZK = true)
  (fun x hx=>by rw [Q5 hx hx,QB.refl]; omega)
  (fun x y z hx hy hz p q=>by rw [Q5 hx hy] at p; rw [Q5 hy hz] at q; rw [Q5 hx hz]; exact QB.trans _ _ _ p q)
  (fun x y z hx hy hz p q=>by rw [Q5 hx hy] at p; rw [Q5 hy hz] at q; rw [Q5 hx hz]; exact QB.le_trans q p)
  117 (enters_of Tryz.func117 (by kernel_rfl) rfl) hG (fun W hW x y cx cy hx hy rx ry=>Zga hW x y cx rx cy ry)
  ZgV _ (XF (v:= .slice none 0 0) ZgV Yl Yl (Sl.nil _ _ _)) rfl l hV vd od hvd hod
end Go.Civ
set_option linter.unusedVariables false
set_option linter.unusedSimpArgs false
set_option maxRecDepth 100000
set_option maxHeartbeats 4000000
namespace Go.Civ
open Go.Proofs
theorem Zm7 {G : GH} {w : World} (hG : G.In w) (t : Table) (at_ tx : Int) (ct : List Value) (hct : TableE.rep G t ct) : CL Tryz.prog (nat_lit 23) #[.agg ct.toArray, .int .i64 at_, .int .i64 tx] [] w G fun G' _ r=>Sl (ValE.slice 32) 24 G' r (Y7 t at_ tx):=by
 refine Zh ft [] Tryz.func23 rfl rfl ?_
 have hS:=St.start (X:=[]) hG
 obtain ⟨v1,v2,v3,rfl,hb1,hs1,hb2,hs2,hs3,hb3⟩:=Z0 hct
 refine Z3 [Zc t.s.name,v1, .int .i64 t.s.key,v2,v3, .int .i64 t.last] _ hS rfl rfl rfl (fun p1 w1 G1 hle1 hsp1 hc1 hS1=>?_)
 refine Zd hS1 hc1 [Zc t.s.name,v1, .int .i64 t.s.key,v2,v3, .int .i64 t.last] Zp rfl rfl rfl rfl rfl ?_
 refine Zn hS1 Qg rfl rfl rfl (ZbK hS1.imm t _ (Zs t hb1 (hs1.mono hle1) hb2 (hs2.mono hle1) (hs3.mono hle1) hb3)) (fun w2 G2 hS2 hle2=>?_)
 refine WL.split (fun (h1 : (Zy t) = true)=>?_) (fun (h1 : (Zy t) = false)=>?_)
 ·refine Zn hS2 ZlX rfl rfl rfl (Zdm hS2.imm at_) (fun w3 G3 hS3 hle3=>?_)
  refine WL.split (fun (h2 : (Yt at_) = true)=>?_) (fun (h2 : (Yt at_) = false)=>?_)
  ·refine Zn hS3 ZlX rfl rfl rfl (Zdm hS3.imm tx) (fun w4 G4 hS4 hle4=>?_)
   refine WL.split (fun (h3 : (Yt tx) = true)=>?_) (fun (h3 : (Yt tx) = false)=>?_)
   ·obtain ⟨hg9,hn9,h89,_⟩:=ZW (by assumption : Zy t = true)
    have hgl:=@ZcL t.rows
    refine Za hS4 (XL.drop 4 (hc1.mono ((hle2.trans hle3).trans hle4))) YJ rfl rfl rfl ?_
    refine Z8 hS4 ZlY rfl rfl rfl (Zen hS4.imm t.rows _ (hs3.mono (((hle1.trans hle2).trans hle3).trans hle4)) hg9 (ZjR h89) (Nat.le_trans hn9 (by decide))) (fun w5 G5 r1 hpost1 hS5 hle5=>?_)
    have bd1:=hpost1.bound
    refine Zl hpost1 Zaj rfl rfl ?_
    have hS7:=hS5.pad
    refine LP.go ft [] (fun m ρ1 w1=>∃ (k1 : Nat),∃ (v4 : Value) (o1 : OB),∃ (G6 : GH),m = (Yo t.rows).length - k1 ∧ G5.le G6 ∧ St w [] G G6 [o1] w1 ∧ Yb (ValE.slice 32) 24 31 G6 v4 (ZbS ((Yo t.rows).take k1) at_ tx) o1 ∧ FR ρ1 [(1, .int .i64 at_),(2, .int .i64 tx),(7,v4),(25,r1),(26, .int .i64 (((Yo t.rows).length : Nat) : Int)),(27, .int .i64 (k1 : Int))] ∧ k1 ≤ (Yo t.rows).length) _ ⟨0,(.slice none 0 0),none,G5,rfl,(G5.le_refl),hS7,(Yb.cast (Yb.nil (ValE.slice 32) 24 31 G5) (by rfl)),⟨rfl,rfl,rfl,rfl,rfl,rfl,trivial⟩,(by omega)⟩ ?_
    rintro m ρ1 w6 ⟨k1,v4,o1,G6,rfl,hle6,hS6,hr1,hF9,f1⟩
    refine hF9.set ?_
    clear hF9
    have hsl:=ZnK (Yo t.rows) k1 at_ tx
    refine Zm (k1 : Int) (((Yo t.rows).length : Nat) : Int) rfl rfl rfl (fun h4=>?_) (fun h4=>?_)
    ·refine WL.indexAddr (hpost1.mono hle6) k1 (by omega) Zaj X7 rfl rfl rfl rfl (fun p2 x1 hx1 he1=>?_)
     obtain ⟨cs1,hc2,hr2⟩:=he1
     obtain ⟨v5,v6,rfl,hs4,hs5⟩:=QU hr2
     refine Zd hS6 hc2 [v5,v6] X7 rfl rfl rfl rfl rfl ?_
     refine WL.alloc hS6 X7 rfl rfl (fun b1 w7 hn1 hS8=>?_)
     refine WL.store hS8 0 _ _ _ 0 _ [v5,v6] [v5,v6] _ rfl rfl X7 rfl (Nat.le_of_ble_eq_true rfl) (by simp only [List.all_cons,List.all_nil,hs4.oneC,hs5.oneC,Bool.true_and] <;> rfl) rfl rfl rfl rfl rfl (fun w9 hS9=>?_)
     obtain ⟨G7,hle7,hc3,hS10⟩:=hS9.shutB hn1
     have hok9:=Zfu hg9 (Nat.le_trans hn9 (by decide)) (by assumption : (Yo t.rows)[k1]? = some _)
     refine Za hS10 (XL.drop 1 hc3) YJ rfl rfl rfl ?_
     refine Z8 hS10 Zpk rfl rfl rfl (ZfW hS10.imm x1.t tx _ (hs5.mono hle7) hok9.1 hok9.2) (fun w10 G9 r2 hpost2 hS11 hle9=>?_)
     refine Zn hS11 Zvi rfl rfl rfl (ZnC hS11.imm (ZI x1.t tx) at_ _ hpost2 (Zbw hok9.1 _) (ZpE hok9.1 _) (Nat.le_trans (Zcq _ _) hok9.2)) (fun w11 G10 hS12 hle10=>?_)
     refine WL.split (fun (h5 : (YY (ZI x1.t tx) at_) = true)=>?_) (fun (h5 : (YY (ZI x1.t tx) at_) = false)=>?_)
     ·refine Za hS12 (XL.drop 0 (hc3.mono (hle9.trans hle10))) ZN rfl rfl rfl ?_
      refine Z8 hS12 ZeC rfl rfl rfl (QP hS12.imm x1.v _ (hs4.mono ((hle7.trans hle9).trans hle10))) (fun w12 G11 r3 hpost3 hS13 hle11=>?_)
      refine WL.buildSlice _ [(0,[r3])] [r3] hS13 Qr rfl rfl rfl (by show [(0,(r3 : Value).cells.toList)] = _; simp only [hpost3.cells1] <;> rfl) (fun z hz=>by match z,hz with | [z0],_=>rfl) (fun b2 w13 hn2 hS14=>?_)
      refine WL.push (m:=([x1.v] : List (List Val))) Qr rfl rfl rfl (hr1.mono (((hle7.trans hle9).trans hle10).trans hle11)) hS14 1 rfl 0 _ _ _ _ _ rfl ⟨[r3],_,rfl,⟨_,rfl,hpost3⟩,rfl⟩ rfl (by have hreach : reach = 140737488355328:=rfl; simp only [List.length_append,List.length_cons,List.length_nil]; omega) (by have hreach : reach = 140737488355328:=rfl; simp only [List.length_append,List.length_cons,List.length_nil]; omega) rfl rfl rfl (fun v7 o2 w14 hr3 hS15=>?_)
      have hS16:=hS15.tail
      refine Zj k1 (by have hreach : reach = 140737488355328:=rfl; omega) rfl rfl rfl ?_
      exact BK.mk' _ ⟨k1 + 1,v7,o2,G11,rfl,(hle6.trans (((hle7.trans hle9).trans hle10).trans hle11)),hS16,(Yb.cast hr3 (by (exact (ZnJ ‹_› ‹_›).symm))),⟨rfl,rfl,rfl,rfl,rfl,rfl,trivial⟩,(by omega)⟩ (show (Yo t.rows).length - (k1 + 1) < (Yo t.rows).length - k1 by omega)
     refine Zj k1 (by have hreach : reach = 140737488355328:=rfl; omega) rfl rfl rfl ?_
     exact BK.mk' _ ⟨k1 + 1,v4,o1,G10,rfl,(hle6.trans ((hle7.trans hle9).trans hle10)),hS12,(Yb.cast (hr1.mono ((hle7.trans hle9).trans hle10)) (by (exact (ZpN ‹_› ‹_›).symm))),⟨rfl,rfl,rfl,rfl,rfl,rfl,trivial⟩,(by omega)⟩ (show (Yo t.rows).length - (k1 + 1) < (Yo t.rows).length - k1 by omega)
    obtain ⟨G12,hle12,hs6,hS17⟩:=Yb.freeze hr1 hS6 0 rfl
    exact RT hS17 rfl (Sl.cast hs6 (by exact Ztw ‹_› ‹_› ‹_› (by omega)))
   exact RT hS4 rfl (Sl.cast (Sl.nil (ValE.slice 32) 24 G4) (by exact Ztv ‹_›))
  exact RT hS3 rfl (Sl.cast (Sl.nil (ValE.slice 32) 24 G3) (by exact Ztu ‹_›))
 exact RT hS2 rfl (Sl.cast (Sl.nil (ValE.slice 32) 24 G2) (by exact Ztt ‹_›))
theorem ZuM {G : GH} {w : World} (hG : G.In w) (t : Table) (tx : Int) (ct : List Value) (hct : TableE.rep G t ct) : CL Tryz.prog (nat_lit 57) #[.agg ct.toArray, .int .i64 tx] [] w G fun G' _ r=>Sl ZcW 40 G' r (atH t tx):=by
 refine Zh ft [] Tryz.func57 rfl rfl ?_
 have hS:=St.start (X:=[]) hG
 obtain ⟨v1,v2,v3,rfl,hb1,hs1,hb2,hs2,hs3,hb3⟩:=Z0 hct
 refine Z3 [Zc t.s.name,v1, .int .i64 t.s.key,v2,v3, .int .i64 t.last] _ hS rfl rfl rfl (fun p1 w1 G1 hle1 hsp1 hc1 hS1=>?_)
 refine Zd hS1 hc1 [Zc t.s.name,v1, .int .i64 t.s.key,v2,v3, .int .i64 t.last] Zp rfl rfl rfl rfl rfl ?_
 refine Zn hS1 Qg rfl rfl rfl (ZbK hS1.imm t _ (Zs t hb1 (hs1.mono hle1) hb2 (hs2.mono hle1) (hs3.mono hle1) hb3)) (fun w2 G2 hS2 hle2=>?_)
 refine WL.split (fun (h1 : (Zy t) = true)=>?_) (fun (h1 : (Zy t) = false)=>?_)
 ·refine Zn hS2 ZlX rfl rfl rfl (Zdm hS2.imm tx) (fun w3 G3 hS3 hle3=>?_)
  refine WL.split (fun (h2 : (Yt tx) = true)=>?_) (fun (h2 : (Yt tx) = false)=>?_)
  ·obtain ⟨hg9,hn9,h89,_⟩:=ZW (by assumption : Zy t = true)
   have hgl:=@ZcL t.rows
   refine Za hS3 (XL.drop 4 (hc1.mono (hle2.trans hle3))) YJ rfl rfl rfl ?_
   refine Z8 hS3 ZlY rfl rfl rfl (Zen hS3.imm t.rows _ (hs3.mono ((hle1.trans hle2).trans hle3)) hg9 (ZjR h89) (Nat.le_trans hn9 (by decide))) (fun w4 G4 r1 hpost1 hS4 hle4=>?_)
   have bd1:=hpost1.bound
   refine Zl hpost1 Zaj rfl rfl ?_
   have hS6:=hS4.pad
   refine LP.go ft [] (fun m ρ1 w1=>∃ (k1 : Nat),∃ (v4 : Value) (o1 : OB),∃ (G5 : GH),m = (Yo t.rows).length - k1 ∧ G4.le G5 ∧ St w [] G G5 [o1] w1 ∧ Yb ZcW 40 73 G5 v4 (ZaW ((Yo t.rows).take k1) tx) o1 ∧ FR ρ1 [(1, .int .i64 tx),(5,v4),(20,r1),(21, .int .i64 (((Yo t.rows).length : Nat) : Int)),(22, .int .i64 (k1 : Int))] ∧ k1 ≤ (Yo t.rows).length) _ ⟨0,(.slice none 0 0),none,G4,rfl,(G4.le_refl),hS6,(Yb.cast (Yb.nil ZcW 40 73 G4) (by rfl)),⟨rfl,rfl,rfl,rfl,rfl,trivial⟩,(by omega)⟩ ?_
   rintro m ρ1 w5 ⟨k1,v4,o1,G5,rfl,hle5,hS5,hr1,hF9,f1⟩
   refine hF9.set ?_
   clear hF9
   have hfl:=Zh3 (k:=k1) (tx:=tx) hn9
   refine Zm (k1 : Int) (((Yo t.rows).length : Nat) : Int) rfl rfl rfl (fun h3=>?_) (fun h3=>?_)
   ·refine WL.indexAddr (hpost1.mono hle5) k1 (by omega) Zaj X7 rfl rfl rfl rfl (fun p2 x1 hx1 he1=>?_)
    obtain ⟨cs1,hc2,hr2⟩:=he1
    obtain ⟨v5,v6,rfl,hs4,hs5⟩:=QU hr2
    refine Zd hS5 hc2 [v5,v6] X7 rfl rfl rfl rfl rfl ?_
    refine WL.alloc hS5 X7 rfl rfl (fun b1 w6 hn1 hS7=>?_)
    refine WL.store hS7 0 _ _ _ 0 _ [v5,v6] [v5,v6] _ rfl rfl X7 rfl (Nat.le_of_ble_eq_true rfl) (by simp only [List.all_cons,List.all_nil,hs4.oneC,hs5.oneC,Bool.true_and] <;> rfl) rfl rfl rfl rfl rfl (fun w7 hS8=>?_)
    obtain ⟨G6,hle6,hc3,hS9⟩:=hS8.shutB hn1
    have hok9:=Zfu hg9 (Nat.le_trans hn9 (by decide)) (by assumption : (Yo t.rows)[k1]? = some _)
    refine Za hS9 (XL.drop 1 hc3) YJ rfl rfl rfl ?_
    refine Z8 hS9 Zpk rfl rfl rfl (ZfW hS9.imm x1.t tx _ (hs5.mono hle6) hok9.1 hok9.2) (fun w9 G7 r2 hpost2 hS10 hle7=>?_)
    have bd2:=hpost2.bound
    refine Zl hpost2 YN rfl rfl ?_
    refine LP.go ft [] (fun m ρ1 w1=>∃ (k2 : Nat),∃ (v7 : Value) (o2 : OB),∃ (G9 : GH),m = (ZI x1.t tx).length - k2 ∧ G7.le G9 ∧ St w [] G G9 [o2] w1 ∧ Yb ZcW 40 73 G9 v7 (ZaW ((Yo t.rows).take k1) tx ++ ((ZI x1.t tx).take k2).map (Fact.mk x1.v)) o2 ∧ FR ρ1 [(1, .int .i64 tx),(5,v7),(7, .pointer (some (⟨b1,0,none⟩ : Addr))),(20,r1),(21, .int .i64 (((Yo t.rows).length : Nat) : Int)),(22, .int .i64 (k1 : Int)),(29,r2),(30, .int .i64 (((ZI x1.t tx).length : Nat) : Int)),(31, .int .i64 (k2 : Int))] ∧ k2 ≤ (ZI x1.t tx).length) _ ⟨0,v4,o1,G7,rfl,(G7.le_refl),hS10,(Yb.cast (hr1.mono (hle6.trans hle7)) (by simp)),⟨rfl,rfl,rfl,rfl,rfl,rfl,rfl,rfl,rfl,trivial⟩,(by omega)⟩ ?_
    rintro m ρ1 w10 ⟨k2,v7,o2,G9,rfl,hle9,hS11,hr3,hF9,f2⟩
    refine hF9.set ?_
    clear hF9
    have htl:=Nat.le_trans (Zcq x1.t tx) hok9.2
    refine Zm (k2 : Int) (((ZI x1.t tx).length : Nat) : Int) rfl rfl rfl (fun h4=>?_) (fun h4=>?_)
    ·refine WL.indexAddr (hpost2.mono hle9) k2 (by omega) YN Zz rfl rfl rfl rfl (fun p3 x2 hx2 he2=>?_)
     obtain ⟨cs2,hc4,hr4⟩:=he2
     obtain ⟨rfl,hb4,hb5⟩:=ZP hr4
     refine Zd hS11 hc4 [.int .i64 x2.a, .int .i64 x2.b] Zz rfl rfl rfl rfl rfl ?_
     refine WL.alloc hS11 Zz rfl rfl (fun b2 w11 hn2 hS12=>?_)
     refine WL.store hS12 0 _ _ _ 0 _ [.int .i64 x2.a, .int .i64 x2.b] [.int .i64 x2.a, .int .i64 x2.b] _ rfl rfl Zz rfl (Nat.le_of_ble_eq_true rfl) rfl rfl rfl rfl rfl rfl (fun w12 hS13=>?_)
     obtain ⟨G10,hle10,hc5,hS14⟩:=hS13.shutB hn2
     refine dr [(3,true),(5,false),(6,false),(7,false),(8,false)] [(37,v5),(39, .agg #[.int .i64 x2.a, .int .i64 x2.b])] hS14 ⟨fun _ hSw=>Za hSw (XL.drop 0 (hc3.mono ((hle7.trans hle9).trans hle10))) ZN rfl rfl rfl <| nu rfl rfl,fun _ hSw=>Zd hSw hc5 [.int .i64 x2.a, .int .i64 x2.b] Zz rfl rfl rfl rfl rfl <| nu rfl rfl,trivial⟩ (fun w13 hS15=>?_)
     refine Z8 hS15 ZeC rfl rfl rfl (QP hS15.imm x1.v _ (hs4.mono (((hle6.trans hle7).trans hle9).trans hle10))) (fun w14 G11 r3 hpost3 hS16 hle11=>?_)
     refine ⟨hS16.down hS15.le hle11,?_⟩
     refine WL.build _ [(0,[r3]),(1,[.int .i64 x2.a, .int .i64 x2.b])] [r3, .int .i64 x2.a, .int .i64 x2.b] ZlM rfl Zvf rfl rfl (by show [(0,(r3 : Value).cells.toList),(1,(.agg #[.int .i64 x2.a, .int .i64 x2.b] : Value).cells.toList)] = _; simp only [hpost3.cells1] <;> rfl) rfl ?_
     refine WL.buildSlice _ [(0,[r3, .int .i64 x2.a, .int .i64 x2.b])] [r3, .int .i64 x2.a, .int .i64 x2.b] hS16 ZsD rfl rfl rfl rfl (fun z hz=>by match z,hz with | [z0,z1,z2],_=>rfl) (fun b3 w15 hn3 hS17=>?_)
     refine WL.push (m:=([(Fact.mk x1.v x2)] : List Fact)) ZsD rfl rfl rfl (hr3.mono (hle10.trans hle11)) hS17 1 rfl 0 _ _ _ _ _ rfl ⟨[r3, .int .i64 x2.a, .int .i64 x2.b],_,rfl,(ZoN (Fact.mk x1.v x2) hpost3 hb4 hb5),rfl⟩ rfl (by have hreach : reach = 140737488355328:=rfl; simp only [List.length_append,List.length_map,List.length_take,List.length_cons,List.length_nil]; omega) (by have hreach : reach = 140737488355328:=rfl; simp only [List.length_append,List.length_map,List.length_take,List.length_cons,List.length_nil]; omega) rfl rfl rfl (fun v9 o3 w16 hr5 hS18=>?_)
     have hS19:=hS18.tail
     refine Zj k2 (by have hreach : reach = 140737488355328:=rfl; omega) rfl rfl rfl ?_
     exact BK.mk' _ ⟨k2 + 1,v9,o3,G11,rfl,(hle9.trans (hle10.trans hle11)),hS19,(Yb.cast hr5 (by (rw [YC ‹_›,List.append_assoc]))),⟨rfl,rfl,rfl,rfl,rfl,rfl,rfl,rfl,rfl,trivial⟩,(by omega)⟩ (show (ZI x1.t tx).length - (k2 + 1) < (ZI x1.t tx).length - k2 by omega)
    refine Zj k1 (by have hreach : reach = 140737488355328:=rfl; omega) rfl rfl rfl ?_
    exact BK.mk' _ ⟨k1 + 1,v7,o2,G9,rfl,(hle5.trans ((hle6.trans hle7).trans hle9)),hS11,(Yb.cast hr3 (by (rw [ZkJ ‹_›,ZpO (by omega)]))),⟨rfl,rfl,rfl,rfl,rfl,trivial⟩,(by omega)⟩ (show (Yo t.rows).length - (k1 + 1) < (Yo t.rows).length - k1 by omega)
   obtain ⟨G12,hle12,hs6,hS20⟩:=Yb.freeze hr1 hS5 0 rfl
   exact RT hS20 rfl (Sl.cast hs6 (by exact Zv5 ‹_› ‹_› (by omega)))
  exact RT hS3 rfl (Sl.cast (Sl.nil ZcW 40 G3) (by exact Zv4 ‹_›))
 exact RT hS2 rfl (Sl.cast (Sl.nil ZcW 40 G2) (by exact Zv3 ‹_›))
end Go.Civ
namespace Go.Civ
open Go.RowKit
set_option linter.unusedVariables false
def Qk (t : Table) (e : Int) : Table:=if e = 0 then (if (Zq t).isSome then noT else t) else noT
def Zcj (t : Table) (e : Int) : Int:=if e = 0 then (if (Zq t).isSome then 14 else 0) else e
section
variable {t : Table} {e : Int}
theorem Zrh (h : e ≠ 0) : noT = Qk t e ∧ e = Zcj t e:=by unfold Qk Zcj; rw [if_neg h,if_neg h]; exact ⟨rfl,rfl⟩
theorem Zri (h : e = 0) (h2 : (Zq t).isSome = true) : noT = Qk t e ∧ 14 = Zcj t e:=by unfold Qk Zcj; rw [if_pos h,if_pos h,h2]; exact ⟨rfl,rfl⟩
theorem Zrj (h : e = 0) (h2 : (Zq t).isSome = false) : t = Qk t e ∧ 0 = Zcj t e:=by unfold Qk Zcj; rw [if_pos h,if_pos h,h2]; exact ⟨rfl,rfl⟩
end
def Z2 (t : Table) (tx : Int) (v : List Val) (d : Span) : Table:=if Xt t then Qk (ZR t tx v d) (Y6 t tx v d) else noT
def Zaa (t : Table) (tx : Int) (v : List Val) (d : Span) : Int:=if Xt t then Zcj (ZR t tx v d) (Y6 t tx v d) else 1
section
variable {t : Table} {tx : Int} {v set : List Val} {d : Span} {k : Nat} {c : Cond} {mask : List Bool}
theorem Zoo (h : Xt t = false) : noT = Z2 t tx v d ∧ 1 = Zaa t tx v d:=by unfold Z2 Zaa; rw [h]; exact ⟨rfl,rfl⟩
theorem Zhb (h : Xt t = true) : Qk (ZR t tx v d) (Y6 t tx v d) = Z2 t tx v d ∧ Zcj (ZR t tx v d) (Y6 t tx v d) = Zaa t tx v d:=by unfold Z2 Zaa; rw [h]; exact ⟨rfl,rfl⟩
theorem Zop (h : Y6 t tx v d = 0) : Zy (ZR t tx v d) = true:=(ZeV h).new.valid
end
theorem Zoq {t : Table} (h : Zy t = false) : HRow.mk [] (Rect.mk (Span.mk 0 0) (Span.mk 0 0)) = QY t ∧ false = Xt t:=by unfold QY Xt; rw [h]; exact ⟨rfl,rfl⟩
theorem Zor {t : Table} (h : Zy t = true) (h2 : (Zq t).isSome = true) : ZH (some (ZY (Zq t))) = QY t ∧ false = Xt t:=by
 unfold QY Xt; rw [h]
 cases e : Zq t with
 | none=>rw [e] at h2; cases h2
 | some p=>exact ⟨rfl,rfl⟩
theorem Zos {t : Table} (h : Zy t = true) (h2 : (Zq t).isSome = false) : HRow.mk [] (Rect.mk (Span.mk 0 0) (Span.mk 0 0)) = QY t ∧ true = Xt t:=by
 unfold QY Xt; rw [h]
 cases e : Zq t with
 | none=>exact ⟨rfl,rfl⟩
 | some p=>rw [e] at h2; cases h2
theorem Zhc {t : Table} (hv : Zy t = true) (h : (Zq t).isSome = true) : Yt (ZY (Zq t)).tx = true ∧ Yt (ZY (Zq t)).vd = true:=by
 by_cases e : Xh t.s.key.toNat t.rows = []
 ·rw [ZgY e] at h; cases h
 ·have hm:=Zcw (ZgW (k:=t.s.key.toNat) (ZW hv).1) e
  unfold Zq
  rw [Zcx e]
  have h9:=Zin hv hm.1
  exact h9
def Zg (nm : List UInt8) : List Val:=[⟨1,1,[]⟩,⟨2,0,nm⟩]
abbrev Qq : Schema:=⟨[112,101,111,112,108,101],[⟨[105,100],1⟩,⟨[110,97,109,101],2⟩],1,[]⟩
def peopR : List HRow:=[⟨Zg [97],⟨⟨0,10⟩,⟨5,253402300800⟩⟩⟩]
def Zx : Table:=⟨Qq,peopR,5⟩
def peopR2 : List HRow:=[⟨Zg [97],⟨⟨0,10⟩,⟨5,253402300800⟩⟩⟩,⟨Zg [98],⟨⟨5,20⟩,⟨6,253402300800⟩⟩⟩]
def peopR3 : List HRow:=[⟨Zg [97],⟨⟨0,10⟩,⟨5,6⟩⟩⟩,⟨Zg [97],⟨⟨0,5⟩,⟨6,253402300800⟩⟩⟩,⟨Zg [98],⟨⟨5,20⟩,⟨6,253402300800⟩⟩⟩]
theorem Zt1 : Yu Qq = true:=by decide
theorem Zh9 : Z9 Qq = ⟨Qq,[], -62135596801⟩ ∧ ZbI Qq = 0:=ZpR Zt1
theorem Zrk : Zy ⟨Qq,[], -62135596801⟩ = true:=by rw [← Zh9.1]; exact Zmy Zt1
theorem Zt2 : ZZ (QL ⟨Qq,[], -62135596801⟩ 5 (Zg [97]) ⟨0,10⟩) = peopR:=by rw [ZdC (Zmz (by decide))]; decide
theorem Zlu : ZR ⟨Qq,[], -62135596801⟩ 5 (Zg [97]) ⟨0,10⟩ = Zx ∧ Y6 ⟨Qq,[], -62135596801⟩ 5 (Zg [97]) ⟨0,10⟩ = 0:=by
 have h:=Zb0 (t:=⟨Qq,[], -62135596801⟩) (tx:=5) (v:=Zg [97]) (d:=⟨0,10⟩) (Zh2 Zrk (by decide)) (by decide)
 rw [← h.1,← h.2]; unfold ZT Qi; rw [Zt2]; decide
theorem Zt3 : Xt ⟨Qq,[], -62135596801⟩ = true:=by unfold Xt; rw [Zrk]; rfl
theorem Zot : Zq Zx = none:=ZgY (by decide)
theorem Zfg : Z2 (Z9 Qq) 5 (Zg [97]) ⟨0,10⟩ = Zx ∧ Zaa (Z9 Qq) 5 (Zg [97]) ⟨0,10⟩ = 0:=by
 rw [Zh9.1]
 have h:=Zhb (t:=⟨Qq,[], -62135596801⟩) (tx:=5) (v:=Zg [97]) (d:=⟨0,10⟩) Zt3
 rw [← h.1,← h.2,Zlu.1,Zlu.2]
 unfold Qk Zcj; rw [Zot]; exact ⟨rfl,rfl⟩
theorem Zrl : Zy Zx = true:=by rw [← Znv]; decide
theorem Zou : Xt Zx = true:=by unfold Xt; rw [Zrl,Zot]; rfl
theorem Zt4 : ZZ (QL Zx 6 (Zg [98]) ⟨5,20⟩) = peopR2:=by rw [ZdC (Zmz (by decide))]; decide
theorem Zge : ZR Zx 6 (Zg [98]) ⟨5,20⟩ = ⟨Qq,peopR2,6⟩ ∧ Y6 Zx 6 (Zg [98]) ⟨5,20⟩ = 0:=by
 have h:=Zb0 (t:=Zx) (tx:=6) (v:=Zg [98]) (d:=⟨5,20⟩) (Zh2 Zrl (by decide)) (by decide)
 rw [← h.1,← h.2]; unfold ZT Qi; rw [Zt4]; decide
theorem Zt5 : (Zq ⟨Qq,peopR2,6⟩).isSome = true:=by unfold Zq; rw [Zcx (by decide)]; rfl
theorem Zt6 : Zaa Zx 6 (Zg [98]) ⟨5,20⟩ = 14:=by
 have h:=Zhb (t:=Zx) (tx:=6) (v:=Zg [98]) (d:=⟨5,20⟩) Zou
 rw [← h.2,Zge.1,Zge.2]
 unfold Zcj; rw [Zt5]; rfl
theorem Zov : ZZ (XB Zx 6 (Zg [98]) ⟨5,20⟩) = peopR3:=by unfold XB; rw [ZdC (Zmz (by decide))]; decide
theorem ZmB : MrgP Zx 6 (Zg [98]) ⟨5,20⟩:=Zon Zou Zge.2 (by rw [Zov]; decide) (by decide)
theorem Zt7 : Y9 Zx 6 (Zg [98]) ⟨5,20⟩ = ⟨Qq,peopR3,6⟩:=by rw [ZmB.is,Zov]; rfl
theorem Zkq : atH (Y9 Zx 6 (Zg [98]) ⟨5,20⟩) 6 = [⟨Zg [97],⟨0,5⟩⟩,⟨Zg [98],⟨5,20⟩⟩]:=by
 rw [Ztz ZmB.valid (by decide),Zt7]; decide
theorem Zsi : (((atH (Y9 Zx 6 (Zg [98]) ⟨5,20⟩) 6).length : Nat) : Int) = 2:=by rw [Zkq]; rfl
theorem ZuN {x : Fact} (h : (atH (Y9 Zx 6 (Zg [98]) ⟨5,20⟩) 6)[0]? = some x) : x.t = ⟨0,5⟩:=by rw [Zkq] at h; obtain rfl:=Option.some.inj h; rfl
theorem ZuO {x : Fact} (h : (atH (Y9 Zx 6 (Zg [98]) ⟨5,20⟩) 6)[1]? = some x) : x.t = ⟨5,20⟩:=by rw [Zkq] at h; obtain rfl:=Option.some.inj h; rfl
end Go.Civ
namespace Go.Civ
open Go.RowKit
set_option linter.unusedVariables false
def Zkr (x : HRow) : Bool:=decide (20 < (x.v.length : Int))
def Zb2 (t : Table) : Bool:=decide ((t.rows.length : Int) ≤ 24) && decide ((t.s.cols.length : Int) ≤ 10) && decide ((t.s.fks.length : Int) ≤ 10) && !t.rows.any Zkr
theorem Zsk : Cmp.b .eql (((Z2 (Z9 Qq) 5 (Zg [97]) ⟨0,10⟩).rows.length : Nat) : Int) 1 = true:=by rw [Zfg.1]; rfl
end Go.Civ
namespace Go.Civ
open Go.RowKit
set_option linter.unusedVariables false
theorem Zso {out : List Int} {x u : Int} {k : Nat} (h : out[k]? = some u) (h1 : x < u) : ∀ w,out[k]? = some w → x < w:=fun w hw=>by rw [h] at hw; obtain rfl:=Option.some.inj hw; exact h1
theorem Zq2 {l : VV} {k K : Nat} {x y : List Val} (h : ∀ i,i < k → ∀ x y,l[i]? = some x → l[i + 1]? = some y → decide (x.take K = y.take K) = false) (hx : l[k]? = some x) (hy : l[k + 1]? = some y) (hxy : decide (x.take K = y.take K) = false) :
  ∀ i,i < k + 1 → ∀ x y,l[i]? = some x → l[i + 1]? = some y → decide (x.take K = y.take K) = false:=fun i hi a b ha hb=>by
 by_cases e : i = k
 ·subst e
  rw [hx] at ha; rw [hy] at hb
  obtain rfl:=Option.some.inj ha
  obtain rfl:=Option.some.inj hb
  exact hxy
 ·exact h i (by omega) a b ha hb
theorem Zly {l : VV} {j K : Nat} {v w : List Val} (h1 : ∀ i,i < j → ∀ x y,l[i]? = some x → l[i + 1]? = some y → decide (x.take K = y.take K) = false) (h2 : l[j]? = some v) (h3 : l[j + 1]? = some w) (h4 : decide (v.take K = w.take K) = true) :
  v = (ZQ K l).getD [] ∧ true = (ZQ K l).isSome:=by rw [Zko h1 h2 h3 h4]; exact ⟨rfl,rfl⟩
theorem Zlz {l : VV} {j K : Nat} (h1 : ∀ i,i < j → ∀ x y,l[i]? = some x → l[i + 1]? = some y → decide (x.take K = y.take K) = false) (h2 : l.length ≤ j + 1) :
  [] = (ZQ K l).getD [] ∧ false = (ZQ K l).isSome:=by rw [Zkp h1 h2]; exact ⟨rfl,rfl⟩
theorem ZmI {x : Int} (h1 : -62135596800 ≤ x) (h2 : x ≤ 253402300800) : Z1 x ∧ x ≤ 253402300800:=⟨by constructor <;> omega,h2⟩
section
variable {l o : List HRow} {k : Nat} {x fr : Int}
theorem Zc3 (hg : Z5 l) {r : HRow} (hr : r ∈ l) : (Z1 r.r.d.a ∧ r.r.d.a ≤ 253402300800) ∧ (Z1 r.r.d.b ∧ r.r.d.b ≤ 253402300800) ∧ (Z1 r.r.x.a ∧ r.r.x.a ≤ 253402300800) ∧ (Z1 r.r.x.b ∧ r.r.x.b ≤ 253402300800):=by
 have h:=(Yd (hg r hr)).2
 unfold ZM at h
 simp at h
 exact ⟨ZmI (by omega) (by omega),ZmI (by omega) (by omega),ZmI (by omega) (by omega),ZmI (by omega) (by omega)⟩
theorem ZtE (hg : Z5 l) (h : (ZU (l.map (fun (r : HRow)=>r.r.x.a)))[k]? = some x) : Z1 x ∧ x ≤ 253402300800:=by
 obtain ⟨r,hr,rfl⟩:=List.mem_map.1 (Za3.1 (List.mem_of_getElem? h))
 exact (Zc3 hg hr).2.2.1
theorem ZtF (hg : Z5 l) (h : (ZU (l.map (fun (r : HRow)=>r.r.d.a)))[k]? = some x) : Z1 x ∧ x ≤ 253402300800:=by
 obtain ⟨r,hr,rfl⟩:=List.mem_map.1 (Za3.1 (List.mem_of_getElem? h))
 exact (Zc3 hg hr).1
end
section
variable {t : Table} {x y : Int} {k : Nat}
theorem Zi2 (hv : Zy t = true) (y x : Int) : ∀ v ∈ ZJ t.rows y x,t.s.key ≤ v.length:=fun v h=>by
 rw [← Za2 (ZW hv).1,QA (ZW hv).1] at h
 obtain ⟨r,hr,rfl,_⟩:=h
 exact Zfz hv r hr
theorem ZkO {K : Nat} {l : VV} {x y : Int} (h : (ZQ K l).isSome = false) : ((ZQ K l).map fun v=>Pt.mk x y v) = none:=by
 cases e : ZQ K l with
 | none=>rfl
 | some v=>rw [e] at h; cases h
theorem Zo7 {K : Nat} {l : List HRow} {ys : List Int} {j : Nat} (h : ∀ i,i < j → ∀ y,ys[i]? = some y → ((ZQ K (ZJ l y x)).map fun v=>Pt.mk x y v) = none) (hj : ys.length ≤ j) : ZdF K l ys x = none:=Zeq h hj
theorem Zl0 {i j : Nat} (h1 : ∀ i',i' < i → ∀ x,(ZU (t.rows.map (fun (r : HRow)=>r.r.x.a)))[i']? = some x → ZdF t.s.key.toNat t.rows (ZU (t.rows.map (fun (r : HRow)=>r.r.d.a))) x = none) (hx : (ZU (t.rows.map (fun (r : HRow)=>r.r.x.a)))[i]? = some x)
  (h2 : ∀ i',i' < j → ∀ y,(ZU (t.rows.map (fun (r : HRow)=>r.r.d.a)))[i']? = some y → ((ZQ t.s.key.toNat (ZJ t.rows y x)).map fun v=>Pt.mk x y v) = none) (hy : (ZU (t.rows.map (fun (r : HRow)=>r.r.d.a)))[j]? = some y)
  (h : (ZQ t.s.key.toNat (ZJ t.rows y x)).isSome = true) : ZH (some (Pt.mk x y ((ZQ t.s.key.toNat (ZJ t.rows y x)).getD []))) = ZH (X6 t) ∧ true = (X6 t).isSome:=by
 cases e : ZQ t.s.key.toNat (ZJ t.rows y x) with
 | none=>rw [e] at h; cases h
 | some v=>
  have hG : ZdF t.s.key.toNat t.rows (ZU (t.rows.map (fun (r : HRow)=>r.r.d.a))) x = some ⟨x,y,v⟩:=ZcP h2 hy (by rw [e]; rfl)
  have : X6 t = some ⟨x,y,v⟩:=ZcP h1 hx hG
  rw [this]; exact ⟨rfl,rfl⟩
theorem Zl1 {i : Nat} (h1 : ∀ i',i' < i → ∀ x,(ZU (t.rows.map (fun (r : HRow)=>r.r.x.a)))[i']? = some x → ZdF t.s.key.toNat t.rows (ZU (t.rows.map (fun (r : HRow)=>r.r.d.a))) x = none) (hi : (ZU (t.rows.map (fun (r : HRow)=>r.r.x.a))).length ≤ i) :
  HRow.mk [] (Rect.mk (Span.mk 0 0) (Span.mk 0 0)) = ZH (X6 t) ∧ false = (X6 t).isSome:=by
 have : X6 t = none:=Zeq h1 hi
 rw [this]; exact ⟨rfl,rfl⟩
end
end Go.Civ
