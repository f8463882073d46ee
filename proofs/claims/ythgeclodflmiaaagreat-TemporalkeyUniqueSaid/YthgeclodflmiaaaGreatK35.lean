/- Lemmas. -/
import Derived.Test.YthgeclodflmiaaaGreatK22
import Derived.Test.YthgeclodflmiaaaGreatK27
import Derived.Test.YthgeclodflmiaaaGreatK28
import Derived.Test.YthgeclodflmiaaaGreatK29
import Derived.Test.YthgeclodflmiaaaGreatK30
import Derived.Test.YthgeclodflmiaaaGreatK32
import Derived.Test.YthgeclodflmiaaaGreatK33
import Derived.Test.YthgeclodflmiaaaGreatK34
import Derived.Test.YthgeclodflmiaaaGreatProg
import Derived.KernelRfl
import Derived.WalkKit
set_option linter.unusedVariables false
set_option linter.unusedSimpArgs false
set_option maxRecDepth 100000
set_option maxHeartbeats 4000000
namespace Go.Civ
open Go.Proofs
theorem c_Snapshot {G : GH} {w : World} (hG : G.In w) (t : Table) (at_ tx : Int) (ct : List Value) (hct : TableE.rep G t ct) : CL Tryz.prog (nat_lit 23) #[.agg ct.toArray, .int .i64 at_, .int .i64 tx] [] w G fun G' _ r=>Sl (ValE.slice 32) 24 G' r (snapH t at_ tx):=by
 refine calls_of_go ft [] Tryz.func23 rfl rfl ?_
 have hS:=St.start (X:=[]) hG
 obtain ⟨v1,v2,v3,rfl,hb1,hs1,hb2,hs2,hs3,hb3⟩:=TableE_open hct
 refine WL.boxG [strV t.s.name,v1, .int .i64 t.s.key,v2,v3, .int .i64 t.last] _ hS rfl rfl rfl (fun p1 w1 G1 hle1 hsp1 hc1 hS1=>?_)
 refine WL.loadGAt hS1 hc1 [strV t.s.name,v1, .int .i64 t.s.key,v2,v3, .int .i64 t.last] ti28 rfl rfl rfl rfl rfl ?_
 refine WL.cV hS1 hb14 rfl rfl rfl (c_hValid hS1.imm t _ (TableE_mk t hb1 (hs1.mono hle1) hb2 (hs2.mono hle1) (hs3.mono hle1) hb3)) (fun w2 G2 hS2 hle2=>?_)
 refine WL.split (fun (h1 : (validT t) = true)=>?_) (fun (h1 : (validT t) = false)=>?_)
 ·refine WL.cV hS2 hb85 rfl rfl rfl (c_instant hS2.imm at_) (fun w3 G3 hS3 hle3=>?_)
  refine WL.split (fun (h2 : (instB at_) = true)=>?_) (fun (h2 : (instB at_) = false)=>?_)
  ·refine WL.cV hS3 hb85 rfl rfl rfl (c_instant hS3.imm tx) (fun w4 G4 hS4 hle4=>?_)
   refine WL.split (fun (h3 : (instB tx) = true)=>?_) (fun (h3 : (instB tx) = false)=>?_)
   ·obtain ⟨hg9,hn9,h89,_⟩:=validT_good (by assumption : validT t = true)
    have hgl:=@grpH_len t.rows
    refine WL.loadG1 hS4 (Cells.drop 4 (hc1.mono ((hle2.trans hle3).trans hle4))) ti26 rfl rfl rfl ?_
    refine WL.cA hS4 hb86 rfl rfl rfl (c_groups hS4.imm t.rows _ (hs3.mono (((hle1.trans hle2).trans hle3).trans hle4)) hg9 (le1000 h89) (Nat.le_trans hn9 (by decide))) (fun w5 G5 r1 hpost1 hS5 hle5=>?_)
    have bd1:=hpost1.bound
    refine WL.lenSl hpost1 ul133 rfl rfl ?_
    have hS7:=hS5.pad
    refine LP.go ft [] (fun m ρ1 w1=>∃ (k1 : Nat),∃ (v4 : Value) (o1 : OB),∃ (G6 : GH),m = (grpH t.rows).length - k1 ∧ G5.le G6 ∧ St w [] G G6 [o1] w1 ∧ Row (ValE.slice 32) 24 31 G6 v4 (snapP ((grpH t.rows).take k1) at_ tx) o1 ∧ FR ρ1 [(1, .int .i64 at_),(2, .int .i64 tx),(7,v4),(25,r1),(26, .int .i64 (((grpH t.rows).length : Nat) : Int)),(27, .int .i64 (k1 : Int))] ∧ k1 ≤ (grpH t.rows).length) _ ⟨0,(.slice none 0 0),none,G5,rfl,(G5.le_refl),hS7,(Row.cast (Row.nil (ValE.slice 32) 24 31 G5) (by rfl)),⟨rfl,rfl,rfl,rfl,rfl,rfl,trivial⟩,(by omega)⟩ ?_
    rintro m ρ1 w6 ⟨k1,v4,o1,G6,rfl,hle6,hS6,hr1,hF9,f1⟩
    refine hF9.set ?_
    clear hF9
    have hsl:=snapP_len (grpH t.rows) k1 at_ tx
    refine WL.lssS (k1 : Int) (((grpH t.rows).length : Nat) : Int) rfl rfl rfl (fun h4=>?_) (fun h4=>?_)
    ·refine WL.indexAddr (hpost1.mono hle6) k1 (by omega) ul133 ti136 rfl rfl rfl rfl (fun p2 x1 hx1 he1=>?_)
     obtain ⟨cs1,hc2,hr2⟩:=he1
     obtain ⟨v5,v6,rfl,hs4,hs5⟩:=HGrpE_open hr2
     refine WL.loadGAt hS6 hc2 [v5,v6] ti136 rfl rfl rfl rfl rfl ?_
     refine WL.alloc hS6 ti136 rfl rfl (fun b1 w7 hn1 hS8=>?_)
     refine WL.store hS8 0 _ _ _ 0 _ [v5,v6] [v5,v6] _ rfl rfl ti136 rfl (Nat.le_of_ble_eq_true rfl) (by simp only [List.all_cons,List.all_nil,hs4.oneC,hs5.oneC,Bool.true_and] <;> rfl) rfl rfl rfl rfl rfl (fun w9 hS9=>?_)
     obtain ⟨G7,hle7,hc3,hS10⟩:=hS9.shutB hn1
     have hok9:=grpH_ok hg9 (Nat.le_trans hn9 (by decide)) (by assumption : (grpH t.rows)[k1]? = some _)
     refine WL.loadG1 hS10 (Cells.drop 1 hc3) ti26 rfl rfl rfl ?_
     refine WL.cA hS10 hb87 rfl rfl rfl (c_htimes hS10.imm x1.t tx _ (hs5.mono hle7) hok9.1 hok9.2) (fun w10 G9 r2 hpost2 hS11 hle9=>?_)
     refine WL.cV hS11 hb40 rfl rfl rfl (c_runsHas hS11.imm (timesH x1.t tx) at_ _ hpost2 (timesH_can hok9.1 _) (timesH_V hok9.1 _) (Nat.le_trans (timesH_len _ _) hok9.2)) (fun w11 G10 hS12 hle10=>?_)
     refine WL.split (fun (h5 : (inR (timesH x1.t tx) at_) = true)=>?_) (fun (h5 : (inR (timesH x1.t tx) at_) = false)=>?_)
     ·refine WL.loadG1 hS12 (Cells.drop 0 (hc3.mono (hle9.trans hle10))) ti31 rfl rfl rfl ?_
      refine WL.cA hS12 hb73 rfl rfl rfl (c_CloneVs hS12.imm x1.v _ (hs4.mono ((hle7.trans hle9).trans hle10))) (fun w12 G11 r3 hpost3 hS13 hle11=>?_)
      refine WL.buildSlice _ [(0,[r3])] [r3] hS13 sl51 rfl rfl rfl (by show [(0,(r3 : Value).cells.toList)] = _; simp only [hpost3.cells1] <;> rfl) (fun z hz=>by match z,hz with | [z0],_=>rfl) (fun b2 w13 hn2 hS14=>?_)
      refine WL.push (m:=([x1.v] : List (List Val))) sl51 rfl rfl rfl (hr1.mono (((hle7.trans hle9).trans hle10).trans hle11)) hS14 1 rfl 0 _ _ _ _ _ rfl ⟨[r3],_,rfl,⟨_,rfl,hpost3⟩,rfl⟩ rfl (by have hreach : reach = 140737488355328:=rfl; simp only [List.length_append,List.length_cons,List.length_nil]; omega) (by have hreach : reach = 140737488355328:=rfl; simp only [List.length_append,List.length_cons,List.length_nil]; omega) rfl rfl rfl (fun v7 o2 w14 hr3 hS15=>?_)
      have hS16:=hS15.tail
      refine WL.incr k1 (by have hreach : reach = 140737488355328:=rfl; omega) rfl rfl rfl ?_
      exact BK.mk' _ ⟨k1 + 1,v7,o2,G11,rfl,(hle6.trans (((hle7.trans hle9).trans hle10).trans hle11)),hS16,(Row.cast hr3 (by (exact (snapP_yes (by assumption) (by assumption)).symm))),⟨rfl,rfl,rfl,rfl,rfl,rfl,trivial⟩,(by omega)⟩ (show (grpH t.rows).length - (k1 + 1) < (grpH t.rows).length - k1 by omega)
     refine WL.incr k1 (by have hreach : reach = 140737488355328:=rfl; omega) rfl rfl rfl ?_
     exact BK.mk' _ ⟨k1 + 1,v4,o1,G10,rfl,(hle6.trans ((hle7.trans hle9).trans hle10)),hS12,(Row.cast (hr1.mono ((hle7.trans hle9).trans hle10)) (by (exact (snapP_no (by assumption) (by assumption)).symm))),⟨rfl,rfl,rfl,rfl,rfl,rfl,trivial⟩,(by omega)⟩ (show (grpH t.rows).length - (k1 + 1) < (grpH t.rows).length - k1 by omega)
    obtain ⟨G12,hle12,hs6,hS17⟩:=Row.freeze hr1 hS6 0 rfl
    exact RT hS17 rfl (Sl.cast hs6 (by exact snap_y (by assumption) (by assumption) (by assumption) (by omega)))
   exact RT hS4 rfl (Sl.cast (Sl.nil (ValE.slice 32) 24 G4) (by exact snap_3 (by assumption)))
  exact RT hS3 rfl (Sl.cast (Sl.nil (ValE.slice 32) 24 G3) (by exact snap_2 (by assumption)))
 exact RT hS2 rfl (Sl.cast (Sl.nil (ValE.slice 32) 24 G2) (by exact snap_1 (by assumption)))
theorem c_hAt {G : GH} {w : World} (hG : G.In w) (t : Table) (tx : Int) (ct : List Value) (hct : TableE.rep G t ct) : CL Tryz.prog (nat_lit 57) #[.agg ct.toArray, .int .i64 tx] [] w G fun G' _ r=>Sl FactE 40 G' r (atH t tx):=by
 refine calls_of_go ft [] Tryz.func57 rfl rfl ?_
 have hS:=St.start (X:=[]) hG
 obtain ⟨v1,v2,v3,rfl,hb1,hs1,hb2,hs2,hs3,hb3⟩:=TableE_open hct
 refine WL.boxG [strV t.s.name,v1, .int .i64 t.s.key,v2,v3, .int .i64 t.last] _ hS rfl rfl rfl (fun p1 w1 G1 hle1 hsp1 hc1 hS1=>?_)
 refine WL.loadGAt hS1 hc1 [strV t.s.name,v1, .int .i64 t.s.key,v2,v3, .int .i64 t.last] ti28 rfl rfl rfl rfl rfl ?_
 refine WL.cV hS1 hb14 rfl rfl rfl (c_hValid hS1.imm t _ (TableE_mk t hb1 (hs1.mono hle1) hb2 (hs2.mono hle1) (hs3.mono hle1) hb3)) (fun w2 G2 hS2 hle2=>?_)
 refine WL.split (fun (h1 : (validT t) = true)=>?_) (fun (h1 : (validT t) = false)=>?_)
 ·refine WL.cV hS2 hb85 rfl rfl rfl (c_instant hS2.imm tx) (fun w3 G3 hS3 hle3=>?_)
  refine WL.split (fun (h2 : (instB tx) = true)=>?_) (fun (h2 : (instB tx) = false)=>?_)
  ·obtain ⟨hg9,hn9,h89,_⟩:=validT_good (by assumption : validT t = true)
   have hgl:=@grpH_len t.rows
   refine WL.loadG1 hS3 (Cells.drop 4 (hc1.mono (hle2.trans hle3))) ti26 rfl rfl rfl ?_
   refine WL.cA hS3 hb86 rfl rfl rfl (c_groups hS3.imm t.rows _ (hs3.mono ((hle1.trans hle2).trans hle3)) hg9 (le1000 h89) (Nat.le_trans hn9 (by decide))) (fun w4 G4 r1 hpost1 hS4 hle4=>?_)
   have bd1:=hpost1.bound
   refine WL.lenSl hpost1 ul133 rfl rfl ?_
   have hS6:=hS4.pad
   refine LP.go ft [] (fun m ρ1 w1=>∃ (k1 : Nat),∃ (v4 : Value) (o1 : OB),∃ (G5 : GH),m = (grpH t.rows).length - k1 ∧ G4.le G5 ∧ St w [] G G5 [o1] w1 ∧ Row FactE 40 73 G5 v4 (factsP ((grpH t.rows).take k1) tx) o1 ∧ FR ρ1 [(1, .int .i64 tx),(5,v4),(20,r1),(21, .int .i64 (((grpH t.rows).length : Nat) : Int)),(22, .int .i64 (k1 : Int))] ∧ k1 ≤ (grpH t.rows).length) _ ⟨0,(.slice none 0 0),none,G4,rfl,(G4.le_refl),hS6,(Row.cast (Row.nil FactE 40 73 G4) (by rfl)),⟨rfl,rfl,rfl,rfl,rfl,trivial⟩,(by omega)⟩ ?_
   rintro m ρ1 w5 ⟨k1,v4,o1,G5,rfl,hle5,hS5,hr1,hF9,f1⟩
   refine hF9.set ?_
   clear hF9
   have hfl:=factsP_takeLen (k:=k1) (tx:=tx) hn9
   refine WL.lssS (k1 : Int) (((grpH t.rows).length : Nat) : Int) rfl rfl rfl (fun h3=>?_) (fun h3=>?_)
   ·refine WL.indexAddr (hpost1.mono hle5) k1 (by omega) ul133 ti136 rfl rfl rfl rfl (fun p2 x1 hx1 he1=>?_)
    obtain ⟨cs1,hc2,hr2⟩:=he1
    obtain ⟨v5,v6,rfl,hs4,hs5⟩:=HGrpE_open hr2
    refine WL.loadGAt hS5 hc2 [v5,v6] ti136 rfl rfl rfl rfl rfl ?_
    refine WL.alloc hS5 ti136 rfl rfl (fun b1 w6 hn1 hS7=>?_)
    refine WL.store hS7 0 _ _ _ 0 _ [v5,v6] [v5,v6] _ rfl rfl ti136 rfl (Nat.le_of_ble_eq_true rfl) (by simp only [List.all_cons,List.all_nil,hs4.oneC,hs5.oneC,Bool.true_and] <;> rfl) rfl rfl rfl rfl rfl (fun w7 hS8=>?_)
    obtain ⟨G6,hle6,hc3,hS9⟩:=hS8.shutB hn1
    have hok9:=grpH_ok hg9 (Nat.le_trans hn9 (by decide)) (by assumption : (grpH t.rows)[k1]? = some _)
    refine WL.loadG1 hS9 (Cells.drop 1 hc3) ti26 rfl rfl rfl ?_
    refine WL.cA hS9 hb87 rfl rfl rfl (c_htimes hS9.imm x1.t tx _ (hs5.mono hle6) hok9.1 hok9.2) (fun w9 G7 r2 hpost2 hS10 hle7=>?_)
    have bd2:=hpost2.bound
    refine WL.lenSl hpost2 ul71 rfl rfl ?_
    refine LP.go ft [] (fun m ρ1 w1=>∃ (k2 : Nat),∃ (v7 : Value) (o2 : OB),∃ (G9 : GH),m = (timesH x1.t tx).length - k2 ∧ G7.le G9 ∧ St w [] G G9 [o2] w1 ∧ Row FactE 40 73 G9 v7 (factsP ((grpH t.rows).take k1) tx ++ ((timesH x1.t tx).take k2).map (Fact.mk x1.v)) o2 ∧ FR ρ1 [(1, .int .i64 tx),(5,v7),(7, .pointer (some (⟨b1,0,none⟩ : Addr))),(20,r1),(21, .int .i64 (((grpH t.rows).length : Nat) : Int)),(22, .int .i64 (k1 : Int)),(29,r2),(30, .int .i64 (((timesH x1.t tx).length : Nat) : Int)),(31, .int .i64 (k2 : Int))] ∧ k2 ≤ (timesH x1.t tx).length) _ ⟨0,v4,o1,G7,rfl,(G7.le_refl),hS10,(Row.cast (hr1.mono (hle6.trans hle7)) (by simp)),⟨rfl,rfl,rfl,rfl,rfl,rfl,rfl,rfl,rfl,trivial⟩,(by omega)⟩ ?_
    rintro m ρ1 w10 ⟨k2,v7,o2,G9,rfl,hle9,hS11,hr3,hF9,f2⟩
    refine hF9.set ?_
    clear hF9
    have htl:=Nat.le_trans (timesH_len x1.t tx) hok9.2
    refine WL.lssS (k2 : Int) (((timesH x1.t tx).length : Nat) : Int) rfl rfl rfl (fun h4=>?_) (fun h4=>?_)
    ·refine WL.indexAddr (hpost2.mono hle9) k2 (by omega) ul71 ti33 rfl rfl rfl rfl (fun p3 x2 hx2 he2=>?_)
     obtain ⟨cs2,hc4,hr4⟩:=he2
     obtain ⟨rfl,hb4,hb5⟩:=SpanE_open hr4
     refine WL.loadGAt hS11 hc4 [.int .i64 x2.a, .int .i64 x2.b] ti33 rfl rfl rfl rfl rfl ?_
     refine WL.alloc hS11 ti33 rfl rfl (fun b2 w11 hn2 hS12=>?_)
     refine WL.store hS12 0 _ _ _ 0 _ [.int .i64 x2.a, .int .i64 x2.b] [.int .i64 x2.a, .int .i64 x2.b] _ rfl rfl ti33 rfl (Nat.le_of_ble_eq_true rfl) rfl rfl rfl rfl rfl rfl (fun w12 hS13=>?_)
     obtain ⟨G10,hle10,hc5,hS14⟩:=hS13.shutB hn2
     refine dr [(3,true),(5,false),(6,false),(7,false),(8,false)] [(37,v5),(39, .agg #[.int .i64 x2.a, .int .i64 x2.b])] hS14 ⟨fun _ hSw=>WL.loadG1 hSw (Cells.drop 0 (hc3.mono ((hle7.trans hle9).trans hle10))) ti31 rfl rfl rfl <| nu rfl rfl,fun _ hSw=>WL.loadGAt hSw hc5 [.int .i64 x2.a, .int .i64 x2.b] ti33 rfl rfl rfl rfl rfl <| nu rfl rfl,trivial⟩ (fun w13 hS15=>?_)
     refine WL.cA hS15 hb73 rfl rfl rfl (c_CloneVs hS15.imm x1.v _ (hs4.mono (((hle6.trans hle7).trans hle9).trans hle10))) (fun w14 G11 r3 hpost3 hS16 hle11=>?_)
     refine ⟨hS16.down hS15.le hle11,?_⟩
     refine WL.build _ [(0,[r3]),(1,[.int .i64 x2.a, .int .i64 x2.b])] [r3, .int .i64 x2.a, .int .i64 x2.b] ti73 rfl fl73 rfl rfl (by show [(0,(r3 : Value).cells.toList),(1,(.agg #[.int .i64 x2.a, .int .i64 x2.b] : Value).cells.toList)] = _; simp only [hpost3.cells1] <;> rfl) rfl ?_
     refine WL.buildSlice _ [(0,[r3, .int .i64 x2.a, .int .i64 x2.b])] [r3, .int .i64 x2.a, .int .i64 x2.b] hS16 sl63 rfl rfl rfl rfl (fun z hz=>by match z,hz with | [z0,z1,z2],_=>rfl) (fun b3 w15 hn3 hS17=>?_)
     refine WL.push (m:=([(Fact.mk x1.v x2)] : List Fact)) sl63 rfl rfl rfl (hr3.mono (hle10.trans hle11)) hS17 1 rfl 0 _ _ _ _ _ rfl ⟨[r3, .int .i64 x2.a, .int .i64 x2.b],_,rfl,(FactE_mk (Fact.mk x1.v x2) hpost3 hb4 hb5),rfl⟩ rfl (by have hreach : reach = 140737488355328:=rfl; simp only [List.length_append,List.length_map,List.length_take,List.length_cons,List.length_nil]; omega) (by have hreach : reach = 140737488355328:=rfl; simp only [List.length_append,List.length_map,List.length_take,List.length_cons,List.length_nil]; omega) rfl rfl rfl (fun v9 o3 w16 hr5 hS18=>?_)
     have hS19:=hS18.tail
     refine WL.incr k2 (by have hreach : reach = 140737488355328:=rfl; omega) rfl rfl rfl ?_
     exact BK.mk' _ ⟨k2 + 1,v9,o3,G11,rfl,(hle9.trans (hle10.trans hle11)),hS19,(Row.cast hr5 (by (rw [mapT_take (by assumption),List.append_assoc]))),⟨rfl,rfl,rfl,rfl,rfl,rfl,rfl,rfl,rfl,trivial⟩,(by omega)⟩ (show (timesH x1.t tx).length - (k2 + 1) < (timesH x1.t tx).length - k2 by omega)
    refine WL.incr k1 (by have hreach : reach = 140737488355328:=rfl; omega) rfl rfl rfl ?_
    exact BK.mk' _ ⟨k1 + 1,v7,o2,G9,rfl,(hle5.trans ((hle6.trans hle7).trans hle9)),hS11,(Row.cast hr3 (by (rw [factsP_take (by assumption),mapT_all (by omega)]))),⟨rfl,rfl,rfl,rfl,rfl,trivial⟩,(by omega)⟩ (show (grpH t.rows).length - (k1 + 1) < (grpH t.rows).length - k1 by omega)
   obtain ⟨G12,hle12,hs6,hS20⟩:=Row.freeze hr1 hS5 0 rfl
   exact RT hS20 rfl (Sl.cast hs6 (by exact at_y (by assumption) (by assumption) (by omega)))
  exact RT hS3 rfl (Sl.cast (Sl.nil FactE 40 G3) (by exact at_2 (by assumption)))
 exact RT hS2 rfl (Sl.cast (Sl.nil FactE 40 G2) (by exact at_1 (by assumption)))
end Go.Civ
namespace Go.Civ
open Go.RowKit
set_option linter.unusedVariables false
def addN (out : VV) (m : List Val) : VV:=if out.any (fun l=>decide (l = m)) then out else out ++ [m]
section
variable {d : Nat} {c : Cond} {ns : List (List UInt8)} {set : List Val} {mask : List Bool} {b : VV}
end
section
variable {t : Table} {tx at_ later past : Int} {d : Span} {u : List Val}
end
end Go.Civ
namespace Go.Civ
section
variable {t : Table} {tx at_ later past : Int} {d : Span} {v : List Val} {b : VV} {k : Nat} {c : Cond} {ns : List (List UInt8)} {set : List Val} {mask : List Bool} {l : List Val}
end
end Go.Civ
namespace Go.Civ
open Go.RowKit
set_option linter.unusedVariables false
theorem sch_parts {s : Schema} (h : schB s = true) : 1 ≤ s.key ∧ s.key ≤ s.cols.length ∧ s.cols.length ≤ 8 ∧ distB (s.cols.map Col.name) = true:=by
  unfold schB schA at h
  simp only [Bool.and_eq_true,decide_eq_true_eq] at h
  obtain ⟨⟨⟨⟨⟨⟨_,h2⟩,h3⟩,h4⟩,h5⟩,h6⟩,h7⟩:=h.1
  exact ⟨h4,h5,h3,h7⟩
section
variable {cols : List Col} {v u : List Val}
end
section
variable {s : Schema} {v u : List Val} {k : Nat}
end
theorem chg_rowOk {hl : List Val → Bool} {nx : List Val → Option (List Val)} {tx : Int} {d : Span} {t : Table} (hc : ChgOk t tx d nx) (hn : ∀ r ∈ t.rows,∀ v,nx r.v = some v → rowE t.s v = 0) : ∀ q ∈ chgRows hl nx tx d t.rows,rowOk t.s tx q = true:=fun q hq=>by
  have hp:=validT_parts hc.valid
  have hg:=(chgRows_good (hl:=hl) hc).1 q hq
  obtain ⟨r,hr,h⟩:=List.mem_flatMap.1 hq
  have hro:=hp.2.2.2.2.1 r hr
  obtain ⟨p1,p2,p3,p4⟩:=rowOk_parts hro
  have hla:=hc.late
  rcases chgOf_row h with h | ⟨h1,h2⟩ | ⟨h1,h2⟩
  · rw [h]; exact rowOk_le hro hla
  · exact rowOk_mk (by rw [h1]; exact p1) hg (by rw [h2]; simp only; omega) (by rw [h2]; simp only; omega)
  · refine rowOk_mk ?_ hg (by rw [h2]; exact Int.le_refl _) (by rw [h2]; exact .inr rfl)
    rcases h1 with h1 | h1
    · rw [h1]; exact p1
    · exact hn r hr _ h1
section
variable {k : Nat} {l : List HRow} {tx : Int} {v u : List Val} {d : Span} {r q : HRow} {a y : Int} {t : Table}
theorem mrgOf_mem (hr : goodB r = true) (hd : spanB d = true) (h : q ∈ mrgOf k v tx d r) : q ∈ chgOf (keyB k v) (fun _=>none) tx d r:=by
  have hp:=spanB_pos (goodB_parts hr).2.1
  have hq:=spanB_pos hd
  have ds:=diff_same hp hq
  by_cases hc : (touchB d r && keyB k v r.v) = true
  · have hc' : touchB d r = true ∧ keyB k v r.v = true:=by simpa using hc
    obtain ⟨t1,t2,t3⟩:=touch_iff.1 hc'.1
    unfold mrgOf at h
    unfold chgOf
    rw [if_pos ⟨t1,hc'.2,fun e=>ds.1 e ⟨t2,t3⟩⟩] at h
    rw [if_pos hc]
    rcases List.mem_append.1 h with h | h
    · simp [h]
    · simp only [List.mem_append]; exact .inl (.inl h)
  · unfold mrgOf at h
    unfold chgOf
    rw [if_neg hc]
    rw [if_neg] at h
    · exact h
    · rintro ⟨z1,z2,z3⟩
      refine z3 (ds.2 fun z=>hc ?_)
      rw [z2,touch_iff.2 ⟨z1,z.1,z.2⟩]; rfl
theorem none_ok {rows : List HRow} : NxOk (fun _=>none) rows:=fun r hr v hv=>by cases hv
theorem ins_chg (H : InsOk t tx v d) : ChgOk t tx d (fun _=>none):=⟨H.valid,H.span,H.inst,H.late,none_ok⟩
theorem ins_row (H : InsOk t tx v d) : rowOk t.s tx ⟨v,⟨d,⟨tx,253402300800⟩⟩⟩ = true:=by
  have hb:=instB_parts H.inst
  refine rowOk_mk H.row ?_ (Int.le_refl _) (.inr rfl)
  have:=H.span
  unfold goodB
  simp only [(rowE_len H.row).2.1,H.span,Bool.true_and]
  unfold spanB
  simp; omega
theorem mrg_rowOk (H : InsOk t tx v d) : ∀ q ∈ mrgRows k t.rows tx v d,rowOk t.s tx q = true:=fun q hq=>by
  rcases List.mem_cons.1 hq with rfl | hq
  · exact ins_row H
  · obtain ⟨r,hr,h⟩:=List.mem_flatMap.1 hq
    exact chg_rowOk (hl:=keyB k v) (ins_chg H) (fun _ _ _ h=>by cases h) q (List.mem_flatMap.2 ⟨r,hr,mrgOf_mem ((validT_good H.valid).1 r hr) H.span h⟩)
theorem mrg_good (H : InsOk t tx v d) : GoodH (mrgRows k t.rows tx v d):=fun q hq=>(rowOk_parts (mrg_rowOk H q hq)).2.1
theorem mrgOf_len (hr : goodB r = true) (hd : spanB d = true) : (mrgOf k v tx d r).length ≤ 3:=by
  have hp:=spanB_pos (goodB_parts hr).2.1
  have hq:=spanB_pos hd
  unfold mrgOf
  split
  · rename_i h
    have hov : r.r.d.a < d.b ∧ d.a < r.r.d.b:=by
      refine Classical.byContradiction fun z=>h.2.2 ((diff_same hp hq).2 z)
    have htc:=touch_comb (goodB_parts hr).2.1 hd hov.1 hov.2
    have hpl:=pieces_len r.r.d d
    have h2 : (combR 3 [r.r.d] [d]).length ≤ 2:=by rw [htc]; exact hpl
    have hol : (outN r.v (combR 3 [r.r.d] [d]) tx 253402300800).length = (combR 3 [r.r.d] [d]).length:=by unfold outN; rw [List.length_map]
    rw [List.length_append,hol,List.length_singleton]; omega
  · simp
theorem mrg_len (hg : GoodH l) (hd : spanB d = true) : ∀ n,((l.take n).flatMap (mrgOf k v tx d)).length ≤ 3 * n
  | 0=>by simp
  | n + 1=>by
    have ih:=mrg_len hg hd n
    rw [List.take_add_one,List.flatMap_append,List.length_append]
    cases e : l[n]? with
    | none=>simp only [Option.toList,List.flatMap_nil,List.length_nil]; omega
    | some r=>
      have:=mrgOf_len (k:=k) (v:=v) (tx:=tx) (hg r (List.mem_of_getElem? e)) hd
      simp only [Option.toList,List.flatMap_cons,List.flatMap_nil,List.append_nil]; omega
end
def mrgL (t : Table) (tx : Int) (v : List Val) (d : Span) : List HRow:=mrgRows t.s.key.toNat t.rows tx v d
def mrgT (t : Table) (tx : Int) (v : List Val) (d : Span) : Table:=if uniqB t then (if insE_ t tx v d = 0 then (if NormE (mrgL t tx v d) = 0 then ⟨(insT t tx v d).s,NormL (mrgL t tx v d),(insT t tx v d).last⟩ else noT) else noT) else noT
def mrgE (t : Table) (tx : Int) (v : List Val) (d : Span) : Int:=if uniqB t then (if insE_ t tx v d = 0 then NormE (mrgL t tx v d) else insE_ t tx v d) else 1
section
variable {t : Table} {tx : Int} {v : List Val} {d : Span}
theorem mrg_1 (h : uniqB t = false) : noT = mrgT t tx v d ∧ 1 = mrgE t tx v d:=by unfold mrgT mrgE; rw [h]; exact ⟨rfl,rfl⟩
theorem mrg_2 (h : uniqB t = true) (h1 : insE_ t tx v d ≠ 0) : noT = mrgT t tx v d ∧ insE_ t tx v d = mrgE t tx v d:=by unfold mrgT mrgE; rw [h,if_pos rfl,if_pos rfl,if_neg h1,if_neg h1]; exact ⟨rfl,rfl⟩
theorem mrg_3 (h : uniqB t = true) (h1 : insE_ t tx v d = 0) (h2 : NormE (mrgL t tx v d) ≠ 0) : noT = mrgT t tx v d ∧ NormE (mrgL t tx v d) = mrgE t tx v d:=by unfold mrgT mrgE; rw [h,if_pos rfl,if_pos rfl,if_pos h1,if_pos h1,if_neg h2]; exact ⟨rfl,rfl⟩
theorem mrg_4 (h : uniqB t = true) (h1 : insE_ t tx v d = 0) (h2 : NormE (mrgL t tx v d) = 0) : (⟨(insT t tx v d).s,NormL (mrgL t tx v d),(insT t tx v d).last⟩ : Table) = mrgT t tx v d ∧ 0 = mrgE t tx v d:=by
  unfold mrgT mrgE; rw [h,if_pos rfl,if_pos rfl,if_pos h1,if_pos h1,if_pos h2,h2]; exact ⟨rfl,rfl⟩
end
section
variable {t : Table} {tx : Int} {v u : List Val} {d : Span} {a y : Int}
structure MrgP (t : Table) (tx : Int) (v : List Val) (d : Span) : Prop where
  ins : InsOk t tx v d
  e : mrgE t tx v d = 0
  is : mrgT t tx v d = ⟨t.s,normH (mrgL t tx v d),tx⟩
  valid : validT (mrgT t tx v d) = true
theorem mrg_parts (hu : uniqB t = true) (h : insE_ t tx v d = 0) (hl : (normH (mrgL t tx v d)).length ≤ 500) (hm : (mrgL t tx v d).length ≤ 1000) : MrgP t tx v d:=by
  have H:=ins_parts h
  have hg:=mrg_good (k:=t.s.key.toNat) H
  have hE : NormE (mrgL t tx v d) = 0 ∧ NormL (mrgL t tx v d) = normH (mrgL t tx v d):=by
    have:=normL_ok (l:=mrgL t tx v d) (by omega) (good_any hg) (by omega)
    exact ⟨this.2,this.1⟩
  have h4:=mrg_4 hu h hE.1
  have hs : (insT t tx v d).s = t.s:=by rw [H.new.is]
  have hlast : (insT t tx v d).last = tx:=by rw [H.new.is]
  have his : mrgT t tx v d = ⟨t.s,normH (mrgL t tx v d),tx⟩:=by rw [← h4.1,hs,hlast,hE.2]
  refine ⟨H,h4.2.symm,his,?_⟩
  rw [his]
  exact (newTab (validT_parts H.valid).1 H.inst (mrg_rowOk H) hl).valid
end
end Go.Civ
set_option linter.unusedVariables false
set_option linter.unusedSimpArgs false
set_option maxRecDepth 100000
set_option maxHeartbeats 4000000
namespace Go.Civ
open Go.Proofs
theorem c_hnormalR {G : GH} {w : World} (hG : G.In w) (l : List HRow) (vl : Value) (hvl : Sl HRowE 56 G vl l) (hgood : GoodH l) (hlen : ∀ r ∈ l,r.v.length ≤ 1000) (hl : l.length ≤ 2000) : CL Tryz.prog (nat_lit 66) #[vl] [] w G fun G' w' r=>∃ o,Row HRowE 56 (nat_lit 37) G' r (normH l) o ∧ Fresh w w' G' o:=by
 refine calls_of_go ft [] Tryz.func66 rfl rfl ?_
 have hS:=St.start (X:=[]) hG
 refine WL.cA hS hb86 rfl rfl rfl (c_groups hS.imm l _ hvl hgood hlen hl) (fun w1 G1 r1 hpost1 hS1 hle1=>?_)
 have bd1:=hpost1.bound
 refine WL.lenSl hpost1 ul133 rfl rfl ?_
 have hS3:=hS1.pad
 refine LP.go ft [] (fun m ρ1 w1=>∃ (k1 : Nat),∃ (v1 : Value) (o1 : OB),∃ (G2 : GH),m = (grpH l).length - k1 ∧ G1.le G2 ∧ St w [] G G2 [o1] w1 ∧ Row HRowE 56 37 G2 v1 (normP ((grpH l).take k1)) o1 ∧ FR ρ1 [(3,v1),(7,r1),(8, .int .i64 (((grpH l).length : Nat) : Int)),(9, .int .i64 (k1 : Int))] ∧ k1 ≤ (grpH l).length) _ ⟨0,(.slice none 0 0),none,G1,rfl,(G1.le_refl),hS3,(Row.nil HRowE 56 37 G1),⟨rfl,rfl,rfl,rfl,trivial⟩,(by omega)⟩ ?_
 rintro m ρ1 w2 ⟨k1,v1,o1,G2,rfl,hle2,hS2,hr1,hF9,f1⟩
 refine hF9.set ?_
 clear hF9
 have hgl:=@grpH_len l
 have hpl:=normP_takeLen (k:=k1) (fun g hg=>Nat.le_trans (grpH_t g hg) hl) (Nat.le_trans hgl hl)
 refine WL.lssS (k1 : Int) (((grpH l).length : Nat) : Int) rfl rfl rfl (fun h1=>?_) (fun h1=>?_)
 ·refine WL.indexAddr (hpost1.mono hle2) k1 (by omega) ul133 ti136 rfl rfl rfl rfl (fun p1 x1 hx1 he1=>?_)
  obtain ⟨cs1,hc1,hr2⟩:=he1
  obtain ⟨v2,v3,rfl,hs1,hs2⟩:=HGrpE_open hr2
  refine WL.loadGAt hS2 hc1 [v2,v3] ti136 rfl rfl rfl rfl rfl ?_
  refine WL.alloc hS2 ti136 rfl rfl (fun b1 w3 hn1 hS4=>?_)
  refine WL.store hS4 0 _ _ _ 0 _ [v2,v3] [v2,v3] _ rfl rfl ti136 rfl (Nat.le_of_ble_eq_true rfl) (by simp only [List.all_cons,List.all_nil,hs1.oneC,hs2.oneC,Bool.true_and] <;> rfl) rfl rfl rfl rfl rfl (fun w4 hS5=>?_)
  obtain ⟨G3,hle3,hc2,hS6⟩:=hS5.shutB hn1
  have hok:=grpH_ok hgood hl (by assumption : (grpH l)[k1]? = some _); have hgn:=normG_len hok.2
  refine WL.loadGAt hS6 hc2 [v2,v3] ti136 rfl rfl rfl rfl rfl ?_
  refine WL.cA hS6 hb128 rfl rfl rfl (c_gnormal hS6.imm x1 _ (HGrpE_mk x1 (hs1.mono hle3) (hs2.mono hle3)) hok.1 hok.2) (fun w5 G4 r2 hpost2 hS7 hle4=>?_)
  refine WL.pushSl sl26 rfl rfl rfl (hr1.mono (hle3.trans hle4)) hS7 0 rfl hpost2 (by have hreach : reach = 140737488355328:=rfl; (show _ * 56 ≤ _; omega)) (by have hreach : reach = 140737488355328:=rfl; omega) rfl rfl rfl (fun v4 o2 w6 hr3 hS8=>?_)
  refine WL.incr k1 (by have hreach : reach = 140737488355328:=rfl; omega) rfl rfl rfl ?_
  exact BK.mk' _ ⟨k1 + 1,v4,o2,G4,rfl,(hle2.trans (hle3.trans hle4)),hS8,(Row.cast hr3 (by (rw [normP_take (by assumption)]))),⟨rfl,rfl,rfl,rfl,trivial⟩,(by omega)⟩ (show (grpH l).length - (k1 + 1) < (grpH l).length - k1 by omega)
 exact RT hS2 rfl ⟨_,Row.cast hr1 (by rw [List.take_of_length_le (by omega)]; rfl),hS2.freshAt 0 rfl⟩
theorem c_hNormalR {G : GH} {w : World} (hG : G.In w) (l : List HRow) (vl : Value) (hvl : Sl HRowE 56 G vl l) (hlen : ∀ r ∈ l,r.v.length ≤ 1000) : CL Tryz.prog (nat_lit 76) #[vl] [] w G fun G' w' r=>∃ r0 r1,r = .tuple #[r0,r1] ∧ (∃ o,Row HRowE 56 (nat_lit 37) G' r0 (NormL l) o ∧ Fresh w w' G' o) ∧ r1 = .int .i64 (NormE l):=by
 refine calls_of_go ft [] Tryz.func76 rfl rfl ?_
 have hS:=St.start (X:=[]) hG
 have bd1:=hvl.bound
 refine WL.lenSl hvl ul26 rfl rfl ?_
 refine WL.gtrS (l.length : Int) 1000 rfl rfl rfl (fun h1=>?_) (fun h1=>?_)
 ·exact RT hS rfl ⟨_,_,rfl,⟨none,Row.cast (Row.nil _ _ _ _) (by exact (normL_big (by omega)).1.symm),fun _ h=>by cases h⟩,(congrArg (Value.int .i64) (by exact (normL_big (by omega)).2.symm))⟩
 refine WL.cV hS hb58 rfl rfl rfl (c_ContainsR hS.imm l (fun x8=>!goodB x8) _ hvl 132 #[] ⟨hb132,fun G8 w8 v8 x8 hle8 hG8 hon8 hA8=>by obtain ⟨cs_x8,rfl,hr_x8⟩:=hA8; exact c_hNormal1 hG8 x8 cs_x8 hr_x8⟩) (fun w1 G1 hS1 hle1=>?_)
 refine WL.split (fun (h2 : (l.any (fun x8=>!goodB x8)) = true)=>?_) (fun (h2 : (l.any (fun x8=>!goodB x8)) = false)=>?_)
 ·exact RT hS1 rfl ⟨_,_,rfl,⟨none,Row.cast (Row.nil _ _ _ _) (by exact (normL_bad (by omega) (by assumption)).1.symm),fun _ h=>by cases h⟩,(congrArg (Value.int .i64) (by exact (normL_bad (by omega) (by assumption)).2.symm))⟩
 refine WL.cR hb66 rfl rfl rfl (c_hnormalR hS1.imm l _ (hvl.mono hle1) (good_of_any (by assumption)) hlen (by omega)) (fun w2 G2 r1 hres1 hpost1=>?_)
 have hS2:=hS1.call hres1
 have hle2:=hres1.le
 obtain ⟨o1,hr1,hf1⟩:=hpost1
 have hS3:=hS1.adoptO hres1 hf1
 have bd2:=hr1.bound
 refine WL.lenRow hr1 ul26 rfl rfl ?_
 refine WL.gtrS (((normH l).length : Nat) : Int) 500 rfl rfl rfl (fun h3=>?_) (fun h3=>?_)
 ·exact RT hS3 rfl ⟨_,_,rfl,⟨none,Row.cast (Row.nil _ _ _ _) (by exact (normL_full (by omega) (by assumption) (by omega)).1.symm),fun _ h=>by cases h⟩,(congrArg (Value.int .i64) (by exact (normL_full (by omega) (by assumption) (by omega)).2.symm))⟩
 exact RT hS3 rfl ⟨_,_,rfl,⟨_,Row.cast hr1 (by exact (normL_ok (by omega) (by assumption) (by omega)).1.symm),hS3.freshAt 0 rfl⟩,(congrArg (Value.int .i64) (by exact (normL_ok (by omega) (by assumption) (by omega)).2.symm))⟩
end Go.Civ
