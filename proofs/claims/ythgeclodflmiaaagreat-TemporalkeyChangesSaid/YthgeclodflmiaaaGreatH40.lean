/- Lemmas. -/
import Derived.Test.YthgeclodflmiaaaGreatH18
import Derived.Test.YthgeclodflmiaaaGreatH39
import Derived.Test.YthgeclodflmiaaaGreatProg
import Derived.KernelRfl
import Derived.WalkKit
set_option linter.unusedVariables false
set_option linter.unusedSimpArgs false
set_option maxRecDepth 100000
set_option maxHeartbeats 4000000
namespace Go.Civ
open Go.Proofs
theorem ZbO {G : GH} {w : World} (hG : G.In w) (t : Table) (ct : List Value) (hct : TableE.rep G t ct) (hv : Z2 t = true) : CL Tryz.prog (nat_lit 16) #[.agg ct.toArray] [] w G fun G' _ r=>∃ r0 r1,r = .tuple #[r0,r1] ∧ Is HRowE G' r0 (ZN (ZJ t)) ∧ r1 = .bool ((ZJ t).isSome):=by
 refine YB ft [] Tryz.func16 rfl rfl ?_
 have hS:=St.start (X:=[]) hG
 obtain ⟨v1,v2,v3,rfl,hb1,hs1,hb2,hs2,hs3,hb3⟩:=Zy hct
 refine Zv [Zb t.s.name,v1, .int .i64 t.s.key,v2,v3, .int .i64 t.last] _ hS rfl rfl rfl (fun p1 w1 G1 hle1 hsp1 hc1 hS1=>?_)
 refine WL.alloc hS1 Zt rfl rfl (fun b1 w2 hn1 hS2=>?_)
 obtain ⟨hg9,hn9,h89,he9⟩:=Y5 hv
 have hk0:=Zit hv
 have hS4:=hS2.pad
 have hS5:=hS4.pad
 refine LP.go ft [] (fun m ρ1 w1=>∃ (k1 : Nat),∃ (v4 : Value) (o1 : OB),∃ (v5 : Value) (o2 : OB),∃ (G2 : GH),m = t.rows.length - k1 ∧ G1.le G2 ∧ St w [] G G2 [o2,o1,some (b1,37,[.slice none 0 0, .int .i64 0, .int .i64 0, .int .i64 0, .int .i64 0])] w1 ∧ Ye Enc.int 8 3 G2 v4 ((t.rows.take k1).map (fun (r : HRow)=>r.r.d.a)) o1 ∧ Ye Enc.int 8 3 G2 v5 ((t.rows.take k1).map (fun (r : HRow)=>r.r.x.a)) o2 ∧ FR ρ1 [(1, .pointer (some p1)),(2, .pointer (some ⟨b1,0,none⟩)),(4,v4),(5,v5),(6, .int .i64 (k1 : Int))] ∧ k1 ≤ t.rows.length) _ ⟨0,(.slice none 0 0),none,(.slice none 0 0),none,G1,rfl,(G1.le_refl),hS5,(Ye.cast (Ye.nil Enc.int 8 3 G1) (by rfl)),(Ye.cast (Ye.nil Enc.int 8 3 G1) (by rfl)),⟨rfl,rfl,rfl,rfl,rfl,trivial⟩,(by omega)⟩ ?_
 rintro m ρ1 w3 ⟨k1,v4,o1,v5,o2,G2,rfl,hle2,hS3,hr1,hr2,hF9,f1⟩
 refine hF9.set ?_
 clear hF9
 have hlt:=List.length_take_le' k1 t.rows
 refine Za hS3 (Xw.drop 4 (hc1.mono hle2)) Xg rfl rfl rfl ?_
 have bd1:=hs3.bound
 refine Zj (hs3.mono (hle1.trans hle2)) Yq rfl rfl ?_
 refine Zq (k1 : Int) (t.rows.length : Int) rfl rfl rfl (fun h1=>?_) (fun h1=>?_)
 ·refine drT [2,4,5,6,7,8,9,10,13,15,16,17,18,19,20,21,22,23] [] hS3 trivial (fun w4 hS6=>?_)
  refine TGI.toTG (I:=fun w9=>GH.In G2 w9) _ _ _ _ ?_
  refine TGI.quiet 17 [2,4,5,6,7,8,9,10,13,15,16,17,18,19,20,21,22,23] 2 rfl rfl rfl rfl rfl (by decide) hS6.imm (fun w9 i9 K9 k9=>Za (St.start (X:=[]) i9) (Xw.drop 4 (hc1.mono hle2)) Xg rfl rfl rfl k9) ?_
  obtain ⟨p2,x1,hx1,he1,ep1⟩:=Sl.at (hs3.mono (hle1.trans hle2)) k1 (by omega)
  obtain ⟨cs1,hc2,hr3⟩:=he1
  obtain ⟨v6,rfl,hs4,hb4,hb5,hb6,hb7⟩:=ZA hr3
  refine TGI.quiet 16 [4,5,6,7,8,9,10,13,15,16,17,18,19,20,21,22,23] 4 rfl rfl rfl rfl rfl (by decide) hS6.imm (fun w9 _ K9 k9=>Zk k1 ep1 Yq Zt rfl rfl rfl rfl k9) ?_
  refine TGI.quiet 15 [5,6,7,8,9,10,13,15,16,17,18,19,20,21,22,23] 5 rfl rfl rfl rfl rfl (by decide) hS6.imm (fun w9 _ K9 k9=>WL.fieldAddr _ 1 _ Zbr rfl rfl rfl k9) ?_
  refine TGI.quiet 14 [6,7,8,9,10,13,15,16,17,18,19,20,21,22,23] 6 rfl rfl rfl rfl rfl (by decide) hS6.imm (fun w9 _ K9 k9=>WL.fieldAddr _ 0 _ Zdc rfl rfl rfl k9) ?_
  refine TGI.quiet 13 [7,8,9,10,13,15,16,17,18,19,20,21,22,23] 7 rfl rfl rfl rfl rfl (by decide) hS6.imm (fun w9 _ K9 k9=>WL.fieldAddr _ 0 _ X6 rfl rfl rfl k9) ?_
  refine TGI.quiet 12 [8,9,10,13,15,16,17,18,19,20,21,22,23] 8 rfl rfl rfl rfl rfl (by decide) hS6.imm (fun w9 i9 K9 k9=>Za (St.start (X:=[]) i9) (Xw.drop 0 (Xw.drop 0 (Xw.drop 1 hc2))) Zp rfl rfl rfl k9) ?_
  refine TGI.quiet 11 [9,10,13,15,16,17,18,19,20,21,22,23] 13 rfl rfl rfl rfl rfl (by decide) hS6.imm (fun w9 i9 K9 k9=>Za (St.start (X:=[]) i9) (Xw.drop 4 (hc1.mono hle2)) Xg rfl rfl rfl k9) ?_
  obtain ⟨p3,x2,hx2,he2,ep2⟩:=Sl.at (hs3.mono (hle1.trans hle2)) k1 (by omega)
  obtain rfl : x1 = x2:=Option.some.inj (hx1.symm.trans hx2)
  obtain ⟨cs2,hc3,hr4⟩:=he2
  obtain ⟨v7,rfl,hs5,hb8,hb9,hb10,YD⟩:=ZA hr4
  refine TGI.quiet 10 [9,10,15,16,17,18,19,20,21,22,23] 15 rfl rfl rfl rfl rfl (by decide) hS6.imm (fun w9 _ K9 k9=>Zk k1 ep2 Yq Zt rfl rfl rfl rfl k9) ?_
  refine TGI.quiet 9 [9,10,16,17,18,19,20,21,22,23] 16 rfl rfl rfl rfl rfl (by decide) hS6.imm (fun w9 _ K9 k9=>WL.fieldAddr _ 1 _ Zbr rfl rfl rfl k9) ?_
  refine TGI.quiet 8 [9,10,17,18,19,20,21,22,23] 17 rfl rfl rfl rfl rfl (by decide) hS6.imm (fun w9 _ K9 k9=>WL.fieldAddr _ 2 _ Zdc rfl rfl rfl k9) ?_
  refine TGI.quiet 7 [9,10,18,19,20,21,22,23] 18 rfl rfl rfl rfl rfl (by decide) hS6.imm (fun w9 _ K9 k9=>WL.fieldAddr _ 0 _ X6 rfl rfl rfl k9) ?_
  refine TGI.quiet 6 [9,10,19,20,21,22,23] 19 rfl rfl rfl rfl rfl (by decide) hS6.imm (fun w9 i9 K9 k9=>Za (St.start (X:=[]) i9) (Xw.drop 0 (Xw.drop 2 (Xw.drop 1 hc3))) Zp rfl rfl rfl k9) ?_
  refine TGI.fork 5 [9,10,20,21,22,23] [9,20] rfl rfl (by decide) (by decide) (TAI.cons rfl ?_ (TAI.cons rfl ?_ TAI.nil))
  ·refine WL.buildSlice _ [(0,[.int .i64 x1.r.d.a])] [.int .i64 x1.r.d.a] hS6 YU rfl rfl rfl rfl (fun z hz=>by match z,hz with | [z0],_=>rfl) (fun b2 w5 hn2 hS7=>?_)
   refine ⟨fun h=>absurd h (by decide),hS7.imm,?_⟩
   refine TGI.fork 4 [10,20,21,22,23] [10,20] rfl rfl (by decide) (by decide) (TAI.cons rfl ?_ (TAI.cons rfl ?_ TAI.nil))
   ·refine WL.push (m:=([x1.r.d.a] : List Int)) YU rfl rfl rfl hr1 hS7 2 rfl 0 _ _ _ _ _ rfl ⟨[.int .i64 x1.r.d.a],_,rfl,⟨rfl,hb4⟩,rfl⟩ rfl (by have hreach : reach = 140737488355328:=rfl; simp only [List.length_append,List.length_map,List.length_cons,List.length_nil]; omega) (by have hreach : reach = 140737488355328:=rfl; simp only [List.length_append,List.length_map,List.length_cons,List.length_nil]; omega) rfl rfl rfl (fun v9 o3 w6 hr5 hS8=>?_)
    have hS9:=hS8.tail
    refine ⟨fun h=>absurd h (by decide),hS9.imm,?_⟩
    refine TGI.fork 3 [20,21,22,23] [20] rfl rfl (by decide) (by decide) (TAI.cons rfl ?_ TAI.nil)
    refine WL.buildSlice _ [(0,[.int .i64 x1.r.x.a])] [.int .i64 x1.r.x.a] hS9 YU rfl rfl rfl rfl (fun z hz=>by match z,hz with | [z0],_=>rfl) (fun b3 w7 hn3 hS10=>?_)
    refine ⟨fun h=>absurd h (by decide),hS10.imm,?_⟩
    refine TGI.fork 2 [21,22,23] [21] rfl rfl (by decide) (by decide) (TAI.cons rfl ?_ TAI.nil)
    refine WL.push (m:=([x1.r.x.a] : List Int)) YU rfl rfl rfl hr2 hS10 1 rfl 0 _ _ _ _ _ rfl ⟨[.int .i64 x1.r.x.a],_,rfl,⟨rfl,hb10⟩,rfl⟩ rfl (by have hreach : reach = 140737488355328:=rfl; simp only [List.length_append,List.length_map,List.length_cons,List.length_nil]; omega) (by have hreach : reach = 140737488355328:=rfl; simp only [List.length_append,List.length_map,List.length_cons,List.length_nil]; omega) rfl rfl rfl (fun v10 o4 w9 hr6 hS11=>?_)
    have hS12:=hS11.tail
    refine ⟨fun h=>absurd h (by decide),hS12.imm,?_⟩
    refine TGI.quiet 1 [22,23] 22 rfl rfl rfl rfl rfl (by decide) hS12.imm (fun w9 _ K9 k9=>WL.assign rfl k9) ?_
    refine TGI.quiet 0 [23] 23 rfl rfl rfl rfl rfl (by decide) hS12.imm (fun w9 _ K9 k9=>WL.assign rfl k9) ?_
    refine TGI.fin rfl ?_
    refine Zl k1 (by have hreach : reach = 140737488355328:=rfl; omega) rfl rfl rfl ?_
    exact BK.mk' _ ⟨k1 + 1,v9,o3,v10,o4,G2,rfl,hle2,hS12,(Ye.cast hr5 (by (rw [ZaE ‹_›]))),(Ye.cast hr6 (by (rw [ZaE ‹_›]))),⟨rfl,rfl,rfl,rfl,rfl,trivial⟩,(by omega)⟩ (show t.rows.length - (k1 + 1) < t.rows.length - k1 by omega)
   refine WL.buildSlice _ [(0,[.int .i64 x1.r.x.a])] [.int .i64 x1.r.x.a] hS7 YU rfl rfl rfl rfl (fun z hz=>by match z,hz with | [z0],_=>rfl) (fun b4 w10 hn4 hS13=>?_)
   refine ⟨fun h=>absurd h (by decide),hS13.imm,?_⟩
   refine TGI.fork 3 [10,21,22,23] [10] rfl rfl (by decide) (by decide) (TAI.cons rfl ?_ TAI.nil)
   refine WL.push (m:=([x1.r.d.a] : List Int)) YU rfl rfl rfl hr1 hS13 3 rfl 1 _ _ _ _ _ rfl ⟨[.int .i64 x1.r.d.a],_,rfl,⟨rfl,hb4⟩,rfl⟩ rfl (by have hreach : reach = 140737488355328:=rfl; simp only [List.length_append,List.length_map,List.length_cons,List.length_nil]; omega) (by have hreach : reach = 140737488355328:=rfl; simp only [List.length_append,List.length_map,List.length_cons,List.length_nil]; omega) rfl rfl rfl (fun v11 o5 w11 hr7 hS14=>?_)
   refine ⟨fun h=>absurd h (by decide),hS14.imm,?_⟩
   refine TGI.fork 2 [21,22,23] [21] rfl rfl (by decide) (by decide) (TAI.cons rfl ?_ TAI.nil)
   refine WL.push (m:=([x1.r.x.a] : List Int)) YU rfl rfl rfl hr2 hS14 2 rfl 0 _ _ _ _ _ rfl ⟨[.int .i64 x1.r.x.a],_,rfl,⟨rfl,hb10⟩,rfl⟩ rfl (by have hreach : reach = 140737488355328:=rfl; simp only [List.length_append,List.length_map,List.length_cons,List.length_nil]; omega) (by have hreach : reach = 140737488355328:=rfl; simp only [List.length_append,List.length_map,List.length_cons,List.length_nil]; omega) rfl rfl rfl (fun v12 o6 w12 hr8 hS15=>?_)
   have hS16:=hS15.tail
   refine ⟨fun h=>absurd h (by decide),hS16.imm,?_⟩
   refine TGI.quiet 1 [22,23] 22 rfl rfl rfl rfl rfl (by decide) hS16.imm (fun w9 _ K9 k9=>WL.assign rfl k9) ?_
   refine TGI.quiet 0 [23] 23 rfl rfl rfl rfl rfl (by decide) hS16.imm (fun w9 _ K9 k9=>WL.assign rfl k9) ?_
   refine TGI.fin rfl ?_
   refine Zl k1 (by have hreach : reach = 140737488355328:=rfl; omega) rfl rfl rfl ?_
   have hS17:=hS16.tail
   exact BK.mk' _ ⟨k1 + 1,v11,o5,v12,o6,G2,rfl,hle2,hS17,(Ye.cast hr7 (by (rw [ZaE ‹_›]))),(Ye.cast hr8 (by (rw [ZaE ‹_›]))),⟨rfl,rfl,rfl,rfl,rfl,trivial⟩,(by omega)⟩ (show t.rows.length - (k1 + 1) < t.rows.length - k1 by omega)
  refine WL.buildSlice _ [(0,[.int .i64 x1.r.x.a])] [.int .i64 x1.r.x.a] hS6 YU rfl rfl rfl rfl (fun z hz=>by match z,hz with | [z0],_=>rfl) (fun b5 w13 hn5 hS18=>?_)
  refine ⟨fun h=>absurd h (by decide),hS18.imm,?_⟩
  refine TGI.fork 4 [9,10,21,22,23] [9] rfl rfl (by decide) (by decide) (TAI.cons rfl ?_ TAI.nil)
  refine WL.buildSlice _ [(0,[.int .i64 x1.r.d.a])] [.int .i64 x1.r.d.a] hS18 YU rfl rfl rfl rfl (fun z hz=>by match z,hz with | [z0],_=>rfl) (fun b6 w14 hn6 hS19=>?_)
  refine ⟨fun h=>absurd h (by decide),hS19.imm,?_⟩
  refine TGI.fork 3 [10,21,22,23] [10] rfl rfl (by decide) (by decide) (TAI.cons rfl ?_ TAI.nil)
  refine WL.push (m:=([x1.r.d.a] : List Int)) YU rfl rfl rfl hr1 hS19 3 rfl 0 _ _ _ _ _ rfl ⟨[.int .i64 x1.r.d.a],_,rfl,⟨rfl,hb4⟩,rfl⟩ rfl (by have hreach : reach = 140737488355328:=rfl; simp only [List.length_append,List.length_map,List.length_cons,List.length_nil]; omega) (by have hreach : reach = 140737488355328:=rfl; simp only [List.length_append,List.length_map,List.length_cons,List.length_nil]; omega) rfl rfl rfl (fun v13 o7 w15 hr9 hS20=>?_)
  have hS21:=hS20.tail
  refine ⟨fun h=>absurd h (by decide),hS21.imm,?_⟩
  refine TGI.fork 2 [21,22,23] [21] rfl rfl (by decide) (by decide) (TAI.cons rfl ?_ TAI.nil)
  refine WL.push (m:=([x1.r.x.a] : List Int)) YU rfl rfl rfl hr2 hS21 1 rfl 0 _ _ _ _ _ rfl ⟨[.int .i64 x1.r.x.a],_,rfl,⟨rfl,hb10⟩,rfl⟩ rfl (by have hreach : reach = 140737488355328:=rfl; simp only [List.length_append,List.length_map,List.length_cons,List.length_nil]; omega) (by have hreach : reach = 140737488355328:=rfl; simp only [List.length_append,List.length_map,List.length_cons,List.length_nil]; omega) rfl rfl rfl (fun v14 o8 w16 hr10 hS22=>?_)
  have hS23:=hS22.tail
  refine ⟨fun h=>absurd h (by decide),hS23.imm,?_⟩
  refine TGI.quiet 1 [22,23] 22 rfl rfl rfl rfl rfl (by decide) hS23.imm (fun w9 _ K9 k9=>WL.assign rfl k9) ?_
  refine TGI.quiet 0 [23] 23 rfl rfl rfl rfl rfl (by decide) hS23.imm (fun w9 _ K9 k9=>WL.assign rfl k9) ?_
  refine TGI.fin rfl ?_
  refine Zl k1 (by have hreach : reach = 140737488355328:=rfl; omega) rfl rfl rfl ?_
  exact BK.mk' _ ⟨k1 + 1,v13,o7,v14,o8,G2,rfl,hle2,hS23,(Ye.cast hr9 (by (rw [ZaE ‹_›]))),(Ye.cast hr10 (by (rw [ZaE ‹_›]))),⟨rfl,rfl,rfl,rfl,rfl,trivial⟩,(by omega)⟩ (show t.rows.length - (k1 + 1) < t.rows.length - k1 by omega)
 obtain ⟨G3,hle3,hs6,hS24⟩:=Ye.freeze hr1 hS3 1 rfl
 refine Z6 hS24 Zuv rfl rfl rfl (Zs5 hS24.imm ((t.rows.take k1).map (fun (r : HRow)=>r.r.d.a)) _ hs6 (by rw [List.length_map]; omega)) (fun w17 G4 r1 hpost1 hS25 hle4=>?_)
 obtain ⟨G5,hle5,hs7,hS26⟩:=Ye.freeze (hr2.mono (hle3.trans hle4)) hS25 0 rfl
 refine Z6 hS26 Zuv rfl rfl rfl (Zs5 hS26.imm ((t.rows.take k1).map (fun (r : HRow)=>r.r.x.a)) _ hs7 (by rw [List.length_map]; omega)) (fun w18 G6 r2 hpost2 hS27 hle6=>?_)
 have hys:=Sl.cast (l':=(ZY (t.rows.map (fun (r : HRow)=>r.r.d.a)))) (hpost1.mono (hle5.trans hle6)) (by rw [List.take_of_length_le (by omega)])
 have hxs:=Sl.cast (l':=(ZY (t.rows.map (fun (r : HRow)=>r.r.x.a)))) hpost2 (by rw [List.take_of_length_le (by omega)])
 have hyl:=ZgP (t.rows.map (fun (r : HRow)=>r.r.d.a))
 have hxl:=ZgP (t.rows.map (fun (r : HRow)=>r.r.x.a))
 rw [List.length_map] at hyl hxl
 refine LP.go ft [] (fun m ρ1 w1=>∃ (k2 : Nat),∃ (G7 : GH),m = (ZY (t.rows.map (fun (r : HRow)=>r.r.x.a))).length - k2 ∧ G6.le G7 ∧ St w [] G G7 [none,none,some (b1,37,[.slice none 0 0, .int .i64 0, .int .i64 0, .int .i64 0, .int .i64 0])] w1 ∧ FR ρ1 [(1, .pointer (some p1)),(2, .pointer (some ⟨b1,0,none⟩)),(4,r1),(5,r2),(7, .int .i64 (k2 : Int))] ∧ k2 ≤ (ZY (t.rows.map (fun (r : HRow)=>r.r.x.a))).length ∧ ∀ i,i < k2 → ∀ x,(ZY (t.rows.map (fun (r : HRow)=>r.r.x.a)))[i]? = some x → Zeq t.s.key.toNat t.rows (ZY (t.rows.map (fun (r : HRow)=>r.r.d.a))) x = none) _ ⟨0,G6,rfl,(G6.le_refl),hS27,⟨rfl,rfl,rfl,rfl,rfl,trivial⟩,(by omega),(by intro i hi; omega)⟩ ?_
 rintro m ρ1 w19 ⟨k2,G7,rfl,hle7,hS28,hF9,f2,f3⟩
 refine hF9.set ?_
 clear hF9
 have bd2:=hxs.bound
 refine Zj (hxs.mono hle7) Yz rfl rfl ?_
 refine Zq (k2 : Int) (((ZY (t.rows.map (fun (r : HRow)=>r.r.x.a))).length : Nat) : Int) rfl rfl rfl (fun h2=>?_) (fun h2=>?_)
 ·obtain ⟨xv,hxv⟩:=ZeP (l:=(ZY (t.rows.map (fun (r : HRow)=>r.r.x.a)))) (k:=k2) (by omega)
  have hxb:=Zvo hg9 hxv
  refine LP.go ft [] (fun m ρ1 w1=>∃ (k3 : Nat),∃ (G9 : GH),m = (ZY (t.rows.map (fun (r : HRow)=>r.r.d.a))).length - k3 ∧ G7.le G9 ∧ St w [] G G9 [none,none,some (b1,37,[.slice none 0 0, .int .i64 0, .int .i64 0, .int .i64 0, .int .i64 0])] w1 ∧ FR ρ1 [(1, .pointer (some p1)),(2, .pointer (some ⟨b1,0,none⟩)),(4,r1),(5,r2),(7, .int .i64 (k2 : Int)),(8, .int .i64 (k3 : Int))] ∧ k3 ≤ (ZY (t.rows.map (fun (r : HRow)=>r.r.d.a))).length ∧ ∀ i,i < k3 → ∀ y,(ZY (t.rows.map (fun (r : HRow)=>r.r.d.a)))[i]? = some y → ((ZR t.s.key.toNat (Yw t.rows y xv)).map fun v=>Pt.mk xv y v) = none) _ ⟨0,G7,rfl,(G7.le_refl),hS28,⟨rfl,rfl,rfl,rfl,rfl,rfl,trivial⟩,(by omega),(by intro i hi; omega)⟩ ?_
  rintro m ρ1 w20 ⟨k3,G9,rfl,hle9,hS29,hF9,f4,f5⟩
  refine hF9.set ?_
  clear hF9
  have bd3:=hys.bound
  refine Zj (hys.mono (hle7.trans hle9)) Yz rfl rfl ?_
  refine Zq (k3 : Int) (((ZY (t.rows.map (fun (r : HRow)=>r.r.d.a))).length : Nat) : Int) rfl rfl rfl (fun h3=>?_) (fun h3=>?_)
  ·obtain ⟨yv,hyv⟩:=ZeP (l:=(ZY (t.rows.map (fun (r : HRow)=>r.r.d.a)))) (k:=k3) (by omega)
   have hyb:=Zvp hg9 hyv
   obtain ⟨p4,x3,hx3,he3,ep3⟩:=Sl.at (hys.mono (hle7.trans hle9)) k3 (by omega)
   obtain rfl : yv = x3:=Option.some.inj (hyv.symm.trans hx3)
   obtain ⟨cs3,hc4,hr11⟩:=he3
   obtain ⟨rfl,YW⟩:=hr11
   obtain ⟨p5,x4,hx4,he4,ep4⟩:=Sl.at (hxs.mono (hle7.trans hle9)) k2 (by omega)
   obtain rfl : xv = x4:=Option.some.inj (hxv.symm.trans hx4)
   obtain ⟨cs4,hc5,hr12⟩:=he4
   obtain ⟨rfl,Xj⟩:=hr12
   refine drT [12,13,14,15,16,17,18] [(58, .agg #[Zb t.s.name,v1, .int .i64 t.s.key,v2]),(60,v3),(63, .pointer (some p4)),(64, .int .i64 yv),(67, .pointer (some p5)),(68, .int .i64 xv)] hS29 ⟨fun _ hSw=>Zc hSw (Xw.drop 0 (hc1.mono ((((((hle2.trans hle3).trans hle4).trans hle5).trans hle6).trans hle7).trans hle9))) [Zb t.s.name,v1, .int .i64 t.s.key,v2] ZbX rfl rfl rfl rfl rfl <| nu rfl rfl,fun _ hSw=>Za hSw (Xw.drop 4 (hc1.mono ((((((hle2.trans hle3).trans hle4).trans hle5).trans hle6).trans hle7).trans hle9))) Xg rfl rfl rfl <| nu rfl rfl,fun _=>Zk k3 ep3 Yz Zp rfl rfl rfl rfl <| nu rfl rfl,fun _ hSw=>Za hSw hc4 Zp rfl rfl rfl <| nu rfl rfl,fun _=>Zk k2 ep4 Yz Zp rfl rfl rfl rfl <| nu rfl rfl,fun _ hSw=>Za hSw hc5 Zp rfl rfl rfl <| nu rfl rfl,trivial⟩ (fun w21 hS30=>?_)
   refine TGI.toTG (I:=fun w9=>GH.In G9 w9) _ _ _ _ ?_
   refine TGI.fork 6 [12,13,14,15,16,17,18] [12] rfl rfl (by decide) (by decide) (TAI.cons rfl ?_ TAI.nil)
   refine Z6 hS30 ZwF rfl rfl rfl (ZlO hS30.imm t.rows yv xv _ (hs3.mono (((((((hle1.trans hle2).trans hle3).trans hle4).trans hle5).trans hle6).trans hle7).trans hle9)) (by omega)) (fun w22 G10 r3 hpost3 hS31 hle10=>?_)
   refine ⟨fun _=>hS31.down hS30.le hle10,(hS31.imm.down hle10),?_⟩
   refine TGI.fork 5 [13,14,15,16,17,18] [13] rfl rfl (by decide) (by decide) (TAI.cons rfl ?_ TAI.nil)
   refine Z6 hS31 ZwE rfl rfl rfl (ZtK hS31.imm t.s (Yw t.rows yv xv) _ (XB t.s hb1 (hs1.mono ((((((((hle1.trans hle2).trans hle3).trans hle4).trans hle5).trans hle6).trans hle7).trans hle9).trans hle10)) hb2 (hs2.mono ((((((((hle1.trans hle2).trans hle3).trans hle4).trans hle5).trans hle6).trans hle7).trans hle9).trans hle10))) _ hpost3 (by omega) (ZpM hv _ _)) ?_
   rintro w23 G11 _ ⟨r5,_,rfl,hs8,rfl⟩ hS32 hle11
   refine ⟨fun h=>absurd h (by decide),(hS32.imm.down (hle10.trans hle11)),?_⟩
   refine TGI.quiet 4 [14,15,16,17,18] 14 rfl rfl rfl rfl rfl (by decide) (hS32.imm.down (hle10.trans hle11)) (fun w9 _ K9 k9=>WL.move rfl k9) ?_
   refine TGI.quiet 3 [15,16,17,18] 15 rfl rfl rfl rfl rfl (by decide) (hS32.imm.down (hle10.trans hle11)) (fun w9 _ K9 k9=>WL.extract _ _ rfl rfl rfl k9) ?_
   refine TGI.quiet 2 [16,17,18] 16 rfl rfl rfl rfl rfl (by decide) (hS32.imm.down (hle10.trans hle11)) (fun w9 _ K9 k9=>WL.extract _ _ rfl rfl rfl k9) ?_
   refine TGI.quiet 1 [17,18] 17 rfl rfl rfl rfl rfl (by decide) (hS32.imm.down (hle10.trans hle11)) (fun w9 _ K9 k9=>WL.assign rfl k9) ?_
   refine TGI.fork 0 [18] [18] rfl rfl (by decide) (by decide) (TAI.cons rfl ?_ TAI.nil)
   refine WL.assign rfl ?_
   refine ⟨fun h=>absurd h (by decide),(hS32.imm.down (hle10.trans hle11)),?_⟩
   refine TGI.fin rfl ?_
   refine XT (d:=10) rfl (fun (h4 : ((ZR t.s.key.toNat (Yw t.rows yv xv)).isSome) = true)=>?_) (fun (h4 : ((ZR t.s.key.toNat (Yw t.rows yv xv)).isSome) = false)=>?_)
   ·obtain ⟨p6,x5,hx5,he5,ep5⟩:=Sl.at (hys.mono (((hle7.trans hle9).trans hle10).trans hle11)) k3 (by omega)
    obtain rfl : yv = x5:=Option.some.inj (hyv.symm.trans hx5)
    obtain ⟨cs5,hc6,hr13⟩:=he5
    obtain ⟨rfl,XD⟩:=hr13
    obtain ⟨p7,x6,hx6,he6,ep6⟩:=Sl.at (hxs.mono (((hle7.trans hle9).trans hle10).trans hle11)) k2 (by omega)
    obtain rfl : xv = x6:=Option.some.inj (hxv.symm.trans hx6)
    obtain ⟨cs6,hc7,hr14⟩:=he6
    obtain ⟨rfl,X7⟩:=hr14
    refine drT [4,8,9,10,11] [(77, .pointer (some p6)),(81, .pointer (some p7))] hS32 ⟨fun _=>Zk k3 ep5 Yz Zp rfl rfl rfl rfl <| nu rfl rfl,fun _=>Zk k2 ep6 Yz Zp rfl rfl rfl rfl <| nu rfl rfl,trivial⟩ (fun w24 hS33=>?_)
    refine TGI.toTG (I:=fun w9=>GH.In G11 w9) _ _ _ _ ?_
    refine TGI.quiet 4 [4,8,9,10,11] 4 rfl rfl rfl rfl rfl (by decide) hS33.imm (fun w9 i9 K9 k9=>Za (St.start (X:=[]) i9) hc6 Zp rfl rfl rfl k9) ?_
    refine TGI.quiet 3 [8,9,10,11] 8 rfl rfl rfl rfl rfl (by decide) hS33.imm (fun w9 i9 K9 k9=>Za (St.start (X:=[]) i9) hc7 Zp rfl rfl rfl k9) ?_
    refine TGI.fork 2 [9,10,11] [9] rfl rfl (by decide) (by decide) (TAI.cons rfl ?_ TAI.nil)
    refine Z6 hS33 ZwG rfl rfl rfl (ZrN hS33.imm ((ZR t.s.key.toNat (Yw t.rows yv xv)).getD []) yv xv _ hs8 hyb.1 hxb.1 hyb.2 hxb.2) (fun w25 G12 r7 hpost5 hS34 hle12=>?_)
    obtain ⟨cs7,rfl,hr15⟩:=hpost5
    obtain ⟨v15,rfl,hs9,Qi,Qd,Qn,Q6⟩:=ZA hr15
    refine ⟨fun h=>absurd h (by decide),(hS34.imm.down hle12),?_⟩
    refine TGI.fork 1 [10,11] [10] rfl rfl (by decide) (by decide) (TAI.cons rfl ?_ TAI.nil)
    refine WL.store hS34 2 _ _ _ 0 _ [v15, .int .i64 ((ZN (some (Pt.mk xv yv ((ZR t.s.key.toNat (Yw t.rows yv xv)).getD [])))).r.d.a), .int .i64 ((ZN (some (Pt.mk xv yv ((ZR t.s.key.toNat (Yw t.rows yv xv)).getD [])))).r.d.b), .int .i64 ((ZN (some (Pt.mk xv yv ((ZR t.s.key.toNat (Yw t.rows yv xv)).getD [])))).r.x.a), .int .i64 ((ZN (some (Pt.mk xv yv ((ZR t.s.key.toNat (Yw t.rows yv xv)).getD [])))).r.x.b)] [v15, .int .i64 ((ZN (some (Pt.mk xv yv ((ZR t.s.key.toNat (Yw t.rows yv xv)).getD [])))).r.d.a), .int .i64 ((ZN (some (Pt.mk xv yv ((ZR t.s.key.toNat (Yw t.rows yv xv)).getD [])))).r.d.b), .int .i64 ((ZN (some (Pt.mk xv yv ((ZR t.s.key.toNat (Yw t.rows yv xv)).getD [])))).r.x.a), .int .i64 ((ZN (some (Pt.mk xv yv ((ZR t.s.key.toNat (Yw t.rows yv xv)).getD [])))).r.x.b)] _ rfl rfl Zt rfl (Nat.le_of_ble_eq_true rfl) (by simp only [List.all_cons,List.all_nil,hs9.oneC,Bool.true_and] <;> rfl) rfl rfl rfl rfl rfl (fun w26 hS35=>?_)
    refine ⟨fun h=>absurd h (by decide),(hS35.imm.down hle12),?_⟩
    refine TGI.quiet 0 [11] 11 rfl rfl rfl rfl rfl (by decide) (hS35.imm.down hle12) (fun w9 _ K9 k9=>WL.assign rfl k9) ?_
    refine TGI.fin rfl ?_
    exact Xe [.agg #[v15, .int .i64 ((ZN (some (Pt.mk xv yv ((ZR t.s.key.toNat (Yw t.rows yv xv)).getD [])))).r.d.a), .int .i64 ((ZN (some (Pt.mk xv yv ((ZR t.s.key.toNat (Yw t.rows yv xv)).getD [])))).r.d.b), .int .i64 ((ZN (some (Pt.mk xv yv ((ZR t.s.key.toNat (Yw t.rows yv xv)).getD [])))).r.x.a), .int .i64 ((ZN (some (Pt.mk xv yv ((ZR t.s.key.toNat (Yw t.rows yv xv)).getD [])))).r.x.b)], .bool true] hS35 ⟨_,_,_,rfl,rfl,hS35.loadA 2 _ _ _ 0 [v15, .int .i64 ((ZN (some (Pt.mk xv yv ((ZR t.s.key.toNat (Yw t.rows yv xv)).getD [])))).r.d.a), .int .i64 ((ZN (some (Pt.mk xv yv ((ZR t.s.key.toNat (Yw t.rows yv xv)).getD [])))).r.d.b), .int .i64 ((ZN (some (Pt.mk xv yv ((ZR t.s.key.toNat (Yw t.rows yv xv)).getD [])))).r.x.a), .int .i64 ((ZN (some (Pt.mk xv yv ((ZR t.s.key.toNat (Yw t.rows yv xv)).getD [])))).r.x.b)] rfl rfl rfl Zt rfl,⟨_,rfl,rfl⟩⟩ ⟨_,_,rfl,(Is.cast ⟨_,rfl,(ZQ (HRow.mk ((ZN (some (Pt.mk xv yv ((ZR t.s.key.toNat (Yw t.rows yv xv)).getD [])))).v) (Rect.mk (Span.mk ((ZN (some (Pt.mk xv yv ((ZR t.s.key.toNat (Yw t.rows yv xv)).getD [])))).r.d.a) ((ZN (some (Pt.mk xv yv ((ZR t.s.key.toNat (Yw t.rows yv xv)).getD [])))).r.d.b)) (Span.mk ((ZN (some (Pt.mk xv yv ((ZR t.s.key.toNat (Yw t.rows yv xv)).getD [])))).r.x.a) ((ZN (some (Pt.mk xv yv ((ZR t.s.key.toNat (Yw t.rows yv xv)).getD [])))).r.x.b)))) hs9 Qi Qd Qn Q6)⟩ (by exact (Zmy ‹_› hxv ‹_› hyv ‹_›).1)),(congrArg Value.bool (by exact (Zmy ‹_› hxv ‹_› hyv ‹_›).2))⟩
   refine Zl k3 (by have hreach : reach = 140737488355328:=rfl; omega) rfl rfl rfl ?_
   exact BK.mk' _ ⟨k3 + 1,G11,rfl,(hle9.trans (hle10.trans hle11)),hS32,⟨rfl,rfl,rfl,rfl,rfl,rfl,trivial⟩,(by omega),(by exact Xy ‹_› hyv (ZlP ‹_›))⟩ (show (ZY (t.rows.map (fun (r : HRow)=>r.r.d.a))).length - (k3 + 1) < (ZY (t.rows.map (fun (r : HRow)=>r.r.d.a))).length - k3 by omega)
  refine Zl k2 (by have hreach : reach = 140737488355328:=rfl; omega) rfl rfl rfl ?_
  exact BK.mk' _ ⟨k2 + 1,G9,rfl,(hle7.trans hle9),hS29,⟨rfl,rfl,rfl,rfl,rfl,trivial⟩,(by omega),(by exact Xy ‹_› hxv (ZpN ‹_› (by omega)))⟩ (show (ZY (t.rows.map (fun (r : HRow)=>r.r.x.a))).length - (k2 + 1) < (ZY (t.rows.map (fun (r : HRow)=>r.r.x.a))).length - k2 by omega)
 refine WL.build _ [] [.slice none 0 0, .int .i64 0, .int .i64 0, .int .i64 0, .int .i64 0] Zt rfl Zbr rfl rfl rfl rfl ?_
 refine WL.store hS28 2 _ _ _ 0 _ [.slice none 0 0, .int .i64 0, .int .i64 0, .int .i64 0, .int .i64 0] [.slice none 0 0, .int .i64 0, .int .i64 0, .int .i64 0, .int .i64 0] _ rfl rfl Zt rfl (Nat.le_of_ble_eq_true rfl) rfl rfl rfl rfl rfl rfl (fun w27 hS36=>?_)
 exact Xe [.agg #[.slice none 0 0, .int .i64 0, .int .i64 0, .int .i64 0, .int .i64 0], .bool false] hS36 ⟨_,_,_,rfl,rfl,hS36.loadA 2 _ _ _ 0 [.slice none 0 0, .int .i64 0, .int .i64 0, .int .i64 0, .int .i64 0] rfl rfl rfl Zt rfl,⟨_,rfl,rfl⟩⟩ ⟨_,_,rfl,(Is.cast ⟨_,rfl,(ZQ (HRow.mk [] (Rect.mk (Span.mk 0 0) (Span.mk 0 0))) (Sl.nil ValE 32 G7) ZM ZM ZM ZM)⟩ (by exact (Zmz ‹_› (by omega)).1)),(congrArg Value.bool (by exact (Zmz ‹_› (by omega)).2))⟩
end Go.Civ
