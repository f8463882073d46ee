/- Lemmas. -/
import Derived.Test.YthgeclodflmiaaaGreatC13
import Derived.Test.YthgeclodflmiaaaGreatC39
import Derived.Test.YthgeclodflmiaaaGreatProg
import Derived.KernelRfl
import Derived.WalkKit
set_option linter.unusedVariables false
set_option linter.unusedSimpArgs false
set_option maxRecDepth 100000
set_option maxHeartbeats 4000000
namespace Go.Civ
open Go.Proofs
theorem ZoE {G : GH} {w : World} (hG : G.In w) (t o : Table) (f : Foreign) (fr : Int) (ct : List Value) (hct : TableE.rep G t ct) (cu : List Value) (hcu : TableE.rep G o cu) (cf : List Value) (hcf : ForeignE.rep G f cf) (hfr : Z1 fr) (hfm : fr ≤ 253402300800) (hvt : Zy t = true) (hvo : Zy o = true) (hk : LinkOk (Link.mk t o f)) : CL Tryz.prog (nat_lit 33) #[.agg ct.toArray, .agg cu.toArray, .agg cf.toArray, .int .i64 fr] [] w G fun G' _ r=>∃ r0 r1,r = .tuple #[r0,r1] ∧ Is HRowE G' r0 (ZH (YS t o f fr)) ∧ r1 = .bool ((YS t o f fr).isSome):=by
 refine Y8 ft [] Tryz.func33 rfl rfl ?_
 have hS:=St.start (X:=[]) hG
 obtain ⟨v1,v2,v3,rfl,hb1,hs1,hb2,hs2,hs3,hb3⟩:=Z0 hct
 obtain ⟨v4,v5,v6,rfl,hb4,hs4,hb5,hs5,hs6,hb6⟩:=Z0 hcu
 obtain ⟨v7,rfl,hs7,hb7⟩:=XC hcf
 refine Z3 [Zc t.s.name,v1, .int .i64 t.s.key,v2,v3, .int .i64 t.last] _ hS rfl rfl rfl (fun p1 w1 G1 hle1 hsp1 hc1 hS1=>?_)
 refine Z3 [Zc o.s.name,v4, .int .i64 o.s.key,v5,v6, .int .i64 o.last] _ hS1 rfl rfl rfl (fun p2 w2 G2 hle2 hsp2 hc2 hS2=>?_)
 refine Z3 [v7,Zc f.table] _ hS2 rfl rfl rfl (fun p3 w3 G3 hle3 hsp3 hc3 hS3=>?_)
 refine WL.alloc hS3 Zt rfl rfl (fun b1 w4 hn1 hS4=>?_)
 obtain ⟨hgt9,hnt9,ht89,het9⟩:=ZW hvt
 obtain ⟨hgo9,hno9,ho89,heo9⟩:=ZW hvo
 have hfb : Z1 fr ∧ fr ≤ 253402300800:=⟨hfr,hfm⟩
 have hko:=Zf0 hvo
 have hfc : (f.cols.length : Int) = o.s.key:=hk.key
 have hkc:=(ZmJ (XS hvo).1)
 refine WL.buildSlice _ [] [] hS4 ZS rfl rfl rfl rfl (fun z hz=>by match z,hz with | [],_=>rfl) (fun b2 w5 hn2 hS5=>?_)
 refine WL.buildSlice _ [(0,[.int .i64 fr])] [.int .i64 fr] hS5 ZS rfl rfl rfl rfl (fun z hz=>by match z,hz with | [z0],_=>rfl) (fun b3 w6 hn3 hS6=>?_)
 have hr1 : Yb Enc.int 8 3 G3 (.slice (some ⟨b2,0,none⟩) 0 0) [] (some (b2,3,[])):=Yb.ofNew rfl rfl (by simp [reach]) (by simp [reach])
 have hr3 : Yb Enc.int 8 3 G3 (.slice (some ⟨b3,0,none⟩) 1 1) [fr] (some (b3,3,[.int .i64 fr])):=Yb.ofNew ⟨[.int .i64 fr],_,rfl,⟨rfl,hfr⟩,rfl⟩ rfl (by simp [reach]) (by simp [reach])
 refine LP.go ft [] (fun m ρ1 w1=>∃ (k1 : Nat),∃ (v9 : Value) (o1 : OB),∃ (v10 : Value) (o2 : OB),∃ (G4 : GH),m = t.rows.length - k1 ∧ G3.le G4 ∧ St w [] G G4 [o2,o1,some (b1,37,[.slice none 0 0, .int .i64 0, .int .i64 0, .int .i64 0, .int .i64 0])] w1 ∧ Yb Enc.int 8 3 G4 v9 ((t.rows.take k1).map (fun (r : HRow)=>r.r.d.a)) o1 ∧ Yb Enc.int 8 3 G4 v10 (fr :: (t.rows.take k1).map (fun (r : HRow)=>r.r.x.a)) o2 ∧ FR ρ1 [(3, .int .i64 fr),(4, .pointer (some p1)),(5, .pointer (some p2)),(6, .pointer (some p3)),(8, .pointer (some ⟨b1,0,none⟩)),(10,v9),(11,v10),(12, .int .i64 (k1 : Int))] ∧ k1 ≤ t.rows.length) _ ⟨0,(.slice (some ⟨b2,0,none⟩) 0 0),(some (b2,3,[])),(.slice (some ⟨b3,0,none⟩) 1 1),(some (b3,3,[.int .i64 fr])),G3,rfl,(G3.le_refl),hS6,(Yb.cast hr1 (by rfl)),(Yb.cast hr3 (by rfl)),⟨rfl,rfl,rfl,rfl,rfl,rfl,rfl,rfl,trivial⟩,(by omega)⟩ ?_
 rintro m ρ1 w7 ⟨k1,v9,o1,v10,o2,G4,rfl,hle4,hS7,hr2,hr4,hF9,f1⟩
 refine hF9.set ?_
 clear hF9
 have hlt:=List.length_take_le' k1 t.rows
 refine Za hS7 (XL.drop 4 (hc1.mono ((hle2.trans hle3).trans hle4))) YJ rfl rfl rfl ?_
 have bd1:=hs3.bound
 refine Zl (hs3.mono (((hle1.trans hle2).trans hle3).trans hle4)) Yn rfl rfl ?_
 refine Zm (k1 : Int) (t.rows.length : Int) rfl rfl rfl (fun h1=>?_) (fun h1=>?_)
 ·refine drT [2,4,5,6,7,8,9,10,13,15,16,17,18,19,20,21,22,23] [] hS7 trivial (fun w9 hS8=>?_)
  refine TGI.toTG (I:=fun w9=>GH.In G4 w9) _ _ _ _ ?_
  refine TGI.quiet 17 [2,4,5,6,7,8,9,10,13,15,16,17,18,19,20,21,22,23] 2 rfl rfl rfl rfl rfl (by decide) hS8.imm (fun w9 i9 K9 k9=>Za (St.start (X:=[]) i9) (XL.drop 4 (hc1.mono ((hle2.trans hle3).trans hle4))) YJ rfl rfl rfl k9) ?_
  obtain ⟨p4,x1,hx1,he1,ep1⟩:=Sl.at (hs3.mono (((hle1.trans hle2).trans hle3).trans hle4)) k1 (by omega)
  obtain ⟨cs1,hc4,hr5⟩:=he1
  obtain ⟨v11,rfl,hs8,hb8,hb9,hb10,YL⟩:=Z7 hr5
  refine TGI.quiet 16 [4,5,6,7,8,9,10,13,15,16,17,18,19,20,21,22,23] 4 rfl rfl rfl rfl rfl (by decide) hS8.imm (fun w9 _ K9 k9=>Zi k1 ep1 Yn Zt rfl rfl rfl rfl k9) ?_
  refine TGI.quiet 15 [5,6,7,8,9,10,13,15,16,17,18,19,20,21,22,23] 5 rfl rfl rfl rfl rfl (by decide) hS8.imm (fun w9 _ K9 k9=>WL.fieldAddr _ 1 _ Zag rfl rfl rfl k9) ?_
  refine TGI.quiet 14 [6,7,8,9,10,13,15,16,17,18,19,20,21,22,23] 6 rfl rfl rfl rfl rfl (by decide) hS8.imm (fun w9 _ K9 k9=>WL.fieldAddr _ 0 _ ZbB rfl rfl rfl k9) ?_
  refine TGI.quiet 13 [7,8,9,10,13,15,16,17,18,19,20,21,22,23] 7 rfl rfl rfl rfl rfl (by decide) hS8.imm (fun w9 _ K9 k9=>WL.fieldAddr _ 0 _ Xs rfl rfl rfl k9) ?_
  refine TGI.quiet 12 [8,9,10,13,15,16,17,18,19,20,21,22,23] 8 rfl rfl rfl rfl rfl (by decide) hS8.imm (fun w9 i9 K9 k9=>Za (St.start (X:=[]) i9) (XL.drop 0 (XL.drop 0 (XL.drop 1 hc4))) Zr rfl rfl rfl k9) ?_
  refine TGI.quiet 11 [9,10,13,15,16,17,18,19,20,21,22,23] 13 rfl rfl rfl rfl rfl (by decide) hS8.imm (fun w9 i9 K9 k9=>Za (St.start (X:=[]) i9) (XL.drop 4 (hc1.mono ((hle2.trans hle3).trans hle4))) YJ rfl rfl rfl k9) ?_
  obtain ⟨p5,x2,hx2,he2,ep2⟩:=Sl.at (hs3.mono (((hle1.trans hle2).trans hle3).trans hle4)) k1 (by omega)
  obtain rfl : x1 = x2:=Option.some.inj (hx1.symm.trans hx2)
  obtain ⟨cs2,hc5,hr6⟩:=he2
  obtain ⟨v12,rfl,hs9,Xl,X2,Qg,Q8⟩:=Z7 hr6
  refine TGI.quiet 10 [9,10,15,16,17,18,19,20,21,22,23] 15 rfl rfl rfl rfl rfl (by decide) hS8.imm (fun w9 _ K9 k9=>Zi k1 ep2 Yn Zt rfl rfl rfl rfl k9) ?_
  refine TGI.quiet 9 [9,10,16,17,18,19,20,21,22,23] 16 rfl rfl rfl rfl rfl (by decide) hS8.imm (fun w9 _ K9 k9=>WL.fieldAddr _ 1 _ Zag rfl rfl rfl k9) ?_
  refine TGI.quiet 8 [9,10,17,18,19,20,21,22,23] 17 rfl rfl rfl rfl rfl (by decide) hS8.imm (fun w9 _ K9 k9=>WL.fieldAddr _ 2 _ ZbB rfl rfl rfl k9) ?_
  refine TGI.quiet 7 [9,10,18,19,20,21,22,23] 18 rfl rfl rfl rfl rfl (by decide) hS8.imm (fun w9 _ K9 k9=>WL.fieldAddr _ 0 _ Xs rfl rfl rfl k9) ?_
  refine TGI.quiet 6 [9,10,19,20,21,22,23] 19 rfl rfl rfl rfl rfl (by decide) hS8.imm (fun w9 i9 K9 k9=>Za (St.start (X:=[]) i9) (XL.drop 0 (XL.drop 2 (XL.drop 1 hc5))) Zr rfl rfl rfl k9) ?_
  refine TGI.fork 5 [9,10,20,21,22,23] [9,20] rfl rfl (by decide) (by decide) (TAI.cons rfl ?_ (TAI.cons rfl ?_ TAI.nil))
  ·refine WL.buildSlice _ [(0,[.int .i64 x1.r.d.a])] [.int .i64 x1.r.d.a] hS8 ZS rfl rfl rfl rfl (fun z hz=>by match z,hz with | [z0],_=>rfl) (fun b4 w10 hn4 hS9=>?_)
   refine ⟨fun h=>absurd h (by decide),hS9.imm,?_⟩
   refine TGI.fork 4 [10,20,21,22,23] [10,20] rfl rfl (by decide) (by decide) (TAI.cons rfl ?_ (TAI.cons rfl ?_ TAI.nil))
   ·refine WL.push (m:=([x1.r.d.a] : List Int)) ZS rfl rfl rfl hr2 hS9 2 rfl 0 _ _ _ _ _ rfl ⟨[.int .i64 x1.r.d.a],_,rfl,⟨rfl,hb8⟩,rfl⟩ rfl (by have hreach : reach = 140737488355328:=rfl; simp only [List.length_append,List.length_map,List.length_cons,List.length_nil]; omega) (by have hreach : reach = 140737488355328:=rfl; simp only [List.length_append,List.length_map,List.length_cons,List.length_nil]; omega) rfl rfl rfl (fun v13 o3 w11 hr7 hS10=>?_)
    have hS11:=hS10.tail
    refine ⟨fun h=>absurd h (by decide),hS11.imm,?_⟩
    refine TGI.fork 3 [20,21,22,23] [20] rfl rfl (by decide) (by decide) (TAI.cons rfl ?_ TAI.nil)
    refine WL.buildSlice _ [(0,[.int .i64 x1.r.x.a])] [.int .i64 x1.r.x.a] hS11 ZS rfl rfl rfl rfl (fun z hz=>by match z,hz with | [z0],_=>rfl) (fun b5 w12 hn5 hS12=>?_)
    refine ⟨fun h=>absurd h (by decide),hS12.imm,?_⟩
    refine TGI.fork 2 [21,22,23] [21] rfl rfl (by decide) (by decide) (TAI.cons rfl ?_ TAI.nil)
    refine WL.push (m:=([x1.r.x.a] : List Int)) ZS rfl rfl rfl hr4 hS12 1 rfl 0 _ _ _ _ _ rfl ⟨[.int .i64 x1.r.x.a],_,rfl,⟨rfl,Qg⟩,rfl⟩ rfl (by have hreach : reach = 140737488355328:=rfl; simp only [List.length_append,List.length_map,List.length_cons,List.length_nil]; omega) (by have hreach : reach = 140737488355328:=rfl; simp only [List.length_append,List.length_map,List.length_cons,List.length_nil]; omega) rfl rfl rfl (fun v14 o4 w13 hr8 hS13=>?_)
    have hS14:=hS13.tail
    refine ⟨fun h=>absurd h (by decide),hS14.imm,?_⟩
    refine TGI.quiet 1 [22,23] 22 rfl rfl rfl rfl rfl (by decide) hS14.imm (fun w9 _ K9 k9=>WL.assign rfl k9) ?_
    refine TGI.quiet 0 [23] 23 rfl rfl rfl rfl rfl (by decide) hS14.imm (fun w9 _ K9 k9=>WL.assign rfl k9) ?_
    refine TGI.fin rfl ?_
    refine Zj k1 (by have hreach : reach = 140737488355328:=rfl; omega) rfl rfl rfl ?_
    exact BK.mk' _ ⟨k1 + 1,v13,o3,v14,o4,G4,rfl,hle4,hS14,(Yb.cast hr7 (by (rw [YC ‹_›]))),(Yb.cast hr8 (by (rw [YC ‹_›]; rfl))),⟨rfl,rfl,rfl,rfl,rfl,rfl,rfl,rfl,trivial⟩,(by omega)⟩ (show t.rows.length - (k1 + 1) < t.rows.length - k1 by omega)
   refine WL.buildSlice _ [(0,[.int .i64 x1.r.x.a])] [.int .i64 x1.r.x.a] hS9 ZS rfl rfl rfl rfl (fun z hz=>by match z,hz with | [z0],_=>rfl) (fun b6 w14 hn6 hS15=>?_)
   refine ⟨fun h=>absurd h (by decide),hS15.imm,?_⟩
   refine TGI.fork 3 [10,21,22,23] [10] rfl rfl (by decide) (by decide) (TAI.cons rfl ?_ TAI.nil)
   refine WL.push (m:=([x1.r.d.a] : List Int)) ZS rfl rfl rfl hr2 hS15 3 rfl 1 _ _ _ _ _ rfl ⟨[.int .i64 x1.r.d.a],_,rfl,⟨rfl,hb8⟩,rfl⟩ rfl (by have hreach : reach = 140737488355328:=rfl; simp only [List.length_append,List.length_map,List.length_cons,List.length_nil]; omega) (by have hreach : reach = 140737488355328:=rfl; simp only [List.length_append,List.length_map,List.length_cons,List.length_nil]; omega) rfl rfl rfl (fun v15 o5 w15 hr9 hS16=>?_)
   refine ⟨fun h=>absurd h (by decide),hS16.imm,?_⟩
   refine TGI.fork 2 [21,22,23] [21] rfl rfl (by decide) (by decide) (TAI.cons rfl ?_ TAI.nil)
   refine WL.push (m:=([x1.r.x.a] : List Int)) ZS rfl rfl rfl hr4 hS16 2 rfl 0 _ _ _ _ _ rfl ⟨[.int .i64 x1.r.x.a],_,rfl,⟨rfl,Qg⟩,rfl⟩ rfl (by have hreach : reach = 140737488355328:=rfl; simp only [List.length_append,List.length_map,List.length_cons,List.length_nil]; omega) (by have hreach : reach = 140737488355328:=rfl; simp only [List.length_append,List.length_map,List.length_cons,List.length_nil]; omega) rfl rfl rfl (fun v16 o6 w16 hr10 hS17=>?_)
   have hS18:=hS17.tail
   refine ⟨fun h=>absurd h (by decide),hS18.imm,?_⟩
   refine TGI.quiet 1 [22,23] 22 rfl rfl rfl rfl rfl (by decide) hS18.imm (fun w9 _ K9 k9=>WL.assign rfl k9) ?_
   refine TGI.quiet 0 [23] 23 rfl rfl rfl rfl rfl (by decide) hS18.imm (fun w9 _ K9 k9=>WL.assign rfl k9) ?_
   refine TGI.fin rfl ?_
   refine Zj k1 (by have hreach : reach = 140737488355328:=rfl; omega) rfl rfl rfl ?_
   have hS19:=hS18.tail
   exact BK.mk' _ ⟨k1 + 1,v15,o5,v16,o6,G4,rfl,hle4,hS19,(Yb.cast hr9 (by (rw [YC ‹_›]))),(Yb.cast hr10 (by (rw [YC ‹_›]; rfl))),⟨rfl,rfl,rfl,rfl,rfl,rfl,rfl,rfl,trivial⟩,(by omega)⟩ (show t.rows.length - (k1 + 1) < t.rows.length - k1 by omega)
  refine WL.buildSlice _ [(0,[.int .i64 x1.r.x.a])] [.int .i64 x1.r.x.a] hS8 ZS rfl rfl rfl rfl (fun z hz=>by match z,hz with | [z0],_=>rfl) (fun b7 w17 hn7 hS20=>?_)
  refine ⟨fun h=>absurd h (by decide),hS20.imm,?_⟩
  refine TGI.fork 4 [9,10,21,22,23] [9] rfl rfl (by decide) (by decide) (TAI.cons rfl ?_ TAI.nil)
  refine WL.buildSlice _ [(0,[.int .i64 x1.r.d.a])] [.int .i64 x1.r.d.a] hS20 ZS rfl rfl rfl rfl (fun z hz=>by match z,hz with | [z0],_=>rfl) (fun b8 w18 hn8 hS21=>?_)
  refine ⟨fun h=>absurd h (by decide),hS21.imm,?_⟩
  refine TGI.fork 3 [10,21,22,23] [10] rfl rfl (by decide) (by decide) (TAI.cons rfl ?_ TAI.nil)
  refine WL.push (m:=([x1.r.d.a] : List Int)) ZS rfl rfl rfl hr2 hS21 3 rfl 0 _ _ _ _ _ rfl ⟨[.int .i64 x1.r.d.a],_,rfl,⟨rfl,hb8⟩,rfl⟩ rfl (by have hreach : reach = 140737488355328:=rfl; simp only [List.length_append,List.length_map,List.length_cons,List.length_nil]; omega) (by have hreach : reach = 140737488355328:=rfl; simp only [List.length_append,List.length_map,List.length_cons,List.length_nil]; omega) rfl rfl rfl (fun v17 o7 w19 hr11 hS22=>?_)
  have hS23:=hS22.tail
  refine ⟨fun h=>absurd h (by decide),hS23.imm,?_⟩
  refine TGI.fork 2 [21,22,23] [21] rfl rfl (by decide) (by decide) (TAI.cons rfl ?_ TAI.nil)
  refine WL.push (m:=([x1.r.x.a] : List Int)) ZS rfl rfl rfl hr4 hS23 1 rfl 0 _ _ _ _ _ rfl ⟨[.int .i64 x1.r.x.a],_,rfl,⟨rfl,Qg⟩,rfl⟩ rfl (by have hreach : reach = 140737488355328:=rfl; simp only [List.length_append,List.length_map,List.length_cons,List.length_nil]; omega) (by have hreach : reach = 140737488355328:=rfl; simp only [List.length_append,List.length_map,List.length_cons,List.length_nil]; omega) rfl rfl rfl (fun v18 o8 w20 hr12 hS24=>?_)
  have hS25:=hS24.tail
  refine ⟨fun h=>absurd h (by decide),hS25.imm,?_⟩
  refine TGI.quiet 1 [22,23] 22 rfl rfl rfl rfl rfl (by decide) hS25.imm (fun w9 _ K9 k9=>WL.assign rfl k9) ?_
  refine TGI.quiet 0 [23] 23 rfl rfl rfl rfl rfl (by decide) hS25.imm (fun w9 _ K9 k9=>WL.assign rfl k9) ?_
  refine TGI.fin rfl ?_
  refine Zj k1 (by have hreach : reach = 140737488355328:=rfl; omega) rfl rfl rfl ?_
  exact BK.mk' _ ⟨k1 + 1,v17,o7,v18,o8,G4,rfl,hle4,hS25,(Yb.cast hr11 (by (rw [YC ‹_›]))),(Yb.cast hr12 (by (rw [YC ‹_›]; rfl))),⟨rfl,rfl,rfl,rfl,rfl,rfl,rfl,rfl,trivial⟩,(by omega)⟩ (show t.rows.length - (k1 + 1) < t.rows.length - k1 by omega)
 refine LP.go ft [] (fun m ρ1 w1=>∃ (k2 : Nat),∃ (v19 : Value) (o9 : OB),∃ (v20 : Value) (o10 : OB),∃ (G5 : GH),m = o.rows.length - k2 ∧ G4.le G5 ∧ St w [] G G5 [o10,o9,some (b1,37,[.slice none 0 0, .int .i64 0, .int .i64 0, .int .i64 0, .int .i64 0])] w1 ∧ Yb Enc.int 8 3 G5 v19 ((t.rows.map (fun (r : HRow)=>r.r.d.a)) ++ (o.rows.take k2).map (fun (r : HRow)=>r.r.d.b)) o9 ∧ Yb Enc.int 8 3 G5 v20 ((fr :: t.rows.map (fun (r : HRow)=>r.r.x.a)) ++ (o.rows.take k2).map (fun (r : HRow)=>r.r.x.b)) o10 ∧ FR ρ1 [(3, .int .i64 fr),(4, .pointer (some p1)),(5, .pointer (some p2)),(6, .pointer (some p3)),(8, .pointer (some ⟨b1,0,none⟩)),(10,v19),(11,v20),(13, .int .i64 (k2 : Int))] ∧ k2 ≤ o.rows.length) _ ⟨0,v9,o1,v10,o2,G4,rfl,(G4.le_refl),hS7,(Yb.cast hr2 (by rw [List.take_of_length_le (by omega)]; simp)),(Yb.cast hr4 (by rw [List.take_of_length_le (by omega)]; simp)),⟨rfl,rfl,rfl,rfl,rfl,rfl,rfl,rfl,trivial⟩,(by omega)⟩ ?_
 rintro m ρ1 w21 ⟨k2,v19,o9,v20,o10,G5,rfl,hle5,hS26,hr13,hr14,hF9,f2⟩
 refine hF9.set ?_
 clear hF9
 have hlt2:=List.length_take_le' k2 o.rows
 refine Za hS26 (XL.drop 4 (hc2.mono ((hle3.trans hle4).trans hle5))) YJ rfl rfl rfl ?_
 have bd2:=hs6.bound
 refine Zl (hs6.mono ((((hle1.trans hle2).trans hle3).trans hle4).trans hle5)) Yn rfl rfl ?_
 refine Zm (k2 : Int) (o.rows.length : Int) rfl rfl rfl (fun h2=>?_) (fun h2=>?_)
 ·refine drT [2,4,5,6,7,8,9,10,13,15,16,17,18,19,20,21,22,23] [] hS26 trivial (fun w22 hS27=>?_)
  refine TGI.toTG (I:=fun w9=>GH.In G5 w9) _ _ _ _ ?_
  refine TGI.quiet 17 [2,4,5,6,7,8,9,10,13,15,16,17,18,19,20,21,22,23] 2 rfl rfl rfl rfl rfl (by decide) hS27.imm (fun w9 i9 K9 k9=>Za (St.start (X:=[]) i9) (XL.drop 4 (hc2.mono ((hle3.trans hle4).trans hle5))) YJ rfl rfl rfl k9) ?_
  obtain ⟨p6,x3,hx3,he3,ep3⟩:=Sl.at (hs6.mono ((((hle1.trans hle2).trans hle3).trans hle4).trans hle5)) k2 (by omega)
  obtain ⟨cs3,hc6,hr15⟩:=he3
  obtain ⟨v21,rfl,hs10,QS,QK,ZaO,ZbC⟩:=Z7 hr15
  refine TGI.quiet 16 [4,5,6,7,8,9,10,13,15,16,17,18,19,20,21,22,23] 4 rfl rfl rfl rfl rfl (by decide) hS27.imm (fun w9 _ K9 k9=>Zi k2 ep3 Yn Zt rfl rfl rfl rfl k9) ?_
  refine TGI.quiet 15 [5,6,7,8,9,10,13,15,16,17,18,19,20,21,22,23] 5 rfl rfl rfl rfl rfl (by decide) hS27.imm (fun w9 _ K9 k9=>WL.fieldAddr _ 1 _ Zag rfl rfl rfl k9) ?_
  refine TGI.quiet 14 [6,7,8,9,10,13,15,16,17,18,19,20,21,22,23] 6 rfl rfl rfl rfl rfl (by decide) hS27.imm (fun w9 _ K9 k9=>WL.fieldAddr _ 0 _ ZbB rfl rfl rfl k9) ?_
  refine TGI.quiet 13 [7,8,9,10,13,15,16,17,18,19,20,21,22,23] 7 rfl rfl rfl rfl rfl (by decide) hS27.imm (fun w9 _ K9 k9=>WL.fieldAddr _ 1 _ Xs rfl rfl rfl k9) ?_
  refine TGI.quiet 12 [8,9,10,13,15,16,17,18,19,20,21,22,23] 8 rfl rfl rfl rfl rfl (by decide) hS27.imm (fun w9 i9 K9 k9=>Za (St.start (X:=[]) i9) (XL.drop 1 (XL.drop 0 (XL.drop 1 hc6))) Zr rfl rfl rfl k9) ?_
  refine TGI.quiet 11 [9,10,13,15,16,17,18,19,20,21,22,23] 13 rfl rfl rfl rfl rfl (by decide) hS27.imm (fun w9 i9 K9 k9=>Za (St.start (X:=[]) i9) (XL.drop 4 (hc2.mono ((hle3.trans hle4).trans hle5))) YJ rfl rfl rfl k9) ?_
  obtain ⟨p7,x4,hx4,he4,ep4⟩:=Sl.at (hs6.mono ((((hle1.trans hle2).trans hle3).trans hle4).trans hle5)) k2 (by omega)
  obtain rfl : x3 = x4:=Option.some.inj (hx3.symm.trans hx4)
  obtain ⟨cs4,hc7,hr16⟩:=he4
  obtain ⟨v22,rfl,hs11,Zcg,Zds,Zhm,Zdt⟩:=Z7 hr16
  refine TGI.quiet 10 [9,10,15,16,17,18,19,20,21,22,23] 15 rfl rfl rfl rfl rfl (by decide) hS27.imm (fun w9 _ K9 k9=>Zi k2 ep4 Yn Zt rfl rfl rfl rfl k9) ?_
  refine TGI.quiet 9 [9,10,16,17,18,19,20,21,22,23] 16 rfl rfl rfl rfl rfl (by decide) hS27.imm (fun w9 _ K9 k9=>WL.fieldAddr _ 1 _ Zag rfl rfl rfl k9) ?_
  refine TGI.quiet 8 [9,10,17,18,19,20,21,22,23] 17 rfl rfl rfl rfl rfl (by decide) hS27.imm (fun w9 _ K9 k9=>WL.fieldAddr _ 2 _ ZbB rfl rfl rfl k9) ?_
  refine TGI.quiet 7 [9,10,18,19,20,21,22,23] 18 rfl rfl rfl rfl rfl (by decide) hS27.imm (fun w9 _ K9 k9=>WL.fieldAddr _ 1 _ Xs rfl rfl rfl k9) ?_
  refine TGI.quiet 6 [9,10,19,20,21,22,23] 19 rfl rfl rfl rfl rfl (by decide) hS27.imm (fun w9 i9 K9 k9=>Za (St.start (X:=[]) i9) (XL.drop 1 (XL.drop 2 (XL.drop 1 hc7))) Zr rfl rfl rfl k9) ?_
  refine TGI.fork 5 [9,10,20,21,22,23] [9,20] rfl rfl (by decide) (by decide) (TAI.cons rfl ?_ (TAI.cons rfl ?_ TAI.nil))
  ·refine WL.buildSlice _ [(0,[.int .i64 x3.r.d.b])] [.int .i64 x3.r.d.b] hS27 ZS rfl rfl rfl rfl (fun z hz=>by match z,hz with | [z0],_=>rfl) (fun b9 w23 hn9 hS28=>?_)
   refine ⟨fun h=>absurd h (by decide),hS28.imm,?_⟩
   refine TGI.fork 4 [10,20,21,22,23] [10,20] rfl rfl (by decide) (by decide) (TAI.cons rfl ?_ (TAI.cons rfl ?_ TAI.nil))
   ·refine WL.push (m:=([x3.r.d.b] : List Int)) ZS rfl rfl rfl hr13 hS28 2 rfl 0 _ _ _ _ _ rfl ⟨[.int .i64 x3.r.d.b],_,rfl,⟨rfl,QK⟩,rfl⟩ rfl (by have hreach : reach = 140737488355328:=rfl; simp only [List.length_append,List.length_map,List.length_cons,List.length_nil]; omega) (by have hreach : reach = 140737488355328:=rfl; simp only [List.length_append,List.length_map,List.length_cons,List.length_nil]; omega) rfl rfl rfl (fun v23 o11 w24 hr17 hS29=>?_)
    have hS30:=hS29.tail
    refine ⟨fun h=>absurd h (by decide),hS30.imm,?_⟩
    refine TGI.fork 3 [20,21,22,23] [20] rfl rfl (by decide) (by decide) (TAI.cons rfl ?_ TAI.nil)
    refine WL.buildSlice _ [(0,[.int .i64 x3.r.x.b])] [.int .i64 x3.r.x.b] hS30 ZS rfl rfl rfl rfl (fun z hz=>by match z,hz with | [z0],_=>rfl) (fun b10 w25 hn10 hS31=>?_)
    refine ⟨fun h=>absurd h (by decide),hS31.imm,?_⟩
    refine TGI.fork 2 [21,22,23] [21] rfl rfl (by decide) (by decide) (TAI.cons rfl ?_ TAI.nil)
    refine WL.push (m:=([x3.r.x.b] : List Int)) ZS rfl rfl rfl hr14 hS31 1 rfl 0 _ _ _ _ _ rfl ⟨[.int .i64 x3.r.x.b],_,rfl,⟨rfl,Zdt⟩,rfl⟩ rfl (by have hreach : reach = 140737488355328:=rfl; simp only [List.length_append,List.length_map,List.length_cons,List.length_nil]; omega) (by have hreach : reach = 140737488355328:=rfl; simp only [List.length_append,List.length_map,List.length_cons,List.length_nil]; omega) rfl rfl rfl (fun v24 o12 w26 hr18 hS32=>?_)
    have hS33:=hS32.tail
    refine ⟨fun h=>absurd h (by decide),hS33.imm,?_⟩
    refine TGI.quiet 1 [22,23] 22 rfl rfl rfl rfl rfl (by decide) hS33.imm (fun w9 _ K9 k9=>WL.assign rfl k9) ?_
    refine TGI.quiet 0 [23] 23 rfl rfl rfl rfl rfl (by decide) hS33.imm (fun w9 _ K9 k9=>WL.assign rfl k9) ?_
    refine TGI.fin rfl ?_
    refine Zj k2 (by have hreach : reach = 140737488355328:=rfl; omega) rfl rfl rfl ?_
    exact BK.mk' _ ⟨k2 + 1,v23,o11,v24,o12,G5,rfl,hle5,hS33,(Yb.cast hr17 (by (rw [YC ‹_›,List.append_assoc]))),(Yb.cast hr18 (by (rw [YC ‹_›,List.append_assoc]))),⟨rfl,rfl,rfl,rfl,rfl,rfl,rfl,rfl,trivial⟩,(by omega)⟩ (show o.rows.length - (k2 + 1) < o.rows.length - k2 by omega)
   refine WL.buildSlice _ [(0,[.int .i64 x3.r.x.b])] [.int .i64 x3.r.x.b] hS28 ZS rfl rfl rfl rfl (fun z hz=>by match z,hz with | [z0],_=>rfl) (fun b11 w27 hn11 hS34=>?_)
   refine ⟨fun h=>absurd h (by decide),hS34.imm,?_⟩
   refine TGI.fork 3 [10,21,22,23] [10] rfl rfl (by decide) (by decide) (TAI.cons rfl ?_ TAI.nil)
   refine WL.push (m:=([x3.r.d.b] : List Int)) ZS rfl rfl rfl hr13 hS34 3 rfl 1 _ _ _ _ _ rfl ⟨[.int .i64 x3.r.d.b],_,rfl,⟨rfl,QK⟩,rfl⟩ rfl (by have hreach : reach = 140737488355328:=rfl; simp only [List.length_append,List.length_map,List.length_cons,List.length_nil]; omega) (by have hreach : reach = 140737488355328:=rfl; simp only [List.length_append,List.length_map,List.length_cons,List.length_nil]; omega) rfl rfl rfl (fun v25 o13 w28 hr19 hS35=>?_)
   refine ⟨fun h=>absurd h (by decide),hS35.imm,?_⟩
   refine TGI.fork 2 [21,22,23] [21] rfl rfl (by decide) (by decide) (TAI.cons rfl ?_ TAI.nil)
   refine WL.push (m:=([x3.r.x.b] : List Int)) ZS rfl rfl rfl hr14 hS35 2 rfl 0 _ _ _ _ _ rfl ⟨[.int .i64 x3.r.x.b],_,rfl,⟨rfl,Zdt⟩,rfl⟩ rfl (by have hreach : reach = 140737488355328:=rfl; simp only [List.length_append,List.length_map,List.length_cons,List.length_nil]; omega) (by have hreach : reach = 140737488355328:=rfl; simp only [List.length_append,List.length_map,List.length_cons,List.length_nil]; omega) rfl rfl rfl (fun v26 o14 w29 hr20 hS36=>?_)
   have hS37:=hS36.tail
   refine ⟨fun h=>absurd h (by decide),hS37.imm,?_⟩
   refine TGI.quiet 1 [22,23] 22 rfl rfl rfl rfl rfl (by decide) hS37.imm (fun w9 _ K9 k9=>WL.assign rfl k9) ?_
   refine TGI.quiet 0 [23] 23 rfl rfl rfl rfl rfl (by decide) hS37.imm (fun w9 _ K9 k9=>WL.assign rfl k9) ?_
   refine TGI.fin rfl ?_
   refine Zj k2 (by have hreach : reach = 140737488355328:=rfl; omega) rfl rfl rfl ?_
   have hS38:=hS37.tail
   exact BK.mk' _ ⟨k2 + 1,v25,o13,v26,o14,G5,rfl,hle5,hS38,(Yb.cast hr19 (by (rw [YC ‹_›,List.append_assoc]))),(Yb.cast hr20 (by (rw [YC ‹_›,List.append_assoc]))),⟨rfl,rfl,rfl,rfl,rfl,rfl,rfl,rfl,trivial⟩,(by omega)⟩ (show o.rows.length - (k2 + 1) < o.rows.length - k2 by omega)
  refine WL.buildSlice _ [(0,[.int .i64 x3.r.x.b])] [.int .i64 x3.r.x.b] hS27 ZS rfl rfl rfl rfl (fun z hz=>by match z,hz with | [z0],_=>rfl) (fun b12 w30 hn12 hS39=>?_)
  refine ⟨fun h=>absurd h (by decide),hS39.imm,?_⟩
  refine TGI.fork 4 [9,10,21,22,23] [9] rfl rfl (by decide) (by decide) (TAI.cons rfl ?_ TAI.nil)
  refine WL.buildSlice _ [(0,[.int .i64 x3.r.d.b])] [.int .i64 x3.r.d.b] hS39 ZS rfl rfl rfl rfl (fun z hz=>by match z,hz with | [z0],_=>rfl) (fun b13 w31 hn13 hS40=>?_)
  refine ⟨fun h=>absurd h (by decide),hS40.imm,?_⟩
  refine TGI.fork 3 [10,21,22,23] [10] rfl rfl (by decide) (by decide) (TAI.cons rfl ?_ TAI.nil)
  refine WL.push (m:=([x3.r.d.b] : List Int)) ZS rfl rfl rfl hr13 hS40 3 rfl 0 _ _ _ _ _ rfl ⟨[.int .i64 x3.r.d.b],_,rfl,⟨rfl,QK⟩,rfl⟩ rfl (by have hreach : reach = 140737488355328:=rfl; simp only [List.length_append,List.length_map,List.length_cons,List.length_nil]; omega) (by have hreach : reach = 140737488355328:=rfl; simp only [List.length_append,List.length_map,List.length_cons,List.length_nil]; omega) rfl rfl rfl (fun v27 o15 w32 hr21 hS41=>?_)
  have hS42:=hS41.tail
  refine ⟨fun h=>absurd h (by decide),hS42.imm,?_⟩
  refine TGI.fork 2 [21,22,23] [21] rfl rfl (by decide) (by decide) (TAI.cons rfl ?_ TAI.nil)
  refine WL.push (m:=([x3.r.x.b] : List Int)) ZS rfl rfl rfl hr14 hS42 1 rfl 0 _ _ _ _ _ rfl ⟨[.int .i64 x3.r.x.b],_,rfl,⟨rfl,Zdt⟩,rfl⟩ rfl (by have hreach : reach = 140737488355328:=rfl; simp only [List.length_append,List.length_map,List.length_cons,List.length_nil]; omega) (by have hreach : reach = 140737488355328:=rfl; simp only [List.length_append,List.length_map,List.length_cons,List.length_nil]; omega) rfl rfl rfl (fun v28 o16 w33 hr22 hS43=>?_)
  have hS44:=hS43.tail
  refine ⟨fun h=>absurd h (by decide),hS44.imm,?_⟩
  refine TGI.quiet 1 [22,23] 22 rfl rfl rfl rfl rfl (by decide) hS44.imm (fun w9 _ K9 k9=>WL.assign rfl k9) ?_
  refine TGI.quiet 0 [23] 23 rfl rfl rfl rfl rfl (by decide) hS44.imm (fun w9 _ K9 k9=>WL.assign rfl k9) ?_
  refine TGI.fin rfl ?_
  refine Zj k2 (by have hreach : reach = 140737488355328:=rfl; omega) rfl rfl rfl ?_
  exact BK.mk' _ ⟨k2 + 1,v27,o15,v28,o16,G5,rfl,hle5,hS44,(Yb.cast hr21 (by (rw [YC ‹_›,List.append_assoc]))),(Yb.cast hr22 (by (rw [YC ‹_›,List.append_assoc]))),⟨rfl,rfl,rfl,rfl,rfl,rfl,rfl,rfl,trivial⟩,(by omega)⟩ (show o.rows.length - (k2 + 1) < o.rows.length - k2 by omega)
 obtain ⟨G6,hle6,hs12,hS45⟩:=Yb.freeze hr13 hS26 1 rfl
 refine Z8 hS45 ZlU rfl rfl rfl (ZiP hS45.imm ((t.rows.map (fun (r : HRow)=>r.r.d.a)) ++ (o.rows.take k2).map (fun (r : HRow)=>r.r.d.b)) _ hs12 (by simp only [List.length_append,List.length_cons,List.length_map]; omega)) (fun w34 G7 r1 hpost1 hS46 hle7=>?_)
 obtain ⟨G9,hle9,hs13,hS47⟩:=Yb.freeze (hr14.mono (hle6.trans hle7)) hS46 0 rfl
 refine Z8 hS47 ZlU rfl rfl rfl (ZiP hS47.imm ((fr :: t.rows.map (fun (r : HRow)=>r.r.x.a)) ++ (o.rows.take k2).map (fun (r : HRow)=>r.r.x.b)) _ hs13 (by simp only [List.length_append,List.length_cons,List.length_map]; omega)) (fun w35 G10 r2 hpost2 hS48 hle10=>?_)
 have hgys:=Sl.cast (l':=(gYS t o)) (hpost1.mono (hle9.trans hle10)) (by rw [List.take_of_length_le (by omega)])
 have hgxs:=Sl.cast (l':=(gXS t o fr)) hpost2 (by rw [List.take_of_length_le (by omega)])
 have hyl:=ZcO ((t.rows.map (fun (r : HRow)=>r.r.d.a)) ++ o.rows.map (fun (r : HRow)=>r.r.d.b))
 have hxl:=ZcO ((fr :: t.rows.map (fun (r : HRow)=>r.r.x.a)) ++ o.rows.map (fun (r : HRow)=>r.r.x.b))
 simp only [List.length_append,List.length_cons,List.length_map] at hyl hxl
 refine LP.go ft [] (fun m ρ1 w1=>∃ (k3 : Nat),∃ (G11 : GH),m = (gXS t o fr).length - k3 ∧ G10.le G11 ∧ St w [] G G11 [none,none,some (b1,37,[.slice none 0 0, .int .i64 0, .int .i64 0, .int .i64 0, .int .i64 0])] w1 ∧ FR ρ1 [(3, .int .i64 fr),(4, .pointer (some p1)),(5, .pointer (some p2)),(6, .pointer (some p3)),(8, .pointer (some ⟨b1,0,none⟩)),(10,r1),(11,r2),(14, .int .i64 (k3 : Int))] ∧ k3 ≤ (gXS t o fr).length ∧ ∀ i,i < k3 → ∀ x,(gXS t o fr)[i]? = some x → ZaI (gM t o f) o.rows t.rows fr (gYS t o) x = none) _ ⟨0,G10,rfl,(G10.le_refl),hS48,⟨rfl,rfl,rfl,rfl,rfl,rfl,rfl,rfl,trivial⟩,(by omega),(by intro i hi; omega)⟩ ?_
 rintro m ρ1 w36 ⟨k3,G11,rfl,hle11,hS49,hF9,f3,f4⟩
 refine hF9.set ?_
 clear hF9
 have bd3:=hgxs.bound
 refine Zl (hgxs.mono hle11) Yc rfl rfl ?_
 refine Zm (k3 : Int) (((gXS t o fr).length : Nat) : Int) rfl rfl rfl (fun h3=>?_) (fun h3=>?_)
 ·obtain ⟨xv,hxv⟩:=Za1 (l:=(gXS t o fr)) (k:=k3) (by omega)
  have hxb:=ZtI hgt9 hgo9 hfb hxv
  refine WL.indexAddr (hgxs.mono hle11) k3 (by omega) Yc Zr rfl rfl rfl rfl (fun p8 x5 hx5 he5=>?_)
  obtain rfl : xv = x5:=Option.some.inj (hxv.symm.trans hx5)
  obtain ⟨cs5,hc8,hr23⟩:=he5
  obtain ⟨rfl,ZcC⟩:=hr23
  refine Za hS49 hc8 Zr rfl rfl rfl ?_
  refine Zm xv fr rfl rfl rfl (fun h4=>?_) (fun h4=>?_)
  ·refine Zj k3 (by have hreach : reach = 140737488355328:=rfl; omega) rfl rfl rfl ?_
   exact BK.mk' _ ⟨k3 + 1,G11,rfl,hle11,hS49,⟨rfl,rfl,rfl,rfl,rfl,rfl,rfl,rfl,trivial⟩,(by omega),(by exact Yj ‹_› hxv (by exact Zo9 (.inl ‹_›)))⟩ (show (gXS t o fr).length - (k3 + 1) < (gXS t o fr).length - k3 by omega)
  refine WL.indexAddr (hgxs.mono hle11) k3 (by omega) Yc Zr rfl rfl rfl rfl (fun p9 x6 hx6 he6=>?_)
  obtain rfl : xv = x6:=Option.some.inj (hxv.symm.trans hx6)
  obtain ⟨cs6,hc9,hr24⟩:=he6
  obtain ⟨rfl,Zhn⟩:=hr24
  refine Za hS49 hc9 Zr rfl rfl rfl ?_
  refine Qt xv 253402300800 rfl rfl rfl (fun h5=>?_) (fun h5=>?_)
  ·refine Zj k3 (by have hreach : reach = 140737488355328:=rfl; omega) rfl rfl rfl ?_
   exact BK.mk' _ ⟨k3 + 1,G11,rfl,hle11,hS49,⟨rfl,rfl,rfl,rfl,rfl,rfl,rfl,rfl,trivial⟩,(by omega),(by exact Yj ‹_› hxv (by exact Zo9 (.inr ‹_›)))⟩ (show (gXS t o fr).length - (k3 + 1) < (gXS t o fr).length - k3 by omega)
  refine LP.go ft [] (fun m ρ1 w1=>∃ (k4 : Nat),∃ (G12 : GH),m = (gYS t o).length - k4 ∧ G11.le G12 ∧ St w [] G G12 [none,none,some (b1,37,[.slice none 0 0, .int .i64 0, .int .i64 0, .int .i64 0, .int .i64 0])] w1 ∧ FR ρ1 [(3, .int .i64 fr),(4, .pointer (some p1)),(5, .pointer (some p2)),(6, .pointer (some p3)),(8, .pointer (some ⟨b1,0,none⟩)),(10,r1),(11,r2),(14, .int .i64 (k3 : Int)),(15, .int .i64 (k4 : Int))] ∧ k4 ≤ (gYS t o).length ∧ ∀ i,i < k4 → ∀ y,(gYS t o)[i]? = some y → ((Zan (gM t o f) o.rows t.rows xv y).map fun v=>Pt.mk xv y v) = none) _ ⟨0,G11,rfl,(G11.le_refl),hS49,⟨rfl,rfl,rfl,rfl,rfl,rfl,rfl,rfl,rfl,trivial⟩,(by omega),(by intro i hi; omega)⟩ ?_
  rintro m ρ1 w37 ⟨k4,G12,rfl,hle12,hS50,hF9,f5,f6⟩
  refine hF9.set ?_
  clear hF9
  have bd4:=hgys.bound
  refine Zl (hgys.mono (hle11.trans hle12)) Yc rfl rfl ?_
  refine Zm (k4 : Int) (((gYS t o).length : Nat) : Int) rfl rfl rfl (fun h6=>?_) (fun h6=>?_)
  ·obtain ⟨yv,hyv⟩:=Za1 (l:=(gYS t o)) (k:=k4) (by omega)
   have hyb:=ZtJ hgt9 hgo9 hyv
   obtain ⟨p10,x7,hx7,he7,ep5⟩:=Sl.at (hgys.mono (hle11.trans hle12)) k4 (by omega)
   obtain rfl : yv = x7:=Option.some.inj (hyv.symm.trans hx7)
   obtain ⟨cs7,hc10,hr25⟩:=he7
   obtain ⟨rfl,ZdQ⟩:=hr25
   obtain ⟨p11,x9,hx8,he8,ep6⟩:=Sl.at (hgxs.mono (hle11.trans hle12)) k3 (by omega)
   obtain rfl : xv = x9:=Option.some.inj (hxv.symm.trans hx8)
   obtain ⟨cs8,hc11,hr26⟩:=he8
   obtain ⟨rfl,Zjx⟩:=hr26
   refine dr [(10,false),(11,false)] [(110,v3),(113, .pointer (some p10)),(114, .int .i64 yv),(117, .pointer (some p11)),(118, .int .i64 xv)] hS50 ⟨fun _ hSw=>Za hSw (XL.drop 4 (hc1.mono (((((((((hle2.trans hle3).trans hle4).trans hle5).trans hle6).trans hle7).trans hle9).trans hle10).trans hle11).trans hle12))) YJ rfl rfl rfl <| nu rfl rfl,fun _=>Zi k4 ep5 Yc Zr rfl rfl rfl rfl <| nu rfl rfl,fun _ hSw=>Za hSw hc10 Zr rfl rfl rfl <| nu rfl rfl,fun _=>Zi k3 ep6 Yc Zr rfl rfl rfl rfl <| nu rfl rfl,fun _ hSw=>Za hSw hc11 Zr rfl rfl rfl <| nu rfl rfl,trivial⟩ (fun w38 hS51=>?_)
   refine Z8 hS51 Zph rfl rfl rfl (Zd2 hS51.imm t.rows yv xv _ (hs3.mono ((((((((((hle1.trans hle2).trans hle3).trans hle4).trans hle5).trans hle6).trans hle7).trans hle9).trans hle10).trans hle11).trans hle12)) (by omega)) (fun w39 G13 r3 hpost3 hS52 hle13=>?_)
   obtain ⟨p12,x10,hx9,he9,ep7⟩:=Sl.at (hgys.mono ((hle11.trans hle12).trans hle13)) k4 (by omega)
   obtain rfl : yv = x10:=Option.some.inj (hyv.symm.trans hx9)
   obtain ⟨cs9,hc12,hr27⟩:=he9
   obtain ⟨rfl,ZlQ⟩:=hr27
   obtain ⟨p13,x11,hx10,he10,ep8⟩:=Sl.at (hgxs.mono ((hle11.trans hle12).trans hle13)) k3 (by omega)
   obtain rfl : xv = x11:=Option.some.inj (hxv.symm.trans hx10)
   obtain ⟨cs10,hc13,hr28⟩:=he10
   obtain ⟨rfl,ZsE⟩:=hr28
   refine dr [(10,false),(11,false)] [(121,v6),(124, .pointer (some p12)),(125, .int .i64 yv),(128, .pointer (some p13)),(129, .int .i64 xv)] hS52 ⟨fun _ hSw=>Za hSw (XL.drop 4 (hc2.mono (((((((((hle3.trans hle4).trans hle5).trans hle6).trans hle7).trans hle9).trans hle10).trans hle11).trans hle12).trans hle13))) YJ rfl rfl rfl <| nu rfl rfl,fun _=>Zi k4 ep7 Yc Zr rfl rfl rfl rfl <| nu rfl rfl,fun _ hSw=>Za hSw hc12 Zr rfl rfl rfl <| nu rfl rfl,fun _=>Zi k3 ep8 Yc Zr rfl rfl rfl rfl <| nu rfl rfl,fun _ hSw=>Za hSw hc13 Zr rfl rfl rfl <| nu rfl rfl,trivial⟩ (fun w40 hS53=>?_)
   refine Z8 hS53 Zph rfl rfl rfl (Zd2 hS53.imm o.rows yv xv _ (hs6.mono (((((((((((hle1.trans hle2).trans hle3).trans hle4).trans hle5).trans hle6).trans hle7).trans hle9).trans hle10).trans hle11).trans hle12).trans hle13)) (by omega)) (fun w41 G14 r4 hpost4 hS54 hle14=>?_)
   refine LP.go ft [] (fun m ρ1 w1=>∃ (k5 : Nat),∃ (G15 : GH),m = (ZJ t.rows yv xv).length - k5 ∧ G14.le G15 ∧ St w [] G G15 [none,none,some (b1,37,[.slice none 0 0, .int .i64 0, .int .i64 0, .int .i64 0, .int .i64 0])] w1 ∧ FR ρ1 [(3, .int .i64 fr),(4, .pointer (some p1)),(5, .pointer (some p2)),(6, .pointer (some p3)),(8, .pointer (some ⟨b1,0,none⟩)),(10,r1),(11,r2),(14, .int .i64 (k3 : Int)),(15, .int .i64 (k4 : Int)),(16,r3),(17,r4),(18, .int .i64 (k5 : Int))] ∧ k5 ≤ (ZJ t.rows yv xv).length ∧ ∀ i,i < k5 → ∀ v,(ZJ t.rows yv xv)[i]? = some v → (!(ZJ o.rows yv xv).any (gM t o f v)) = false) _ ⟨0,G14,rfl,(G14.le_refl),hS54,⟨rfl,rfl,rfl,rfl,rfl,rfl,rfl,rfl,rfl,rfl,rfl,rfl,trivial⟩,(by omega),(by intro i hi; omega)⟩ ?_
   rintro m ρ1 w42 ⟨k5,G15,rfl,hle15,hS55,hF9,f7,f8⟩
   refine hF9.set ?_
   clear hF9
   have bd5:=hpost3.bound
   refine Zl (hpost3.mono (hle14.trans hle15)) X9 rfl rfl ?_
   refine Zm (k5 : Int) (((ZJ t.rows yv xv).length : Nat) : Int) rfl rfl rfl (fun h7=>?_) (fun h7=>?_)
   ·obtain ⟨wv,hwv⟩:=Za1 (l:=(ZJ t.rows yv xv)) (k:=k5) (by omega)
    have hwl:=ZoC hvt yv xv wv (List.mem_of_getElem? hwv)
    obtain ⟨p14,x12,hx11,he11,ep9⟩:=Sl.at (hpost3.mono (hle14.trans hle15)) k5 (by omega)
    obtain rfl : wv = x12:=Option.some.inj (hwv.symm.trans hx11)
    obtain ⟨cs11,hc14,hr29⟩:=he11
    obtain ⟨v29,rfl,hs14⟩:=hr29
    refine dr [(10,true),(11,false),(12,false)] [(138, .agg #[Zc o.s.name,v4, .int .i64 o.s.key,v5]),(141, .agg #[Zc t.s.name,v1, .int .i64 t.s.key,v2]),(142, .agg #[v7,Zc f.table]),(145, .pointer (some p14)),(146,v29)] hS55 ⟨fun _ hSw=>Zd hSw (XL.drop 0 (hc2.mono (((((((((((hle3.trans hle4).trans hle5).trans hle6).trans hle7).trans hle9).trans hle10).trans hle11).trans hle12).trans hle13).trans hle14).trans hle15))) [Zc o.s.name,v4, .int .i64 o.s.key,v5] Y5 rfl rfl rfl rfl rfl <| nu rfl rfl,fun _ hSw=>Zd hSw (XL.drop 0 (hc1.mono ((((((((((((hle2.trans hle3).trans hle4).trans hle5).trans hle6).trans hle7).trans hle9).trans hle10).trans hle11).trans hle12).trans hle13).trans hle14).trans hle15))) [Zc t.s.name,v1, .int .i64 t.s.key,v2] Y5 rfl rfl rfl rfl rfl <| nu rfl rfl,fun _ hSw=>Zd hSw (hc3.mono ((((((((((hle4.trans hle5).trans hle6).trans hle7).trans hle9).trans hle10).trans hle11).trans hle12).trans hle13).trans hle14).trans hle15)) [v7,Zc f.table] QJ rfl rfl rfl rfl rfl <| nu rfl rfl,fun _=>Zi k5 ep9 X9 ZN rfl rfl rfl rfl <| nu rfl rfl,fun _ hSw=>Za hSw hc14 ZN rfl rfl rfl <| nu rfl rfl,trivial⟩ (fun w43 hS56=>?_)
    refine Z8 hS56 Zvh rfl rfl rfl (Zsr hS56.imm t.s f wv _ (Yg t.s hb1 (hs1.mono (((((((((((((hle1.trans hle2).trans hle3).trans hle4).trans hle5).trans hle6).trans hle7).trans hle9).trans hle10).trans hle11).trans hle12).trans hle13).trans hle14).trans hle15)) hb2 (hs2.mono (((((((((((((hle1.trans hle2).trans hle3).trans hle4).trans hle5).trans hle6).trans hle7).trans hle9).trans hle10).trans hle11).trans hle12).trans hle13).trans hle14).trans hle15))) _ (ZaU f (hs7.mono (((((((((((((hle1.trans hle2).trans hle3).trans hle4).trans hle5).trans hle6).trans hle7).trans hle9).trans hle10).trans hle11).trans hle12).trans hle13).trans hle14).trans hle15)) hb7) _ hs14 hk.cols hwl (by omega)) (fun w44 G16 r5 hpost5 hS57 hle16=>?_)
    refine ⟨hS57.down hS56.le hle16,?_⟩
    refine Zn hS57 Zvz rfl rfl rfl (Zq6 hS57.imm o.s (ZJ o.rows yv xv) (Zb4 t.s f.cols wv) _ (Yg o.s hb4 (hs4.mono ((((((((((((((hle1.trans hle2).trans hle3).trans hle4).trans hle5).trans hle6).trans hle7).trans hle9).trans hle10).trans hle11).trans hle12).trans hle13).trans hle14).trans hle15).trans hle16)) hb5 (hs5.mono ((((((((((((((hle1.trans hle2).trans hle3).trans hle4).trans hle5).trans hle6).trans hle7).trans hle9).trans hle10).trans hle11).trans hle12).trans hle13).trans hle14).trans hle15).trans hle16))) _ (hpost4.mono (hle15.trans hle16)) _ hpost5 (by omega) (Zi2 hvo _ _)) (fun w45 G17 hS58 hle17=>?_)
    refine WL.split (fun (h8 : ((ZJ o.rows yv xv).any fun u=>decide (u.take o.s.key.toNat = (Zb4 t.s f.cols wv))) = true)=>?_) (fun (h8 : ((ZJ o.rows yv xv).any fun u=>decide (u.take o.s.key.toNat = (Zb4 t.s f.cols wv))) = false)=>?_)
    ·refine Zj k5 (by have hreach : reach = 140737488355328:=rfl; omega) rfl rfl rfl ?_
     exact BK.mk' _ ⟨k5 + 1,G17,rfl,(hle15.trans (hle16.trans hle17)),hS58,⟨rfl,rfl,rfl,rfl,rfl,rfl,rfl,rfl,rfl,rfl,rfl,rfl,trivial⟩,(by omega),(by exact Yj ‹_› hwv (by exact congrArg not ‹_›))⟩ (show (ZJ t.rows yv xv).length - (k5 + 1) < (ZJ t.rows yv xv).length - k5 by omega)
    obtain ⟨p15,x13,hx12,he12,ep10⟩:=Sl.at (hpost3.mono (((hle14.trans hle15).trans hle16).trans hle17)) k5 (by omega)
    obtain rfl : wv = x13:=Option.some.inj (hwv.symm.trans hx12)
    obtain ⟨cs12,hc15,hr30⟩:=he12
    obtain ⟨v30,rfl,hs15⟩:=hr30
    obtain ⟨p16,x14,hx13,he13,ep11⟩:=Sl.at (hgys.mono ((((((hle11.trans hle12).trans hle13).trans hle14).trans hle15).trans hle16).trans hle17)) k4 (by omega)
    obtain rfl : yv = x14:=Option.some.inj (hyv.symm.trans hx13)
    obtain ⟨cs13,hc16,hr31⟩:=he13
    obtain ⟨rfl,ZsF⟩:=hr31
    obtain ⟨p17,x15,hx14,he14,ep12⟩:=Sl.at (hgxs.mono ((((((hle11.trans hle12).trans hle13).trans hle14).trans hle15).trans hle16).trans hle17)) k3 (by omega)
    obtain rfl : xv = x15:=Option.some.inj (hxv.symm.trans hx14)
    obtain ⟨cs14,hc17,hr32⟩:=he14
    obtain ⟨rfl,ZsG⟩:=hr32
    refine drT [3,7,11,12,13,14] [(152, .pointer (some p15)),(156, .pointer (some p16)),(160, .pointer (some p17))] hS58 ⟨fun _=>Zi k5 ep10 X9 ZN rfl rfl rfl rfl <| nu rfl rfl,fun _=>Zi k4 ep11 Yc Zr rfl rfl rfl rfl <| nu rfl rfl,fun _=>Zi k3 ep12 Yc Zr rfl rfl rfl rfl <| nu rfl rfl,trivial⟩ (fun w46 hS59=>?_)
    refine TGI.toTG (I:=fun w9=>GH.In G17 w9) _ _ _ _ ?_
    refine TGI.quiet 5 [3,7,11,12,13,14] 3 rfl rfl rfl rfl rfl (by decide) hS59.imm (fun w9 i9 K9 k9=>Za (St.start (X:=[]) i9) hc15 ZN rfl rfl rfl k9) ?_
    refine TGI.quiet 4 [7,11,12,13,14] 7 rfl rfl rfl rfl rfl (by decide) hS59.imm (fun w9 i9 K9 k9=>Za (St.start (X:=[]) i9) hc16 Zr rfl rfl rfl k9) ?_
    refine TGI.quiet 3 [11,12,13,14] 11 rfl rfl rfl rfl rfl (by decide) hS59.imm (fun w9 i9 K9 k9=>Za (St.start (X:=[]) i9) hc17 Zr rfl rfl rfl k9) ?_
    refine TGI.fork 2 [12,13,14] [12] rfl rfl (by decide) (by decide) (TAI.cons rfl ?_ TAI.nil)
    refine Z8 hS59 ZsM rfl rfl rfl (Zk3 hS59.imm wv yv xv _ hs15 hyb.1 hxb.1 hyb.2 hxb.2) (fun w47 G18 r6 hpost6 hS60 hle18=>?_)
    obtain ⟨cs15,rfl,hr33⟩:=hpost6
    obtain ⟨v31,rfl,hs16,Zpc,Zjy,Zpd,ZsH⟩:=Z7 hr33
    refine ⟨fun h=>absurd h (by decide),(hS60.imm.down hle18),?_⟩
    refine TGI.fork 1 [13,14] [13] rfl rfl (by decide) (by decide) (TAI.cons rfl ?_ TAI.nil)
    refine WL.store hS60 2 _ _ _ 0 _ [v31, .int .i64 ((ZH (some (Pt.mk xv yv wv))).r.d.a), .int .i64 ((ZH (some (Pt.mk xv yv wv))).r.d.b), .int .i64 ((ZH (some (Pt.mk xv yv wv))).r.x.a), .int .i64 ((ZH (some (Pt.mk xv yv wv))).r.x.b)] [v31, .int .i64 ((ZH (some (Pt.mk xv yv wv))).r.d.a), .int .i64 ((ZH (some (Pt.mk xv yv wv))).r.d.b), .int .i64 ((ZH (some (Pt.mk xv yv wv))).r.x.a), .int .i64 ((ZH (some (Pt.mk xv yv wv))).r.x.b)] _ rfl rfl Zt rfl (Nat.le_of_ble_eq_true rfl) (by simp only [List.all_cons,List.all_nil,hs16.oneC,Bool.true_and] <;> rfl) rfl rfl rfl rfl rfl (fun w48 hS61=>?_)
    refine ⟨fun h=>absurd h (by decide),(hS61.imm.down hle18),?_⟩
    refine TGI.quiet 0 [14] 14 rfl rfl rfl rfl rfl (by decide) (hS61.imm.down hle18) (fun w9 _ K9 k9=>WL.assign rfl k9) ?_
    refine TGI.fin rfl ?_
    exact X0 [.agg #[v31, .int .i64 ((ZH (some (Pt.mk xv yv wv))).r.d.a), .int .i64 ((ZH (some (Pt.mk xv yv wv))).r.d.b), .int .i64 ((ZH (some (Pt.mk xv yv wv))).r.x.a), .int .i64 ((ZH (some (Pt.mk xv yv wv))).r.x.b)], .bool true] hS61 ⟨_,_,_,rfl,rfl,hS61.loadA 2 _ _ _ 0 [v31, .int .i64 ((ZH (some (Pt.mk xv yv wv))).r.d.a), .int .i64 ((ZH (some (Pt.mk xv yv wv))).r.d.b), .int .i64 ((ZH (some (Pt.mk xv yv wv))).r.x.a), .int .i64 ((ZH (some (Pt.mk xv yv wv))).r.x.b)] rfl rfl rfl Zt rfl,⟨_,rfl,rfl⟩⟩ ⟨_,_,rfl,(Is.cast ⟨_,rfl,(Ya (HRow.mk ((ZH (some (Pt.mk xv yv wv))).v) (Rect.mk (Span.mk ((ZH (some (Pt.mk xv yv wv))).r.d.a) ((ZH (some (Pt.mk xv yv wv))).r.d.b)) (Span.mk ((ZH (some (Pt.mk xv yv wv))).r.x.a) ((ZH (some (Pt.mk xv yv wv))).r.x.b)))) hs16 Zpc Zjy Zpd ZsH)⟩ (by exact (ZoA ‹_› hxv (by omega) (by omega) ‹_› hyv ‹_› hwv ‹_›).1)),(congrArg Value.bool (by exact (ZoA ‹_› hxv (by omega) (by omega) ‹_› hyv ‹_› hwv ‹_›).2))⟩
   refine Zj k4 (by have hreach : reach = 140737488355328:=rfl; omega) rfl rfl rfl ?_
   exact BK.mk' _ ⟨k4 + 1,G15,rfl,(hle12.trans ((hle13.trans hle14).trans hle15)),hS55,⟨rfl,rfl,rfl,rfl,rfl,rfl,rfl,rfl,rfl,trivial⟩,(by omega),(by exact Yj ‹_› hyv (Zsq ‹_› (by omega)))⟩ (show (gYS t o).length - (k4 + 1) < (gYS t o).length - k4 by omega)
  refine Zj k3 (by have hreach : reach = 140737488355328:=rfl; omega) rfl rfl rfl ?_
  exact BK.mk' _ ⟨k3 + 1,G12,rfl,(hle11.trans hle12),hS50,⟨rfl,rfl,rfl,rfl,rfl,rfl,rfl,rfl,trivial⟩,(by omega),(by exact Yj ‹_› hxv (by exact ZtK (by omega) (by omega) ‹_› (by omega)))⟩ (show (gXS t o fr).length - (k3 + 1) < (gXS t o fr).length - k3 by omega)
 refine WL.build _ [] [.slice none 0 0, .int .i64 0, .int .i64 0, .int .i64 0, .int .i64 0] Zt rfl Zag rfl rfl rfl rfl ?_
 refine WL.store hS49 2 _ _ _ 0 _ [.slice none 0 0, .int .i64 0, .int .i64 0, .int .i64 0, .int .i64 0] [.slice none 0 0, .int .i64 0, .int .i64 0, .int .i64 0, .int .i64 0] _ rfl rfl Zt rfl (Nat.le_of_ble_eq_true rfl) rfl rfl rfl rfl rfl rfl (fun w49 hS62=>?_)
 exact X0 [.agg #[.slice none 0 0, .int .i64 0, .int .i64 0, .int .i64 0, .int .i64 0], .bool false] hS62 ⟨_,_,_,rfl,rfl,hS62.loadA 2 _ _ _ 0 [.slice none 0 0, .int .i64 0, .int .i64 0, .int .i64 0, .int .i64 0] rfl rfl rfl Zt rfl,⟨_,rfl,rfl⟩⟩ ⟨_,_,rfl,(Is.cast ⟨_,rfl,(Ya (HRow.mk [] (Rect.mk (Span.mk 0 0) (Span.mk 0 0))) (Sl.nil ValE 32 G11) Yl Yl Yl Yl)⟩ (by exact (ZoB ‹_› (by omega)).1)),(congrArg Value.bool (by exact (ZoB ‹_› (by omega)).2))⟩
end Go.Civ
