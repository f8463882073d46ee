/- Lemmas. -/
import Derived.Test.YthgeclodflmiaaaGreatC31
import Derived.Test.YthgeclodflmiaaaGreatC41
import Derived.Test.YthgeclodflmiaaaGreatC42
import Derived.Test.YthgeclodflmiaaaGreatProg
import Derived.KernelRfl
import Derived.WalkKit
set_option linter.unusedVariables false
set_option linter.unusedSimpArgs false
set_option maxRecDepth 100000
set_option maxHeartbeats 4000000
namespace Go.Civ
open Go.Proofs
theorem Zgk {G : GH} {w : World} (hG : G.In w) (l : List Table) (pf : Table → Bool) (vl : Value) (hvl : Sl TableE 104 G vl l) (fid : Nat) (fcap : Array Value) (hf : FnB Tryz.prog (Is TableE) fid fcap G (fun x=>x ∈ l) pf) : CL Tryz.prog (nat_lit 45) #[vl, .func (.func fid) #[] fcap] [] w G fun _ _ r=>r = .int .i64 (Xe pf l):=by
 refine Zh ft [] Tryz.func45 rfl rfl ?_
 have hS:=St.start (X:=[]) hG
 have bd1:=hvl.bound
 refine Zl hvl Zaw rfl rfl ?_
 refine LP.go ft [] (fun m ρ1 w1=>∃ (k1 : Nat),∃ (G1 : GH),m = l.length - k1 ∧ G.le G1 ∧ St w [] G G1 [] w1 ∧ FR ρ1 [(0,vl),(1, .func (.func fid) #[] fcap),(7, .int .i64 (l.length : Int)),(8, .int .i64 (k1 : Int))] ∧ k1 ≤ l.length ∧ ∀ j,j < k1 → ∀ x,l[j]? = some x → pf x = false) _ ⟨0,G,rfl,(G.le_refl),hS,⟨rfl,rfl,rfl,rfl,trivial⟩,(by omega),(by intro j hj; omega)⟩ ?_
 rintro m ρ1 w1 ⟨k1,G1,rfl,hle1,hS1,hF9,f1,f2⟩
 refine hF9.set ?_
 clear hF9
 refine Zm (k1 : Int) (l.length : Int) rfl rfl rfl (fun h1=>?_) (fun h1=>?_)
 ·refine WL.indexAddr (hvl.mono hle1) k1 (by omega) Zaw Zp rfl rfl rfl rfl (fun p1 x1 hx1 he1=>?_)
  obtain ⟨cs1,hc1,hr1⟩:=he1
  obtain ⟨v1,v2,v3,rfl,hb1,hs1,hb2,hs2,hs3,hb3⟩:=Z0 hr1
  refine Zd hS1 hc1 [Zc x1.s.name,v1, .int .i64 x1.s.key,v2,v3, .int .i64 x1.last] Zp rfl rfl rfl rfl rfl ?_
  refine Zn hS1 hf.body rfl rfl rfl (hf.call _ _ (.agg #[Zc x1.s.name,v1, .int .i64 x1.s.key,v2,v3, .int .i64 x1.last]) x1 hle1 hS1.imm (List.mem_of_getElem? hx1) ⟨_,rfl,(Zs x1 hb1 hs1 hb2 hs2 hs3 hb3)⟩) (fun w2 G2 hS2 hle2=>?_)
  refine WL.split (fun (h2 : (pf x1) = true)=>?_) (fun (h2 : (pf x1) = false)=>?_)
  ·exact RI hS2 rfl (by first | exact (Qy _ ‹_› ‹_› ‹_›).symm | exact (XX ‹_› (by omega)).symm)
  refine Zj k1 (by have hreach : reach = 140737488355328:=rfl; omega) rfl rfl rfl ?_
  exact BK.mk' _ ⟨k1 + 1,G2,rfl,(hle1.trans hle2),hS2,⟨rfl,rfl,rfl,rfl,trivial⟩,(by omega),(by exact Yj ‹_› ‹_› ‹_›)⟩ (show l.length - (k1 + 1) < l.length - k1 by omega)
 exact RI hS1 rfl (by first | exact (Qy _ ‹_› ‹_› ‹_›).symm | exact (XX ‹_› (by omega)).symm)
theorem ZkP {G : GH} {w : World} (hG : G.In w) (l : List Table) (pf : Table → Bool) (vl : Value) (hvl : Sl TableE 104 G vl l) (fid : Nat) (fcap : Array Value) (hf : FnB Tryz.prog (Is TableE) fid fcap G (fun x=>x ∈ l) pf) : CL Tryz.prog (nat_lit 41) #[vl, .func (.func fid) #[] fcap] [] w G fun _ _ r=>r = .bool (l.any pf):=by
 refine Zh ft [] Tryz.func41 rfl rfl ?_
 have hS:=St.start (X:=[]) hG
 refine Zn hS Zpf rfl rfl rfl (Zgk hS.imm l pf _ hvl fid fcap (hf.up (G.le_refl))) (fun w1 G1 hS1 hle1=>?_)
 refine Yh .geq rfl .i64 (Xe pf l) 0 rfl rfl rfl ?_
 exact RB hS1 rfl (by exact Zc9 _ _)
theorem Zq8 {G : GH} {w : World} (hG : G.In w) (y : Table) (fc : List (List UInt8)) (ftb : List UInt8) (cy : List Value) (hcy : TableE.rep G y cy) (vc : Value) (hvc : Sl Enc.str 16 G vc fc) (pf : Addr) (hpf : XL G pf [vc,Zc ftb]) : CL Tryz.prog (nat_lit 101) #[.agg cy.toArray, .pointer (some pf)] [] w G fun _ _ r=>r = .bool (decide (y.s.name = ftb)):=by
 refine Zh ft [] Tryz.func101 rfl rfl ?_
 have hS:=St.start (X:=[]) hG
 obtain ⟨v1,v2,v3,rfl,hb1,hs1,hb2,hs2,hs3,hb3⟩:=Z0 hcy
 refine Z3 [Zc y.s.name,v1, .int .i64 y.s.key,v2,v3, .int .i64 y.last] _ hS rfl rfl rfl (fun p1 w1 G1 hle1 hsp1 hc1 hS1=>?_)
 refine Za hS1 (XL.drop 0 (XL.drop 0 hc1)) YM rfl rfl rfl <| Za hS1 (XL.drop 1 (hpf.mono hle1)) YM rfl rfl rfl <| YX .eql rfl y.s.name ftb rfl rfl rfl ?_
 exact RB hS1 rfl (by simp [SCmp.b])
theorem ZtP {G : GH} {w : World} (hG : G.In w) (y : Table) (fc : List (List UInt8)) (ftb : List UInt8) (cy : List Value) (hcy : TableE.rep G y cy) (vc : Value) (hvc : Sl Enc.str 16 G vc fc) (pf : Addr) (hpf : XL G pf [vc,Zc ftb]) : CL Tryz.prog (nat_lit 46) #[.agg cy.toArray, .pointer (some pf)] [] w G fun _ _ r=>r = .bool (decide (y.s.name = ftb)):=by
 refine Zh ft [] Tryz.func46 rfl rfl ?_
 have hS:=St.start (X:=[]) hG
 obtain ⟨v1,v2,v3,rfl,hb1,hs1,hb2,hs2,hs3,hb3⟩:=Z0 hcy
 refine Z3 [Zc y.s.name,v1, .int .i64 y.s.key,v2,v3, .int .i64 y.last] _ hS rfl rfl rfl (fun p1 w1 G1 hle1 hsp1 hc1 hS1=>?_)
 refine Za hS1 (XL.drop 0 (XL.drop 0 hc1)) YM rfl rfl rfl <| Za hS1 (XL.drop 1 (hpf.mono hle1)) YM rfl rfl rfl <| YX .eql rfl y.s.name ftb rfl rfl rfl ?_
 exact RB hS1 rfl (by simp [SCmp.b])
theorem Zq9 {G : GH} {w : World} (hG : G.In w) (l : List Table) (vl : Value) (hvl : Sl TableE 104 G vl l) : CL Tryz.prog (nat_lit 43) #[vl] [] w G fun _ _ r=>∃ r0 r1,r = .tuple #[r0,r1] ∧ r0 = Zc ((YK l).1) ∧ r1 = .int .i64 ((YK l).2):=by
 refine Zh ft [] Tryz.func43 rfl rfl ?_
 have hS:=St.start (X:=[]) hG
 have bd1:=hvl.bound
 refine Zl hvl Zaw rfl rfl ?_
 have hS2:=hS.pad
 refine LP.go ft [] (fun m ρ1 w1=>∃ (k1 : Nat),∃ (v1 : Value) (o1 : OB),∃ (G1 : GH),m = l.length - k1 ∧ G.le G1 ∧ St w [] G G1 [o1] w1 ∧ Yb SchemaE 72 25 G1 v1 ((l.take k1).map Table.s) o1 ∧ FR ρ1 [(0,vl),(4,v1),(20,vl),(21, .int .i64 (l.length : Int)),(22, .int .i64 (k1 : Int))] ∧ k1 ≤ l.length) _ ⟨0,(.slice none 0 0),none,G,rfl,(G.le_refl),hS2,(Yb.cast (Yb.nil SchemaE 72 25 G) (by rfl)),⟨rfl,rfl,rfl,rfl,rfl,trivial⟩,(by omega)⟩ ?_
 rintro m ρ1 w1 ⟨k1,v1,o1,G1,rfl,hle1,hS1,hr1,hF9,f1⟩
 refine hF9.set ?_
 clear hF9
 have hlt:=List.length_take_le' k1 l
 refine Zm (k1 : Int) (l.length : Int) rfl rfl rfl (fun h1=>?_) (fun h1=>?_)
 ·refine WL.indexAddr (hvl.mono hle1) k1 (by first | exact hix.1 | omega) Zaw Zp rfl rfl rfl rfl (fun p1 x1 hx1 he1=>?_)
  obtain ⟨cs1,hc1,hr2⟩:=he1
  have qo1:=Z0 hr2
  obtain ⟨v2,v3,v4,rfl,hb1,hs1,hb2,hs2,hs3,hb3⟩:=qo1
  refine Zd hS1 hc1 [Zc x1.s.name,v2, .int .i64 x1.s.key,v3,v4, .int .i64 x1.last] Zp rfl rfl rfl rfl rfl ?_
  refine WL.alloc hS1 Zp rfl rfl (fun b1 w2 hn1 hS3=>?_)
  refine WL.store hS3 0 _ _ _ 0 _ [Zc x1.s.name,v2, .int .i64 x1.s.key,v3,v4, .int .i64 x1.last] [Zc x1.s.name,v2, .int .i64 x1.s.key,v3,v4, .int .i64 x1.last] _ rfl rfl Zp rfl (Nat.le_of_ble_eq_true rfl) (by simp only [List.all_cons,List.all_nil,hs1.oneC,hs2.oneC,hs3.oneC,Bool.true_and] <;> rfl) rfl rfl rfl rfl rfl (fun w3 hS4=>?_)
  have qo2:=hS4.shutB hn1
  obtain ⟨G2,hle2,hc2,hS5⟩:=qo2
  refine Zd hS5 (XL.drop 0 hc2) [Zc x1.s.name,v2, .int .i64 x1.s.key,v3] Y5 rfl rfl rfl rfl rfl ?_
  refine WL.buildSlice _ [(0,[Zc x1.s.name,v2, .int .i64 x1.s.key,v3])] [Zc x1.s.name,v2, .int .i64 x1.s.key,v3] hS5 ZlP rfl rfl rfl rfl (fun z hz=>by match z,hz with | [z0,z1,z2,z3],_=>rfl) (fun b2 w4 hn2 hS6=>?_)
  refine WL.push (m:=([x1.s] : List Schema)) ZlP rfl rfl rfl (hr1.mono hle2) hS6 1 rfl 0 _ _ _ _ _ rfl ⟨[Zc x1.s.name,v2, .int .i64 x1.s.key,v3],_,rfl,(Yg x1.s hb1 (hs1.mono hle2) hb2 (hs2.mono hle2)),rfl⟩ rfl (by have hreach : reach = 140737488355328:=rfl; have hby9:=(by assumption : Sl TableE 104 G _ l).bytes; simp only [List.length_append,List.length_cons,List.length_nil,List.length_map]; omega) (by have hreach : reach = 140737488355328:=rfl; have hby9:=(by assumption : Sl TableE 104 G _ l).bytes; simp only [List.length_append,List.length_cons,List.length_nil,List.length_map]; omega) rfl rfl rfl (fun v5 o2 w5 hr3 hS7=>?_)
  have hS8:=hS7.tail
  refine Zj k1 (by have hreach : reach = 140737488355328:=rfl; omega) rfl rfl rfl ?_
  exact BK.mk' _ ⟨k1 + 1,v5,o2,G2,rfl,(hle1.trans hle2),hS8,(Yb.cast hr3 (by (rw [YC ‹_›]))),⟨rfl,rfl,rfl,rfl,rfl,trivial⟩,(by omega)⟩ (show l.length - (k1 + 1) < l.length - k1 by omega)
 have hsch:=Yb.cast (l':=l.map Table.s) hr1 (by rw [List.take_of_length_le (by omega)])
 have qo3:=Yb.freeze hsch hS1 0 rfl
 obtain ⟨G3,hle3,hs4,hS9⟩:=qo3
 refine Z8 hS9 ZsI rfl rfl rfl (ZoI hS9.imm (l.map Table.s) _ hs4) ?_
 rintro w6 G4 _ ⟨_,_,rfl,rfl,rfl⟩ hS10 hle4
 refine Xn ((Xu (l.map Table.s)).2) 0 rfl rfl rfl (fun h2=>?_) (fun h2=>?_)
 ·exact RT hS10 rfl ⟨_,_,rfl,(congrArg Zc (by first | exact (ZD ‹_›).1 | exact (ZD ‹_›).2 | exact (ZE (r:=(_,_)) ‹_› ‹_› ‹_› (by first | exact Z4 ‹_› | exact Zu ‹_› ‹_›)).1 | exact (ZE (r:=(_,_)) ‹_› ‹_› ‹_› (by first | exact Z4 ‹_› | exact Zu ‹_› ‹_›)).2 | exact (ZF (r:=(_,_)) hall ‹_› (by omega) ‹_› ‹_› ‹_› ‹_› (Zv (Zf hlk.1 ‹_›) ‹_›)).1 | exact (ZF (r:=(_,_)) hall ‹_› (by omega) ‹_› ‹_› ‹_› ‹_› (Zv (Zf hlk.1 ‹_›) ‹_›)).2 | exact (ZG hall ‹_› (by omega) ‹_› (by omega)).1 | exact (ZG hall ‹_› (by omega) ‹_› (by omega)).2)),(congrArg (Value.int .i64) (by first | exact (ZD ‹_›).1 | exact (ZD ‹_›).2 | exact (ZE (r:=(_,_)) ‹_› ‹_› ‹_› (by first | exact Z4 ‹_› | exact Zu ‹_› ‹_›)).1 | exact (ZE (r:=(_,_)) ‹_› ‹_› ‹_› (by first | exact Z4 ‹_› | exact Zu ‹_› ‹_›)).2 | exact (ZF (r:=(_,_)) hall ‹_› (by omega) ‹_› ‹_› ‹_› ‹_› (Zv (Zf hlk.1 ‹_›) ‹_›)).1 | exact (ZF (r:=(_,_)) hall ‹_› (by omega) ‹_› ‹_› ‹_› ‹_› (Zv (Zf hlk.1 ‹_›) ‹_›)).2 | exact (ZG hall ‹_› (by omega) ‹_› (by omega)).1 | exact (ZG hall ‹_› (by omega) ‹_› (by omega)).2))⟩
 have bd2:=hvl.bound
 refine Zl (hvl.mono ((hle1.trans hle3).trans hle4)) Zaw rfl rfl ?_
 refine LP.go ft [] (fun m ρ1 w1=>∃ (k2 : Nat),∃ (G5 : GH),m = l.length - k2 ∧ G4.le G5 ∧ St w [] G G5 [none] w1 ∧ FR ρ1 [(0,vl),(41,vl),(42, .int .i64 (l.length : Int)),(43, .int .i64 (k2 : Int))] ∧ k2 ≤ l.length ∧ ∀ j,j < k2 → ∀ x,l[j]? = some x → QN x = none) _ ⟨0,G4,rfl,(G4.le_refl),hS10,⟨rfl,rfl,rfl,rfl,trivial⟩,(by omega),(by intro j hj; omega)⟩ ?_
 rintro m ρ1 w7 ⟨k2,G5,rfl,hle5,hS11,hF9,f2,f3⟩
 refine hF9.set ?_
 clear hF9
 refine Zm (k2 : Int) (l.length : Int) rfl rfl rfl (fun h3=>?_) (fun h3=>?_)
 ·refine WL.indexAddr (hvl.mono (((hle1.trans hle3).trans hle4).trans hle5)) k2 (by first | exact hix.1 | omega) Zaw Zp rfl rfl rfl rfl (fun p2 x2 hx2 he2=>?_)
  obtain ⟨cs2,hc3,hr4⟩:=he2
  have qo4:=Z0 hr4
  obtain ⟨v6,v7,v9,rfl,hb4,hs5,hb5,hs6,hs7,hb6⟩:=qo4
  refine Zd hS11 hc3 [Zc x2.s.name,v6, .int .i64 x2.s.key,v7,v9, .int .i64 x2.last] Zp rfl rfl rfl rfl rfl ?_
  refine WL.alloc hS11 Zp rfl rfl (fun b3 w9 hn3 hS12=>?_)
  refine WL.store hS12 0 _ _ _ 0 _ [Zc x2.s.name,v6, .int .i64 x2.s.key,v7,v9, .int .i64 x2.last] [Zc x2.s.name,v6, .int .i64 x2.s.key,v7,v9, .int .i64 x2.last] _ rfl rfl Zp rfl (Nat.le_of_ble_eq_true rfl) (by simp only [List.all_cons,List.all_nil,hs5.oneC,hs6.oneC,hs7.oneC,Bool.true_and] <;> rfl) rfl rfl rfl rfl rfl (fun w10 hS13=>?_)
  have qo5:=hS13.shutB hn3
  obtain ⟨G6,hle6,hc4,hS14⟩:=qo5
  refine Zd hS14 hc4 [Zc x2.s.name,v6, .int .i64 x2.s.key,v7,v9, .int .i64 x2.last] Zp rfl rfl rfl rfl rfl ?_
  refine Zn hS14 Qg rfl rfl rfl (ZbK hS14.imm x2 _ (Zs x2 hb4 (hs5.mono hle6) hb5 (hs6.mono hle6) (hs7.mono hle6) hb6)) (fun w11 G7 hS15 hle7=>?_)
  refine WL.split (fun (h4 : (Zy x2) = true)=>?_) (fun (h4 : (Zy x2) = false)=>?_)
  ·refine Zd hS15 (hc4.mono hle7) [Zc x2.s.name,v6, .int .i64 x2.s.key,v7,v9, .int .i64 x2.last] Zp rfl rfl rfl rfl rfl ?_
   refine Z8 hS15 Zpg rfl rfl rfl (Zd1 hS15.imm x2 _ (Zs x2 hb4 (hs5.mono (hle6.trans hle7)) hb5 (hs6.mono (hle6.trans hle7)) (hs7.mono (hle6.trans hle7)) hb6) ‹_›) ?_
   rintro w12 G9 _ ⟨r5,_,rfl,hs8,rfl⟩ hS16 hle9
   obtain ⟨cs3,rfl,hr5⟩:=hs8
   have qo6:=XK hr5
   obtain ⟨v10,rfl,hb7,hb8,hs9⟩:=qo6
   refine WL.alloc hS16 ZX rfl rfl (fun b4 w13 hn4 hS17=>?_)
   refine WL.store hS17 0 _ _ _ 0 _ [.int .i64 ((ZY (Zq x2)).tx), .int .i64 ((ZY (Zq x2)).vd),v10] [.int .i64 ((ZY (Zq x2)).tx), .int .i64 ((ZY (Zq x2)).vd),v10] _ rfl rfl ZX rfl (Nat.le_of_ble_eq_true rfl) (by simp only [List.all_cons,List.all_nil,hs9.oneC,Bool.true_and] <;> rfl) rfl rfl rfl rfl rfl (fun w14 hS18=>?_)
   have qo7:=hS18.shutB hn4
   obtain ⟨G10,hle10,hc5,hS19⟩:=qo7
   refine X8 (d:=57) rfl (fun (h5 : ((Zq x2).isSome) = true)=>?_) (fun (h5 : ((Zq x2).isSome) = false)=>?_)
   ·refine Za hS19 (XL.drop 0 (XL.drop 0 (hc4.mono ((hle7.trans hle9).trans hle10)))) YM rfl rfl rfl ?_
    exact RT hS19 rfl ⟨_,_,rfl,(congrArg Zc (by first | exact (ZD ‹_›).1 | exact (ZD ‹_›).2 | exact (ZE (r:=(_,_)) ‹_› ‹_› ‹_› (by first | exact Z4 ‹_› | exact Zu ‹_› ‹_›)).1 | exact (ZE (r:=(_,_)) ‹_› ‹_› ‹_› (by first | exact Z4 ‹_› | exact Zu ‹_› ‹_›)).2 | exact (ZF (r:=(_,_)) hall ‹_› (by omega) ‹_› ‹_› ‹_› ‹_› (Zv (Zf hlk.1 ‹_›) ‹_›)).1 | exact (ZF (r:=(_,_)) hall ‹_› (by omega) ‹_› ‹_› ‹_› ‹_› (Zv (Zf hlk.1 ‹_›) ‹_›)).2 | exact (ZG hall ‹_› (by omega) ‹_› (by omega)).1 | exact (ZG hall ‹_› (by omega) ‹_› (by omega)).2)),(congrArg (Value.int .i64) (by first | exact (ZD ‹_›).1 | exact (ZD ‹_›).2 | exact (ZE (r:=(_,_)) ‹_› ‹_› ‹_› (by first | exact Z4 ‹_› | exact Zu ‹_› ‹_›)).1 | exact (ZE (r:=(_,_)) ‹_› ‹_› ‹_› (by first | exact Z4 ‹_› | exact Zu ‹_› ‹_›)).2 | exact (ZF (r:=(_,_)) hall ‹_› (by omega) ‹_› ‹_› ‹_› ‹_› (Zv (Zf hlk.1 ‹_›) ‹_›)).1 | exact (ZF (r:=(_,_)) hall ‹_› (by omega) ‹_› ‹_› ‹_› ‹_› (Zv (Zf hlk.1 ‹_›) ‹_›)).2 | exact (ZG hall ‹_› (by omega) ‹_› (by omega)).1 | exact (ZG hall ‹_› (by omega) ‹_› (by omega)).2))⟩
   refine Zj k2 (by have hreach : reach = 140737488355328:=rfl; omega) rfl rfl rfl ?_
   exact BK.mk' _ ⟨k2 + 1,G10,rfl,(hle5.trans (((hle6.trans hle7).trans hle9).trans hle10)),hS19,⟨rfl,rfl,rfl,rfl,trivial⟩,(by omega),(by exact Yj ‹_› ‹_› (ZoG ‹_› ‹_›))⟩ (show l.length - (k2 + 1) < l.length - k2 by omega)
  refine Za hS15 (XL.drop 0 (XL.drop 0 (hc4.mono hle7))) YM rfl rfl rfl ?_
  exact RT hS15 rfl ⟨_,_,rfl,(congrArg Zc (by first | exact (ZD ‹_›).1 | exact (ZD ‹_›).2 | exact (ZE (r:=(_,_)) ‹_› ‹_› ‹_› (by first | exact Z4 ‹_› | exact Zu ‹_› ‹_›)).1 | exact (ZE (r:=(_,_)) ‹_› ‹_› ‹_› (by first | exact Z4 ‹_› | exact Zu ‹_› ‹_›)).2 | exact (ZF (r:=(_,_)) hall ‹_› (by omega) ‹_› ‹_› ‹_› ‹_› (Zv (Zf hlk.1 ‹_›) ‹_›)).1 | exact (ZF (r:=(_,_)) hall ‹_› (by omega) ‹_› ‹_› ‹_› ‹_› (Zv (Zf hlk.1 ‹_›) ‹_›)).2 | exact (ZG hall ‹_› (by omega) ‹_› (by omega)).1 | exact (ZG hall ‹_› (by omega) ‹_› (by omega)).2)),(congrArg (Value.int .i64) (by first | exact (ZD ‹_›).1 | exact (ZD ‹_›).2 | exact (ZE (r:=(_,_)) ‹_› ‹_› ‹_› (by first | exact Z4 ‹_› | exact Zu ‹_› ‹_›)).1 | exact (ZE (r:=(_,_)) ‹_› ‹_› ‹_› (by first | exact Z4 ‹_› | exact Zu ‹_› ‹_›)).2 | exact (ZF (r:=(_,_)) hall ‹_› (by omega) ‹_› ‹_› ‹_› ‹_› (Zv (Zf hlk.1 ‹_›) ‹_›)).1 | exact (ZF (r:=(_,_)) hall ‹_› (by omega) ‹_› ‹_› ‹_› ‹_› (Zv (Zf hlk.1 ‹_›) ‹_›)).2 | exact (ZG hall ‹_› (by omega) ‹_› (by omega)).1 | exact (ZG hall ‹_› (by omega) ‹_› (by omega)).2))⟩
 have hva:=Zi3 (by assumption : ∀ j,j < k2 → ∀ x,l[j]? = some x → QN x = none) (by omega)
 have hall:=(by assumption : (Xu (l.map Table.s)).2 = 0)
 have bd3:=hvl.bound
 refine Zl (hvl.mono (((hle1.trans hle3).trans hle4).trans hle5)) Zaw rfl rfl ?_
 refine LP.go ft [] (fun m ρ1 w1=>∃ (k3 : Nat),∃ (G11 : GH),m = l.length - k3 ∧ G5.le G11 ∧ St w [] G G11 [none] w1 ∧ FR ρ1 [(0,vl),(63,vl),(64, .int .i64 (l.length : Int)),(65, .int .i64 (k3 : Int))] ∧ k3 ≤ l.length ∧ ∀ j,j < k3 → ∀ t,l[j]? = some t → t.s.fks.findSome? (Za7 l t) = none) _ ⟨0,G5,rfl,(G5.le_refl),hS11,⟨rfl,rfl,rfl,rfl,trivial⟩,(by omega),(by intro j hj; omega)⟩ ?_
 rintro m ρ1 w15 ⟨k3,G11,rfl,hle11,hS20,hF9,f4,f5⟩
 refine hF9.set ?_
 clear hF9
 refine Zm (k3 : Int) (l.length : Int) rfl rfl rfl (fun h6=>?_) (fun h6=>?_)
 ·refine WL.indexAddr (hvl.mono ((((hle1.trans hle3).trans hle4).trans hle5).trans hle11)) k3 (by first | exact hix.1 | omega) Zaw Zp rfl rfl rfl rfl (fun p3 x3 hx3 he3=>?_)
  obtain ⟨cs4,hc6,hr6⟩:=he3
  have qo8:=Z0 hr6
  obtain ⟨v11,v12,v13,rfl,hb9,hs10,hb10,hs11,hs12,YL⟩:=qo8
  refine Zd hS20 hc6 [Zc x3.s.name,v11, .int .i64 x3.s.key,v12,v13, .int .i64 x3.last] Zp rfl rfl rfl rfl rfl ?_
  refine WL.alloc hS20 Zp rfl rfl (fun b5 w16 hn5 hS21=>?_)
  refine WL.store hS21 0 _ _ _ 0 _ [Zc x3.s.name,v11, .int .i64 x3.s.key,v12,v13, .int .i64 x3.last] [Zc x3.s.name,v11, .int .i64 x3.s.key,v12,v13, .int .i64 x3.last] _ rfl rfl Zp rfl (Nat.le_of_ble_eq_true rfl) (by simp only [List.all_cons,List.all_nil,hs10.oneC,hs11.oneC,hs12.oneC,Bool.true_and] <;> rfl) rfl rfl rfl rfl rfl (fun w17 hS22=>?_)
  have qo9:=hS22.shutB hn5
  obtain ⟨G12,hle12,hc7,hS23⟩:=qo9
  refine Za hS23 (XL.drop 3 (XL.drop 0 hc7)) Zhl rfl rfl rfl ?_
  have bd4:=hs11.bound
  refine Zl (hs11.mono hle12) Zdr rfl rfl ?_
  refine LP.go ft [] (fun m ρ1 w1=>∃ (k4 : Nat),∃ (G13 : GH),m = x3.s.fks.length - k4 ∧ G12.le G13 ∧ St w [] G G13 [none] w1 ∧ FR ρ1 [(0,vl),(14, .pointer (some (⟨b5,0,none⟩ : Addr))),(63,vl),(64, .int .i64 (l.length : Int)),(65, .int .i64 (k3 : Int)),(71,v12),(72, .int .i64 (x3.s.fks.length : Int)),(73, .int .i64 (k4 : Int))] ∧ k4 ≤ x3.s.fks.length ∧ ∀ j,j < k4 → ∀ f,x3.s.fks[j]? = some f → Za7 l x3 f = none) _ ⟨0,G12,rfl,(G12.le_refl),hS23,⟨rfl,rfl,rfl,rfl,rfl,rfl,rfl,rfl,trivial⟩,(by omega),(by intro j hj; omega)⟩ ?_
  rintro m ρ1 w18 ⟨k4,G13,rfl,hle13,hS24,hF9,f6,f7⟩
  refine hF9.set ?_
  clear hF9
  refine Zm (k4 : Int) (x3.s.fks.length : Int) rfl rfl rfl (fun h7=>?_) (fun h7=>?_)
  ·refine WL.indexAddr (hs11.mono (hle12.trans hle13)) k4 (by first | exact hix.1 | omega) Zdr QJ rfl rfl rfl rfl (fun p4 x4 hx4 he4=>?_)
   obtain ⟨cs5,hc8,hr7⟩:=he4
   have qo10:=XC hr7
   obtain ⟨v14,rfl,hs13,Xl⟩:=qo10
   refine Zd hS24 hc8 [v14,Zc x4.table] QJ rfl rfl rfl rfl rfl ?_
   refine WL.alloc hS24 QJ rfl rfl (fun b6 w19 hn6 hS25=>?_)
   refine WL.store hS25 0 _ _ _ 0 _ [v14,Zc x4.table] [v14,Zc x4.table] _ rfl rfl QJ rfl (Nat.le_of_ble_eq_true rfl) (by simp only [List.all_cons,List.all_nil,hs13.oneC,Bool.true_and] <;> rfl) rfl rfl rfl rfl rfl (fun w20 hS26=>?_)
   have qo11:=hS26.shutB hn6
   obtain ⟨G14,hle14,hc9,hS27⟩:=qo11
   have hlk:=Zk9 hall hva (List.mem_of_getElem? hx3) (List.mem_of_getElem? hx4)
   have hix:=Zfh hlk.1
   refine Zn hS27 Zpf rfl rfl rfl (Zgk hS27.imm l (fun x8=>decide (x8.s.name = x4.table)) _ (hvl.mono (((((((hle1.trans hle3).trans hle4).trans hle5).trans hle11).trans hle12).trans hle13).trans hle14)) 101 #[.pointer (some (⟨b6,0,none⟩ : Addr))] ⟨Zuf,fun G8 w8 v8 x8 hle8 hG8 hon8 hA8=>by obtain ⟨cs_x8,rfl,hr_x8⟩:=hA8; exact Zq8 hG8 x8 x4.cols x4.table cs_x8 hr_x8 v14 ((hs13.mono hle14).mono hle8) (⟨b6,0,none⟩ : Addr) (hc9.mono hle8)⟩) (fun w21 G15 hS28 hle15=>?_)
   have qo12:=Sl.at (hvl.mono ((((((((hle1.trans hle3).trans hle4).trans hle5).trans hle11).trans hle12).trans hle13).trans hle14).trans hle15)) (((Xe (fun x8=>decide (x8.s.name = x4.table)) l)).toNat) (by first | exact hix.1 | omega)
   obtain ⟨p5,x5,hx5,he5,ep1⟩:=qo12
   obtain ⟨cs6,hc10,hr8⟩:=he5
   have qo13:=Z0 hr8
   obtain ⟨v15,v16,v17,rfl,X2,hs14,Q8,hs15,hs16,QS⟩:=qo13
   refine drT [7,8,9,10,11,12,13] [(81, .agg #[Zc x3.s.name,v11, .int .i64 x3.s.key,v12,v13, .int .i64 x3.last]),(84, .pointer (some p5)),(85, .agg #[Zc x5.s.name,v15, .int .i64 x5.s.key,v16,v17, .int .i64 x5.last]),(86, .agg #[v14,Zc x4.table]),(87, .agg #[Zc x3.s.name,v11, .int .i64 x3.s.key,v12,v13, .int .i64 x3.last,Zc x5.s.name,v15, .int .i64 x5.s.key,v16,v17, .int .i64 x5.last,v14,Zc x4.table])] hS28 ⟨fun _ hSw=>Zd hSw (hc7.mono ((hle13.trans hle14).trans hle15)) [Zc x3.s.name,v11, .int .i64 x3.s.key,v12,v13, .int .i64 x3.last] Zp rfl rfl rfl rfl rfl <| nu rfl rfl,fun _=>Zi (((Xe (fun x8=>decide (x8.s.name = x4.table)) l)).toNat) ep1 Zaw Zp rfl rfl rfl (congrArg (Value.int .i64) (Int.toNat_of_nonneg (by omega)).symm) <| nu rfl rfl,fun _ hSw=>Zd hSw hc10 [Zc x5.s.name,v15, .int .i64 x5.s.key,v16,v17, .int .i64 x5.last] Zp rfl rfl rfl rfl rfl <| nu rfl rfl,fun _ hSw=>Zd hSw (hc9.mono hle15) [v14,Zc x4.table] QJ rfl rfl rfl rfl rfl <| nu rfl rfl,fun _=>WL.build _ [(0,[Zc x3.s.name,v11, .int .i64 x3.s.key,v12,v13, .int .i64 x3.last]),(1,[Zc x5.s.name,v15, .int .i64 x5.s.key,v16,v17, .int .i64 x5.last]),(2,[v14,Zc x4.table])] [Zc x3.s.name,v11, .int .i64 x3.s.key,v12,v13, .int .i64 x3.last,Zc x5.s.name,v15, .int .i64 x5.s.key,v16,v17, .int .i64 x5.last,v14,Zc x4.table] ZiG rfl Zuc rfl rfl rfl rfl <| nu rfl rfl,trivial⟩ (fun w22 hS29=>?_)
   refine TG.fork 6 [7,8,9,10,11,12,13] [7,11] rfl rfl (by decide) (by decide) (TA.cons rfl ?_ (TA.cons rfl ?_ TA.nil))
   ·refine Z8 hS29 ZsQ rfl rfl rfl (Zro hS29.imm (Link.mk x3 x5 x4) (-62135596800) _ (ZcS (Link.mk x3 x5 x4) hb9 (hs10.mono (((hle12.trans hle13).trans hle14).trans hle15)) hb10 (hs11.mono (((hle12.trans hle13).trans hle14).trans hle15)) (hs12.mono (((hle12.trans hle13).trans hle14).trans hle15)) YL X2 hs14 Q8 hs15 hs16 QS (hs13.mono (hle14.trans hle15)) Xl) (show Z1 (-62135596800) from by constructor <;> decide) (by have h9:=hlk; rw [(Zf hlk.1 ‹_›)] at h9; exact ZdG (hva _ (List.mem_of_getElem? (by assumption : l[k3]? = some _))) h9.2.2.1 h9.2.2.2)) ?_
    rintro w23 G16 _ ⟨r8,_,rfl,hs17,rfl⟩ hS30 hle16
    obtain ⟨cs7,rfl,hr9⟩:=hs17
    have qo14:=XK hr9
    obtain ⟨v18,rfl,QK,ZaO,hs18⟩:=qo14
    refine ⟨fun h=>absurd h (by decide),?_⟩
    refine TG.quiet 5 [8,9,10,11,12,13] 8 rfl rfl rfl rfl rfl (by decide) (fun w9 K9 k9=>WL.move rfl k9) ?_
    refine TG.quiet 4 [9,10,11,12,13] 9 rfl rfl rfl rfl rfl (by decide) (fun w9 K9 k9=>WL.extract _ _ rfl rfl rfl k9) ?_
    refine TG.quiet 3 [10,11,12,13] 10 rfl rfl rfl rfl rfl (by decide) (fun w9 K9 k9=>WL.extract _ _ rfl rfl rfl k9) ?_
    refine TG.fork 2 [11,12,13] [11] rfl rfl (by decide) (by decide) (TA.cons rfl ?_ TA.nil)
    refine WL.alloc hS30 ZX rfl rfl (fun b7 w24 hn7 hS31=>?_)
    refine ⟨fun _=>hS31.tail.down hS29.le hle16,?_⟩
    refine TG.fork 1 [12,13] [12] rfl rfl (by decide) (by decide) (TA.cons rfl ?_ TA.nil)
    refine WL.store hS31 0 _ _ _ 0 _ [.int .i64 ((ZY (Za5 (Link.mk x3 x5 x4) (-62135596800))).tx), .int .i64 ((ZY (Za5 (Link.mk x3 x5 x4) (-62135596800))).vd),v18] [.int .i64 ((ZY (Za5 (Link.mk x3 x5 x4) (-62135596800))).tx), .int .i64 ((ZY (Za5 (Link.mk x3 x5 x4) (-62135596800))).vd),v18] _ rfl rfl ZX rfl (Nat.le_of_ble_eq_true rfl) (by simp only [List.all_cons,List.all_nil,hs18.oneC,Bool.true_and] <;> rfl) rfl rfl rfl rfl rfl (fun w25 hS32=>?_)
    have qo15:=hS32.shutB hn7
    obtain ⟨G17,hle17,hc11,hS33⟩:=qo15
    refine ⟨fun h=>absurd h (by decide),?_⟩
    refine TG.fork 0 [13] [13] rfl rfl (by decide) (by decide) (TA.cons rfl ?_ TA.nil)
    refine WL.assign rfl ?_
    refine ⟨fun h=>absurd h (by decide),?_⟩
    refine TG.fin rfl ?_
    refine X8 (d:=19) rfl (fun (h8 : ((Za5 (Link.mk x3 x5 x4) (-62135596800)).isSome) = true)=>?_) (fun (h8 : ((Za5 (Link.mk x3 x5 x4) (-62135596800)).isSome) = false)=>?_)
    ·refine Za hS33 (XL.drop 0 (XL.drop 0 (hc7.mono ((((hle13.trans hle14).trans hle15).trans hle16).trans hle17)))) YM rfl rfl rfl ?_
     exact RT hS33 rfl ⟨_,_,rfl,(congrArg Zc (by first | exact (ZD ‹_›).1 | exact (ZD ‹_›).2 | exact (ZE (r:=(_,_)) ‹_› ‹_› ‹_› (by first | exact Z4 ‹_› | exact Zu ‹_› ‹_›)).1 | exact (ZE (r:=(_,_)) ‹_› ‹_› ‹_› (by first | exact Z4 ‹_› | exact Zu ‹_› ‹_›)).2 | exact (ZF (r:=(_,_)) hall ‹_› (by omega) ‹_› ‹_› ‹_› ‹_› (Zv (Zf hlk.1 ‹_›) ‹_›)).1 | exact (ZF (r:=(_,_)) hall ‹_› (by omega) ‹_› ‹_› ‹_› ‹_› (Zv (Zf hlk.1 ‹_›) ‹_›)).2 | exact (ZG hall ‹_› (by omega) ‹_› (by omega)).1 | exact (ZG hall ‹_› (by omega) ‹_› (by omega)).2)),(congrArg (Value.int .i64) (by first | exact (ZD ‹_›).1 | exact (ZD ‹_›).2 | exact (ZE (r:=(_,_)) ‹_› ‹_› ‹_› (by first | exact Z4 ‹_› | exact Zu ‹_› ‹_›)).1 | exact (ZE (r:=(_,_)) ‹_› ‹_› ‹_› (by first | exact Z4 ‹_› | exact Zu ‹_› ‹_›)).2 | exact (ZF (r:=(_,_)) hall ‹_› (by omega) ‹_› ‹_› ‹_› ‹_› (Zv (Zf hlk.1 ‹_›) ‹_›)).1 | exact (ZF (r:=(_,_)) hall ‹_› (by omega) ‹_› ‹_› ‹_› ‹_› (Zv (Zf hlk.1 ‹_›) ‹_›)).2 | exact (ZG hall ‹_› (by omega) ‹_› (by omega)).1 | exact (ZG hall ‹_› (by omega) ‹_› (by omega)).2))⟩
    refine Zj k4 (by have hreach : reach = 140737488355328:=rfl; omega) rfl rfl rfl ?_
    exact BK.mk' _ ⟨k4 + 1,G17,rfl,(hle13.trans (((hle14.trans hle15).trans hle16).trans hle17)),hS33,⟨rfl,rfl,rfl,rfl,rfl,rfl,rfl,rfl,trivial⟩,(by omega),(by exact Yj ‹_› ‹_› (Zhh (Zf hlk.1 ‹_›) ‹_›))⟩ (show x3.s.fks.length - (k4 + 1) < x3.s.fks.length - k4 by omega)
   refine WL.alloc hS29 ZX rfl rfl (fun b8 w26 hn8 hS34=>?_)
   refine ⟨fun _=>hS34.tail.down hS29.le (G15.le_refl),?_⟩
   refine TG.fork 5 [7,8,9,10,12,13] [7] rfl rfl (by decide) (by decide) (TA.cons rfl ?_ TA.nil)
   refine Z8 hS34 ZsQ rfl rfl rfl (Zro hS34.imm (Link.mk x3 x5 x4) (-62135596800) _ (ZcS (Link.mk x3 x5 x4) hb9 (hs10.mono (((hle12.trans hle13).trans hle14).trans hle15)) hb10 (hs11.mono (((hle12.trans hle13).trans hle14).trans hle15)) (hs12.mono (((hle12.trans hle13).trans hle14).trans hle15)) YL X2 hs14 Q8 hs15 hs16 QS (hs13.mono (hle14.trans hle15)) Xl) (show Z1 (-62135596800) from by constructor <;> decide) (by have h9:=hlk; rw [(Zf hlk.1 ‹_›)] at h9; exact ZdG (hva _ (List.mem_of_getElem? (by assumption : l[k3]? = some _))) h9.2.2.1 h9.2.2.2)) ?_
   rintro w27 G18 _ ⟨r11,_,rfl,hs19,rfl⟩ hS35 hle18
   obtain ⟨cs8,rfl,hr10⟩:=hs19
   have qo16:=XK hr10
   obtain ⟨v19,rfl,ZbC,Zcg,hs20⟩:=qo16
   refine ⟨fun h=>absurd h (by decide),?_⟩
   refine TG.quiet 4 [8,9,10,12,13] 8 rfl rfl rfl rfl rfl (by decide) (fun w9 K9 k9=>WL.move rfl k9) ?_
   refine TG.quiet 3 [9,10,12,13] 9 rfl rfl rfl rfl rfl (by decide) (fun w9 K9 k9=>WL.extract _ _ rfl rfl rfl k9) ?_
   refine TG.quiet 2 [10,12,13] 10 rfl rfl rfl rfl rfl (by decide) (fun w9 K9 k9=>WL.extract _ _ rfl rfl rfl k9) ?_
   refine TG.fork 1 [12,13] [12] rfl rfl (by decide) (by decide) (TA.cons rfl ?_ TA.nil)
   refine WL.store hS35 0 _ _ _ 0 _ [.int .i64 ((ZY (Za5 (Link.mk x3 x5 x4) (-62135596800))).tx), .int .i64 ((ZY (Za5 (Link.mk x3 x5 x4) (-62135596800))).vd),v19] [.int .i64 ((ZY (Za5 (Link.mk x3 x5 x4) (-62135596800))).tx), .int .i64 ((ZY (Za5 (Link.mk x3 x5 x4) (-62135596800))).vd),v19] _ rfl rfl ZX rfl (Nat.le_of_ble_eq_true rfl) (by simp only [List.all_cons,List.all_nil,hs20.oneC,Bool.true_and] <;> rfl) rfl rfl rfl rfl rfl (fun w28 hS36=>?_)
   have qo17:=hS36.shutB hn8
   obtain ⟨G19,hle19,hc12,hS37⟩:=qo17
   refine ⟨fun h=>absurd h (by decide),?_⟩
   refine TG.fork 0 [13] [13] rfl rfl (by decide) (by decide) (TA.cons rfl ?_ TA.nil)
   refine WL.assign rfl ?_
   refine ⟨fun h=>absurd h (by decide),?_⟩
   refine TG.fin rfl ?_
   refine X8 (d:=19) rfl (fun (h9 : ((Za5 (Link.mk x3 x5 x4) (-62135596800)).isSome) = true)=>?_) (fun (h9 : ((Za5 (Link.mk x3 x5 x4) (-62135596800)).isSome) = false)=>?_)
   ·refine Za hS37 (XL.drop 0 (XL.drop 0 (hc7.mono ((((hle13.trans hle14).trans hle15).trans hle18).trans hle19)))) YM rfl rfl rfl ?_
    exact RT hS37 rfl ⟨_,_,rfl,(congrArg Zc (by first | exact (ZD ‹_›).1 | exact (ZD ‹_›).2 | exact (ZE (r:=(_,_)) ‹_› ‹_› ‹_› (by first | exact Z4 ‹_› | exact Zu ‹_› ‹_›)).1 | exact (ZE (r:=(_,_)) ‹_› ‹_› ‹_› (by first | exact Z4 ‹_› | exact Zu ‹_› ‹_›)).2 | exact (ZF (r:=(_,_)) hall ‹_› (by omega) ‹_› ‹_› ‹_› ‹_› (Zv (Zf hlk.1 ‹_›) ‹_›)).1 | exact (ZF (r:=(_,_)) hall ‹_› (by omega) ‹_› ‹_› ‹_› ‹_› (Zv (Zf hlk.1 ‹_›) ‹_›)).2 | exact (ZG hall ‹_› (by omega) ‹_› (by omega)).1 | exact (ZG hall ‹_› (by omega) ‹_› (by omega)).2)),(congrArg (Value.int .i64) (by first | exact (ZD ‹_›).1 | exact (ZD ‹_›).2 | exact (ZE (r:=(_,_)) ‹_› ‹_› ‹_› (by first | exact Z4 ‹_› | exact Zu ‹_› ‹_›)).1 | exact (ZE (r:=(_,_)) ‹_› ‹_› ‹_› (by first | exact Z4 ‹_› | exact Zu ‹_› ‹_›)).2 | exact (ZF (r:=(_,_)) hall ‹_› (by omega) ‹_› ‹_› ‹_› ‹_› (Zv (Zf hlk.1 ‹_›) ‹_›)).1 | exact (ZF (r:=(_,_)) hall ‹_› (by omega) ‹_› ‹_› ‹_› ‹_› (Zv (Zf hlk.1 ‹_›) ‹_›)).2 | exact (ZG hall ‹_› (by omega) ‹_› (by omega)).1 | exact (ZG hall ‹_› (by omega) ‹_› (by omega)).2))⟩
   refine Zj k4 (by have hreach : reach = 140737488355328:=rfl; omega) rfl rfl rfl ?_
   exact BK.mk' _ ⟨k4 + 1,G19,rfl,(hle13.trans (((hle14.trans hle15).trans hle18).trans hle19)),hS37,⟨rfl,rfl,rfl,rfl,rfl,rfl,rfl,rfl,trivial⟩,(by omega),(by exact Yj ‹_› ‹_› (Zhh (Zf hlk.1 ‹_›) ‹_›))⟩ (show x3.s.fks.length - (k4 + 1) < x3.s.fks.length - k4 by omega)
  refine Zj k3 (by have hreach : reach = 140737488355328:=rfl; omega) rfl rfl rfl ?_
  exact BK.mk' _ ⟨k3 + 1,G13,rfl,(hle11.trans (hle12.trans hle13)),hS24,⟨rfl,rfl,rfl,rfl,trivial⟩,(by omega),(by exact Yj ‹_› ‹_› (ZbN ‹_› (by omega)))⟩ (show l.length - (k3 + 1) < l.length - k3 by omega)
 exact RT hS20 rfl ⟨_,_,rfl,(congrArg Zc (by first | exact (ZD ‹_›).1 | exact (ZD ‹_›).2 | exact (ZE (r:=(_,_)) ‹_› ‹_› ‹_› (by first | exact Z4 ‹_› | exact Zu ‹_› ‹_›)).1 | exact (ZE (r:=(_,_)) ‹_› ‹_› ‹_› (by first | exact Z4 ‹_› | exact Zu ‹_› ‹_›)).2 | exact (ZF (r:=(_,_)) hall ‹_› (by omega) ‹_› ‹_› ‹_› ‹_› (Zv (Zf hlk.1 ‹_›) ‹_›)).1 | exact (ZF (r:=(_,_)) hall ‹_› (by omega) ‹_› ‹_› ‹_› ‹_› (Zv (Zf hlk.1 ‹_›) ‹_›)).2 | exact (ZG hall ‹_› (by omega) ‹_› (by omega)).1 | exact (ZG hall ‹_› (by omega) ‹_› (by omega)).2)),(congrArg (Value.int .i64) (by first | exact (ZD ‹_›).1 | exact (ZD ‹_›).2 | exact (ZE (r:=(_,_)) ‹_› ‹_› ‹_› (by first | exact Z4 ‹_› | exact Zu ‹_› ‹_›)).1 | exact (ZE (r:=(_,_)) ‹_› ‹_› ‹_› (by first | exact Z4 ‹_› | exact Zu ‹_› ‹_›)).2 | exact (ZF (r:=(_,_)) hall ‹_› (by omega) ‹_› ‹_› ‹_› ‹_› (Zv (Zf hlk.1 ‹_›) ‹_›)).1 | exact (ZF (r:=(_,_)) hall ‹_› (by omega) ‹_› ‹_› ‹_› ‹_› (Zv (Zf hlk.1 ‹_›) ‹_›)).2 | exact (ZG hall ‹_› (by omega) ‹_› (by omega)).1 | exact (ZG hall ‹_› (by omega) ‹_› (by omega)).2))⟩
end Go.Civ
