/- Lemmas. -/
import Derived.Test.YthgeclodflmiaaaGreatH12
import Derived.Test.YthgeclodflmiaaaGreatH15
import Derived.Test.YthgeclodflmiaaaGreatH19
import Derived.Test.YthgeclodflmiaaaGreatProg
import Derived.KernelRfl
import Derived.WalkKit
set_option linter.unusedVariables false
set_option linter.unusedSimpArgs false
set_option maxRecDepth 100000
set_option maxHeartbeats 4000000
namespace Go.Civ
open Go.Proofs
theorem Zlr {G : GH} {w : World} (hG : G.In w) (c : Int) : CL Tryz.prog (nat_lit 170) #[.int .u8 c] [] w G fun _ _ r=>r = .bool (ZaY c):=by
 refine Zg ft [] Tryz.func170 rfl rfl ?_
 have hS:=St.start (X:=[]) hG
 refine Qv c 65 rfl rfl rfl (fun h1=>?_) (fun h1=>?_)
 ·refine Qu c 90 rfl rfl rfl (fun h2=>?_) (fun h2=>?_)
  ·exact RB hS rfl (by unfold ZaY; simp_all [Cmp.b] <;> (first | omega | (intros; omega) | (rw [Bool.eq_iff_iff]; simp <;> omega) | (rw [Bool.eq_iff_iff]; simp_all <;> omega)))
  refine Qv c 97 rfl rfl rfl (fun h3=>?_) (fun h3=>?_)
  ·refine ZZ .leq rfl .u8 c 122 rfl rfl rfl ?_
   exact RB hS rfl (by unfold ZaY; simp_all [Cmp.b] <;> (omega))
  exact RB hS rfl (by unfold ZaY; simp_all [Cmp.b] <;> (omega))
 refine Qv c 97 rfl rfl rfl (fun h4=>?_) (fun h4=>?_)
 ·refine ZZ .leq rfl .u8 c 122 rfl rfl rfl ?_
  exact RB hS rfl (by unfold ZaY; simp_all [Cmp.b] <;> (omega))
 exact RB hS rfl (by unfold ZaY; simp_all [Cmp.b] <;> (omega))
theorem Zt5 {G : GH} {w : World} (hG : G.In w) (c : Int) : CL Tryz.prog (nat_lit 171) #[.int .u8 c] [] w G fun _ _ r=>r = .bool (Zf3 c):=by
 refine Zg ft [] Tryz.func171 rfl rfl ?_
 have hS:=St.start (X:=[]) hG
 refine Qv c 48 rfl rfl rfl (fun h1=>?_) (fun h1=>?_)
 ·refine ZZ .leq rfl .u8 c 57 rfl rfl rfl ?_
  exact RB hS rfl (by unfold Zf3; simp_all [Cmp.b] <;> (first | omega | (intros; omega) | (rw [Bool.eq_iff_iff]; simp <;> omega) | (rw [Bool.eq_iff_iff]; simp_all <;> omega)))
 exact RB hS rfl (by unfold Zf3; simp_all [Cmp.b] <;> (omega))
theorem Zls {G : GH} {w : World} (hG : G.In w) (s : List UInt8) : CL Tryz.prog (nat_lit 118) #[Zb s] [] w G fun _ _ r=>r = .bool (XR s):=by
 refine Zg ft [] Tryz.func118 rfl rfl ?_
 have hS:=St.start (X:=[]) hG
 refine Qq s ul9 rfl rfl ?_
 refine Zq (s.length : Int) 1 rfl rfl rfl (fun h1=>?_) (fun h1=>?_)
 ·exact RB hS rfl (by exact (ZiP (by omega)).symm)
 refine Qq s ul9 rfl rfl ?_
 refine YX (s.length : Int) 30 rfl rfl rfl (fun h2=>?_) (fun h2=>?_)
 ·exact RB hS rfl (by exact (ZiP (by omega)).symm)
 refine Zbb s 0 (by omega) ul9 rfl rfl rfl (fun c1 hx1=>?_)
 refine Zn hS Zsk rfl rfl rfl (Zlr hS.imm (c1.toNat : Int)) (fun w1 G1 hS1 hle1=>?_)
 refine WL.split (fun (h3 : (ZaY (c1.toNat : Int)) = true)=>?_) (fun (h3 : (ZaY (c1.toNat : Int)) = false)=>?_)
 ·refine Qq s ul9 rfl rfl ?_
  refine LP.go ft [] (fun m ρ1 w1=>∃ (k1 : Nat),∃ (G2 : GH),m = s.length - k1 ∧ G1.le G2 ∧ St w [] G G2 [] w1 ∧ FR ρ1 [(0,Zb s),(19, .int .i64 (s.length : Int)),(20, .int .i64 (k1 : Int))] ∧ k1 ≤ s.length ∧ ∀ j,j < k1 → ∀ c,s[j]? = some c → Zbq c = true) _ ⟨0,G1,rfl,(G1.le_refl),hS1,⟨rfl,rfl,rfl,trivial⟩,(by omega),(by intro j hj; omega)⟩ ?_
  rintro m ρ1 w2 ⟨k1,G2,rfl,hle2,hS2,hF9,f1,f2⟩
  refine hF9.set ?_
  clear hF9
  refine Zq (k1 : Int) (s.length : Int) rfl rfl rfl (fun h4=>?_) (fun h4=>?_)
  ·refine Zbb s k1 (by omega) ul9 rfl rfl rfl (fun c2 hx2=>?_)
   refine Zn hS2 Zsk rfl rfl rfl (Zlr hS2.imm (c2.toNat : Int)) (fun w3 G3 hS3 hle3=>?_)
   refine WL.split (fun (h5 : (ZaY (c2.toNat : Int)) = true)=>?_) (fun (h5 : (ZaY (c2.toNat : Int)) = false)=>?_)
   ·refine Zl k1 (by have hreach : reach = 140737488355328:=rfl; omega) rfl rfl rfl ?_
    exact BK.mk' _ ⟨k1 + 1,G3,rfl,(hle2.trans hle3),hS3,⟨rfl,rfl,rfl,trivial⟩,(by omega),(by exact Xy ‹_› ‹_› (by exact ZsR ‹_›))⟩ (show s.length - (k1 + 1) < s.length - k1 by omega)
   refine Zbb s k1 (by omega) ul9 rfl rfl rfl (fun c3 hx3=>?_)
   obtain rfl : c2 = c3:=Option.some.inj (hx2.symm.trans hx3)
   refine Zn hS3 ZvR rfl rfl rfl (Zt5 hS3.imm (c2.toNat : Int)) (fun w4 G4 hS4 hle4=>?_)
   refine WL.split (fun (h6 : (Zf3 (c2.toNat : Int)) = true)=>?_) (fun (h6 : (Zf3 (c2.toNat : Int)) = false)=>?_)
   ·refine Zl k1 (by have hreach : reach = 140737488355328:=rfl; omega) rfl rfl rfl ?_
    exact BK.mk' _ ⟨k1 + 1,G4,rfl,(hle2.trans (hle3.trans hle4)),hS4,⟨rfl,rfl,rfl,trivial⟩,(by omega),(by exact Xy ‹_› ‹_› (by exact ZsS ‹_›))⟩ (show s.length - (k1 + 1) < s.length - k1 by omega)
   refine Zbb s k1 (by omega) ul9 rfl rfl rfl (fun c4 hx4=>?_)
   obtain rfl : c2 = c4:=Option.some.inj (hx2.symm.trans hx4)
   refine Zn hS4 ZvS rfl rfl rfl (ZlN hS4.imm [95,47,43,45] (c2.toNat : Int)) (fun w5 G5 hS5 hle5=>?_)
   refine Zq (Go.Lib.indexByte [95,47,43,45] (c2.toNat : Int).toNat.toUInt8) 0 rfl rfl rfl (fun h7=>?_) (fun h7=>?_)
   ·exact RB hS5 rfl (by exact (ZqF ‹_› (ZqG ‹_› ‹_› ‹_›)).symm)
   refine Zl k1 (by have hreach : reach = 140737488355328:=rfl; omega) rfl rfl rfl ?_
   exact BK.mk' _ ⟨k1 + 1,G5,rfl,(hle2.trans ((hle3.trans hle4).trans hle5)),hS5,⟨rfl,rfl,rfl,trivial⟩,(by omega),(by exact Xy ‹_› ‹_› (by exact ZsT ‹_›))⟩ (show s.length - (k1 + 1) < s.length - k1 by omega)
  exact RB hS2 rfl (by exact (Zo3 (by omega) (by omega) ‹_› ‹_› (Ys ‹_› (by omega))).symm)
 exact RB hS1 rfl (by exact (Zo2 ‹_› ‹_›).symm)
theorem Zjo {G : GH} {w : World} (hG : G.In w) (l : List (List UInt8)) (nm : List UInt8) (vl : Value) (hvl : Sl Enc.str 16 G vl l) : CL Tryz.prog (nat_lit 174) #[vl,Zb nm] [] w G fun _ _ r=>r = .int .i64 (ixS l nm):=by
 refine Zg ft [] Tryz.func174 rfl rfl ?_
 have hS:=St.start (X:=[]) hG
 have bd1:=hvl.bound
 refine Zj hvl Zb9 rfl rfl ?_
 refine LP.go ft [] (fun m ρ1 w1=>∃ (k1 : Nat),∃ (G1 : GH),m = l.length - k1 ∧ G.le G1 ∧ St w [] G G1 [] w1 ∧ FR ρ1 [(0,vl),(1,Zb nm),(7, .int .i64 (l.length : Int)),(8, .int .i64 (k1 : Int))] ∧ k1 ≤ l.length ∧ ∀ j,j < k1 → ∀ x,l[j]? = some x → decide (x = nm) = false) _ ⟨0,G,rfl,(G.le_refl),hS,⟨rfl,rfl,rfl,rfl,trivial⟩,(by omega),(by intro j hj; omega)⟩ ?_
 rintro m ρ1 w1 ⟨k1,G1,rfl,hle1,hS1,hF9,f1,f2⟩
 refine hF9.set ?_
 clear hF9
 refine Zq (k1 : Int) (l.length : Int) rfl rfl rfl (fun h1=>?_) (fun h1=>?_)
 ·refine WL.indexAddr (hvl.mono hle1) k1 (by omega) Zb9 Yj rfl rfl rfl rfl (fun p1 x1 hx1 he1=>?_)
  obtain ⟨cs1,hc1,hr1⟩:=he1
  obtain ⟨rfl,hb1⟩:=hr1
  refine Za hS1 hc1 Yj rfl rfl rfl <| Ya .eql rfl nm x1 rfl rfl rfl ?_
  refine WL.split (fun h0=>?_) (fun h0=>?_)
  ·have h2 : nm = x1:=by simpa [SCmp.b] using h0
   clear h0
   exact RI hS1 rfl (by unfold ixS; exact (Zcs _ ‹_› (by simp_all) ‹_›).symm)
  have h2 : nm ≠ x1:=by simpa [SCmp.b] using h0
  clear h0
  refine Zl k1 (by have hreach : reach = 140737488355328:=rfl; omega) rfl rfl rfl ?_
  exact BK.mk' _ ⟨k1 + 1,G1,rfl,hle1,hS1,⟨rfl,rfl,rfl,rfl,trivial⟩,(by omega),(by exact Xy ‹_› ‹_› (decide_eq_false (Ne.symm ‹_›)))⟩ (show l.length - (k1 + 1) < l.length - k1 by omega)
 exact RI hS1 rfl (by unfold ixS; exact (Zb5 ‹_› (by omega)).symm)
theorem Zlt {G : GH} {w : World} (hG : G.In w) (l : List (List UInt8)) (nm : List UInt8) (vl : Value) (hvl : Sl Enc.str 16 G vl l) : CL Tryz.prog (nat_lit 173) #[vl,Zb nm] [] w G fun _ _ r=>r = .bool (l.any fun x=>decide (x = nm)):=by
 refine Zg ft [] Tryz.func173 rfl rfl ?_
 have hS:=St.start (X:=[]) hG
 refine Zn hS Zsl rfl rfl rfl (Zjo hS.imm l nm _ hvl) (fun w1 G1 hS1 hle1=>?_)
 refine ZZ .geq rfl .i64 (ixS l nm) 0 rfl rfl rfl ?_
 exact RB hS1 rfl (by exact ZsU)
theorem ZhU {G : GH} {w : World} (hG : G.In w) (l : List (List UInt8)) (vl : Value) (hvl : Sl Enc.str 16 G vl l) : CL Tryz.prog (nat_lit 119) #[vl] [] w G fun _ _ r=>r = .bool (Zay l):=by
 refine Zg ft [] Tryz.func119 rfl rfl ?_
 have hS:=St.start (X:=[]) hG
 have bd1:=hvl.bound
 refine Zj hvl Zb9 rfl rfl ?_
 refine LP.go ft [] (fun m ρ1 w1=>∃ (k1 : Nat),∃ (G1 : GH),m = l.length - k1 ∧ G.le G1 ∧ St w [] G G1 [] w1 ∧ FR ρ1 [(0,vl),(5,vl),(6, .int .i64 (l.length : Int)),(7, .int .i64 (k1 : Int))] ∧ k1 ≤ l.length ∧ ∀ j,j < k1 → ∀ s,l[j]? = some s → ZbC l j s = true) _ ⟨0,G,rfl,(G.le_refl),hS,⟨rfl,rfl,rfl,rfl,trivial⟩,(by omega),(by intro j hj; omega)⟩ ?_
 rintro m ρ1 w1 ⟨k1,G1,rfl,hle1,hS1,hF9,f1,f2⟩
 refine hF9.set ?_
 clear hF9
 refine Zq (k1 : Int) (l.length : Int) rfl rfl rfl (fun h1=>?_) (fun h1=>?_)
 ·refine WL.indexAddr (hvl.mono hle1) k1 (by omega) Zb9 Yj rfl rfl rfl rfl (fun p1 x1 hx1 he1=>?_)
  obtain ⟨cs1,hc1,hr1⟩:=he1
  obtain ⟨rfl,hb1⟩:=hr1
  refine Za hS1 hc1 Yj rfl rfl rfl ?_
  refine Zn hS1 Znf rfl rfl rfl (Zls hS1.imm x1) (fun w2 G2 hS2 hle2=>?_)
  refine WL.split (fun (h2 : (XR x1) = true)=>?_) (fun (h2 : (XR x1) = false)=>?_)
  ·refine Yr (hvl.mono (hle1.trans hle2)) k1 (by omega) Zb9 Yj rfl rfl rfl rfl (fun v1 hs1=>?_)
   refine Zn hS2 ZvT rfl rfl rfl (Zlt hS2.imm (l.take k1) x1 _ hs1) (fun w3 G3 hS3 hle3=>?_)
   refine WL.split (fun (h3 : ((l.take k1).any fun x=>decide (x = x1)) = true)=>?_) (fun (h3 : ((l.take k1).any fun x=>decide (x = x1)) = false)=>?_)
   ·exact RB hS3 rfl (by exact (ZkN ‹_› (Zo6 ‹_›)).symm)
   refine Zl k1 (by have hreach : reach = 140737488355328:=rfl; omega) rfl rfl rfl ?_
   exact BK.mk' _ ⟨k1 + 1,G3,rfl,(hle1.trans (hle2.trans hle3)),hS3,⟨rfl,rfl,rfl,rfl,trivial⟩,(by omega),(by exact ZkM (P:=fun j s=>ZbC l j s = true) ‹_› ‹_› (Zo4 ‹_› ‹_›))⟩ (show l.length - (k1 + 1) < l.length - k1 by omega)
  exact RB hS2 rfl (by exact (ZkN ‹_› (Zo5 ‹_›)).symm)
 exact RB hS1 rfl (by exact (Zo7 ‹_› (by omega)).symm)
theorem Zlu {G : GH} {w : World} (hG : G.In w) (l : List Col) (vl : Value) (hvl : Sl ColE 24 G vl l) : CL Tryz.prog (nat_lit 120) #[vl] [] w G fun G' _ r=>Sl Enc.str 16 G' r (l.map Col.name):=by
 refine Zg ft [] Tryz.func120 rfl rfl ?_
 have hS:=St.start (X:=[]) hG
 have bd1:=hvl.bound
 refine Zj hvl Qx rfl rfl ?_
 have hS2:=hS.pad
 refine LP.go ft [] (fun m ρ1 w1=>∃ (k1 : Nat),∃ (v1 : Value) (o1 : OB),∃ (G1 : GH),m = l.length - k1 ∧ G.le G1 ∧ St w [] G G1 [o1] w1 ∧ Ye Enc.str 16 9 G1 v1 ((l.take k1).map Col.name) o1 ∧ FR ρ1 [(3,v1),(6,vl),(7, .int .i64 (l.length : Int)),(8, .int .i64 (k1 : Int))] ∧ k1 ≤ l.length) _ ⟨0,(.slice none 0 0),none,G,rfl,(G.le_refl),hS2,(Ye.cast (Ye.nil Enc.str 16 9 G) (by simp)),⟨rfl,rfl,rfl,rfl,trivial⟩,(by omega)⟩ ?_
 rintro m ρ1 w1 ⟨k1,v1,o1,G1,rfl,hle1,hS1,hr1,hF9,f1⟩
 refine hF9.set ?_
 clear hF9
 have htk:=List.length_take_le k1 l
 refine Zq (k1 : Int) (l.length : Int) rfl rfl rfl (fun h1=>?_) (fun h1=>?_)
 ·refine WL.indexAddr (hvl.mono hle1) k1 (by omega) Qx Xi rfl rfl rfl rfl (fun p1 x1 hx1 he1=>?_)
  obtain ⟨cs1,hc1,hr2⟩:=he1
  obtain ⟨rfl,hb1,hb2⟩:=X8 hr2
  refine Zc hS1 hc1 [Zb x1.name, .int .i64 x1.kind] Xi rfl rfl rfl rfl rfl ?_
  refine WL.alloc hS1 Xi rfl rfl (fun b1 w2 hn1 hS3=>?_)
  refine WL.store hS3 0 _ _ _ 0 _ [Zb x1.name, .int .i64 x1.kind] [Zb x1.name, .int .i64 x1.kind] _ rfl rfl Xi rfl (Nat.le_of_ble_eq_true rfl) rfl rfl rfl rfl rfl rfl (fun w3 hS4=>?_)
  obtain ⟨G2,hle2,hc2,hS5⟩:=hS4.shutB hn1
  refine Za hS5 (Xw.drop 0 hc2) Yj rfl rfl rfl ?_
  refine WL.buildSlice _ [(0,[Zb x1.name])] [Zb x1.name] hS5 ZmX rfl rfl rfl rfl (fun z hz=>by match z,hz with | [z0],_=>rfl) (fun b2 w4 hn2 hS6=>?_)
  refine WL.push (m:=([x1.name] : List (List UInt8))) ZmX rfl rfl rfl (hr1.mono hle2) hS6 1 rfl 0 _ _ _ _ _ rfl ⟨[Zb x1.name],_,rfl,⟨rfl,hb1⟩,rfl⟩ rfl (by have hreach : reach = 140737488355328:=rfl; have hby:=(by assumption : Sl ColE 24 G _ l).bytes; have hbl:=List.length_take_le' k1 l; simp only [List.length_append,List.length_cons,List.length_nil,List.length_map]; omega) (by have hreach : reach = 140737488355328:=rfl; have hby:=(by assumption : Sl ColE 24 G _ l).bytes; have hbl:=List.length_take_le' k1 l; simp only [List.length_append,List.length_cons,List.length_nil,List.length_map]; omega) rfl rfl rfl (fun v2 o2 w5 hr3 hS7=>?_)
  have hS8:=hS7.tail
  refine Zl k1 (by have hreach : reach = 140737488355328:=rfl; omega) rfl rfl rfl ?_
  exact BK.mk' _ ⟨k1 + 1,v2,o2,G2,rfl,(hle1.trans hle2),hS8,(Ye.cast hr3 (by (rw [List.take_add_one,(by assumption : l[k1]? = some _)]; simp))),⟨rfl,rfl,rfl,rfl,trivial⟩,(by omega)⟩ (show l.length - (k1 + 1) < l.length - k1 by omega)
 obtain ⟨G3,hle3,hs1,hS9⟩:=Ye.freeze hr1 hS1 0 rfl
 exact RT hS9 rfl (Sl.cast hs1 (by rw [List.take_of_length_le (by omega)]))
theorem Zr1 {G : GH} {w : World} (hG : G.In w) (s : Schema) (cs : List Value) (hcs : SchemaE.rep G s cs) : CL Tryz.prog (nat_lit 196) #[.agg cs.toArray] [] w G fun G' _ r=>Sl Enc.str 16 G' r (s.cols.map Col.name):=by
 refine Zg ft [] Tryz.func196 rfl rfl ?_
 have hS:=St.start (X:=[]) hG
 obtain ⟨v1,v2,rfl,hb1,hs1,hb2,hs2⟩:=Qc hcs
 refine Zv [Zb s.name,v1, .int .i64 s.key,v2] _ hS rfl rfl rfl (fun p1 w1 G1 hle1 hsp1 hc1 hS1=>?_)
 refine Za hS1 (Xw.drop 1 hc1) Zc2 rfl rfl rfl ?_
 have bd1:=hs1.bound
 refine Zj (hs1.mono hle1) Qx rfl rfl ?_
 have hS3:=hS1.pad
 refine LP.go ft [] (fun m ρ1 w1=>∃ (k1 : Nat),∃ (v3 : Value) (o1 : OB),∃ (G2 : GH),m = s.cols.length - k1 ∧ G1.le G2 ∧ St w [] G G2 [o1] w1 ∧ Ye Enc.str 16 9 G2 v3 ((s.cols.take k1).map Col.name) o1 ∧ FR ρ1 [(3,v3),(7,v1),(8, .int .i64 (s.cols.length : Int)),(9, .int .i64 (k1 : Int))] ∧ k1 ≤ s.cols.length) _ ⟨0,(.slice none 0 0),none,G1,rfl,(G1.le_refl),hS3,(Ye.cast (Ye.nil Enc.str 16 9 G1) (by simp)),⟨rfl,rfl,rfl,rfl,trivial⟩,(by omega)⟩ ?_
 rintro m ρ1 w2 ⟨k1,v3,o1,G2,rfl,hle2,hS2,hr1,hF9,f1⟩
 refine hF9.set ?_
 clear hF9
 have htk:=List.length_take_le k1 s.cols
 refine Zq (k1 : Int) (s.cols.length : Int) rfl rfl rfl (fun h1=>?_) (fun h1=>?_)
 ·refine WL.indexAddr (hs1.mono (hle1.trans hle2)) k1 (by omega) Qx Xi rfl rfl rfl rfl (fun p2 x1 hx1 he1=>?_)
  obtain ⟨cs1,hc2,hr2⟩:=he1
  obtain ⟨rfl,hb3,hb4⟩:=X8 hr2
  refine Zc hS2 hc2 [Zb x1.name, .int .i64 x1.kind] Xi rfl rfl rfl rfl rfl ?_
  refine WL.alloc hS2 Xi rfl rfl (fun b1 w3 hn1 hS4=>?_)
  refine WL.store hS4 0 _ _ _ 0 _ [Zb x1.name, .int .i64 x1.kind] [Zb x1.name, .int .i64 x1.kind] _ rfl rfl Xi rfl (Nat.le_of_ble_eq_true rfl) rfl rfl rfl rfl rfl rfl (fun w4 hS5=>?_)
  obtain ⟨G3,hle3,hc3,hS6⟩:=hS5.shutB hn1
  refine Za hS6 (Xw.drop 0 hc3) Yj rfl rfl rfl ?_
  refine WL.buildSlice _ [(0,[Zb x1.name])] [Zb x1.name] hS6 ZmX rfl rfl rfl rfl (fun z hz=>by match z,hz with | [z0],_=>rfl) (fun b2 w5 hn2 hS7=>?_)
  refine WL.push (m:=([x1.name] : List (List UInt8))) ZmX rfl rfl rfl (hr1.mono hle3) hS7 1 rfl 0 _ _ _ _ _ rfl ⟨[Zb x1.name],_,rfl,⟨rfl,hb3⟩,rfl⟩ rfl (by have hreach : reach = 140737488355328:=rfl; have hby:=(by assumption : Sl ColE 24 G _ s.cols).bytes; have hbl:=List.length_take_le' k1 s.cols; simp only [List.length_append,List.length_cons,List.length_nil,List.length_map]; omega) (by have hreach : reach = 140737488355328:=rfl; have hby:=(by assumption : Sl ColE 24 G _ s.cols).bytes; have hbl:=List.length_take_le' k1 s.cols; simp only [List.length_append,List.length_cons,List.length_nil,List.length_map]; omega) rfl rfl rfl (fun v4 o2 w6 hr3 hS8=>?_)
  have hS9:=hS8.tail
  refine Zl k1 (by have hreach : reach = 140737488355328:=rfl; omega) rfl rfl rfl ?_
  exact BK.mk' _ ⟨k1 + 1,v4,o2,G3,rfl,(hle2.trans hle3),hS9,(Ye.cast hr3 (by (rw [List.take_add_one,(by assumption : s.cols[k1]? = some _)]; simp))),⟨rfl,rfl,rfl,rfl,trivial⟩,(by omega)⟩ (show s.cols.length - (k1 + 1) < s.cols.length - k1 by omega)
 obtain ⟨G4,hle4,hs3,hS10⟩:=Ye.freeze hr1 hS2 0 rfl
 exact RT hS10 rfl (Sl.cast hs3 (by rw [List.take_of_length_le (by omega)]))
theorem Zr2 {G : GH} {w : World} (hG : G.In w) (s : Schema) (nm : List UInt8) (cs : List Value) (hcs : SchemaE.rep G s cs) : CL Tryz.prog (nat_lit 121) #[.agg cs.toArray,Zb nm] [] w G fun _ _ r=>r = .int .i64 (ixS (s.cols.map Col.name) nm):=by
 refine Zg ft [] Tryz.func121 rfl rfl ?_
 have hS:=St.start (X:=[]) hG
 obtain ⟨v1,v2,rfl,hb1,hs1,hb2,hs2⟩:=Qc hcs
 refine Zv [Zb s.name,v1, .int .i64 s.key,v2] _ hS rfl rfl rfl (fun p1 w1 G1 hle1 hsp1 hc1 hS1=>?_)
 refine Za hS1 (Xw.drop 1 hc1) Zc2 rfl rfl rfl ?_
 refine Z6 hS1 Zse rfl rfl rfl (Zlu hS1.imm s.cols _ (hs1.mono hle1)) (fun w2 G2 r1 hpost1 hS2 hle2=>?_)
 refine Zn hS2 Zsl rfl rfl rfl (Zjo hS2.imm (s.cols.map Col.name) nm _ hpost1) (fun w3 G3 hS3 hle3=>?_)
 exact RI hS3 rfl (by rfl)
theorem ZgL {G : GH} {w : World} (hG : G.In w) (s : Schema) (cs : List Value) (hcs : SchemaE.rep G s cs) : CL Tryz.prog (nat_lit 62) #[.agg cs.toArray] [] w G fun _ _ r=>r = .bool (YM s):=by
 refine Zg ft [] Tryz.func62 rfl rfl ?_
 have hS:=St.start (X:=[]) hG
 obtain ⟨v1,v2,rfl,hb1,hs1,hb2,hs2⟩:=Qc hcs
 refine Zv [Zb s.name,v1, .int .i64 s.key,v2] _ hS rfl rfl rfl (fun p1 w1 G1 hle1 hsp1 hc1 hS1=>?_)
 refine Za hS1 (Xw.drop 1 hc1) Zc2 rfl rfl rfl ?_
 have bd1:=hs1.bound
 refine Zj (hs1.mono hle1) Qx rfl rfl <| Za hS1 (Xw.drop 0 hc1) Yj rfl rfl rfl ?_
 refine Zn hS1 Znf rfl rfl rfl (Zls hS1.imm s.name) (fun w2 G2 hS2 hle2=>?_)
 refine WL.split (fun (h1 : (XR s.name) = true)=>?_) (fun (h1 : (XR s.name) = false)=>?_)
 ·refine Zq (s.cols.length : Int) 1 rfl rfl rfl (fun h2=>?_) (fun h2=>?_)
  ·exact RB hS2 rfl (by first | exact (XE hA (Ys ‹_› (by omega)) (Ys ‹_› (by omega))).symm | exact (Xz ‹_› (by omega)).symm | exact (Z8 ‹_› (XV ‹_›)).symm | exact (Z8 ‹_› (XW (by omega))).symm | exact (Z8 ‹_› (XX ‹_›)).symm | exact (Z8 ‹_› (XY ‹_› ‹_›)).symm | exact (Qy (by unfold Qj; simp_all [Cmp.b] <;> (first | omega | (intros; omega) | (rw [Bool.eq_iff_iff]; simp <;> omega) | (rw [Bool.eq_iff_iff]; simp_all <;> omega)))).symm)
  refine YX (s.cols.length : Int) 8 rfl rfl rfl (fun h3=>?_) (fun h3=>?_)
  ·exact RB hS2 rfl (by first | exact (XE hA (Ys ‹_› (by omega)) (Ys ‹_› (by omega))).symm | exact (Xz ‹_› (by omega)).symm | exact (Z8 ‹_› (XV ‹_›)).symm | exact (Z8 ‹_› (XW (by omega))).symm | exact (Z8 ‹_› (XX ‹_›)).symm | exact (Z8 ‹_› (XY ‹_› ‹_›)).symm | exact (Qy (by unfold Qj; simp_all [Cmp.b] <;> (first | omega | (intros; omega) | (rw [Bool.eq_iff_iff]; simp <;> omega) | (rw [Bool.eq_iff_iff]; simp_all <;> omega)))).symm)
  refine Za hS2 (Xw.drop 2 (hc1.mono hle2)) Zp rfl rfl rfl ?_
  refine Zq s.key 1 rfl rfl rfl (fun h4=>?_) (fun h4=>?_)
  ·exact RB hS2 rfl (by first | exact (XE hA (Ys ‹_› (by omega)) (Ys ‹_› (by omega))).symm | exact (Xz ‹_› (by omega)).symm | exact (Z8 ‹_› (XV ‹_›)).symm | exact (Z8 ‹_› (XW (by omega))).symm | exact (Z8 ‹_› (XX ‹_›)).symm | exact (Z8 ‹_› (XY ‹_› ‹_›)).symm | exact (Qy (by unfold Qj; simp_all [Cmp.b] <;> (first | omega | (intros; omega) | (rw [Bool.eq_iff_iff]; simp <;> omega) | (rw [Bool.eq_iff_iff]; simp_all <;> omega)))).symm)
  refine Za hS2 (Xw.drop 2 (hc1.mono hle2)) Zp rfl rfl rfl ?_
  refine YX s.key (s.cols.length : Int) rfl rfl rfl (fun h5=>?_) (fun h5=>?_)
  ·exact RB hS2 rfl (by first | exact (XE hA (Ys ‹_› (by omega)) (Ys ‹_› (by omega))).symm | exact (Xz ‹_› (by omega)).symm | exact (Z8 ‹_› (XV ‹_›)).symm | exact (Z8 ‹_› (XW (by omega))).symm | exact (Z8 ‹_› (XX ‹_›)).symm | exact (Z8 ‹_› (XY ‹_› ‹_›)).symm | exact (Qy (by unfold Qj; simp_all [Cmp.b] <;> (first | omega | (intros; omega) | (rw [Bool.eq_iff_iff]; simp <;> omega) | (rw [Bool.eq_iff_iff]; simp_all <;> omega)))).symm)
  refine Za hS2 (Xw.drop 3 (hc1.mono hle2)) Zqi rfl rfl rfl ?_
  have bd2:=hs2.bound
  refine Zj (hs2.mono (hle1.trans hle2)) ZmT rfl rfl ?_
  refine YX (s.fks.length : Int) 8 rfl rfl rfl (fun h6=>?_) (fun h6=>?_)
  ·exact RB hS2 rfl (by first | exact (XE hA (Ys ‹_› (by omega)) (Ys ‹_› (by omega))).symm | exact (Xz ‹_› (by omega)).symm | exact (Z8 ‹_› (XV ‹_›)).symm | exact (Z8 ‹_› (XW (by omega))).symm | exact (Z8 ‹_› (XX ‹_›)).symm | exact (Z8 ‹_› (XY ‹_› ‹_›)).symm | exact (Qy (by unfold Qj; simp_all [Cmp.b] <;> (first | omega | (intros; omega) | (rw [Bool.eq_iff_iff]; simp <;> omega) | (rw [Bool.eq_iff_iff]; simp_all <;> omega)))).symm)
  refine Za hS2 (Xw.drop 1 (hc1.mono hle2)) Zc2 rfl rfl rfl ?_
  refine Z6 hS2 Zse rfl rfl rfl (Zlu hS2.imm s.cols _ (hs1.mono (hle1.trans hle2))) (fun w3 G3 r1 hpost1 hS3 hle3=>?_)
  refine Zn hS3 Zsd rfl rfl rfl (ZhU hS3.imm (s.cols.map Col.name) _ hpost1) (fun w4 G4 hS4 hle4=>?_)
  refine WL.split (fun (h7 : (Zay (s.cols.map Col.name)) = true)=>?_) (fun (h7 : (Zay (s.cols.map Col.name)) = false)=>?_)
  ·have hA : Qj s = true:=by unfold Qj; simp_all [Cmp.b] <;> (omega)
   refine Za hS4 (Xw.drop 1 (hc1.mono ((hle2.trans hle3).trans hle4))) Zc2 rfl rfl rfl ?_
   have bd3:=hs1.bound
   refine Zj (hs1.mono (((hle1.trans hle2).trans hle3).trans hle4)) Qx rfl rfl ?_
   refine LP.go ft [] (fun m ρ1 w1=>∃ (k1 : Nat),∃ (G5 : GH),m = s.cols.length - k1 ∧ G4.le G5 ∧ St w [] G G5 [] w1 ∧ FR ρ1 [(1, .pointer (some p1)),(50,v1),(51, .int .i64 (s.cols.length : Int)),(52, .int .i64 (k1 : Int))] ∧ k1 ≤ s.cols.length ∧ ∀ j,j < k1 → ∀ x,s.cols[j]? = some x → ZeF x = true) _ ⟨0,G4,rfl,(G4.le_refl),hS4,⟨rfl,rfl,rfl,rfl,trivial⟩,(by omega),(by intro j hj; omega)⟩ ?_
   rintro m ρ1 w5 ⟨k1,G5,rfl,hle5,hS5,hF9,f1,f2⟩
   refine hF9.set ?_
   clear hF9
   refine Zq (k1 : Int) (s.cols.length : Int) rfl rfl rfl (fun h8=>?_) (fun h8=>?_)
   ·refine WL.indexAddr (hs1.mono ((((hle1.trans hle2).trans hle3).trans hle4).trans hle5)) k1 (by omega) Qx Xi rfl rfl rfl rfl (fun p2 x1 hx1 he1=>?_)
    obtain ⟨cs1,hc2,hr1⟩:=he1
    obtain ⟨rfl,hb3,hb4⟩:=X8 hr1
    refine Zc hS5 hc2 [Zb x1.name, .int .i64 x1.kind] Xi rfl rfl rfl rfl rfl ?_
    refine WL.alloc hS5 Xi rfl rfl (fun b1 w6 hn1 hS6=>?_)
    refine WL.store hS6 0 _ _ _ 0 _ [Zb x1.name, .int .i64 x1.kind] [Zb x1.name, .int .i64 x1.kind] _ rfl rfl Xi rfl (Nat.le_of_ble_eq_true rfl) rfl rfl rfl rfl rfl rfl (fun w7 hS7=>?_)
    obtain ⟨G6,hle6,hc3,hS8⟩:=hS7.shutB hn1
    refine Za hS8 (Xw.drop 1 hc3) Zp rfl rfl rfl ?_
    refine Zq x1.kind 1 rfl rfl rfl (fun h9=>?_) (fun h9=>?_)
    ·exact RB hS8 rfl (by first | exact (XE hA (Ys ‹_› (by omega)) (Ys ‹_› (by omega))).symm | exact (Xz ‹_› (by omega)).symm | exact (Z8 ‹_› (XV ‹_›)).symm | exact (Z8 ‹_› (XW (by omega))).symm | exact (Z8 ‹_› (XX ‹_›)).symm | exact (Z8 ‹_› (XY ‹_› ‹_›)).symm | exact (Qy (by unfold Qj; simp_all [Cmp.b] <;> (first | omega | (intros; omega) | (rw [Bool.eq_iff_iff]; simp <;> omega) | (rw [Bool.eq_iff_iff]; simp_all <;> omega)))).symm)
    refine Za hS8 (Xw.drop 1 hc3) Zp rfl rfl rfl ?_
    refine YX x1.kind 4 rfl rfl rfl (fun h10=>?_) (fun h10=>?_)
    ·exact RB hS8 rfl (by first | exact (XE hA (Ys ‹_› (by omega)) (Ys ‹_› (by omega))).symm | exact (Xz ‹_› (by omega)).symm | exact (Z8 ‹_› (XV ‹_›)).symm | exact (Z8 ‹_› (XW (by omega))).symm | exact (Z8 ‹_› (XX ‹_›)).symm | exact (Z8 ‹_› (XY ‹_› ‹_›)).symm | exact (Qy (by unfold Qj; simp_all [Cmp.b] <;> (first | omega | (intros; omega) | (rw [Bool.eq_iff_iff]; simp <;> omega) | (rw [Bool.eq_iff_iff]; simp_all <;> omega)))).symm)
    refine Zl k1 (by have hreach : reach = 140737488355328:=rfl; omega) rfl rfl rfl ?_
    exact BK.mk' _ ⟨k1 + 1,G6,rfl,(hle5.trans hle6),hS8,⟨rfl,rfl,rfl,rfl,trivial⟩,(by omega),(by exact Xy ‹_› ‹_› (Zo8 (by omega) (by omega)))⟩ (show s.cols.length - (k1 + 1) < s.cols.length - k1 by omega)
   refine Za hS5 (Xw.drop 3 (hc1.mono (((hle2.trans hle3).trans hle4).trans hle5))) Zqi rfl rfl rfl ?_
   have bd4:=hs2.bound
   refine Zj (hs2.mono ((((hle1.trans hle2).trans hle3).trans hle4).trans hle5)) ZmT rfl rfl ?_
   refine LP.go ft [] (fun m ρ1 w1=>∃ (k2 : Nat),∃ (G7 : GH),m = s.fks.length - k2 ∧ G5.le G7 ∧ St w [] G G7 [] w1 ∧ FR ρ1 [(1, .pointer (some p1)),(66,v2),(67, .int .i64 (s.fks.length : Int)),(68, .int .i64 (k2 : Int))] ∧ k2 ≤ s.fks.length ∧ ∀ j,j < k2 → ∀ x,s.fks[j]? = some x → fkB s x = true) _ ⟨0,G5,rfl,(G5.le_refl),hS5,⟨rfl,rfl,rfl,rfl,trivial⟩,(by omega),(by intro j hj; omega)⟩ ?_
   rintro m ρ1 w9 ⟨k2,G7,rfl,hle7,hS9,hF9,f3,f4⟩
   refine hF9.set ?_
   clear hF9
   refine Zq (k2 : Int) (s.fks.length : Int) rfl rfl rfl (fun h11=>?_) (fun h11=>?_)
   ·refine WL.indexAddr (hs2.mono (((((hle1.trans hle2).trans hle3).trans hle4).trans hle5).trans hle7)) k2 (by omega) ZmT ZmO rfl rfl rfl rfl (fun p3 x2 hx2 he2=>?_)
    obtain ⟨cs2,hc4,hr2⟩:=he2
    obtain ⟨v3,rfl,hs3,hb5⟩:=Zjz hr2
    refine Zc hS9 hc4 [v3,Zb x2.table] ZmO rfl rfl rfl rfl rfl ?_
    refine WL.alloc hS9 ZmO rfl rfl (fun b2 w10 hn2 hS10=>?_)
    refine WL.store hS10 0 _ _ _ 0 _ [v3,Zb x2.table] [v3,Zb x2.table] _ rfl rfl ZmO rfl (Nat.le_of_ble_eq_true rfl) (by simp only [List.all_cons,List.all_nil,hs3.oneC,Bool.true_and] <;> rfl) rfl rfl rfl rfl rfl (fun w11 hS11=>?_)
    obtain ⟨G9,hle9,hc5,hS12⟩:=hS11.shutB hn2
    refine Za hS12 (Xw.drop 1 hc5) Yj rfl rfl rfl ?_
    refine Zn hS12 Znf rfl rfl rfl (Zls hS12.imm x2.table) (fun w12 G10 hS13 hle10=>?_)
    refine WL.split (fun (h12 : (XR x2.table) = true)=>?_) (fun (h12 : (XR x2.table) = false)=>?_)
    ·refine Za hS13 (Xw.drop 0 (hc5.mono hle10)) ZmN rfl rfl rfl ?_
     have bd5:=hs3.bound
     refine Zj (hs3.mono (hle9.trans hle10)) Zb9 rfl rfl ?_
     refine Zq (x2.cols.length : Int) 1 rfl rfl rfl (fun h13=>?_) (fun h13=>?_)
     ·exact RB hS13 rfl (by first | exact (XE hA (Ys ‹_› (by omega)) (Ys ‹_› (by omega))).symm | exact (Xz ‹_› (by omega)).symm | exact (Z8 ‹_› (XV ‹_›)).symm | exact (Z8 ‹_› (XW (by omega))).symm | exact (Z8 ‹_› (XX ‹_›)).symm | exact (Z8 ‹_› (XY ‹_› ‹_›)).symm | exact (Qy (by unfold Qj; simp_all [Cmp.b] <;> (first | omega | (intros; omega) | (rw [Bool.eq_iff_iff]; simp <;> omega) | (rw [Bool.eq_iff_iff]; simp_all <;> omega)))).symm)
     refine Za hS13 (Xw.drop 0 (hc5.mono hle10)) ZmN rfl rfl rfl ?_
     have bd6:=hs3.bound
     refine Zj (hs3.mono (hle9.trans hle10)) Zb9 rfl rfl ?_
     refine YX (x2.cols.length : Int) 8 rfl rfl rfl (fun h14=>?_) (fun h14=>?_)
     ·exact RB hS13 rfl (by first | exact (XE hA (Ys ‹_› (by omega)) (Ys ‹_› (by omega))).symm | exact (Xz ‹_› (by omega)).symm | exact (Z8 ‹_› (XV ‹_›)).symm | exact (Z8 ‹_› (XW (by omega))).symm | exact (Z8 ‹_› (XX ‹_›)).symm | exact (Z8 ‹_› (XY ‹_› ‹_›)).symm | exact (Qy (by unfold Qj; simp_all [Cmp.b] <;> (first | omega | (intros; omega) | (rw [Bool.eq_iff_iff]; simp <;> omega) | (rw [Bool.eq_iff_iff]; simp_all <;> omega)))).symm)
     refine Za hS13 (Xw.drop 0 (hc5.mono hle10)) ZmN rfl rfl rfl ?_
     refine Zn hS13 Zsd rfl rfl rfl (ZhU hS13.imm x2.cols _ (hs3.mono (hle9.trans hle10))) (fun w13 G11 hS14 hle11=>?_)
     refine WL.split (fun (h15 : (Zay x2.cols) = true)=>?_) (fun (h15 : (Zay x2.cols) = false)=>?_)
     ·refine Za hS14 (Xw.drop 0 (hc5.mono (hle10.trans hle11))) ZmN rfl rfl rfl ?_
      have bd7:=hs3.bound
      refine Zj (hs3.mono ((hle9.trans hle10).trans hle11)) Zb9 rfl rfl ?_
      refine LP.go ft [] (fun m ρ1 w1=>∃ (k3 : Nat),∃ (G12 : GH),m = x2.cols.length - k3 ∧ G11.le G12 ∧ St w [] G G12 [] w1 ∧ FR ρ1 [(1, .pointer (some p1)),(66,v2),(67, .int .i64 (s.fks.length : Int)),(68, .int .i64 (k2 : Int)),(95,v3),(96, .int .i64 (x2.cols.length : Int)),(97, .int .i64 (k3 : Int))] ∧ k3 ≤ x2.cols.length ∧ ∀ j,j < k3 → ∀ x,x2.cols[j]? = some x → decide (0 ≤ ixS (s.cols.map Col.name) x) = true) _ ⟨0,G11,rfl,(G11.le_refl),hS14,⟨rfl,rfl,rfl,rfl,rfl,rfl,rfl,trivial⟩,(by omega),(by intro j hj; omega)⟩ ?_
      rintro m ρ1 w14 ⟨k3,G12,rfl,hle12,hS15,hF9,f5,f6⟩
      refine hF9.set ?_
      clear hF9
      refine Zq (k3 : Int) (x2.cols.length : Int) rfl rfl rfl (fun h16=>?_) (fun h16=>?_)
      ·refine WL.indexAddr (hs3.mono (((hle9.trans hle10).trans hle11).trans hle12)) k3 (by omega) Zb9 Yj rfl rfl rfl rfl (fun p4 x3 hx3 he3=>?_)
       obtain ⟨cs3,hc6,hr3⟩:=he3
       obtain ⟨rfl,hb6⟩:=hr3
       refine Za hS15 hc6 Yj rfl rfl rfl <| Zc hS15 (hc1.mono ((((((((hle2.trans hle3).trans hle4).trans hle5).trans hle7).trans hle9).trans hle10).trans hle11).trans hle12)) [Zb s.name,v1, .int .i64 s.key,v2] ZbX rfl rfl rfl rfl rfl ?_
       refine Zn hS15 Zv9 rfl rfl rfl (Zr2 hS15.imm s x3 _ (XB s hb1 (hs1.mono (((((((((hle1.trans hle2).trans hle3).trans hle4).trans hle5).trans hle7).trans hle9).trans hle10).trans hle11).trans hle12)) hb2 (hs2.mono (((((((((hle1.trans hle2).trans hle3).trans hle4).trans hle5).trans hle7).trans hle9).trans hle10).trans hle11).trans hle12)))) (fun w15 G13 hS16 hle13=>?_)
       refine Zq (ixS (s.cols.map Col.name) x3) 0 rfl rfl rfl (fun h17=>?_) (fun h17=>?_)
       ·exact RB hS16 rfl (by first | exact (XE hA (Ys ‹_› (by omega)) (Ys ‹_› (by omega))).symm | exact (Xz ‹_› (by omega)).symm | exact (Z8 ‹_› (XV ‹_›)).symm | exact (Z8 ‹_› (XW (by omega))).symm | exact (Z8 ‹_› (XX ‹_›)).symm | exact (Z8 ‹_› (XY ‹_› ‹_›)).symm | exact (Qy (by unfold Qj; simp_all [Cmp.b] <;> (first | omega | (intros; omega) | (rw [Bool.eq_iff_iff]; simp <;> omega) | (rw [Bool.eq_iff_iff]; simp_all <;> omega)))).symm)
       refine Zl k3 (by have hreach : reach = 140737488355328:=rfl; omega) rfl rfl rfl ?_
       exact BK.mk' _ ⟨k3 + 1,G13,rfl,(hle12.trans hle13),hS16,⟨rfl,rfl,rfl,rfl,rfl,rfl,rfl,trivial⟩,(by omega),(by exact Xy ‹_› ‹_› (decide_eq_true ‹_›))⟩ (show x2.cols.length - (k3 + 1) < x2.cols.length - k3 by omega)
      refine Zl k2 (by have hreach : reach = 140737488355328:=rfl; omega) rfl rfl rfl ?_
      exact BK.mk' _ ⟨k2 + 1,G12,rfl,(hle7.trans (((hle9.trans hle10).trans hle11).trans hle12)),hS15,⟨rfl,rfl,rfl,rfl,trivial⟩,(by omega),(by exact Xy ‹_› ‹_› (ZsV ‹_› (by omega) (by omega) ‹_› (Ys ‹_› (by omega))))⟩ (show s.fks.length - (k2 + 1) < s.fks.length - k2 by omega)
     exact RB hS14 rfl (by first | exact (XE hA (Ys ‹_› (by omega)) (Ys ‹_› (by omega))).symm | exact (Xz ‹_› (by omega)).symm | exact (Z8 ‹_› (XV ‹_›)).symm | exact (Z8 ‹_› (XW (by omega))).symm | exact (Z8 ‹_› (XX ‹_›)).symm | exact (Z8 ‹_› (XY ‹_› ‹_›)).symm | exact (Qy (by unfold Qj; simp_all [Cmp.b] <;> (first | omega | (intros; omega) | (rw [Bool.eq_iff_iff]; simp <;> omega) | (rw [Bool.eq_iff_iff]; simp_all <;> omega)))).symm)
    exact RB hS13 rfl (by first | exact (XE hA (Ys ‹_› (by omega)) (Ys ‹_› (by omega))).symm | exact (Xz ‹_› (by omega)).symm | exact (Z8 ‹_› (XV ‹_›)).symm | exact (Z8 ‹_› (XW (by omega))).symm | exact (Z8 ‹_› (XX ‹_›)).symm | exact (Z8 ‹_› (XY ‹_› ‹_›)).symm | exact (Qy (by unfold Qj; simp_all [Cmp.b] <;> (first | omega | (intros; omega) | (rw [Bool.eq_iff_iff]; simp <;> omega) | (rw [Bool.eq_iff_iff]; simp_all <;> omega)))).symm)
   exact RB hS9 rfl (by first | exact (XE hA (Ys ‹_› (by omega)) (Ys ‹_› (by omega))).symm | exact (Xz ‹_› (by omega)).symm | exact (Z8 ‹_› (XV ‹_›)).symm | exact (Z8 ‹_› (XW (by omega))).symm | exact (Z8 ‹_› (XX ‹_›)).symm | exact (Z8 ‹_› (XY ‹_› ‹_›)).symm | exact (Qy (by unfold Qj; simp_all [Cmp.b] <;> (first | omega | (intros; omega) | (rw [Bool.eq_iff_iff]; simp <;> omega) | (rw [Bool.eq_iff_iff]; simp_all <;> omega)))).symm)
  exact RB hS4 rfl (by first | exact (XE hA (Ys ‹_› (by omega)) (Ys ‹_› (by omega))).symm | exact (Xz ‹_› (by omega)).symm | exact (Z8 ‹_› (XV ‹_›)).symm | exact (Z8 ‹_› (XW (by omega))).symm | exact (Z8 ‹_› (XX ‹_›)).symm | exact (Z8 ‹_› (XY ‹_› ‹_›)).symm | exact (Qy (by unfold Qj; simp_all [Cmp.b] <;> (first | omega | (intros; omega) | (rw [Bool.eq_iff_iff]; simp <;> omega) | (rw [Bool.eq_iff_iff]; simp_all <;> omega)))).symm)
 exact RB hS2 rfl (by first | exact (XE hA (Ys ‹_› (by omega)) (Ys ‹_› (by omega))).symm | exact (Xz ‹_› (by omega)).symm | exact (Z8 ‹_› (XV ‹_›)).symm | exact (Z8 ‹_› (XW (by omega))).symm | exact (Z8 ‹_› (XX ‹_›)).symm | exact (Z8 ‹_› (XY ‹_› ‹_›)).symm | exact (Qy (by unfold Qj; simp_all [Cmp.b] <;> (first | omega | (intros; omega) | (rw [Bool.eq_iff_iff]; simp <;> omega) | (rw [Bool.eq_iff_iff]; simp_all <;> omega)))).symm)
theorem Zt6 {G : GH} {w : World} (hG : G.In w) (x : Val) (cx : List Value) (hcx : ValE.rep G x cx) : CL Tryz.prog (nat_lit 123) #[.agg cx.toArray] [] w G fun _ _ r=>r = .bool (!Zz x):=by
 refine Zg ft [] Tryz.func123 rfl rfl ?_
 have hS:=St.start (X:=[]) hG
 obtain ⟨rfl,hb1,hb2,hb3⟩:=ZV hcx
 refine Zv [.int .i64 x.k, .int .i64 x.n,Zb x.s] _ hS rfl rfl rfl (fun p1 w1 G1 hle1 hsp1 hc1 hS1=>?_)
 refine Zc hS1 hc1 [.int .i64 x.k, .int .i64 x.n,Zb x.s] Z3 rfl rfl rfl rfl rfl ?_
 refine Zn hS1 Zax rfl rfl rfl (XN hS1.imm x _ (Y3 x hb1 hb2 hb3)) (fun w2 G2 hS2 hle2=>?_)
 exact RB hS2 rfl (by rfl)
theorem Zt7 {G : GH} {w : World} (hG : G.In w) (c : Col) (x : Val) (cc : List Value) (hcc : ColE.rep G c cc) (cx : List Value) (hcx : ValE.rep G x cx) : CL Tryz.prog (nat_lit 126) #[.agg cc.toArray, .agg cx.toArray] [] w G fun _ _ r=>r = .bool (decide (c.kind = x.k)):=by
 refine Zg ft [] Tryz.func126 rfl rfl ?_
 have hS:=St.start (X:=[]) hG
 obtain ⟨rfl,hb1,hb2⟩:=X8 hcc
 obtain ⟨rfl,hb3,hb4,hb5⟩:=ZV hcx
 refine Zv [Zb c.name, .int .i64 c.kind] _ hS rfl rfl rfl (fun p1 w1 G1 hle1 hsp1 hc1 hS1=>?_)
 refine Zv [.int .i64 x.k, .int .i64 x.n,Zb x.s] _ hS1 rfl rfl rfl (fun p2 w2 G2 hle2 hsp2 hc2 hS2=>?_)
 refine Za hS2 (Xw.drop 1 (hc1.mono hle2)) Zp rfl rfl rfl <| Za hS2 (Xw.drop 0 hc2) Zp rfl rfl rfl <| ZZ .eql rfl .i64 c.kind x.k rfl rfl rfl ?_
 exact RB hS2 rfl (by rfl)
theorem Zpt {G : GH} {w : World} (hG : G.In w) (a : List Col) (b : List Val) (pf : Col → Val → Bool) (va : Value) (hva : Sl ColE 24 G va a) (vb : Value) (hvb : Sl ValE 32 G vb b) (fid : Nat) (fcap : Array Value) (hf : FnB2 Tryz.prog (Is ColE) (Is ValE) fid fcap G (fun x y=>x ∈ a ∧ y ∈ b) pf) : CL Tryz.prog (nat_lit 125) #[va,vb, .func (.func fid) #[] fcap] [] w G fun _ _ r=>r = .bool (Qr pf a b):=by
 refine Zg ft [] Tryz.func125 rfl rfl ?_
 have hS:=St.start (X:=[]) hG
 have bd1:=hva.bound
 refine Zj hva Qx rfl rfl ?_
 have bd2:=hvb.bound
 refine Zj hvb Yd rfl rfl ?_
 refine Yf (a.length : Int) (b.length : Int) rfl rfl rfl (fun h1=>?_) (fun h1=>?_)
 ·exact RB hS rfl (by exact (Qw (by omega)).symm)
 have bd3:=hva.bound
 refine Zj hva Qx rfl rfl ?_
 refine LP.go ft [] (fun m ρ1 w1=>∃ (k1 : Nat),∃ (G1 : GH),m = a.length - k1 ∧ G.le G1 ∧ St w [] G G1 [] w1 ∧ FR ρ1 [(1,vb),(2, .func (.func fid) #[] fcap),(15,va),(16, .int .i64 (a.length : Int)),(17, .int .i64 (k1 : Int))] ∧ k1 ≤ a.length ∧ ∀ j,j < k1 → ∀ x y,a[j]? = some x → b[j]? = some y → pf x y = true) _ ⟨0,G,rfl,(G.le_refl),hS,⟨rfl,rfl,rfl,rfl,rfl,trivial⟩,(by omega),(by intro j hj; omega)⟩ ?_
 rintro m ρ1 w1 ⟨k1,G1,rfl,hle1,hS1,hF9,f1,f2⟩
 refine hF9.set ?_
 clear hF9
 refine Zq (k1 : Int) (a.length : Int) rfl rfl rfl (fun h2=>?_) (fun h2=>?_)
 ·refine WL.indexAddr (hva.mono hle1) k1 (by omega) Qx Xi rfl rfl rfl rfl (fun p1 x1 hx1 he1=>?_)
  obtain ⟨cs1,hc1,hr1⟩:=he1
  obtain ⟨rfl,hb1,hb2⟩:=X8 hr1
  refine Zc hS1 hc1 [Zb x1.name, .int .i64 x1.kind] Xi rfl rfl rfl rfl rfl ?_
  refine WL.alloc hS1 Xi rfl rfl (fun b1 w2 hn1 hS2=>?_)
  refine WL.store hS2 0 _ _ _ 0 _ [Zb x1.name, .int .i64 x1.kind] [Zb x1.name, .int .i64 x1.kind] _ rfl rfl Xi rfl (Nat.le_of_ble_eq_true rfl) rfl rfl rfl rfl rfl rfl (fun w3 hS3=>?_)
  obtain ⟨G2,hle2,hc2,hS4⟩:=hS3.shutB hn1
  refine WL.indexAddr (hvb.mono (hle1.trans hle2)) k1 (by omega) Yd Z3 rfl rfl rfl rfl (fun p2 x2 hx2 he2=>?_)
  obtain ⟨cs2,hc3,hr2⟩:=he2
  obtain ⟨rfl,hb3,hb4,hb5⟩:=ZV hr2
  refine Zc hS4 hc3 [.int .i64 x2.k, .int .i64 x2.n,Zb x2.s] Z3 rfl rfl rfl rfl rfl ?_
  refine WL.alloc hS4 Z3 rfl rfl (fun b2 w4 hn2 hS5=>?_)
  refine WL.store hS5 0 _ _ _ 0 _ [.int .i64 x2.k, .int .i64 x2.n,Zb x2.s] [.int .i64 x2.k, .int .i64 x2.n,Zb x2.s] _ rfl rfl Z3 rfl (Nat.le_of_ble_eq_true rfl) rfl rfl rfl rfl rfl rfl (fun w5 hS6=>?_)
  obtain ⟨G3,hle3,hc4,hS7⟩:=hS6.shutB hn2
  refine Zc hS7 (hc2.mono hle3) [Zb x1.name, .int .i64 x1.kind] Xi rfl rfl rfl rfl rfl <| Zc hS7 hc4 [.int .i64 x2.k, .int .i64 x2.n,Zb x2.s] Z3 rfl rfl rfl rfl rfl ?_
  refine Zn hS7 hf.body rfl rfl rfl (hf.call _ _ (.agg #[Zb x1.name, .int .i64 x1.kind]) (.agg #[.int .i64 x2.k, .int .i64 x2.n,Zb x2.s]) x1 x2 ((hle1.trans hle2).trans hle3) hS7.imm ⟨(List.mem_of_getElem? hx1),(List.mem_of_getElem? hx2)⟩ ⟨_,rfl,(Zeb x1 hb1 hb2)⟩ ⟨_,rfl,(Y3 x2 hb3 hb4 hb5)⟩) (fun w6 G4 hS8 hle4=>?_)
  refine WL.split (fun (h3 : (pf x1 x2) = true)=>?_) (fun (h3 : (pf x1 x2) = false)=>?_)
  ·refine Zl k1 (by have hreach : reach = 140737488355328:=rfl; omega) rfl rfl rfl ?_
   exact BK.mk' _ ⟨k1 + 1,G4,rfl,(hle1.trans ((hle2.trans hle3).trans hle4)),hS8,⟨rfl,rfl,rfl,rfl,rfl,trivial⟩,(by omega),(by exact Zae ‹_› ‹_› ‹_› (by simp_all))⟩ (show a.length - (k1 + 1) < a.length - k1 by omega)
  exact RB hS8 rfl (by exact (QS ‹_› ‹_› (by simp_all)).symm)
 exact RB hS1 rfl (by exact (Q8 (by omega) ‹_› (by omega)).symm)
theorem Zpu {G : GH} {w : World} (hG : G.In w) (s : Schema) (v : List Val) (cs : List Value) (hcs : SchemaE.rep G s cs) (vv : Value) (hvv : Sl ValE 32 G vv v) : CL Tryz.prog (nat_lit 63) #[.agg cs.toArray,vv] [] w G fun _ _ r=>r = .int .i64 (YQ s v):=by
 refine Zg ft [] Tryz.func63 rfl rfl ?_
 have hS:=St.start (X:=[]) hG
 obtain ⟨v1,v2,rfl,hb1,hs1,hb2,hs2⟩:=Qc hcs
 refine Zv [Zb s.name,v1, .int .i64 s.key,v2] _ hS rfl rfl rfl (fun p1 w1 G1 hle1 hsp1 hc1 hS1=>?_)
 refine Zc hS1 hc1 [Zb s.name,v1, .int .i64 s.key,v2] ZbX rfl rfl rfl rfl rfl ?_
 refine Zn hS1 Zqz rfl rfl rfl (ZgL hS1.imm s _ (XB s hb1 (hs1.mono hle1) hb2 (hs2.mono hle1))) (fun w2 G2 hS2 hle2=>?_)
 refine WL.split (fun (h1 : (YM s) = true)=>?_) (fun (h1 : (YM s) = false)=>?_)
 ·refine Zn hS2 Zng rfl rfl rfl (ZdN hS2.imm v (fun x8=>!Zz x8) _ (hvv.mono (hle1.trans hle2)) 123 #[] ⟨ZvA,fun G8 w8 v8 x8 hle8 hG8 hon8 hA8=>by obtain ⟨cs_x8,rfl,hr_x8⟩:=hA8; exact Zt6 hG8 x8 cs_x8 hr_x8⟩) (fun w3 G3 hS3 hle3=>?_)
  refine WL.split (fun (h2 : (v.any (fun x8=>!Zz x8)) = true)=>?_) (fun (h2 : (v.any (fun x8=>!Zz x8)) = false)=>?_)
  ·exact RI hS3 rfl (by exact (ZuF ‹_›).symm)
  refine Za hS3 (Xw.drop 1 (hc1.mono (hle2.trans hle3))) Zc2 rfl rfl rfl ?_
  refine Zn hS3 ZvB rfl rfl rfl (Zpt hS3.imm s.cols v (fun x8 y8=>decide (x8.kind = y8.k)) _ (hs1.mono ((hle1.trans hle2).trans hle3)) _ (hvv.mono ((hle1.trans hle2).trans hle3)) 126 #[] ⟨ZvC,fun G8 w8 v8 u8 x8 y8 hle8 hG8 hon8 hA8 hB8=>by obtain ⟨cs_x8,rfl,hr_x8⟩:=hA8; obtain ⟨cs_y8,rfl,hr_y8⟩:=hB8; exact Zt7 hG8 x8 y8 cs_x8 hr_x8 cs_y8 hr_y8⟩) (fun w4 G4 hS4 hle4=>?_)
  refine WL.split (fun (h3 : (Qr (fun x8 y8=>decide (x8.kind = y8.k)) s.cols v) = true)=>?_) (fun (h3 : (Qr (fun x8 y8=>decide (x8.kind = y8.k)) s.cols v) = false)=>?_)
  ·exact RI hS4 rfl (by exact (ZuG ‹_› ‹_› ‹_›).symm)
  exact RI hS4 rfl (by exact (ZsW ‹_› ‹_› ‹_›).symm)
 exact RI hS2 rfl (by exact (ZuE ‹_›).symm)
end Go.Civ
