/- Lemmas. -/
import Derived.Test.YthgeclodflmiaaaGreatP14
import Derived.Test.YthgeclodflmiaaaGreatP16
import Derived.Test.YthgeclodflmiaaaGreatP22
import Derived.Test.YthgeclodflmiaaaGreatProg
import Derived.KernelRfl
import Derived.WalkKit
set_option linter.unusedVariables false
set_option linter.unusedSimpArgs false
set_option maxRecDepth 100000
set_option maxHeartbeats 4000000
namespace Go.Civ
open Go.Proofs
theorem ZjB {G : GH} {w : World} (hG : G.In w) (c : Int) : CL Tryz.prog (nat_lit 170) #[.int .u8 c] [] w G fun _ _ r=>r = .bool (Zar c):=by
 refine Zg ft [] Tryz.func170 rfl rfl ?_
 have hS:=St.start (X:=[]) hG
 refine XJ c 65 rfl rfl rfl (fun h1=>?_) (fun h1=>?_)
 ·refine Zad c 90 rfl rfl rfl (fun h2=>?_) (fun h2=>?_)
  ·exact RB hS rfl (by unfold Zar; simp_all [Cmp.b] <;> (first | omega | (intros; omega) | (rw [Bool.eq_iff_iff]; simp <;> omega) | (rw [Bool.eq_iff_iff]; simp_all <;> omega)))
  refine XJ c 97 rfl rfl rfl (fun h3=>?_) (fun h3=>?_)
  ·refine ZY .leq rfl .u8 c 122 rfl rfl rfl ?_
   exact RB hS rfl (by unfold Zar; simp_all [Cmp.b] <;> (omega))
  exact RB hS rfl (by unfold Zar; simp_all [Cmp.b] <;> (omega))
 refine XJ c 97 rfl rfl rfl (fun h4=>?_) (fun h4=>?_)
 ·refine ZY .leq rfl .u8 c 122 rfl rfl rfl ?_
  exact RB hS rfl (by unfold Zar; simp_all [Cmp.b] <;> (omega))
 exact RB hS rfl (by unfold Zar; simp_all [Cmp.b] <;> (omega))
theorem ZqU {G : GH} {w : World} (hG : G.In w) (c : Int) : CL Tryz.prog (nat_lit 171) #[.int .u8 c] [] w G fun _ _ r=>r = .bool (Zer c):=by
 refine Zg ft [] Tryz.func171 rfl rfl ?_
 have hS:=St.start (X:=[]) hG
 refine XJ c 48 rfl rfl rfl (fun h1=>?_) (fun h1=>?_)
 ·refine ZY .leq rfl .u8 c 57 rfl rfl rfl ?_
  exact RB hS rfl (by unfold Zer; simp_all [Cmp.b] <;> (first | omega | (intros; omega) | (rw [Bool.eq_iff_iff]; simp <;> omega) | (rw [Bool.eq_iff_iff]; simp_all <;> omega)))
 exact RB hS rfl (by unfold Zer; simp_all [Cmp.b] <;> (omega))
theorem ZjC {G : GH} {w : World} (hG : G.In w) (s : List UInt8) : CL Tryz.prog (nat_lit 118) #[Zd s] [] w G fun _ _ r=>r = .bool (Xt s):=by
 refine Zg ft [] Tryz.func118 rfl rfl ?_
 have hS:=St.start (X:=[]) hG
 refine Zc1 s ul9 rfl rfl ?_
 refine Zq (s.length : Int) 1 rfl rfl rfl (fun h1=>?_) (fun h1=>?_)
 ·exact RB hS rfl (by exact (Zh1 (by omega)).symm)
 refine Zc1 s ul9 rfl rfl ?_
 refine YD (s.length : Int) 30 rfl rfl rfl (fun h2=>?_) (fun h2=>?_)
 ·exact RB hS rfl (by exact (Zh1 (by omega)).symm)
 refine Zbx s 0 (by omega) ul9 rfl rfl rfl (fun c1 hx1=>?_)
 refine Zj hS ZpK rfl rfl rfl (ZjB hS.imm (c1.toNat : Int)) (fun w1 G1 hS1 hle1=>?_)
 refine WL.split (fun (h3 : (Zar (c1.toNat : Int)) = true)=>?_) (fun (h3 : (Zar (c1.toNat : Int)) = false)=>?_)
 ·refine Zc1 s ul9 rfl rfl ?_
  refine LP.go ft [] (fun m ρ1 w1=>∃ (k1 : Nat),∃ (G2 : GH),m = s.length - k1 ∧ G1.le G2 ∧ St w [] G G2 [] w1 ∧ FR ρ1 [(0,Zd s),(19, .int .i64 (s.length : Int)),(20, .int .i64 (k1 : Int))] ∧ k1 ≤ s.length ∧ ∀ j,j < k1 → ∀ c,s[j]? = some c → Za0 c = true) _ ⟨0,G1,rfl,(G1.le_refl),hS1,⟨rfl,rfl,rfl,trivial⟩,(by omega),(by intro j hj; omega)⟩ ?_
  rintro m ρ1 w2 ⟨k1,G2,rfl,hle2,hS2,hF9,f1,f2⟩
  refine hF9.set ?_
  clear hF9
  refine Zq (k1 : Int) (s.length : Int) rfl rfl rfl (fun h4=>?_) (fun h4=>?_)
  ·refine Zbx s k1 (by omega) ul9 rfl rfl rfl (fun c2 hx2=>?_)
   refine Zj hS2 ZpK rfl rfl rfl (ZjB hS2.imm (c2.toNat : Int)) (fun w3 G3 hS3 hle3=>?_)
   refine WL.split (fun (h5 : (Zar (c2.toNat : Int)) = true)=>?_) (fun (h5 : (Zar (c2.toNat : Int)) = false)=>?_)
   ·refine Zk k1 (by have hreach : reach = 140737488355328:=rfl; omega) rfl rfl rfl ?_
    exact BK.mk' _ ⟨k1 + 1,G3,rfl,(hle2.trans hle3),hS3,⟨rfl,rfl,rfl,trivial⟩,(by omega),(by exact YV ‹_› ‹_› (by exact Zqw ‹_›))⟩ (show s.length - (k1 + 1) < s.length - k1 by omega)
   refine Zbx s k1 (by omega) ul9 rfl rfl rfl (fun c3 hx3=>?_)
   obtain rfl : c2 = c3:=Option.some.inj (hx2.symm.trans hx3)
   refine Zj hS3 Ztd rfl rfl rfl (ZqU hS3.imm (c2.toNat : Int)) (fun w4 G4 hS4 hle4=>?_)
   refine WL.split (fun (h6 : (Zer (c2.toNat : Int)) = true)=>?_) (fun (h6 : (Zer (c2.toNat : Int)) = false)=>?_)
   ·refine Zk k1 (by have hreach : reach = 140737488355328:=rfl; omega) rfl rfl rfl ?_
    exact BK.mk' _ ⟨k1 + 1,G4,rfl,(hle2.trans (hle3.trans hle4)),hS4,⟨rfl,rfl,rfl,trivial⟩,(by omega),(by exact YV ‹_› ‹_› (by exact Zqx ‹_›))⟩ (show s.length - (k1 + 1) < s.length - k1 by omega)
   refine Zbx s k1 (by omega) ul9 rfl rfl rfl (fun c4 hx4=>?_)
   obtain rfl : c2 = c4:=Option.some.inj (hx2.symm.trans hx4)
   refine Zj hS4 Zte rfl rfl rfl (Zkg hS4.imm [95,47,43,45] (c2.toNat : Int)) (fun w5 G5 hS5 hle5=>?_)
   refine Zq (Go.Lib.indexByte [95,47,43,45] (c2.toNat : Int).toNat.toUInt8) 0 rfl rfl rfl (fun h7=>?_) (fun h7=>?_)
   ·exact RB hS5 rfl (by exact (Zov ‹_› (Zow ‹_› ‹_› ‹_›)).symm)
   refine Zk k1 (by have hreach : reach = 140737488355328:=rfl; omega) rfl rfl rfl ?_
   exact BK.mk' _ ⟨k1 + 1,G5,rfl,(hle2.trans ((hle3.trans hle4).trans hle5)),hS5,⟨rfl,rfl,rfl,trivial⟩,(by omega),(by exact YV ‹_› ‹_› (by exact Zqy ‹_›))⟩ (show s.length - (k1 + 1) < s.length - k1 by omega)
  exact RB hS2 rfl (by exact (Zmx (by omega) (by omega) ‹_› ‹_› (Ye ‹_› (by omega))).symm)
 exact RB hS1 rfl (by exact (Zmw ‹_› ‹_›).symm)
theorem ZhM {G : GH} {w : World} (hG : G.In w) (l : List (List UInt8)) (nm : List UInt8) (vl : Value) (hvl : Sl Enc.str 16 G vl l) : CL Tryz.prog (nat_lit 174) #[vl,Zd nm] [] w G fun _ _ r=>r = .int .i64 (Yy l nm):=by
 refine Zg ft [] Tryz.func174 rfl rfl ?_
 have hS:=St.start (X:=[]) hG
 have bd1:=hvl.bound
 refine Zi hvl Y8 rfl rfl ?_
 refine LP.go ft [] (fun m ρ1 w1=>∃ (k1 : Nat),∃ (G1 : GH),m = l.length - k1 ∧ G.le G1 ∧ St w [] G G1 [] w1 ∧ FR ρ1 [(0,vl),(1,Zd nm),(7, .int .i64 (l.length : Int)),(8, .int .i64 (k1 : Int))] ∧ k1 ≤ l.length ∧ ∀ j,j < k1 → ∀ x,l[j]? = some x → decide (x = nm) = false) _ ⟨0,G,rfl,(G.le_refl),hS,⟨rfl,rfl,rfl,rfl,trivial⟩,(by omega),(by intro j hj; omega)⟩ ?_
 rintro m ρ1 w1 ⟨k1,G1,rfl,hle1,hS1,hF9,f1,f2⟩
 refine hF9.set ?_
 clear hF9
 refine Zq (k1 : Int) (l.length : Int) rfl rfl rfl (fun h1=>?_) (fun h1=>?_)
 ·refine WL.indexAddr (hvl.mono hle1) k1 (by omega) Y8 Yw rfl rfl rfl rfl (fun p1 x1 hx1 he1=>?_)
  obtain ⟨cs1,hc1,hr1⟩:=he1
  obtain ⟨rfl,hb1⟩:=hr1
  refine Zb hS1 hc1 Yw rfl rfl rfl <| Xr .eql rfl nm x1 rfl rfl rfl ?_
  refine WL.split (fun h0=>?_) (fun h0=>?_)
  ·have h2 : nm = x1:=by simpa [SCmp.b] using h0
   clear h0
   exact RI hS1 rfl (by unfold Yy; exact (QU _ ‹_› (by simp_all) ‹_›).symm)
  have h2 : nm ≠ x1:=by simpa [SCmp.b] using h0
  clear h0
  refine Zk k1 (by have hreach : reach = 140737488355328:=rfl; omega) rfl rfl rfl ?_
  exact BK.mk' _ ⟨k1 + 1,G1,rfl,hle1,hS1,⟨rfl,rfl,rfl,rfl,trivial⟩,(by omega),(by exact YV ‹_› ‹_› (decide_eq_false (Ne.symm ‹_›)))⟩ (show l.length - (k1 + 1) < l.length - k1 by omega)
 exact RI hS1 rfl (by unfold Yy; exact (Q7 ‹_› (by omega)).symm)
theorem ZjD {G : GH} {w : World} (hG : G.In w) (l : List (List UInt8)) (nm : List UInt8) (vl : Value) (hvl : Sl Enc.str 16 G vl l) : CL Tryz.prog (nat_lit 173) #[vl,Zd nm] [] w G fun _ _ r=>r = .bool (l.any fun x=>decide (x = nm)):=by
 refine Zg ft [] Tryz.func173 rfl rfl ?_
 have hS:=St.start (X:=[]) hG
 refine Zj hS ZpL rfl rfl rfl (ZhM hS.imm l nm _ hvl) (fun w1 G1 hS1 hle1=>?_)
 refine ZY .geq rfl .i64 (Yy l nm) 0 rfl rfl rfl ?_
 exact RB hS1 rfl (by exact Zqz)
theorem ZgD {G : GH} {w : World} (hG : G.In w) (l : List (List UInt8)) (vl : Value) (hvl : Sl Enc.str 16 G vl l) : CL Tryz.prog (nat_lit 119) #[vl] [] w G fun _ _ r=>r = .bool (QQ l):=by
 refine Zg ft [] Tryz.func119 rfl rfl ?_
 have hS:=St.start (X:=[]) hG
 have bd1:=hvl.bound
 refine Zi hvl Y8 rfl rfl ?_
 refine LP.go ft [] (fun m ρ1 w1=>∃ (k1 : Nat),∃ (G1 : GH),m = l.length - k1 ∧ G.le G1 ∧ St w [] G G1 [] w1 ∧ FR ρ1 [(0,vl),(5,vl),(6, .int .i64 (l.length : Int)),(7, .int .i64 (k1 : Int))] ∧ k1 ≤ l.length ∧ ∀ j,j < k1 → ∀ s,l[j]? = some s → ZaN l j s = true) _ ⟨0,G,rfl,(G.le_refl),hS,⟨rfl,rfl,rfl,rfl,trivial⟩,(by omega),(by intro j hj; omega)⟩ ?_
 rintro m ρ1 w1 ⟨k1,G1,rfl,hle1,hS1,hF9,f1,f2⟩
 refine hF9.set ?_
 clear hF9
 refine Zq (k1 : Int) (l.length : Int) rfl rfl rfl (fun h1=>?_) (fun h1=>?_)
 ·refine WL.indexAddr (hvl.mono hle1) k1 (by omega) Y8 Yw rfl rfl rfl rfl (fun p1 x1 hx1 he1=>?_)
  obtain ⟨cs1,hc1,hr1⟩:=he1
  obtain ⟨rfl,hb1⟩:=hr1
  refine Zb hS1 hc1 Yw rfl rfl rfl ?_
  refine Zj hS1 Zlo rfl rfl rfl (ZjC hS1.imm x1) (fun w2 G2 hS2 hle2=>?_)
  refine WL.split (fun (h2 : (Xt x1) = true)=>?_) (fun (h2 : (Xt x1) = false)=>?_)
  ·refine YG (hvl.mono (hle1.trans hle2)) k1 (by omega) Y8 Yw rfl rfl rfl rfl (fun v1 hs1=>?_)
   refine Zj hS2 Ztf rfl rfl rfl (ZjD hS2.imm (l.take k1) x1 _ hs1) (fun w3 G3 hS3 hle3=>?_)
   refine WL.split (fun (h3 : ((l.take k1).any fun x=>decide (x = x1)) = true)=>?_) (fun (h3 : ((l.take k1).any fun x=>decide (x = x1)) = false)=>?_)
   ·exact RB hS3 rfl (by exact (Zjh ‹_› (Zm0 ‹_›)).symm)
   refine Zk k1 (by have hreach : reach = 140737488355328:=rfl; omega) rfl rfl rfl ?_
   exact BK.mk' _ ⟨k1 + 1,G3,rfl,(hle1.trans (hle2.trans hle3)),hS3,⟨rfl,rfl,rfl,rfl,trivial⟩,(by omega),(by exact Zd2 (P:=fun j s=>ZaN l j s = true) ‹_› ‹_› (Zmy ‹_› ‹_›))⟩ (show l.length - (k1 + 1) < l.length - k1 by omega)
  exact RB hS2 rfl (by exact (Zjh ‹_› (Zmz ‹_›)).symm)
 exact RB hS1 rfl (by exact (Zm1 ‹_› (by omega)).symm)
theorem ZjE {G : GH} {w : World} (hG : G.In w) (l : List Col) (vl : Value) (hvl : Sl ColE 24 G vl l) : CL Tryz.prog (nat_lit 120) #[vl] [] w G fun G' _ r=>Sl Enc.str 16 G' r (l.map Col.name):=by
 refine Zg ft [] Tryz.func120 rfl rfl ?_
 have hS:=St.start (X:=[]) hG
 have bd1:=hvl.bound
 refine Zi hvl Qa rfl rfl ?_
 have hS2:=hS.pad
 refine LP.go ft [] (fun m ρ1 w1=>∃ (k1 : Nat),∃ (v1 : Value) (o1 : OB),∃ (G1 : GH),m = l.length - k1 ∧ G.le G1 ∧ St w [] G G1 [o1] w1 ∧ ZS Enc.str 16 9 G1 v1 ((l.take k1).map Col.name) o1 ∧ FR ρ1 [(3,v1),(6,vl),(7, .int .i64 (l.length : Int)),(8, .int .i64 (k1 : Int))] ∧ k1 ≤ l.length) _ ⟨0,(.slice none 0 0),none,G,rfl,(G.le_refl),hS2,(ZS.cast (ZS.nil Enc.str 16 9 G) (by simp)),⟨rfl,rfl,rfl,rfl,trivial⟩,(by omega)⟩ ?_
 rintro m ρ1 w1 ⟨k1,v1,o1,G1,rfl,hle1,hS1,hr1,hF9,f1⟩
 refine hF9.set ?_
 clear hF9
 have htk:=List.length_take_le k1 l
 refine Zq (k1 : Int) (l.length : Int) rfl rfl rfl (fun h1=>?_) (fun h1=>?_)
 ·refine WL.indexAddr (hvl.mono hle1) k1 (by omega) Qa Xe rfl rfl rfl rfl (fun p1 x1 hx1 he1=>?_)
  obtain ⟨cs1,hc1,hr2⟩:=he1
  obtain ⟨rfl,hb1,hb2⟩:=Qg hr2
  refine Zc hS1 hc1 [Zd x1.name, .int .i64 x1.kind] Xe rfl rfl rfl rfl rfl ?_
  refine WL.alloc hS1 Xe rfl rfl (fun b1 w2 hn1 hS3=>?_)
  refine WL.store hS3 0 _ _ _ 0 _ [Zd x1.name, .int .i64 x1.kind] [Zd x1.name, .int .i64 x1.kind] _ rfl rfl Xe rfl (Nat.le_of_ble_eq_true rfl) rfl rfl rfl rfl rfl rfl (fun w3 hS4=>?_)
  obtain ⟨G2,hle2,hc2,hS5⟩:=hS4.shutB hn1
  refine Zb hS5 (Xl.drop 0 hc2) Yw rfl rfl rfl ?_
  refine WL.buildSlice _ [(0,[Zd x1.name])] [Zd x1.name] hS5 Zry rfl rfl rfl rfl (fun z hz=>by match z,hz with | [z0],_=>rfl) (fun b2 w4 hn2 hS6=>?_)
  refine WL.push (m:=([x1.name] : List (List UInt8))) Zry rfl rfl rfl (hr1.mono hle2) hS6 1 rfl 0 _ _ _ _ _ rfl ⟨[Zd x1.name],_,rfl,⟨rfl,hb1⟩,rfl⟩ rfl (by have hreach : reach = 140737488355328:=rfl; have hby:=(by assumption : Sl ColE 24 G _ l).bytes; have hbl:=List.length_take_le' k1 l; simp only [List.length_append,List.length_cons,List.length_nil,List.length_map]; omega) (by have hreach : reach = 140737488355328:=rfl; have hby:=(by assumption : Sl ColE 24 G _ l).bytes; have hbl:=List.length_take_le' k1 l; simp only [List.length_append,List.length_cons,List.length_nil,List.length_map]; omega) rfl rfl rfl (fun v2 o2 w5 hr3 hS7=>?_)
  have hS8:=hS7.tail
  refine Zk k1 (by have hreach : reach = 140737488355328:=rfl; omega) rfl rfl rfl ?_
  exact BK.mk' _ ⟨k1 + 1,v2,o2,G2,rfl,(hle1.trans hle2),hS8,(ZS.cast hr3 (by (rw [List.take_add_one,(by assumption : l[k1]? = some _)]; simp))),⟨rfl,rfl,rfl,rfl,trivial⟩,(by omega)⟩ (show l.length - (k1 + 1) < l.length - k1 by omega)
 obtain ⟨G3,hle3,hs1,hS9⟩:=ZS.freeze hr1 hS1 0 rfl
 exact RT hS9 rfl (Sl.cast hs1 (by rw [List.take_of_length_le (by omega)]))
theorem Zcx {G : GH} {w : World} (hG : G.In w) (s : Schema) (nm : List UInt8) (cs : List Value) (hcs : SchemaE.rep G s cs) : CL Tryz.prog (nat_lit 121) #[.agg cs.toArray,Zd nm] [] w G fun _ _ r=>r = .int .i64 (Yy (s.cols.map Col.name) nm):=by
 refine Zg ft [] Tryz.func121 rfl rfl ?_
 have hS:=St.start (X:=[]) hG
 obtain ⟨v1,v2,rfl,hb1,hs1,hb2,hs2⟩:=YJ hcs
 refine Zu [Zd s.name,v1, .int .i64 s.key,v2] _ hS rfl rfl rfl (fun p1 w1 G1 hle1 hsp1 hc1 hS1=>?_)
 refine Zb hS1 (Xl.drop 1 hc1) QM rfl rfl rfl ?_
 refine Z3 hS1 ZpB rfl rfl rfl (ZjE hS1.imm s.cols _ (hs1.mono hle1)) (fun w2 G2 r1 hpost1 hS2 hle2=>?_)
 refine Zj hS2 ZpL rfl rfl rfl (ZhM hS2.imm (s.cols.map Col.name) nm _ hpost1) (fun w3 G3 hS3 hle3=>?_)
 exact RI hS3 rfl (by rfl)
theorem ZfF {G : GH} {w : World} (hG : G.In w) (s : Schema) (cs : List Value) (hcs : SchemaE.rep G s cs) : CL Tryz.prog (nat_lit 62) #[.agg cs.toArray] [] w G fun _ _ r=>r = .bool (Yl s):=by
 refine Zg ft [] Tryz.func62 rfl rfl ?_
 have hS:=St.start (X:=[]) hG
 obtain ⟨v1,v2,rfl,hb1,hs1,hb2,hs2⟩:=YJ hcs
 refine Zu [Zd s.name,v1, .int .i64 s.key,v2] _ hS rfl rfl rfl (fun p1 w1 G1 hle1 hsp1 hc1 hS1=>?_)
 refine Zb hS1 (Xl.drop 1 hc1) QM rfl rfl rfl ?_
 have bd1:=hs1.bound
 refine Zi (hs1.mono hle1) Qa rfl rfl <| Zb hS1 (Xl.drop 0 hc1) Yw rfl rfl rfl ?_
 refine Zj hS1 Zlo rfl rfl rfl (ZjC hS1.imm s.name) (fun w2 G2 hS2 hle2=>?_)
 refine WL.split (fun (h1 : (Xt s.name) = true)=>?_) (fun (h1 : (Xt s.name) = false)=>?_)
 ·refine Zq (s.cols.length : Int) 1 rfl rfl rfl (fun h2=>?_) (fun h2=>?_)
  ·exact RB hS2 rfl (by first | exact (Xh hA (Ye ‹_› (by omega)) (Ye ‹_› (by omega))).symm | exact (YR ‹_› (by omega)).symm | exact (Z4 ‹_› (Xw ‹_›)).symm | exact (Z4 ‹_› (Xx (by omega))).symm | exact (Z4 ‹_› (Xy ‹_›)).symm | exact (Z4 ‹_› (Xz ‹_› ‹_›)).symm | exact (XN (by unfold XB; simp_all [Cmp.b] <;> (first | omega | (intros; omega) | (rw [Bool.eq_iff_iff]; simp <;> omega) | (rw [Bool.eq_iff_iff]; simp_all <;> omega)))).symm)
  refine YD (s.cols.length : Int) 8 rfl rfl rfl (fun h3=>?_) (fun h3=>?_)
  ·exact RB hS2 rfl (by first | exact (Xh hA (Ye ‹_› (by omega)) (Ye ‹_› (by omega))).symm | exact (YR ‹_› (by omega)).symm | exact (Z4 ‹_› (Xw ‹_›)).symm | exact (Z4 ‹_› (Xx (by omega))).symm | exact (Z4 ‹_› (Xy ‹_›)).symm | exact (Z4 ‹_› (Xz ‹_› ‹_›)).symm | exact (XN (by unfold XB; simp_all [Cmp.b] <;> (first | omega | (intros; omega) | (rw [Bool.eq_iff_iff]; simp <;> omega) | (rw [Bool.eq_iff_iff]; simp_all <;> omega)))).symm)
  refine Zb hS2 (Xl.drop 2 (hc1.mono hle2)) Z7 rfl rfl rfl ?_
  refine Zq s.key 1 rfl rfl rfl (fun h4=>?_) (fun h4=>?_)
  ·exact RB hS2 rfl (by first | exact (Xh hA (Ye ‹_› (by omega)) (Ye ‹_› (by omega))).symm | exact (YR ‹_› (by omega)).symm | exact (Z4 ‹_› (Xw ‹_›)).symm | exact (Z4 ‹_› (Xx (by omega))).symm | exact (Z4 ‹_› (Xy ‹_›)).symm | exact (Z4 ‹_› (Xz ‹_› ‹_›)).symm | exact (XN (by unfold XB; simp_all [Cmp.b] <;> (first | omega | (intros; omega) | (rw [Bool.eq_iff_iff]; simp <;> omega) | (rw [Bool.eq_iff_iff]; simp_all <;> omega)))).symm)
  refine Zb hS2 (Xl.drop 2 (hc1.mono hle2)) Z7 rfl rfl rfl ?_
  refine YD s.key (s.cols.length : Int) rfl rfl rfl (fun h5=>?_) (fun h5=>?_)
  ·exact RB hS2 rfl (by first | exact (Xh hA (Ye ‹_› (by omega)) (Ye ‹_› (by omega))).symm | exact (YR ‹_› (by omega)).symm | exact (Z4 ‹_› (Xw ‹_›)).symm | exact (Z4 ‹_› (Xx (by omega))).symm | exact (Z4 ‹_› (Xy ‹_›)).symm | exact (Z4 ‹_› (Xz ‹_› ‹_›)).symm | exact (XN (by unfold XB; simp_all [Cmp.b] <;> (first | omega | (intros; omega) | (rw [Bool.eq_iff_iff]; simp <;> omega) | (rw [Bool.eq_iff_iff]; simp_all <;> omega)))).symm)
  refine Zb hS2 (Xl.drop 3 (hc1.mono hle2)) ZcN rfl rfl rfl ?_
  have bd2:=hs2.bound
  refine Zi (hs2.mono (hle1.trans hle2)) ZbH rfl rfl ?_
  refine YD (s.fks.length : Int) 8 rfl rfl rfl (fun h6=>?_) (fun h6=>?_)
  ·exact RB hS2 rfl (by first | exact (Xh hA (Ye ‹_› (by omega)) (Ye ‹_› (by omega))).symm | exact (YR ‹_› (by omega)).symm | exact (Z4 ‹_› (Xw ‹_›)).symm | exact (Z4 ‹_› (Xx (by omega))).symm | exact (Z4 ‹_› (Xy ‹_›)).symm | exact (Z4 ‹_› (Xz ‹_› ‹_›)).symm | exact (XN (by unfold XB; simp_all [Cmp.b] <;> (first | omega | (intros; omega) | (rw [Bool.eq_iff_iff]; simp <;> omega) | (rw [Bool.eq_iff_iff]; simp_all <;> omega)))).symm)
  refine Zb hS2 (Xl.drop 1 (hc1.mono hle2)) QM rfl rfl rfl ?_
  refine Z3 hS2 ZpB rfl rfl rfl (ZjE hS2.imm s.cols _ (hs1.mono (hle1.trans hle2))) (fun w3 G3 r1 hpost1 hS3 hle3=>?_)
  refine Zj hS3 ZpA rfl rfl rfl (ZgD hS3.imm (s.cols.map Col.name) _ hpost1) (fun w4 G4 hS4 hle4=>?_)
  refine WL.split (fun (h7 : (QQ (s.cols.map Col.name)) = true)=>?_) (fun (h7 : (QQ (s.cols.map Col.name)) = false)=>?_)
  ·have hA : XB s = true:=by unfold XB; simp_all [Cmp.b] <;> (omega)
   refine Zb hS4 (Xl.drop 1 (hc1.mono ((hle2.trans hle3).trans hle4))) QM rfl rfl rfl ?_
   have bd3:=hs1.bound
   refine Zi (hs1.mono (((hle1.trans hle2).trans hle3).trans hle4)) Qa rfl rfl ?_
   refine LP.go ft [] (fun m ρ1 w1=>∃ (k1 : Nat),∃ (G5 : GH),m = s.cols.length - k1 ∧ G4.le G5 ∧ St w [] G G5 [] w1 ∧ FR ρ1 [(1, .pointer (some p1)),(50,v1),(51, .int .i64 (s.cols.length : Int)),(52, .int .i64 (k1 : Int))] ∧ k1 ≤ s.cols.length ∧ ∀ j,j < k1 → ∀ x,s.cols[j]? = some x → Zd3 x = true) _ ⟨0,G4,rfl,(G4.le_refl),hS4,⟨rfl,rfl,rfl,rfl,trivial⟩,(by omega),(by intro j hj; omega)⟩ ?_
   rintro m ρ1 w5 ⟨k1,G5,rfl,hle5,hS5,hF9,f1,f2⟩
   refine hF9.set ?_
   clear hF9
   refine Zq (k1 : Int) (s.cols.length : Int) rfl rfl rfl (fun h8=>?_) (fun h8=>?_)
   ·refine WL.indexAddr (hs1.mono ((((hle1.trans hle2).trans hle3).trans hle4).trans hle5)) k1 (by omega) Qa Xe rfl rfl rfl rfl (fun p2 x1 hx1 he1=>?_)
    obtain ⟨cs1,hc2,hr1⟩:=he1
    obtain ⟨rfl,hb3,hb4⟩:=Qg hr1
    refine Zc hS5 hc2 [Zd x1.name, .int .i64 x1.kind] Xe rfl rfl rfl rfl rfl ?_
    refine WL.alloc hS5 Xe rfl rfl (fun b1 w6 hn1 hS6=>?_)
    refine WL.store hS6 0 _ _ _ 0 _ [Zd x1.name, .int .i64 x1.kind] [Zd x1.name, .int .i64 x1.kind] _ rfl rfl Xe rfl (Nat.le_of_ble_eq_true rfl) rfl rfl rfl rfl rfl rfl (fun w7 hS7=>?_)
    obtain ⟨G6,hle6,hc3,hS8⟩:=hS7.shutB hn1
    refine Zb hS8 (Xl.drop 1 hc3) Z7 rfl rfl rfl ?_
    refine Zq x1.kind 1 rfl rfl rfl (fun h9=>?_) (fun h9=>?_)
    ·exact RB hS8 rfl (by first | exact (Xh hA (Ye ‹_› (by omega)) (Ye ‹_› (by omega))).symm | exact (YR ‹_› (by omega)).symm | exact (Z4 ‹_› (Xw ‹_›)).symm | exact (Z4 ‹_› (Xx (by omega))).symm | exact (Z4 ‹_› (Xy ‹_›)).symm | exact (Z4 ‹_› (Xz ‹_› ‹_›)).symm | exact (XN (by unfold XB; simp_all [Cmp.b] <;> (first | omega | (intros; omega) | (rw [Bool.eq_iff_iff]; simp <;> omega) | (rw [Bool.eq_iff_iff]; simp_all <;> omega)))).symm)
    refine Zb hS8 (Xl.drop 1 hc3) Z7 rfl rfl rfl ?_
    refine YD x1.kind 4 rfl rfl rfl (fun h10=>?_) (fun h10=>?_)
    ·exact RB hS8 rfl (by first | exact (Xh hA (Ye ‹_› (by omega)) (Ye ‹_› (by omega))).symm | exact (YR ‹_› (by omega)).symm | exact (Z4 ‹_› (Xw ‹_›)).symm | exact (Z4 ‹_› (Xx (by omega))).symm | exact (Z4 ‹_› (Xy ‹_›)).symm | exact (Z4 ‹_› (Xz ‹_› ‹_›)).symm | exact (XN (by unfold XB; simp_all [Cmp.b] <;> (first | omega | (intros; omega) | (rw [Bool.eq_iff_iff]; simp <;> omega) | (rw [Bool.eq_iff_iff]; simp_all <;> omega)))).symm)
    refine Zk k1 (by have hreach : reach = 140737488355328:=rfl; omega) rfl rfl rfl ?_
    exact BK.mk' _ ⟨k1 + 1,G6,rfl,(hle5.trans hle6),hS8,⟨rfl,rfl,rfl,rfl,trivial⟩,(by omega),(by exact YV ‹_› ‹_› (Zm2 (by omega) (by omega)))⟩ (show s.cols.length - (k1 + 1) < s.cols.length - k1 by omega)
   refine Zb hS5 (Xl.drop 3 (hc1.mono (((hle2.trans hle3).trans hle4).trans hle5))) ZcN rfl rfl rfl ?_
   have bd4:=hs2.bound
   refine Zi (hs2.mono ((((hle1.trans hle2).trans hle3).trans hle4).trans hle5)) ZbH rfl rfl ?_
   refine LP.go ft [] (fun m ρ1 w1=>∃ (k2 : Nat),∃ (G7 : GH),m = s.fks.length - k2 ∧ G5.le G7 ∧ St w [] G G7 [] w1 ∧ FR ρ1 [(1, .pointer (some p1)),(66,v2),(67, .int .i64 (s.fks.length : Int)),(68, .int .i64 (k2 : Int))] ∧ k2 ≤ s.fks.length ∧ ∀ j,j < k2 → ∀ x,s.fks[j]? = some x → fkB s x = true) _ ⟨0,G5,rfl,(G5.le_refl),hS5,⟨rfl,rfl,rfl,rfl,trivial⟩,(by omega),(by intro j hj; omega)⟩ ?_
   rintro m ρ1 w9 ⟨k2,G7,rfl,hle7,hS9,hF9,f3,f4⟩
   refine hF9.set ?_
   clear hF9
   refine Zq (k2 : Int) (s.fks.length : Int) rfl rfl rfl (fun h11=>?_) (fun h11=>?_)
   ·refine WL.indexAddr (hs2.mono (((((hle1.trans hle2).trans hle3).trans hle4).trans hle5).trans hle7)) k2 (by omega) ZbH XZ rfl rfl rfl rfl (fun p3 x2 hx2 he2=>?_)
    obtain ⟨cs2,hc4,hr2⟩:=he2
    obtain ⟨v3,rfl,hs3,hb5⟩:=Y1 hr2
    refine Zc hS9 hc4 [v3,Zd x2.table] XZ rfl rfl rfl rfl rfl ?_
    refine WL.alloc hS9 XZ rfl rfl (fun b2 w10 hn2 hS10=>?_)
    refine WL.store hS10 0 _ _ _ 0 _ [v3,Zd x2.table] [v3,Zd x2.table] _ rfl rfl XZ rfl (Nat.le_of_ble_eq_true rfl) (by simp only [List.all_cons,List.all_nil,hs3.oneC,Bool.true_and] <;> rfl) rfl rfl rfl rfl rfl (fun w11 hS11=>?_)
    obtain ⟨G9,hle9,hc5,hS12⟩:=hS11.shutB hn2
    refine Zb hS12 (Xl.drop 1 hc5) Yw rfl rfl rfl ?_
    refine Zj hS12 Zlo rfl rfl rfl (ZjC hS12.imm x2.table) (fun w12 G10 hS13 hle10=>?_)
    refine WL.split (fun (h12 : (Xt x2.table) = true)=>?_) (fun (h12 : (Xt x2.table) = false)=>?_)
    ·refine Zb hS13 (Xl.drop 0 (hc5.mono hle10)) XM rfl rfl rfl ?_
     have bd5:=hs3.bound
     refine Zi (hs3.mono (hle9.trans hle10)) Y8 rfl rfl ?_
     refine Zq (x2.cols.length : Int) 1 rfl rfl rfl (fun h13=>?_) (fun h13=>?_)
     ·exact RB hS13 rfl (by first | exact (Xh hA (Ye ‹_› (by omega)) (Ye ‹_› (by omega))).symm | exact (YR ‹_› (by omega)).symm | exact (Z4 ‹_› (Xw ‹_›)).symm | exact (Z4 ‹_› (Xx (by omega))).symm | exact (Z4 ‹_› (Xy ‹_›)).symm | exact (Z4 ‹_› (Xz ‹_› ‹_›)).symm | exact (XN (by unfold XB; simp_all [Cmp.b] <;> (first | omega | (intros; omega) | (rw [Bool.eq_iff_iff]; simp <;> omega) | (rw [Bool.eq_iff_iff]; simp_all <;> omega)))).symm)
     refine Zb hS13 (Xl.drop 0 (hc5.mono hle10)) XM rfl rfl rfl ?_
     have bd6:=hs3.bound
     refine Zi (hs3.mono (hle9.trans hle10)) Y8 rfl rfl ?_
     refine YD (x2.cols.length : Int) 8 rfl rfl rfl (fun h14=>?_) (fun h14=>?_)
     ·exact RB hS13 rfl (by first | exact (Xh hA (Ye ‹_› (by omega)) (Ye ‹_› (by omega))).symm | exact (YR ‹_› (by omega)).symm | exact (Z4 ‹_› (Xw ‹_›)).symm | exact (Z4 ‹_› (Xx (by omega))).symm | exact (Z4 ‹_› (Xy ‹_›)).symm | exact (Z4 ‹_› (Xz ‹_› ‹_›)).symm | exact (XN (by unfold XB; simp_all [Cmp.b] <;> (first | omega | (intros; omega) | (rw [Bool.eq_iff_iff]; simp <;> omega) | (rw [Bool.eq_iff_iff]; simp_all <;> omega)))).symm)
     refine Zb hS13 (Xl.drop 0 (hc5.mono hle10)) XM rfl rfl rfl ?_
     refine Zj hS13 ZpA rfl rfl rfl (ZgD hS13.imm x2.cols _ (hs3.mono (hle9.trans hle10))) (fun w13 G11 hS14 hle11=>?_)
     refine WL.split (fun (h15 : (QQ x2.cols) = true)=>?_) (fun (h15 : (QQ x2.cols) = false)=>?_)
     ·refine Zb hS14 (Xl.drop 0 (hc5.mono (hle10.trans hle11))) XM rfl rfl rfl ?_
      have bd7:=hs3.bound
      refine Zi (hs3.mono ((hle9.trans hle10).trans hle11)) Y8 rfl rfl ?_
      refine LP.go ft [] (fun m ρ1 w1=>∃ (k3 : Nat),∃ (G12 : GH),m = x2.cols.length - k3 ∧ G11.le G12 ∧ St w [] G G12 [] w1 ∧ FR ρ1 [(1, .pointer (some p1)),(66,v2),(67, .int .i64 (s.fks.length : Int)),(68, .int .i64 (k2 : Int)),(95,v3),(96, .int .i64 (x2.cols.length : Int)),(97, .int .i64 (k3 : Int))] ∧ k3 ≤ x2.cols.length ∧ ∀ j,j < k3 → ∀ x,x2.cols[j]? = some x → decide (0 ≤ Yy (s.cols.map Col.name) x) = true) _ ⟨0,G11,rfl,(G11.le_refl),hS14,⟨rfl,rfl,rfl,rfl,rfl,rfl,rfl,trivial⟩,(by omega),(by intro j hj; omega)⟩ ?_
      rintro m ρ1 w14 ⟨k3,G12,rfl,hle12,hS15,hF9,f5,f6⟩
      refine hF9.set ?_
      clear hF9
      refine Zq (k3 : Int) (x2.cols.length : Int) rfl rfl rfl (fun h16=>?_) (fun h16=>?_)
      ·refine WL.indexAddr (hs3.mono (((hle9.trans hle10).trans hle11).trans hle12)) k3 (by omega) Y8 Yw rfl rfl rfl rfl (fun p4 x3 hx3 he3=>?_)
       obtain ⟨cs3,hc6,hr3⟩:=he3
       obtain ⟨rfl,hb6⟩:=hr3
       refine Zb hS15 hc6 Yw rfl rfl rfl <| Zc hS15 (hc1.mono ((((((((hle2.trans hle3).trans hle4).trans hle5).trans hle7).trans hle9).trans hle10).trans hle11).trans hle12)) [Zd s.name,v1, .int .i64 s.key,v2] Xg rfl rfl rfl rfl rfl ?_
       refine Zj hS15 Zgi rfl rfl rfl (Zcx hS15.imm s x3 _ (ZL s hb1 (hs1.mono (((((((((hle1.trans hle2).trans hle3).trans hle4).trans hle5).trans hle7).trans hle9).trans hle10).trans hle11).trans hle12)) hb2 (hs2.mono (((((((((hle1.trans hle2).trans hle3).trans hle4).trans hle5).trans hle7).trans hle9).trans hle10).trans hle11).trans hle12)))) (fun w15 G13 hS16 hle13=>?_)
       refine Zq (Yy (s.cols.map Col.name) x3) 0 rfl rfl rfl (fun h17=>?_) (fun h17=>?_)
       ·exact RB hS16 rfl (by first | exact (Xh hA (Ye ‹_› (by omega)) (Ye ‹_› (by omega))).symm | exact (YR ‹_› (by omega)).symm | exact (Z4 ‹_› (Xw ‹_›)).symm | exact (Z4 ‹_› (Xx (by omega))).symm | exact (Z4 ‹_› (Xy ‹_›)).symm | exact (Z4 ‹_› (Xz ‹_› ‹_›)).symm | exact (XN (by unfold XB; simp_all [Cmp.b] <;> (first | omega | (intros; omega) | (rw [Bool.eq_iff_iff]; simp <;> omega) | (rw [Bool.eq_iff_iff]; simp_all <;> omega)))).symm)
       refine Zk k3 (by have hreach : reach = 140737488355328:=rfl; omega) rfl rfl rfl ?_
       exact BK.mk' _ ⟨k3 + 1,G13,rfl,(hle12.trans hle13),hS16,⟨rfl,rfl,rfl,rfl,rfl,rfl,rfl,trivial⟩,(by omega),(by exact YV ‹_› ‹_› (decide_eq_true ‹_›))⟩ (show x2.cols.length - (k3 + 1) < x2.cols.length - k3 by omega)
      refine Zk k2 (by have hreach : reach = 140737488355328:=rfl; omega) rfl rfl rfl ?_
      exact BK.mk' _ ⟨k2 + 1,G12,rfl,(hle7.trans (((hle9.trans hle10).trans hle11).trans hle12)),hS15,⟨rfl,rfl,rfl,rfl,trivial⟩,(by omega),(by exact YV ‹_› ‹_› (Zq0 ‹_› (by omega) (by omega) ‹_› (Ye ‹_› (by omega))))⟩ (show s.fks.length - (k2 + 1) < s.fks.length - k2 by omega)
     exact RB hS14 rfl (by first | exact (Xh hA (Ye ‹_› (by omega)) (Ye ‹_› (by omega))).symm | exact (YR ‹_› (by omega)).symm | exact (Z4 ‹_› (Xw ‹_›)).symm | exact (Z4 ‹_› (Xx (by omega))).symm | exact (Z4 ‹_› (Xy ‹_›)).symm | exact (Z4 ‹_› (Xz ‹_› ‹_›)).symm | exact (XN (by unfold XB; simp_all [Cmp.b] <;> (first | omega | (intros; omega) | (rw [Bool.eq_iff_iff]; simp <;> omega) | (rw [Bool.eq_iff_iff]; simp_all <;> omega)))).symm)
    exact RB hS13 rfl (by first | exact (Xh hA (Ye ‹_› (by omega)) (Ye ‹_› (by omega))).symm | exact (YR ‹_› (by omega)).symm | exact (Z4 ‹_› (Xw ‹_›)).symm | exact (Z4 ‹_› (Xx (by omega))).symm | exact (Z4 ‹_› (Xy ‹_›)).symm | exact (Z4 ‹_› (Xz ‹_› ‹_›)).symm | exact (XN (by unfold XB; simp_all [Cmp.b] <;> (first | omega | (intros; omega) | (rw [Bool.eq_iff_iff]; simp <;> omega) | (rw [Bool.eq_iff_iff]; simp_all <;> omega)))).symm)
   exact RB hS9 rfl (by first | exact (Xh hA (Ye ‹_› (by omega)) (Ye ‹_› (by omega))).symm | exact (YR ‹_› (by omega)).symm | exact (Z4 ‹_› (Xw ‹_›)).symm | exact (Z4 ‹_› (Xx (by omega))).symm | exact (Z4 ‹_› (Xy ‹_›)).symm | exact (Z4 ‹_› (Xz ‹_› ‹_›)).symm | exact (XN (by unfold XB; simp_all [Cmp.b] <;> (first | omega | (intros; omega) | (rw [Bool.eq_iff_iff]; simp <;> omega) | (rw [Bool.eq_iff_iff]; simp_all <;> omega)))).symm)
  exact RB hS4 rfl (by first | exact (Xh hA (Ye ‹_› (by omega)) (Ye ‹_› (by omega))).symm | exact (YR ‹_› (by omega)).symm | exact (Z4 ‹_› (Xw ‹_›)).symm | exact (Z4 ‹_› (Xx (by omega))).symm | exact (Z4 ‹_› (Xy ‹_›)).symm | exact (Z4 ‹_› (Xz ‹_› ‹_›)).symm | exact (XN (by unfold XB; simp_all [Cmp.b] <;> (first | omega | (intros; omega) | (rw [Bool.eq_iff_iff]; simp <;> omega) | (rw [Bool.eq_iff_iff]; simp_all <;> omega)))).symm)
 exact RB hS2 rfl (by first | exact (Xh hA (Ye ‹_› (by omega)) (Ye ‹_› (by omega))).symm | exact (YR ‹_› (by omega)).symm | exact (Z4 ‹_› (Xw ‹_›)).symm | exact (Z4 ‹_› (Xx (by omega))).symm | exact (Z4 ‹_› (Xy ‹_›)).symm | exact (Z4 ‹_› (Xz ‹_› ‹_›)).symm | exact (XN (by unfold XB; simp_all [Cmp.b] <;> (first | omega | (intros; omega) | (rw [Bool.eq_iff_iff]; simp <;> omega) | (rw [Bool.eq_iff_iff]; simp_all <;> omega)))).symm)
theorem ZqV {G : GH} {w : World} (hG : G.In w) (x : Val) (cx : List Value) (hcx : ValE.rep G x cx) : CL Tryz.prog (nat_lit 123) #[.agg cx.toArray] [] w G fun _ _ r=>r = .bool (!Z9 x):=by
 refine Zg ft [] Tryz.func123 rfl rfl ?_
 have hS:=St.start (X:=[]) hG
 obtain ⟨rfl,hb1,hb2,hb3⟩:=Yv hcx
 refine Zu [.int .i64 x.k, .int .i64 x.n,Zd x.s] _ hS rfl rfl rfl (fun p1 w1 G1 hle1 hsp1 hc1 hS1=>?_)
 refine Zc hS1 hc1 [.int .i64 x.k, .int .i64 x.n,Zd x.s] Ya rfl rfl rfl rfl rfl ?_
 refine Zj hS1 Zlq rfl rfl rfl (Zf2 hS1.imm x _ (Qb x hb1 hb2 hb3)) (fun w2 G2 hS2 hle2=>?_)
 exact RB hS2 rfl (by rfl)
theorem ZqW {G : GH} {w : World} (hG : G.In w) (c : Col) (x : Val) (cc : List Value) (hcc : ColE.rep G c cc) (cx : List Value) (hcx : ValE.rep G x cx) : CL Tryz.prog (nat_lit 126) #[.agg cc.toArray, .agg cx.toArray] [] w G fun _ _ r=>r = .bool (decide (c.kind = x.k)):=by
 refine Zg ft [] Tryz.func126 rfl rfl ?_
 have hS:=St.start (X:=[]) hG
 obtain ⟨rfl,hb1,hb2⟩:=Qg hcc
 obtain ⟨rfl,hb3,hb4,hb5⟩:=Yv hcx
 refine Zu [Zd c.name, .int .i64 c.kind] _ hS rfl rfl rfl (fun p1 w1 G1 hle1 hsp1 hc1 hS1=>?_)
 refine Zu [.int .i64 x.k, .int .i64 x.n,Zd x.s] _ hS1 rfl rfl rfl (fun p2 w2 G2 hle2 hsp2 hc2 hS2=>?_)
 refine Zb hS2 (Xl.drop 1 (hc1.mono hle2)) Z7 rfl rfl rfl <| Zb hS2 (Xl.drop 0 hc2) Z7 rfl rfl rfl <| ZY .eql rfl .i64 c.kind x.k rfl rfl rfl ?_
 exact RB hS2 rfl (by rfl)
theorem Zng {G : GH} {w : World} (hG : G.In w) (a : List Col) (b : List Val) (pf : Col → Val → Bool) (va : Value) (hva : Sl ColE 24 G va a) (vb : Value) (hvb : Sl ValE 32 G vb b) (fid : Nat) (fcap : Array Value) (hf : FnB2 Tryz.prog (Is ColE) (Is ValE) fid fcap G (fun x y=>x ∈ a ∧ y ∈ b) pf) : CL Tryz.prog (nat_lit 125) #[va,vb, .func (.func fid) #[] fcap] [] w G fun _ _ r=>r = .bool (Q0 pf a b):=by
 refine Zg ft [] Tryz.func125 rfl rfl ?_
 have hS:=St.start (X:=[]) hG
 have bd1:=hva.bound
 refine Zi hva Qa rfl rfl ?_
 have bd2:=hvb.bound
 refine Zi hvb Ys rfl rfl ?_
 refine YQ (a.length : Int) (b.length : Int) rfl rfl rfl (fun h1=>?_) (fun h1=>?_)
 ·exact RB hS rfl (by exact (Zag (by omega)).symm)
 have bd3:=hva.bound
 refine Zi hva Qa rfl rfl ?_
 refine LP.go ft [] (fun m ρ1 w1=>∃ (k1 : Nat),∃ (G1 : GH),m = a.length - k1 ∧ G.le G1 ∧ St w [] G G1 [] w1 ∧ FR ρ1 [(1,vb),(2, .func (.func fid) #[] fcap),(15,va),(16, .int .i64 (a.length : Int)),(17, .int .i64 (k1 : Int))] ∧ k1 ≤ a.length ∧ ∀ j,j < k1 → ∀ x y,a[j]? = some x → b[j]? = some y → pf x y = true) _ ⟨0,G,rfl,(G.le_refl),hS,⟨rfl,rfl,rfl,rfl,rfl,trivial⟩,(by omega),(by intro j hj; omega)⟩ ?_
 rintro m ρ1 w1 ⟨k1,G1,rfl,hle1,hS1,hF9,f1,f2⟩
 refine hF9.set ?_
 clear hF9
 refine Zq (k1 : Int) (a.length : Int) rfl rfl rfl (fun h2=>?_) (fun h2=>?_)
 ·refine WL.indexAddr (hva.mono hle1) k1 (by omega) Qa Xe rfl rfl rfl rfl (fun p1 x1 hx1 he1=>?_)
  obtain ⟨cs1,hc1,hr1⟩:=he1
  obtain ⟨rfl,hb1,hb2⟩:=Qg hr1
  refine Zc hS1 hc1 [Zd x1.name, .int .i64 x1.kind] Xe rfl rfl rfl rfl rfl ?_
  refine WL.alloc hS1 Xe rfl rfl (fun b1 w2 hn1 hS2=>?_)
  refine WL.store hS2 0 _ _ _ 0 _ [Zd x1.name, .int .i64 x1.kind] [Zd x1.name, .int .i64 x1.kind] _ rfl rfl Xe rfl (Nat.le_of_ble_eq_true rfl) rfl rfl rfl rfl rfl rfl (fun w3 hS3=>?_)
  obtain ⟨G2,hle2,hc2,hS4⟩:=hS3.shutB hn1
  refine WL.indexAddr (hvb.mono (hle1.trans hle2)) k1 (by omega) Ys Ya rfl rfl rfl rfl (fun p2 x2 hx2 he2=>?_)
  obtain ⟨cs2,hc3,hr2⟩:=he2
  obtain ⟨rfl,hb3,hb4,hb5⟩:=Yv hr2
  refine Zc hS4 hc3 [.int .i64 x2.k, .int .i64 x2.n,Zd x2.s] Ya rfl rfl rfl rfl rfl ?_
  refine WL.alloc hS4 Ya rfl rfl (fun b2 w4 hn2 hS5=>?_)
  refine WL.store hS5 0 _ _ _ 0 _ [.int .i64 x2.k, .int .i64 x2.n,Zd x2.s] [.int .i64 x2.k, .int .i64 x2.n,Zd x2.s] _ rfl rfl Ya rfl (Nat.le_of_ble_eq_true rfl) rfl rfl rfl rfl rfl rfl (fun w5 hS6=>?_)
  obtain ⟨G3,hle3,hc4,hS7⟩:=hS6.shutB hn2
  refine Zc hS7 (hc2.mono hle3) [Zd x1.name, .int .i64 x1.kind] Xe rfl rfl rfl rfl rfl <| Zc hS7 hc4 [.int .i64 x2.k, .int .i64 x2.n,Zd x2.s] Ya rfl rfl rfl rfl rfl ?_
  refine Zj hS7 hf.body rfl rfl rfl (hf.call _ _ (.agg #[Zd x1.name, .int .i64 x1.kind]) (.agg #[.int .i64 x2.k, .int .i64 x2.n,Zd x2.s]) x1 x2 ((hle1.trans hle2).trans hle3) hS7.imm ⟨(List.mem_of_getElem? hx1),(List.mem_of_getElem? hx2)⟩ ⟨_,rfl,(ZgP x1 hb1 hb2)⟩ ⟨_,rfl,(Qb x2 hb3 hb4 hb5)⟩) (fun w6 G4 hS8 hle4=>?_)
  refine WL.split (fun (h3 : (pf x1 x2) = true)=>?_) (fun (h3 : (pf x1 x2) = false)=>?_)
  ·refine Zk k1 (by have hreach : reach = 140737488355328:=rfl; omega) rfl rfl rfl ?_
   exact BK.mk' _ ⟨k1 + 1,G4,rfl,(hle1.trans ((hle2.trans hle3).trans hle4)),hS8,⟨rfl,rfl,rfl,rfl,rfl,trivial⟩,(by omega),(by exact Za2 ‹_› ‹_› ‹_› (by simp_all))⟩ (show a.length - (k1 + 1) < a.length - k1 by omega)
  exact RB hS8 rfl (by exact (ZaG ‹_› ‹_› (by simp_all)).symm)
 exact RB hS1 rfl (by exact (Za5 (by omega) ‹_› (by omega)).symm)
theorem ZjF {G : GH} {w : World} (hG : G.In w) (s : Schema) (v : List Val) (cs : List Value) (hcs : SchemaE.rep G s cs) (vv : Value) (hvv : Sl ValE 32 G vv v) : CL Tryz.prog (nat_lit 63) #[.agg cs.toArray,vv] [] w G fun _ _ r=>r = .int .i64 (Yz s v):=by
 refine Zg ft [] Tryz.func63 rfl rfl ?_
 have hS:=St.start (X:=[]) hG
 obtain ⟨v1,v2,rfl,hb1,hs1,hb2,hs2⟩:=YJ hcs
 refine Zu [Zd s.name,v1, .int .i64 s.key,v2] _ hS rfl rfl rfl (fun p1 w1 G1 hle1 hsp1 hc1 hS1=>?_)
 refine Zc hS1 hc1 [Zd s.name,v1, .int .i64 s.key,v2] Xg rfl rfl rfl rfl rfl ?_
 refine Zj hS1 Zoh rfl rfl rfl (ZfF hS1.imm s _ (ZL s hb1 (hs1.mono hle1) hb2 (hs2.mono hle1))) (fun w2 G2 hS2 hle2=>?_)
 refine WL.split (fun (h1 : (Yl s) = true)=>?_) (fun (h1 : (Yl s) = false)=>?_)
 ·refine Zj hS2 Zlp rfl rfl rfl (ZcQ hS2.imm v (fun x8=>!Z9 x8) _ (hvv.mono (hle1.trans hle2)) 123 #[] ⟨ZsO,fun G8 w8 v8 x8 hle8 hG8 hon8 hA8=>by obtain ⟨cs_x8,rfl,hr_x8⟩:=hA8; exact ZqV hG8 x8 cs_x8 hr_x8⟩) (fun w3 G3 hS3 hle3=>?_)
  refine WL.split (fun (h2 : (v.any (fun x8=>!Z9 x8)) = true)=>?_) (fun (h2 : (v.any (fun x8=>!Z9 x8)) = false)=>?_)
  ·exact RI hS3 rfl (by exact (ZrQ ‹_›).symm)
  refine Zb hS3 (Xl.drop 1 (hc1.mono (hle2.trans hle3))) QM rfl rfl rfl ?_
  refine Zj hS3 ZsP rfl rfl rfl (Zng hS3.imm s.cols v (fun x8 y8=>decide (x8.kind = y8.k)) _ (hs1.mono ((hle1.trans hle2).trans hle3)) _ (hvv.mono ((hle1.trans hle2).trans hle3)) 126 #[] ⟨ZsQ,fun G8 w8 v8 u8 x8 y8 hle8 hG8 hon8 hA8 hB8=>by obtain ⟨cs_x8,rfl,hr_x8⟩:=hA8; obtain ⟨cs_y8,rfl,hr_y8⟩:=hB8; exact ZqW hG8 x8 y8 cs_x8 hr_x8 cs_y8 hr_y8⟩) (fun w4 G4 hS4 hle4=>?_)
  refine WL.split (fun (h3 : (Q0 (fun x8 y8=>decide (x8.kind = y8.k)) s.cols v) = true)=>?_) (fun (h3 : (Q0 (fun x8 y8=>decide (x8.kind = y8.k)) s.cols v) = false)=>?_)
  ·exact RI hS4 rfl (by exact (ZrR ‹_› ‹_› ‹_›).symm)
  exact RI hS4 rfl (by exact (Zq1 ‹_› ‹_› ‹_›).symm)
 exact RI hS2 rfl (by exact (ZrP ‹_›).symm)
end Go.Civ
