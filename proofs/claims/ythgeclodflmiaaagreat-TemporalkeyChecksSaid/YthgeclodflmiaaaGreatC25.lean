/- Lemmas. -/
import Derived.Test.YthgeclodflmiaaaGreatC11
import Derived.Test.YthgeclodflmiaaaGreatC13
import Derived.Test.YthgeclodflmiaaaGreatC18
import Derived.Test.YthgeclodflmiaaaGreatProg
import Derived.KernelRfl
import Derived.WalkKit
set_option linter.unusedVariables false
set_option linter.unusedSimpArgs false
set_option maxRecDepth 100000
set_option maxHeartbeats 4000000
namespace Go.Civ
open Go.Proofs
theorem Zkg {G : GH} {w : World} (hG : G.In w) (c : Int) : CL Tryz.prog (nat_lit 170) #[.int .u8 c] [] w G fun _ _ r=>r = .bool (ZaQ c):=by
 refine Zh ft [] Tryz.func170 rfl rfl ?_
 have hS:=St.start (X:=[]) hG
 refine Qt c 65 rfl rfl rfl (fun h1=>?_) (fun h1=>?_)
 ·refine QH c 90 rfl rfl rfl (fun h2=>?_) (fun h2=>?_)
  ·exact RB hS rfl (by unfold ZaQ; simp_all [Cmp.b] <;> (first | omega | (intros; omega) | (rw [Bool.eq_iff_iff]; simp <;> omega) | (rw [Bool.eq_iff_iff]; simp_all <;> omega)))
  refine Qt c 97 rfl rfl rfl (fun h3=>?_) (fun h3=>?_)
  ·refine Yh .leq rfl .u8 c 122 rfl rfl rfl ?_
   exact RB hS rfl (by unfold ZaQ; simp_all [Cmp.b] <;> (omega))
  exact RB hS rfl (by unfold ZaQ; simp_all [Cmp.b] <;> (omega))
 refine Qt c 97 rfl rfl rfl (fun h4=>?_) (fun h4=>?_)
 ·refine Yh .leq rfl .u8 c 122 rfl rfl rfl ?_
  exact RB hS rfl (by unfold ZaQ; simp_all [Cmp.b] <;> (omega))
 exact RB hS rfl (by unfold ZaQ; simp_all [Cmp.b] <;> (omega))
theorem Zsa {G : GH} {w : World} (hG : G.In w) (c : Int) : CL Tryz.prog (nat_lit 171) #[.int .u8 c] [] w G fun _ _ r=>r = .bool (ZeM c):=by
 refine Zh ft [] Tryz.func171 rfl rfl ?_
 have hS:=St.start (X:=[]) hG
 refine Qt c 48 rfl rfl rfl (fun h1=>?_) (fun h1=>?_)
 ·refine Yh .leq rfl .u8 c 57 rfl rfl rfl ?_
  exact RB hS rfl (by unfold ZeM; simp_all [Cmp.b] <;> (first | omega | (intros; omega) | (rw [Bool.eq_iff_iff]; simp <;> omega) | (rw [Bool.eq_iff_iff]; simp_all <;> omega)))
 exact RB hS rfl (by unfold ZeM; simp_all [Cmp.b] <;> (omega))
theorem Zkh {G : GH} {w : World} (hG : G.In w) (s : List UInt8) : CL Tryz.prog (nat_lit 118) #[Zc s] [] w G fun _ _ r=>r = .bool (XE s):=by
 refine Zh ft [] Tryz.func118 rfl rfl ?_
 have hS:=St.start (X:=[]) hG
 refine Qb s ul9 rfl rfl ?_
 refine Zm (s.length : Int) 1 rfl rfl rfl (fun h1=>?_) (fun h1=>?_)
 ·exact RB hS rfl (by exact (ZhW (by omega)).symm)
 refine Qb s ul9 rfl rfl ?_
 refine YZ (s.length : Int) 30 rfl rfl rfl (fun h2=>?_) (fun h2=>?_)
 ·exact RB hS rfl (by exact (ZhW (by omega)).symm)
 refine ZaS s 0 (by omega) ul9 rfl rfl rfl (fun c1 hx1=>?_)
 refine Zn hS ZqT rfl rfl rfl (Zkg hS.imm (c1.toNat : Int)) (fun w1 G1 hS1 hle1=>?_)
 refine WL.split (fun (h3 : (ZaQ (c1.toNat : Int)) = true)=>?_) (fun (h3 : (ZaQ (c1.toNat : Int)) = false)=>?_)
 ·refine Qb s ul9 rfl rfl ?_
  refine LP.go ft [] (fun m ρ1 w1=>∃ (k1 : Nat),∃ (G2 : GH),m = s.length - k1 ∧ G1.le G2 ∧ St w [] G G2 [] w1 ∧ FR ρ1 [(0,Zc s),(19, .int .i64 (s.length : Int)),(20, .int .i64 (k1 : Int))] ∧ k1 ≤ s.length ∧ ∀ j,j < k1 → ∀ c,s[j]? = some c → Zba c = true) _ ⟨0,G1,rfl,(G1.le_refl),hS1,⟨rfl,rfl,rfl,trivial⟩,(by omega),(by intro j hj; omega)⟩ ?_
  rintro m ρ1 w2 ⟨k1,G2,rfl,hle2,hS2,hF9,f1,f2⟩
  refine hF9.set ?_
  clear hF9
  refine Zm (k1 : Int) (s.length : Int) rfl rfl rfl (fun h4=>?_) (fun h4=>?_)
  ·refine ZaS s k1 (by omega) ul9 rfl rfl rfl (fun c2 hx2=>?_)
   refine Zn hS2 ZqT rfl rfl rfl (Zkg hS2.imm (c2.toNat : Int)) (fun w3 G3 hS3 hle3=>?_)
   refine WL.split (fun (h5 : (ZaQ (c2.toNat : Int)) = true)=>?_) (fun (h5 : (ZaQ (c2.toNat : Int)) = false)=>?_)
   ·refine Zj k1 (by have hreach : reach = 140737488355328:=rfl; omega) rfl rfl rfl ?_
    exact BK.mk' _ ⟨k1 + 1,G3,rfl,(hle2.trans hle3),hS3,⟨rfl,rfl,rfl,trivial⟩,(by omega),(by exact Yj ‹_› ‹_› (by exact Zr2 ‹_›))⟩ (show s.length - (k1 + 1) < s.length - k1 by omega)
   refine ZaS s k1 (by omega) ul9 rfl rfl rfl (fun c3 hx3=>?_)
   obtain rfl : c2 = c3:=Option.some.inj (hx2.symm.trans hx3)
   refine Zn hS3 Zu0 rfl rfl rfl (Zsa hS3.imm (c2.toNat : Int)) (fun w4 G4 hS4 hle4=>?_)
   refine WL.split (fun (h6 : (ZeM (c2.toNat : Int)) = true)=>?_) (fun (h6 : (ZeM (c2.toNat : Int)) = false)=>?_)
   ·refine Zj k1 (by have hreach : reach = 140737488355328:=rfl; omega) rfl rfl rfl ?_
    exact BK.mk' _ ⟨k1 + 1,G4,rfl,(hle2.trans (hle3.trans hle4)),hS4,⟨rfl,rfl,rfl,trivial⟩,(by omega),(by exact Yj ‹_› ‹_› (by exact Zr3 ‹_›))⟩ (show s.length - (k1 + 1) < s.length - k1 by omega)
   refine ZaS s k1 (by omega) ul9 rfl rfl rfl (fun c4 hx4=>?_)
   obtain rfl : c2 = c4:=Option.some.inj (hx2.symm.trans hx4)
   refine Zn hS4 Zu1 rfl rfl rfl (ZkN hS4.imm [95,47,43,45] (c2.toNat : Int)) (fun w5 G5 hS5 hle5=>?_)
   refine Zm (Go.Lib.indexByte [95,47,43,45] (c2.toNat : Int).toNat.toUInt8) 0 rfl rfl rfl (fun h7=>?_) (fun h7=>?_)
   ·exact RB hS5 rfl (by exact (Zpx ‹_› (Zpy ‹_› ‹_› ‹_›)).symm)
   refine Zj k1 (by have hreach : reach = 140737488355328:=rfl; omega) rfl rfl rfl ?_
   exact BK.mk' _ ⟨k1 + 1,G5,rfl,(hle2.trans ((hle3.trans hle4).trans hle5)),hS5,⟨rfl,rfl,rfl,trivial⟩,(by omega),(by exact Yj ‹_› ‹_› (by exact Zr4 ‹_›))⟩ (show s.length - (k1 + 1) < s.length - k1 by omega)
  exact RB hS2 rfl (by exact (Zno (by omega) (by omega) ‹_› ‹_› (Yw ‹_› (by omega))).symm)
 exact RB hS1 rfl (by exact (Znn ‹_› ‹_›).symm)
theorem Zir {G : GH} {w : World} (hG : G.In w) (l : List (List UInt8)) (nm : List UInt8) (vl : Value) (hvl : Sl Enc.str 16 G vl l) : CL Tryz.prog (nat_lit 174) #[vl,Zc nm] [] w G fun _ _ r=>r = .int .i64 (Xf l nm):=by
 refine Zh ft [] Tryz.func174 rfl rfl ?_
 have hS:=St.start (X:=[]) hG
 have bd1:=hvl.bound
 refine Zl hvl Zav rfl rfl ?_
 refine LP.go ft [] (fun m ρ1 w1=>∃ (k1 : Nat),∃ (G1 : GH),m = l.length - k1 ∧ G.le G1 ∧ St w [] G G1 [] w1 ∧ FR ρ1 [(0,vl),(1,Zc nm),(7, .int .i64 (l.length : Int)),(8, .int .i64 (k1 : Int))] ∧ k1 ≤ l.length ∧ ∀ j,j < k1 → ∀ x,l[j]? = some x → decide (x = nm) = false) _ ⟨0,G,rfl,(G.le_refl),hS,⟨rfl,rfl,rfl,rfl,trivial⟩,(by omega),(by intro j hj; omega)⟩ ?_
 rintro m ρ1 w1 ⟨k1,G1,rfl,hle1,hS1,hF9,f1,f2⟩
 refine hF9.set ?_
 clear hF9
 refine Zm (k1 : Int) (l.length : Int) rfl rfl rfl (fun h1=>?_) (fun h1=>?_)
 ·refine WL.indexAddr (hvl.mono hle1) k1 (by omega) Zav YM rfl rfl rfl rfl (fun p1 x1 hx1 he1=>?_)
  obtain ⟨cs1,hc1,hr1⟩:=he1
  obtain ⟨rfl,hb1⟩:=hr1
  refine Za hS1 hc1 YM rfl rfl rfl <| YX .eql rfl nm x1 rfl rfl rfl ?_
  refine WL.split (fun h0=>?_) (fun h0=>?_)
  ·have h2 : nm = x1:=by simpa [SCmp.b] using h0
   clear h0
   exact RI hS1 rfl (by unfold Xf; exact (Qy _ ‹_› (by simp_all) ‹_›).symm)
  have h2 : nm ≠ x1:=by simpa [SCmp.b] using h0
  clear h0
  refine Zj k1 (by have hreach : reach = 140737488355328:=rfl; omega) rfl rfl rfl ?_
  exact BK.mk' _ ⟨k1 + 1,G1,rfl,hle1,hS1,⟨rfl,rfl,rfl,rfl,trivial⟩,(by omega),(by exact Yj ‹_› ‹_› (decide_eq_false (Ne.symm ‹_›)))⟩ (show l.length - (k1 + 1) < l.length - k1 by omega)
 exact RI hS1 rfl (by unfold Xf; exact (XX ‹_› (by omega)).symm)
theorem Zki {G : GH} {w : World} (hG : G.In w) (l : List (List UInt8)) (nm : List UInt8) (vl : Value) (hvl : Sl Enc.str 16 G vl l) : CL Tryz.prog (nat_lit 173) #[vl,Zc nm] [] w G fun _ _ r=>r = .bool (l.any fun x=>decide (x = nm)):=by
 refine Zh ft [] Tryz.func173 rfl rfl ?_
 have hS:=St.start (X:=[]) hG
 refine Zn hS ZqU rfl rfl rfl (Zir hS.imm l nm _ hvl) (fun w1 G1 hS1 hle1=>?_)
 refine Yh .geq rfl .i64 (Xf l nm) 0 rfl rfl rfl ?_
 exact RB hS1 rfl (by exact Zr5)
theorem ZgZ {G : GH} {w : World} (hG : G.In w) (l : List (List UInt8)) (vl : Value) (hvl : Sl Enc.str 16 G vl l) : CL Tryz.prog (nat_lit 119) #[vl] [] w G fun _ _ r=>r = .bool (Zal l):=by
 refine Zh ft [] Tryz.func119 rfl rfl ?_
 have hS:=St.start (X:=[]) hG
 have bd1:=hvl.bound
 refine Zl hvl Zav rfl rfl ?_
 refine LP.go ft [] (fun m ρ1 w1=>∃ (k1 : Nat),∃ (G1 : GH),m = l.length - k1 ∧ G.le G1 ∧ St w [] G G1 [] w1 ∧ FR ρ1 [(0,vl),(5,vl),(6, .int .i64 (l.length : Int)),(7, .int .i64 (k1 : Int))] ∧ k1 ≤ l.length ∧ ∀ j,j < k1 → ∀ s,l[j]? = some s → Zbs l j s = true) _ ⟨0,G,rfl,(G.le_refl),hS,⟨rfl,rfl,rfl,rfl,trivial⟩,(by omega),(by intro j hj; omega)⟩ ?_
 rintro m ρ1 w1 ⟨k1,G1,rfl,hle1,hS1,hF9,f1,f2⟩
 refine hF9.set ?_
 clear hF9
 refine Zm (k1 : Int) (l.length : Int) rfl rfl rfl (fun h1=>?_) (fun h1=>?_)
 ·refine WL.indexAddr (hvl.mono hle1) k1 (by omega) Zav YM rfl rfl rfl rfl (fun p1 x1 hx1 he1=>?_)
  obtain ⟨cs1,hc1,hr1⟩:=he1
  obtain ⟨rfl,hb1⟩:=hr1
  refine Za hS1 hc1 YM rfl rfl rfl ?_
  refine Zn hS1 ZlZ rfl rfl rfl (Zkh hS1.imm x1) (fun w2 G2 hS2 hle2=>?_)
  refine WL.split (fun (h2 : (XE x1) = true)=>?_) (fun (h2 : (XE x1) = false)=>?_)
  ·refine Ym (hvl.mono (hle1.trans hle2)) k1 (by omega) Zav YM rfl rfl rfl rfl (fun v1 hs1=>?_)
   refine Zn hS2 Zu2 rfl rfl rfl (Zki hS2.imm (l.take k1) x1 _ hs1) (fun w3 G3 hS3 hle3=>?_)
   refine WL.split (fun (h3 : ((l.take k1).any fun x=>decide (x = x1)) = true)=>?_) (fun (h3 : ((l.take k1).any fun x=>decide (x = x1)) = false)=>?_)
   ·exact RB hS3 rfl (by exact (ZjD ‹_› (Znr ‹_›)).symm)
   refine Zj k1 (by have hreach : reach = 140737488355328:=rfl; omega) rfl rfl rfl ?_
   exact BK.mk' _ ⟨k1 + 1,G3,rfl,(hle1.trans (hle2.trans hle3)),hS3,⟨rfl,rfl,rfl,rfl,trivial⟩,(by omega),(by exact ZbH (P:=fun j s=>Zbs l j s = true) ‹_› ‹_› (Znp ‹_› ‹_›))⟩ (show l.length - (k1 + 1) < l.length - k1 by omega)
  exact RB hS2 rfl (by exact (ZjD ‹_› (Znq ‹_›)).symm)
 exact RB hS1 rfl (by exact (Zns ‹_› (by omega)).symm)
theorem Zkj {G : GH} {w : World} (hG : G.In w) (l : List Col) (vl : Value) (hvl : Sl ColE 24 G vl l) : CL Tryz.prog (nat_lit 120) #[vl] [] w G fun G' _ r=>Sl Enc.str 16 G' r (l.map Col.name):=by
 refine Zh ft [] Tryz.func120 rfl rfl ?_
 have hS:=St.start (X:=[]) hG
 have bd1:=hvl.bound
 refine Zl hvl ZaN rfl rfl ?_
 have hS2:=hS.pad
 refine LP.go ft [] (fun m ρ1 w1=>∃ (k1 : Nat),∃ (v1 : Value) (o1 : OB),∃ (G1 : GH),m = l.length - k1 ∧ G.le G1 ∧ St w [] G G1 [o1] w1 ∧ Yb Enc.str 16 9 G1 v1 ((l.take k1).map Col.name) o1 ∧ FR ρ1 [(3,v1),(6,vl),(7, .int .i64 (l.length : Int)),(8, .int .i64 (k1 : Int))] ∧ k1 ≤ l.length) _ ⟨0,(.slice none 0 0),none,G,rfl,(G.le_refl),hS2,(Yb.cast (Yb.nil Enc.str 16 9 G) (by simp)),⟨rfl,rfl,rfl,rfl,trivial⟩,(by omega)⟩ ?_
 rintro m ρ1 w1 ⟨k1,v1,o1,G1,rfl,hle1,hS1,hr1,hF9,f1⟩
 refine hF9.set ?_
 clear hF9
 have htk:=List.length_take_le k1 l
 refine Zm (k1 : Int) (l.length : Int) rfl rfl rfl (fun h1=>?_) (fun h1=>?_)
 ·refine WL.indexAddr (hvl.mono hle1) k1 (by omega) ZaN XN rfl rfl rfl rfl (fun p1 x1 hx1 he1=>?_)
  obtain ⟨cs1,hc1,hr2⟩:=he1
  obtain ⟨rfl,hb1,hb2⟩:=Zap hr2
  refine Zd hS1 hc1 [Zc x1.name, .int .i64 x1.kind] XN rfl rfl rfl rfl rfl ?_
  refine WL.alloc hS1 XN rfl rfl (fun b1 w2 hn1 hS3=>?_)
  refine WL.store hS3 0 _ _ _ 0 _ [Zc x1.name, .int .i64 x1.kind] [Zc x1.name, .int .i64 x1.kind] _ rfl rfl XN rfl (Nat.le_of_ble_eq_true rfl) rfl rfl rfl rfl rfl rfl (fun w3 hS4=>?_)
  obtain ⟨G2,hle2,hc2,hS5⟩:=hS4.shutB hn1
  refine Za hS5 (XL.drop 0 hc2) YM rfl rfl rfl ?_
  refine WL.buildSlice _ [(0,[Zc x1.name])] [Zc x1.name] hS5 ZsC rfl rfl rfl rfl (fun z hz=>by match z,hz with | [z0],_=>rfl) (fun b2 w4 hn2 hS6=>?_)
  refine WL.push (m:=([x1.name] : List (List UInt8))) ZsC rfl rfl rfl (hr1.mono hle2) hS6 1 rfl 0 _ _ _ _ _ rfl ⟨[Zc x1.name],_,rfl,⟨rfl,hb1⟩,rfl⟩ rfl (by have hreach : reach = 140737488355328:=rfl; have hby:=(by assumption : Sl ColE 24 G _ l).bytes; have hbl:=List.length_take_le' k1 l; simp only [List.length_append,List.length_cons,List.length_nil,List.length_map]; omega) (by have hreach : reach = 140737488355328:=rfl; have hby:=(by assumption : Sl ColE 24 G _ l).bytes; have hbl:=List.length_take_le' k1 l; simp only [List.length_append,List.length_cons,List.length_nil,List.length_map]; omega) rfl rfl rfl (fun v2 o2 w5 hr3 hS7=>?_)
  have hS8:=hS7.tail
  refine Zj k1 (by have hreach : reach = 140737488355328:=rfl; omega) rfl rfl rfl ?_
  exact BK.mk' _ ⟨k1 + 1,v2,o2,G2,rfl,(hle1.trans hle2),hS8,(Yb.cast hr3 (by (rw [List.take_add_one,(by assumption : l[k1]? = some _)]; simp))),⟨rfl,rfl,rfl,rfl,trivial⟩,(by omega)⟩ (show l.length - (k1 + 1) < l.length - k1 by omega)
 obtain ⟨G3,hle3,hs1,hS9⟩:=Yb.freeze hr1 hS1 0 rfl
 exact RT hS9 rfl (Sl.cast hs1 (by rw [List.take_of_length_le (by omega)]))
theorem ZcN {G : GH} {w : World} (hG : G.In w) (s : Schema) (nm : List UInt8) (cs : List Value) (hcs : SchemaE.rep G s cs) : CL Tryz.prog (nat_lit 121) #[.agg cs.toArray,Zc nm] [] w G fun _ _ r=>r = .int .i64 (Xf (s.cols.map Col.name) nm):=by
 refine Zh ft [] Tryz.func121 rfl rfl ?_
 have hS:=St.start (X:=[]) hG
 obtain ⟨v1,v2,rfl,hb1,hs1,hb2,hs2⟩:=Yk hcs
 refine Z3 [Zc s.name,v1, .int .i64 s.key,v2] _ hS rfl rfl rfl (fun p1 w1 G1 hle1 hsp1 hc1 hS1=>?_)
 refine Za hS1 (XL.drop 1 hc1) Zce rfl rfl rfl ?_
 refine Z8 hS1 ZqK rfl rfl rfl (Zkj hS1.imm s.cols _ (hs1.mono hle1)) (fun w2 G2 r1 hpost1 hS2 hle2=>?_)
 refine Zn hS2 ZqU rfl rfl rfl (Zir hS2.imm (s.cols.map Col.name) nm _ hpost1) (fun w3 G3 hS3 hle3=>?_)
 exact RI hS3 rfl (by rfl)
theorem Zem {G : GH} {w : World} (hG : G.In w) (s : Schema) (cs : List Value) (hcs : SchemaE.rep G s cs) : CL Tryz.prog (nat_lit 62) #[.agg cs.toArray] [] w G fun _ _ r=>r = .bool (Yu s):=by
 refine Zh ft [] Tryz.func62 rfl rfl ?_
 have hS:=St.start (X:=[]) hG
 obtain ⟨v1,v2,rfl,hb1,hs1,hb2,hs2⟩:=Yk hcs
 refine Z3 [Zc s.name,v1, .int .i64 s.key,v2] _ hS rfl rfl rfl (fun p1 w1 G1 hle1 hsp1 hc1 hS1=>?_)
 refine Za hS1 (XL.drop 1 hc1) Zce rfl rfl rfl ?_
 have bd1:=hs1.bound
 refine Zl (hs1.mono hle1) ZaN rfl rfl <| Za hS1 (XL.drop 0 hc1) YM rfl rfl rfl ?_
 refine Zn hS1 ZlZ rfl rfl rfl (Zkh hS1.imm s.name) (fun w2 G2 hS2 hle2=>?_)
 refine WL.split (fun (h1 : (XE s.name) = true)=>?_) (fun (h1 : (XE s.name) = false)=>?_)
 ·refine Zm (s.cols.length : Int) 1 rfl rfl rfl (fun h2=>?_) (fun h2=>?_)
  ·exact RB hS2 rfl (by first | exact (X3 hA (Yw ‹_› (by omega)) (Yw ‹_› (by omega))).symm | exact (Xo ‹_› (by omega)).symm | exact (ZA ‹_› (XG ‹_›)).symm | exact (ZA ‹_› (XH (by omega))).symm | exact (ZA ‹_› (XI ‹_›)).symm | exact (ZA ‹_› (XJ ‹_› ‹_›)).symm | exact (Qh (by unfold XQ; simp_all [Cmp.b] <;> (first | omega | (intros; omega) | (rw [Bool.eq_iff_iff]; simp <;> omega) | (rw [Bool.eq_iff_iff]; simp_all <;> omega)))).symm)
  refine YZ (s.cols.length : Int) 8 rfl rfl rfl (fun h3=>?_) (fun h3=>?_)
  ·exact RB hS2 rfl (by first | exact (X3 hA (Yw ‹_› (by omega)) (Yw ‹_› (by omega))).symm | exact (Xo ‹_› (by omega)).symm | exact (ZA ‹_› (XG ‹_›)).symm | exact (ZA ‹_› (XH (by omega))).symm | exact (ZA ‹_› (XI ‹_›)).symm | exact (ZA ‹_› (XJ ‹_› ‹_›)).symm | exact (Qh (by unfold XQ; simp_all [Cmp.b] <;> (first | omega | (intros; omega) | (rw [Bool.eq_iff_iff]; simp <;> omega) | (rw [Bool.eq_iff_iff]; simp_all <;> omega)))).symm)
  refine Za hS2 (XL.drop 2 (hc1.mono hle2)) Zr rfl rfl rfl ?_
  refine Zm s.key 1 rfl rfl rfl (fun h4=>?_) (fun h4=>?_)
  ·exact RB hS2 rfl (by first | exact (X3 hA (Yw ‹_› (by omega)) (Yw ‹_› (by omega))).symm | exact (Xo ‹_› (by omega)).symm | exact (ZA ‹_› (XG ‹_›)).symm | exact (ZA ‹_› (XH (by omega))).symm | exact (ZA ‹_› (XI ‹_›)).symm | exact (ZA ‹_› (XJ ‹_› ‹_›)).symm | exact (Qh (by unfold XQ; simp_all [Cmp.b] <;> (first | omega | (intros; omega) | (rw [Bool.eq_iff_iff]; simp <;> omega) | (rw [Bool.eq_iff_iff]; simp_all <;> omega)))).symm)
  refine Za hS2 (XL.drop 2 (hc1.mono hle2)) Zr rfl rfl rfl ?_
  refine YZ s.key (s.cols.length : Int) rfl rfl rfl (fun h5=>?_) (fun h5=>?_)
  ·exact RB hS2 rfl (by first | exact (X3 hA (Yw ‹_› (by omega)) (Yw ‹_› (by omega))).symm | exact (Xo ‹_› (by omega)).symm | exact (ZA ‹_› (XG ‹_›)).symm | exact (ZA ‹_› (XH (by omega))).symm | exact (ZA ‹_› (XI ‹_›)).symm | exact (ZA ‹_› (XJ ‹_› ‹_›)).symm | exact (Qh (by unfold XQ; simp_all [Cmp.b] <;> (first | omega | (intros; omega) | (rw [Bool.eq_iff_iff]; simp <;> omega) | (rw [Bool.eq_iff_iff]; simp_all <;> omega)))).symm)
  refine Za hS2 (XL.drop 3 (hc1.mono hle2)) Zhl rfl rfl rfl ?_
  have bd2:=hs2.bound
  refine Zl (hs2.mono (hle1.trans hle2)) Zdr rfl rfl ?_
  refine YZ (s.fks.length : Int) 8 rfl rfl rfl (fun h6=>?_) (fun h6=>?_)
  ·exact RB hS2 rfl (by first | exact (X3 hA (Yw ‹_› (by omega)) (Yw ‹_› (by omega))).symm | exact (Xo ‹_› (by omega)).symm | exact (ZA ‹_› (XG ‹_›)).symm | exact (ZA ‹_› (XH (by omega))).symm | exact (ZA ‹_› (XI ‹_›)).symm | exact (ZA ‹_› (XJ ‹_› ‹_›)).symm | exact (Qh (by unfold XQ; simp_all [Cmp.b] <;> (first | omega | (intros; omega) | (rw [Bool.eq_iff_iff]; simp <;> omega) | (rw [Bool.eq_iff_iff]; simp_all <;> omega)))).symm)
  refine Za hS2 (XL.drop 1 (hc1.mono hle2)) Zce rfl rfl rfl ?_
  refine Z8 hS2 ZqK rfl rfl rfl (Zkj hS2.imm s.cols _ (hs1.mono (hle1.trans hle2))) (fun w3 G3 r1 hpost1 hS3 hle3=>?_)
  refine Zn hS3 ZqJ rfl rfl rfl (ZgZ hS3.imm (s.cols.map Col.name) _ hpost1) (fun w4 G4 hS4 hle4=>?_)
  refine WL.split (fun (h7 : (Zal (s.cols.map Col.name)) = true)=>?_) (fun (h7 : (Zal (s.cols.map Col.name)) = false)=>?_)
  ·have hA : XQ s = true:=by unfold XQ; simp_all [Cmp.b] <;> (omega)
   refine Za hS4 (XL.drop 1 (hc1.mono ((hle2.trans hle3).trans hle4))) Zce rfl rfl rfl ?_
   have bd3:=hs1.bound
   refine Zl (hs1.mono (((hle1.trans hle2).trans hle3).trans hle4)) ZaN rfl rfl ?_
   refine LP.go ft [] (fun m ρ1 w1=>∃ (k1 : Nat),∃ (G5 : GH),m = s.cols.length - k1 ∧ G4.le G5 ∧ St w [] G G5 [] w1 ∧ FR ρ1 [(1, .pointer (some p1)),(50,v1),(51, .int .i64 (s.cols.length : Int)),(52, .int .i64 (k1 : Int))] ∧ k1 ≤ s.cols.length ∧ ∀ j,j < k1 → ∀ x,s.cols[j]? = some x → Zea x = true) _ ⟨0,G4,rfl,(G4.le_refl),hS4,⟨rfl,rfl,rfl,rfl,trivial⟩,(by omega),(by intro j hj; omega)⟩ ?_
   rintro m ρ1 w5 ⟨k1,G5,rfl,hle5,hS5,hF9,f1,f2⟩
   refine hF9.set ?_
   clear hF9
   refine Zm (k1 : Int) (s.cols.length : Int) rfl rfl rfl (fun h8=>?_) (fun h8=>?_)
   ·refine WL.indexAddr (hs1.mono ((((hle1.trans hle2).trans hle3).trans hle4).trans hle5)) k1 (by omega) ZaN XN rfl rfl rfl rfl (fun p2 x1 hx1 he1=>?_)
    obtain ⟨cs1,hc2,hr1⟩:=he1
    obtain ⟨rfl,hb3,hb4⟩:=Zap hr1
    refine Zd hS5 hc2 [Zc x1.name, .int .i64 x1.kind] XN rfl rfl rfl rfl rfl ?_
    refine WL.alloc hS5 XN rfl rfl (fun b1 w6 hn1 hS6=>?_)
    refine WL.store hS6 0 _ _ _ 0 _ [Zc x1.name, .int .i64 x1.kind] [Zc x1.name, .int .i64 x1.kind] _ rfl rfl XN rfl (Nat.le_of_ble_eq_true rfl) rfl rfl rfl rfl rfl rfl (fun w7 hS7=>?_)
    obtain ⟨G6,hle6,hc3,hS8⟩:=hS7.shutB hn1
    refine Za hS8 (XL.drop 1 hc3) Zr rfl rfl rfl ?_
    refine Zm x1.kind 1 rfl rfl rfl (fun h9=>?_) (fun h9=>?_)
    ·exact RB hS8 rfl (by first | exact (X3 hA (Yw ‹_› (by omega)) (Yw ‹_› (by omega))).symm | exact (Xo ‹_› (by omega)).symm | exact (ZA ‹_› (XG ‹_›)).symm | exact (ZA ‹_› (XH (by omega))).symm | exact (ZA ‹_› (XI ‹_›)).symm | exact (ZA ‹_› (XJ ‹_› ‹_›)).symm | exact (Qh (by unfold XQ; simp_all [Cmp.b] <;> (first | omega | (intros; omega) | (rw [Bool.eq_iff_iff]; simp <;> omega) | (rw [Bool.eq_iff_iff]; simp_all <;> omega)))).symm)
    refine Za hS8 (XL.drop 1 hc3) Zr rfl rfl rfl ?_
    refine YZ x1.kind 4 rfl rfl rfl (fun h10=>?_) (fun h10=>?_)
    ·exact RB hS8 rfl (by first | exact (X3 hA (Yw ‹_› (by omega)) (Yw ‹_› (by omega))).symm | exact (Xo ‹_› (by omega)).symm | exact (ZA ‹_› (XG ‹_›)).symm | exact (ZA ‹_› (XH (by omega))).symm | exact (ZA ‹_› (XI ‹_›)).symm | exact (ZA ‹_› (XJ ‹_› ‹_›)).symm | exact (Qh (by unfold XQ; simp_all [Cmp.b] <;> (first | omega | (intros; omega) | (rw [Bool.eq_iff_iff]; simp <;> omega) | (rw [Bool.eq_iff_iff]; simp_all <;> omega)))).symm)
    refine Zj k1 (by have hreach : reach = 140737488355328:=rfl; omega) rfl rfl rfl ?_
    exact BK.mk' _ ⟨k1 + 1,G6,rfl,(hle5.trans hle6),hS8,⟨rfl,rfl,rfl,rfl,trivial⟩,(by omega),(by exact Yj ‹_› ‹_› (Znt (by omega) (by omega)))⟩ (show s.cols.length - (k1 + 1) < s.cols.length - k1 by omega)
   refine Za hS5 (XL.drop 3 (hc1.mono (((hle2.trans hle3).trans hle4).trans hle5))) Zhl rfl rfl rfl ?_
   have bd4:=hs2.bound
   refine Zl (hs2.mono ((((hle1.trans hle2).trans hle3).trans hle4).trans hle5)) Zdr rfl rfl ?_
   refine LP.go ft [] (fun m ρ1 w1=>∃ (k2 : Nat),∃ (G7 : GH),m = s.fks.length - k2 ∧ G5.le G7 ∧ St w [] G G7 [] w1 ∧ FR ρ1 [(1, .pointer (some p1)),(66,v2),(67, .int .i64 (s.fks.length : Int)),(68, .int .i64 (k2 : Int))] ∧ k2 ≤ s.fks.length ∧ ∀ j,j < k2 → ∀ x,s.fks[j]? = some x → fkB s x = true) _ ⟨0,G5,rfl,(G5.le_refl),hS5,⟨rfl,rfl,rfl,rfl,trivial⟩,(by omega),(by intro j hj; omega)⟩ ?_
   rintro m ρ1 w9 ⟨k2,G7,rfl,hle7,hS9,hF9,f3,f4⟩
   refine hF9.set ?_
   clear hF9
   refine Zm (k2 : Int) (s.fks.length : Int) rfl rfl rfl (fun h11=>?_) (fun h11=>?_)
   ·refine WL.indexAddr (hs2.mono (((((hle1.trans hle2).trans hle3).trans hle4).trans hle5).trans hle7)) k2 (by omega) Zdr QJ rfl rfl rfl rfl (fun p3 x2 hx2 he2=>?_)
    obtain ⟨cs2,hc4,hr2⟩:=he2
    obtain ⟨v3,rfl,hs3,hb5⟩:=XC hr2
    refine Zd hS9 hc4 [v3,Zc x2.table] QJ rfl rfl rfl rfl rfl ?_
    refine WL.alloc hS9 QJ rfl rfl (fun b2 w10 hn2 hS10=>?_)
    refine WL.store hS10 0 _ _ _ 0 _ [v3,Zc x2.table] [v3,Zc x2.table] _ rfl rfl QJ rfl (Nat.le_of_ble_eq_true rfl) (by simp only [List.all_cons,List.all_nil,hs3.oneC,Bool.true_and] <;> rfl) rfl rfl rfl rfl rfl (fun w11 hS11=>?_)
    obtain ⟨G9,hle9,hc5,hS12⟩:=hS11.shutB hn2
    refine Za hS12 (XL.drop 1 hc5) YM rfl rfl rfl ?_
    refine Zn hS12 ZlZ rfl rfl rfl (Zkh hS12.imm x2.table) (fun w12 G10 hS13 hle10=>?_)
    refine WL.split (fun (h12 : (XE x2.table) = true)=>?_) (fun (h12 : (XE x2.table) = false)=>?_)
    ·refine Za hS13 (XL.drop 0 (hc5.mono hle10)) ZdP rfl rfl rfl ?_
     have bd5:=hs3.bound
     refine Zl (hs3.mono (hle9.trans hle10)) Zav rfl rfl ?_
     refine Zm (x2.cols.length : Int) 1 rfl rfl rfl (fun h13=>?_) (fun h13=>?_)
     ·exact RB hS13 rfl (by first | exact (X3 hA (Yw ‹_› (by omega)) (Yw ‹_› (by omega))).symm | exact (Xo ‹_› (by omega)).symm | exact (ZA ‹_› (XG ‹_›)).symm | exact (ZA ‹_› (XH (by omega))).symm | exact (ZA ‹_› (XI ‹_›)).symm | exact (ZA ‹_› (XJ ‹_› ‹_›)).symm | exact (Qh (by unfold XQ; simp_all [Cmp.b] <;> (first | omega | (intros; omega) | (rw [Bool.eq_iff_iff]; simp <;> omega) | (rw [Bool.eq_iff_iff]; simp_all <;> omega)))).symm)
     refine Za hS13 (XL.drop 0 (hc5.mono hle10)) ZdP rfl rfl rfl ?_
     have bd6:=hs3.bound
     refine Zl (hs3.mono (hle9.trans hle10)) Zav rfl rfl ?_
     refine YZ (x2.cols.length : Int) 8 rfl rfl rfl (fun h14=>?_) (fun h14=>?_)
     ·exact RB hS13 rfl (by first | exact (X3 hA (Yw ‹_› (by omega)) (Yw ‹_› (by omega))).symm | exact (Xo ‹_› (by omega)).symm | exact (ZA ‹_› (XG ‹_›)).symm | exact (ZA ‹_› (XH (by omega))).symm | exact (ZA ‹_› (XI ‹_›)).symm | exact (ZA ‹_› (XJ ‹_› ‹_›)).symm | exact (Qh (by unfold XQ; simp_all [Cmp.b] <;> (first | omega | (intros; omega) | (rw [Bool.eq_iff_iff]; simp <;> omega) | (rw [Bool.eq_iff_iff]; simp_all <;> omega)))).symm)
     refine Za hS13 (XL.drop 0 (hc5.mono hle10)) ZdP rfl rfl rfl ?_
     refine Zn hS13 ZqJ rfl rfl rfl (ZgZ hS13.imm x2.cols _ (hs3.mono (hle9.trans hle10))) (fun w13 G11 hS14 hle11=>?_)
     refine WL.split (fun (h15 : (Zal x2.cols) = true)=>?_) (fun (h15 : (Zal x2.cols) = false)=>?_)
     ·refine Za hS14 (XL.drop 0 (hc5.mono (hle10.trans hle11))) ZdP rfl rfl rfl ?_
      have bd7:=hs3.bound
      refine Zl (hs3.mono ((hle9.trans hle10).trans hle11)) Zav rfl rfl ?_
      refine LP.go ft [] (fun m ρ1 w1=>∃ (k3 : Nat),∃ (G12 : GH),m = x2.cols.length - k3 ∧ G11.le G12 ∧ St w [] G G12 [] w1 ∧ FR ρ1 [(1, .pointer (some p1)),(66,v2),(67, .int .i64 (s.fks.length : Int)),(68, .int .i64 (k2 : Int)),(95,v3),(96, .int .i64 (x2.cols.length : Int)),(97, .int .i64 (k3 : Int))] ∧ k3 ≤ x2.cols.length ∧ ∀ j,j < k3 → ∀ x,x2.cols[j]? = some x → decide (0 ≤ Xf (s.cols.map Col.name) x) = true) _ ⟨0,G11,rfl,(G11.le_refl),hS14,⟨rfl,rfl,rfl,rfl,rfl,rfl,rfl,trivial⟩,(by omega),(by intro j hj; omega)⟩ ?_
      rintro m ρ1 w14 ⟨k3,G12,rfl,hle12,hS15,hF9,f5,f6⟩
      refine hF9.set ?_
      clear hF9
      refine Zm (k3 : Int) (x2.cols.length : Int) rfl rfl rfl (fun h16=>?_) (fun h16=>?_)
      ·refine WL.indexAddr (hs3.mono (((hle9.trans hle10).trans hle11).trans hle12)) k3 (by omega) Zav YM rfl rfl rfl rfl (fun p4 x3 hx3 he3=>?_)
       obtain ⟨cs3,hc6,hr3⟩:=he3
       obtain ⟨rfl,hb6⟩:=hr3
       refine Za hS15 hc6 YM rfl rfl rfl <| Zd hS15 (hc1.mono ((((((((hle2.trans hle3).trans hle4).trans hle5).trans hle7).trans hle9).trans hle10).trans hle11).trans hle12)) [Zc s.name,v1, .int .i64 s.key,v2] Y5 rfl rfl rfl rfl rfl ?_
       refine Zn hS15 Zg4 rfl rfl rfl (ZcN hS15.imm s x3 _ (Yg s hb1 (hs1.mono (((((((((hle1.trans hle2).trans hle3).trans hle4).trans hle5).trans hle7).trans hle9).trans hle10).trans hle11).trans hle12)) hb2 (hs2.mono (((((((((hle1.trans hle2).trans hle3).trans hle4).trans hle5).trans hle7).trans hle9).trans hle10).trans hle11).trans hle12)))) (fun w15 G13 hS16 hle13=>?_)
       refine Zm (Xf (s.cols.map Col.name) x3) 0 rfl rfl rfl (fun h17=>?_) (fun h17=>?_)
       ·exact RB hS16 rfl (by first | exact (X3 hA (Yw ‹_› (by omega)) (Yw ‹_› (by omega))).symm | exact (Xo ‹_› (by omega)).symm | exact (ZA ‹_› (XG ‹_›)).symm | exact (ZA ‹_› (XH (by omega))).symm | exact (ZA ‹_› (XI ‹_›)).symm | exact (ZA ‹_› (XJ ‹_› ‹_›)).symm | exact (Qh (by unfold XQ; simp_all [Cmp.b] <;> (first | omega | (intros; omega) | (rw [Bool.eq_iff_iff]; simp <;> omega) | (rw [Bool.eq_iff_iff]; simp_all <;> omega)))).symm)
       refine Zj k3 (by have hreach : reach = 140737488355328:=rfl; omega) rfl rfl rfl ?_
       exact BK.mk' _ ⟨k3 + 1,G13,rfl,(hle12.trans hle13),hS16,⟨rfl,rfl,rfl,rfl,rfl,rfl,rfl,trivial⟩,(by omega),(by exact Yj ‹_› ‹_› (decide_eq_true ‹_›))⟩ (show x2.cols.length - (k3 + 1) < x2.cols.length - k3 by omega)
      refine Zj k2 (by have hreach : reach = 140737488355328:=rfl; omega) rfl rfl rfl ?_
      exact BK.mk' _ ⟨k2 + 1,G12,rfl,(hle7.trans (((hle9.trans hle10).trans hle11).trans hle12)),hS15,⟨rfl,rfl,rfl,rfl,trivial⟩,(by omega),(by exact Yj ‹_› ‹_› (Zr6 ‹_› (by omega) (by omega) ‹_› (Yw ‹_› (by omega))))⟩ (show s.fks.length - (k2 + 1) < s.fks.length - k2 by omega)
     exact RB hS14 rfl (by first | exact (X3 hA (Yw ‹_› (by omega)) (Yw ‹_› (by omega))).symm | exact (Xo ‹_› (by omega)).symm | exact (ZA ‹_› (XG ‹_›)).symm | exact (ZA ‹_› (XH (by omega))).symm | exact (ZA ‹_› (XI ‹_›)).symm | exact (ZA ‹_› (XJ ‹_› ‹_›)).symm | exact (Qh (by unfold XQ; simp_all [Cmp.b] <;> (first | omega | (intros; omega) | (rw [Bool.eq_iff_iff]; simp <;> omega) | (rw [Bool.eq_iff_iff]; simp_all <;> omega)))).symm)
    exact RB hS13 rfl (by first | exact (X3 hA (Yw ‹_› (by omega)) (Yw ‹_› (by omega))).symm | exact (Xo ‹_› (by omega)).symm | exact (ZA ‹_› (XG ‹_›)).symm | exact (ZA ‹_› (XH (by omega))).symm | exact (ZA ‹_› (XI ‹_›)).symm | exact (ZA ‹_› (XJ ‹_› ‹_›)).symm | exact (Qh (by unfold XQ; simp_all [Cmp.b] <;> (first | omega | (intros; omega) | (rw [Bool.eq_iff_iff]; simp <;> omega) | (rw [Bool.eq_iff_iff]; simp_all <;> omega)))).symm)
   exact RB hS9 rfl (by first | exact (X3 hA (Yw ‹_› (by omega)) (Yw ‹_› (by omega))).symm | exact (Xo ‹_› (by omega)).symm | exact (ZA ‹_› (XG ‹_›)).symm | exact (ZA ‹_› (XH (by omega))).symm | exact (ZA ‹_› (XI ‹_›)).symm | exact (ZA ‹_› (XJ ‹_› ‹_›)).symm | exact (Qh (by unfold XQ; simp_all [Cmp.b] <;> (first | omega | (intros; omega) | (rw [Bool.eq_iff_iff]; simp <;> omega) | (rw [Bool.eq_iff_iff]; simp_all <;> omega)))).symm)
  exact RB hS4 rfl (by first | exact (X3 hA (Yw ‹_› (by omega)) (Yw ‹_› (by omega))).symm | exact (Xo ‹_› (by omega)).symm | exact (ZA ‹_› (XG ‹_›)).symm | exact (ZA ‹_› (XH (by omega))).symm | exact (ZA ‹_› (XI ‹_›)).symm | exact (ZA ‹_› (XJ ‹_› ‹_›)).symm | exact (Qh (by unfold XQ; simp_all [Cmp.b] <;> (first | omega | (intros; omega) | (rw [Bool.eq_iff_iff]; simp <;> omega) | (rw [Bool.eq_iff_iff]; simp_all <;> omega)))).symm)
 exact RB hS2 rfl (by first | exact (X3 hA (Yw ‹_› (by omega)) (Yw ‹_› (by omega))).symm | exact (Xo ‹_› (by omega)).symm | exact (ZA ‹_› (XG ‹_›)).symm | exact (ZA ‹_› (XH (by omega))).symm | exact (ZA ‹_› (XI ‹_›)).symm | exact (ZA ‹_› (XJ ‹_› ‹_›)).symm | exact (Qh (by unfold XQ; simp_all [Cmp.b] <;> (first | omega | (intros; omega) | (rw [Bool.eq_iff_iff]; simp <;> omega) | (rw [Bool.eq_iff_iff]; simp_all <;> omega)))).symm)
theorem Zsb {G : GH} {w : World} (hG : G.In w) (x : Val) (cx : List Value) (hcx : ValE.rep G x cx) : CL Tryz.prog (nat_lit 123) #[.agg cx.toArray] [] w G fun _ _ r=>r = .bool (!ZK x):=by
 refine Zh ft [] Tryz.func123 rfl rfl ?_
 have hS:=St.start (X:=[]) hG
 obtain ⟨rfl,hb1,hb2,hb3⟩:=Y4 hcx
 refine Z3 [.int .i64 x.k, .int .i64 x.n,Zc x.s] _ hS rfl rfl rfl (fun p1 w1 G1 hle1 hsp1 hc1 hS1=>?_)
 refine Zd hS1 hc1 [.int .i64 x.k, .int .i64 x.n,Zc x.s] Ye rfl rfl rfl rfl rfl ?_
 refine Zn hS1 Zmb rfl rfl rfl (ZfO hS1.imm x _ (Qs x hb1 hb2 hb3)) (fun w2 G2 hS2 hle2=>?_)
 exact RB hS2 rfl (by rfl)
theorem Zsc {G : GH} {w : World} (hG : G.In w) (c : Col) (x : Val) (cc : List Value) (hcc : ColE.rep G c cc) (cx : List Value) (hcx : ValE.rep G x cx) : CL Tryz.prog (nat_lit 126) #[.agg cc.toArray, .agg cx.toArray] [] w G fun _ _ r=>r = .bool (decide (c.kind = x.k)):=by
 refine Zh ft [] Tryz.func126 rfl rfl ?_
 have hS:=St.start (X:=[]) hG
 obtain ⟨rfl,hb1,hb2⟩:=Zap hcc
 obtain ⟨rfl,hb3,hb4,hb5⟩:=Y4 hcx
 refine Z3 [Zc c.name, .int .i64 c.kind] _ hS rfl rfl rfl (fun p1 w1 G1 hle1 hsp1 hc1 hS1=>?_)
 refine Z3 [.int .i64 x.k, .int .i64 x.n,Zc x.s] _ hS1 rfl rfl rfl (fun p2 w2 G2 hle2 hsp2 hc2 hS2=>?_)
 refine Za hS2 (XL.drop 1 (hc1.mono hle2)) Zr rfl rfl rfl <| Za hS2 (XL.drop 0 hc2) Zr rfl rfl rfl <| Yh .eql rfl .i64 c.kind x.k rfl rfl rfl ?_
 exact RB hS2 rfl (by rfl)
theorem Zof {G : GH} {w : World} (hG : G.In w) (a : List Col) (b : List Val) (pf : Col → Val → Bool) (va : Value) (hva : Sl ColE 24 G va a) (vb : Value) (hvb : Sl ValE 32 G vb b) (fid : Nat) (fcap : Array Value) (hf : FnB2 Tryz.prog (Is ColE) (Is ValE) fid fcap G (fun x y=>x ∈ a ∧ y ∈ b) pf) : CL Tryz.prog (nat_lit 125) #[va,vb, .func (.func fid) #[] fcap] [] w G fun _ _ r=>r = .bool (QI pf a b):=by
 refine Zh ft [] Tryz.func125 rfl rfl ?_
 have hS:=St.start (X:=[]) hG
 have bd1:=hva.bound
 refine Zl hva ZaN rfl rfl ?_
 have bd2:=hvb.bound
 refine Zl hvb Yz rfl rfl ?_
 refine Xn (a.length : Int) (b.length : Int) rfl rfl rfl (fun h1=>?_) (fun h1=>?_)
 ·exact RB hS rfl (by exact (Zcy (by omega)).symm)
 have bd3:=hva.bound
 refine Zl hva ZaN rfl rfl ?_
 refine LP.go ft [] (fun m ρ1 w1=>∃ (k1 : Nat),∃ (G1 : GH),m = a.length - k1 ∧ G.le G1 ∧ St w [] G G1 [] w1 ∧ FR ρ1 [(1,vb),(2, .func (.func fid) #[] fcap),(15,va),(16, .int .i64 (a.length : Int)),(17, .int .i64 (k1 : Int))] ∧ k1 ≤ a.length ∧ ∀ j,j < k1 → ∀ x y,a[j]? = some x → b[j]? = some y → pf x y = true) _ ⟨0,G,rfl,(G.le_refl),hS,⟨rfl,rfl,rfl,rfl,rfl,trivial⟩,(by omega),(by intro j hj; omega)⟩ ?_
 rintro m ρ1 w1 ⟨k1,G1,rfl,hle1,hS1,hF9,f1,f2⟩
 refine hF9.set ?_
 clear hF9
 refine Zm (k1 : Int) (a.length : Int) rfl rfl rfl (fun h2=>?_) (fun h2=>?_)
 ·refine WL.indexAddr (hva.mono hle1) k1 (by omega) ZaN XN rfl rfl rfl rfl (fun p1 x1 hx1 he1=>?_)
  obtain ⟨cs1,hc1,hr1⟩:=he1
  obtain ⟨rfl,hb1,hb2⟩:=Zap hr1
  refine Zd hS1 hc1 [Zc x1.name, .int .i64 x1.kind] XN rfl rfl rfl rfl rfl ?_
  refine WL.alloc hS1 XN rfl rfl (fun b1 w2 hn1 hS2=>?_)
  refine WL.store hS2 0 _ _ _ 0 _ [Zc x1.name, .int .i64 x1.kind] [Zc x1.name, .int .i64 x1.kind] _ rfl rfl XN rfl (Nat.le_of_ble_eq_true rfl) rfl rfl rfl rfl rfl rfl (fun w3 hS3=>?_)
  obtain ⟨G2,hle2,hc2,hS4⟩:=hS3.shutB hn1
  refine WL.indexAddr (hvb.mono (hle1.trans hle2)) k1 (by omega) Yz Ye rfl rfl rfl rfl (fun p2 x2 hx2 he2=>?_)
  obtain ⟨cs2,hc3,hr2⟩:=he2
  obtain ⟨rfl,hb3,hb4,hb5⟩:=Y4 hr2
  refine Zd hS4 hc3 [.int .i64 x2.k, .int .i64 x2.n,Zc x2.s] Ye rfl rfl rfl rfl rfl ?_
  refine WL.alloc hS4 Ye rfl rfl (fun b2 w4 hn2 hS5=>?_)
  refine WL.store hS5 0 _ _ _ 0 _ [.int .i64 x2.k, .int .i64 x2.n,Zc x2.s] [.int .i64 x2.k, .int .i64 x2.n,Zc x2.s] _ rfl rfl Ye rfl (Nat.le_of_ble_eq_true rfl) rfl rfl rfl rfl rfl rfl (fun w5 hS6=>?_)
  obtain ⟨G3,hle3,hc4,hS7⟩:=hS6.shutB hn2
  refine Zd hS7 (hc2.mono hle3) [Zc x1.name, .int .i64 x1.kind] XN rfl rfl rfl rfl rfl <| Zd hS7 hc4 [.int .i64 x2.k, .int .i64 x2.n,Zc x2.s] Ye rfl rfl rfl rfl rfl ?_
  refine Zn hS7 hf.body rfl rfl rfl (hf.call _ _ (.agg #[Zc x1.name, .int .i64 x1.kind]) (.agg #[.int .i64 x2.k, .int .i64 x2.n,Zc x2.s]) x1 x2 ((hle1.trans hle2).trans hle3) hS7.imm ⟨(List.mem_of_getElem? hx1),(List.mem_of_getElem? hx2)⟩ ⟨_,rfl,(Zhj x1 hb1 hb2)⟩ ⟨_,rfl,(Qs x2 hb3 hb4 hb5)⟩) (fun w6 G4 hS8 hle4=>?_)
  refine WL.split (fun (h3 : (pf x1 x2) = true)=>?_) (fun (h3 : (pf x1 x2) = false)=>?_)
  ·refine Zj k1 (by have hreach : reach = 140737488355328:=rfl; omega) rfl rfl rfl ?_
   exact BK.mk' _ ⟨k1 + 1,G4,rfl,(hle1.trans ((hle2.trans hle3).trans hle4)),hS8,⟨rfl,rfl,rfl,rfl,rfl,trivial⟩,(by omega),(by exact Zar ‹_› ‹_› ‹_› (by simp_all))⟩ (show a.length - (k1 + 1) < a.length - k1 by omega)
  exact RB hS8 rfl (by exact (Zd7 ‹_› ‹_› (by simp_all)).symm)
 exact RB hS1 rfl (by exact (Zd8 (by omega) ‹_› (by omega)).symm)
theorem Zog {G : GH} {w : World} (hG : G.In w) (s : Schema) (v : List Val) (cs : List Value) (hcs : SchemaE.rep G s cs) (vv : Value) (hvv : Sl ValE 32 G vv v) : CL Tryz.prog (nat_lit 63) #[.agg cs.toArray,vv] [] w G fun _ _ r=>r = .int .i64 (Xg s v):=by
 refine Zh ft [] Tryz.func63 rfl rfl ?_
 have hS:=St.start (X:=[]) hG
 obtain ⟨v1,v2,rfl,hb1,hs1,hb2,hs2⟩:=Yk hcs
 refine Z3 [Zc s.name,v1, .int .i64 s.key,v2] _ hS rfl rfl rfl (fun p1 w1 G1 hle1 hsp1 hc1 hS1=>?_)
 refine Zd hS1 hc1 [Zc s.name,v1, .int .i64 s.key,v2] Y5 rfl rfl rfl rfl rfl ?_
 refine Zn hS1 ZlS rfl rfl rfl (Zem hS1.imm s _ (Yg s hb1 (hs1.mono hle1) hb2 (hs2.mono hle1))) (fun w2 G2 hS2 hle2=>?_)
 refine WL.split (fun (h1 : (Yu s) = true)=>?_) (fun (h1 : (Yu s) = false)=>?_)
 ·refine Zn hS2 Zma rfl rfl rfl (Zdu hS2.imm v (fun x8=>!ZK x8) _ (hvv.mono (hle1.trans hle2)) 123 #[] ⟨Zul,fun G8 w8 v8 x8 hle8 hG8 hon8 hA8=>by obtain ⟨cs_x8,rfl,hr_x8⟩:=hA8; exact Zsb hG8 x8 cs_x8 hr_x8⟩) (fun w3 G3 hS3 hle3=>?_)
  refine WL.split (fun (h2 : (v.any (fun x8=>!ZK x8)) = true)=>?_) (fun (h2 : (v.any (fun x8=>!ZK x8)) = false)=>?_)
  ·exact RI hS3 rfl (by exact (Ztf ‹_›).symm)
  refine Za hS3 (XL.drop 1 (hc1.mono (hle2.trans hle3))) Zce rfl rfl rfl ?_
  refine Zn hS3 Zum rfl rfl rfl (Zof hS3.imm s.cols v (fun x8 y8=>decide (x8.kind = y8.k)) _ (hs1.mono ((hle1.trans hle2).trans hle3)) _ (hvv.mono ((hle1.trans hle2).trans hle3)) 126 #[] ⟨Zun,fun G8 w8 v8 u8 x8 y8 hle8 hG8 hon8 hA8 hB8=>by obtain ⟨cs_x8,rfl,hr_x8⟩:=hA8; obtain ⟨cs_y8,rfl,hr_y8⟩:=hB8; exact Zsc hG8 x8 y8 cs_x8 hr_x8 cs_y8 hr_y8⟩) (fun w4 G4 hS4 hle4=>?_)
  refine WL.split (fun (h3 : (QI (fun x8 y8=>decide (x8.kind = y8.k)) s.cols v) = true)=>?_) (fun (h3 : (QI (fun x8 y8=>decide (x8.kind = y8.k)) s.cols v) = false)=>?_)
  ·exact RI hS4 rfl (by exact (Ztg ‹_› ‹_› ‹_›).symm)
  exact RI hS4 rfl (by exact (Zr7 ‹_› ‹_› ‹_›).symm)
 exact RI hS2 rfl (by exact (Zte ‹_›).symm)
end Go.Civ
