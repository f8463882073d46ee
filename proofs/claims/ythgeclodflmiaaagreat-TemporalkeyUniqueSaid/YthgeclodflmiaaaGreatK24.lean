/- Lemmas. -/
import Derived.Test.YthgeclodflmiaaaGreatK14
import Derived.Test.YthgeclodflmiaaaGreatK18
import Derived.Test.YthgeclodflmiaaaGreatK23
import Derived.Test.YthgeclodflmiaaaGreatProg
import Derived.KernelRfl
import Derived.WalkKit
set_option linter.unusedVariables false
set_option linter.unusedSimpArgs false
set_option maxRecDepth 100000
set_option maxHeartbeats 4000000
namespace Go.Civ
open Go.Proofs
theorem c_Encode {G : GH} {w : World} (hG : G.In w) (l : List Val) (vl : Value) (hvl : Sl ValE 32 G vl l) : CL Tryz.prog (nat_lit 184) #[vl] [] w G fun G' _ r=>∃ r0 r1,r = .tuple #[r0,r1] ∧ Sl Enc.u8 1 G' r0 (keyE l) ∧ r1 = .int .i64 (encE l):=by
 refine calls_of_go ft [] Tryz.func184 rfl rfl ?_
 have hS:=St.start (X:=[]) hG
 have bd1:=hvl.bound
 refine WL.lenSl hvl ul31 rfl rfl ?_
 refine WL.gtrS (l.length : Int) 1000 rfl rfl rfl (fun h1=>?_) (fun h1=>?_)
 ·exact RT hS rfl ⟨_,_,rfl,(Sl.cast (Sl.nil Enc.u8 1 G) (by exact (keyE_no1 (by omega)).symm)),(congrArg (Value.int .i64) (by exact (encE_5 (by omega)).symm))⟩
 refine WL.cV hS hb163 rfl rfl rfl (c_all hS.imm l _ hvl) (fun w1 G1 hS1 hle1=>?_)
 refine WL.split (fun (h2 : (l.all valB) = true)=>?_) (fun (h2 : (l.all valB) = false)=>?_)
 ·have hbl:=(by assumption : Sl ValE 32 G _ l).bound
  have bd2:=hvl.bound
  refine WL.lenSl (hvl.mono hle1) ul31 rfl rfl ?_
  refine WL.mulN 9 l.length (by have hreach : reach = 140737488355328:=rfl; omega) rfl rfl rfl ?_
  refine WL.makeRow (E:=Enc.u8) (by_:=1) sl220 rfl rfl (9 * l.length) (by have hreach : reach = 140737488355328:=rfl; omega) (by have hreach : reach = 140737488355328:=rfl; omega) hS1 rfl rfl rfl (fun v1 o1 w2 hr1 hS2=>?_)
  have bd3:=hvl.bound
  refine WL.lenSl (hvl.mono hle1) ul31 rfl rfl ?_
  refine LP.go ft [] (fun m ρ1 w1=>∃ (k1 : Nat),∃ (v2 : Value) (o2 : OB),∃ (G2 : GH),m = l.length - k1 ∧ G1.le G2 ∧ St w [] G G2 [o2] w1 ∧ Row Enc.u8 1 5 G2 v2 (encL (l.take k1)) o2 ∧ FR ρ1 [(4,v2),(19,vl),(20, .int .i64 (l.length : Int)),(21, .int .i64 (k1 : Int))] ∧ k1 ≤ l.length) _ ⟨0,v1,o1,G1,rfl,(G1.le_refl),hS2,(Row.cast hr1 (by rfl)),⟨rfl,rfl,rfl,rfl,trivial⟩,(by omega)⟩ ?_
  rintro m ρ1 w3 ⟨k1,v2,o2,G2,rfl,hle2,hS3,hr2,hF9,f1⟩
  refine hF9.set ?_
  clear hF9
  refine WL.lssS (k1 : Int) (l.length : Int) rfl rfl rfl (fun h3=>?_) (fun h3=>?_)
  ·refine WL.indexAddr (hvl.mono (hle1.trans hle2)) k1 (by omega) ul31 ti58 rfl rfl rfl rfl (fun p1 x1 hx1 he1=>?_)
   obtain ⟨cs1,hc1,hr3⟩:=he1
   obtain ⟨rfl,hb1,hb2,hb3⟩:=ValE_open hr3
   refine WL.loadGAt hS3 hc1 [.int .i64 x1.k, .int .i64 x1.n,strV x1.s] ti58 rfl rfl rfl rfl rfl ?_
   refine WL.alloc hS3 ti58 rfl rfl (fun b1 w4 hn1 hS4=>?_)
   refine WL.store hS4 0 _ _ _ 0 _ [.int .i64 x1.k, .int .i64 x1.n,strV x1.s] [.int .i64 x1.k, .int .i64 x1.n,strV x1.s] _ rfl rfl ti58 rfl (Nat.le_of_ble_eq_true rfl) rfl rfl rfl rfl rfl rfl (fun w5 hS5=>?_)
   obtain ⟨G3,hle3,hc2,hS6⟩:=hS5.shutB hn1
   have hvx:=all_at (by assumption : l.all valB = true) (by assumption : l[k1]? = some _)
   obtain ⟨hvk,hvb,hvt⟩:=valB_u8 hvx
   have hel:=encT_len (k:=k1) (by assumption : l.all valB = true) (by assumption)
   refine WL.loadG1 hS6 (Cells.drop 0 hc2) ti3 rfl rfl rfl ?_
   refine WL.toU8 x1.k (by assumption) ul3 ul5 rfl rfl ?_
   refine WL.buildSlice _ [(0,[.int .u8 ((UInt8.ofNat x1.k.toNat).toNat : Int)])] [.int .u8 ((UInt8.ofNat x1.k.toNat).toNat : Int)] hS6 sl220 rfl rfl rfl rfl (fun z hz=>by match z,hz with | [z0],_=>rfl) (fun b2 w6 hn2 hS7=>?_)
   refine WL.push (m:=([(UInt8.ofNat x1.k.toNat)] : List UInt8)) sl220 rfl rfl rfl (hr2.mono hle3) hS7 1 rfl 0 _ _ _ _ _ rfl ⟨[.int .u8 ((UInt8.ofNat x1.k.toNat).toNat : Int)],_,rfl,rfl,rfl⟩ rfl (by have hreach : reach = 140737488355328:=rfl; (simp only [List.length_append,List.length_cons,List.length_nil]; omega)) (by have hreach : reach = 140737488355328:=rfl; (simp only [List.length_append,List.length_cons,List.length_nil]; omega)) rfl rfl rfl (fun v3 o3 w7 hr4 hS8=>?_)
   have hS9:=hS8.tail
   refine WL.loadG1 hS9 (Cells.drop 0 hc2) ti3 rfl rfl rfl ?_
   refine WL.eqlS x1.k 2 rfl rfl rfl (fun h4=>?_) (fun h4=>?_)
   ·refine WL.loadG1 hS9 (Cells.drop 2 hc2) ti9 rfl rfl rfl ?_
    refine WL.pushStr sl220 ul9 rfl rfl rfl hr4 hS9 0 rfl (by simp) (by have hreach : reach = 140737488355328:=rfl; (simp only [List.length_append,List.length_cons,List.length_nil]; omega)) rfl rfl rfl (fun v4 o4 w9 hr5 hS10=>?_)
    refine WL.buildSlice _ [(0,[.int .u8 0])] [.int .u8 0] hS10 sl220 rfl rfl rfl rfl (fun z hz=>by match z,hz with | [z0],_=>rfl) (fun b3 w10 hn3 hS11=>?_)
    refine WL.push (m:=([(0 : UInt8)] : List UInt8)) sl220 rfl rfl rfl hr5 hS11 1 rfl 0 _ _ _ _ _ rfl ⟨[.int .u8 0],_,rfl,rfl,rfl⟩ rfl (by have hreach : reach = 140737488355328:=rfl; (simp only [List.length_append,List.length_cons,List.length_nil]; omega)) (by have hreach : reach = 140737488355328:=rfl; (simp only [List.length_append,List.length_cons,List.length_nil]; omega)) rfl rfl rfl (fun v5 o5 w11 hr6 hS12=>?_)
    have hS13:=hS12.tail
    refine WL.incr k1 (by have hreach : reach = 140737488355328:=rfl; omega) rfl rfl rfl ?_
    exact BK.mk' _ ⟨k1 + 1,v5,o5,G3,rfl,(hle2.trans hle3),hS13,(Row.cast hr6 (by (rw [encL_take (by assumption)]; (rw [encV_text (by assumption)]; simp only [List.append_assoc])))),⟨rfl,rfl,rfl,rfl,trivial⟩,(by omega)⟩ (show l.length - (k1 + 1) < l.length - k1 by omega)
   refine WL.eqlS x1.k 3 rfl rfl rfl (fun h5=>?_) (fun h5=>?_)
   ·refine WL.loadG1 hS9 (Cells.drop 1 hc2) ti3 rfl rfl rfl ?_
    refine WL.toU8 x1.n (by exact hvb (by assumption)) ul3 ul5 rfl rfl ?_
    refine WL.buildSlice _ [(0,[.int .u8 ((UInt8.ofNat x1.n.toNat).toNat : Int)])] [.int .u8 ((UInt8.ofNat x1.n.toNat).toNat : Int)] hS9 sl220 rfl rfl rfl rfl (fun z hz=>by match z,hz with | [z0],_=>rfl) (fun b4 w12 hn4 hS14=>?_)
    refine WL.push (m:=([(UInt8.ofNat x1.n.toNat)] : List UInt8)) sl220 rfl rfl rfl hr4 hS14 1 rfl 0 _ _ _ _ _ rfl ⟨[.int .u8 ((UInt8.ofNat x1.n.toNat).toNat : Int)],_,rfl,rfl,rfl⟩ rfl (by have hreach : reach = 140737488355328:=rfl; (simp only [List.length_append,List.length_cons,List.length_nil]; omega)) (by have hreach : reach = 140737488355328:=rfl; (simp only [List.length_append,List.length_cons,List.length_nil]; omega)) rfl rfl rfl (fun v6 o6 w13 hr7 hS15=>?_)
    have hS16:=hS15.tail
    refine WL.incr k1 (by have hreach : reach = 140737488355328:=rfl; omega) rfl rfl rfl ?_
    exact BK.mk' _ ⟨k1 + 1,v6,o6,G3,rfl,(hle2.trans hle3),hS16,(Row.cast hr7 (by (rw [encL_take (by assumption)]; (rw [encV_bool (by assumption)]; simp only [List.append_assoc])))),⟨rfl,rfl,rfl,rfl,trivial⟩,(by omega)⟩ (show l.length - (k1 + 1) < l.length - k1 by omega)
   refine WL.loadG1 hS9 (Cells.drop 1 hc2) ti3 rfl rfl rfl <| WL.toU64m x1.n ul3 ul245 rfl rfl <| WL.xorU x1.n hb2 rfl rfl rfl ?_
   refine LP.go ft [] (fun m ρ1 w1=>∃ (j : Nat),∃ (i : Int),∃ (v7 : Value) (o7 : OB),∃ (G4 : GH),m = (8 - j) ∧ G3.le G4 ∧ St w [] G G4 [o7] w1 ∧ Row Enc.u8 1 5 G4 v7 ((encL (l.take k1) ++ [UInt8.ofNat x1.k.toNat]) ++ encP x1.n j) o7 ∧ FR ρ1 [(4,v7),(7, .int .u64 ((u63 x1.n : Nat) : Int)),(8, .int .i64 i),(19,vl),(20, .int .i64 (l.length : Int)),(21, .int .i64 (k1 : Int))] ∧ j ≤ 8 ∧ i = 56 - 8 * (j : Int)) _ ⟨0,56,v3,o3,G3,rfl,(G3.le_refl),hS9,(Row.cast hr4 (by simp [encP])),⟨rfl,rfl,rfl,rfl,rfl,rfl,trivial⟩,(by omega),(by omega)⟩ ?_
   rintro m ρ1 w14 ⟨j,i,v7,o7,G4,rfl,hle4,hS17,hr8,hF9,f2,f3⟩
   refine hF9.set ?_
   clear hF9
   have hpl:=@encP_len x1.n j
   refine WL.geqS i 0 rfl rfl rfl (fun h6=>?_) (fun h6=>?_)
   ·refine WL.shrU (u63 x1.n) i (by omega) (by omega) rfl rfl rfl ?_
    refine WL.toU8 ((((u63 x1.n) / 2 ^ i.toNat) : Nat) : Int) (by exact Int.natCast_nonneg _) ul245 ul5 rfl rfl ?_
    refine WL.buildSlice _ [(0,[.int .u8 ((UInt8.ofNat ((((u63 x1.n) / 2 ^ i.toNat) : Nat) : Int).toNat).toNat : Int)])] [.int .u8 ((UInt8.ofNat ((((u63 x1.n) / 2 ^ i.toNat) : Nat) : Int).toNat).toNat : Int)] hS17 sl220 rfl rfl rfl rfl (fun z hz=>by match z,hz with | [z0],_=>rfl) (fun b5 w15 hn5 hS18=>?_)
    refine WL.push (m:=([(UInt8.ofNat ((((u63 x1.n) / 2 ^ i.toNat) : Nat) : Int).toNat)] : List UInt8)) sl220 rfl rfl rfl hr8 hS18 1 rfl 0 _ _ _ _ _ rfl ⟨[.int .u8 ((UInt8.ofNat ((((u63 x1.n) / 2 ^ i.toNat) : Nat) : Int).toNat).toNat : Int)],_,rfl,rfl,rfl⟩ rfl (by have hreach : reach = 140737488355328:=rfl; (simp only [List.length_append,List.length_cons,List.length_nil]; omega)) (by have hreach : reach = 140737488355328:=rfl; (simp only [List.length_append,List.length_cons,List.length_nil]; omega)) rfl rfl rfl (fun v9 o8 w16 hr9 hS19=>?_)
    have hS20:=hS19.tail
    have hi1 : I64 (i - 8):=by constructor <;> omega
    refine WL.ar .sub rfl i 8 rfl rfl rfl hi1 ?_
    exact BK.mk' _ ⟨j + 1,(i - 8),v9,o8,G4,rfl,hle4,hS20,(Row.cast hr9 (by (rw [encP_step (by assumption) (by assumption)]; simp only [List.append_assoc]))),⟨rfl,rfl,rfl,rfl,rfl,rfl,trivial⟩,(by omega),(by omega)⟩ (show (8 - (j + 1)) < (8 - j) by omega)
   refine WL.incr k1 (by have hreach : reach = 140737488355328:=rfl; omega) rfl rfl rfl ?_
   exact BK.mk' _ ⟨k1 + 1,v7,o7,G4,rfl,(hle2.trans (hle3.trans hle4)),hS17,(Row.cast hr8 (by (rw [encL_take (by assumption)]; (rw [encV_num (by assumption) (by assumption),encP_all (by omega)]; simp only [List.append_assoc])))),⟨rfl,rfl,rfl,rfl,trivial⟩,(by omega)⟩ (show l.length - (k1 + 1) < l.length - k1 by omega)
  obtain ⟨G5,hle5,hs1,hS21⟩:=Row.freeze hr2 hS3 0 rfl
  exact RT hS21 rfl ⟨_,_,rfl,(Sl.cast hs1 (by (rw [List.take_of_length_le (by omega)]; exact (keyE_yes (by omega) (by assumption)).symm))),(congrArg (Value.int .i64) (by exact (encE_0 (by omega) (by assumption)).symm))⟩
 exact RT hS1 rfl ⟨_,_,rfl,(Sl.cast (Sl.nil Enc.u8 1 G1) (by exact (keyE_no2 (by assumption)).symm)),(congrArg (Value.int .i64) (by exact (encE_1 (by omega) (by assumption)).symm))⟩
theorem c_key {G : GH} {w : World} (hG : G.In w) (l : List Val) (vl : Value) (hvl : Sl ValE 32 G vl l) : CL Tryz.prog (nat_lit 137) #[vl] [] w G fun _ _ r=>r = strV (keyE l):=by
 refine calls_of_go ft [] Tryz.func137 rfl rfl ?_
 have hS:=St.start (X:=[]) hG
 refine WL.cA hS hb184 rfl rfl rfl (c_Encode hS.imm l _ hvl) ?_
 rintro w1 G1 _ ⟨r2,_,rfl,hs1,rfl⟩ hS1 hle1
 refine WL.bytesStr hs1 hS1 ul220 ul5 ul9 rfl rfl ?_
 exact RT hS1 rfl (congrArg strV (by rfl))
end Go.Civ
set_option linter.unusedVariables false
set_option linter.unusedSimpArgs false
set_option maxRecDepth 100000
set_option maxHeartbeats 4000000
namespace Go.Civ
open Go.Proofs
theorem c_rCompare {G : GH} {w : World} (hG : G.In w) (x y : Val) (cx : List Value) (hcx : ValE.rep G x cx) (cy : List Value) (hcy : ValE.rep G y cy) : CL Tryz.prog (nat_lit 213) #[.agg cx.toArray, .agg cy.toArray] [] w G fun _ _ r=>r = .int .i64 (cmpV x y):=by
 refine calls_of_go ft [] Tryz.func213 rfl rfl ?_
 have hS:=St.start (X:=[]) hG
 obtain ⟨rfl,hb1,hb2,hb3⟩:=ValE_open hcx
 obtain ⟨rfl,hb4,hb5,hb6⟩:=ValE_open hcy
 refine WL.boxG [.int .i64 x.k, .int .i64 x.n,strV x.s] _ hS rfl rfl rfl (fun p1 w1 G1 hle1 hsp1 hc1 hS1=>?_)
 refine WL.boxG [.int .i64 y.k, .int .i64 y.n,strV y.s] _ hS1 rfl rfl rfl (fun p2 w2 G2 hle2 hsp2 hc2 hS2=>?_)
 refine WL.loadG1 hS2 (Cells.drop 0 (hc1.mono hle2)) ti3 rfl rfl rfl <| WL.loadG1 hS2 (Cells.drop 0 hc2) ti3 rfl rfl rfl ?_
 refine WL.neqS x.k y.k rfl rfl rfl (fun h1=>?_) (fun h1=>?_)
 ·refine WL.loadG1 hS2 (Cells.drop 0 (hc1.mono hle2)) ti3 rfl rfl rfl <| WL.loadG1 hS2 (Cells.drop 0 hc2) ti3 rfl rfl rfl ?_
  refine WL.cV hS2 hb214 rfl rfl rfl (c_sign hS2.imm x.k y.k) (fun w3 G3 hS3 hle3=>?_)
  exact RI hS3 rfl (by exact (cmpV_k (by assumption)).symm)
 refine WL.loadG1 hS2 (Cells.drop 1 (hc1.mono hle2)) ti3 rfl rfl rfl <| WL.loadG1 hS2 (Cells.drop 1 hc2) ti3 rfl rfl rfl ?_
 refine WL.neqS x.n y.n rfl rfl rfl (fun h2=>?_) (fun h2=>?_)
 ·refine WL.loadG1 hS2 (Cells.drop 1 (hc1.mono hle2)) ti3 rfl rfl rfl <| WL.loadG1 hS2 (Cells.drop 1 hc2) ti3 rfl rfl rfl ?_
  refine WL.cV hS2 hb214 rfl rfl rfl (c_sign hS2.imm x.n y.n) (fun w4 G4 hS4 hle4=>?_)
  exact RI hS4 rfl (by exact (cmpV_n (by assumption) (by assumption)).symm)
 refine LP.go ft [] (fun m ρ1 w1=>∃ (k1 : Nat),∃ (G5 : GH),m = x.s.length - k1 ∧ G2.le G5 ∧ St w [] G G5 [] w1 ∧ FR ρ1 [(2, .pointer (some p1)),(3, .pointer (some p2)),(5, .int .i64 (k1 : Int))] ∧ k1 ≤ x.s.length ∧ ∀ j,j < k1 → ∀ c d,x.s[j]? = some c → y.s[j]? = some d → c = d) _ ⟨0,G2,rfl,(G2.le_refl),hS2,⟨rfl,rfl,rfl,trivial⟩,(by omega),(by intro j hj; omega)⟩ ?_
 rintro m ρ1 w5 ⟨k1,G5,rfl,hle5,hS5,hF9,f1,f2⟩
 refine hF9.set ?_
 clear hF9
 refine WL.loadG1 hS5 (Cells.drop 2 (hc1.mono (hle2.trans hle5))) ti9 rfl rfl rfl <| WL.lenStr x.s ul9 rfl rfl ?_
 refine WL.lssS (k1 : Int) (x.s.length : Int) rfl rfl rfl (fun h3=>?_) (fun h3=>?_)
 ·refine WL.loadG1 hS5 (Cells.drop 2 (hc2.mono hle5)) ti9 rfl rfl rfl <| WL.lenStr y.s ul9 rfl rfl ?_
  refine WL.lssS (k1 : Int) (y.s.length : Int) rfl rfl rfl (fun h4=>?_) (fun h4=>?_)
  ·obtain ⟨c1,hx1⟩ : ∃ c,x.s[k1]? = some c:=⟨_,List.getElem?_eq_getElem (by omega)⟩
   obtain ⟨c2,hx2⟩ : ∃ c,y.s[k1]? = some c:=⟨_,List.getElem?_eq_getElem (by omega)⟩
   rcases Cmp.dec .neq (c1.toNat : Int) (c2.toNat : Int) with ⟨hb7,q1⟩ | ⟨hb7,q1⟩
   ·have h5 : (c1.toNat : Int) ≠ (c2.toNat : Int):=q1
    clear q1
    refine dr [] [(41,strV x.s),(43, .int .u8 (c1.toNat : Int)),(45,strV y.s),(47, .int .u8 (c2.toNat : Int)),(48, .bool true)] hS5 ⟨fun _ hSw=>WL.loadG1 hSw (Cells.drop 2 (hc1.mono (hle2.trans hle5))) ti9 rfl rfl rfl <| nu rfl rfl,fun _=>WL.indexStrP x.s k1 c1 hx1 ul9 rfl rfl rfl <| nu rfl rfl,fun _ hSw=>WL.loadG1 hSw (Cells.drop 2 (hc2.mono hle5)) ti9 rfl rfl rfl <| nu rfl rfl,fun _=>WL.indexStrP y.s k1 c2 hx2 ul9 rfl rfl rfl <| nu rfl rfl,fun _=>WL.cmpV .neq rfl .u8 (c1.toNat : Int) (c2.toNat : Int) _ hb7 rfl rfl rfl <| nu rfl rfl,trivial⟩ (fun w6 hS6=>?_)
    obtain ⟨c3,hx3⟩ : ∃ c,x.s[k1]? = some c:=⟨_,List.getElem?_eq_getElem (by omega)⟩
    obtain rfl : c1 = c3:=Option.some.inj (hx1.symm.trans hx3)
    obtain ⟨c4,hx4⟩ : ∃ c,y.s[k1]? = some c:=⟨_,List.getElem?_eq_getElem (by omega)⟩
    obtain rfl : c2 = c4:=Option.some.inj (hx2.symm.trans hx4)
    refine dr [(11,false)] [(50,strV x.s),(52, .int .u8 (c1.toNat : Int)),(53, .int .i64 (c1.toNat : Int)),(55,strV y.s),(57, .int .u8 (c2.toNat : Int)),(58, .int .i64 (c2.toNat : Int)),(59, .int .i64 (sgn (c1.toNat : Int) (c2.toNat : Int)))] hS6 ⟨fun _ hSw=>WL.loadG1 hSw (Cells.drop 2 (hc1.mono (hle2.trans hle5))) ti9 rfl rfl rfl <| nu rfl rfl,fun _=>WL.indexStrP x.s k1 c1 hx1 ul9 rfl rfl rfl <| nu rfl rfl,fun _=>WL.u8int (c1.toNat : Int) ul5 ul3 (u8bd c1) rfl rfl <| nu rfl rfl,fun _ hSw=>WL.loadG1 hSw (Cells.drop 2 (hc2.mono hle5)) ti9 rfl rfl rfl <| nu rfl rfl,fun _=>WL.indexStrP y.s k1 c2 hx2 ul9 rfl rfl rfl <| nu rfl rfl,fun _=>WL.u8int (c2.toNat : Int) ul5 ul3 (u8bd c2) rfl rfl <| nu rfl rfl,fun _ hSw=>WL.callD hSw hb214 rfl rfl rfl (c_sign hSw.imm (c1.toNat : Int) (c2.toNat : Int)) rfl,trivial⟩ (fun w7 hS7=>?_)
    exact RI hS7 rfl (by (rw [cmpV_s (by assumption) (by assumption)]; first | exact (cmpS_at (by assumption) (by assumption) (by assumption) (by assumption)).symm | exact (cmpS_end (by assumption) (by omega)).symm))
   have h5 : (c1.toNat : Int) = (c2.toNat : Int):=q1
   clear q1
   refine dr [] [(41,strV x.s),(43, .int .u8 (c1.toNat : Int)),(45,strV y.s),(47, .int .u8 (c2.toNat : Int)),(48, .bool false)] hS5 ⟨fun _ hSw=>WL.loadG1 hSw (Cells.drop 2 (hc1.mono (hle2.trans hle5))) ti9 rfl rfl rfl <| nu rfl rfl,fun _=>WL.indexStrP x.s k1 c1 hx1 ul9 rfl rfl rfl <| nu rfl rfl,fun _ hSw=>WL.loadG1 hSw (Cells.drop 2 (hc2.mono hle5)) ti9 rfl rfl rfl <| nu rfl rfl,fun _=>WL.indexStrP y.s k1 c2 hx2 ul9 rfl rfl rfl <| nu rfl rfl,fun _=>WL.cmpV .neq rfl .u8 (c1.toNat : Int) (c2.toNat : Int) _ hb7 rfl rfl rfl <| nu rfl rfl,trivial⟩ (fun w9 hS8=>?_)
   refine WL.incr k1 (by have hreach : reach = 140737488355328:=rfl; omega) rfl rfl rfl ?_
   exact BK.mk' _ ⟨k1 + 1,G5,rfl,hle5,hS8,⟨rfl,rfl,rfl,trivial⟩,(by omega),(by exact lt_step2 (by assumption) (by assumption) (by assumption) (u8_eq (by assumption)))⟩ (show x.s.length - (k1 + 1) < x.s.length - k1 by omega)
  refine WL.loadG1 hS5 (Cells.drop 2 (hc1.mono (hle2.trans hle5))) ti9 rfl rfl rfl <| WL.lenStr x.s ul9 rfl rfl <| WL.loadG1 hS5 (Cells.drop 2 (hc2.mono hle5)) ti9 rfl rfl rfl <| WL.lenStr y.s ul9 rfl rfl ?_
  refine WL.cV hS5 hb214 rfl rfl rfl (c_sign hS5.imm (x.s.length : Int) (y.s.length : Int)) (fun w10 G6 hS9 hle6=>?_)
  exact RI hS9 rfl (by (rw [cmpV_s (by assumption) (by assumption)]; first | exact (cmpS_at (by assumption) (by assumption) (by assumption) (by assumption)).symm | exact (cmpS_end (by assumption) (by omega)).symm))
 refine WL.loadG1 hS5 (Cells.drop 2 (hc1.mono (hle2.trans hle5))) ti9 rfl rfl rfl <| WL.lenStr x.s ul9 rfl rfl <| WL.loadG1 hS5 (Cells.drop 2 (hc2.mono hle5)) ti9 rfl rfl rfl <| WL.lenStr y.s ul9 rfl rfl ?_
 refine WL.cV hS5 hb214 rfl rfl rfl (c_sign hS5.imm (x.s.length : Int) (y.s.length : Int)) (fun w11 G7 hS10 hle7=>?_)
 exact RI hS10 rfl (by (rw [cmpV_s (by assumption) (by assumption)]; first | exact (cmpS_at (by assumption) (by assumption) (by assumption) (by assumption)).symm | exact (cmpS_end (by assumption) (by omega)).symm))
theorem c_rOrder {G : GH} {w : World} (hG : G.In w) (a b : List Val) (va : Value) (hva : Sl ValE 32 G va a) (vb : Value) (hvb : Sl ValE 32 G vb b) : CL Tryz.prog (nat_lit 179) #[va,vb] [] w G fun _ _ r=>r = .int .i64 (cmpL cmpV a b):=by
 refine calls_of_go ft [] Tryz.func179 rfl rfl ?_
 have hS:=St.start (X:=[]) hG
 refine LP.go ft [] (fun m ρ1 w1=>∃ (k1 : Nat),∃ (G1 : GH),m = a.length - k1 ∧ G.le G1 ∧ St w [] G G1 [] w1 ∧ FR ρ1 [(0,va),(1,vb),(5, .int .i64 (k1 : Int))] ∧ k1 ≤ a.length ∧ ∀ j,j < k1 → ∀ x y,a[j]? = some x → b[j]? = some y → cmpV x y = 0) _ ⟨0,G,rfl,(G.le_refl),hS,⟨rfl,rfl,rfl,trivial⟩,(by omega),(by intro j hj; omega)⟩ ?_
 rintro m ρ1 w1 ⟨k1,G1,rfl,hle1,hS1,hF9,f1,f2⟩
 refine hF9.set ?_
 clear hF9
 have bd1:=hva.bound
 refine WL.lenSl (hva.mono hle1) ul31 rfl rfl ?_
 refine WL.lssS (k1 : Int) (a.length : Int) rfl rfl rfl (fun h1=>?_) (fun h1=>?_)
 ·have bd2:=hvb.bound
  refine WL.lenSl (hvb.mono hle1) ul31 rfl rfl ?_
  refine WL.lssS (k1 : Int) (b.length : Int) rfl rfl rfl (fun h2=>?_) (fun h2=>?_)
  ·obtain ⟨p1,x1,hx1,he1,ep1⟩:=Sl.at (hva.mono hle1) k1 (by omega)
   obtain ⟨cs1,hc1,hr1⟩:=he1
   obtain ⟨rfl,hb1,hb2,hb3⟩:=ValE_open hr1
   obtain ⟨p2,x2,hx2,he2,ep2⟩:=Sl.at (hvb.mono hle1) k1 (by omega)
   obtain ⟨cs2,hc2,hr2⟩:=he2
   obtain ⟨rfl,hb4,hb5,hb6⟩:=ValE_open hr2
   refine dr [(9,false)] [(21, .pointer (some p1)),(22, .agg #[.int .i64 x1.k, .int .i64 x1.n,strV x1.s]),(25, .pointer (some p2)),(26, .agg #[.int .i64 x2.k, .int .i64 x2.n,strV x2.s]),(27, .int .i64 (cmpV x1 x2))] hS1 ⟨fun _=>WL.indexAddrP k1 ep1 ul31 ti58 rfl rfl rfl rfl <| nu rfl rfl,fun _ hSw=>WL.loadGAt hSw hc1 [.int .i64 x1.k, .int .i64 x1.n,strV x1.s] ti58 rfl rfl rfl rfl rfl <| nu rfl rfl,fun _=>WL.indexAddrP k1 ep2 ul31 ti58 rfl rfl rfl rfl <| nu rfl rfl,fun _ hSw=>WL.loadGAt hSw hc2 [.int .i64 x2.k, .int .i64 x2.n,strV x2.s] ti58 rfl rfl rfl rfl rfl <| nu rfl rfl,fun _ hSw=>WL.callD hSw hb213 rfl rfl rfl (c_rCompare hSw.imm x1 x2 _ (ValE_mk x1 hb1 hb2 hb3) _ (ValE_mk x2 hb4 hb5 hb6)) rfl,trivial⟩ (fun w2 hS2=>?_)
   refine WL.neqS (cmpV x1 x2) 0 rfl rfl rfl (fun h3=>?_) (fun h3=>?_)
   ·exact RI hS2 rfl (by exact (cmpL_at (by assumption) (by assumption) (by assumption) (by assumption)).symm)
   refine WL.incr k1 (by have hreach : reach = 140737488355328:=rfl; omega) rfl rfl rfl ?_
   exact BK.mk' _ ⟨k1 + 1,G1,rfl,hle1,hS2,⟨rfl,rfl,rfl,trivial⟩,(by omega),(by exact lt_step2 (by assumption) (by assumption) (by assumption) (by assumption))⟩ (show a.length - (k1 + 1) < a.length - k1 by omega)
  have bd3:=hva.bound
  refine WL.lenSl (hva.mono hle1) ul31 rfl rfl ?_
  have bd4:=hvb.bound
  refine WL.lenSl (hvb.mono hle1) ul31 rfl rfl ?_
  refine WL.cV hS1 hb214 rfl rfl rfl (c_sign hS1.imm (a.length : Int) (b.length : Int)) (fun w3 G2 hS3 hle2=>?_)
  exact RI hS3 rfl (by exact (cmpL_end' (by assumption) (by omega)).symm)
 have bd5:=hva.bound
 refine WL.lenSl (hva.mono hle1) ul31 rfl rfl ?_
 have bd6:=hvb.bound
 refine WL.lenSl (hvb.mono hle1) ul31 rfl rfl ?_
 refine WL.cV hS1 hb214 rfl rfl rfl (c_sign hS1.imm (a.length : Int) (b.length : Int)) (fun w4 G3 hS4 hle3=>?_)
 exact RI hS4 rfl (by exact (cmpL_end' (by assumption) (by omega)).symm)
end Go.Civ
