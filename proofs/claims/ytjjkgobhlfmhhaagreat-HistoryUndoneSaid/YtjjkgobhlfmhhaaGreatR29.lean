/- Lemmas: Civ59, Civ60, Civ61, Wd, Sc, Civ62. -/
import Derived.Test.YtjjkgobhlfmhhaaGreatR11
import Derived.Test.YtjjkgobhlfmhhaaGreatR16
import Derived.Test.YtjjkgobhlfmhhaaGreatR21
import Derived.Test.YtjjkgobhlfmhhaaGreatR27
import Derived.Test.YtjjkgobhlfmhhaaGreatR28
import Derived.Test.YtjjkgobhlfmhhaaGreatProg
import Derived.KernelRfl
import Derived.WalkKit
namespace Go.Civ
open Go.RowKit
set_option linter.unusedVariables false
theorem checkF_I64 {d : Nat} {c : Cond} {l : List Col} : I64 (checkF d c l) := by unfold checkF; split; exact typedF_I64; constructor <;> decide
section
variable {d : Nat} {t : Table} {tx : Int} {c : Cond} {p : Span} {set : List Val} {mask : List Bool}
theorem del_1 (h : insOk t p = false) : noT = delT d t tx c p ∧ 1 = delE d t tx c p := by
  have : delErr d t tx c p = 1 := by unfold delErr; rw [h]; rfl
  unfold delT delE; rw [this]; exact ⟨rfl, rfl⟩
theorem delErr_is (h : insOk t p = true) : delErr d t tx c p = or2 (checkF d c t.s.cols) (timE t tx) := by unfold delErr; rw [h]; rfl
theorem del_2 (h : insOk t p = true) (h2 : cmpOr [checkF d c t.s.cols, timE t tx] ≠ 0) : noT = delT d t tx c p ∧ cmpOr [checkF d c t.s.cols, timE t tx] = delE d t tx c p := by
  rw [cmpOr2] at *
  unfold delT delE; rw [delErr_is h, if_neg h2, if_neg h2]; exact ⟨rfl, rfl⟩
theorem del_3 (h : insOk t p = true) (h2 : cmpOr [checkF d c t.s.cols, timE t tx] = 0) : doneT t tx (delRows d t tx c p) = delT d t tx c p ∧ doneTE (delRows d t tx c p) = delE d t tx c p := by
  rw [cmpOr2] at *
  unfold delT delE; rw [delErr_is h, if_pos h2, if_pos h2]; exact ⟨rfl, rfl⟩
theorem insOk_parts (h : insOk t p = true) : validT t = true ∧ spanB p = true := by unfold insOk at h; simpa using h
theorem del_ok (h : insOk t p = true) (h2 : cmpOr [checkF d c t.s.cols, timE t tx] = 0) : ChgOk t tx p fun _ => none := by
  rw [cmpOr2] at h2
  obtain ⟨a, b⟩ := insOk_parts h
  obtain ⟨e1, e2⟩ := or2_0 h2
  obtain ⟨e3, e4⟩ := timE_0 e2
  exact ⟨a, b, e3, e4, fun r hr u hu => by cases hu⟩
end
section
variable {cols : List Col} {set : List Val} {mask : List Bool} {j : Nat}
end
def chgG (g : HGrp) (a b : Int) : List HRow := outN g.v (combR 3 (timesH g.t a) (timesH g.t b)) a b ++ outN g.v (combR 3 (timesH g.t b) (timesH g.t a)) b 253402300800
def chgP (gs : List HGrp) (a b : Int) : List HRow := gs.flatMap fun g => chgG g a b
theorem chgP_take {gs : List HGrp} {k : Nat} {g : HGrp} {a b : Int} (h : gs[k]? = some g) : chgP (gs.take (k + 1)) a b = chgP (gs.take k) a b ++ chgG g a b := by rw [List.take_add_one, h]; simp [chgP]
theorem comb_small {l : List HRow} {a b : Int} (hl : l.length ≤ 500) : (combR 3 (timesH l a) (timesH l b)).length ≤ 2000 := by
  have h1 := comb_len (a := timesH l a) (b := timesH l b)
  have h2 := timesH_len l a
  have h3 := timesH_len l b
  omega
theorem chgP_len {gs : List HGrp} {a b : Int} (h : ∀ g ∈ gs, g.t.length ≤ 500) : (chgP gs a b).length ≤ gs.length * 4000 := by
  induction gs with
  | nil => simp [chgP]
  | cons g gs ih =>
    have h1 := comb_small (a := a) (b := b) (h g (by simp))
    have h1' := comb_small (a := b) (b := a) (h g (by simp))
    have h2 := ih fun x hx => h x (by simp [hx])
    simp only [chgP, List.flatMap_cons, List.length_append, List.length_cons, chgG, outN_len] at *
    rw [Nat.add_mul]; omega
theorem chgP_takeLen {l : List HRow} {k : Nat} {a b : Int} (hl : l.length ≤ 500) : (chgP ((grpH l).take k) a b).length ≤ 2000000 := by
  have h1 := chgP_len (gs := (grpH l).take k) (a := a) (b := b) fun g hg => Nat.le_trans (grpH_t g (List.mem_of_mem_take hg)) hl
  have h2 := List.length_take_le' k (grpH l)
  have h3 := @grpH_len l
  exact Nat.le_trans h1 (Nat.le_trans (Nat.mul_le_mul_right 4000 (show ((grpH l).take k).length ≤ 500 by omega)) (by decide))
theorem chgP_all {l : List HRow} {k : Nat} {a b : Int} (h : (grpH l).length ≤ k) : chgP ((grpH l).take k) a b = chgsOf l a b := by rw [List.take_of_length_le h]; rfl
section
variable {t : Table} {a b : Int}
theorem chgs_1 (h : validT t = false) : [] = chgsH t a b ∧ 1 = chgsErr t a b := by
  have : chgsErr t a b = 1 := by unfold chgsErr; rw [h]; rfl
  unfold chgsH; rw [this]; exact ⟨rfl, rfl⟩
theorem chgs_2 (h : validT t = true) (h2 : instB a = false ∨ instB b = false ∨ b ≤ a) : [] = chgsH t a b ∧ 2 = chgsErr t a b := by
  have : chgsErr t a b = 2 := by
    unfold chgsErr; rw [h, if_pos rfl, if_neg]
    simp only [Bool.and_eq_true, decide_eq_true_eq]
    rintro ⟨⟨h3, h4⟩, h5⟩
    rcases h2 with h2 | h2 | h2
    · rw [h3] at h2; cases h2
    · rw [h4] at h2; cases h2
    · omega
  unfold chgsH; rw [this]; exact ⟨rfl, rfl⟩
theorem chgsErr_is (h : validT t = true) (h1 : instB a = true) (h2 : instB b = true) (h3 : a < b) : chgsErr t a b = if (chgsOf t.rows a b).length ≤ 1000 then 0 else 5 := by
  unfold chgsErr; rw [h, if_pos rfl, if_pos]; simp [h1, h2, h3]
theorem chgs_3 (h : validT t = true) (h1 : instB a = true) (h2 : instB b = true) (h3 : a < b) (h4 : 1000 < ((chgsOf t.rows a b).length : Int)) : [] = chgsH t a b ∧ 5 = chgsErr t a b := by
  have e := chgsErr_is h h1 h2 h3
  rw [if_neg (by omega)] at e
  unfold chgsH; rw [e]; exact ⟨rfl, rfl⟩
theorem chgs_4 (h : validT t = true) (h1 : instB a = true) (h2 : instB b = true) (h3 : a < b) (h4 : ((chgsOf t.rows a b).length : Int) ≤ 1000) : chgsOf t.rows a b = chgsH t a b ∧ 0 = chgsErr t a b := by
  have e := chgsErr_is h h1 h2 h3
  rw [if_pos (by omega)] at e
  unfold chgsH; rw [e]; exact ⟨rfl, rfl⟩
end
end Go.Civ
namespace Go.Civ
open Go.RowKit
set_option linter.unusedVariables false
def UpV (out : VV) (v : List Val) (k : Nat) : Prop := ∀ j, k ≤ j → ∀ u, out[j]? = some u → 0 < cmpL cmpV u v
theorem UpV.start {out : VV} {v : List Val} : UpV out v out.length := fun j hj u hu => by have := (List.getElem?_eq_some_iff.1 hu).1; omega
theorem UpV.step {out : VV} {v u : List Val} {k : Nat} (h : UpV out v k) (hu : out[k - 1]? = some u) (h1 : 0 < cmpL cmpV u v) : UpV out v (k - 1) := fun j hj w hw => by
  by_cases e : k ≤ j
  · exact h j e w hw
  · obtain rfl : j = k - 1 := by omega
    rw [hu] at hw; obtain rfl := Option.some.inj hw; exact h1
end Go.Civ
namespace Go.Civ
theorem hrow_ext {x y : HRow} (h0 : decide (x.v = y.v) = true) (h1 : x.r.d.a = y.r.d.a) (h2 : x.r.d.b = y.r.d.b) (h3 : x.r.x.a = y.r.x.a) (h4 : x.r.x.b = y.r.x.b) : x = y := by
  have h0 := of_decide_eq_true h0
  obtain ⟨xv, ⟨⟨x1, x2⟩, ⟨x3, x4⟩⟩⟩ := x; obtain ⟨yv, ⟨⟨y1, y2⟩, ⟨y3, y4⟩⟩⟩ := y; simp_all
end Go.Civ
namespace Go.Civ
end Go.Civ
namespace Go.Civ
open Go.RowKit
set_option linter.unusedVariables false
def hereB (at_ tx : Int) (r : HRow) : Bool := decide (r.r.d.a ≤ at_) && decide (at_ < r.r.d.b) && liveB tx r
def hereH (l : List HRow) (at_ tx : Int) : List HRow := l.filter (hereB at_ tx)
def rsnapH (l : List HRow) (at_ tx : Int) : VV := valsH (hereH l at_ tx)
section
variable {hl : List Val → Bool} {nx : List Val → Option (List Val)} {tx : Int} {d : Span} {l : List HRow} {k : Nat} {r : HRow}
end
end Go.Civ
set_option linter.unusedVariables false
set_option linter.unusedSimpArgs false
set_option maxRecDepth 100000
set_option maxHeartbeats 4000000
namespace Go.Civ
open Go.Proofs
theorem c_Encode {G : GH} {w : World} (hG : G.In w) (l : List Val) (vl : Value) (hvl : Sl ValE 32 G vl l) : CL Tryz.prog (nat_lit 169) #[vl] [] w G fun G' _ r=>∃ r0 r1,r = .tuple #[r0,r1] ∧ Sl Enc.u8 1 G' r0 (keyE l) ∧ r1 = .int .i64 (encE l):=by
 refine calls_of_go ft [] Tryz.func169 rfl rfl ?_
 have hS:=St.start (X:=[]) hG
 have bd1:=hvl.bound
 refine WL.lenSl hvl ul36 rfl rfl ?_
 refine WL.gtrS (l.length : Int) 1000 rfl rfl rfl (fun h1=>?_) (fun h1=>?_)
 ·exact RT hS rfl ⟨_,_,rfl,(Sl.cast (Sl.nil Enc.u8 1 G) (by exact (keyE_no1 (by omega)).symm)),(congrArg (Value.int .i64) (by exact (encE_5 (by omega)).symm))⟩
 refine WL.cV hS hb113 rfl rfl rfl (c_all hS.imm l _ hvl) (fun w1 G1 hS1 hle1=>?_)
 refine WL.split (fun (h2 : (l.all valB) = true)=>?_) (fun (h2 : (l.all valB) = false)=>?_)
 ·have hbl:=(by assumption : Sl ValE 32 G _ l).bound
  have bd2:=hvl.bound
  refine WL.lenSl (hvl.mono hle1) ul36 rfl rfl ?_
  refine WL.mulN 9 l.length (by have hreach : reach = 140737488355328:=rfl; omega) rfl rfl rfl ?_
  refine WL.makeRow (E:=Enc.u8) (by_:=1) sl199 rfl rfl (9 * l.length) (by have hreach : reach = 140737488355328:=rfl; omega) (by have hreach : reach = 140737488355328:=rfl; omega) hS1 rfl rfl rfl (fun v1 o1 w2 hr1 hS2=>?_)
  have bd3:=hvl.bound
  refine WL.lenSl (hvl.mono hle1) ul36 rfl rfl ?_
  refine LP.go ft [] (fun m ρ1 w1=>∃ (k1 : Nat),∃ (v2 : Value) (o2 : OB),∃ (G2 : GH),m = l.length - k1 ∧ G1.le G2 ∧ St w [] G G2 [o2] w1 ∧ Row Enc.u8 1 5 G2 v2 (encL (l.take k1)) o2 ∧ FR ρ1 [(4,v2),(19,vl),(20, .int .i64 (l.length : Int)),(21, .int .i64 (k1 : Int))] ∧ k1 ≤ l.length) _ ⟨0,v1,o1,G1,rfl,(G1.le_refl),hS2,(Row.cast hr1 (by rfl)),⟨rfl,rfl,rfl,rfl,trivial⟩,(by omega)⟩ ?_
  rintro m ρ1 w3 ⟨k1,v2,o2,G2,rfl,hle2,hS3,hr2,hF9,f1⟩
  refine hF9.set ?_
  clear hF9
  refine WL.lssS (k1 : Int) (l.length : Int) rfl rfl rfl (fun h3=>?_) (fun h3=>?_)
  ·refine WL.indexAddr (hvl.mono (hle1.trans hle2)) k1 (by omega) ul36 ti48 rfl rfl rfl rfl (fun p1 x1 hx1 he1=>?_)
   obtain ⟨cs1,hc1,hr3⟩:=he1
   obtain ⟨rfl,hb1,hb2,hb3⟩:=ValE_open hr3
   refine WL.loadGAt hS3 hc1 [.int .i64 x1.k, .int .i64 x1.n,strV x1.s] ti48 rfl rfl rfl rfl rfl ?_
   refine WL.alloc hS3 ti48 rfl rfl (fun b1 w4 hn1 hS4=>?_)
   refine WL.store hS4 0 _ _ _ 0 _ [.int .i64 x1.k, .int .i64 x1.n,strV x1.s] [.int .i64 x1.k, .int .i64 x1.n,strV x1.s] _ rfl rfl ti48 rfl (Nat.le_of_ble_eq_true rfl) rfl rfl rfl rfl rfl rfl (fun w5 hS5=>?_)
   obtain ⟨G3,hle3,hc2,hS6⟩:=hS5.shutB hn1
   have hvx:=all_at (by assumption : l.all valB = true) (by assumption : l[k1]? = some _)
   obtain ⟨hvk,hvb,hvt⟩:=valB_u8 hvx
   have hel:=encT_len (k:=k1) (by assumption : l.all valB = true) (by assumption)
   refine WL.loadG1 hS6 (Cells.drop 0 hc2) ti3 rfl rfl rfl ?_
   refine WL.toU8 x1.k (by assumption) ul3 ul5 rfl rfl ?_
   refine WL.buildSlice _ [(0,[.int .u8 ((UInt8.ofNat x1.k.toNat).toNat : Int)])] [.int .u8 ((UInt8.ofNat x1.k.toNat).toNat : Int)] hS6 sl199 rfl rfl rfl rfl (fun z hz=>by match z,hz with | [z0],_=>rfl) (fun b2 w6 hn2 hS7=>?_)
   refine WL.push (m:=([(UInt8.ofNat x1.k.toNat)] : List UInt8)) sl199 rfl rfl rfl (hr2.mono hle3) hS7 1 rfl 0 _ _ _ _ _ rfl ⟨[.int .u8 ((UInt8.ofNat x1.k.toNat).toNat : Int)],_,rfl,rfl,rfl⟩ rfl (by have hreach : reach = 140737488355328:=rfl; (simp only [List.length_append,List.length_cons,List.length_nil]; omega)) (by have hreach : reach = 140737488355328:=rfl; (simp only [List.length_append,List.length_cons,List.length_nil]; omega)) rfl rfl rfl (fun v3 o3 w7 hr4 hS8=>?_)
   have hS9:=hS8.tail
   refine WL.loadG1 hS9 (Cells.drop 0 hc2) ti3 rfl rfl rfl ?_
   refine WL.eqlS x1.k 2 rfl rfl rfl (fun h4=>?_) (fun h4=>?_)
   ·refine WL.loadG1 hS9 (Cells.drop 2 hc2) ti9 rfl rfl rfl ?_
    refine WL.pushStr sl199 ul9 rfl rfl rfl hr4 hS9 0 rfl (by simp) (by have hreach : reach = 140737488355328:=rfl; (simp only [List.length_append,List.length_cons,List.length_nil]; omega)) rfl rfl rfl (fun v4 o4 w9 hr5 hS10=>?_)
    refine WL.buildSlice _ [(0,[.int .u8 0])] [.int .u8 0] hS10 sl199 rfl rfl rfl rfl (fun z hz=>by match z,hz with | [z0],_=>rfl) (fun b3 w10 hn3 hS11=>?_)
    refine WL.push (m:=([(0 : UInt8)] : List UInt8)) sl199 rfl rfl rfl hr5 hS11 1 rfl 0 _ _ _ _ _ rfl ⟨[.int .u8 0],_,rfl,rfl,rfl⟩ rfl (by have hreach : reach = 140737488355328:=rfl; (simp only [List.length_append,List.length_cons,List.length_nil]; omega)) (by have hreach : reach = 140737488355328:=rfl; (simp only [List.length_append,List.length_cons,List.length_nil]; omega)) rfl rfl rfl (fun v5 o5 w11 hr6 hS12=>?_)
    have hS13:=hS12.tail
    refine WL.incr k1 (by have hreach : reach = 140737488355328:=rfl; omega) rfl rfl rfl ?_
    exact BK.mk' _ ⟨k1 + 1,v5,o5,G3,rfl,(hle2.trans hle3),hS13,(Row.cast hr6 (by (rw [encL_take (by assumption)]; (rw [encV_text (by assumption)]; simp only [List.append_assoc])))),⟨rfl,rfl,rfl,rfl,trivial⟩,(by omega)⟩ (show l.length - (k1 + 1) < l.length - k1 by omega)
   refine WL.eqlS x1.k 3 rfl rfl rfl (fun h5=>?_) (fun h5=>?_)
   ·refine WL.loadG1 hS9 (Cells.drop 1 hc2) ti3 rfl rfl rfl ?_
    refine WL.toU8 x1.n (by exact hvb (by assumption)) ul3 ul5 rfl rfl ?_
    refine WL.buildSlice _ [(0,[.int .u8 ((UInt8.ofNat x1.n.toNat).toNat : Int)])] [.int .u8 ((UInt8.ofNat x1.n.toNat).toNat : Int)] hS9 sl199 rfl rfl rfl rfl (fun z hz=>by match z,hz with | [z0],_=>rfl) (fun b4 w12 hn4 hS14=>?_)
    refine WL.push (m:=([(UInt8.ofNat x1.n.toNat)] : List UInt8)) sl199 rfl rfl rfl hr4 hS14 1 rfl 0 _ _ _ _ _ rfl ⟨[.int .u8 ((UInt8.ofNat x1.n.toNat).toNat : Int)],_,rfl,rfl,rfl⟩ rfl (by have hreach : reach = 140737488355328:=rfl; (simp only [List.length_append,List.length_cons,List.length_nil]; omega)) (by have hreach : reach = 140737488355328:=rfl; (simp only [List.length_append,List.length_cons,List.length_nil]; omega)) rfl rfl rfl (fun v6 o6 w13 hr7 hS15=>?_)
    have hS16:=hS15.tail
    refine WL.incr k1 (by have hreach : reach = 140737488355328:=rfl; omega) rfl rfl rfl ?_
    exact BK.mk' _ ⟨k1 + 1,v6,o6,G3,rfl,(hle2.trans hle3),hS16,(Row.cast hr7 (by (rw [encL_take (by assumption)]; (rw [encV_bool (by assumption)]; simp only [List.append_assoc])))),⟨rfl,rfl,rfl,rfl,trivial⟩,(by omega)⟩ (show l.length - (k1 + 1) < l.length - k1 by omega)
   refine WL.loadG1 hS9 (Cells.drop 1 hc2) ti3 rfl rfl rfl <| WL.toU64m x1.n ul3 ul189 rfl rfl <| WL.xorU x1.n hb2 rfl rfl rfl ?_
   refine LP.go ft [] (fun m ρ1 w1=>∃ (j : Nat),∃ (i : Int),∃ (v7 : Value) (o7 : OB),∃ (G4 : GH),m = (8 - j) ∧ G3.le G4 ∧ St w [] G G4 [o7] w1 ∧ Row Enc.u8 1 5 G4 v7 ((encL (l.take k1) ++ [UInt8.ofNat x1.k.toNat]) ++ encP x1.n j) o7 ∧ FR ρ1 [(4,v7),(7, .int .u64 ((u63 x1.n : Nat) : Int)),(8, .int .i64 i),(19,vl),(20, .int .i64 (l.length : Int)),(21, .int .i64 (k1 : Int))] ∧ j ≤ 8 ∧ i = 56 - 8 * (j : Int)) _ ⟨0,56,v3,o3,G3,rfl,(G3.le_refl),hS9,(Row.cast hr4 (by simp [encP])),⟨rfl,rfl,rfl,rfl,rfl,rfl,trivial⟩,(by omega),(by omega)⟩ ?_
   rintro m ρ1 w14 ⟨j,i,v7,o7,G4,rfl,hle4,hS17,hr8,hF9,f2,f3⟩
   refine hF9.set ?_
   clear hF9
   have hpl:=@encP_len x1.n j
   refine WL.geqS i 0 rfl rfl rfl (fun h6=>?_) (fun h6=>?_)
   ·refine WL.shrU (u63 x1.n) i (by omega) (by omega) rfl rfl rfl ?_
    refine WL.toU8 ((((u63 x1.n) / 2 ^ i.toNat) : Nat) : Int) (by exact Int.natCast_nonneg _) ul189 ul5 rfl rfl ?_
    refine WL.buildSlice _ [(0,[.int .u8 ((UInt8.ofNat ((((u63 x1.n) / 2 ^ i.toNat) : Nat) : Int).toNat).toNat : Int)])] [.int .u8 ((UInt8.ofNat ((((u63 x1.n) / 2 ^ i.toNat) : Nat) : Int).toNat).toNat : Int)] hS17 sl199 rfl rfl rfl rfl (fun z hz=>by match z,hz with | [z0],_=>rfl) (fun b5 w15 hn5 hS18=>?_)
    refine WL.push (m:=([(UInt8.ofNat ((((u63 x1.n) / 2 ^ i.toNat) : Nat) : Int).toNat)] : List UInt8)) sl199 rfl rfl rfl hr8 hS18 1 rfl 0 _ _ _ _ _ rfl ⟨[.int .u8 ((UInt8.ofNat ((((u63 x1.n) / 2 ^ i.toNat) : Nat) : Int).toNat).toNat : Int)],_,rfl,rfl,rfl⟩ rfl (by have hreach : reach = 140737488355328:=rfl; (simp only [List.length_append,List.length_cons,List.length_nil]; omega)) (by have hreach : reach = 140737488355328:=rfl; (simp only [List.length_append,List.length_cons,List.length_nil]; omega)) rfl rfl rfl (fun v9 o8 w16 hr9 hS19=>?_)
    have hS20:=hS19.tail
    have hi1 : I64 (i - 8):=by constructor <;> omega
    refine WL.ar .sub rfl i 8 rfl rfl rfl hi1 ?_
    exact BK.mk' _ ⟨j + 1,(i - 8),v9,o8,G4,rfl,hle4,hS20,(Row.cast hr9 (by (rw [encP_step (by assumption) (by assumption)]; simp only [List.append_assoc]))),⟨rfl,rfl,rfl,rfl,rfl,rfl,trivial⟩,(by omega),(by omega)⟩ (show (8 - (j + 1)) < (8 - j) by omega)
   refine WL.incr k1 (by have hreach : reach = 140737488355328:=rfl; omega) rfl rfl rfl ?_
   exact BK.mk' _ ⟨k1 + 1,v7,o7,G4,rfl,(hle2.trans (hle3.trans hle4)),hS17,(Row.cast hr8 (by (rw [encL_take (by assumption)]; (rw [encV_num (by assumption) (by assumption),encP_all (by omega)]; simp only [List.append_assoc])))),⟨rfl,rfl,rfl,rfl,trivial⟩,(by omega)⟩ (show l.length - (k1 + 1) < l.length - k1 by omega)
  obtain ⟨G5,hle5,hs1,hS21⟩:=Row.freeze hr2 hS3 0 rfl
  exact RT hS21 rfl ⟨_,_,rfl,(Sl.cast hs1 (by (rw [List.take_of_length_le (by omega)]; exact (keyE_yes (by omega) (by assumption)).symm))),(congrArg (Value.int .i64) (by exact (encE_0 (by omega) (by assumption)).symm))⟩
 exact RT hS1 rfl ⟨_,_,rfl,(Sl.cast (Sl.nil Enc.u8 1 G1) (by exact (keyE_no2 (by assumption)).symm)),(congrArg (Value.int .i64) (by exact (encE_1 (by omega) (by assumption)).symm))⟩
theorem c_key {G : GH} {w : World} (hG : G.In w) (l : List Val) (vl : Value) (hvl : Sl ValE 32 G vl l) : CL Tryz.prog (nat_lit 130) #[vl] [] w G fun _ _ r=>r = strV (keyE l):=by
 refine calls_of_go ft [] Tryz.func130 rfl rfl ?_
 have hS:=St.start (X:=[]) hG
 refine WL.cA hS hb169 rfl rfl rfl (c_Encode hS.imm l _ hvl) ?_
 rintro w1 G1 _ ⟨r2,_,rfl,hs1,rfl⟩ hS1 hle1
 refine WL.bytesStr hs1 hS1 ul199 ul5 ul9 rfl rfl ?_
 exact RT hS1 rfl (congrArg strV (by rfl))
end Go.Civ
set_option linter.unusedVariables false
namespace Go.Civ
open Go.Proofs Go.Shelf Go.RowKit Go.Lib Go.Sort

theorem sortI_eq (l : List Int) : sortI l = sortZ l := rfl
set_option maxHeartbeats 1000000 in
theorem c_Compact {G : GH} {w : World} (hG : G.In w) (l : List Int) (vd : Value) (od : OB) (hvd : Row Enc.int 8 (nat_lit 3) G vd l od) (hod : Lent w G od) :
    Calls Tryz.prog (nat_lit 160) #[vd] w fun e w' => ∃ r G', e = .returned r ∧ Res (blk od) w G w' G' ∧ ∃ (o' : OB), Row Enc.int 8 (nat_lit 3) G' r (compact l) o' ∧ Lent w' G' o' ∧ blk o' = blk od := by
  rcases hvd with ⟨rfl, rfl, rfl⟩ | ⟨b, cs, cap, xs, rfl, rfl, h3, h4, h5, h6, h7, h8, h9⟩
  · exact (Any.slices_Compact_int_empty Tryz.laysCompact none 0 w).mono fun e w' ⟨he, hw⟩ => by
      subst hw
      exact ⟨_, G, he, Res.refl hG, none, .inl ⟨rfl, rfl, rfl⟩, fun p hp => (by cases hp), rfl⟩
  · obtain ⟨hb1, hb2⟩ := hod _ rfl
    obtain ⟨rfl, hI⟩ := flatInt_cells l xs h6
    have hE : Enc.int.n = 1 := rfl
    rw [hE, Nat.mul_one] at h5 h7
    have hcell : ∀ t, t < l.length → cs[t]? = some (.int .i64 l[t]!) := fun t ht => by
      have := congrArg (·[t]?) h7
      simp only [List.getElem?_take, if_pos ht, List.getElem?_map] at this
      rw [this, List.getElem?_eq_getElem ht, getElem!_pos l t ht]; rfl
    have hH : Holds (Value.int .i64) w b 0 l.toArray := fun t ht => by
      have ht' : t < l.length := by simpa using ht
      refine ⟨?_, ?_⟩
      · rw [Nat.zero_add]
        simp only [World.cell?, hb1, objOf]
        have := hcell t ht'
        rw [getElem!_pos l t ht'] at this
        rw [getElem!_pos l.toArray t ht]
        simpa using this
      · simp [World.frozen?, hb1, objOf]
    have hcon := Any.slices_Compact_int Tryz.laysCompact b 0 cap l w hH (by unfold reach at h9; omega) h3
    refine hcon.mono fun e w' ⟨he, q, hw⟩ => ?_
    have hlen := compact_len l
    have hbl : b < w.heap.size := (Array.getElem?_eq_some_iff.1 hb1).1
    obtain ⟨z, hz⟩ : ∃ z : List Int, z = compact l ++ List.replicate (l.length - (compact l).length) 0 := ⟨_, rfl⟩
    have hzl : z.length = l.length := by subst hz; simp; omega
    rw [← hz] at hw
    obtain ⟨cs', hcs'⟩ : ∃ cs' : List Value, cs' = (putCells (Value.int .i64) 0 z.toArray cs.toArray).toList := ⟨_, rfl⟩
    have hget : ∀ k, w'.heap[k]? = if b = k then some (.cells cs'.toArray (nat_lit 3) (0, 0)) else w.heap[k]? := fun k => by
      subst hw
      have hah : (Go.Sort.ahead w q).heap = w.heap := rfl
      simp only [putRow, mapBlock, hah]
      rw [Array.getElem?_modify]
      by_cases hkb : b = k
      · subst hkb
        rw [if_pos rfl, if_pos rfl, hb1]
        simp [objOf, onCells, hcs']
      · rw [if_neg hkb, if_neg hkb]
    have hres : Res [b] w G w' G := by
      refine ⟨?_, G.le_refl, fun _ _ => rfl, fun k o hk => ?_⟩
      · refine ⟨by subst hw; rfl, by subst hw; rfl, by subst hw; rfl, by subst hw; exact Nat.le_add_right _ _, ?_, fun k hk hkb => ?_⟩
        · subst hw
          have hah : (Go.Sort.ahead w q).heap = w.heap := rfl
          simp [putRow, mapBlock]
          try simp [hah]
        · rw [hget, if_neg (by simpa [eq_comm] using hkb)]
      · have hkb : b ≠ k := fun e => by subst e; simp only at hb2; rw [hb2] at hk; cases hk
        rw [hget, if_neg hkb]; exact hG k o hk
    have hI' : ∀ x ∈ compact l, I64 x := fun x hx => by
      unfold compact compactUpTo at hx
      obtain ⟨j, hj, rfl⟩ := List.mem_map.1 hx
      have hj' : j < l.length := by simpa using (List.mem_filter.1 hj).1
      rw [getElem!_pos l.toArray j (by simpa using hj')]
      exact hI _ (by simp)
    have hby : (compact l).length * 8 ≤ reach := Nat.le_trans (Nat.mul_le_mul_right _ hlen) h8
    refine ⟨_, G, he, hres, some (b, nat_lit 3, cs'), .inr ⟨b, cs', cap, (compact l).map (Value.int .i64), rfl, rfl, Nat.le_trans hlen h3, h4, ?_, flatInt _ hI', ?_, hby, Nat.le_trans hlen h9⟩, fun p hp => ?_, rfl⟩
    · subst hcs'; rw [hE]; simpa [putCells] using h5
    · rw [hE, Nat.mul_one]
      apply List.ext_getElem?
      intro t
      rw [List.getElem?_take]
      by_cases ht : t < (compact l).length
      · have htc : t < cs.length := by omega
        have htz : z[t]? = (compact l)[t]? := by rw [hz, List.getElem?_append_left ht]
        have htz' : t < z.length := by omega
        rw [if_pos ht, hcs']
        simp only [putCells, Array.getElem?_toList, Array.getElem?_mapIdx]
        simp only [List.getElem?_toArray]
        rw [List.getElem?_eq_getElem htc, List.getElem?_map, ← htz, List.getElem?_eq_getElem htz']
        simp [htz']
      · rw [if_neg ht, List.getElem?_eq_none]
        simp; omega
    · obtain rfl := Option.some.inj hp
      exact ⟨by rw [hget, if_pos rfl]; rfl, hb2⟩
end Go.Civ
namespace Go.Civ
open Go.RowKit
set_option linter.unusedVariables false
def longB (x : HRow) : Bool := decide (8 < (x.v.length : Int))
def greatH (l : List HRow) : Bool := decide (24 < (l.length : Int)) || l.any longB
theorem great_1 {l : List HRow} (h : 24 < (l.length : Int)) : true = greatH l := by unfold greatH; rw [decide_eq_true h]; rfl
theorem great_2 {l : List HRow} (h : (l.length : Int) ≤ 24) : l.any longB = greatH l := by unfold greatH; rw [decide_eq_false (by omega)]; rfl
theorem great_no {l : List HRow} (h : greatH l = false) : l.length ≤ 24 ∧ ∀ r ∈ l, r.v.length ≤ 8 := by
  unfold greatH at h
  simp only [Bool.or_eq_false_iff, decide_eq_false_iff_not, List.any_eq_false] at h
  refine ⟨by omega, fun r hr => ?_⟩
  have := h.2 r hr
  unfold longB at this
  simp only [decide_eq_true_eq] at this; omega
section
variable {t : Table} {tx : Int} {v : List Val} {d : Span} {rows : List HRow}
end
section
variable {k : Nat} {t : Table} {tx : Int} {c : Cond} {d : Span}
end
section
variable {k : Nat} {t : Table} {tx : Int} {c : Cond} {set : List Val} {mask : List Bool} {d : Span}
end
theorem newT_valid {s : Schema} (h : schB s = true) : validT (newT s) = true := by
  unfold newT; rw [if_pos h]
  unfold validT; simp only [h]; rfl
theorem newT_yes {s : Schema} (h : schB s = true) : newT s = ⟨s, [], -62135596801⟩ ∧ newE s = 0 := ⟨(new_y h).1.symm, (new_y h).2.symm⟩
end Go.Civ
namespace Go.Civ
def colT : Schema := ⟨[116], [⟨[97], 1⟩], 1, []⟩
end Go.Civ
