/- Lemmas: Civ60, Wd, Wg1. -/
import Derived.Test.YtjjkgobhlfmhhaaGreatU10
import Derived.Test.YtjjkgobhlfmhhaaGreatU18
import Derived.Test.YtjjkgobhlfmhhaaGreatU20
import Derived.Test.YtjjkgobhlfmhhaaGreatU21
import Derived.Test.YtjjkgobhlfmhhaaGreatU22
import Derived.Test.YtjjkgobhlfmhhaaGreatU23
import Derived.Test.YtjjkgobhlfmhhaaGreatProg
import Derived.KernelRfl
import Derived.WalkKit
namespace Go.Civ
open Go.RowKit
set_option linter.unusedVariables false
def UpV (out : VV) (v : List Val) (k : Nat) : Prop := ∀ j, k ≤ j → ∀ u, out[j]? = some u → 0 < cmpL cmpV u v
theorem UpV.start {out : VV} {v : List Val} : UpV out v out.length := fun j hj u hu => by have := (List.getElem?_eq_some_iff.1 hu).1; omega
theorem UpV.step {out : VV} {v u : List Val} {k : Nat} (h : UpV out v k) (hu : out[k - 1]? = some u) (h1 : 0 < cmpL cmpV u v) : UpV out v (k - 1) := fun j hj w hw => by
  by_cases e : k ≤ j
  · exact h j e w hw
  · obtain rfl : j = k - 1 := by omega
    rw [hu] at hw; obtain rfl := Option.some.inj hw; exact h1
theorem inc_low {out : VV} {v u : List Val} {k : Nat} (hi : IncV out) (hu : out[k]? = some u) (h : cmpL cmpV u v ≤ 0) : ∀ j, j < k → ∀ w, out[j]? = some w → cmpL cmpV w v < 0 := fun j hj w hw => by
  obtain ⟨k1, rfl⟩ := List.getElem?_eq_some_iff.1 hu
  obtain ⟨j1, rfl⟩ := List.getElem?_eq_some_iff.1 hw
  have h1 := List.pairwise_iff_getElem.1 hi j k j1 k1 hj
  by_cases e : cmpL cmpV out[k] v = 0
  · rw [(ord.eq _ _).1 e] at h1; exact h1
  · exact ord.trans _ _ _ h1 (by omega)
theorem insV_at {out : VV} {v u : List Val} {k : Nat} (hi : IncV out) (hk : 0 < k) (hu : out[k - 1]? = some u) (h : cmpL cmpV u v = 0) : insV out v = out :=
  vals_found (Nat.le_of_lt (List.getElem?_eq_some_iff.1 hu).1) (inc_low hi hu (by omega)) hu (by omega) ((ord.eq _ _).1 h)
theorem insV_new {out : VV} {v : List Val} {k : Nat} (hi : IncV out) (hU : UpV out v k) (hk : k ≤ out.length) (h : k = 0 ∨ ∃ u, out[k - 1]? = some u ∧ cmpL cmpV u v < 0) : insV out v = out.take k ++ [v] ++ out.drop k := by
  refine vals_put hk (fun j hj w hw => ?_) (fun w hw => ?_) (fun e => ?_)
  · rcases h with h | ⟨u, hu, h⟩
    · omega
    · by_cases e : j = k - 1
      · subst e; rw [hu] at hw; obtain rfl := Option.some.inj hw; exact h
      · exact inc_low hi hu (by omega) j (by omega) w hw
  · have := hU k (Nat.le_refl _) w hw; omega
  · have := hU k (Nat.le_refl _) v e; rw [ord.refl] at this; omega
theorem insV_put0 {out : VV} {v : List Val} {k : Nat} (hi : IncV out) (hU : UpV out v k) (hk : k ≤ out.length) (h : k = 0) : (([] ++ out.take k) ++ [v]) ++ out.drop k = insV out v := by rw [insV_new hi hU hk (.inl h)]; simp
theorem insV_put1 {out : VV} {v u : List Val} {k : Nat} (hi : IncV out) (hU : UpV out v k) (hk : k ≤ out.length) (hu : out[k - 1]? = some u) (h1 : cmpL cmpV u v ≤ 0) (h2 : cmpL cmpV u v ≠ 0) : (([] ++ out.take k) ++ [v]) ++ out.drop k = insV out v := by
  rw [insV_new hi hU hk (.inr ⟨u, hu, by omega⟩)]; simp
theorem spansV_yes {l : List HRow} {k : Nat} {x : HRow} {v : List Val} {tx : Int} (h : l[k]? = some x) (h1 : x.r.x.a ≤ tx) (h2 : tx < x.r.x.b) (h3 : cmpL cmpV x.v v = 0) : spansV (l.take (k + 1)) v tx = spansV (l.take k) v tx ++ [x.r.d] := by
  rw [List.take_add_one, h]; unfold spansV liveB; simp [h1, h2, (ord.eq _ _).1 h3]
theorem spansV_no {l : List HRow} {k : Nat} {x : HRow} {v : List Val} {tx : Int} (h : l[k]? = some x) (h1 : tx < x.r.x.a ∨ x.r.x.b ≤ tx ∨ cmpL cmpV x.v v ≠ 0) : spansV (l.take (k + 1)) v tx = spansV (l.take k) v tx := by
  rw [List.take_add_one, h]; unfold spansV
  have : (liveB tx x && decide (x.v = v)) = false := by
    rw [Bool.eq_false_iff]
    intro e
    unfold liveB at e
    simp only [Bool.and_eq_true, decide_eq_true_eq] at e
    rcases h1 with h1 | h1 | h1
    · omega
    · omega
    · exact h1 ((ord.eq _ _).2 e.2)
  simp [this]
theorem spansV_len (l : List HRow) (v : List Val) (tx : Int) : (spansV l v tx).length ≤ l.length := by unfold spansV; rw [List.length_map]; exact List.length_filter_le _ _
theorem spansV_takeLen (l : List HRow) (v : List Val) (tx : Int) (k : Nat) : (spansV (l.take k) v tx).length ≤ l.length := Nat.le_trans (spansV_len _ _ _) (List.length_take_le' _ _)
theorem combR_len {kind : Int} {a b : List Span} : (combR kind a b).length ≤ 2 * (a.length + b.length) := by
  have h := endsR_len (a ++ b)
  rw [List.length_append] at h
  unfold combR
  exact Nat.le_trans (combS_len _) (by omega)
theorem rtimes_len (l : List HRow) (v : List Val) (tx : Int) : (rtimesH l v tx).length ≤ 2 * l.length := by
  have h1 := combR_len (kind := 1) (a := spansV l v tx) (b := [])
  have h2 := spansV_len l v tx
  unfold rtimesH
  simp only [List.length_nil] at h1; omega
def rnormP (l : List HRow) (vs : VV) : List HRow := vs.flatMap fun v => (runN v (rtimesH l v) (cutsL l)).out
theorem rnormP_take {l : List HRow} {vs : VV} {k : Nat} {v : List Val} (h : vs[k]? = some v) : rnormP l (vs.take (k + 1)) = rnormP l (vs.take k) ++ (runN v (rtimesH l v) (cutsL l)).out := by rw [List.take_add_one, h]; simp [rnormP]
theorem rrun_bound {l : List HRow} (hl : l.length ≤ 2000) (v : List Val) (k : Nat) : (runN v (rtimesH l v) ((cutsL l).take k)).out.length ≤ 16000000 ∧ (runN v (rtimesH l v) ((cutsL l).take k)).now.length ≤ 4000 := by
  have h := runN_bound (v := v) (f := rtimesH l v) (m := 4000) (fun c => Nat.le_trans (rtimes_len _ _ _) (by omega)) (cutsL l) k
  have h2 := cutsL_len l
  exact ⟨Nat.le_trans h.1 (Nat.le_trans (Nat.mul_le_mul_right 4000 (show (cutsL l).length ≤ 4000 by omega)) (by decide)), h.2⟩
theorem rnormP_len {l : List HRow} (hl : l.length ≤ 2000) (vs : VV) : (rnormP l vs).length ≤ vs.length * 16000000 := by
  induction vs with
  | nil => simp [rnormP]
  | cons v vs ih =>
    have h1 := (rrun_bound hl v (cutsL l).length).1
    rw [List.take_length] at h1
    simp only [rnormP, List.flatMap_cons, List.length_append, List.length_cons] at *
    rw [Nat.add_mul]; omega
theorem rnormP_takeLen {l : List HRow} (hl : l.length ≤ 2000) (k : Nat) : (rnormP l ((valsH l).take k)).length ≤ 32000000000 := by
  have h1 := rnormP_len hl ((valsH l).take k)
  have h2 := List.length_take_le' k (valsH l)
  have h3 := valsH_len l
  exact Nat.le_trans h1 (Nat.le_trans (Nat.mul_le_mul_right 16000000 (show ((valsH l).take k).length ≤ 2000 by omega)) (by decide))
theorem cutsL_def (l : List HRow) {k : Nat} (h : l.length ≤ k) : endsR ((l.take k).map (fun r => r.r.x)) = cutsL l := by rw [List.take_of_length_le h]; rfl
theorem some_at' {α : Type} {l : List α} {k : Nat} (h : k < l.length) : ∃ x, l[k]? = some x := ⟨_, List.getElem?_eq_getElem h⟩
end Go.Civ
namespace Go.Civ
theorem span_ext {x y : Span} (h1 : x.a = y.a) (h2 : x.b = y.b) : x = y := by cases x; cases y; simp_all
theorem hrow_ext {x y : HRow} (h0 : decide (x.v = y.v) = true) (h1 : x.r.d.a = y.r.d.a) (h2 : x.r.d.b = y.r.d.b) (h3 : x.r.x.a = y.r.x.a) (h4 : x.r.x.b = y.r.x.b) : x = y := by
  have h0 := of_decide_eq_true h0
  obtain ⟨xv, ⟨⟨x1, x2⟩, ⟨x3, x4⟩⟩⟩ := x; obtain ⟨yv, ⟨⟨y1, y2⟩, ⟨y3, y4⟩⟩⟩ := y; simp_all
theorem rrow_1 {last : Int} {x : HRow} (h : goodB x = false) : rrowOk last x = false := by unfold rrowOk; rw [h]; rfl
theorem rrow_2 {last : Int} {x : HRow} (h : last < x.r.x.a) : rrowOk last x = false := by unfold rrowOk; rw [decide_eq_false (show ¬ x.r.x.a ≤ last by omega)]; simp
theorem rrow_3 {last : Int} {x : HRow} (h : last < x.r.x.b) (h2 : x.r.x.b ≠ 253402300800) : rrowOk last x = false := by unfold rrowOk; rw [decide_eq_false (show ¬ x.r.x.b ≤ last by omega), decide_eq_false h2]; simp
theorem rrow_y {last : Int} {x : HRow} (h2 : goodB x = true) (h3 : x.r.x.a ≤ last) (h4 : x.r.x.b ≤ last ∨ x.r.x.b = 253402300800) : rrowOk last x = true := by
  unfold rrowOk; rw [h2, decide_eq_true h3]
  rcases h4 with h4 | h4
  · rw [decide_eq_true h4]; rfl
  · rw [decide_eq_true h4]; simp
def rrowsA (l : List HRow) (last : Int) : Bool := decide (-62135596801 ≤ last) && decide (last < 253402300800) && decide (l.length ≤ 500)
theorem rrowsB_is (l : List HRow) (last : Int) : rrowsB l last = ((rrowsA l last && l.all (rrowOk last)) && decide (rnormH l = l)) := rfl
theorem rrows_1 {l : List HRow} {last : Int} (h : last < -62135596801 ∨ 253402300800 ≤ last ∨ 500 < (l.length : Int)) : false = rrowsB l last := by
  have : rrowsA l last = false := by
    unfold rrowsA
    rcases h with h | h | h
    · rw [decide_eq_false (show ¬ -62135596801 ≤ last by omega)]; rfl
    · rw [decide_eq_false (show ¬ last < 253402300800 by omega)]; simp
    · rw [decide_eq_false (show ¬ l.length ≤ 500 by omega)]; simp
  rw [rrowsB_is, this]; rfl
theorem rrows_2 {l : List HRow} {last : Int} {k : Nat} {x : HRow} (h : l[k]? = some x) (hx : rrowOk last x = false) : false = rrowsB l last := by rw [rrowsB_is, all_no h hx]; simp
theorem rrows_y {l : List HRow} {last : Int} (h1 : -62135596801 ≤ last) (h2 : last < 253402300800) (h3 : (l.length : Int) ≤ 500) (h4 : l.all (rrowOk last) = true) : decide (rnormH l = l) = rrowsB l last := by
  have : rrowsA l last = true := by unfold rrowsA; rw [decide_eq_true h1, decide_eq_true h2, decide_eq_true (show l.length ≤ 500 by omega)]; rfl
  rw [rrowsB_is, this, h4]; rfl
end Go.Civ
namespace Go.Civ
theorem Sl.tx64 {G : GH} {v : Value} {l : List HRow} (h : Sl HRowE 56 G v l) : ∀ r ∈ l, I64 r.r.x.a ∧ I64 r.r.x.b := fun r hr => by
  obtain ⟨i, hi⟩ := List.getElem?_of_mem hr
  obtain ⟨a, cap, _, _, _, _, h4⟩ := h
  obtain ⟨p, _, _, cs, _, hrep⟩ := h4 i r hi
  obtain ⟨v, _, _, _, _, h5, h6⟩ := HRowE_open hrep
  exact ⟨h5, h6⟩
theorem cutsL_mem64 {G : GH} {v : Value} {l : List HRow} (h : Sl HRowE 56 G v l) : ∀ c, c ∈ cutsL l → I64 c := fun c hc => by
  obtain ⟨r, hr, h1⟩ := cutsL_mem.1 hc
  have := h.tx64 r hr
  rcases h1 with rfl | rfl
  · exact this.1
  · exact this.2
end Go.Civ
set_option linter.unusedVariables false
set_option linter.unusedSimpArgs false
set_option maxRecDepth 100000
set_option maxHeartbeats 4000000
namespace Go.Civ
open Go.Proofs
theorem c_Encode {G : GH} {w : World} (hG : G.In w) (l : List Val) (vl : Value) (hvl : Sl ValE 32 G vl l) : CL Tryz.prog (nat_lit 169) #[vl] [] w G fun G' _ r=>∃ r0 r1,r = .tuple #[r0,r1] ∧ Sl Enc.u8 1 G' r0 (keyE l) ∧ r1 = .int .i64 (encE l):=by
 refine calls_of_go ft [] Tryz.func169 rfl rfl ?_
 have hS:=St.start (X:=[]) hG
 have bd1:=hvl.bound
 refine WL.lenSl hvl ul36 rfl rfl ?_
 refine WL.gtrS (l.length : Int) 1000 rfl rfl rfl (fun h1=>?_) (fun h1=>?_)
 ·exact RT hS rfl ⟨_,_,rfl,(Sl.cast (Sl.nil Enc.u8 1 G) (by exact (keyE_no1 (by omega)).symm)),(congrArg (Value.int .i64) (by exact (encE_5 (by omega)).symm))⟩
 refine WL.cV hS hb113 rfl rfl rfl (c_all hS.imm l _ hvl) (fun w1 G1 hS1 hle1=>?_)
 refine WL.split (fun (h2 : (l.all valB) = true)=>?_) (fun (h2 : (l.all valB) = false)=>?_)
 ·have hbl:=(by assumption : Sl ValE 32 G _ l).bound
  have bd2:=hvl.bound
  refine WL.lenSl (hvl.mono hle1) ul36 rfl rfl ?_
  refine WL.mulN 9 l.length (by have hreach : reach = 140737488355328:=rfl; omega) rfl rfl rfl ?_
  refine WL.makeRow (E:=Enc.u8) (by_:=1) sl199 rfl rfl (9 * l.length) (by have hreach : reach = 140737488355328:=rfl; omega) (by have hreach : reach = 140737488355328:=rfl; omega) hS1 rfl rfl rfl (fun v1 o1 w2 hr1 hS2=>?_)
  have bd3:=hvl.bound
  refine WL.lenSl (hvl.mono hle1) ul36 rfl rfl ?_
  refine LP.go ft [] (fun m ρ1 w1=>∃ (k1 : Nat),∃ (v2 : Value) (o2 : OB),∃ (G2 : GH),m = l.length - k1 ∧ G1.le G2 ∧ St w [] G G2 [o2] w1 ∧ Row Enc.u8 1 5 G2 v2 (encL (l.take k1)) o2 ∧ FR ρ1 [(4,v2),(19,vl),(20, .int .i64 (l.length : Int)),(21, .int .i64 (k1 : Int))] ∧ k1 ≤ l.length) _ ⟨0,v1,o1,G1,rfl,(G1.le_refl),hS2,(Row.cast hr1 (by rfl)),⟨rfl,rfl,rfl,rfl,trivial⟩,(by omega)⟩ ?_
  rintro m ρ1 w3 ⟨k1,v2,o2,G2,rfl,hle2,hS3,hr2,hF9,f1⟩
  refine hF9.set ?_
  clear hF9
  refine WL.lssS (k1 : Int) (l.length : Int) rfl rfl rfl (fun h3=>?_) (fun h3=>?_)
  ·refine WL.indexAddr (hvl.mono (hle1.trans hle2)) k1 (by omega) ul36 ti48 rfl rfl rfl rfl (fun p1 x1 hx1 he1=>?_)
   obtain ⟨cs1,hc1,hr3⟩:=he1
   obtain ⟨rfl,hb1,hb2,hb3⟩:=ValE_open hr3
   refine WL.loadGAt hS3 hc1 [.int .i64 x1.k, .int .i64 x1.n,strV x1.s] ti48 rfl rfl rfl rfl rfl ?_
   refine WL.alloc hS3 ti48 rfl rfl (fun b1 w4 hn1 hS4=>?_)
   refine WL.store hS4 0 _ _ _ 0 _ [.int .i64 x1.k, .int .i64 x1.n,strV x1.s] [.int .i64 x1.k, .int .i64 x1.n,strV x1.s] _ rfl rfl ti48 rfl (Nat.le_of_ble_eq_true rfl) rfl rfl rfl rfl rfl rfl (fun w5 hS5=>?_)
   obtain ⟨G3,hle3,hc2,hS6⟩:=hS5.shutB hn1
   have hvx:=all_at (by assumption : l.all valB = true) (by assumption : l[k1]? = some _)
   obtain ⟨hvk,hvb,hvt⟩:=valB_u8 hvx
   have hel:=encT_len (k:=k1) (by assumption : l.all valB = true) (by assumption)
   refine WL.loadG1 hS6 (Cells.drop 0 hc2) ti3 rfl rfl rfl ?_
   refine WL.toU8 x1.k (by assumption) ul3 ul5 rfl rfl ?_
   refine WL.buildSlice _ [(0,[.int .u8 ((UInt8.ofNat x1.k.toNat).toNat : Int)])] [.int .u8 ((UInt8.ofNat x1.k.toNat).toNat : Int)] hS6 sl199 rfl rfl rfl rfl (fun z hz=>by match z,hz with | [z0],_=>rfl) (fun b2 w6 hn2 hS7=>?_)
   refine WL.push (m:=([(UInt8.ofNat x1.k.toNat)] : List UInt8)) sl199 rfl rfl rfl (hr2.mono hle3) hS7 1 rfl 0 _ _ _ _ _ rfl ⟨[.int .u8 ((UInt8.ofNat x1.k.toNat).toNat : Int)],_,rfl,rfl,rfl⟩ rfl (by have hreach : reach = 140737488355328:=rfl; (simp only [List.length_append,List.length_cons,List.length_nil]; omega)) (by have hreach : reach = 140737488355328:=rfl; (simp only [List.length_append,List.length_cons,List.length_nil]; omega)) rfl rfl rfl (fun v3 o3 w7 hr4 hS8=>?_)
   have hS9:=hS8.tail
   refine WL.loadG1 hS9 (Cells.drop 0 hc2) ti3 rfl rfl rfl ?_
   refine WL.eqlS x1.k 2 rfl rfl rfl (fun h4=>?_) (fun h4=>?_)
   ·refine WL.loadG1 hS9 (Cells.drop 2 hc2) ti9 rfl rfl rfl ?_
    refine WL.pushStr sl199 ul9 rfl rfl rfl hr4 hS9 0 rfl (by simp) (by have hreach : reach = 140737488355328:=rfl; (simp only [List.length_append,List.length_cons,List.length_nil]; omega)) rfl rfl rfl (fun v4 o4 w9 hr5 hS10=>?_)
    refine WL.buildSlice _ [(0,[.int .u8 0])] [.int .u8 0] hS10 sl199 rfl rfl rfl rfl (fun z hz=>by match z,hz with | [z0],_=>rfl) (fun b3 w10 hn3 hS11=>?_)
    refine WL.push (m:=([(0 : UInt8)] : List UInt8)) sl199 rfl rfl rfl hr5 hS11 1 rfl 0 _ _ _ _ _ rfl ⟨[.int .u8 0],_,rfl,rfl,rfl⟩ rfl (by have hreach : reach = 140737488355328:=rfl; (simp only [List.length_append,List.length_cons,List.length_nil]; omega)) (by have hreach : reach = 140737488355328:=rfl; (simp only [List.length_append,List.length_cons,List.length_nil]; omega)) rfl rfl rfl (fun v5 o5 w11 hr6 hS12=>?_)
    have hS13:=hS12.tail
    refine WL.incr k1 (by have hreach : reach = 140737488355328:=rfl; omega) rfl rfl rfl ?_
    exact BK.mk' _ ⟨k1 + 1,v5,o5,G3,rfl,(hle2.trans hle3),hS13,(Row.cast hr6 (by (rw [encL_take (by assumption)]; (rw [encV_text (by assumption)]; simp only [List.append_assoc])))),⟨rfl,rfl,rfl,rfl,trivial⟩,(by omega)⟩ (show l.length - (k1 + 1) < l.length - k1 by omega)
   refine WL.eqlS x1.k 3 rfl rfl rfl (fun h5=>?_) (fun h5=>?_)
   ·refine WL.loadG1 hS9 (Cells.drop 1 hc2) ti3 rfl rfl rfl ?_
    refine WL.toU8 x1.n (by exact hvb (by assumption)) ul3 ul5 rfl rfl ?_
    refine WL.buildSlice _ [(0,[.int .u8 ((UInt8.ofNat x1.n.toNat).toNat : Int)])] [.int .u8 ((UInt8.ofNat x1.n.toNat).toNat : Int)] hS9 sl199 rfl rfl rfl rfl (fun z hz=>by match z,hz with | [z0],_=>rfl) (fun b4 w12 hn4 hS14=>?_)
    refine WL.push (m:=([(UInt8.ofNat x1.n.toNat)] : List UInt8)) sl199 rfl rfl rfl hr4 hS14 1 rfl 0 _ _ _ _ _ rfl ⟨[.int .u8 ((UInt8.ofNat x1.n.toNat).toNat : Int)],_,rfl,rfl,rfl⟩ rfl (by have hreach : reach = 140737488355328:=rfl; (simp only [List.length_append,List.length_cons,List.length_nil]; omega)) (by have hreach : reach = 140737488355328:=rfl; (simp only [List.length_append,List.length_cons,List.length_nil]; omega)) rfl rfl rfl (fun v6 o6 w13 hr7 hS15=>?_)
    have hS16:=hS15.tail
    refine WL.incr k1 (by have hreach : reach = 140737488355328:=rfl; omega) rfl rfl rfl ?_
    exact BK.mk' _ ⟨k1 + 1,v6,o6,G3,rfl,(hle2.trans hle3),hS16,(Row.cast hr7 (by (rw [encL_take (by assumption)]; (rw [encV_bool (by assumption)]; simp only [List.append_assoc])))),⟨rfl,rfl,rfl,rfl,trivial⟩,(by omega)⟩ (show l.length - (k1 + 1) < l.length - k1 by omega)
   refine WL.loadG1 hS9 (Cells.drop 1 hc2) ti3 rfl rfl rfl <| WL.toU64m x1.n ul3 ul189 rfl rfl <| WL.xorU x1.n hb2 rfl rfl rfl ?_
   refine LP.go ft [] (fun m ρ1 w1=>∃ (j : Nat),∃ (i : Int),∃ (v7 : Value) (o7 : OB),∃ (G4 : GH),m = (8 - j) ∧ G3.le G4 ∧ St w [] G G4 [o7] w1 ∧ Row Enc.u8 1 5 G4 v7 ((encL (l.take k1) ++ [UInt8.ofNat x1.k.toNat]) ++ encP x1.n j) o7 ∧ FR ρ1 [(4,v7),(7, .int .u64 ((u63 x1.n : Nat) : Int)),(8, .int .i64 i),(19,vl),(20, .int .i64 (l.length : Int)),(21, .int .i64 (k1 : Int))] ∧ j ≤ 8 ∧ i = 56 - 8 * (j : Int)) _ ⟨0,56,v3,o3,G3,rfl,(G3.le_refl),hS9,(Row.cast hr4 (by simp [encP])),⟨rfl,rfl,rfl,rfl,rfl,rfl,trivial⟩,(by omega),(by omega)⟩ ?_
   rintro m ρ1 w14 ⟨j,i,v7,o7,G4,rfl,hle4,hS17,hr8,hF9,f2,f3⟩
   refine hF9.set ?_
   clear hF9
   have hpl:=@encP_len x1.n j
   refine WL.geqS i 0 rfl rfl rfl (fun h6=>?_) (fun h6=>?_)
   ·refine WL.shrU (u63 x1.n) i (by omega) (by omega) rfl rfl rfl ?_
    refine WL.toU8 ((((u63 x1.n) / 2 ^ i.toNat) : Nat) : Int) (by exact Int.natCast_nonneg _) ul189 ul5 rfl rfl ?_
    refine WL.buildSlice _ [(0,[.int .u8 ((UInt8.ofNat ((((u63 x1.n) / 2 ^ i.toNat) : Nat) : Int).toNat).toNat : Int)])] [.int .u8 ((UInt8.ofNat ((((u63 x1.n) / 2 ^ i.toNat) : Nat) : Int).toNat).toNat : Int)] hS17 sl199 rfl rfl rfl rfl (fun z hz=>by match z,hz with | [z0],_=>rfl) (fun b5 w15 hn5 hS18=>?_)
    refine WL.push (m:=([(UInt8.ofNat ((((u63 x1.n) / 2 ^ i.toNat) : Nat) : Int).toNat)] : List UInt8)) sl199 rfl rfl rfl hr8 hS18 1 rfl 0 _ _ _ _ _ rfl ⟨[.int .u8 ((UInt8.ofNat ((((u63 x1.n) / 2 ^ i.toNat) : Nat) : Int).toNat).toNat : Int)],_,rfl,rfl,rfl⟩ rfl (by have hreach : reach = 140737488355328:=rfl; (simp only [List.length_append,List.length_cons,List.length_nil]; omega)) (by have hreach : reach = 140737488355328:=rfl; (simp only [List.length_append,List.length_cons,List.length_nil]; omega)) rfl rfl rfl (fun v9 o8 w16 hr9 hS19=>?_)
    have hS20:=hS19.tail
    have hi1 : I64 (i - 8):=by constructor <;> omega
    refine WL.ar .sub rfl i 8 rfl rfl rfl hi1 ?_
    exact BK.mk' _ ⟨j + 1,(i - 8),v9,o8,G4,rfl,hle4,hS20,(Row.cast hr9 (by (rw [encP_step (by assumption) (by assumption)]; simp only [List.append_assoc]))),⟨rfl,rfl,rfl,rfl,rfl,rfl,trivial⟩,(by omega),(by omega)⟩ (show (8 - (j + 1)) < (8 - j) by omega)
   refine WL.incr k1 (by have hreach : reach = 140737488355328:=rfl; omega) rfl rfl rfl ?_
   exact BK.mk' _ ⟨k1 + 1,v7,o7,G4,rfl,(hle2.trans (hle3.trans hle4)),hS17,(Row.cast hr8 (by (rw [encL_take (by assumption)]; (rw [encV_num (by assumption) (by assumption),encP_all (by omega)]; simp only [List.append_assoc])))),⟨rfl,rfl,rfl,rfl,trivial⟩,(by omega)⟩ (show l.length - (k1 + 1) < l.length - k1 by omega)
  obtain ⟨G5,hle5,hs1,hS21⟩:=Row.freeze hr2 hS3 0 rfl
  exact RT hS21 rfl ⟨_,_,rfl,(Sl.cast hs1 (by (rw [List.take_of_length_le (by omega)]; exact (keyE_yes (by omega) (by assumption)).symm))),(congrArg (Value.int .i64) (by exact (encE_0 (by omega) (by assumption)).symm))⟩
 exact RT hS1 rfl ⟨_,_,rfl,(Sl.cast (Sl.nil Enc.u8 1 G1) (by exact (keyE_no2 (by assumption)).symm)),(congrArg (Value.int .i64) (by exact (encE_1 (by omega) (by assumption)).symm))⟩
theorem c_key {G : GH} {w : World} (hG : G.In w) (l : List Val) (vl : Value) (hvl : Sl ValE 32 G vl l) : CL Tryz.prog (nat_lit 130) #[vl] [] w G fun _ _ r=>r = strV (keyE l):=by
 refine calls_of_go ft [] Tryz.func130 rfl rfl ?_
 have hS:=St.start (X:=[]) hG
 refine WL.cA hS hb169 rfl rfl rfl (c_Encode hS.imm l _ hvl) ?_
 rintro w1 G1 _ ⟨r2,_,rfl,hs1,rfl⟩ hS1 hle1
 refine WL.bytesStr hs1 hS1 ul199 ul5 ul9 rfl rfl ?_
 exact RT hS1 rfl (congrArg strV (by rfl))
end Go.Civ
set_option linter.unusedVariables false
set_option linter.unusedSimpArgs false
set_option maxRecDepth 100000
set_option maxHeartbeats 4000000
namespace Go.Civ
open Go.Proofs
theorem c_CloneS {G : GH} {w : World} (hG : G.In w) (l : List Span) (vl : Value) (hvl : Sl SpanE 16 G vl l) : CL Tryz.prog (nat_lit 174) #[vl] [] w G fun G' w' r=>∃ o,Row SpanE 16 (nat_lit 38) G' r l o ∧ Fresh w w' G' o:=by
 refine calls_of_go ft [] Tryz.func174 rfl rfl ?_
 have hS:=St.start (X:=[]) hG
 refine WL.nilEq hvl ul129 rfl rfl rfl (fun h1=>?_) ?_
 ·exact RT hS rfl ⟨none,Row.cast (Row.nil _ _ _ _) (by exact Eq.symm (by assumption)),fun _ h=>by cases h⟩
 refine WL.buildSlice _ [] [] hS sl129 rfl rfl rfl rfl (fun z hz=>by match z,hz with | [],_=>rfl) (fun b1 w1 hn1 hS1=>?_)
 have hr1:=Row.empty SpanE 16 38 G b1
 refine WL.pushSl sl129 rfl rfl rfl hr1 hS1 0 rfl hvl (by have hreach : reach = 140737488355328:=rfl; have:=hvl.bytes; have:=hvl.bound; simp only [List.length_nil,Nat.zero_add]; omega) (by have hreach : reach = 140737488355328:=rfl; have:=hvl.bytes; have:=hvl.bound; simp only [List.length_nil,Nat.zero_add]; omega) rfl rfl rfl (fun v1 o1 w2 hr2 hS2=>?_)
 exact RT hS2 rfl ⟨_,Row.cast hr2 (by rfl),hS2.freshAt 0 rfl⟩
theorem c_runsOf {G : GH} {w : World} (hG : G.In w) (l : List Span) (vl : Value) (hvl : Sl SpanE 16 G vl l) (hB : ∀ s ∈ l,spanB s = true) (hl : l.length ≤ 2000) : CL Tryz.prog (nat_lit 133) #[vl] [] w G fun G' _ r=>∃ r0 r1,r = .tuple #[r0,r1] ∧ Sl SpanE 16 G' r0 (canon l) ∧ r1 = .int .i64 0:=by
 refine calls_of_go ft [] Tryz.func133 rfl rfl ?_
 have hS:=St.start (X:=[]) hG
 refine WL.cV hS hb171 rfl rfl rfl (c_ContainsSp hS.imm l (fun x8=>!spanV x8) _ hvl 172 #[] ⟨hb172,fun G8 w8 v8 x8 hle8 hG8 hon8 hA8=>by obtain ⟨cs_x8,rfl,hr_x8⟩:=hA8; exact c_runsOf1 hG8 x8 cs_x8 hr_x8⟩) (fun w1 G1 hS1 hle1=>?_)
 refine WL.split (fun (h1 : (l.any (fun x8=>!spanV x8)) = true)=>?_) (fun (h1 : (l.any (fun x8=>!spanV x8)) = false)=>?_)
 ·exact RT hS1 rfl ⟨_,_,rfl,(Sl.cast (Sl.nil SpanE 16 G1) (by exact absurd (by assumption) (by rw [any_not_V hB]; simp))),(congrArg (Value.int .i64) (by exact absurd (by assumption) (by rw [any_not_V hB]; simp)))⟩
 refine WL.cR hb174 rfl rfl rfl (c_CloneS hS1.imm l _ (hvl.mono hle1)) (fun w2 G2 r1 hres1 hpost1=>?_)
 have hS2:=hS1.call hres1
 have hle2:=hres1.le
 obtain ⟨o1,hr1,hf1⟩:=hpost1
 have hS3:=hS1.adoptO hres1 hf1
 refine WL.cR hb175 rfl rfl rfl (c_SortS hS3.imm l _ _ hr1 (hS3.lentAt 0 rfl) (fun s hs=>spanB_from (hB s hs))) (fun w3 G3 r2 hres2 hpost2=>?_)
 have hle3:=hres2.le
 obtain ⟨rfl,l1,o2,hr2,hf2,hq1⟩:=hpost2
 have hS5:=hS3.callRow 0 rfl hres2 hr1 hr2 hf2
 have bd1:=hr2.bound
 refine WL.lenRow hr2 ul129 rfl rfl ?_
 have hS7:=hS5.pad
 refine LP.go ft [] (fun m ρ1 w1=>∃ (k1 : Nat),∃ (v1 : Value) (o3 : OB),∃ (G4 : GH),m = l1.length - k1 ∧ G3.le G4 ∧ St w [] G G4 [o3,o2] w1 ∧ Row SpanE 16 38 G4 v1 (mergeS (l1.take k1)) o3 ∧ FR ρ1 [(5,v1),(15,r1),(16, .int .i64 (l1.length : Int)),(17, .int .i64 (k1 : Int))] ∧ k1 ≤ l1.length) _ ⟨0,(.slice none 0 0),none,G3,rfl,(G3.le_refl),hS7,(Row.nil SpanE 16 38 G3),⟨rfl,rfl,rfl,rfl,trivial⟩,(by omega)⟩ ?_
 rintro m ρ1 w4 ⟨k1,v1,o3,G4,rfl,hle4,hS6,hr3,hF9,f1⟩
 refine hF9.set ?_
 clear hF9
 have len1:=mergeS_len (l1.take k1)
 have lent:=List.length_take_le k1 l1
 have lenp:=hq1.1.length_eq
 refine WL.lssS (k1 : Int) (l1.length : Int) rfl rfl rfl (fun h2=>?_) (fun h2=>?_)
 ·refine WL.indexAddrRow (hr2.mono hle4) k1 (by omega) ul129 ti38 rfl rfl rfl rfl (fun p1 x1 ec1 hx1 hr4 ra1=>?_)
  obtain ⟨rfl,hb1,hb2⟩:=SpanE_open hr4
  refine WL.loadRA ra1 hS6 1 rfl ti38 rfl rfl rfl rfl ?_
  refine WL.alloc hS6 ti38 rfl rfl (fun b1 w5 hn1 hS8=>?_)
  refine WL.store hS8 0 _ _ _ 0 _ [.int .i64 x1.a, .int .i64 x1.b] [.int .i64 x1.a, .int .i64 x1.b] _ rfl rfl ti38 rfl (Nat.le_of_ble_eq_true rfl) rfl rfl rfl rfl rfl rfl (fun w6 hS9=>?_)
  obtain ⟨G5,hle5,hc1,hS10⟩:=hS9.shutB hn1
  have bd2:=hr3.bound
  refine WL.lenRow (hr3.mono hle5) ul129 rfl rfl ?_
  rcases Cmp.dec .gtr (((mergeS (l1.take k1)).length : Nat) : Int) 0 with ⟨hb3,q1⟩ | ⟨hb3,q1⟩
  ·have h3 : 0 < (((mergeS (l1.take k1)).length : Nat) : Int):=q1
   clear q1
   obtain ⟨p2,x2,ec2,hx2,hr5,ra2,ep1⟩:=Row.atP (hr3.mono hle5) ((mergeS (l1.take k1)).length - 1) (by omega)
   obtain ⟨rfl,hb4,hb5⟩:=SpanE_open hr5
   rcases Cmp.dec .leq x1.a x2.b with ⟨hb6,q2⟩ | ⟨hb6,q2⟩
   ·have h4 : x1.a ≤ x2.b:=q2
    clear q2
    refine dr [] [(24, .bool true),(27, .int .i64 x1.a),(30, .int .i64 (((mergeS (l1.take k1)).length - 1 : Nat) : Int)),(31, .pointer (some p2)),(33, .int .i64 x2.b),(34, .bool true)] hS10 ⟨fun _=>WL.cmpV .gtr rfl .i64 (((mergeS (l1.take k1)).length : Nat) : Int) 0 _ hb3 rfl rfl rfl <| nu rfl rfl,fun _ hSw=>WL.loadG1 hSw (Cells.drop 0 hc1) ti3 rfl rfl rfl <| nu rfl rfl,fun _=>WL.decr ((mergeS (l1.take k1)).length) (by omega) (by have hreach : reach = 140737488355328:=rfl; omega) rfl rfl rfl <| nu rfl rfl,fun _=>WL.indexAddrP ((mergeS (l1.take k1)).length - 1) ep1 ul129 ti38 rfl rfl rfl rfl <| nu rfl rfl,fun _ hSw=>WL.loadR1 ra2 hSw 0 rfl 1 _ rfl ti3 rfl rfl rfl <| nu rfl rfl,fun _=>WL.cmpV .leq rfl .i64 x1.a x2.b _ hb6 rfl rfl rfl <| nu rfl rfl,trivial⟩ (fun w7 hS11=>?_)
    obtain ⟨p3,x3,ec3,hx3,hr6,ra3,ep2⟩:=Row.atP (hr3.mono hle5) ((mergeS (l1.take k1)).length - 1) (by omega)
    obtain rfl : x2 = x3:=Option.some.inj (hx2.symm.trans hx3)
    obtain ⟨rfl,hb7,hb8⟩:=SpanE_open hr6
    obtain ⟨p4,x4,ec4,hx4,hr7,ra4,ep3⟩:=Row.atP (hr3.mono hle5) ((mergeS (l1.take k1)).length - 1) (by omega)
    obtain rfl : x2 = x4:=Option.some.inj (hx2.symm.trans hx4)
    obtain ⟨rfl,hb9,hb10⟩:=SpanE_open hr7
    refine dr [(14,false)] [(38, .int .i64 (((mergeS (l1.take k1)).length - 1 : Nat) : Int)),(41, .int .i64 (((mergeS (l1.take k1)).length - 1 : Nat) : Int)),(42, .pointer (some p3)),(44, .int .i64 x2.b),(46, .int .i64 x1.b),(47, .int .i64 (max x2.b x1.b)),(48, .pointer (some p4))] hS11 ⟨fun _=>WL.decr ((mergeS (l1.take k1)).length) (by omega) (by have hreach : reach = 140737488355328:=rfl; omega) rfl rfl rfl <| nu rfl rfl,fun _=>WL.decr ((mergeS (l1.take k1)).length) (by omega) (by have hreach : reach = 140737488355328:=rfl; omega) rfl rfl rfl <| nu rfl rfl,fun _=>WL.indexAddrP ((mergeS (l1.take k1)).length - 1) ep2 ul129 ti38 rfl rfl rfl rfl <| nu rfl rfl,fun _ hSw=>WL.loadR1 ra3 hSw 0 rfl 1 _ rfl ti3 rfl rfl rfl <| nu rfl rfl,fun _ hSw=>WL.loadG1 hSw (Cells.drop 1 hc1) ti3 rfl rfl rfl <| nu rfl rfl,fun _=>WL.maxI x2.b x1.b rfl rfl rfl <| nu rfl rfl,fun _=>WL.indexAddrP ((mergeS (l1.take k1)).length - 1) ep3 ul129 ti38 rfl rfl rfl rfl <| nu rfl rfl,trivial⟩ (fun w9 hS12=>?_)
    refine WL.storeR (hr3.mono hle5) ra4 hS12 0 rfl (by omega) rfl 1 _ [.int .i64 (max x2.b x1.b)] (Span.mk x2.a (max x2.b x1.b)) [.int .i64 x2.a, .int .i64 (max x2.b x1.b)] rfl ti3 rfl (Nat.le_of_ble_eq_true rfl) rfl rfl (SpanE_mk (Span.mk x2.a (max x2.b x1.b)) hb9 (I64_max hb8 hb2)) rfl rfl rfl (fun o4 w10 hr8 hS13=>?_)
    refine WL.incr k1 (by have hreach : reach = 140737488355328:=rfl; omega) rfl rfl rfl ?_
    exact BK.mk' _ ⟨k1 + 1,v1,o4,G5,rfl,(hle4.trans hle5),hS13,(Row.cast hr8 (by (rw [mergeS_take (by assumption)]; exact (mstep_join (by assumption) (by omega)).symm))),⟨rfl,rfl,rfl,rfl,trivial⟩,(by omega)⟩ (show l1.length - (k1 + 1) < l1.length - k1 by omega)
   have h4 : x2.b < x1.a:=q2
   clear q2
   refine dr [] [(24, .bool true),(27, .int .i64 x1.a),(30, .int .i64 (((mergeS (l1.take k1)).length - 1 : Nat) : Int)),(31, .pointer (some p2)),(33, .int .i64 x2.b),(34, .bool false)] hS10 ⟨fun _=>WL.cmpV .gtr rfl .i64 (((mergeS (l1.take k1)).length : Nat) : Int) 0 _ hb3 rfl rfl rfl <| nu rfl rfl,fun _ hSw=>WL.loadG1 hSw (Cells.drop 0 hc1) ti3 rfl rfl rfl <| nu rfl rfl,fun _=>WL.decr ((mergeS (l1.take k1)).length) (by omega) (by have hreach : reach = 140737488355328:=rfl; omega) rfl rfl rfl <| nu rfl rfl,fun _=>WL.indexAddrP ((mergeS (l1.take k1)).length - 1) ep1 ul129 ti38 rfl rfl rfl rfl <| nu rfl rfl,fun _ hSw=>WL.loadR1 ra2 hSw 0 rfl 1 _ rfl ti3 rfl rfl rfl <| nu rfl rfl,fun _=>WL.cmpV .leq rfl .i64 x1.a x2.b _ hb6 rfl rfl rfl <| nu rfl rfl,trivial⟩ (fun w11 hS14=>?_)
   refine WL.loadGAt hS14 hc1 [.int .i64 x1.a, .int .i64 x1.b] ti38 rfl rfl rfl rfl rfl ?_
   refine WL.buildSlice _ [(0,[.int .i64 x1.a, .int .i64 x1.b])] [.int .i64 x1.a, .int .i64 x1.b] hS14 sl129 rfl rfl rfl rfl (fun z hz=>by match z,hz with | [z0,z1],_=>rfl) (fun b2 w12 hn2 hS15=>?_)
   refine WL.push (m:=([x1] : List Span)) sl129 rfl rfl rfl (hr3.mono hle5) hS15 1 rfl 0 _ _ _ _ _ rfl ⟨[.int .i64 x1.a, .int .i64 x1.b],_,rfl,(SpanE_mk x1 hb1 hb2),rfl⟩ rfl (by have hreach : reach = 140737488355328:=rfl; simp only [List.length_cons,List.length_nil]; omega) (by have hreach : reach = 140737488355328:=rfl; simp only [List.length_cons,List.length_nil]; omega) rfl rfl rfl (fun v2 o5 w13 hr9 hS16=>?_)
   have hS17:=hS16.tail
   refine WL.incr k1 (by have hreach : reach = 140737488355328:=rfl; omega) rfl rfl rfl ?_
   exact BK.mk' _ ⟨k1 + 1,v2,o5,G5,rfl,(hle4.trans hle5),hS17,(Row.cast hr9 (by (rw [mergeS_take (by assumption)]; exact (mstep_push' (by assumption) (by omega)).symm))),⟨rfl,rfl,rfl,rfl,trivial⟩,(by omega)⟩ (show l1.length - (k1 + 1) < l1.length - k1 by omega)
  have h3 : (((mergeS (l1.take k1)).length : Nat) : Int) ≤ 0:=q1
  clear q1
  refine dr [] [(24, .bool false)] hS10 ⟨fun _=>WL.cmpV .gtr rfl .i64 (((mergeS (l1.take k1)).length : Nat) : Int) 0 _ hb3 rfl rfl rfl <| nu rfl rfl,trivial⟩ (fun w14 hS18=>?_)
  refine WL.loadGAt hS18 hc1 [.int .i64 x1.a, .int .i64 x1.b] ti38 rfl rfl rfl rfl rfl ?_
  refine WL.buildSlice _ [(0,[.int .i64 x1.a, .int .i64 x1.b])] [.int .i64 x1.a, .int .i64 x1.b] hS18 sl129 rfl rfl rfl rfl (fun z hz=>by match z,hz with | [z0,z1],_=>rfl) (fun b3 w15 hn3 hS19=>?_)
  refine WL.push (m:=([x1] : List Span)) sl129 rfl rfl rfl (hr3.mono hle5) hS19 1 rfl 0 _ _ _ _ _ rfl ⟨[.int .i64 x1.a, .int .i64 x1.b],_,rfl,(SpanE_mk x1 hb1 hb2),rfl⟩ rfl (by have hreach : reach = 140737488355328:=rfl; simp only [List.length_cons,List.length_nil]; omega) (by have hreach : reach = 140737488355328:=rfl; simp only [List.length_cons,List.length_nil]; omega) rfl rfl rfl (fun v3 o6 w16 hr10 hS20=>?_)
  have hS21:=hS20.tail
  refine WL.incr k1 (by have hreach : reach = 140737488355328:=rfl; omega) rfl rfl rfl ?_
  exact BK.mk' _ ⟨k1 + 1,v3,o6,G5,rfl,(hle4.trans hle5),hS21,(Row.cast hr10 (by (rw [mergeS_take (by assumption)]; exact (mstep_push (by omega)).symm))),⟨rfl,rfl,rfl,rfl,trivial⟩,(by omega)⟩ (show l1.length - (k1 + 1) < l1.length - k1 by omega)
 obtain ⟨G6,hle6,hs1,hS22⟩:=Row.freeze hr3 hS6 0 rfl
 refine WL.cA hS22 hb177 rfl rfl rfl (c_runsDone hS22.imm (mergeS (l1.take k1)) _ hs1 (by rw [merged_ret (by assumption) hB (by omega)]; exact Nat.le_trans canon_len hl)) ?_
 rintro w17 G7 _ ⟨r4,_,rfl,hs2,rfl⟩ hS23 hle7
 exact RT hS23 rfl ⟨_,_,rfl,(Sl.cast hs2 (by exact merged_ret (by assumption) hB (by omega))),(congrArg (Value.int .i64) (by rfl))⟩
theorem c_SlEqualS {G : GH} {w : World} (hG : G.In w) (a b : List Span) (va : Value) (hva : Sl SpanE 16 G va a) (vb : Value) (hvb : Sl SpanE 16 G vb b) : CL Tryz.prog (nat_lit 162) #[va,vb] [] w G fun _ _ r=>r = .bool (decide (a = b)):=by
 refine calls_of_go ft [] Tryz.func162 rfl rfl ?_
 have hS:=St.start (X:=[]) hG
 have bd1:=hva.bound
 refine WL.lenSl hva ul129 rfl rfl ?_
 have bd2:=hvb.bound
 refine WL.lenSl hvb ul129 rfl rfl ?_
 refine WL.neqS (a.length : Int) (b.length : Int) rfl rfl rfl (fun h1=>?_) (fun h1=>?_)
 ·exact RB hS rfl (by rw [← eqF_eq]; exact (eqF_len (by omega)).symm)
 have bd3:=hva.bound
 refine WL.lenSl hva ul129 rfl rfl ?_
 refine LP.go ft [] (fun m ρ1 w1=>∃ (k1 : Nat),∃ (G1 : GH),m = a.length - k1 ∧ G.le G1 ∧ St w [] G G1 [] w1 ∧ FR ρ1 [(0,va),(1,vb),(12, .int .i64 (a.length : Int)),(13, .int .i64 (k1 : Int))] ∧ k1 ≤ a.length ∧ ∀ j,j < k1 → ∀ x y,a[j]? = some x → b[j]? = some y → decide (x = y) = true) _ ⟨0,G,rfl,(G.le_refl),hS,⟨rfl,rfl,rfl,rfl,trivial⟩,(by omega),(by intro j hj; omega)⟩ ?_
 rintro m ρ1 w1 ⟨k1,G1,rfl,hle1,hS1,hF9,f1,f2⟩
 refine hF9.set ?_
 clear hF9
 refine WL.lssS (k1 : Int) (a.length : Int) rfl rfl rfl (fun h2=>?_) (fun h2=>?_)
 ·obtain ⟨p1,x1,hx1,he1,ep1⟩:=Sl.at (hva.mono hle1) k1 (by omega)
  obtain ⟨cs1,hc1,hr1⟩:=he1
  obtain ⟨rfl,hb1,hb2⟩:=SpanE_open hr1
  obtain ⟨p2,x2,hx2,he2,ep2⟩:=Sl.at (hvb.mono hle1) k1 (by omega)
  obtain ⟨cs2,hc2,hr2⟩:=he2
  obtain ⟨rfl,hb3,hb4⟩:=SpanE_open hr2
  rcases Classical.em (x1 = x2) with h3 | h3
  ·refine dr [] [(18, .pointer (some p1)),(19, .agg #[.int .i64 x1.a, .int .i64 x1.b]),(22, .pointer (some p2)),(23, .agg #[.int .i64 x2.a, .int .i64 x2.b]),(24, .bool false)] hS1 ⟨fun _=>WL.indexAddrP k1 ep1 ul129 ti38 rfl rfl rfl rfl <| nu rfl rfl,fun _ hSw=>WL.loadGAt hSw hc1 [.int .i64 x1.a, .int .i64 x1.b] ti38 rfl rfl rfl rfl rfl <| nu rfl rfl,fun _=>WL.indexAddrP k1 ep2 ul129 ti38 rfl rfl rfl rfl <| nu rfl rfl,fun _ hSw=>WL.loadGAt hSw hc2 [.int .i64 x2.a, .int .i64 x2.b] ti38 rfl rfl rfl rfl rfl <| nu rfl rfl,fun _=>WL.aggEqNV false (SpanEq38 x1 x2) eqg38 (by simp [h3]) rfl rfl rfl <| nu rfl rfl,trivial⟩ (fun w2 hS2=>?_)
   refine WL.incr k1 (by have hreach : reach = 140737488355328:=rfl; omega) rfl rfl rfl ?_
   exact BK.mk' _ ⟨k1 + 1,G1,rfl,hle1,hS2,⟨rfl,rfl,rfl,rfl,trivial⟩,(by omega),(by exact lt_step2 (by assumption) (by assumption) (by assumption) (decide_eq_true (by simp_all)))⟩ (show a.length - (k1 + 1) < a.length - k1 by omega)
  refine dr [] [(18, .pointer (some p1)),(19, .agg #[.int .i64 x1.a, .int .i64 x1.b]),(22, .pointer (some p2)),(23, .agg #[.int .i64 x2.a, .int .i64 x2.b]),(24, .bool true)] hS1 ⟨fun _=>WL.indexAddrP k1 ep1 ul129 ti38 rfl rfl rfl rfl <| nu rfl rfl,fun _ hSw=>WL.loadGAt hSw hc1 [.int .i64 x1.a, .int .i64 x1.b] ti38 rfl rfl rfl rfl rfl <| nu rfl rfl,fun _=>WL.indexAddrP k1 ep2 ul129 ti38 rfl rfl rfl rfl <| nu rfl rfl,fun _ hSw=>WL.loadGAt hSw hc2 [.int .i64 x2.a, .int .i64 x2.b] ti38 rfl rfl rfl rfl rfl <| nu rfl rfl,fun _=>WL.aggEqNV true (SpanEq38 x1 x2) eqg38 (by simp [h3]) rfl rfl rfl <| nu rfl rfl,trivial⟩ (fun w3 hS3=>?_)
  exact RB hS3 rfl (by rw [← eqF_eq]; exact (eqF_no (f:=fun (x y : Span)=>decide (x = y)) (by assumption) (by assumption) (decide_eq_false (by simp_all))).symm)
 exact RB hS1 rfl (by rw [← eqF_eq]; exact (eqF_yes (by omega) (by assumption) (by omega)).symm)
theorem c_htimes {G : GH} {w : World} (hG : G.In w) (l : List HRow) (tx : Int) (vl : Value) (hvl : Sl HRowE 56 G vl l) (hgood : GoodH l) (hl : l.length ≤ 2000) : CL Tryz.prog (nat_lit 93) #[vl, .int .i64 tx] [] w G fun G' _ r=>Sl SpanE 16 G' r (timesH l tx):=by
 refine calls_of_go ft [] Tryz.func93 rfl rfl ?_
 have hS:=St.start (X:=[]) hG
 have bd1:=hvl.bound
 refine WL.lenSl hvl ul26 rfl rfl ?_
 have hS2:=hS.pad
 refine LP.go ft [] (fun m ρ1 w1=>∃ (k1 : Nat),∃ (v1 : Value) (o1 : OB),∃ (G1 : GH),m = l.length - k1 ∧ G.le G1 ∧ St w [] G G1 [o1] w1 ∧ Row SpanE 16 38 G1 v1 (spansH (l.take k1) tx) o1 ∧ FR ρ1 [(1, .int .i64 tx),(5,v1),(10,vl),(11, .int .i64 (l.length : Int)),(12, .int .i64 (k1 : Int))] ∧ k1 ≤ l.length) _ ⟨0,(.slice none 0 0),none,G,rfl,(G.le_refl),hS2,(Row.nil SpanE 16 38 G),⟨rfl,rfl,rfl,rfl,rfl,trivial⟩,(by omega)⟩ ?_
 rintro m ρ1 w1 ⟨k1,v1,o1,G1,rfl,hle1,hS1,hr1,hF9,f1⟩
 refine hF9.set ?_
 clear hF9
 have hsl:=spansH_takeLen l tx k1
 refine WL.lssS (k1 : Int) (l.length : Int) rfl rfl rfl (fun h1=>?_) (fun h1=>?_)
 ·refine WL.indexAddr (hvl.mono hle1) k1 (by omega) ul26 ti64 rfl rfl rfl rfl (fun p1 x1 hx1 he1=>?_)
  obtain ⟨cs1,hc1,hr2⟩:=he1
  obtain ⟨v2,rfl,hs1,hb1,hb2,hb3,hb4⟩:=HRowE_open hr2
  refine WL.loadGAt hS1 hc1 [v2, .int .i64 x1.r.d.a, .int .i64 x1.r.d.b, .int .i64 x1.r.x.a, .int .i64 x1.r.x.b] ti64 rfl rfl rfl rfl rfl ?_
  refine WL.alloc hS1 ti64 rfl rfl (fun b1 w2 hn1 hS3=>?_)
  refine WL.store hS3 0 _ _ _ 0 _ [v2, .int .i64 x1.r.d.a, .int .i64 x1.r.d.b, .int .i64 x1.r.x.a, .int .i64 x1.r.x.b] [v2, .int .i64 x1.r.d.a, .int .i64 x1.r.d.b, .int .i64 x1.r.x.a, .int .i64 x1.r.x.b] _ rfl rfl ti64 rfl (Nat.le_of_ble_eq_true rfl) (by simp only [List.all_cons,List.all_nil,hs1.oneC,Bool.true_and] <;> rfl) rfl rfl rfl rfl rfl (fun w3 hS4=>?_)
  obtain ⟨G2,hle2,hc2,hS5⟩:=hS4.shutB hn1
  refine WL.loadG1 hS5 (Cells.drop 0 (Cells.drop 2 (Cells.drop 1 hc2))) ti3 rfl rfl rfl ?_
  refine WL.leqS x1.r.x.a tx rfl rfl rfl (fun h2=>?_) (fun h2=>?_)
  ·refine WL.loadG1 hS5 (Cells.drop 1 (Cells.drop 2 (Cells.drop 1 hc2))) ti3 rfl rfl rfl ?_
   refine WL.lssS tx x1.r.x.b rfl rfl rfl (fun h3=>?_) (fun h3=>?_)
   ·refine WL.loadGAt hS5 (Cells.drop 0 (Cells.drop 1 hc2)) [.int .i64 x1.r.d.a, .int .i64 x1.r.d.b] ti38 rfl rfl rfl rfl rfl ?_
    refine WL.buildSlice _ [(0,[.int .i64 x1.r.d.a, .int .i64 x1.r.d.b])] [.int .i64 x1.r.d.a, .int .i64 x1.r.d.b] hS5 sl129 rfl rfl rfl rfl (fun z hz=>by match z,hz with | [z0,z1],_=>rfl) (fun b2 w4 hn2 hS6=>?_)
    refine WL.push (m:=([x1.r.d] : List Span)) sl129 rfl rfl rfl (hr1.mono hle2) hS6 1 rfl 0 _ _ _ _ _ rfl ⟨[.int .i64 x1.r.d.a, .int .i64 x1.r.d.b],_,rfl,(SpanE_mk x1.r.d hb1 hb2),rfl⟩ rfl (by have hreach : reach = 140737488355328:=rfl; simp only [List.length_cons,List.length_nil]; omega) (by have hreach : reach = 140737488355328:=rfl; simp only [List.length_cons,List.length_nil]; omega) rfl rfl rfl (fun v3 o2 w5 hr3 hS7=>?_)
    have hS8:=hS7.tail
    refine WL.incr k1 (by have hreach : reach = 140737488355328:=rfl; omega) rfl rfl rfl ?_
    exact BK.mk' _ ⟨k1 + 1,v3,o2,G2,rfl,(hle1.trans hle2),hS8,(Row.cast hr3 (by (rw [spansH_take (by assumption)]; unfold liveB; simp_all <;> omega))),⟨rfl,rfl,rfl,rfl,rfl,trivial⟩,(by omega)⟩ (show l.length - (k1 + 1) < l.length - k1 by omega)
   refine WL.incr k1 (by have hreach : reach = 140737488355328:=rfl; omega) rfl rfl rfl ?_
   exact BK.mk' _ ⟨k1 + 1,v1,o1,G2,rfl,(hle1.trans hle2),hS5,(Row.cast (hr1.mono hle2) (by (rw [spansH_take (by assumption)]; unfold liveB; simp_all <;> omega))),⟨rfl,rfl,rfl,rfl,rfl,trivial⟩,(by omega)⟩ (show l.length - (k1 + 1) < l.length - k1 by omega)
  refine WL.incr k1 (by have hreach : reach = 140737488355328:=rfl; omega) rfl rfl rfl ?_
  exact BK.mk' _ ⟨k1 + 1,v1,o1,G2,rfl,(hle1.trans hle2),hS5,(Row.cast (hr1.mono hle2) (by (rw [spansH_take (by assumption)]; unfold liveB; simp_all <;> omega))),⟨rfl,rfl,rfl,rfl,rfl,trivial⟩,(by omega)⟩ (show l.length - (k1 + 1) < l.length - k1 by omega)
 obtain ⟨G3,hle3,hs2,hS9⟩:=Row.freeze hr1 hS1 0 rfl
 refine WL.cA hS9 hb133 rfl rfl rfl (c_runsOf hS9.imm (spansH (l.take k1) tx) _ hs2 (by rw [List.take_of_length_le (by omega)]; exact spansH_good hgood.d tx) (by rw [List.take_of_length_le (by omega)]; exact Nat.le_trans (spansH_len l tx) hl)) ?_
 rintro w6 G4 _ ⟨r2,_,rfl,hs3,rfl⟩ hS10 hle4
 exact RT hS10 rfl (Sl.cast hs3 (by rw [List.take_of_length_le (by omega)]; rfl))
end Go.Civ
