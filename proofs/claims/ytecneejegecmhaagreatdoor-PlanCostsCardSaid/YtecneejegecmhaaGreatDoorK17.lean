/- Lemmas. -/
import Derived.Test.YtecneejegecmhaaGreatDoorK16
set_option linter.unusedVariables false
set_option linter.unusedSimpArgs false
set_option linter.unnecessarySimpa false
namespace Go.Civ
set_option linter.unusedVariables false
section
variable {L s D : Str} {m K k a N : Nat} {n q : Int}
theorem p20 {n : Int} (h : Zj n) : n.natAbs < 10 ^ 20:=by
 obtain ⟨h1,h2⟩:=h
 have : (10 : Nat) ^ 20 = 100000000000000000000:=by decide
 omega
theorem Z0J (h : ZA m (K - (24 - a)) ++ L.drop a = ZA N K) (hl : L.length = 24) (ha : a ≤ 24) (hN : N < 10 ^ 20) (hK : K ≤ 20) : 4 ≤ a:=by
 have h1:=congrArg List.length h
 have h2:=Zi6 hN hK
 simp only [List.length_append,List.length_drop] at h1
 omega
theorem ZmC (h : ZA m (K - (24 - a)) ++ L.drop a = D) (hc : m ≠ 0 ∨ 24 - a < K) (ha : 1 ≤ a) (hl : a ≤ L.length) (h24 : a ≤ 24) :
  ZA (m / 10) (K - (24 - (a - 1))) ++ (L.set (a - 1) (UInt8.ofNat (48 + m % 10))).drop (a - 1) = D:=by
 rw [← h,Zgq (m:=m) (k:=K - (24 - a)) (by omega),List.append_assoc]
 rw [show K - (24 - (a - 1)) = K - (24 - a) - 1 by omega]
 congr 1
 have e : (L.set (a - 1) (UInt8.ofNat (48 + m % 10))).drop (a - 1) = UInt8.ofNat (48 + m % 10) :: L.drop a:=by
  rw [List.drop_eq_getElem_cons (by rw [List.length_set]; omega),List.getElem_set_self,show a - 1 + 1 = a by omega,List.drop_set_of_lt (by omega)]
 rw [e]; rfl
theorem Zpj (h : ZA m (K - (24 - a)) ++ L.drop a = D) (h0 : ¬ m ≠ 0) (h1 : K ≤ 24 - a) : L.drop a = D:=by
 rw [show m = 0 by omega,show K - (24 - a) = 0 by omega,ZjG] at h
 exact h
theorem Zwe (h : ZA m (max k 1 - (24 - a)) ++ L.drop a = ZA n.natAbs (max k 1)) (h0 : ¬ m ≠ 0) (h1 : max k 1 ≤ 24 - a) (hn : n < 0) (ha : 1 ≤ a) (hl : a ≤ L.length) : (L.set (a - 1) 45).drop (a - 1) = Z8 n k:=by
 rw [← Zm2 hn,← Zpj h h0 h1,List.drop_eq_getElem_cons (by rw [List.length_set]; omega),List.getElem_set_self,show a - 1 + 1 = a by omega,List.drop_set_of_lt (by omega)]; rfl
theorem Zwf (h : ZA m (max k 1 - (24 - a)) ++ L.drop a = ZA n.natAbs (max k 1)) (h0 : ¬ m ≠ 0) (h1 : max k 1 ≤ 24 - a) (hn : ¬ n < 0) : L.drop a = Z8 n k:=by
 rw [← Zgr hn,← Zpj h h0 h1]
theorem ZmD (h : Zj n) (hk : k ≤ 20) : (Z8 n k).length ≤ 21:=ZtU h.1 h.2 hk
theorem Z0K {m : Int} : -10 < Int.tmod m 10 ∧ Int.tmod m 10 < 10:=by
 have h1:=Int.tmod_lt_of_pos m (show (0 : Int) < 10 by decide)
 have h2 : (m.tmod 10).natAbs < 10:=by rw [Int.natAbs_tmod]; exact Nat.mod_lt _ (by decide)
 omega
theorem ZfO {d : Int} (h : 0 ≤ d) : UInt8.ofNat (48 + d).toNat = dgt d.natAbs:=by unfold dgt; congr 1; omega
theorem Zyd (h : XE q.natAbs ++ s = XE N) (hm : q ≠ 0) (hd : Int.tmod q 10 < 0) : XE (Int.tdiv q 10).natAbs ++ ([UInt8.ofNat (48 + (0 - Int.tmod q 10)).toNat] ++ s) = XE N:=by
 have:=Zm3 h hm
 rw [ZfO (by omega),show (0 - Int.tmod q 10).natAbs = (Int.tmod q 10).natAbs by omega]
 exact this
theorem Zye (h : XE q.natAbs ++ s = XE N) (hm : q ≠ 0) (hd : ¬ Int.tmod q 10 < 0) : XE (Int.tdiv q 10).natAbs ++ ([UInt8.ofNat (48 + Int.tmod q 10).toNat] ++ s) = XE N:=by
 have:=Zm3 h hm
 rw [ZfO (by omega)]
 exact this
theorem Zst (hm : q ≠ 0) : (Int.tdiv q 10).natAbs < q.natAbs:=by
 have e1 : (q.tdiv 10).natAbs = q.natAbs / 10:=by rw [Int.natAbs_tdiv]; rfl
 omega
theorem Zyf (h : XE q.natAbs ++ s = XE N) (hN : N < 10 ^ 20) : s.length ≤ 20:=by
 have h1:=congrArg List.length h
 have h2:=Zdt hN
 rw [List.length_append] at h1
 omega
def ZeW (s D : Str) (K : Nat) : Prop:=∃ j,s = List.replicate j 48 ++ D ∧ j ≤ K - D.length
theorem Z0L (h : XE q.natAbs ++ s = D) (hq : ¬ q ≠ 0) : ZeW s D K:=⟨0,by rw [← h,show q.natAbs = 0 by omega,ZfD]; rfl,by omega⟩
theorem ZqZ (h : ZeW s D (max k 1)) (hc : s = [] ∨ (s.length : Int) < (k : Int)) : ZeW ([48] ++ s) D (max k 1):=by
 obtain ⟨j,rfl,hj⟩:=h
 refine ⟨j + 1,by rw [List.replicate_succ]; rfl,?_⟩
 rcases hc with h | h
 ·have h1:=congrArg List.length h
  simp only [List.length_append,List.length_replicate,List.length_nil] at h1; omega
 ·simp at h; omega
theorem Zwg (h : ZeW s D (max k 1)) (hc : s = [] ∨ (s.length : Int) < (k : Int)) : max k 1 - ([48] ++ s).length < max k 1 - s.length:=by
 rcases hc with h | h
 ·rw [h]; simp only [List.length_append,List.length_cons,List.length_nil]; omega
 ·simp only [List.length_append,List.length_cons,List.length_nil]; omega
theorem Z0M (h : ZeW s (XE N) (max k 1)) (hN : N < 10 ^ 20) (hk : k ≤ 20) : s.length ≤ 20:=by
 obtain ⟨j,rfl,hj⟩:=h
 have h2:=Zdt hN
 simp; omega
theorem Zwh (h : ZeW s (XE N) (max k 1)) (h1 : ¬ s = []) (h2 : ¬ (s.length : Int) < (k : Int)) : s = ZA N (max k 1):=by
 obtain ⟨j,rfl,hj⟩:=h
 have h3 : 1 ≤ (List.replicate j 48 ++ XE N).length:=by
  cases e : (List.replicate j 48 ++ XE N) with
  | nil=>exact absurd e h1
  | cons a l=>simp
 rw [ZA]
 congr 2
 simp at h2 h3
 omega
theorem ZmE (h : ZeW s (XE n.natAbs) (max k 1)) (h1 : ¬ s = []) (h2 : ¬ (s.length : Int) < (k : Int)) (hn : n < 0) : [45] ++ s = Z8 n k:=by rw [Zwh h h1 h2,Zm2 hn]
theorem ZmF (h : ZeW s (XE n.natAbs) (max k 1)) (h1 : ¬ s = []) (h2 : ¬ (s.length : Int) < (k : Int)) (hn : ¬ n < 0) : s = Z8 n k:=by rw [Zwh h h1 h2,Zgr hn]
theorem Z0N (h : ZA q.natAbs k ++ s = D) (hq : 0 ≤ q) (hk : 1 ≤ k) : ZA (q / 10).natAbs (k - 1) ++ ([UInt8.ofNat (48 + q % 10).toNat] ++ s) = D:=by
 rw [← h,Zgq (m:=q.natAbs) (k:=k) (.inr (by omega)),List.append_assoc,ZfO (by omega),show (q / 10).natAbs = q.natAbs / 10 by omega,show (q % 10).natAbs = q.natAbs % 10 by omega]
theorem Z0O (h : q.natAbs < 10 ^ k) (hq : 0 ≤ q) (hk : 1 ≤ k) : (q / 10).natAbs < 10 ^ (k - 1):=by
 obtain ⟨j,rfl⟩ : ∃ j,k = j + 1:=⟨k - 1,by omega⟩
 rw [Nat.pow_succ] at h
 rw [show j + 1 - 1 = j from rfl]; omega
theorem Z0P (h : ZA q.natAbs (k - m) ++ s = D) (hm : k ≤ m) (h2 : q.natAbs < 10 ^ (k - m)) : s = D:=by
 rw [show k - m = 0 by omega] at h h2
 rw [show q.natAbs = 0 by simpa using h2,ZjG] at h
 exact h
theorem Zyg (h0 : 0 ≤ q) (h1 : q < 100) : [UInt8.ofNat (48 + q / 10 % 10).toNat,UInt8.ofNat (48 + q % 10).toNat] = ZA q.natAbs 2:=by
 rw [Zgq (.inr (by omega)),Zgq (.inr (by omega)),show (2 : Nat) - 1 - 1 = 0 from rfl,show q.natAbs / 10 / 10 = 0 by omega,ZjG,ZfO (by omega),ZfO (by omega),show (q / 10 % 10).natAbs = q.natAbs / 10 % 10 by omega,show (q % 10).natAbs = q.natAbs % 10 by omega]; rfl
theorem ZeX {k : Nat} (h : 0 ≤ q) (hk : 1 ≤ k) : Z8 q k = ZA q.natAbs k:=by rw [← Zgr (by omega),show max k 1 = k by omega]
end
theorem Znv (a : Int) : a = 86400 * Int.tdiv a 86400 + Int.tmod a 86400 ∧ -86400 < Int.tmod a 86400 ∧ Int.tmod a 86400 < 86400:=by
 have h1:=Int.mul_tdiv_add_tmod a 86400
 have h2:=Int.tmod_lt_of_pos a (show (0 : Int) < 86400 by decide)
 have h3 : (a.tmod 86400).natAbs < 86400:=by rw [Int.natAbs_tmod]; exact Nat.mod_lt _ (by decide)
 omega
theorem Znw {n : Int} (h : Int.tmod n 86400 < 0) : Int.tdiv n 86400 - 1 = n / 86400 ∧ Int.tmod n 86400 + 86400 = n % 86400:=by
 have:=Znv n
 omega
theorem ZfP {n : Int} (h : ¬ Int.tmod n 86400 < 0) : Int.tdiv n 86400 = n / 86400 ∧ Int.tmod n 86400 = n % 86400:=by
 have:=Znv n
 omega
theorem Znx {x : Int} (h : (Cmp.b .lss x 0 != Cmp.b .lss 86400 0) = true) : x < 0:=by simpa [Cmp.b] using h
theorem Zny {x : Int} (h : (Cmp.b .lss x 0 != Cmp.b .lss 86400 0) = false) : ¬ x < 0:=by simp [Cmp.b] at h; omega
section
variable {d y m n l : Int}
def Yx (y m d : Int) : Int:=ZW y + Y3 (YV y) m + d - 1
theorem Zc9 (h : 1 ≤ y ∧ y ≤ 10001) : -719162 ≤ ZW y ∧ ZW y ≤ 2933263:=by unfold ZW; omega
theorem ZdO (h : 1 ≤ m ∧ m ≤ 13) (hl : 0 ≤ l ∧ l ≤ 1) : 0 ≤ Y3 l m ∧ Y3 l m ≤ 366:=by unfold Y3; split <;> omega
theorem Zlh : ZW 10000 = 2932897:=by unfold ZW; omega
theorem ZfQ : Y3 l 1 = 0:=by unfold Y3; rw [if_pos (by omega)]; omega
theorem Zpk : Yx y 1 1 = ZW y:=by unfold Yx; rw [ZfQ]; omega
theorem Zwi (hm : m ≤ 2) (h1 : 1 ≤ m) : 365 * (y - 1) + (y - 1) / 4 - (y - 1) / 100 + (y - 1) / 400 + (153 * (m + 12 - 3) + 2) / 5 + d - 307 + -719162 = Yx y m d:=by
 unfold Yx Y3 ZW; rw [if_pos hm]; omega
theorem Zwj (hm : ¬ m ≤ 2) : 365 * y + y / 4 - y / 100 + y / 400 + (153 * (m - 3) + 2) / 5 + d - 307 + -719162 = Yx y m d:=by
 have:=@ZfE y
 unfold Yx Y3; rw [if_neg hm]
 unfold ZW at this ⊢
 rw [show y + 1 - 1 = y by omega] at this
 omega
theorem Zpl (h1 : ZW y ≤ d) (h2 : ¬ y < 9999 ∨ ¬ Yx (y + 1) 1 1 ≤ d) (hd : d < 2932897) (hy : y ≤ 9999) : isY d y:=by
 refine ⟨h1,?_⟩
 rcases h2 with h | h
 ·rw [show y + 1 = 10000 by omega,Zlh]; exact hd
 ·rw [Zpk] at h; omega
theorem Zsu (h : -719162 ≤ d) : ZW ((d - -719162) / 366 + 1) ≤ d:=by unfold ZW; omega
theorem ZhQ (hy : isY d y) (hm : isM (YV y) (d - ZW y) m) (h1 : 1 ≤ m) : (Dat.mk y m (d - Yx y m 1 + 1)) = ZC d:=by
 have e:=ZrZ hy
 subst e
 have e2:=ZxT h1 hm
 subst e2
 unfold ZC Yx
 congr 1
 omega
theorem ZhR (hy : isY d y) (h1 : Y3 (YV y) m ≤ d - ZW y) (h2 : ¬ m < 12 ∨ ¬ Yx y (m + 1) 1 ≤ d) (hm : m ≤ 12) : isM (YV y) (d - ZW y) m:=by
 refine ⟨h1,?_⟩
 rcases h2 with h | h
 ·have:=hy.2; rw [ZfE] at this
  rw [show m + 1 = 13 by omega]; unfold Y3; rw [if_neg (by omega)]; omega
 ·unfold Yx at h; omega
theorem Zwk (h : Yx y (m + 1) 1 ≤ d) : Y3 (YV y) (m + 1) ≤ d - ZW y:=by unfold Yx at h; omega
theorem Zwl (h : 1 ≤ y ∧ y ≤ 9999) (hl : XF y = true) : 29 = Xo y 2:=by rw [ZjI h,YV,if_pos hl]; rfl
theorem ZmG (h : 1 ≤ y ∧ y ≤ 9999) (e : m = 2) (hl : XF y = true) : 29 = Xo y m:=by subst e; exact Zwl h hl
theorem Zuk (h : 1 ≤ y ∧ y ≤ 9999) (e : m = 2) (hl : XF y = false) : 28 = Xo y m:=by
 subst e; rw [ZjI h,YV,if_neg (by rw [hl]; simp)]; rfl
theorem Zwm (h : 1 ≤ y ∧ y ≤ 9999) (hl : XF y = false) : 28 = Xo y 2:=by rw [ZjI h,YV,if_neg (by rw [hl]; simp)]; rfl
theorem Znz (h : 1 ≤ y ∧ y ≤ 9999) (hm : 1 ≤ m ∧ m ≤ 12) : Xo y m = Y3 (YV y) (m + 1) - Y3 (YV y) m:=by unfold Xo; rw [if_neg (by omega)]
theorem Zsv {c : Int} (h : 1 ≤ y ∧ y ≤ 9999) (hm : 1 ≤ m ∧ m ≤ 12) (h2 : ¬ (m = 2 ∧ XF y = true)) (hc : ([31,28,31,30,31,30,31,31,30,31,30,31] : List Int)[(m - 1).toNat]? = some c) : c = Xo y m:=by
 by_cases e : m = 2
 ·subst e
  have : XF y = false:=by cases q : XF y with
   | true=>exact absurd ⟨rfl,q⟩ h2
   | false=>rfl
  rw [← Zwm h this]
  exact (Option.some.inj hc).symm
 ·rw [ZjJ h hm e]
  have e : m = 1 ∨ m = 3 ∨ m = 4 ∨ m = 5 ∨ m = 6 ∨ m = 7 ∨ m = 8 ∨ m = 9 ∨ m = 10 ∨ m = 11 ∨ m = 12:=by omega
  rcases e with rfl | rfl | rfl | rfl | rfl | rfl | rfl | rfl | rfl | rfl | rfl <;> (have:=Option.some.inj hc; subst this; decide)
theorem ZhS (h : 1 ≤ y ∧ y ≤ 9999) (hm : 1 ≤ m ∧ m ≤ 12) (h2 : ¬ m = 2) (h3 : m = 4 ∨ m = 6 ∨ m = 9 ∨ m = 11) : 30 = Xo y m:=by rw [ZjJ h hm h2,if_pos h3]
theorem Zwn (h : 1 ≤ y ∧ y ≤ 9999) (hm : 1 ≤ m ∧ m ≤ 12) (h2 : ¬ m = 2) (h3 : ¬ (m = 4 ∨ m = 6 ∨ m = 9 ∨ m = 11)) : 31 = Xo y m:=by rw [ZjJ h hm h2,if_neg h3]
theorem Zul : Zj (Xo y m):=by have:=@ZjK y m; constructor <;> omega
theorem Zum {a b : Int} (h : Zj a) (h0 : 0 ≤ a ∧ 1 ≤ b) : Zj (a / b):=by
 obtain ⟨h1,h2⟩:=h
 have h3:=Int.ediv_nonneg h0.1 (show 0 ≤ b by omega)
 have h4 : a / b ≤ a:=Int.ediv_le_self b h0.1
 constructor <;> omega
theorem Zli {a : Int} (h : Zj a) : Zj (a / 86400):=by obtain ⟨h1,h2⟩:=h; constructor <;> omega
theorem Zlj {a : Int} : Zj (a % 86400):=by constructor <;> omega
theorem Zyh (hy : 1 ≤ y ∧ y ≤ 9999) (hm : 1 ≤ m ∧ m ≤ 12) (hd : 1 ≤ d ∧ d ≤ 31) : -719162 ≤ Yx y m d ∧ Yx y m d ≤ 2999999:=by
 have h1:=Zc9 (y:=y) (by omega)
 have h2:=ZdO (m:=m) (by omega) (Zap y)
 unfold Yx; omega
theorem Zn0 (h : -719162 ≤ d ∧ d < 2932897) : 1 ≤ (ZC d).y ∧ (ZC d).y ≤ 9999 ∧ 1 ≤ (ZC d).m ∧ (ZC d).m ≤ 12 ∧ 1 ≤ (ZC d).d ∧ (ZC d).d ≤ 31 ∧ (ZC d).d ≤ Xo (ZC d).y (ZC d).m:=by
 obtain ⟨h1,h2,_,h4,h5,_⟩:=Zb7 h
 have:=Zv5 h
 unfold ZqG at this
 simp only [Bool.and_eq_true,decide_eq_true_eq] at this
 have hb:=@ZjK (ZC d).y (ZC d).m
 exact ⟨h1,h2,h4,h5,this.1,by omega,this.2⟩
def ZhT (x : Mom) : Prop:=(1 ≤ x.d.y ∧ x.d.y ≤ 9999) ∧ (1 ≤ x.d.m ∧ x.d.m ≤ 12) ∧ (1 ≤ x.d.d ∧ x.d.d ≤ 31) ∧ (0 ≤ x.t.h ∧ x.t.h < 24) ∧ (0 ≤ x.t.m ∧ x.t.m < 60) ∧ (0 ≤ x.t.s ∧ x.t.s < 60) ∧ x.d.d ≤ Xo x.d.y x.d.m
theorem dtx {x : Dat} (h : 1 ≤ x.y ∧ x.y ≤ 9999) (h2 : 1 ≤ x.m ∧ x.m ≤ 12) (h3 : 1 ≤ x.d ∧ x.d ≤ 31) : Z8 x.y 4 ++ [45] ++ Z8 x.m 2 ++ [45] ++ Z8 x.d 2 = Qf x:=by
 rw [ZeX (by omega) (by omega),ZeX (by omega) (by omega),ZeX (by omega) (by omega)]; rfl
theorem Zyi {x : Dat} (h : 1 ≤ x.y ∧ x.y ≤ 9999) (h2 : 1 ≤ x.m ∧ x.m ≤ 12) (h3 : 1 ≤ x.d ∧ x.d ≤ 31) (h4 : x.d ≤ Xo x.y x.m) : -719162 ≤ Yx x.y x.m x.d ∧ Yx x.y x.m x.d < 2932897:=by
 have h5:=Zyh h h2 h3
 refine ⟨h5.1,?_⟩
 rw [Znz h h2] at h4
 have h0:=Zap x.y
 have h6 : Y3 (YV x.y) (x.m + 1) ≤ 365 + YV x.y:=by unfold Y3; split <;> omega
 have h7:=@ZfE x.y
 have h8:=ZjH (x.y + 1) (9999 - x.y).toNat
 rw [show x.y + 1 + ((9999 - x.y).toNat : Int) = 10000 by omega,Zlh] at h8
 unfold Yx; omega
theorem ZhU {t : Int} (h : -62135596800 ≤ t ∧ t < 253402300800) : ZhT (X7 t):=by
 obtain ⟨h1,h2,h3,h4,h5,h6,h7⟩:=Zn0 (d:=t / 86400) (by omega)
 unfold X7 X6
 refine ⟨⟨h1,h2⟩,⟨h3,h4⟩,⟨h5,h6⟩,?_,?_,?_,h7⟩ <;> simp only <;> omega
theorem Zpm {x : Dat} (h : 1 ≤ x.y ∧ x.y ≤ 9999) (h2 : 1 ≤ x.m ∧ x.m ≤ 12) (h3 : 1 ≤ x.d ∧ x.d ≤ 31) : (Qf x).length = 10:=by
 unfold Qf
 rw [List.length_append,List.length_append,List.length_append,List.length_append,Zcz (show x.y.natAbs < 10 ^ 4 by omega),Zcz (show x.m.natAbs < 10 ^ 2 by omega),Zcz (show x.d.natAbs < 10 ^ 2 by omega)]; rfl
theorem Zwo {x : Mom} (h : ZhT x) : (ZeQ x).length = 19:=by
 obtain ⟨h1,h2,h3,h4,h5,h6,_⟩:=h
 unfold ZeQ
 rw [List.length_append,List.length_append,List.length_append,List.length_append,List.length_append,List.length_append,Zpm h1 h2 h3,Zcz (show x.t.h.natAbs < 10 ^ 2 by omega),Zcz (show x.t.m.natAbs < 10 ^ 2 by omega),Zcz (show x.t.s.natAbs < 10 ^ 2 by omega)]; rfl
theorem Zn1 {t : Int} (h : t = 253402300800) : Zhb = Yk t:=by unfold Yk; rw [if_pos h]
theorem Zn2 {t : Int} (h : ¬ t = 253402300800) : ZeQ (X7 t) = Yk t:=by unfold Yk; rw [if_neg h]
theorem Zpn {t : Int} (h : -62135596800 ≤ t ∧ t ≤ 253402300800) : (Yk t).length ≤ 19:=by
 unfold Yk; split
 ·decide
 ·rw [Zwo (ZhU (by omega))]; exact Nat.le_refl _
theorem Zun (t : Int) : t - 86400 * (t / 86400) = t % 86400:=by omega
theorem Zsw (y : Int) : -719162 + 365 * (y - 1) + (y - 1) / 4 - (y - 1) / 100 + (y - 1) / 400 = ZW y:=rfl
theorem Zuo (h : 1 ≤ y ∧ y ≤ 10001) : Zj (ZW y):=by have:=Zc9 h; constructor <;> omega
theorem ZmH (y : Int) (h : 1 ≤ y ∧ y ≤ 10001) : Zj (ZW y):=Zuo h
theorem ZmI (y m : Int) : Zj (Xo y m):=Zul
theorem Zsx (h : ZW (y + 1) ≤ d) (hd : d < 2932897) (h1 : 1 ≤ y ∧ y ≤ 9999) : 1 ≤ y + 1 ∧ y + 1 ≤ 9999:=by
 refine ⟨by omega,?_⟩
 by_cases e : y = 9999
 ·subst e; rw [show (9999 : Int) + 1 = 10000 from rfl,Zlh] at h; omega
 ·omega
theorem Zup (h1 : ZW y ≤ d) (h2 : d < ZW (y + 1)) : isY d y:=⟨h1,h2⟩
theorem Zwp (h : isY d y) : 0 ≤ d - ZW y ∧ d - ZW y < 365 + YV y ∧ 0 ≤ YV y ∧ YV y ≤ 1:=by
 have h1:=h.1
 have h2:=h.2
 rw [ZfE] at h2
 have:=Zap y
 omega
theorem Zuq (hy : isY d y) (hn : n = d - ZW y - Y3 (YV y) m + 1) (h1 : 1 ≤ n) (hy9 : 1 ≤ y ∧ y ≤ 9999) (h2 : (1 ≤ m ∧ m ≤ 12) ∧ n ≤ Xo y m) : isM (YV y) (d - ZW y) m:=by
 have:=Znz hy9 h2.1
 constructor <;> omega
theorem Zyj (hy : isY d y) (hn : n = d - ZW y - Y3 (YV y) m + 1) (hy9 : 1 ≤ y ∧ y ≤ 9999) (hm : 1 ≤ m ∧ m ≤ 12) (h : Xo y m < n) : m < 12 ∧ n - Xo y m = d - ZW y - Y3 (YV y) (m + 1) + 1 ∧ 1 ≤ n - Xo y m ∧ 0 ≤ Xo y m:=by
 have h1:=Znz hy9 hm
 have h2:=@ZjK y m
 have h3:=Zwp hy
 refine ⟨?_,by omega,by omega,h2.1⟩
 by_cases e : m = 12
 ·subst e
  have : Y3 (YV y) (12 + 1) = 365 + YV y:=by unfold Y3; rw [if_neg (by omega)]; omega
  omega
 ·omega
theorem Zyk (hy : isY d y) (hm : isM (YV y) (d - ZW y) m) (hn : n = d - ZW y - Y3 (YV y) m + 1) (h1 : 1 ≤ m) : (Dat.mk y m n) = ZC d:=by
 rw [← ZhQ hy hm h1]
 congr 1
 unfold Yx; omega
theorem Zak (x : Dat) (h : 1 ≤ x.y ∧ x.y ≤ 9999) (h2 : 1 ≤ x.m ∧ x.m ≤ 12) (h3 : 1 ≤ x.d ∧ x.d ≤ 31) : (Qf x).length ≤ 10:=Nat.le_of_eq (Zpm h h2 h3)
theorem Xa (t : Int) (h : -62135596800 ≤ t ∧ t ≤ 253402300800) : (Yk t).length ≤ 19:=Zpn h
theorem ZK (n : Int) (k : Nat) (h : Zj n) (hk : k ≤ 20) : (Z8 n k).length ≤ 21:=ZmD h hk
theorem X0 (n k : Nat) (h : n < 10 ^ k) : (ZA n k).length ≤ k:=Nat.le_of_eq (Zcz h)
end
end Go.Civ
namespace Go.Civ
set_option linter.unusedVariables false
section
variable {d y m n : Int}
def lpJ (y : Int) : Int:=if y % 4 = 0 then 1 else 0
def XB (y m : Int) : Int:=Y3 (lpJ y) (m + 1) - Y3 (lpJ y) m
theorem Zdw (y : Int) : 0 ≤ lpJ y ∧ lpJ y ≤ 1:=by unfold lpJ; split <;> omega
theorem ZjN : -100 ≤ XB y m ∧ XB y m ≤ 100:=by
 have:=Zdw y
 unfold XB Y3; split <;> split <;> omega
theorem Zpp (h : 1 ≤ m ∧ m ≤ 12) : 28 ≤ XB y m ∧ XB y m ≤ 31:=by
 have:=Zdw y
 unfold XB Y3; split <;> split <;> omega
theorem Zdm (y m : Int) : Zj (XB y m):=by have:=@ZjN y m; constructor <;> omega
theorem Zwr (e : m = 2) (h : y % 4 = 0) : 29 = XB y m:=by subst e; unfold XB lpJ Y3; rw [if_pos h,if_neg (by omega),if_pos (by omega)]; omega
theorem Zws (e : m = 2) (h : ¬ y % 4 = 0) : 28 = XB y m:=by subst e; unfold XB lpJ Y3; rw [if_neg h,if_neg (by omega),if_pos (by omega)]; omega
theorem Zsy (hm : 1 ≤ m ∧ m ≤ 12) (h2 : ¬ m = 2) : XB y m = if m = 4 ∨ m = 6 ∨ m = 9 ∨ m = 11 then 30 else 31:=by
 have hl:=Zdw y
 unfold XB
 have e : m = 1 ∨ m = 3 ∨ m = 4 ∨ m = 5 ∨ m = 6 ∨ m = 7 ∨ m = 8 ∨ m = 9 ∨ m = 10 ∨ m = 11 ∨ m = 12:=by omega
 rcases e with rfl | rfl | rfl | rfl | rfl | rfl | rfl | rfl | rfl | rfl | rfl <;> simp [Y3] <;> omega
theorem ZhV (h2 : ¬ m = 2) (h3 : m = 4 ∨ m = 6 ∨ m = 9 ∨ m = 11) : 30 = XB y m:=by rw [Zsy (by omega) h2,if_pos h3]
theorem Zwt (hm : 1 ≤ m ∧ m ≤ 12) (h2 : ¬ m = 2) (h3 : ¬ (m = 4 ∨ m = 6 ∨ m = 9 ∨ m = 11)) : 31 = XB y m:=by rw [Zsy hm h2,if_neg h3]
def jK (d : Int) : Int:=min 3 ((d - -719164) % 1461 / 365)
def jY (d : Int) : Int:=4 * ((d - -719164) / 1461) + 1 + jK d
def jR (d : Int) : Int:=(d - -719164) % 1461 - 365 * jK d
noncomputable def ZcO (d : Int) : Dat:=⟨jY d,mN (lpJ (jY d)) (jR d),jR d - Y3 (lpJ (jY d)) (mN (lpJ (jY d)) (jR d)) + 1⟩
theorem Zsz {k : Nat} (hc : ¬ (k : Int) < 3 ∨ ¬ 365 ≤ n) (hk : k ≤ 3) (hy : y = 4 * ((d - -719164) / 1461) + 1 + k) (hn : n = (d - -719164) % 1461 - 365 * k ∧ 0 ≤ n) : y = jY d ∧ n = jR d:=by
 have e : jK d = k:=by unfold jK; omega
 unfold jY jR; rw [e]; exact ⟨hy,hn.1⟩
theorem ZjO (hd : -719162 ≤ d ∧ d < 2932897) : 1 ≤ jY d ∧ jY d ≤ 9999 ∧ 0 ≤ jR d ∧ jR d < 365 + lpJ (jY d):=by
 have hk : 0 ≤ jK d ∧ jK d ≤ 3:=by unfold jK; omega
 have h3 : jK d < 3 → jR d < 365:=by unfold jR jK; omega
 have h0 : 0 ≤ jR d:=by unfold jR jK; omega
 have h4 : jR d ≤ 365:=by unfold jR jK; omega
 have hy : 1 ≤ jY d ∧ jY d ≤ 9999:=by unfold jY jK; omega
 refine ⟨hy.1,hy.2,h0,?_⟩
 unfold lpJ
 by_cases e : jY d % 4 = 0
 ·rw [if_pos e]; omega
 ·rw [if_neg e]
  have : ¬ jK d = 3:=fun q=>e (by unfold jY; rw [q]; omega)
  omega
theorem Zs0 (hd : -719162 ≤ d ∧ d < 2932897) (hy : y = jY d) (hn : n = jR d - Y3 (lpJ (jY d)) m) (hm : 1 ≤ m ∧ m ≤ 12) (h : XB y m ≤ n) : m < 12 ∧ n - XB y m = jR d - Y3 (lpJ (jY d)) (m + 1) ∧ 0 ≤ n - XB y m ∧ 0 ≤ XB y m:=by
 subst hy
 have h2:=Zpp (y:=jY d) hm
 have h3:=ZjO hd
 have h4 : XB (jY d) m = Y3 (lpJ (jY d)) (m + 1) - Y3 (lpJ (jY d)) m:=rfl
 refine ⟨?_,by omega,by omega,by omega⟩
 by_cases e : m = 12
 ·subst e
  have:=Zdw (jY d)
  have : Y3 (lpJ (jY d)) (12 + 1) = 365 + lpJ (jY d):=by unfold Y3; rw [if_neg (by omega)]; omega
  omega
 ·omega
theorem Zs1 (hd : -719162 ≤ d ∧ d < 2932897) (hy : y = jY d) (hn : n = jR d - Y3 (lpJ (jY d)) m) (hm : 1 ≤ m ∧ m ≤ 12) (h0 : 0 ≤ n) (h : n < XB y m) : (Dat.mk y m (n + 1)) = ZcO d:=by
 subst hy
 have e : m = mN (lpJ (jY d)) (jR d):=Zno (Zdw _) hm.1 ⟨by omega,by unfold XB at h; omega⟩
 unfold ZcO; rw [← e,hn]
theorem Zyl (hd : -719162 ≤ d ∧ d < 2932897) : 1 ≤ (ZcO d).y ∧ (ZcO d).y ≤ 9999 ∧ yF d ≤ (ZcO d).y + 1:=by
 have h1:=ZjO hd
 refine ⟨h1.1,h1.2.1,?_⟩
 show yF d ≤ jY d + 1
 by_cases e : yF d ≤ jY d + 1
 ·exact e
 ·have h2:=ZjH (jY d + 2) (yF d - (jY d + 2)).toNat
  rw [show jY d + 2 + ((yF d - (jY d + 2)).toNat : Int) = yF d by omega] at h2
  have h3:=(Zb7 hd).2.2.1.1
  exfalso
  have h4 : d < ZW (jY d + 2):=by
   have hk : 0 ≤ jK d ∧ jK d ≤ 3:=by unfold jK; omega
   have h5 : d = -719164 + 1461 * ((d - -719164) / 1461) + 365 * jK d + jR d:=by unfold jR; omega
   have h6 : jY d = 4 * ((d - -719164) / 1461) + 1 + jK d:=rfl
   have h7 : jR d ≤ 365:=by have:=Zdw (jY d); omega
   unfold ZW; omega
  omega
theorem Zym {k : Int} (hn : n = ZW y + Y3 (lpJ y) k) (hk : k = m) (hm : 2 < m) (hx : d = 1) (h4 : decide (y % 4 = 0) = true) (hl : XF y = false) : n - 1 + d - 1 = ZW y + Y3 (YV y) m:=by
 subst hk
 have e1 : lpJ y = 1:=by unfold lpJ; rw [if_pos (of_decide_eq_true h4)]
 have e2 : YV y = 0:=by unfold YV; rw [if_neg (by rw [hl]; simp)]
 rw [e1] at hn; rw [e2,hn]
 unfold Y3; rw [if_neg (by omega),if_neg (by omega)]; omega
theorem Zn3 {k : Int} (hn : n = ZW y + Y3 (lpJ y) k) (hk : k = m) (hx : d = 1) (h : ¬ 2 < m ∨ decide (y % 4 = 0) = false ∨ XF y = true) : n + d - 1 = ZW y + Y3 (YV y) m:=by
 subst hk
 by_cases hm : 2 < k
 ·have e : lpJ y = YV y:=by
   rcases h with h | h | h
   ·omega
   ·have h4:=of_decide_eq_false h
    unfold lpJ YV; rw [if_neg h4,if_neg (fun q=>h4 (ZbJ.1 q).1)]
   ·unfold lpJ YV; rw [if_pos (ZbJ.1 h).1,if_pos h]
  rw [e] at hn; omega
 ·rw [hn]; unfold Y3; rw [if_pos (by omega),if_pos (by omega)]; omega
theorem Zpq (y m : Int) (h : 1 ≤ y ∧ y ≤ 9999) (h2 : 1 ≤ m ∧ m ≤ 12) : Zj (ZW y + Y3 (YV y) m):=by
 have h3:=Zc9 (y:=y) (by omega)
 have h4:=ZdO (m:=m) (by omega) (Zap y)
 constructor <;> omega
theorem Zyn (y : Int) : ZW y + Y3 (YV y) 1 = ZW y:=by rw [ZfQ]; omega
theorem ZjP (hd : -719162 ≤ d ∧ d < 2932897) (h : yF d ≤ y) (hc : 9999 < y ∨ d < ZW y) : yF d ≤ y - 1:=by
 obtain ⟨h1,h2,h3,_⟩:=Zb7 hd
 rcases hc with hc | hc
 ·omega
 ·by_cases e : yF d = y
  ·have:=h3.1; rw [e] at this; omega
  ·omega
theorem Zyo (hd : -719162 ≤ d ∧ d < 2932897) (h9 : y ≤ 9999) (h1 : ZW y ≤ d) (h : yF d ≤ y) : y = yF d:=by
 by_cases e : y = yF d
 ·exact e
 ·have h2:=(Zb7 hd).2.2.1.2
  have h3:=ZkO (a:=yF d) (b:=y) (by omega)
  omega
theorem Zyp (hd : -719162 ≤ d ∧ d < 2932897) (hy : y = yF d) (h : mF d ≤ m) (hc : d < ZW y + Y3 (YV y) m) : mF d ≤ m - 1:=by
 subst hy
 by_cases e : mF d = m
 ·have:=(Zb7 hd).2.2.2.2.2.1; rw [e] at this; omega
 ·omega
theorem Zyq (hd : -719162 ≤ d ∧ d < 2932897) (hy : y = yF d) (hc : ZW y + Y3 (YV y) m ≤ d) (h : mF d ≤ m) (hm : 1 ≤ m ∧ m ≤ 12) : (Dat.mk y m (d - (ZW y + Y3 (YV y) m) + 1)) = ZC d:=by
 subst hy
 have e : m = mF d:=by
  by_cases e : m = mF d
  ·exact e
  ·have h2:=(Zb7 hd).2.2.2.2.2.2
   have h3:=ZkP (Zap (yF d)) (a:=mF d) (b:=m) (Zb7 hd).2.2.2.1 (by omega)
   omega
 subst e
 unfold ZC; congr 1; omega
theorem Zyr {t : Int} (ht : -62135596800 ≤ t ∧ t < 253402300800) : Z8 (ZC (t / 86400)).y 4 ++ [45] ++ Z8 (ZC (t / 86400)).m 2 ++ [45] ++ Z8 (ZC (t / 86400)).d 2 ++ [84] ++ Z8 (t % 86400 / 3600) 2 ++ [58] ++ Z8 (t % 86400 / 60 % 60) 2 ++ [58] ++ Z8 (t % 86400 % 60) 2 = ZeQ (X7 t):=by
 obtain ⟨h1,h2,h3,h4,h5,h6,h7⟩:=Zn0 (d:=t / 86400) (by omega)
 rw [dtx ⟨h1,h2⟩ ⟨h3,h4⟩ ⟨h5,h6⟩,ZeX (q:=t % 86400 / 3600) (by omega) (by omega),ZeX (q:=t % 86400 / 60 % 60) (by omega) (by omega),ZeX (q:=t % 86400 % 60) (by omega) (by omega)]; rfl
end
section
variable {v : Val} {s : Str} {k : Nat} {c : UInt8}
theorem Zn4 (h : Yo v = true) : v.k = 1 ∨ (v.k = 2 ∧ v.s.length ≤ 30) ∨ v.k = 3 ∨ (v.k = 4 ∧ -62135596800 ≤ v.n ∧ v.n ≤ 253402300800):=by
 unfold Yo at h
 split at h
 ·exact .inl ‹_›
 ·split at h
  ·refine .inr (.inl ⟨by assumption,?_⟩)
   simp only [Bool.and_eq_true,decide_eq_true_eq] at h
   exact h.1.2
  ·split at h
   ·exact .inr (.inr (.inl ‹_›))
   ·split at h
    ·refine .inr (.inr (.inr ⟨by assumption,?_⟩))
     simp only [Bool.and_eq_true,decide_eq_true_eq] at h
     exact ⟨h.1.2,h.2⟩
    ·cases h
theorem Z0Q (h : v.k = 1) : Z8 v.n 0 = QK v:=by unfold QK; rw [if_pos h,Zv2]
theorem Zys (h : v.k = 1) : Z8 v.n 1 = QK v:=by unfold QK; rw [if_pos h]
theorem Zs2 (h : v.k = 3) (h1 : v.n = 1) : [116,114,117,101] = QK v:=by unfold QK; rw [if_neg (by omega),if_pos h,if_pos h1]
theorem Zs3 (h : v.k = 3) (h1 : ¬ v.n = 1) : [102,97,108,115,101] = QK v:=by unfold QK; rw [if_neg (by omega),if_pos h,if_neg h1]
theorem Zs4 (h : v.k = 4) (h1 : v.n = 253402300800) : Zhb = QK v:=by unfold QK; rw [if_neg (by omega),if_neg (by omega),if_pos h,← Zn1 h1]
theorem Zs5 (h : v.k = 4) (h1 : ¬ v.n = 253402300800) : ZeQ (X7 v.n) = QK v:=by unfold QK; rw [if_neg (by omega),if_neg (by omega),if_pos h,Zn2 h1]
theorem Z0R {ss : Str} (h1 : ¬ v.k = 1) (h3 : ¬ v.k = 3) (h4 : ¬ v.k = 4) (hs : ss = [34] ++ ZbK (v.s.take k)) (hk : v.s.length ≤ k) : ss ++ [34] = QK v:=by
 unfold QK; rw [if_neg h1,if_neg h3,if_neg h4,hs,List.take_of_length_le hk]
theorem Zlk : ZbK (s ++ [c]) = ZbK s ++ (if c = 34 ∨ c = 92 then [92,c] else [c]):=by unfold ZbK; rw [List.flatMap_append]; simp
theorem Zwu (h : s[k]? = some c) : s.take (k + 1) = s.take k ++ [c]:=by rw [List.take_add_one,h]; rfl
theorem Zs6 : ((c.toNat : Int) = 34) ↔ c = 34:=by
 constructor
 ·intro h; apply UInt8.toNat_inj.1; show c.toNat = 34; omega
 ·intro h; rw [h]; rfl
theorem Zs7 : ((c.toNat : Int) = 92) ↔ c = 92:=by
 constructor
 ·intro h; apply UInt8.toNat_inj.1; show c.toNat = 92; omega
 ·intro h; rw [h]; rfl
theorem Zs8 {ss : Str} (h : ss = [34] ++ ZbK (s.take k)) (hc : s[k]? = some c) (hq : (c.toNat : Int) = 34 ∨ (c.toNat : Int) = 92) : ss ++ [92] ++ [c] = [34] ++ ZbK (s.take (k + 1)):=by
 rw [Zwu hc,Zlk,if_pos (hq.imp Zs6.1 Zs7.1),h]; simp
theorem Zyt {ss : Str} (h : ss = [34] ++ ZbK (s.take k)) (hc : s[k]? = some c) (h1 : ¬ (c.toNat : Int) = 34) (h2 : ¬ (c.toNat : Int) = 92) : ss ++ [c] = [34] ++ ZbK (s.take (k + 1)):=by
 rw [Zwu hc,Zlk,if_neg (fun e=>e.elim (fun q=>h1 (Zs6.2 q)) (fun q=>h2 (Zs7.2 q))),h]; simp
theorem Zyu {ss : Str} (h : ss = [34] ++ ZbK (s.take k)) (hk : k ≤ 30) : ss.length ≤ 100:=by
 have:=ZmJ (s.take k)
 have h2:=List.length_take_le k s
 rw [h]; simp; omega
theorem ZfR (v : Val) (h : Yo v = true) (h64 : Zj v.n) : (QK v).length ≤ 70:=by
 unfold QK
 rcases Zn4 h with h | h | h | h
 ·rw [if_pos h]
  exact Nat.le_trans (ZmD h64 (by decide)) (by decide)
 ·rw [if_neg (by omega),if_neg (by omega),if_neg (by omega)]
  have:=ZmJ v.s
  simp; omega
 ·rw [if_neg (by omega),if_pos h]; split <;> decide
 ·rw [if_neg (by omega),if_neg (by omega),if_pos h.1]
  have:=Zpn h.2; omega
end
end Go.Civ
