/- Lemmas. -/
import Derived.Test.YthgeclodflmiaaaGreatM03
import Derived.Test.YthgeclodflmiaaaGreatM08
import Derived.Test.YthgeclodflmiaaaGreatM09
import Derived.Test.YthgeclodflmiaaaGreatM11
import Derived.Shelf.Slices.CompactI
import Derived.Ground.Names2Prog
import Derived.Test.YthgeclodflmiaaaGreatProg
import Derived.Shelf.Small.Strs
import Derived.Ground.NamesProg
namespace Go.Civ
set_option linter.unusedVariables false

theorem ZeC (x y : UInt8) (a b : List UInt8) : cmpS (x :: a) (y :: b) = if x = y then cmpS a b else Yk (x.toNat : Int) (y.toNat : Int) := by
 unfold cmpS
 by_cases e : x = y
 ·subst e
  rw [if_pos rfl]
  simp [Op.bytesLess]
 ·rw [if_neg e]
  have hn : x.toNat ≠ y.toNat := fun q => e (UInt8.toNat_inj.1 q)
  simp only [Op.bytesLess, List.cons.injEq, e, false_and, if_false]
  have hbe : (x == y) = false := by simpa using e
  rw [hbe]
  simp only [Bool.false_and, Bool.or_false, decide_eq_true_eq]
  unfold Yk
  by_cases k : x < y
  ·rw [if_pos k, if_pos (by rw [UInt8.lt_iff_toNat_lt] at k; omega)]
  ·rw [if_neg k, if_neg (by rw [UInt8.lt_iff_toNat_lt] at k; omega), if_pos (by rw [UInt8.lt_iff_toNat_lt] at k; omega)]
theorem Zfx : ∀ {a b : List UInt8} {k : Nat} {x y : UInt8}, (∀ j, j < k → ∀ c d, a[j]? = some c → b[j]? = some d → c = d) → a[k]? = some x → b[k]? = some y → (x.toNat : Int) ≠ (y.toNat : Int) → cmpS a b = Yk (x.toNat : Int) (y.toNat : Int)
 | c :: a, d :: b, 0, x, y, _, h1, h2, h => by
  simp at h1 h2; subst h1 h2
  rw [ZeC, if_neg fun e => h (by rw [e])]
 | c :: a, d :: b, k + 1, x, y, h0, h1, h2, h => by
  have e := h0 0 (by omega) c d rfl rfl
  rw [ZeC, if_pos e]
  exact Zfx (k := k) (fun j hj c d hc hd => h0 (j + 1) (by omega) c d (by simpa using hc) (by simpa using hd)) (by simpa using h1) (by simpa using h2) h
 | [], _, _, _, _, _, h1, _, _ => by simp at h1
 | _ :: _, [], _, _, _, _, _, h2, _ => by simp at h2
theorem ZdR : ∀ {a b : List UInt8} {k : Nat}, (∀ j, j < k → ∀ c d, a[j]? = some c → b[j]? = some d → c = d) → (a.length ≤ k ∨ b.length ≤ k) → cmpS a b = Yk (a.length : Int) (b.length : Int)
 | [], [], _, _, _ => by simp [cmpS, Op.bytesLess, Yk]
 | [], _ :: _, _, _, _ => by unfold Yk; rw [if_pos (by simp only [List.length_nil, List.length_cons]; omega)]; simp [cmpS, Op.bytesLess]
 | _ :: _, [], _, _, _ => by unfold Yk; rw [if_neg (by simp only [List.length_nil, List.length_cons]; omega), if_pos (by simp only [List.length_nil, List.length_cons]; omega)]; simp [cmpS, Op.bytesLess]
 | c :: a, d :: b, k, h0, h => by
  have hk : 0 < k := by simp at h; omega
  have e := h0 0 hk c d rfl rfl
  rw [ZeC, if_pos e, ZdR (k := k - 1) (fun j hj c d hc hd => h0 (j + 1) (by omega) c d (by simpa using hc) (by simpa using hd)) (by simp at h; omega)]
  unfold Yk; simp only [List.length_cons]
  split <;> split <;> (try split) <;> (try split) <;> omega
theorem Znr {a b : Int} (h : a ≠ b) : Yk a b ≠ 0 := fun e => h ((Za2.eq a b).1 e)
theorem Ztr {x y : Val} (h : x.k ≠ y.k) : cmpV x y = Yk x.k y.k := by unfold cmpV; rw [if_pos (Znr h)]
theorem Zts {x y : Val} (h : x.k = y.k) (h2 : x.n ≠ y.n) : cmpV x y = Yk x.n y.n := by
 unfold cmpV; rw [if_neg (by rw [h, Za2.refl]; simp), if_pos (Znr h2)]
theorem ZjI {x y : Val} (h : x.k = y.k) (h2 : x.n = y.n) : cmpV x y = cmpS x.s y.s := by
 unfold cmpV; rw [if_neg (by rw [h, Za2.refl]; simp), if_neg (by rw [h2, Za2.refl]; simp)]
theorem ZhX {α β : Type} {f : α → β → Int} {a : List α} {b : List β} {k : Nat} (h : ∀ j, j < k → ∀ x y, a[j]? = some x → b[j]? = some y → f x y = 0) (hk : a.length ≤ k ∨ b.length ≤ k) : ZC f a b = Yk (a.length : Int) (b.length : Int) :=
 Zc3 fun j x y hx hy => h j (by have := (List.getElem?_eq_some_iff.1 hx).1; have := (List.getElem?_eq_some_iff.1 hy).1; omega) x y hx hy

abbrev VV := List (List Val)
def ZaJ : VV → List Val → Nat
 | [], _ => 0
 | u :: r, v => if ZC cmpV u v < 0 then ZaJ r v + 1 else 0
theorem Zh2 : ∀ {out : VV} {v : List Val} {k : Nat}, k ≤ out.length → (∀ j, j < k → ∀ u, out[j]? = some u → ZC cmpV u v < 0) → (∀ u, out[k]? = some u → ¬ ZC cmpV u v < 0) → ZaJ out v = k
 | [], v, k, hk, _, _ => by simp at hk; simp [ZaJ, hk]
 | u :: r, v, 0, _, _, h => by simp only [ZaJ]; rw [if_neg (h u rfl)]
 | u :: r, v, k + 1, hk, h0, h => by
  simp only [ZaJ]; rw [if_pos (h0 0 (by omega) u rfl), Zh2 (k := k) (by simpa using hk) (fun j hj u hu => h0 (j + 1) (by omega) u (by simpa using hu)) (fun u hu => h u (by simpa using hu))]
theorem Zh3 : ∀ (out : VV) (v : List Val), ZaJ out v ≤ out.length ∧ (∀ j, j < ZaJ out v → ∀ u, out[j]? = some u → ZC cmpV u v < 0) ∧ (∀ u, out[ZaJ out v]? = some u → ¬ ZC cmpV u v < 0)
 | [], v => ⟨by simp [ZaJ], fun j hj => by simp [ZaJ] at hj, fun u hu => by simp at hu⟩
 | u :: r, v => by
  obtain ⟨h1, h2, h3⟩ := Zh3 r v
  simp only [ZaJ]
  split
  ·rename_i hu
   refine ⟨by simpa using h1, fun j hj w hw => ?_, fun w hw => h3 w (by simpa using hw)⟩
   cases j with
   | zero => simp at hw; subst hw; exact hu
   | succ j => exact h2 j (by omega) w (by simpa using hw)
  ·rename_i hu
   exact ⟨by omega, fun j hj => absurd hj (by omega), fun w hw => by simp at hw; subst hw; exact hu⟩
def Zav (out : VV) (v : List Val) : VV := if out[ZaJ out v]? = some v then out else out.take (ZaJ out v) ++ [v] ++ out.drop (ZaJ out v)
theorem Zp5 (out : VV) (v : List Val) : (Zav out v).length ≤ out.length + 1 := by
 unfold Zav; split
 ·omega
 ·have := (Zh3 out v).1; simp; omega
theorem Zp6 {out : VV} {v u : List Val} : u ∈ Zav out v ↔ u ∈ out ∨ u = v := by
 unfold Zav
 split
 ·rename_i h
  constructor
  ·exact .inl
  ·rintro (h1 | rfl)
   ·exact h1
   ·exact List.mem_of_getElem? h
 ·rw [List.mem_append, List.mem_append, List.mem_singleton]
  constructor
  ·rintro ((h | h) | h)
   ·exact .inl (List.mem_of_mem_take h)
   ·exact .inr h
   ·exact .inl (List.mem_of_mem_drop h)
  ·rintro (h | h)
   ·rw [← List.take_append_drop (ZaJ out v) out] at h
    rcases List.mem_append.1 h with k | k
    ·exact .inl (.inl k)
    ·exact .inr k
   ·exact .inl (.inr h)
def Zaf (l : VV) : Prop := l.Pairwise fun x y => ZC cmpV x y < 0
theorem Zp7 {out : VV} {v : List Val} (h : Zaf out) : Zaf (Zav out v) := by
 unfold Zav
 split
 ·exact h
 ·rename_i hne
  obtain ⟨hp1, hp2, hp3⟩ := Zh3 out v
  generalize ZaJ out v = i at *
  have low : ∀ u ∈ out.take i, ZC cmpV u v < 0 := fun u hu => by
   obtain ⟨j, hj, rfl⟩ := List.getElem_of_mem hu
   simp only [List.length_take] at hj
   rw [List.getElem_take]
   exact hp2 j (by omega) _ (List.getElem?_eq_getElem (by omega))
  have up : ∀ u ∈ out.drop i, ZC cmpV v u < 0 := fun u hu => by
   obtain ⟨j, hj, rfl⟩ := List.getElem_of_mem hu
   simp only [List.length_drop] at hj
   rw [List.getElem_drop]
   have h0 := hp3 out[i] (List.getElem?_eq_getElem (by omega))
   have hn : out[i] ≠ v := fun e => hne (by rw [List.getElem?_eq_getElem (by omega), e])
   have h1 : ZC cmpV v out[i] < 0 := by
    rcases Int.lt_or_le (ZC cmpV v out[i]) 0 with k | k
    ·exact k
    ·exfalso
     by_cases e : ZC cmpV v out[i] = 0
     ·exact hn ((ord.eq _ _).1 e).symm
     ·exact h0 ((ord.swap _ _).2 (by omega))
   by_cases e : j = 0
   ·subst e; simpa using h1
   ·exact ord.trans _ _ _ h1 (List.pairwise_iff_getElem.1 h i (i + j) (by omega) (by omega) (by omega))
  unfold Zaf
  rw [List.pairwise_append, List.pairwise_append]
  refine ⟨⟨List.Pairwise.sublist (List.take_sublist _ _) h, by simp, fun y hy z hz => ?_⟩, List.Pairwise.sublist (List.drop_sublist _ _) h, fun y hy z hz => ?_⟩
  ·rw [List.mem_singleton.1 hz]; exact low y hy
  ·rcases List.mem_append.1 hy with hy | hy
   ·exact ord.trans _ _ _ (low y hy) (up z hz)
   ·rw [List.mem_singleton.1 hy]; exact up z hz
theorem Zmr {out : VV} {v : List Val} {k : Nat} (hk : k ≤ out.length) (h0 : ∀ j, j < k → ∀ u, out[j]? = some u → ZC cmpV u v < 0) {u : List Val} (h1 : out[k]? = some u) (h2 : ¬ ZC cmpV u v < 0) (h3 : u = v) : Zav out v = out := by
 subst h3
 unfold Zav
 rw [Zh2 hk h0 (fun w hw => by rw [h1] at hw; obtain rfl := Option.some.inj hw; exact h2), if_pos h1]
theorem Zp8 {out : VV} {v : List Val} {k : Nat} (hk : k ≤ out.length) (h0 : ∀ j, j < k → ∀ u, out[j]? = some u → ZC cmpV u v < 0) (h2 : ∀ u, out[k]? = some u → ¬ ZC cmpV u v < 0) (h3 : out[k]? ≠ some v) : Zav out v = out.take k ++ [v] ++ out.drop k := by
 unfold Zav
 rw [Zh2 hk h0 h2, if_neg h3]
structure Shift (out M : VV) (j : Nat) : Prop where
 len : M.length = out.length + 1
 low : ∀ i, i < j → M[i]? = out[i]?
 high : ∀ i, j < i → i ≤ out.length → M[i]? = out[i - 1]?
theorem Shift.start {out : VV} {u : List Val} : Shift out (out ++ [u]) out.length :=
 ⟨by simp, fun i hi => List.getElem?_append_left hi, fun i h1 h2 => by omega⟩
theorem Shift.step {out M : VV} {j : Nat} {x : List Val} (h : Shift out M j) (hj : 0 < j) (hx : M[j - 1]? = some x) : Shift out (M.set j x) (j - 1) := by
 have hjl : j - 1 < M.length := (List.getElem?_eq_some_iff.1 hx).1
 refine ⟨by rw [List.length_set]; exact h.len, fun i hi => ?_, fun i h1 h2 => ?_⟩
 ·rw [List.getElem?_set, if_neg (by omega)]; exact h.low i (by omega)
 ·rw [List.getElem?_set]
  by_cases e : j = i
  ·subst e
   rw [if_pos rfl]
   split
   ·rw [← hx]; exact h.low _ (by omega)
   ·have := h.len; omega
  ·rw [if_neg e]; exact h.high i (by omega) h2
theorem Shift.done {out M : VV} {k : Nat} {v : List Val} (h : Shift out M k) (hk : k ≤ out.length) : M.set k v = out.take k ++ [v] ++ out.drop k := by
 apply List.ext_getElem?
 intro i
 have hl := h.len
 rw [List.getElem?_set, List.append_assoc, List.getElem?_append, List.length_take, Nat.min_eq_left hk]
 by_cases e : k = i
 ·subst e
  rw [if_pos rfl, if_pos (by omega), if_neg (by omega)]; simp
 ·rw [if_neg e]
  by_cases q : i < k
  ·rw [if_pos q, List.getElem?_take, if_pos q]; exact h.low i q
  ·rw [if_neg q, List.getElem?_append, if_neg (by simp; omega), List.getElem?_drop]
   rcases Nat.lt_or_ge out.length i with r | r
   ·rw [List.getElem?_eq_none (by omega), List.getElem?_eq_none (by simp; omega)]
   ·rw [h.high i (by omega) r]; congr 1; simp; omega

theorem Zct {s : Span} (h : ZF s = true) : YZ s = true := by
 have hp := Y3 h
 unfold ZF at h
 simp only [Bool.and_eq_true, decide_eq_true_eq] at h
 rw [ZrD s h.1.1 h.2]; exact decide_eq_true hp
theorem Zvc {c d : UInt8} (h : (c.toNat : Int) = (d.toNat : Int)) : c = d := UInt8.toNat_inj.1 (by omega)
end Go.Civ
namespace Go.Civ
open Go.RowKit
set_option linter.unusedVariables false
structure HGrp where
 v : List Val
 t : List HRow
def Zbq : Enc HGrp:=(Enc.pair (ValE.slice 32) (HRowE.slice 56)).via fun x=>(x.v,x.t)
theorem QS {G : GH} {x : HGrp} {cs : List Value} (h : Zbq.rep G x cs) : ∃ v u,cs = [v,u] ∧ Sl ValE 32 G v x.v ∧ Sl HRowE 56 G u x.t:=by
 obtain ⟨c1,c2,rfl,⟨v,rfl,h1⟩,u,rfl,h2⟩:=h
 exact ⟨v,u,rfl,h1,h2⟩
theorem ZdS {G : GH} (x : HGrp) {v u : Value} (h1 : Sl ValE 32 G v x.v) (h2 : Sl HRowE 56 G u x.t) : Zbq.rep G x [v,u]:=⟨[v],[u],rfl,⟨v,rfl,h1⟩,u,rfl,h2⟩
def Y7 (tx : Int) (r : HRow) : Bool:=decide (r.r.x.a ≤ tx) && decide (tx < r.r.x.b)
def Yn (l : List HRow) (tx : Int) : List Span:=(l.filter (Y7 tx)).map fun r=>r.r.d
def ZB (l : List HRow) (tx : Int) : List Span:=Qp (Yn l tx)
def Yo (r : HRow) : Bool:=r.v.all ZE && ZF r.r.d && ZF r.r.x
def Z2 (l : List HRow) : Prop:=∀ r ∈ l,Yo r = true
def YM (l : List HRow) (v : List Val) : List HRow:=l.filter fun r=>decide (r.v = v)
def Z8 (l : List HRow) : VV:=l.foldl (fun out r=>Zav out r.v) []
def ZY (l : List HRow) : List HGrp:=(Z8 l).map fun v=>⟨v,YM l v⟩
theorem ZS {r : HRow} (h : Yo r = true) : r.v.all ZE = true ∧ ZF r.r.d = true ∧ ZF r.r.x = true:=by
 unfold Yo at h; simp only [Bool.and_eq_true] at h; exact ⟨h.1.1,h.1.2,h.2⟩
theorem Zdm {l : List HRow} {k : Nat} {x : HRow} {tx : Int} (h : l[k]? = some x) : Yn (l.take (k + 1)) tx = Yn (l.take k) tx ++ if Y7 tx x then [x.r.d] else []:=by
 rw [List.take_add_one,h]; unfold Yn; rw [List.filter_append,List.map_append]; congr 1
 simp only [Option.toList]; cases hb : Y7 tx x <;> simp [hb]
theorem ZdT (l : List HRow) (tx : Int) : (Yn l tx).length ≤ l.length:=by
 unfold Yn; rw [List.length_map]; exact List.length_filter_le _ _
theorem Zh4 (l : List HRow) (tx : Int) (k : Nat) : (Yn (l.take k) tx).length ≤ l.length:=Nat.le_trans (ZdT _ _) (List.length_take_le' _ _)
theorem ZaP {l : List HRow} (h : ∀ r ∈ l,ZF r.r.d = true) (tx : Int) : ∀ s ∈ Yn l tx,ZF s = true:=fun s hs=>by
 obtain ⟨r,hr,rfl⟩:=List.mem_map.1 hs
 exact h r (List.mem_filter.1 hr).1
theorem Zbr (l : List HRow) (tx : Int) : (ZB l tx).length ≤ l.length:=Nat.le_trans ZcO (ZdT _ _)
theorem ZgI (l : List HRow) (r : HRow) : Z8 (l ++ [r]) = Zav (Z8 l) r.v:=by simp [Z8,List.foldl_append]
theorem Za3 {l : List HRow} {k : Nat} {r : HRow} (h : l[k]? = some r) : Z8 (l.take (k + 1)) = Zav (Z8 (l.take k)) r.v:=by
 rw [List.take_add_one,h]; exact ZgI _ _
theorem ZcV : ∀ (n : Nat) (l : List HRow),l.length = n → Zaf (Z8 l) ∧ (∀ v,v ∈ Z8 l ↔ ∃ r ∈ l,r.v = v) ∧ (Z8 l).length ≤ l.length
 | 0,l,h=>by
  obtain rfl:=List.length_eq_zero_iff.1 h
  exact ⟨List.Pairwise.nil,fun v=>by simp [Z8],Nat.le_refl _⟩
 | n + 1,l,h=>by
  obtain ⟨m,r,rfl⟩ : ∃ m r,l = m ++ [r]:=⟨l.dropLast,l.getLast (by intro e; simp [e] at h),(List.dropLast_concat_getLast _).symm⟩
  obtain ⟨h1,h2,h3⟩:=ZcV n m (by simpa using h)
  rw [ZgI]
  refine ⟨Zp7 h1,fun v=>?_,?_⟩
  ·rw [Zp6,h2]
   constructor
   ·rintro (⟨x,hx,rfl⟩ | rfl)
    ·exact ⟨x,by simp [hx],rfl⟩
    ·exact ⟨r,by simp,rfl⟩
   ·rintro ⟨x,hx,rfl⟩
    rcases List.mem_append.1 hx with hx | hx
    ·exact .inl ⟨x,hx,rfl⟩
    ·rw [List.mem_singleton.1 hx]; exact .inr rfl
  ·have:=Zp5 (Z8 m) r.v; rw [List.length_append]; simp only [List.length_singleton]; omega
theorem XZ (l : List HRow) : Zaf (Z8 l):=(ZcV _ l rfl).1
theorem Qa {l : List HRow} {v : List Val} : v ∈ Z8 l ↔ ∃ r ∈ l,r.v = v:=(ZcV _ l rfl).2.1 v
theorem ZeD (l : List HRow) : (Z8 l).length ≤ l.length:=(ZcV _ l rfl).2.2
theorem ZiG (l : List HRow) (k : Nat) : (Z8 (l.take k)).length ≤ l.length:=Nat.le_trans (ZeD _) (List.length_take_le' _ _)
def Zdn (out : List HGrp) (v : List Val) : Option Nat:=out.findIdx? fun g=>decide (g.v = v)
def ZbD (out : List HGrp) (i : Nat) (r : HRow) : List HGrp:=match out[i]? with
 | some g=>out.set i ⟨g.v,g.t ++ [r]⟩
 | none=>out
def ZcW (out : List HGrp) (r : HRow) : List HGrp:=match Zdn out r.v with
 | some i=>ZbD out i r
 | none=>out ++ [⟨r.v,[r]⟩]
def hgroups (l : List HRow) : List HGrp:=l.foldl ZcW []
structure HInv (l : List HRow) (out : List HGrp) : Prop where
 nd : (out.map HGrp.v).Nodup
 rows : ∀ g ∈ out,g.t = YM l g.v
 mem : ∀ v,v ∈ out.map HGrp.v ↔ ∃ r ∈ l,r.v = v
theorem ZeE (l : List HRow) (r : HRow) : hgroups (l ++ [r]) = ZcW (hgroups l) r:=by simp [hgroups,List.foldl_append]
theorem ZcA {l : List HRow} {k : Nat} {r : HRow} (h : l[k]? = some r) : hgroups (l.take (k + 1)) = ZcW (hgroups (l.take k)) r:=by
 rw [List.take_add_one,h]; exact ZeE _ _
theorem ZhY {out : List HGrp} {v : List Val} {i : Nat} (h : Zdn out v = some i) : ∃ g,out[i]? = some g ∧ g.v = v:=by
 unfold Zdn at h
 rw [List.findIdx?_eq_some_iff_getElem] at h
 obtain ⟨hl,h1,_⟩:=h
 exact ⟨out[i],List.getElem?_eq_getElem hl,by simpa using h1⟩
theorem Zns {out : List HGrp} {v : List Val} (h : Zdn out v = none) : v ∉ out.map HGrp.v:=by
 unfold Zdn at h
 rw [List.findIdx?_eq_none_iff] at h
 intro hv
 obtain ⟨g,hg,rfl⟩:=List.mem_map.1 hv
 simpa using h g hg
theorem Zh5 {out : List HGrp} {i : Nat} {g : HGrp} (r : HRow) (h : out[i]? = some g) : ZbD out i r = out.set i ⟨g.v,g.t ++ [r]⟩:=by unfold ZbD; rw [h]
theorem ZeF {out : List HGrp} {i : Nat} {r : HRow} : (ZbD out i r).map HGrp.v = out.map HGrp.v:=by
 unfold ZbD
 split
 ·rename_i g hg
  rw [List.map_set]
  apply List.ext_getElem?
  intro j
  rw [List.getElem?_set]
  split
  ·rename_i hj; subst hj
   rw [List.getElem?_map,hg,List.length_map]
   rw [if_pos (List.getElem?_eq_some_iff.1 hg).1]; rfl
  ·rfl
 ·rfl
theorem ZdU (l : List HRow) (r : HRow) (v : List Val) : YM (l ++ [r]) v = YM l v ++ if r.v = v then [r] else []:=by
 unfold YM; rw [List.filter_append]; congr 1
 by_cases h : r.v = v <;> simp [h]
theorem ZfG : ∀ (n : Nat) (l : List HRow),l.length = n → HInv l (hgroups l)
 | 0,l,h=>by
  obtain rfl:=List.length_eq_zero_iff.1 h
  exact ⟨by simp [hgroups],fun g hg=>by simp [hgroups] at hg,fun v=>by simp [hgroups]⟩
 | n + 1,l,h=>by
  obtain ⟨m,r,rfl⟩ : ∃ m r,l = m ++ [r]:=⟨l.dropLast,l.getLast (by intro e; simp [e] at h),(List.dropLast_concat_getLast _).symm⟩
  obtain ⟨h1,h2,h3⟩:=ZfG n m (by simpa using h)
  rw [ZeE]
  unfold ZcW
  cases hi : Zdn (hgroups m) r.v with
  | some i=>
   obtain ⟨g,hg,hgv⟩:=ZhY hi
   simp only
   refine ⟨by rw [ZeF]; exact h1,fun x hx=>?_,fun v=>?_⟩
   ·rw [Zh5 r hg] at hx
    obtain ⟨j,hj⟩:=List.getElem?_of_mem hx
    rw [List.getElem?_set] at hj
    split at hj
    ·rename_i hij; subst hij
     split at hj
     ·obtain rfl:=Option.some.inj hj
      simp only
      rw [ZdU,if_pos hgv.symm,h2 g (List.mem_of_getElem? hg)]
     ·cases hj
    ·rename_i hij
     rw [ZdU,if_neg,h2 x (List.mem_of_getElem? hj),List.append_nil]
     intro e
     have a1 : (hgroups m |>.map HGrp.v)[i]? = some r.v:=by rw [List.getElem?_map,hg]; simp [hgv]
     have a2 : (hgroups m |>.map HGrp.v)[j]? = some r.v:=by rw [List.getElem?_map,hj]; simp [e]
     have b1:=(List.getElem?_eq_some_iff.1 a1).1
     exact hij ((List.getElem?_inj b1 h1).1 (a1.trans a2.symm))
   ·rw [ZeF,h3]
    constructor
    ·rintro ⟨x,hx,rfl⟩; exact ⟨x,by simp [hx],rfl⟩
    ·rintro ⟨x,hx,rfl⟩
     rcases List.mem_append.1 hx with hx | hx
     ·exact ⟨x,hx,rfl⟩
     ·rw [List.mem_singleton.1 hx,← h3,← hgv]; exact List.mem_map.2 ⟨g,List.mem_of_getElem? hg,rfl⟩
  | none=>
   have hn:=Zns hi
   simp only
   refine ⟨?_,fun x hx=>?_,fun v=>?_⟩
   ·rw [List.map_append,List.nodup_append]
    refine ⟨h1,by simp,fun a ha b hb=>?_⟩
    simp at hb; subst hb
    exact fun e=>hn (e ▸ ha)
   ·rcases List.mem_append.1 hx with hx | hx
    ·rw [ZdU,if_neg,h2 x hx,List.append_nil]
     exact fun e=>hn (e ▸ List.mem_map.2 ⟨x,hx,rfl⟩)
    ·rw [List.mem_singleton.1 hx]
     simp only
     rw [ZdU,if_pos rfl]
     have : YM m r.v = []:=by
      unfold YM
      rw [List.filter_eq_nil_iff]
      intro y hy
      simp only [decide_eq_true_eq]
      exact fun e=>hn ((h3 _).2 ⟨y,hy,e⟩)
     rw [this]; rfl
   ·rw [List.map_append,List.mem_append,h3]
    constructor
    ·rintro (⟨x,hx,rfl⟩ | hv)
     ·exact ⟨x,by simp [hx],rfl⟩
     ·simp at hv; subst hv; exact ⟨r,by simp,rfl⟩
    ·rintro ⟨x,hx,rfl⟩
     rcases List.mem_append.1 hx with hx | hx
     ·exact .inl ⟨x,hx,rfl⟩
     ·rw [List.mem_singleton.1 hx]; exact .inr (by simp)
theorem Zcl (l : List HRow) : HInv l (hgroups l):=ZfG _ l rfl
theorem Znt (out : List HGrp) (r : HRow) : (ZcW out r).length ≤ out.length + 1:=by
 unfold ZcW
 cases Zdn out r.v with
 | none=>simp
 | some i=>simp only; unfold ZbD; split <;> simp
theorem Zdo (l : List HRow) : ∀ k,(hgroups (l.take k)).length ≤ k
 | 0=>by simp [hgroups]
 | k + 1=>by
  have h:=Zdo l k
  cases e : l[k]? with
  | none=>rw [List.take_add_one,e]; simpa using Nat.le_succ_of_le h
  | some r=>rw [ZcA e]; exact Nat.le_trans (Znt _ _) (by omega)
theorem ZrL {l : List HRow} {s : List HGrp} (hg : ∀ r ∈ l,r.v.all ZE = true) (hp : s.Perm (hgroups l)) (hs : s.Pairwise fun x y=>¬ Xk y.v x.v < 0) : s = ZY l:=by
 have I:=Zcl l
 have hv : ∀ g ∈ s,g.v.all ZE = true:=fun g h=>by
  obtain ⟨r,hr,e⟩:=(I.mem g.v).1 (List.mem_map.2 ⟨g,hp.mem_iff.1 h,rfl⟩)
  rw [← e]; exact hg r hr
 have nd : (s.map HGrp.v).Nodup:=(hp.map HGrp.v).nodup_iff.2 I.nd
 have e1 : s.map HGrp.v = Z8 l:=by
  refine ZbY ord ?_ (XZ l) fun v=>?_
  ·rw [List.pairwise_map]
   have nd2 : s.Pairwise fun x y=>x.v ≠ y.v:=by
    unfold List.Nodup at nd; rw [List.pairwise_map] at nd; exact nd
   refine List.Pairwise.imp_of_mem ?_ (List.Pairwise.and hs nd2)
   intro x y hx hy h
   rw [XL (hv y hy) (hv x hx)] at h
   rcases Int.lt_or_le (ZC cmpV x.v y.v) 0 with k | k
   ·exact k
   ·exfalso
    by_cases e : ZC cmpV x.v y.v = 0
    ·exact h.2 ((ord.eq _ _).1 e)
    ·exact h.1 ((ord.swap _ _).2 (by omega))
  ·rw [(hp.map HGrp.v).mem_iff,I.mem,Qa]
 unfold ZY
 rw [← e1,List.map_map]
 symm
 have : ∀ g ∈ s,((fun v=>(⟨v,YM l v⟩ : HGrp)) ∘ HGrp.v) g = g:=fun g h=>by
  have:=I.rows g (hp.mem_iff.1 h)
  simp only [Function.comp]
  rw [← this]
 rw [List.map_congr_left this,List.map_id']
structure NS where
 out : List HRow
 now : List Span
 fr : Int
def Xx (v : List Val) (now : List Span) (a b : Int) : List HRow:=now.map fun s=>⟨v,⟨s,⟨a,b⟩⟩⟩
def Za4 (v : List Val) (f : Int → List Span) (s : NS) (c : Int) : NS:=if s.now = f c then s else ⟨s.out ++ Xx v s.now s.fr c,f c,c⟩
def YQ (v : List Val) (f : Int → List Span) (cs : List Int) : NS:=cs.foldl (Za4 v f) ⟨[],[],0⟩
def Yg (l : List HRow) : List Int:=Ys (l.map fun r=>r.r.x)
def ZdV (g : HGrp) : List HRow:=(YQ g.v (ZB g.t) (Yg g.t)).out
def ZT (l : List HRow) : List HRow:=(ZY l).flatMap ZdV
def Qi (l : List HRow) (v : List Val) (tx : Int) : List Span:=(l.filter fun r=>Y7 tx r && decide (r.v = v)).map fun r=>r.r.d
def Xt (l : List HRow) (v : List Val) (tx : Int) : List Span:=ZL 1 (Qi l v tx) []
def ZjJ (l : List HRow) : List HRow:=(Z8 l).flatMap fun v=>(YQ v (Xt l v) (Yg l)).out
theorem ZhZ {v : List Val} {f : Int → List Span} {cs : List Int} {k : Nat} {c : Int} (h : cs[k]? = some c) : YQ v f (cs.take (k + 1)) = Za4 v f (YQ v f (cs.take k)) c:=by
 rw [List.take_add_one,h]; simp [YQ,List.foldl_append]
theorem Zcm {v : List Val} {f : Int → List Span} {s : NS} {c : Int} (h : s.now = f c) : Za4 v f s c = s:=by unfold Za4; rw [if_pos h]
theorem ZeG {v : List Val} {f : Int → List Span} {s : NS} {c : Int} (h : s.now ≠ f c) : Za4 v f s c = ⟨s.out ++ Xx v s.now s.fr c,f c,c⟩:=by unfold Za4; rw [if_neg h]
theorem Znu (l : List HRow) (v : List Val) (tx : Int) : Qi l v tx = Yn (YM l v) tx:=by
 unfold Qi Yn YM; rw [List.filter_filter]
theorem Z2.d {l : List HRow} (h : Z2 l) : ∀ r ∈ l,ZF r.r.d = true:=fun r hr=>(ZS (h r hr)).2.1
theorem Z2.of {l : List HRow} (h : Z2 l) (v : List Val) : Z2 (YM l v):=fun r hr=>h r (List.mem_filter.1 hr).1
theorem ZbR {l : List HRow} (h : Z2 l) (v : List Val) (tx : Int) : Xt l v tx = ZB (YM l v) tx:=by
 unfold Xt ZB
 rw [Znu]
 exact ZkL fun s hs=>Y3 (ZaP (h.of v).d tx s hs)
theorem Zfy {v : List Val} {f : Int → List Span} : ∀ (E C : List Int) (s : NS),E.Pairwise (· < ·) → C.Pairwise (· < ·) → (∀ c ∈ C,c ∈ E) →
  (∀ e ∈ E,(∀ c ∈ C,e < c) → f e = s.now) → (∀ c ∈ C,∀ e ∈ E,c ≤ e → (∀ c' ∈ C,c < c' → e < c') → f e = f c) → E.foldl (Za4 v f) s = C.foldl (Za4 v f) s
 | [],[],s,_,_,_,_,_=>rfl
 | [],c :: C,s,_,_,h,_,_=>absurd (h c (by simp)) (by simp)
 | e :: E,C,s,hE,hC,hs,h0,hc=>by
  obtain ⟨hE1,hE2⟩:=List.pairwise_cons.1 hE
  rw [List.foldl_cons]
  by_cases he : e ∈ C
  ·cases C with
   | nil=>cases he
   | cons c C=>
    obtain ⟨hC1,hC2⟩:=List.pairwise_cons.1 hC
    have ec : e = c:=by
     rcases List.mem_cons.1 he with h | h
     ·exact h
     ·have a:=hC1 e h
      rcases List.mem_cons.1 (hs c (by simp)) with h' | h'
      ·exact h'.symm
      ·have:=hE1 c h'; omega
    subst ec
    rw [List.foldl_cons]
    refine Zfy E C _ hE2 hC2 (fun c hcC=>?_) (fun x hx hxC=>?_) (fun c hcC x hx hle hno=>?_)
    ·rcases List.mem_cons.1 (hs c (by simp [hcC])) with h' | h'
     ·have:=hC1 c hcC; omega
     ·exact h'
    ·have hxe:=hE1 x hx
     have e1 : f x = f e:=hc e (by simp) x (by simp [hx]) (by omega) (fun c' hc' hlt=>by
      rcases List.mem_cons.1 hc' with h' | h'
      ·omega
      ·exact hxC c' h')
     rw [e1]
     unfold Za4
     split
     ·rename_i hn; exact hn.symm
     ·rfl
    ·exact hc c (by simp [hcC]) x (by simp [hx]) hle (fun c' hc' hlt=>by
      rcases List.mem_cons.1 hc' with h' | h'
      ·subst h'; have:=hC1 c hcC; omega
      ·exact hno c' h' hlt)
  ·have hlt : ∀ c ∈ C,e < c:=fun c hcC=>by
    rcases List.mem_cons.1 (hs c hcC) with h' | h'
    ·exact absurd (h' ▸ hcC) he
    ·exact hE1 c h'
   rw [Zcm (h0 e (by simp) hlt).symm]
   refine Zfy E C s hE2 hC (fun c hcC=>?_) (fun x hx hxC=>h0 x (by simp [hx]) hxC) (fun c hcC x hx=>hc c hcC x (by simp [hx]))
   rcases List.mem_cons.1 (hs c hcC) with h' | h'
   ·exact absurd (h' ▸ hcC) he
   ·exact h'
theorem X2 {l : List HRow} {y : Int} : y ∈ Yg l ↔ ∃ r ∈ l,y = r.r.x.a ∨ y = r.r.x.b:=by
 unfold Yg; rw [ZeA]
 constructor
 ·rintro ⟨s,hs,h⟩; obtain ⟨r,hr,rfl⟩:=List.mem_map.1 hs; exact ⟨r,hr,h⟩
 ·rintro ⟨r,hr,h⟩; exact ⟨r.r.x,List.mem_map.2 ⟨r,hr,rfl⟩,h⟩
theorem QM (l : List HRow) : (Yg l).Pairwise (· < ·):=ZhU _
theorem Zia (l : List HRow) : (Yg l).length ≤ 2 * l.length:=by have:=ZcU (l.map fun r=>r.r.x); rw [List.length_map] at this; exact this
theorem ZeH {l : List HRow} {x y : Int} (hxy : x ≤ y) (h : ∀ c ∈ Yg l,x < c → y < c) : Yn l y = Yn l x:=by
 unfold Yn
 have : ∀ r ∈ l,Y7 y r = Y7 x r:=fun r hr=>by
  have ha:=h r.r.x.a (X2.2 ⟨r,hr, .inl rfl⟩)
  have hb:=h r.r.x.b (X2.2 ⟨r,hr, .inr rfl⟩)
  unfold Y7
  have e1 : decide (r.r.x.a ≤ y) = decide (r.r.x.a ≤ x):=decide_eq_decide.2 ⟨fun q=>by omega,fun q=>by omega⟩
  have e2 : decide (y < r.r.x.b) = decide (x < r.r.x.b):=decide_eq_decide.2 ⟨fun q=>by omega,fun q=>by omega⟩
  rw [e1,e2]
 rw [List.filter_congr this]
theorem Za5 : Qp [] = []:=by simp [Qp,Zg6,Yf]
theorem ZbS {l : List HRow} {x : Int} (hg : Z2 l) (h : ∀ c ∈ Yg l,x < c) : Yn l x = []:=by
 unfold Yn
 have : l.filter (Y7 x) = []:=by
  rw [List.filter_eq_nil_iff]
  intro r hr hl
  have ha:=h r.r.x.a (X2.2 ⟨r,hr, .inl rfl⟩)
  unfold Y7 at hl
  simp at hl; omega
 rw [this]; rfl
theorem Zd2 {l : List HRow} (hg : Z2 l) : ZT l = ZjJ l:=by
 unfold ZT ZjJ ZY
 rw [List.flatMap_map]
 congr 1
 funext v
 unfold ZdV
 simp only
 have ef : Xt l v = ZB (YM l v):=funext fun tx=>ZbR hg v tx
 rw [ef]
 congr 1
 symm
 refine Zfy _ _ _ (QM l) (QM _) (fun c hc=>?_) (fun e he h=>?_) (fun c hc e he hle h=>?_)
 ·obtain ⟨r,hr,h⟩:=X2.1 hc
  exact X2.2 ⟨r,(List.mem_filter.1 hr).1,h⟩
 ·unfold ZB; rw [ZbS (hg.of v) h]; exact Za5
 ·unfold ZB; rw [ZeH hle h]
end Go.Civ
namespace Go.Civ
open Go.RowKit
set_option linter.unusedVariables false
theorem Ztv {n : Int} (h0 : 0 ≤ n) (h : n ≤ 9223372036854775807) : IntKind.u64.wrap n = n:=by
 simp only [IntKind.wrap,IntKind.signed,IntKind.bits]
 simp
 omega
section
variable {P : Program} {Q : Exit → Env → World → Prop} {ρ : Env} {w : World} {ops : Array Oper} {rest : List Oper} {K : Env → World → Prop}
variable {d : Nat} {ty : TypeId} {pos : String} {af : Array Edge} {g : Option (Nat × Bool)} {G : GH}
theorem Ztw {t t' : TypeId} {x : Operand} (n : Nat) {k : IntKind} (hs : P.underlying t = some (.int k)) (h : P.underlying t' = some (.int .u64)) (hb : n ≤ 4 * reach)
  (hw : Region.wanted ⟨some d, .convert t t' x,ty,pos,af,g⟩ (Zp ops ρ) = true) (hx : ev ρ x = .int .i64 (n : Int))
  (kk : K (ZA ρ d (.int .u64 (n : Int))) w) : OW P ops ⟨some d, .convert t t' x,ty,pos,af,g⟩ ρ w K:=by
 refine WL.val hw ?_ rfl kk
 have e : IntKind.u64.wrap (n : Int) = (n : Int):=Ztv (by omega) (by unfold reach at hb; omega)
 simp [execOp,hx,convert,ZR hs,ZR h,Conv.intToInt,Result.andThen,e]
theorem ZrM {t ty' : TypeId} {x y : Operand} (n : Nat)
  (hw : Region.wanted ⟨some d, .binOp .shr t x y ty',ty,pos,af,g⟩ (Zp ops ρ) = true) (hx : ev ρ x = .int .u64 (n : Int)) (hy : ev ρ y = .int .u64 1)
  (kk : K (ZA ρ d (.int .u64 ((n / 2 : Nat) : Int))) w) : OW P ops ⟨some d, .binOp .shr t x y ty',ty,pos,af,g⟩ ρ w K:=by
 refine WL.val hw ?_ rfl kk
 have e : (Op.shift .shr .u64 (n : Int) .u64 1) = pure (.int .u64 ((n / 2 : Nat) : Int)):=by
  rw [shift_shr .u64 .u64 (n : Int) 1 (by decide) (by decide)]; simp
 simp [execOp,hx,hy,binOp,eqGuard,e]
theorem Ztx {t t' : TypeId} {x : Operand} (n : Nat) {k : IntKind} (hs : P.underlying t = some (.int k)) (h : P.underlying t' = some (.int .i64)) (hb : n ≤ 4 * reach)
  (hw : Region.wanted ⟨some d, .convert t t' x,ty,pos,af,g⟩ (Zp ops ρ) = true) (hx : ev ρ x = .int .u64 (n : Int))
  (kk : K (ZA ρ d (.int .i64 (n : Int))) w) : OW P ops ⟨some d, .convert t t' x,ty,pos,af,g⟩ ρ w K:=
 ZlK (n : Int) hs h ⟨by omega,by unfold reach at hb; omega⟩ hw hx kk
end
section
variable {α : Type} {pf : α → α → Int} {l L M : List α}
def LoF (l : List α) (i lo : Nat) (p : α → Prop) : Prop:=i = lo ∨ ∃ y,l[i - 1]? = some y ∧ p y
def HiF (l : List α) (j hi : Nat) (p : α → Prop) : Prop:=j = hi ∨ ∃ y,l[j]? = some y ∧ p y
def C1F (pf : α → α → Int) (l : List α) (s lo n : Nat) : Prop:=s = lo ∨ ∃ u v,l[s - 1]? = some u ∧ l[n - s]? = some v ∧ ¬ pf v u < 0
def C2F (pf : α → α → Int) (l : List α) (r hi n : Nat) : Prop:=r = hi ∨ ∃ u v,l[r]? = some u ∧ l[n - r - 1]? = some v ∧ pf v u < 0
theorem LoF.start {i lo : Nat} {p : α → Prop} (h : i = lo) : LoF l i lo p:= .inl h
theorem HiF.start {i lo : Nat} {p : α → Prop} (h : i = lo) : HiF l i lo p:= .inl h
theorem C1F.start {s n : Nat} : C1F pf l s s n:= .inl rfl
theorem C2F.start {s n : Nat} : C2F pf l s s n:= .inl rfl
theorem LoF.step {h lo : Nat} {y : α} {p : α → Prop} (hy : l[h]? = some y) (hp : p y) : LoF l (h + 1) lo p:= .inr ⟨y,hy,hp⟩
theorem HiF.step {h hi : Nat} {y : α} {p : α → Prop} (hy : l[h]? = some y) (hp : p y) : HiF l h hi p:= .inr ⟨y,hy,hp⟩
theorem C1F.step {c n lo : Nat} {u v : α} (hu : l[c]? = some u) (hv : l[n - 1 - c]? = some v) (h : 0 ≤ pf v u) : C1F pf l (c + 1) lo n:=
 .inr ⟨u,v,hu,by rw [show n - (c + 1) = n - 1 - c by omega]; exact hv,by omega⟩
theorem C2F.step {c n hi : Nat} {u v : α} (hu : l[c]? = some u) (hv : l[n - 1 - c]? = some v) (h : pf v u < 0) : C2F pf l c hi n:=
 .inr ⟨u,v,hu,by rw [show n - c - 1 = n - 1 - c by omega]; exact hv,h⟩
inductive Blks (pf : α → α → Int) (L : List α) (bs n : Nat) : Nat → Prop
 | fin {a : Nat} : n ≤ a → Blks pf L bs n a
 | step {a : Nat} : Asc pf L a (min (a + bs) n) → Blks pf L bs n (a + bs) → Blks pf L bs n a
inductive Done (pf : α → α → Int) (L : List α) (bs : Nat) : Nat → Prop
 | zero : Done pf L bs 0
 | snoc {a : Nat} : Done pf L bs a → Asc pf L a (a + bs) → Done pf L bs (a + bs)
variable {bs n a : Nat}
theorem Blks.frame (h : Blks pf L bs n a) (k : ∀ p,a ≤ p → M[p]? = L[p]?) : Blks pf M bs n a:=by
 induction h with
 | fin h=>exact .fin h
 | step h1 h2 ih=>exact .step (h1.frame fun p hp _=>k p hp) (ih fun p hp=>k p (by omega))
theorem Done.frame (h : Done pf L bs a) (k : ∀ p,p < a → M[p]? = L[p]?) : Done pf M bs a:=by
 induction h with
 | zero=>exact .zero
 | snoc h1 h2 ih=>exact .snoc (ih fun p hp=>k p (by omega)) (h2.frame fun p _ hp=>k p hp)
theorem Done.blks (h : Done pf L bs a) (ha : a ≤ n) (k : Blks pf L bs n a) : Blks pf L bs n 0:=by
 induction h with
 | zero=>exact k
 | snoc h1 h2 ih=>exact ih (by omega) (.step (by rw [Nat.min_eq_left ha]; exact h2) k)
theorem Blks.head (h : Blks pf L bs n a) (ha : a < n) : Asc pf L a (min (a + bs) n) ∧ Blks pf L bs n (a + bs):=by
 cases h with
 | fin h=>omega
 | step h1 h2=>exact ⟨h1,h2⟩
theorem Blks.last (h : Asc pf L a n) (ha : n ≤ a + bs) : Blks pf L bs n a:= .step (by rw [Nat.min_eq_right ha]; exact h) (.fin ha)
theorem Blks.rest (h : Blks pf L bs n a) (h2 : a + bs < n) (h3 : n < a + 2 * bs) : Asc pf L a (a + bs) ∧ Asc pf L (a + bs) n:=by
 obtain ⟨k1,k2⟩:=h.head (by omega)
 obtain ⟨k3,_⟩:=k2.head h2
 rw [Nat.min_eq_left (by omega)] at k1
 rw [Nat.min_eq_right (by omega)] at k3
 exact ⟨k1,k3⟩
theorem Blks.one (h : Blks pf L bs n a) (h2 : n ≤ a + bs) : Asc pf L a n:=by
 rcases Nat.lt_or_ge a n with k | k
 ·have:=(h.head k).1
  rwa [Nat.min_eq_right h2] at this
 ·exact Asc.empty (by omega)
theorem Done.ins (h : Done pf L bs a) (k : Ins pf L M a (a + bs) (a + bs)) : Done pf M bs (a + bs):= .snoc (h.frame fun p hp=>k.frame p (by omega)) k.asc
theorem Done.last (h : Done pf L bs a) (k : Ins pf L M a n n) (ha : a ≤ n) (hn : n ≤ a + bs) : Blks pf M bs n 0:=(h.frame (M:=M) fun p hp=>k.frame p (by omega)).blks ha (.last k.asc hn)
end
end Go.Civ
namespace Go.Proofs
open Go.Shelf
def Tryz.laysCompact_ren : Go.Shelf.Ren:=⟨fun | 20=>146 | n=>n,fun | 22=>113 | 3=>3 | 4=>4 | 0=>0 | n=>n,fun | n=>n⟩
theorem Tryz.laysCompact : Go.Proofs.Lays2.n20 Tryz.prog Tryz.laysCompact_ren:={
 mixed:=by kernel_rfl
 f20:=Tryz.func146.trans (congrArg some (by kernel_rfl))
 t0:=Tryz.underlying0
 a0:=Tryz.isAgg0
 z0:=Tryz.sizeOf0
 v0:=Tryz.zeroValue0
 t3:=Tryz.underlying3
 a3:=Tryz.isAgg3
 z3:=Tryz.sizeOf3
 v3:=Tryz.zeroValue3
 t4:=Tryz.underlying4
 a4:=Tryz.isAgg4
 z4:=Tryz.sizeOf4
 v4:=Tryz.zeroValue4
 t22:=Tryz.underlying113
 a22:=Tryz.isAgg113
 z22:=Tryz.sizeOf113
 v22:=Tryz.zeroValue113
 i3:=by kernel_rfl }
end Go.Proofs
set_option linter.unusedVariables false
namespace Go.Civ
open Go.Proofs Go.Shelf Go.RowKit Go.Lib Go.Sort
theorem ZjY (l : List Int) : Zbz l = XM l:=rfl
set_option maxHeartbeats 1000000 in
theorem Zij {G : GH} {w : World} (hG : G.In w) (l : List Int) (vd : Value) (od : OB) (hvd : ZQ Enc.int 8 (nat_lit 3) G vd l od) (hod : QP w G od) :
  Calls Tryz.prog (nat_lit 146) #[vd] w fun e w'=>∃ r G',e = .returned r ∧ Res (Q9 od) w G w' G' ∧ ∃ (o' : OB),ZQ Enc.int 8 (nat_lit 3) G' r (compact l) o' ∧ QP w' G' o' ∧ Q9 o' = Q9 od:=by
 rcases hvd with ⟨rfl,rfl,rfl⟩ | ⟨b,cs,cap,xs,rfl,rfl,h3,h4,h5,h6,h7,h8,h9⟩
 ·exact (Any.slices_Compact_int_empty Tryz.laysCompact none 0 w).mono fun e w' ⟨he,hw⟩=>by
   subst hw
   exact ⟨_,G,he,Res.refl hG,none, .inl ⟨rfl,rfl,rfl⟩,fun p hp=>(by cases hp),rfl⟩
 ·obtain ⟨hb1,hb2⟩:=hod _ rfl
  obtain ⟨rfl,hI⟩:=Zcc l xs h6
  have hE : Enc.int.n = 1:=rfl
  rw [hE,Nat.mul_one] at h5 h7
  have hcell : ∀ t,t < l.length → cs[t]? = some (.int .i64 l[t]!):=fun t ht=>by
   have:=congrArg (·[t]?) h7
   simp only [List.getElem?_take,if_pos ht,List.getElem?_map] at this
   rw [this,List.getElem?_eq_getElem ht,getElem!_pos l t ht]; rfl
  have hH : Holds (Value.int .i64) w b 0 l.toArray:=fun t ht=>by
   have ht' : t < l.length:=by simpa using ht
   refine ⟨?_,?_⟩
   ·rw [Nat.zero_add]
    simp only [World.cell?,hb1,Zag]
    have:=hcell t ht'
    rw [getElem!_pos l t ht'] at this
    rw [getElem!_pos l.toArray t ht]
    simpa using this
   ·simp [World.frozen?,hb1,Zag]
  have hcon:=Any.slices_Compact_int Tryz.laysCompact b 0 cap l w hH (by unfold reach at h9; omega) h3
  refine hcon.mono fun e w' ⟨he,q,hw⟩=>?_
  have hlen:=ZfE l
  have hbl : b < w.heap.size:=(Array.getElem?_eq_some_iff.1 hb1).1
  obtain ⟨z,hz⟩ : ∃ z : List Int,z = compact l ++ List.replicate (l.length - (compact l).length) 0:=⟨_,rfl⟩
  have hzl : z.length = l.length:=by subst hz; simp; omega
  rw [← hz] at hw
  obtain ⟨cs',hcs'⟩ : ∃ cs' : List Value,cs' = (putCells (Value.int .i64) 0 z.toArray cs.toArray).toList:=⟨_,rfl⟩
  have hget : ∀ k,w'.heap[k]? = if b = k then some (.cells cs'.toArray (nat_lit 3) (0,0)) else w.heap[k]? :=fun k=>by
   subst hw
   have hah : (Go.Sort.ahead w q).heap = w.heap:=rfl
   simp only [putRow,mapBlock,hah]
   rw [Array.getElem?_modify]
   by_cases hkb : b = k
   ·subst hkb
    rw [if_pos rfl,if_pos rfl,hb1]
    simp [Zag,onCells,hcs']
   ·rw [if_neg hkb,if_neg hkb]
  have hres : Res [b] w G w' G:=by
   refine ⟨?_,G.le_refl,fun _ _=>rfl,fun k o hk=>?_⟩
   ·refine ⟨by subst hw; rfl,by subst hw; rfl,by subst hw; rfl,by subst hw; exact Nat.le_add_right _ _,?_,fun k hk hkb=>?_⟩
    ·subst hw
     have hah : (Go.Sort.ahead w q).heap = w.heap:=rfl
     simp [putRow,mapBlock]
     try simp [hah]
    ·rw [hget,if_neg (by simpa [eq_comm] using hkb)]
   ·have hkb : b ≠ k:=fun e=>by subst e; simp only at hb2; rw [hb2] at hk; cases hk
    rw [hget,if_neg hkb]; exact hG k o hk
  have hI' : ∀ x ∈ compact l,Zz x:=fun x hx=>by
   unfold compact compactUpTo at hx
   obtain ⟨j,hj,rfl⟩:=List.mem_map.1 hx
   have hj' : j < l.length:=by simpa using (List.mem_filter.1 hj).1
   rw [getElem!_pos l.toArray j (by simpa using hj')]
   exact hI _ (by simp)
  have hby : (compact l).length * 8 ≤ reach:=Nat.le_trans (Nat.mul_le_mul_right _ hlen) h8
  refine ⟨_,G,he,hres,some (b,nat_lit 3,cs'), .inr ⟨b,cs',cap,(compact l).map (Value.int .i64),rfl,rfl,Nat.le_trans hlen h3,h4,?_,ZhA _ hI',?_,hby,Nat.le_trans hlen h9⟩,fun p hp=>?_,rfl⟩
  ·subst hcs'; rw [hE]; simpa [putCells] using h5
  ·rw [hE,Nat.mul_one]
   apply List.ext_getElem?
   intro t
   rw [List.getElem?_take]
   by_cases ht : t < (compact l).length
   ·have htc : t < cs.length:=by omega
    have htz : z[t]? = (compact l)[t]? :=by rw [hz,List.getElem?_append_left ht]
    have htz' : t < z.length:=by omega
    rw [if_pos ht,hcs']
    simp only [putCells,Array.getElem?_toList,Array.getElem?_mapIdx]
    simp only [List.getElem?_toArray]
    rw [List.getElem?_eq_getElem htc,List.getElem?_map,← htz,List.getElem?_eq_getElem htz']
    simp [htz']
   ·rw [if_neg ht,List.getElem?_eq_none]
    simp; omega
  ·obtain rfl:=Option.some.inj hp
   exact ⟨by rw [hget,if_pos rfl]; rfl,hb2⟩
end Go.Civ
namespace Go.Proofs
open Go.Shelf
def Tryz.ixByte_ren : Go.Shelf.Ren:=⟨fun | 137=>172 | 217=>211 | 266=>245 | n=>n,fun | 9=>9 | 5=>5 | 3=>3 | n=>n,fun | n=>n⟩
theorem Tryz.ixByte : Go.Proofs.Lays.n137 Tryz.prog Tryz.ixByte_ren:={
 mixed:=by kernel_rfl
 f137:=Tryz.func172.trans (congrArg some (by kernel_rfl))
 f217:=Tryz.func211.trans (congrArg some (by kernel_rfl))
 f266:=Tryz.func245.trans (congrArg some (by kernel_rfl))
 t3:=Tryz.underlying3
 a3:=Tryz.isAgg3
 z3:=Tryz.sizeOf3
 v3:=Tryz.zeroValue3
 t5:=Tryz.underlying5
 a5:=Tryz.isAgg5
 z5:=Tryz.sizeOf5
 v5:=Tryz.zeroValue5
 t9:=Tryz.underlying9
 a9:=Tryz.isAgg9
 z9:=Tryz.sizeOf9
 v9:=Tryz.zeroValue9 }
end Go.Proofs
set_option linter.unusedVariables false
namespace Go.Civ
open Go.Proofs Go.Shelf Go.RowKit
theorem ZkV {G : GH} {w : World} (hG : G.In w) (s : List UInt8) (c : Int) : Calls Tryz.prog (nat_lit 172) #[Zd s, .int .u8 c] w fun e w'=>∃ r G',e = .returned r ∧ Res [] w G w' G' ∧ r = .int .i64 (Lib.indexByte s c.toNat.toUInt8):=by
 refine (Any.strings_IndexByte Tryz.ixByte ⟨s.toArray⟩ c w).mono ?_
 rintro e w' ⟨rfl,rfl⟩
 exact ⟨_,G,rfl,Res.refl hG,rfl⟩
end Go.Civ
