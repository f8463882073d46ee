/- Lemmas. -/
import Derived.Test.YthgeclodflmiaaaGreatC08
import Derived.Test.YthgeclodflmiaaaGreatC09
import Derived.Test.YthgeclodflmiaaaGreatC11
import Derived.Laws.Slices
import Derived.Laws.Small
namespace Go.Civ
set_option linter.unusedVariables false

theorem ZeF (x y : UInt8) (a b : List UInt8) : cmpS (x :: a) (y :: b) = if x = y then cmpS a b else Yx (x.toNat : Int) (y.toNat : Int) := by
 unfold cmpS
 by_cases e : x = y
 ·subst e
  rw [if_pos rfl]
  simp [Op.bytesLess]
 ·rw [if_neg e]
  have hn : x.toNat ≠ y.toNat := fun q => e (UInt8.toNat_inj.1 q)
  simp only [Op.bytesLess, List.cons.injEq, e, false_and, if_false]
  have hbe : (x == y) = false := by simpa using e
  rw [hbe]
  simp only [Bool.false_and, Bool.or_false, decide_eq_true_eq]
  unfold Yx
  by_cases k : x < y
  ·rw [if_pos k, if_pos (by rw [UInt8.lt_iff_toNat_lt] at k; omega)]
  ·rw [if_neg k, if_neg (by rw [UInt8.lt_iff_toNat_lt] at k; omega), if_pos (by rw [UInt8.lt_iff_toNat_lt] at k; omega)]
theorem Zfr : ∀ {a b : List UInt8} {k : Nat} {x y : UInt8}, (∀ j, j < k → ∀ c d, a[j]? = some c → b[j]? = some d → c = d) → a[k]? = some x → b[k]? = some y → (x.toNat : Int) ≠ (y.toNat : Int) → cmpS a b = Yx (x.toNat : Int) (y.toNat : Int)
 | c :: a, d :: b, 0, x, y, _, h1, h2, h => by
  simp at h1 h2; subst h1 h2
  rw [ZeF, if_neg fun e => h (by rw [e])]
 | c :: a, d :: b, k + 1, x, y, h0, h1, h2, h => by
  have e := h0 0 (by omega) c d rfl rfl
  rw [ZeF, if_pos e]
  exact Zfr (k := k) (fun j hj c d hc hd => h0 (j + 1) (by omega) c d (by simpa using hc) (by simpa using hd)) (by simpa using h1) (by simpa using h2) h
 | [], _, _, _, _, _, h1, _, _ => by simp at h1
 | _ :: _, [], _, _, _, _, _, h2, _ => by simp at h2
theorem ZdV : ∀ {a b : List UInt8} {k : Nat}, (∀ j, j < k → ∀ c d, a[j]? = some c → b[j]? = some d → c = d) → (a.length ≤ k ∨ b.length ≤ k) → cmpS a b = Yx (a.length : Int) (b.length : Int)
 | [], [], _, _, _ => by simp [cmpS, Op.bytesLess, Yx]
 | [], _ :: _, _, _, _ => by unfold Yx; rw [if_pos (by simp only [List.length_nil, List.length_cons]; omega)]; simp [cmpS, Op.bytesLess]
 | _ :: _, [], _, _, _ => by unfold Yx; rw [if_neg (by simp only [List.length_nil, List.length_cons]; omega), if_pos (by simp only [List.length_nil, List.length_cons]; omega)]; simp [cmpS, Op.bytesLess]
 | c :: a, d :: b, k, h0, h => by
  have hk : 0 < k := by simp at h; omega
  have e := h0 0 hk c d rfl rfl
  rw [ZeF, if_pos e, ZdV (k := k - 1) (fun j hj c d hc hd => h0 (j + 1) (by omega) c d (by simpa using hc) (by simpa using hd)) (by simp at h; omega)]
  unfold Yx; simp only [List.length_cons]
  split <;> split <;> (try split) <;> (try split) <;> omega
theorem Znj {a b : Int} (h : a ≠ b) : Yx a b ≠ 0 := fun e => h ((ZaA.eq a b).1 e)
theorem ZsW {x y : Val} (h : x.k ≠ y.k) : cmpV x y = Yx x.k y.k := by unfold cmpV; rw [if_pos (Znj h)]
theorem ZsX {x y : Val} (h : x.k = y.k) (h2 : x.n ≠ y.n) : cmpV x y = Yx x.n y.n := by
 unfold cmpV; rw [if_neg (by rw [h, ZaA.refl]; simp), if_pos (Znj h2)]
theorem Zj8 {x y : Val} (h : x.k = y.k) (h2 : x.n = y.n) : cmpV x y = cmpS x.s y.s := by
 unfold cmpV; rw [if_neg (by rw [h, ZaA.refl]; simp), if_neg (by rw [h2, ZaA.refl]; simp)]
theorem ZhR {α β : Type} {f : α → β → Int} {a : List α} {b : List β} {k : Nat} (h : ∀ j, j < k → ∀ x y, a[j]? = some x → b[j]? = some y → f x y = 0) (hk : a.length ≤ k ∨ b.length ≤ k) : ZL f a b = Yx (a.length : Int) (b.length : Int) :=
 ZcA fun j x y hx hy => h j (by have := (List.getElem?_eq_some_iff.1 hx).1; have := (List.getElem?_eq_some_iff.1 hy).1; omega) x y hx hy

abbrev VV := List (List Val)
def ZaP : VV → List Val → Nat
 | [], _ => 0
 | u :: r, v => if ZL cmpV u v < 0 then ZaP r v + 1 else 0
theorem Zhq : ∀ {out : VV} {v : List Val} {k : Nat}, k ≤ out.length → (∀ j, j < k → ∀ u, out[j]? = some u → ZL cmpV u v < 0) → (∀ u, out[k]? = some u → ¬ ZL cmpV u v < 0) → ZaP out v = k
 | [], v, k, hk, _, _ => by simp at hk; simp [ZaP, hk]
 | u :: r, v, 0, _, _, h => by simp only [ZaP]; rw [if_neg (h u rfl)]
 | u :: r, v, k + 1, hk, h0, h => by
  simp only [ZaP]; rw [if_pos (h0 0 (by omega) u rfl), Zhq (k := k) (by simpa using hk) (fun j hj u hu => h0 (j + 1) (by omega) u (by simpa using hu)) (fun u hu => h u (by simpa using hu))]
theorem Zhr : ∀ (out : VV) (v : List Val), ZaP out v ≤ out.length ∧ (∀ j, j < ZaP out v → ∀ u, out[j]? = some u → ZL cmpV u v < 0) ∧ (∀ u, out[ZaP out v]? = some u → ¬ ZL cmpV u v < 0)
 | [], v => ⟨by simp [ZaP], fun j hj => by simp [ZaP] at hj, fun u hu => by simp at hu⟩
 | u :: r, v => by
  obtain ⟨h1, h2, h3⟩ := Zhr r v
  simp only [ZaP]
  split
  ·rename_i hu
   refine ⟨by simpa using h1, fun j hj w hw => ?_, fun w hw => h3 w (by simpa using hw)⟩
   cases j with
   | zero => simp at hw; subst hw; exact hu
   | succ j => exact h2 j (by omega) w (by simpa using hw)
  ·rename_i hu
   exact ⟨by omega, fun j hj => absurd hj (by omega), fun w hw => by simp at hw; subst hw; exact hu⟩
def Zax (out : VV) (v : List Val) : VV := if out[ZaP out v]? = some v then out else out.take (ZaP out v) ++ [v] ++ out.drop (ZaP out v)
theorem Zps (out : VV) (v : List Val) : (Zax out v).length ≤ out.length + 1 := by
 unfold Zax; split
 ·omega
 ·have := (Zhr out v).1; simp; omega
theorem Zpt {out : VV} {v u : List Val} : u ∈ Zax out v ↔ u ∈ out ∨ u = v := by
 unfold Zax
 split
 ·rename_i h
  constructor
  ·exact .inl
  ·rintro (h1 | rfl)
   ·exact h1
   ·exact List.mem_of_getElem? h
 ·rw [List.mem_append, List.mem_append, List.mem_singleton]
  constructor
  ·rintro ((h | h) | h)
   ·exact .inl (List.mem_of_mem_take h)
   ·exact .inr h
   ·exact .inl (List.mem_of_mem_drop h)
  ·rintro (h | h)
   ·rw [← List.take_append_drop (ZaP out v) out] at h
    rcases List.mem_append.1 h with k | k
    ·exact .inl (.inl k)
    ·exact .inr k
   ·exact .inl (.inr h)
def QT (l : VV) : Prop := l.Pairwise fun x y => ZL cmpV x y < 0
theorem Zpu {out : VV} {v : List Val} (h : QT out) : QT (Zax out v) := by
 unfold Zax
 split
 ·exact h
 ·rename_i hne
  obtain ⟨hp1, hp2, hp3⟩ := Zhr out v
  generalize ZaP out v = i at *
  have low : ∀ u ∈ out.take i, ZL cmpV u v < 0 := fun u hu => by
   obtain ⟨j, hj, rfl⟩ := List.getElem_of_mem hu
   simp only [List.length_take] at hj
   rw [List.getElem_take]
   exact hp2 j (by omega) _ (List.getElem?_eq_getElem (by omega))
  have up : ∀ u ∈ out.drop i, ZL cmpV v u < 0 := fun u hu => by
   obtain ⟨j, hj, rfl⟩ := List.getElem_of_mem hu
   simp only [List.length_drop] at hj
   rw [List.getElem_drop]
   have h0 := hp3 out[i] (List.getElem?_eq_getElem (by omega))
   have hn : out[i] ≠ v := fun e => hne (by rw [List.getElem?_eq_getElem (by omega), e])
   have h1 : ZL cmpV v out[i] < 0 := by
    rcases Int.lt_or_le (ZL cmpV v out[i]) 0 with k | k
    ·exact k
    ·exfalso
     by_cases e : ZL cmpV v out[i] = 0
     ·exact hn ((ord.eq _ _).1 e).symm
     ·exact h0 ((ord.swap _ _).2 (by omega))
   by_cases e : j = 0
   ·subst e; simpa using h1
   ·exact ord.trans _ _ _ h1 (List.pairwise_iff_getElem.1 h i (i + j) (by omega) (by omega) (by omega))
  unfold QT
  rw [List.pairwise_append, List.pairwise_append]
  refine ⟨⟨List.Pairwise.sublist (List.take_sublist _ _) h, by simp, fun y hy z hz => ?_⟩, List.Pairwise.sublist (List.drop_sublist _ _) h, fun y hy z hz => ?_⟩
  ·rw [List.mem_singleton.1 hz]; exact low y hy
  ·rcases List.mem_append.1 hy with hy | hy
   ·exact ord.trans _ _ _ (low y hy) (up z hz)
   ·rw [List.mem_singleton.1 hy]; exact up z hz
theorem Zmj {out : VV} {v : List Val} {k : Nat} (hk : k ≤ out.length) (h0 : ∀ j, j < k → ∀ u, out[j]? = some u → ZL cmpV u v < 0) {u : List Val} (h1 : out[k]? = some u) (h2 : ¬ ZL cmpV u v < 0) (h3 : u = v) : Zax out v = out := by
 subst h3
 unfold Zax
 rw [Zhq hk h0 (fun w hw => by rw [h1] at hw; obtain rfl := Option.some.inj hw; exact h2), if_pos h1]
theorem Zpv {out : VV} {v : List Val} {k : Nat} (hk : k ≤ out.length) (h0 : ∀ j, j < k → ∀ u, out[j]? = some u → ZL cmpV u v < 0) (h2 : ∀ u, out[k]? = some u → ¬ ZL cmpV u v < 0) (h3 : out[k]? ≠ some v) : Zax out v = out.take k ++ [v] ++ out.drop k := by
 unfold Zax
 rw [Zhq hk h0 h2, if_neg h3]
structure Shift (out M : VV) (j : Nat) : Prop where
 len : M.length = out.length + 1
 low : ∀ i, i < j → M[i]? = out[i]?
 high : ∀ i, j < i → i ≤ out.length → M[i]? = out[i - 1]?
theorem Shift.start {out : VV} {u : List Val} : Shift out (out ++ [u]) out.length :=
 ⟨by simp, fun i hi => List.getElem?_append_left hi, fun i h1 h2 => by omega⟩
theorem Shift.step {out M : VV} {j : Nat} {x : List Val} (h : Shift out M j) (hj : 0 < j) (hx : M[j - 1]? = some x) : Shift out (M.set j x) (j - 1) := by
 have hjl : j - 1 < M.length := (List.getElem?_eq_some_iff.1 hx).1
 refine ⟨by rw [List.length_set]; exact h.len, fun i hi => ?_, fun i h1 h2 => ?_⟩
 ·rw [List.getElem?_set, if_neg (by omega)]; exact h.low i (by omega)
 ·rw [List.getElem?_set]
  by_cases e : j = i
  ·subst e
   rw [if_pos rfl]
   split
   ·rw [← hx]; exact h.low _ (by omega)
   ·have := h.len; omega
  ·rw [if_neg e]; exact h.high i (by omega) h2
theorem Shift.done {out M : VV} {k : Nat} {v : List Val} (h : Shift out M k) (hk : k ≤ out.length) : M.set k v = out.take k ++ [v] ++ out.drop k := by
 apply List.ext_getElem?
 intro i
 have hl := h.len
 rw [List.getElem?_set, List.append_assoc, List.getElem?_append, List.length_take, Nat.min_eq_left hk]
 by_cases e : k = i
 ·subst e
  rw [if_pos rfl, if_pos (by omega), if_neg (by omega)]; simp
 ·rw [if_neg e]
  by_cases q : i < k
  ·rw [if_pos q, List.getElem?_take, if_pos q]; exact h.low i q
  ·rw [if_neg q, List.getElem?_append, if_neg (by simp; omega), List.getElem?_drop]
   rcases Nat.lt_or_ge out.length i with r | r
   ·rw [List.getElem?_eq_none (by omega), List.getElem?_eq_none (by simp; omega)]
   ·rw [h.high i (by omega) r]; congr 1; simp; omega

theorem Zc0 {s : Span} (h : ZM s = true) : Xk s = true := by
 have hp := YB h
 unfold ZM at h
 simp only [Bool.and_eq_true, decide_eq_true_eq] at h
 rw [Zrs s h.1.1 h.2]; exact decide_eq_true hp
theorem ZuG {c d : UInt8} (h : (c.toNat : Int) = (d.toNat : Int)) : c = d := UInt8.toNat_inj.1 (by omega)
end Go.Civ
namespace Go.Civ
open Go.RowKit
set_option linter.unusedVariables false
structure HGrp where
 v : List Val
 t : List HRow
def Zbr : Enc HGrp:=(Enc.pair (ValE.slice 32) (HRowE.slice 56)).via fun x=>(x.v,x.t)
theorem QU {G : GH} {x : HGrp} {cs : List Value} (h : Zbr.rep G x cs) : ∃ v u,cs = [v,u] ∧ Sl ValE 32 G v x.v ∧ Sl HRowE 56 G u x.t:=by
 obtain ⟨c1,c2,rfl,⟨v,rfl,h1⟩,u,rfl,h2⟩:=h
 exact ⟨v,u,rfl,h1,h2⟩
theorem ZdW {G : GH} (x : HGrp) {v u : Value} (h1 : Sl ValE 32 G v x.v) (h2 : Sl HRowE 56 G u x.t) : Zbr.rep G x [v,u]:=⟨[v],[u],rfl,⟨v,rfl,h1⟩,u,rfl,h2⟩
def YR (tx : Int) (r : HRow) : Bool:=decide (r.r.x.a ≤ tx) && decide (tx < r.r.x.b)
def Yy (l : List HRow) (tx : Int) : List Span:=(l.filter (YR tx)).map fun r=>r.r.d
def ZI (l : List HRow) (tx : Int) : List Span:=Q1 (Yy l tx)
def Y1 (r : HRow) : Bool:=r.v.all ZK && ZM r.r.d && ZM r.r.x
def Z5 (l : List HRow) : Prop:=∀ r ∈ l,Y1 r = true
def Xy (l : List HRow) (v : List Val) : List HRow:=l.filter fun r=>decide (r.v = v)
def Xb (l : List HRow) : VV:=l.foldl (fun out r=>Zax out r.v) []
def Yo (l : List HRow) : List HGrp:=(Xb l).map fun v=>⟨v,Xy l v⟩
theorem Yd {r : HRow} (h : Y1 r = true) : r.v.all ZK = true ∧ ZM r.r.d = true ∧ ZM r.r.x = true:=by
 unfold Y1 at h; simp only [Bool.and_eq_true] at h; exact ⟨h.1.1,h.1.2,h.2⟩
theorem Zdw {l : List HRow} {k : Nat} {x : HRow} {tx : Int} (h : l[k]? = some x) : Yy (l.take (k + 1)) tx = Yy (l.take k) tx ++ if YR tx x then [x.r.d] else []:=by
 rw [List.take_add_one,h]; unfold Yy; rw [List.filter_append,List.map_append]; congr 1
 simp only [Option.toList]; cases hb : YR tx x <;> simp [hb]
theorem ZdX (l : List HRow) (tx : Int) : (Yy l tx).length ≤ l.length:=by
 unfold Yy; rw [List.length_map]; exact List.length_filter_le _ _
theorem Zhs (l : List HRow) (tx : Int) (k : Nat) : (Yy (l.take k) tx).length ≤ l.length:=Nat.le_trans (ZdX _ _) (List.length_take_le' _ _)
theorem ZaV {l : List HRow} (h : ∀ r ∈ l,ZM r.r.d = true) (tx : Int) : ∀ s ∈ Yy l tx,ZM s = true:=fun s hs=>by
 obtain ⟨r,hr,rfl⟩:=List.mem_map.1 hs
 exact h r (List.mem_filter.1 hr).1
theorem Zcq (l : List HRow) (tx : Int) : (ZI l tx).length ≤ l.length:=Nat.le_trans ZeA (ZdX _ _)
theorem Zg7 (l : List HRow) (r : HRow) : Xb (l ++ [r]) = Zax (Xb l) r.v:=by simp [Xb,List.foldl_append]
theorem ZaB {l : List HRow} {k : Nat} {r : HRow} (h : l[k]? = some r) : Xb (l.take (k + 1)) = Zax (Xb (l.take k)) r.v:=by
 rw [List.take_add_one,h]; exact Zg7 _ _
theorem Zdc : ∀ (n : Nat) (l : List HRow),l.length = n → QT (Xb l) ∧ (∀ v,v ∈ Xb l ↔ ∃ r ∈ l,r.v = v) ∧ (Xb l).length ≤ l.length
 | 0,l,h=>by
  obtain rfl:=List.length_eq_zero_iff.1 h
  exact ⟨List.Pairwise.nil,fun v=>by simp [Xb],Nat.le_refl _⟩
 | n + 1,l,h=>by
  obtain ⟨m,r,rfl⟩ : ∃ m r,l = m ++ [r]:=⟨l.dropLast,l.getLast (by intro e; simp [e] at h),(List.dropLast_concat_getLast _).symm⟩
  obtain ⟨h1,h2,h3⟩:=Zdc n m (by simpa using h)
  rw [Zg7]
  refine ⟨Zpu h1,fun v=>?_,?_⟩
  ·rw [Zpt,h2]
   constructor
   ·rintro (⟨x,hx,rfl⟩ | rfl)
    ·exact ⟨x,by simp [hx],rfl⟩
    ·exact ⟨r,by simp,rfl⟩
   ·rintro ⟨x,hx,rfl⟩
    rcases List.mem_append.1 hx with hx | hx
    ·exact .inl ⟨x,hx,rfl⟩
    ·rw [List.mem_singleton.1 hx]; exact .inr rfl
  ·have:=Zps (Xb m) r.v; rw [List.length_append]; simp only [List.length_singleton]; omega
theorem Q2 (l : List HRow) : QT (Xb l):=(Zdc _ l rfl).1
theorem Zay {l : List HRow} {v : List Val} : v ∈ Xb l ↔ ∃ r ∈ l,r.v = v:=(Zdc _ l rfl).2.1 v
theorem ZhS (l : List HRow) : (Xb l).length ≤ l.length:=(Zdc _ l rfl).2.2
theorem ZiB (l : List HRow) (k : Nat) : (Xb (l.take k)).length ≤ l.length:=Nat.le_trans (ZhS _) (List.length_take_le' _ _)
def Zdx (out : List HGrp) (v : List Val) : Option Nat:=out.findIdx? fun g=>decide (g.v = v)
def ZbF (out : List HGrp) (i : Nat) (r : HRow) : List HGrp:=match out[i]? with
 | some g=>out.set i ⟨g.v,g.t ++ [r]⟩
 | none=>out
def Zdd (out : List HGrp) (r : HRow) : List HGrp:=match Zdx out r.v with
 | some i=>ZbF out i r
 | none=>out ++ [⟨r.v,[r]⟩]
def hgroups (l : List HRow) : List HGrp:=l.foldl Zdd []
structure HInv (l : List HRow) (out : List HGrp) : Prop where
 nd : (out.map HGrp.v).Nodup
 rows : ∀ g ∈ out,g.t = Xy l g.v
 mem : ∀ v,v ∈ out.map HGrp.v ↔ ∃ r ∈ l,r.v = v
theorem ZeG (l : List HRow) (r : HRow) : hgroups (l ++ [r]) = Zdd (hgroups l) r:=by simp [hgroups,List.foldl_append]
theorem ZcH {l : List HRow} {k : Nat} {r : HRow} (h : l[k]? = some r) : hgroups (l.take (k + 1)) = Zdd (hgroups (l.take k)) r:=by
 rw [List.take_add_one,h]; exact ZeG _ _
theorem ZhT {out : List HGrp} {v : List Val} {i : Nat} (h : Zdx out v = some i) : ∃ g,out[i]? = some g ∧ g.v = v:=by
 unfold Zdx at h
 rw [List.findIdx?_eq_some_iff_getElem] at h
 obtain ⟨hl,h1,_⟩:=h
 exact ⟨out[i],List.getElem?_eq_getElem hl,by simpa using h1⟩
theorem Znk {out : List HGrp} {v : List Val} (h : Zdx out v = none) : v ∉ out.map HGrp.v:=by
 unfold Zdx at h
 rw [List.findIdx?_eq_none_iff] at h
 intro hv
 obtain ⟨g,hg,rfl⟩:=List.mem_map.1 hv
 simpa using h g hg
theorem Zht {out : List HGrp} {i : Nat} {g : HGrp} (r : HRow) (h : out[i]? = some g) : ZbF out i r = out.set i ⟨g.v,g.t ++ [r]⟩:=by unfold ZbF; rw [h]
theorem ZeH {out : List HGrp} {i : Nat} {r : HRow} : (ZbF out i r).map HGrp.v = out.map HGrp.v:=by
 unfold ZbF
 split
 ·rename_i g hg
  rw [List.map_set]
  apply List.ext_getElem?
  intro j
  rw [List.getElem?_set]
  split
  ·rename_i hj; subst hj
   rw [List.getElem?_map,hg,List.length_map]
   rw [if_pos (List.getElem?_eq_some_iff.1 hg).1]; rfl
  ·rfl
 ·rfl
theorem ZdY (l : List HRow) (r : HRow) (v : List Val) : Xy (l ++ [r]) v = Xy l v ++ if r.v = v then [r] else []:=by
 unfold Xy; rw [List.filter_append]; congr 1
 by_cases h : r.v = v <;> simp [h]
theorem Zf9 : ∀ (n : Nat) (l : List HRow),l.length = n → HInv l (hgroups l)
 | 0,l,h=>by
  obtain rfl:=List.length_eq_zero_iff.1 h
  exact ⟨by simp [hgroups],fun g hg=>by simp [hgroups] at hg,fun v=>by simp [hgroups]⟩
 | n + 1,l,h=>by
  obtain ⟨m,r,rfl⟩ : ∃ m r,l = m ++ [r]:=⟨l.dropLast,l.getLast (by intro e; simp [e] at h),(List.dropLast_concat_getLast _).symm⟩
  obtain ⟨h1,h2,h3⟩:=Zf9 n m (by simpa using h)
  rw [ZeG]
  unfold Zdd
  cases hi : Zdx (hgroups m) r.v with
  | some i=>
   obtain ⟨g,hg,hgv⟩:=ZhT hi
   simp only
   refine ⟨by rw [ZeH]; exact h1,fun x hx=>?_,fun v=>?_⟩
   ·rw [Zht r hg] at hx
    obtain ⟨j,hj⟩:=List.getElem?_of_mem hx
    rw [List.getElem?_set] at hj
    split at hj
    ·rename_i hij; subst hij
     split at hj
     ·obtain rfl:=Option.some.inj hj
      simp only
      rw [ZdY,if_pos hgv.symm,h2 g (List.mem_of_getElem? hg)]
     ·cases hj
    ·rename_i hij
     rw [ZdY,if_neg,h2 x (List.mem_of_getElem? hj),List.append_nil]
     intro e
     have a1 : (hgroups m |>.map HGrp.v)[i]? = some r.v:=by rw [List.getElem?_map,hg]; simp [hgv]
     have a2 : (hgroups m |>.map HGrp.v)[j]? = some r.v:=by rw [List.getElem?_map,hj]; simp [e]
     have b1:=(List.getElem?_eq_some_iff.1 a1).1
     exact hij ((List.getElem?_inj b1 h1).1 (a1.trans a2.symm))
   ·rw [ZeH,h3]
    constructor
    ·rintro ⟨x,hx,rfl⟩; exact ⟨x,by simp [hx],rfl⟩
    ·rintro ⟨x,hx,rfl⟩
     rcases List.mem_append.1 hx with hx | hx
     ·exact ⟨x,hx,rfl⟩
     ·rw [List.mem_singleton.1 hx,← h3,← hgv]; exact List.mem_map.2 ⟨g,List.mem_of_getElem? hg,rfl⟩
  | none=>
   have hn:=Znk hi
   simp only
   refine ⟨?_,fun x hx=>?_,fun v=>?_⟩
   ·rw [List.map_append,List.nodup_append]
    refine ⟨h1,by simp,fun a ha b hb=>?_⟩
    simp at hb; subst hb
    exact fun e=>hn (e ▸ ha)
   ·rcases List.mem_append.1 hx with hx | hx
    ·rw [ZdY,if_neg,h2 x hx,List.append_nil]
     exact fun e=>hn (e ▸ List.mem_map.2 ⟨x,hx,rfl⟩)
    ·rw [List.mem_singleton.1 hx]
     simp only
     rw [ZdY,if_pos rfl]
     have : Xy m r.v = []:=by
      unfold Xy
      rw [List.filter_eq_nil_iff]
      intro y hy
      simp only [decide_eq_true_eq]
      exact fun e=>hn ((h3 _).2 ⟨y,hy,e⟩)
     rw [this]; rfl
   ·rw [List.map_append,List.mem_append,h3]
    constructor
    ·rintro (⟨x,hx,rfl⟩ | hv)
     ·exact ⟨x,by simp [hx],rfl⟩
     ·simp at hv; subst hv; exact ⟨r,by simp,rfl⟩
    ·rintro ⟨x,hx,rfl⟩
     rcases List.mem_append.1 hx with hx | hx
     ·exact .inl ⟨x,hx,rfl⟩
     ·rw [List.mem_singleton.1 hx]; exact .inr (by simp)
theorem Zcr (l : List HRow) : HInv l (hgroups l):=Zf9 _ l rfl
theorem Znl (out : List HGrp) (r : HRow) : (Zdd out r).length ≤ out.length + 1:=by
 unfold Zdd
 cases Zdx out r.v with
 | none=>simp
 | some i=>simp only; unfold ZbF; split <;> simp
theorem Zdy (l : List HRow) : ∀ k,(hgroups (l.take k)).length ≤ k
 | 0=>by simp [hgroups]
 | k + 1=>by
  have h:=Zdy l k
  cases e : l[k]? with
  | none=>rw [List.take_add_one,e]; simpa using Nat.le_succ_of_le h
  | some r=>rw [ZcH e]; exact Nat.le_trans (Znl _ _) (by omega)
theorem Zr0 {l : List HRow} {s : List HGrp} (hg : ∀ r ∈ l,r.v.all ZK = true) (hp : s.Perm (hgroups l)) (hs : s.Pairwise fun x y=>¬ Xr y.v x.v < 0) : s = Yo l:=by
 have I:=Zcr l
 have hv : ∀ g ∈ s,g.v.all ZK = true:=fun g h=>by
  obtain ⟨r,hr,e⟩:=(I.mem g.v).1 (List.mem_map.2 ⟨g,hp.mem_iff.1 h,rfl⟩)
  rw [← e]; exact hg r hr
 have nd : (s.map HGrp.v).Nodup:=(hp.map HGrp.v).nodup_iff.2 I.nd
 have e1 : s.map HGrp.v = Xb l:=by
  refine Zcd ord ?_ (Q2 l) fun v=>?_
  ·rw [List.pairwise_map]
   have nd2 : s.Pairwise fun x y=>x.v ≠ y.v:=by
    unfold List.Nodup at nd; rw [List.pairwise_map] at nd; exact nd
   refine List.Pairwise.imp_of_mem ?_ (List.Pairwise.and hs nd2)
   intro x y hx hy h
   rw [XM (hv y hy) (hv x hx)] at h
   rcases Int.lt_or_le (ZL cmpV x.v y.v) 0 with k | k
   ·exact k
   ·exfalso
    by_cases e : ZL cmpV x.v y.v = 0
    ·exact h.2 ((ord.eq _ _).1 e)
    ·exact h.1 ((ord.swap _ _).2 (by omega))
  ·rw [(hp.map HGrp.v).mem_iff,I.mem,Zay]
 unfold Yo
 rw [← e1,List.map_map]
 symm
 have : ∀ g ∈ s,((fun v=>(⟨v,Xy l v⟩ : HGrp)) ∘ HGrp.v) g = g:=fun g h=>by
  have:=I.rows g (hp.mem_iff.1 h)
  simp only [Function.comp]
  rw [← this]
 rw [List.map_congr_left this,List.map_id']
structure NS where
 out : List HRow
 now : List Span
 fr : Int
def Xz (v : List Val) (now : List Span) (a b : Int) : List HRow:=now.map fun s=>⟨v,⟨s,⟨a,b⟩⟩⟩
def ZaC (v : List Val) (f : Int → List Span) (s : NS) (c : Int) : NS:=if s.now = f c then s else ⟨s.out ++ Xz v s.now s.fr c,f c,c⟩
def Xc (v : List Val) (f : Int → List Span) (cs : List Int) : NS:=cs.foldl (ZaC v f) ⟨[],[],0⟩
def Ys (l : List HRow) : List Int:=Qn (l.map fun r=>r.r.x)
def ZdZ (g : HGrp) : List HRow:=(Xc g.v (ZI g.t) (Ys g.t)).out
def ZZ (l : List HRow) : List HRow:=(Yo l).flatMap ZdZ
def Zj9 (l : List HRow) (v : List Val) (tx : Int) : List Span:=(l.filter fun r=>YR tx r && decide (r.v = v)).map fun r=>r.r.d
def ZbG (l : List HRow) (v : List Val) (tx : Int) : List Span:=Yr 1 (Zj9 l v tx) []
def ZjA (l : List HRow) : List HRow:=(Xb l).flatMap fun v=>(Xc v (ZbG l v) (Ys l)).out
theorem ZhU {v : List Val} {f : Int → List Span} {cs : List Int} {k : Nat} {c : Int} (h : cs[k]? = some c) : Xc v f (cs.take (k + 1)) = ZaC v f (Xc v f (cs.take k)) c:=by
 rw [List.take_add_one,h]; simp [Xc,List.foldl_append]
theorem Zcs {v : List Val} {f : Int → List Span} {s : NS} {c : Int} (h : s.now = f c) : ZaC v f s c = s:=by unfold ZaC; rw [if_pos h]
theorem ZeI {v : List Val} {f : Int → List Span} {s : NS} {c : Int} (h : s.now ≠ f c) : ZaC v f s c = ⟨s.out ++ Xz v s.now s.fr c,f c,c⟩:=by unfold ZaC; rw [if_neg h]
theorem Znm (l : List HRow) (v : List Val) (tx : Int) : Zj9 l v tx = Yy (Xy l v) tx:=by
 unfold Zj9 Yy Xy; rw [List.filter_filter]
theorem Z5.d {l : List HRow} (h : Z5 l) : ∀ r ∈ l,ZM r.r.d = true:=fun r hr=>(Yd (h r hr)).2.1
theorem Z5.of {l : List HRow} (h : Z5 l) (v : List Val) : Z5 (Xy l v):=fun r hr=>h r (List.mem_filter.1 hr).1
theorem ZbW {l : List HRow} (h : Z5 l) (v : List Val) (tx : Int) : ZbG l v tx = ZI (Xy l v) tx:=by
 unfold ZbG ZI
 rw [Znm]
 exact ZkD fun s hs=>YB (ZaV (h.of v).d tx s hs)
theorem Zfs {v : List Val} {f : Int → List Span} : ∀ (E C : List Int) (s : NS),E.Pairwise (· < ·) → C.Pairwise (· < ·) → (∀ c ∈ C,c ∈ E) →
  (∀ e ∈ E,(∀ c ∈ C,e < c) → f e = s.now) → (∀ c ∈ C,∀ e ∈ E,c ≤ e → (∀ c' ∈ C,c < c' → e < c') → f e = f c) → E.foldl (ZaC v f) s = C.foldl (ZaC v f) s
 | [],[],s,_,_,_,_,_=>rfl
 | [],c :: C,s,_,_,h,_,_=>absurd (h c (by simp)) (by simp)
 | e :: E,C,s,hE,hC,hs,h0,hc=>by
  obtain ⟨hE1,hE2⟩:=List.pairwise_cons.1 hE
  rw [List.foldl_cons]
  by_cases he : e ∈ C
  ·cases C with
   | nil=>cases he
   | cons c C=>
    obtain ⟨hC1,hC2⟩:=List.pairwise_cons.1 hC
    have ec : e = c:=by
     rcases List.mem_cons.1 he with h | h
     ·exact h
     ·have a:=hC1 e h
      rcases List.mem_cons.1 (hs c (by simp)) with h' | h'
      ·exact h'.symm
      ·have:=hE1 c h'; omega
    subst ec
    rw [List.foldl_cons]
    refine Zfs E C _ hE2 hC2 (fun c hcC=>?_) (fun x hx hxC=>?_) (fun c hcC x hx hle hno=>?_)
    ·rcases List.mem_cons.1 (hs c (by simp [hcC])) with h' | h'
     ·have:=hC1 c hcC; omega
     ·exact h'
    ·have hxe:=hE1 x hx
     have e1 : f x = f e:=hc e (by simp) x (by simp [hx]) (by omega) (fun c' hc' hlt=>by
      rcases List.mem_cons.1 hc' with h' | h'
      ·omega
      ·exact hxC c' h')
     rw [e1]
     unfold ZaC
     split
     ·rename_i hn; exact hn.symm
     ·rfl
    ·exact hc c (by simp [hcC]) x (by simp [hx]) hle (fun c' hc' hlt=>by
      rcases List.mem_cons.1 hc' with h' | h'
      ·subst h'; have:=hC1 c hcC; omega
      ·exact hno c' h' hlt)
  ·have hlt : ∀ c ∈ C,e < c:=fun c hcC=>by
    rcases List.mem_cons.1 (hs c hcC) with h' | h'
    ·exact absurd (h' ▸ hcC) he
    ·exact hE1 c h'
   rw [Zcs (h0 e (by simp) hlt).symm]
   refine Zfs E C s hE2 hC (fun c hcC=>?_) (fun x hx hxC=>h0 x (by simp [hx]) hxC) (fun c hcC x hx=>hc c hcC x (by simp [hx]))
   rcases List.mem_cons.1 (hs c hcC) with h' | h'
   ·exact absurd (h' ▸ hcC) he
   ·exact h'
theorem X4 {l : List HRow} {y : Int} : y ∈ Ys l ↔ ∃ r ∈ l,y = r.r.x.a ∨ y = r.r.x.b:=by
 unfold Ys; rw [ZeE]
 constructor
 ·rintro ⟨s,hs,h⟩; obtain ⟨r,hr,rfl⟩:=List.mem_map.1 hs; exact ⟨r,hr,h⟩
 ·rintro ⟨r,hr,h⟩; exact ⟨r.r.x,List.mem_map.2 ⟨r,hr,rfl⟩,h⟩
theorem QO (l : List HRow) : (Ys l).Pairwise (· < ·):=ZhN _
theorem ZhV (l : List HRow) : (Ys l).length ≤ 2 * l.length:=by have:=ZhO (l.map fun r=>r.r.x); rw [List.length_map] at this; exact this
theorem ZeJ {l : List HRow} {x y : Int} (hxy : x ≤ y) (h : ∀ c ∈ Ys l,x < c → y < c) : Yy l y = Yy l x:=by
 unfold Yy
 have : ∀ r ∈ l,YR y r = YR x r:=fun r hr=>by
  have ha:=h r.r.x.a (X4.2 ⟨r,hr, .inl rfl⟩)
  have hb:=h r.r.x.b (X4.2 ⟨r,hr, .inr rfl⟩)
  unfold YR
  have e1 : decide (r.r.x.a ≤ y) = decide (r.r.x.a ≤ x):=decide_eq_decide.2 ⟨fun q=>by omega,fun q=>by omega⟩
  have e2 : decide (y < r.r.x.b) = decide (x < r.r.x.b):=decide_eq_decide.2 ⟨fun q=>by omega,fun q=>by omega⟩
  rw [e1,e2]
 rw [List.filter_congr this]
theorem ZaD : Q1 [] = []:=by simp [Q1,Zgx,Yq]
theorem ZbX {l : List HRow} {x : Int} (hg : Z5 l) (h : ∀ c ∈ Ys l,x < c) : Yy l x = []:=by
 unfold Yy
 have : l.filter (YR x) = []:=by
  rw [List.filter_eq_nil_iff]
  intro r hr hl
  have ha:=h r.r.x.a (X4.2 ⟨r,hr, .inl rfl⟩)
  unfold YR at hl
  simp at hl; omega
 rw [this]; rfl
theorem ZdC {l : List HRow} (hg : Z5 l) : ZZ l = ZjA l:=by
 unfold ZZ ZjA Yo
 rw [List.flatMap_map]
 congr 1
 funext v
 unfold ZdZ
 simp only
 have ef : ZbG l v = ZI (Xy l v):=funext fun tx=>ZbW hg v tx
 rw [ef]
 congr 1
 symm
 refine Zfs _ _ _ (QO l) (QO _) (fun c hc=>?_) (fun e he h=>?_) (fun c hc e he hle h=>?_)
 ·obtain ⟨r,hr,h⟩:=X4.1 hc
  exact X4.2 ⟨r,(List.mem_filter.1 hr).1,h⟩
 ·unfold ZI; rw [ZbX (hg.of v) h]; exact ZaD
 ·unfold ZI; rw [ZeJ hle h]
end Go.Civ
namespace Go.Civ
open Go.RowKit
set_option linter.unusedVariables false
theorem Sl.takeV {α : Type} {E : Enc α} {by_ : Nat} {G : GH} {a : Option Addr} {n len cap : Nat} {l : List α} (h : Sl E by_ G (.slice a len cap) l) (hn : n ≤ l.length) : Sl E by_ G (sliced a 0 n cap E.n) (l.take n):=by
 obtain ⟨a',cap',e,h2,h3,h4,h5⟩:=h
 simp only [Value.slice.injEq] at e
 obtain ⟨rfl,rfl,rfl⟩:=e
 have hl : (l.take n).length = n:=by rw [List.length_take]; omega
 have ev : sliced a 0 n cap E.n = .slice a n cap:=by
  unfold sliced
  cases a <;> simp [Addr.add]
 rw [ev]
 refine ⟨a,cap,by rw [hl],by omega,?_,by omega,fun i x hx=>?_⟩
 ·rw [hl]; exact Nat.le_trans (Nat.mul_le_mul_right _ hn) h3
 ·rw [List.getElem?_take] at hx
  split at hx
  ·exact h5 i x hx
  ·cases hx
theorem Sl.dropV {α : Type} {E : Enc α} {by_ : Nat} {G : GH} {a : Option Addr} {n len cap : Nat} {l : List α} (h : Sl E by_ G (.slice a len cap) l) (hn : n ≤ l.length) : Sl E by_ G (sliced a n len cap E.n) (l.drop n):=by
 obtain ⟨a',cap',e,h2,h3,h4,h5⟩:=h
 simp only [Value.slice.injEq] at e
 obtain ⟨rfl,rfl,rfl⟩:=e
 have hl : (l.drop n).length = l.length - n:=by rw [List.length_drop]
 unfold sliced
 by_cases hc : cap = n
 ·rw [if_pos hc]
  refine ⟨a,cap - n,by rw [hl],by omega,?_,by omega,fun i x hx=>?_⟩
  ·rw [hl]; exact Nat.le_trans (Nat.mul_le_mul_right _ (by omega)) h3
  ·have:=(List.getElem?_eq_some_iff.1 hx).1
   rw [hl] at this; omega
 ·rw [if_neg hc]
  refine ⟨a.map fun p=>p.add (n * E.n),cap - n,by rw [hl],by omega,?_,by omega,fun i x hx=>?_⟩
  ·rw [hl]; exact Nat.le_trans (Nat.mul_le_mul_right _ (by omega)) h3
  ·rw [List.getElem?_drop] at hx
   obtain ⟨p,rfl,hp,hel⟩:=h5 (n + i) x hx
   refine ⟨p.add (n * E.n),rfl,by rw [YG _ _ hp],?_⟩
   have e1 : (p.add (n * E.n)).add (i * E.n) = p.add ((n + i) * E.n):=by
    rw [YG _ _ (by rw [YG _ _ hp]),YG _ _ hp,YG _ _ hp,Nat.add_mul,Nat.add_assoc]
   rw [e1]; exact hel
section
variable {P : Program} {Q : Exit → Env → World → Prop} {ρ : Env} {w : World} {ops : Array Oper} {rest : List Oper} {K : Env → World → Prop}
variable {d : Nat} {ty : TypeId} {pos : String} {af : Array Edge} {g : Option (Nat × Bool)} {G : GH}
theorem Zlc {t e : TypeId} (hu : P.underlying t = some (.slice e)) : P.elem t = e:=by simp [Program.elem,hu]
theorem Ym {α : Type} {E : Enc α} {by_ : Nat} {t e : TypeId} {x hi : Operand} {v : Value} {l : List α} {ti : TI} (hs : Sl E by_ G v l) (n : Nat) (hn : n ≤ l.length) (hu : P.underlying t = some (.slice e)) (ht : Yp P e = some ti) (hE : ti.size = E.n)
  (hw : Region.wanted ⟨some d, .slice t x none (some hi) none,ty,pos,af,g⟩ (Zo ops ρ) = true) (hx : ev ρ x = v) (hh : ev ρ hi = .int .i64 (n : Int))
  (k : ∀ v',Sl E by_ G v' (l.take n) → K (ZC ρ d v') w) : OW P ops ⟨some d, .slice t x none (some hi) none,ty,pos,af,g⟩ ρ w K:=by
 obtain ⟨a,cap,rfl,h2,_⟩:=id hs
 have he:=Zlc hu
 have hu' : P.underlying t = some (.slice (P.elem t)):=by rw [he]; exact hu
 have run : (Instr.sliceAt t (.slice a l.length cap) none (some (.int .i64 (n : Int))) none).run P w = .ok (sliced a 0 n cap E.n) w:=by
  rw [run_sliceAt_slice w t _ _ _ _ hu',run_slice_h w t a l.length cap hu' .i64 (n : Int) (by omega) (by omega),he,XA ht,hE]; rfl
 refine WL.val hw ?_ rfl (k _ (hs.takeV hn))
 simp [execOp,hx,hh,run,Result.andThen]
theorem XZ {α : Type} {E : Enc α} {by_ : Nat} {t e : TypeId} {x lo : Operand} {v : Value} {l : List α} {ti : TI} (hs : Sl E by_ G v l) (n : Nat) (hn : n ≤ l.length) (hu : P.underlying t = some (.slice e)) (ht : Yp P e = some ti) (hE : ti.size = E.n)
  (hw : Region.wanted ⟨some d, .slice t x (some lo) none none,ty,pos,af,g⟩ (Zo ops ρ) = true) (hx : ev ρ x = v) (hh : ev ρ lo = .int .i64 (n : Int))
  (k : ∀ v',Sl E by_ G v' (l.drop n) → K (ZC ρ d v') w) : OW P ops ⟨some d, .slice t x (some lo) none none,ty,pos,af,g⟩ ρ w K:=by
 obtain ⟨a,cap,rfl,h2,_⟩:=id hs
 have he:=Zlc hu
 have hu' : P.underlying t = some (.slice (P.elem t)):=by rw [he]; exact hu
 have run : (Instr.sliceAt t (.slice a l.length cap) (some (.int .i64 (n : Int))) none none).run P w = .ok (sliced a n l.length cap E.n) w:=by
  rw [run_sliceAt_slice w t _ _ _ _ hu',run_slice_l w t a l.length cap hu' .i64 (n : Int) (by omega) (by omega),he,XA ht,hE]; rfl
 refine WL.val hw ?_ rfl (k _ (hs.dropV hn))
 simp [execOp,hx,hh,run,Result.andThen]
theorem Zhu (op : BinOp) (t : TypeId) (x y : Operand) (a b : Bool) : (eqGuard op t x y (.bool a) (.bool b)).run P w = .ok () w:=by
 unfold eqGuard; split <;> simp
theorem Xj {t ty' : TypeId} {x y : Operand} (a b : Bool) (hu : P.underlying t = some .bool)
  (hw : Region.wanted ⟨some d, .binOp .eql t x y ty',ty,pos,af,g⟩ (Zo ops ρ) = true) (hx : ev ρ x = .bool a) (hy : ev ρ y = .bool b)
  (kk : K (ZC ρ d (.bool (a == b))) w) : OW P ops ⟨some d, .binOp .eql t x y ty',ty,pos,af,g⟩ ρ w K:=by
 refine WL.val hw ?_ rfl kk
 simp [execOp,hx,hy,Zhu,run_eql_bool w t a b hu,Result.andThen]
end
section
variable {w0 w w' : World} {X : List Nat} {G0 G G' : GH} {L : Own} {o o' : OB}
end
end Go.Civ
namespace Go.Civ
open Go.RowKit
set_option linter.unusedVariables false
theorem Zta {n : Int} (h0 : 0 ≤ n) (h : n ≤ 9223372036854775807) : IntKind.u64.wrap n = n:=by
 simp only [IntKind.wrap,IntKind.signed,IntKind.bits]
 simp
 omega
section
variable {P : Program} {Q : Exit → Env → World → Prop} {ρ : Env} {w : World} {ops : Array Oper} {rest : List Oper} {K : Env → World → Prop}
variable {d : Nat} {ty : TypeId} {pos : String} {af : Array Edge} {g : Option (Nat × Bool)} {G : GH}
theorem Ztb {t t' : TypeId} {x : Operand} (n : Nat) {k : IntKind} (hs : P.underlying t = some (.int k)) (h : P.underlying t' = some (.int .u64)) (hb : n ≤ 4 * reach)
  (hw : Region.wanted ⟨some d, .convert t t' x,ty,pos,af,g⟩ (Zo ops ρ) = true) (hx : ev ρ x = .int .i64 (n : Int))
  (kk : K (ZC ρ d (.int .u64 (n : Int))) w) : OW P ops ⟨some d, .convert t t' x,ty,pos,af,g⟩ ρ w K:=by
 refine WL.val hw ?_ rfl kk
 have e : IntKind.u64.wrap (n : Int) = (n : Int):=Zta (by omega) (by unfold reach at hb; omega)
 simp [execOp,hx,convert,ZV hs,ZV h,Conv.intToInt,Result.andThen,e]
theorem Zr1 {t ty' : TypeId} {x y : Operand} (n : Nat)
  (hw : Region.wanted ⟨some d, .binOp .shr t x y ty',ty,pos,af,g⟩ (Zo ops ρ) = true) (hx : ev ρ x = .int .u64 (n : Int)) (hy : ev ρ y = .int .u64 1)
  (kk : K (ZC ρ d (.int .u64 ((n / 2 : Nat) : Int))) w) : OW P ops ⟨some d, .binOp .shr t x y ty',ty,pos,af,g⟩ ρ w K:=by
 refine WL.val hw ?_ rfl kk
 have e : (Op.shift .shr .u64 (n : Int) .u64 1) = pure (.int .u64 ((n / 2 : Nat) : Int)):=by
  rw [shift_shr .u64 .u64 (n : Int) 1 (by decide) (by decide)]; simp
 simp [execOp,hx,hy,binOp,eqGuard,e]
theorem Ztc {t t' : TypeId} {x : Operand} (n : Nat) {k : IntKind} (hs : P.underlying t = some (.int k)) (h : P.underlying t' = some (.int .i64)) (hb : n ≤ 4 * reach)
  (hw : Region.wanted ⟨some d, .convert t t' x,ty,pos,af,g⟩ (Zo ops ρ) = true) (hx : ev ρ x = .int .u64 (n : Int))
  (kk : K (ZC ρ d (.int .i64 (n : Int))) w) : OW P ops ⟨some d, .convert t t' x,ty,pos,af,g⟩ ρ w K:=
 ZlA (n : Int) hs h ⟨by omega,by unfold reach at hb; omega⟩ hw hx kk
end
section
variable {α : Type} {pf : α → α → Int} {l L M : List α}
def LoF (l : List α) (i lo : Nat) (p : α → Prop) : Prop:=i = lo ∨ ∃ y,l[i - 1]? = some y ∧ p y
def HiF (l : List α) (j hi : Nat) (p : α → Prop) : Prop:=j = hi ∨ ∃ y,l[j]? = some y ∧ p y
def C1F (pf : α → α → Int) (l : List α) (s lo n : Nat) : Prop:=s = lo ∨ ∃ u v,l[s - 1]? = some u ∧ l[n - s]? = some v ∧ ¬ pf v u < 0
def C2F (pf : α → α → Int) (l : List α) (r hi n : Nat) : Prop:=r = hi ∨ ∃ u v,l[r]? = some u ∧ l[n - r - 1]? = some v ∧ pf v u < 0
theorem LoF.start {i lo : Nat} {p : α → Prop} (h : i = lo) : LoF l i lo p:= .inl h
theorem HiF.start {i lo : Nat} {p : α → Prop} (h : i = lo) : HiF l i lo p:= .inl h
theorem C1F.start {s n : Nat} : C1F pf l s s n:= .inl rfl
theorem C2F.start {s n : Nat} : C2F pf l s s n:= .inl rfl
theorem LoF.step {h lo : Nat} {y : α} {p : α → Prop} (hy : l[h]? = some y) (hp : p y) : LoF l (h + 1) lo p:= .inr ⟨y,hy,hp⟩
theorem HiF.step {h hi : Nat} {y : α} {p : α → Prop} (hy : l[h]? = some y) (hp : p y) : HiF l h hi p:= .inr ⟨y,hy,hp⟩
theorem C1F.step {c n lo : Nat} {u v : α} (hu : l[c]? = some u) (hv : l[n - 1 - c]? = some v) (h : 0 ≤ pf v u) : C1F pf l (c + 1) lo n:=
 .inr ⟨u,v,hu,by rw [show n - (c + 1) = n - 1 - c by omega]; exact hv,by omega⟩
theorem C2F.step {c n hi : Nat} {u v : α} (hu : l[c]? = some u) (hv : l[n - 1 - c]? = some v) (h : pf v u < 0) : C2F pf l c hi n:=
 .inr ⟨u,v,hu,by rw [show n - c - 1 = n - 1 - c by omega]; exact hv,h⟩
inductive Blks (pf : α → α → Int) (L : List α) (bs n : Nat) : Nat → Prop
 | fin {a : Nat} : n ≤ a → Blks pf L bs n a
 | step {a : Nat} : Asc pf L a (min (a + bs) n) → Blks pf L bs n (a + bs) → Blks pf L bs n a
inductive Done (pf : α → α → Int) (L : List α) (bs : Nat) : Nat → Prop
 | zero : Done pf L bs 0
 | snoc {a : Nat} : Done pf L bs a → Asc pf L a (a + bs) → Done pf L bs (a + bs)
variable {bs n a : Nat}
theorem Blks.frame (h : Blks pf L bs n a) (k : ∀ p,a ≤ p → M[p]? = L[p]?) : Blks pf M bs n a:=by
 induction h with
 | fin h=>exact .fin h
 | step h1 h2 ih=>exact .step (h1.frame fun p hp _=>k p hp) (ih fun p hp=>k p (by omega))
theorem Done.frame (h : Done pf L bs a) (k : ∀ p,p < a → M[p]? = L[p]?) : Done pf M bs a:=by
 induction h with
 | zero=>exact .zero
 | snoc h1 h2 ih=>exact .snoc (ih fun p hp=>k p (by omega)) (h2.frame fun p _ hp=>k p hp)
theorem Done.blks (h : Done pf L bs a) (ha : a ≤ n) (k : Blks pf L bs n a) : Blks pf L bs n 0:=by
 induction h with
 | zero=>exact k
 | snoc h1 h2 ih=>exact ih (by omega) (.step (by rw [Nat.min_eq_left ha]; exact h2) k)
theorem Blks.head (h : Blks pf L bs n a) (ha : a < n) : Asc pf L a (min (a + bs) n) ∧ Blks pf L bs n (a + bs):=by
 cases h with
 | fin h=>omega
 | step h1 h2=>exact ⟨h1,h2⟩
theorem Blks.last (h : Asc pf L a n) (ha : n ≤ a + bs) : Blks pf L bs n a:= .step (by rw [Nat.min_eq_right ha]; exact h) (.fin ha)
theorem Blks.rest (h : Blks pf L bs n a) (h2 : a + bs < n) (h3 : n < a + 2 * bs) : Asc pf L a (a + bs) ∧ Asc pf L (a + bs) n:=by
 obtain ⟨k1,k2⟩:=h.head (by omega)
 obtain ⟨k3,_⟩:=k2.head h2
 rw [Nat.min_eq_left (by omega)] at k1
 rw [Nat.min_eq_right (by omega)] at k3
 exact ⟨k1,k3⟩
theorem Blks.one (h : Blks pf L bs n a) (h2 : n ≤ a + bs) : Asc pf L a n:=by
 rcases Nat.lt_or_ge a n with k | k
 ·have:=(h.head k).1
  rwa [Nat.min_eq_right h2] at this
 ·exact Asc.empty (by omega)
theorem Done.ins (h : Done pf L bs a) (k : Ins pf L M a (a + bs) (a + bs)) : Done pf M bs (a + bs):= .snoc (h.frame fun p hp=>k.frame p (by omega)) k.asc
theorem Done.last (h : Done pf L bs a) (k : Ins pf L M a n n) (ha : a ≤ n) (hn : n ≤ a + bs) : Blks pf M bs n 0:=(h.frame (M:=M) fun p hp=>k.frame p (by omega)).blks ha (.last k.asc hn)
end
end Go.Civ
