/- Lemmas. -/
import Derived.Test.YtcopkjhdncdnmaaGreatDoorP13
import Derived.Test.YtcopkjhdncdnmaaGreatDoorP14
import Derived.Laws.Small
set_option linter.unusedSimpArgs false
namespace Go.Civ
set_option linter.unusedVariables false

abbrev VV := List (List Val)
def ZlL : VV → List Val → Nat
 | [], _ => 0
 | u :: r, v => if ZaS cmpV u v < 0 then ZlL r v + 1 else 0
def Zta (out : VV) (v : List Val) : VV := if out[ZlL out v]? = some v then out else out.take (ZlL out v) ++ [v] ++ out.drop (ZlL out v)
def Zou (l : VV) : Prop := l.Pairwise fun x y => ZaS cmpV x y < 0
structure Shift (out M : VV) (j : Nat) : Prop where
 len : M.length = out.length + 1
 low : ∀ i, i < j → M[i]? = out[i]?
 high : ∀ i, j < i → i ≤ out.length → M[i]? = out[i - 1]?
theorem Shift.start {out : VV} {u : List Val} : Shift out (out ++ [u]) out.length :=
 ⟨by simp, fun i hi => List.getElem?_append_left hi, fun i h1 h2 => by omega⟩
theorem Shift.step {out M : VV} {j : Nat} {x : List Val} (h : Shift out M j) (hj : 0 < j) (hx : M[j - 1]? = some x) : Shift out (M.set j x) (j - 1) := by
 have hjl : j - 1 < M.length := (List.getElem?_eq_some_iff.1 hx).1
 refine ⟨by rw [List.length_set]; exact h.len, fun i hi => ?_, fun i h1 h2 => ?_⟩
 ·rw [List.getElem?_set, if_neg (by omega)]; exact h.low i (by omega)
 ·rw [List.getElem?_set]
  by_cases e : j = i
  ·subst e
   rw [if_pos rfl]
   split
   ·rw [← hx]; exact h.low _ (by omega)
   ·have := h.len; omega
  ·rw [if_neg e]; exact h.high i (by omega) h2
theorem Shift.done {out M : VV} {k : Nat} {v : List Val} (h : Shift out M k) (hk : k ≤ out.length) : M.set k v = out.take k ++ [v] ++ out.drop k := by
 apply List.ext_getElem?
 intro i
 have hl := h.len
 rw [List.getElem?_set, List.append_assoc, List.getElem?_append, List.length_take, Nat.min_eq_left hk]
 by_cases e : k = i
 ·subst e
  rw [if_pos rfl, if_pos (by omega), if_neg (by omega)]; simp
 ·rw [if_neg e]
  by_cases q : i < k
  ·rw [if_pos q, List.getElem?_take, if_pos q]; exact h.low i q
  ·rw [if_neg q, List.getElem?_append, if_neg (by simp; omega), List.getElem?_drop]
   rcases Nat.lt_or_ge out.length i with r | r
   ·rw [List.getElem?_eq_none (by omega), List.getElem?_eq_none (by simp; omega)]
   ·rw [h.high i (by omega) r]; congr 1; simp; omega

end Go.Civ
namespace Go.Civ
open Go.RowKit
set_option linter.unusedVariables false
theorem Sl.takeV {α : Type} {E : Enc α} {by_ : Nat} {G : GH} {a : Option Addr} {n len cap : Nat} {l : List α} (h : Sl E by_ G (.slice a len cap) l) (hn : n ≤ l.length) : Sl E by_ G (sliced a 0 n cap E.n) (l.take n):=by
 obtain ⟨a',cap',e,h2,h3,h4,h5⟩:=h
 simp only [Value.slice.injEq] at e
 obtain ⟨rfl,rfl,rfl⟩:=e
 have hl : (l.take n).length = n:=by rw [List.length_take]; omega
 have ev : sliced a 0 n cap E.n = .slice a n cap:=by
  unfold sliced
  cases a <;> simp [Addr.add]
 rw [ev]
 refine ⟨a,cap,by rw [hl],by omega,?_,by omega,fun i x hx=>?_⟩
 ·rw [hl]; exact Nat.le_trans (Nat.mul_le_mul_right _ hn) h3
 ·rw [List.getElem?_take] at hx
  split at hx
  ·exact h5 i x hx
  ·cases hx
section
variable {P : Program} {Q : Exit → Env → World → Prop} {ρ : Env} {w : World} {ops : Array Oper} {rest : List Oper} {K : Env → World → Prop}
variable {d : Nat} {ty : TypeId} {pos : String} {af : Array Edge} {g : Option (Nat × Bool)} {G : GH}
theorem ZpK {t e : TypeId} (hu : P.underlying t = some (.slice e)) : P.elem t = e:=by simp [Program.elem,hu]
theorem ZbY {α : Type} {E : Enc α} {by_ : Nat} {t e : TypeId} {x hi : Operand} {v : Value} {l : List α} {ti : TI} (hs : Sl E by_ G v l) (n : Nat) (hn : n ≤ l.length) (hu : P.underlying t = some (.slice e)) (ht : Y3 P e = some ti) (hE : ti.size = E.n)
  (hw : Region.wanted ⟨some d, .slice t x none (some hi) none,ty,pos,af,g⟩ (ZI ops ρ) = true) (hx : ev ρ x = v) (hh : ev ρ hi = .int .i64 (n : Int))
  (k : ∀ v',Sl E by_ G v' (l.take n) → K (Yq ρ d v') w) : OW P ops ⟨some d, .slice t x none (some hi) none,ty,pos,af,g⟩ ρ w K:=by
 obtain ⟨a,cap,rfl,h2,_⟩:=id hs
 have he:=ZpK hu
 have hu' : P.underlying t = some (.slice (P.elem t)):=by rw [he]; exact hu
 have run : (Instr.sliceAt t (.slice a l.length cap) none (some (.int .i64 (n : Int))) none).run P w = .ok (sliced a 0 n cap E.n) w:=by
  rw [run_sliceAt_slice w t _ _ _ _ hu',run_slice_h w t a l.length cap hu' .i64 (n : Int) (by omega) (by omega),he,XS ht,hE]; rfl
 refine WL.val hw ?_ rfl (k _ (hs.takeV hn))
 simp [execOp,hx,hh,run,Result.andThen]
theorem ZhR (op : BinOp) (t : TypeId) (x y : Operand) (a b : Bool) : (eqGuard op t x y (.bool a) (.bool b)).run P w = .ok () w:=by
 unfold eqGuard; split <;> simp
theorem Za4 {t ty' : TypeId} {x y : Operand} (a b : Bool) (hu : P.underlying t = some .bool)
  (hw : Region.wanted ⟨some d, .binOp .neq t x y ty',ty,pos,af,g⟩ (ZI ops ρ) = true) (hx : ev ρ x = .bool a) (hy : ev ρ y = .bool b)
  (kk : K (Yq ρ d (.bool (!(a == b)))) w) : OW P ops ⟨some d, .binOp .neq t x y ty',ty,pos,af,g⟩ ρ w K:=by
 refine WL.val hw ?_ rfl kk
 simp [execOp,hx,hy,ZhR,run_neq_bool w t a b hu,Result.andThen]
end
section
variable {w0 w w' : World} {X : List Nat} {G0 G G' : GH} {L : Own} {o o' : OB}
end
end Go.Civ
namespace Go.Civ
set_option linter.unusedVariables false
def Zed (a m b p : Nat) : Nat:=if a ≤ p ∧ p < a + (b - m) then p + (m - a) else if a + (b - m) ≤ p ∧ p < b then p - (b - m) else p
def Zga (a b n p : Nat) : Nat:=if a ≤ p ∧ p < a + n then p - a + b else if b ≤ p ∧ p < b + n then p - b + a else p
section
variable {α : Type}
structure Moved (l L : List α) (f : Nat → Nat) : Prop where
 perm : L.Perm l
 map : ∀ p,p < l.length → L[p]? = l[f p]?
variable {l L M : List α} {f g : Nat → Nat}
theorem Moved.len (h : Moved l L f) : L.length = l.length:=h.perm.length_eq
theorem Moved.refl (hf : ∀ p,p < l.length → f p = p) : Moved l l f:=⟨List.Perm.refl _,fun p hp=>by rw [hf p hp]⟩
theorem Moved.swap (h : Moved l L f) {i j : Nat} {x y : α} (hi : L[i]? = some x) (hj : L[j]? = some y) (hij : i ≠ j) (hg : ∀ p,p < l.length → g p = if p = i then f j else if p = j then f i else f p) : Moved l ((L.set i y).set j x) g:=by
 have hil : i < L.length:=(List.getElem?_eq_some_iff.1 hi).1
 have hjl : j < L.length:=(List.getElem?_eq_some_iff.1 hj).1
 have hl:=h.len
 refine ⟨(Zis hij hi hj).trans h.perm,fun p hp=>?_⟩
 rw [hg p hp,List.getElem?_set]
 by_cases h1 : j = p
 ·subst h1
  rw [if_pos rfl,if_pos (by simpa using hjl),if_neg (Ne.symm hij),if_pos rfl,← hi]
  exact h.map i (by omega)
 ·rw [if_neg h1,List.getElem?_set]
  by_cases h2 : i = p
  ·subst h2
   rw [if_pos rfl,if_pos hil,if_pos rfl,← hj]
   exact h.map j (by omega)
  ·rw [if_neg h2,if_neg (Ne.symm h2),if_neg (Ne.symm h1)]; exact h.map p hp
structure RotInv (l M : List α) (a m b i j : Nat) : Prop where
 perm : M.Perm l
 map : ∀ p,p < l.length → M[Zed (m - i) m (m + j) p]? = l[Zed a m b p]?
theorem RotInv.start {a m b : Nat} (h1 : a ≤ m) (h2 : m ≤ b) : RotInv l l a m b (m - a) (b - m):=by
 refine ⟨List.Perm.refl _,fun p hp=>?_⟩
 rw [show m - (m - a) = a by omega,show m + (b - m) = b by omega]
theorem RotInv.len {a m b i j : Nat} (h : RotInv l M a m b i j) : M.length = l.length:=h.perm.length_eq
theorem RotInv.left {a m b i j : Nat} (h : RotInv l M a m b i j) (k : Moved M L (Zga (m - i) m j)) (hij : j < i) (hi : i ≤ m) (hj : m + j ≤ l.length) : RotInv l L a m b (i - j) j:=by
 refine ⟨k.perm.trans h.perm,fun p hp=>?_⟩
 have hl:=h.len
 rw [k.map _ (by rw [hl]; unfold Zed; split <;> (try split) <;> omega),← h.map p hp]
 congr 1
 unfold Zga Zed
 repeat' split
 all_goals omega
theorem RotInv.right {a m b i j : Nat} (h : RotInv l M a m b i j) (k : Moved M L (Zga (m - i) (m + j - i) i)) (hij : i < j) (hi : i ≤ m) (hj : m + j ≤ l.length) : RotInv l L a m b i (j - i):=by
 refine ⟨k.perm.trans h.perm,fun p hp=>?_⟩
 have hl:=h.len
 rw [k.map _ (by rw [hl]; unfold Zed; split <;> (try split) <;> omega),← h.map p hp]
 congr 1
 unfold Zga Zed
 repeat' split
 all_goals omega
theorem RotInv.done {a m b i j : Nat} (h : RotInv l M a m b i j) (k : Moved M L (Zga (m - i) m i)) (hij : i = j) (hi : i ≤ m) (hj : m + j ≤ l.length) : Moved l L (Zed a m b):=by
 subst hij
 refine ⟨k.perm.trans h.perm,fun p hp=>?_⟩
 have hl:=h.len
 rw [k.map p (by omega),← h.map p hp]
 congr 1
 unfold Zga Zed
 repeat' split
 all_goals omega
variable {pf : α → α → Int}
def ZqM (pf : α → α → Int) (l : List α) : Prop:=∀ x ∈ l,∀ y ∈ l,pf x y < 0 → ¬ pf y x < 0
def ZqN (pf : α → α → Int) (l : List α) : Prop:=∀ x ∈ l,∀ y ∈ l,∀ z ∈ l,¬ pf y x < 0 → ¬ pf z y < 0 → ¬ pf z x < 0
def Zsp (pf : α → α → Int) (M : List α) (a mid b : Nat) : Prop:=∀ p q u v,a ≤ p → p < mid → mid ≤ q → q < b → M[p]? = some u → M[q]? = some v → ¬ pf v u < 0
structure Halves (pf : α → α → Int) (l M : List α) (a s mid e b : Nat) : Prop where
 perm : M.Perm l
 frame : ∀ p,p < a ∨ b ≤ p → M[p]? = l[p]?
 s1 : Asc pf M a s
 s2 : Asc pf M s mid
 s3 : Asc pf M mid e
 s4 : Asc pf M e b
 cross : Zsp pf M a mid b
theorem Ins.from_ {a b i p : Nat} {x : α} (h : Ins pf l L a b i) (hab : a ≤ b) (h1 : a ≤ p) (h2 : p < b) (hx : L[p]? = some x) : ∃ q,a ≤ q ∧ q < b ∧ l[q]? = some x:=by
 have hl:=h.len
 have e1 : L.take a = l.take a:=by
  apply List.ext_getElem?; intro k
  rw [List.getElem?_take,List.getElem?_take]
  split
  ·exact h.frame k (by omega)
  ·rfl
 have e2 : L.drop b = l.drop b:=by
  apply List.ext_getElem?; intro k
  rw [List.getElem?_drop,List.getElem?_drop]; exact h.frame _ (by omega)
 have dec : ∀ t : List α,t = t.take a ++ ((t.drop a).take (b - a) ++ t.drop b):=fun t=>by
  rw [show t.drop b = (t.drop a).drop (b - a) by rw [List.drop_drop]; congr 1; omega,List.take_append_drop,List.take_append_drop]
 have hp:=h.perm
 rw [dec L,dec l,e1,e2,List.perm_append_left_iff,List.perm_append_right_iff] at hp
 have hm : x ∈ (L.drop a).take (b - a):=by
  refine List.mem_of_getElem? (i:=p - a) ?_
  rw [List.getElem?_take,if_pos (by omega),List.getElem?_drop,show a + (p - a) = p by omega]; exact hx
 obtain ⟨k,hk⟩:=List.getElem?_of_mem (hp.mem_iff.1 hm)
 rw [List.getElem?_take] at hk
 split at hk
 ·rw [List.getElem?_drop] at hk; exact ⟨a + k,by omega,by omega,hk⟩
 ·cases hk
theorem Asc.empty {a b : Nat} (h : b ≤ a + 1) : Asc pf l a b:=fun p q x y h1 h2 h3=>by omega
theorem Halves.done {a s mid e b : Nat} {M1 M2 : List α} (h : Halves pf l M a s mid e b) (h1 : Ins pf M M1 a mid mid) (h2 : Ins pf M1 M2 mid b b) (ha : a ≤ mid) (hb : mid ≤ b) : Ins pf l M2 a b b:=by
 refine ⟨h2.perm.trans (h1.perm.trans h.perm),fun p hp=>?_,fun p q u v k1 k2 k3 hu hv=>?_⟩
 ·rw [h2.frame p (by omega),h1.frame p (by omega)]; exact h.frame p hp
 ·rcases Nat.lt_or_ge q mid with c | c
  ·rw [h2.frame p (by omega)] at hu; rw [h2.frame q (by omega)] at hv
   exact h1.asc p q u v k1 k2 c hu hv
  ·rcases Nat.lt_or_ge p mid with d | d
   ·rw [h2.frame p (by omega)] at hu
    obtain ⟨p',a1,a2,a3⟩:=h1.from_ ha k1 d hu
    obtain ⟨q',b1,b2,b3⟩:=h2.from_ hb c k3 hv
    rw [h1.frame q' (by omega)] at b3
    exact h.cross p' q' u v a1 a2 b1 b2 a3 b3
   ·exact h2.asc p q u v d k2 k3 hu hv
theorem Ins.same {a b : Nat} (h : Asc pf l a b) : Ins pf l l a b b:=⟨List.Perm.refl _,fun _ _=>rfl,h⟩
theorem Asc.frame {a b : Nat} (h : Asc pf l a b) (k : ∀ p,a ≤ p → p < b → L[p]? = l[p]?) : Asc pf L a b:=fun p q x y h1 h2 h3 hx hy=>by
 rw [k p h1 (by omega)] at hx; rw [k q (by omega) h3] at hy
 exact h p q x y h1 h2 h3 hx hy
theorem ZqM.perm (h : ZqM pf l) (k : L.Perm l) : ZqM pf L:=fun x hx y hy=>h x (k.mem_iff.1 hx) y (k.mem_iff.1 hy)
theorem ZqN.perm (h : ZqN pf l) (k : L.Perm l) : ZqN pf L:=fun x hx y hy z hz=>h x (k.mem_iff.1 hx) y (k.mem_iff.1 hy) z (k.mem_iff.1 hz)
end
end Go.Civ
