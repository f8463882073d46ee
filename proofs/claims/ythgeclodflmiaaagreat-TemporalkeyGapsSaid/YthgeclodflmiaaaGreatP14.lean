/- Lemmas. -/
import Derived.Test.YthgeclodflmiaaaGreatP03
import Derived.Test.YthgeclodflmiaaaGreatP11
import Derived.Test.YthgeclodflmiaaaGreatP12
import Derived.Test.YthgeclodflmiaaaGreatP13
import Derived.Laws.Slices
import Derived.Laws.Small
import Derived.Shelf.Slices.CompactI
import Derived.Ground.Names2Prog
import Derived.Test.YthgeclodflmiaaaGreatProg
import Derived.Shelf.Small.Strs
import Derived.Ground.NamesProg
namespace Go.Civ
set_option linter.unusedVariables false

abbrev VV := List (List Val)
def ZbL : VV → List Val → Nat
 | [], _ => 0
 | u :: r, v => if Yi cmpV u v < 0 then ZbL r v + 1 else 0
theorem ZgT : ∀ (out : VV) (v : List Val), ZbL out v ≤ out.length ∧ (∀ j, j < ZbL out v → ∀ u, out[j]? = some u → Yi cmpV u v < 0) ∧ (∀ u, out[ZbL out v]? = some u → ¬ Yi cmpV u v < 0)
 | [], v => ⟨by simp [ZbL], fun j hj => by simp [ZbL] at hj, fun u hu => by simp at hu⟩
 | u :: r, v => by
  obtain ⟨h1, h2, h3⟩ := ZgT r v
  simp only [ZbL]
  split
  ·rename_i hu
   refine ⟨by simpa using h1, fun j hj w hw => ?_, fun w hw => h3 w (by simpa using hw)⟩
   cases j with
   | zero => simp at hw; subst hw; exact hu
   | succ j => exact h2 j (by omega) w (by simpa using hw)
  ·rename_i hu
   exact ⟨by omega, fun j hj => absurd hj (by omega), fun w hw => by simp at hw; subst hw; exact hu⟩
def Zej (out : VV) (v : List Val) : VV := if out[ZbL out v]? = some v then out else out.take (ZbL out v) ++ [v] ++ out.drop (ZbL out v)
theorem Zor (out : VV) (v : List Val) : (Zej out v).length ≤ out.length + 1 := by
 unfold Zej; split
 ·omega
 ·have := (ZgT out v).1; simp; omega
theorem Zos {out : VV} {v u : List Val} : u ∈ Zej out v ↔ u ∈ out ∨ u = v := by
 unfold Zej
 split
 ·rename_i h
  constructor
  ·exact .inl
  ·rintro (h1 | rfl)
   ·exact h1
   ·exact List.mem_of_getElem? h
 ·rw [List.mem_append, List.mem_append, List.mem_singleton]
  constructor
  ·rintro ((h | h) | h)
   ·exact .inl (List.mem_of_mem_take h)
   ·exact .inr h
   ·exact .inl (List.mem_of_mem_drop h)
  ·rintro (h | h)
   ·rw [← List.take_append_drop (ZbL out v) out] at h
    rcases List.mem_append.1 h with k | k
    ·exact .inl (.inl k)
    ·exact .inr k
   ·exact .inl (.inr h)
def ZbM (l : VV) : Prop := l.Pairwise fun x y => Yi cmpV x y < 0
theorem Zot {out : VV} {v : List Val} (h : ZbM out) : ZbM (Zej out v) := by
 unfold Zej
 split
 ·exact h
 ·rename_i hne
  obtain ⟨hp1, hp2, hp3⟩ := ZgT out v
  generalize ZbL out v = i at *
  have low : ∀ u ∈ out.take i, Yi cmpV u v < 0 := fun u hu => by
   obtain ⟨j, hj, rfl⟩ := List.getElem_of_mem hu
   simp only [List.length_take] at hj
   rw [List.getElem_take]
   exact hp2 j (by omega) _ (List.getElem?_eq_getElem (by omega))
  have up : ∀ u ∈ out.drop i, Yi cmpV v u < 0 := fun u hu => by
   obtain ⟨j, hj, rfl⟩ := List.getElem_of_mem hu
   simp only [List.length_drop] at hj
   rw [List.getElem_drop]
   have h0 := hp3 out[i] (List.getElem?_eq_getElem (by omega))
   have hn : out[i] ≠ v := fun e => hne (by rw [List.getElem?_eq_getElem (by omega), e])
   have h1 : Yi cmpV v out[i] < 0 := by
    rcases Int.lt_or_le (Yi cmpV v out[i]) 0 with k | k
    ·exact k
    ·exfalso
     by_cases e : Yi cmpV v out[i] = 0
     ·exact hn ((ord.eq _ _).1 e).symm
     ·exact h0 ((ord.swap _ _).2 (by omega))
   by_cases e : j = 0
   ·subst e; simpa using h1
   ·exact ord.trans _ _ _ h1 (List.pairwise_iff_getElem.1 h i (i + j) (by omega) (by omega) (by omega))
  unfold ZbM
  rw [List.pairwise_append, List.pairwise_append]
  refine ⟨⟨List.Pairwise.sublist (List.take_sublist _ _) h, by simp, fun y hy z hz => ?_⟩, List.Pairwise.sublist (List.drop_sublist _ _) h, fun y hy z hz => ?_⟩
  ·rw [List.mem_singleton.1 hz]; exact low y hy
  ·rcases List.mem_append.1 hy with hy | hy
   ·exact ord.trans _ _ _ (low y hy) (up z hz)
   ·rw [List.mem_singleton.1 hy]; exact up z hz
structure Shift (out M : VV) (j : Nat) : Prop where
 len : M.length = out.length + 1
 low : ∀ i, i < j → M[i]? = out[i]?
 high : ∀ i, j < i → i ≤ out.length → M[i]? = out[i - 1]?
theorem Shift.start {out : VV} {u : List Val} : Shift out (out ++ [u]) out.length :=
 ⟨by simp, fun i hi => List.getElem?_append_left hi, fun i h1 h2 => by omega⟩
theorem Shift.step {out M : VV} {j : Nat} {x : List Val} (h : Shift out M j) (hj : 0 < j) (hx : M[j - 1]? = some x) : Shift out (M.set j x) (j - 1) := by
 have hjl : j - 1 < M.length := (List.getElem?_eq_some_iff.1 hx).1
 refine ⟨by rw [List.length_set]; exact h.len, fun i hi => ?_, fun i h1 h2 => ?_⟩
 ·rw [List.getElem?_set, if_neg (by omega)]; exact h.low i (by omega)
 ·rw [List.getElem?_set]
  by_cases e : j = i
  ·subst e
   rw [if_pos rfl]
   split
   ·rw [← hx]; exact h.low _ (by omega)
   ·have := h.len; omega
  ·rw [if_neg e]; exact h.high i (by omega) h2
theorem Shift.done {out M : VV} {k : Nat} {v : List Val} (h : Shift out M k) (hk : k ≤ out.length) : M.set k v = out.take k ++ [v] ++ out.drop k := by
 apply List.ext_getElem?
 intro i
 have hl := h.len
 rw [List.getElem?_set, List.append_assoc, List.getElem?_append, List.length_take, Nat.min_eq_left hk]
 by_cases e : k = i
 ·subst e
  rw [if_pos rfl, if_pos (by omega), if_neg (by omega)]; simp
 ·rw [if_neg e]
  by_cases q : i < k
  ·rw [if_pos q, List.getElem?_take, if_pos q]; exact h.low i q
  ·rw [if_neg q, List.getElem?_append, if_neg (by simp; omega), List.getElem?_drop]
   rcases Nat.lt_or_ge out.length i with r | r
   ·rw [List.getElem?_eq_none (by omega), List.getElem?_eq_none (by simp; omega)]
   ·rw [h.high i (by omega) r]; congr 1; simp; omega

def ZV (l : List Fact) (v : List Val) : List Span := (l.filter fun f => decide (f.v = v)).map Fact.t
theorem Zek {l : List Fact} {k : Nat} {f : Fact} {v : List Val} (h : l[k]? = some f) : ZV (l.take (k + 1)) v = ZV (l.take k) v ++ if f.v = v then [f.t] else [] := by
 unfold ZV
 rw [List.take_add_one, h, Option.toList_some, List.filter_append, List.map_append]
 by_cases e : f.v = v <;> simp [e]
theorem Zb2 {l : List Fact} {k : Nat} {f : Fact} {v : List Val} (h : l[k]? = some f) (e : decide (f.v = v) = true) : ZV (l.take (k + 1)) v = ZV (l.take k) v ++ [f.t] := by
 rw [Zek h, if_pos (by simpa using e)]
theorem ZbV {l : List Fact} {k : Nat} {f : Fact} {v : List Val} (h : l[k]? = some f) (e : decide (f.v = v) = false) : ZV (l.take (k + 1)) v = ZV (l.take k) v := by
 rw [Zek h, if_neg (by simpa using e), List.append_nil]
theorem ZjW (l : List Fact) (v : List Val) : (ZV l v).length ≤ l.length := by unfold ZV; rw [List.length_map]; exact List.length_filter_le _ _
theorem ZcA (l : List Fact) (k : Nat) (v : List Val) : (ZV (l.take k) v).length ≤ l.length := Nat.le_trans (ZjW _ _) (List.length_take_le' _ _)
theorem Zbm {s : Span} (h : ZC s = true) : YM s = true := by
 have hp := Yp h
 unfold ZC at h
 simp only [Bool.and_eq_true, decide_eq_true_eq] at h
 rw [Zqn s h.1.1 h.2]; exact decide_eq_true hp
end Go.Civ
namespace Go.Civ
open Go.RowKit
set_option linter.unusedVariables false
theorem Sl.takeV {α : Type} {E : Enc α} {by_ : Nat} {G : GH} {a : Option Addr} {n len cap : Nat} {l : List α} (h : Sl E by_ G (.slice a len cap) l) (hn : n ≤ l.length) : Sl E by_ G (sliced a 0 n cap E.n) (l.take n):=by
 obtain ⟨a',cap',e,h2,h3,h4,h5⟩:=h
 simp only [Value.slice.injEq] at e
 obtain ⟨rfl,rfl,rfl⟩:=e
 have hl : (l.take n).length = n:=by rw [List.length_take]; omega
 have ev : sliced a 0 n cap E.n = .slice a n cap:=by
  unfold sliced
  cases a <;> simp [Addr.add]
 rw [ev]
 refine ⟨a,cap,by rw [hl],by omega,?_,by omega,fun i x hx=>?_⟩
 ·rw [hl]; exact Nat.le_trans (Nat.mul_le_mul_right _ hn) h3
 ·rw [List.getElem?_take] at hx
  split at hx
  ·exact h5 i x hx
  ·cases hx
theorem Sl.dropV {α : Type} {E : Enc α} {by_ : Nat} {G : GH} {a : Option Addr} {n len cap : Nat} {l : List α} (h : Sl E by_ G (.slice a len cap) l) (hn : n ≤ l.length) : Sl E by_ G (sliced a n len cap E.n) (l.drop n):=by
 obtain ⟨a',cap',e,h2,h3,h4,h5⟩:=h
 simp only [Value.slice.injEq] at e
 obtain ⟨rfl,rfl,rfl⟩:=e
 have hl : (l.drop n).length = l.length - n:=by rw [List.length_drop]
 unfold sliced
 by_cases hc : cap = n
 ·rw [if_pos hc]
  refine ⟨a,cap - n,by rw [hl],by omega,?_,by omega,fun i x hx=>?_⟩
  ·rw [hl]; exact Nat.le_trans (Nat.mul_le_mul_right _ (by omega)) h3
  ·have:=(List.getElem?_eq_some_iff.1 hx).1
   rw [hl] at this; omega
 ·rw [if_neg hc]
  refine ⟨a.map fun p=>p.add (n * E.n),cap - n,by rw [hl],by omega,?_,by omega,fun i x hx=>?_⟩
  ·rw [hl]; exact Nat.le_trans (Nat.mul_le_mul_right _ (by omega)) h3
  ·rw [List.getElem?_drop] at hx
   obtain ⟨p,rfl,hp,hel⟩:=h5 (n + i) x hx
   refine ⟨p.add (n * E.n),rfl,by rw [Yr _ _ hp],?_⟩
   have e1 : (p.add (n * E.n)).add (i * E.n) = p.add ((n + i) * E.n):=by
    rw [Yr _ _ (by rw [Yr _ _ hp]),Yr _ _ hp,Yr _ _ hp,Nat.add_mul,Nat.add_assoc]
   rw [e1]; exact hel
section
variable {P : Program} {Q : Exit → Env → World → Prop} {ρ : Env} {w : World} {ops : Array Oper} {rest : List Oper} {K : Env → World → Prop}
variable {d : Nat} {ty : TypeId} {pos : String} {af : Array Edge} {g : Option (Nat × Bool)} {G : GH}
theorem Zku {t e : TypeId} (hu : P.underlying t = some (.slice e)) : P.elem t = e:=by simp [Program.elem,hu]
theorem YG {α : Type} {E : Enc α} {by_ : Nat} {t e : TypeId} {x hi : Operand} {v : Value} {l : List α} {ti : TI} (hs : Sl E by_ G v l) (n : Nat) (hn : n ≤ l.length) (hu : P.underlying t = some (.slice e)) (ht : ZX P e = some ti) (hE : ti.size = E.n)
  (hw : Region.wanted ⟨some d, .slice t x none (some hi) none,ty,pos,af,g⟩ (Zo ops ρ) = true) (hx : ev ρ x = v) (hh : ev ρ hi = .int .i64 (n : Int))
  (k : ∀ v',Sl E by_ G v' (l.take n) → K (Z6 ρ d v') w) : OW P ops ⟨some d, .slice t x none (some hi) none,ty,pos,af,g⟩ ρ w K:=by
 obtain ⟨a,cap,rfl,h2,_⟩:=id hs
 have he:=Zku hu
 have hu' : P.underlying t = some (.slice (P.elem t)):=by rw [he]; exact hu
 have run : (Instr.sliceAt t (.slice a l.length cap) none (some (.int .i64 (n : Int))) none).run P w = .ok (sliced a 0 n cap E.n) w:=by
  rw [run_sliceAt_slice w t _ _ _ _ hu',run_slice_h w t a l.length cap hu' .i64 (n : Int) (by omega) (by omega),he,Xn ht,hE]; rfl
 refine WL.val hw ?_ rfl (k _ (hs.takeV hn))
 simp [execOp,hx,hh,run,Result.andThen]
theorem Zlz {α : Type} {E : Enc α} {by_ : Nat} {t e : TypeId} {x lo : Operand} {v : Value} {l : List α} {ti : TI} (hs : Sl E by_ G v l) (n : Nat) (hn : n ≤ l.length) (hu : P.underlying t = some (.slice e)) (ht : ZX P e = some ti) (hE : ti.size = E.n)
  (hw : Region.wanted ⟨some d, .slice t x (some lo) none none,ty,pos,af,g⟩ (Zo ops ρ) = true) (hx : ev ρ x = v) (hh : ev ρ lo = .int .i64 (n : Int))
  (k : ∀ v',Sl E by_ G v' (l.drop n) → K (Z6 ρ d v') w) : OW P ops ⟨some d, .slice t x (some lo) none none,ty,pos,af,g⟩ ρ w K:=by
 obtain ⟨a,cap,rfl,h2,_⟩:=id hs
 have he:=Zku hu
 have hu' : P.underlying t = some (.slice (P.elem t)):=by rw [he]; exact hu
 have run : (Instr.sliceAt t (.slice a l.length cap) (some (.int .i64 (n : Int))) none none).run P w = .ok (sliced a n l.length cap E.n) w:=by
  rw [run_sliceAt_slice w t _ _ _ _ hu',run_slice_l w t a l.length cap hu' .i64 (n : Int) (by omega) (by omega),he,Xn ht,hE]; rfl
 refine WL.val hw ?_ rfl (k _ (hs.dropV hn))
 simp [execOp,hx,hh,run,Result.andThen]
theorem ZgW (op : BinOp) (t : TypeId) (x y : Operand) (a b : Bool) : (eqGuard op t x y (.bool a) (.bool b)).run P w = .ok () w:=by
 unfold eqGuard; split <;> simp
theorem Y4 {t ty' : TypeId} {x y : Operand} (a b : Bool) (hu : P.underlying t = some .bool)
  (hw : Region.wanted ⟨some d, .binOp .eql t x y ty',ty,pos,af,g⟩ (Zo ops ρ) = true) (hx : ev ρ x = .bool a) (hy : ev ρ y = .bool b)
  (kk : K (Z6 ρ d (.bool (a == b))) w) : OW P ops ⟨some d, .binOp .eql t x y ty',ty,pos,af,g⟩ ρ w K:=by
 refine WL.val hw ?_ rfl kk
 simp [execOp,hx,hy,ZgW,run_eql_bool w t a b hu,Result.andThen]
end
section
variable {w0 w w' : World} {X : List Nat} {G0 G G' : GH} {L : Own} {o o' : OB}
end
end Go.Civ
namespace Go.Civ
open Go.RowKit
set_option linter.unusedVariables false
theorem ZrL {n : Int} (h0 : 0 ≤ n) (h : n ≤ 9223372036854775807) : IntKind.u64.wrap n = n:=by
 simp only [IntKind.wrap,IntKind.signed,IntKind.bits]
 simp
 omega
section
variable {P : Program} {Q : Exit → Env → World → Prop} {ρ : Env} {w : World} {ops : Array Oper} {rest : List Oper} {K : Env → World → Prop}
variable {d : Nat} {ty : TypeId} {pos : String} {af : Array Edge} {g : Option (Nat × Bool)} {G : GH}
theorem ZrM {t t' : TypeId} {x : Operand} (n : Nat) {k : IntKind} (hs : P.underlying t = some (.int k)) (h : P.underlying t' = some (.int .u64)) (hb : n ≤ 4 * reach)
  (hw : Region.wanted ⟨some d, .convert t t' x,ty,pos,af,g⟩ (Zo ops ρ) = true) (hx : ev ρ x = .int .i64 (n : Int))
  (kk : K (Z6 ρ d (.int .u64 (n : Int))) w) : OW P ops ⟨some d, .convert t t' x,ty,pos,af,g⟩ ρ w K:=by
 refine WL.val hw ?_ rfl kk
 have e : IntKind.u64.wrap (n : Int) = (n : Int):=ZrL (by omega) (by unfold reach at hb; omega)
 simp [execOp,hx,convert,ZR hs,ZR h,Conv.intToInt,Result.andThen,e]
theorem Zqv {t ty' : TypeId} {x y : Operand} (n : Nat)
  (hw : Region.wanted ⟨some d, .binOp .shr t x y ty',ty,pos,af,g⟩ (Zo ops ρ) = true) (hx : ev ρ x = .int .u64 (n : Int)) (hy : ev ρ y = .int .u64 1)
  (kk : K (Z6 ρ d (.int .u64 ((n / 2 : Nat) : Int))) w) : OW P ops ⟨some d, .binOp .shr t x y ty',ty,pos,af,g⟩ ρ w K:=by
 refine WL.val hw ?_ rfl kk
 have e : (Op.shift .shr .u64 (n : Int) .u64 1) = pure (.int .u64 ((n / 2 : Nat) : Int)):=by
  rw [shift_shr .u64 .u64 (n : Int) 1 (by decide) (by decide)]; simp
 simp [execOp,hx,hy,binOp,eqGuard,e]
theorem ZrN {t t' : TypeId} {x : Operand} (n : Nat) {k : IntKind} (hs : P.underlying t = some (.int k)) (h : P.underlying t' = some (.int .i64)) (hb : n ≤ 4 * reach)
  (hw : Region.wanted ⟨some d, .convert t t' x,ty,pos,af,g⟩ (Zo ops ρ) = true) (hx : ev ρ x = .int .u64 (n : Int))
  (kk : K (Z6 ρ d (.int .i64 (n : Int))) w) : OW P ops ⟨some d, .convert t t' x,ty,pos,af,g⟩ ρ w K:=
 ZkS (n : Int) hs h ⟨by omega,by unfold reach at hb; omega⟩ hw hx kk
end
section
variable {α : Type} {pf : α → α → Int} {l L M : List α}
def LoF (l : List α) (i lo : Nat) (p : α → Prop) : Prop:=i = lo ∨ ∃ y,l[i - 1]? = some y ∧ p y
def HiF (l : List α) (j hi : Nat) (p : α → Prop) : Prop:=j = hi ∨ ∃ y,l[j]? = some y ∧ p y
def C1F (pf : α → α → Int) (l : List α) (s lo n : Nat) : Prop:=s = lo ∨ ∃ u v,l[s - 1]? = some u ∧ l[n - s]? = some v ∧ ¬ pf v u < 0
def C2F (pf : α → α → Int) (l : List α) (r hi n : Nat) : Prop:=r = hi ∨ ∃ u v,l[r]? = some u ∧ l[n - r - 1]? = some v ∧ pf v u < 0
theorem LoF.start {i lo : Nat} {p : α → Prop} (h : i = lo) : LoF l i lo p:= .inl h
theorem HiF.start {i lo : Nat} {p : α → Prop} (h : i = lo) : HiF l i lo p:= .inl h
theorem C1F.start {s n : Nat} : C1F pf l s s n:= .inl rfl
theorem C2F.start {s n : Nat} : C2F pf l s s n:= .inl rfl
theorem LoF.step {h lo : Nat} {y : α} {p : α → Prop} (hy : l[h]? = some y) (hp : p y) : LoF l (h + 1) lo p:= .inr ⟨y,hy,hp⟩
theorem HiF.step {h hi : Nat} {y : α} {p : α → Prop} (hy : l[h]? = some y) (hp : p y) : HiF l h hi p:= .inr ⟨y,hy,hp⟩
theorem C1F.step {c n lo : Nat} {u v : α} (hu : l[c]? = some u) (hv : l[n - 1 - c]? = some v) (h : 0 ≤ pf v u) : C1F pf l (c + 1) lo n:=
 .inr ⟨u,v,hu,by rw [show n - (c + 1) = n - 1 - c by omega]; exact hv,by omega⟩
theorem C2F.step {c n hi : Nat} {u v : α} (hu : l[c]? = some u) (hv : l[n - 1 - c]? = some v) (h : pf v u < 0) : C2F pf l c hi n:=
 .inr ⟨u,v,hu,by rw [show n - c - 1 = n - 1 - c by omega]; exact hv,h⟩
inductive Blks (pf : α → α → Int) (L : List α) (bs n : Nat) : Nat → Prop
 | fin {a : Nat} : n ≤ a → Blks pf L bs n a
 | step {a : Nat} : Asc pf L a (min (a + bs) n) → Blks pf L bs n (a + bs) → Blks pf L bs n a
inductive Done (pf : α → α → Int) (L : List α) (bs : Nat) : Nat → Prop
 | zero : Done pf L bs 0
 | snoc {a : Nat} : Done pf L bs a → Asc pf L a (a + bs) → Done pf L bs (a + bs)
variable {bs n a : Nat}
theorem Blks.frame (h : Blks pf L bs n a) (k : ∀ p,a ≤ p → M[p]? = L[p]?) : Blks pf M bs n a:=by
 induction h with
 | fin h=>exact .fin h
 | step h1 h2 ih=>exact .step (h1.frame fun p hp _=>k p hp) (ih fun p hp=>k p (by omega))
theorem Done.frame (h : Done pf L bs a) (k : ∀ p,p < a → M[p]? = L[p]?) : Done pf M bs a:=by
 induction h with
 | zero=>exact .zero
 | snoc h1 h2 ih=>exact .snoc (ih fun p hp=>k p (by omega)) (h2.frame fun p _ hp=>k p hp)
theorem Done.blks (h : Done pf L bs a) (ha : a ≤ n) (k : Blks pf L bs n a) : Blks pf L bs n 0:=by
 induction h with
 | zero=>exact k
 | snoc h1 h2 ih=>exact ih (by omega) (.step (by rw [Nat.min_eq_left ha]; exact h2) k)
theorem Blks.head (h : Blks pf L bs n a) (ha : a < n) : Asc pf L a (min (a + bs) n) ∧ Blks pf L bs n (a + bs):=by
 cases h with
 | fin h=>omega
 | step h1 h2=>exact ⟨h1,h2⟩
theorem Blks.last (h : Asc pf L a n) (ha : n ≤ a + bs) : Blks pf L bs n a:= .step (by rw [Nat.min_eq_right ha]; exact h) (.fin ha)
theorem Blks.rest (h : Blks pf L bs n a) (h2 : a + bs < n) (h3 : n < a + 2 * bs) : Asc pf L a (a + bs) ∧ Asc pf L (a + bs) n:=by
 obtain ⟨k1,k2⟩:=h.head (by omega)
 obtain ⟨k3,_⟩:=k2.head h2
 rw [Nat.min_eq_left (by omega)] at k1
 rw [Nat.min_eq_right (by omega)] at k3
 exact ⟨k1,k3⟩
theorem Blks.one (h : Blks pf L bs n a) (h2 : n ≤ a + bs) : Asc pf L a n:=by
 rcases Nat.lt_or_ge a n with k | k
 ·have:=(h.head k).1
  rwa [Nat.min_eq_right h2] at this
 ·exact Asc.empty (by omega)
theorem Done.ins (h : Done pf L bs a) (k : Ins pf L M a (a + bs) (a + bs)) : Done pf M bs (a + bs):= .snoc (h.frame fun p hp=>k.frame p (by omega)) k.asc
theorem Done.last (h : Done pf L bs a) (k : Ins pf L M a n n) (ha : a ≤ n) (hn : n ≤ a + bs) : Blks pf M bs n 0:=(h.frame (M:=M) fun p hp=>k.frame p (by omega)).blks ha (.last k.asc hn)
end
end Go.Civ
namespace Go.Proofs
open Go.Shelf
def Tryz.laysCompact_ren : Go.Shelf.Ren:=⟨fun | 20=>146 | n=>n,fun | 22=>113 | 3=>3 | 4=>4 | 0=>0 | n=>n,fun | n=>n⟩
theorem Tryz.laysCompact : Go.Proofs.Lays2.n20 Tryz.prog Tryz.laysCompact_ren:={
 mixed:=by kernel_rfl
 f20:=Tryz.func146.trans (congrArg some (by kernel_rfl))
 t0:=Tryz.underlying0
 a0:=Tryz.isAgg0
 z0:=Tryz.sizeOf0
 v0:=Tryz.zeroValue0
 t3:=Tryz.underlying3
 a3:=Tryz.isAgg3
 z3:=Tryz.sizeOf3
 v3:=Tryz.zeroValue3
 t4:=Tryz.underlying4
 a4:=Tryz.isAgg4
 z4:=Tryz.sizeOf4
 v4:=Tryz.zeroValue4
 t22:=Tryz.underlying113
 a22:=Tryz.isAgg113
 z22:=Tryz.sizeOf113
 v22:=Tryz.zeroValue113
 i3:=by kernel_rfl }
end Go.Proofs
set_option linter.unusedVariables false
namespace Go.Civ
open Go.Proofs Go.Shelf Go.RowKit Go.Lib Go.Sort
theorem Zjt (l : List Int) : ZaU l = X2 l:=rfl
set_option maxHeartbeats 1000000 in
theorem Zh9 {G : GH} {w : World} (hG : G.In w) (l : List Int) (vd : Value) (od : OB) (hvd : ZS Enc.int 8 (nat_lit 3) G vd l od) (hod : QW w G od) :
  Calls Tryz.prog (nat_lit 146) #[vd] w fun e w'=>∃ r G',e = .returned r ∧ Res (blk od) w G w' G' ∧ ∃ (o' : OB),ZS Enc.int 8 (nat_lit 3) G' r (compact l) o' ∧ QW w' G' o' ∧ blk o' = blk od:=by
 rcases hvd with ⟨rfl,rfl,rfl⟩ | ⟨b,cs,cap,xs,rfl,rfl,h3,h4,h5,h6,h7,h8,h9⟩
 ·exact (Any.slices_Compact_int_empty Tryz.laysCompact none 0 w).mono fun e w' ⟨he,hw⟩=>by
   subst hw
   exact ⟨_,G,he,Res.refl hG,none, .inl ⟨rfl,rfl,rfl⟩,fun p hp=>(by cases hp),rfl⟩
 ·obtain ⟨hb1,hb2⟩:=hod _ rfl
  obtain ⟨rfl,hI⟩:=ZbN l xs h6
  have hE : Enc.int.n = 1:=rfl
  rw [hE,Nat.mul_one] at h5 h7
  have hcell : ∀ t,t < l.length → cs[t]? = some (.int .i64 l[t]!):=fun t ht=>by
   have:=congrArg (·[t]?) h7
   simp only [List.getElem?_take,if_pos ht,List.getElem?_map] at this
   rw [this,List.getElem?_eq_getElem ht,getElem!_pos l t ht]; rfl
  have hH : Holds (Value.int .i64) w b 0 l.toArray:=fun t ht=>by
   have ht' : t < l.length:=by simpa using ht
   refine ⟨?_,?_⟩
   ·rw [Nat.zero_add]
    simp only [World.cell?,hb1,Zac]
    have:=hcell t ht'
    rw [getElem!_pos l t ht'] at this
    rw [getElem!_pos l.toArray t ht]
    simpa using this
   ·simp [World.frozen?,hb1,Zac]
  have hcon:=Any.slices_Compact_int Tryz.laysCompact b 0 cap l w hH (by unfold reach at h9; omega) h3
  refine hcon.mono fun e w' ⟨he,q,hw⟩=>?_
  have hlen:=Zfk l
  have hbl : b < w.heap.size:=(Array.getElem?_eq_some_iff.1 hb1).1
  obtain ⟨z,hz⟩ : ∃ z : List Int,z = compact l ++ List.replicate (l.length - (compact l).length) 0:=⟨_,rfl⟩
  have hzl : z.length = l.length:=by subst hz; simp; omega
  rw [← hz] at hw
  obtain ⟨cs',hcs'⟩ : ∃ cs' : List Value,cs' = (putCells (Value.int .i64) 0 z.toArray cs.toArray).toList:=⟨_,rfl⟩
  have hget : ∀ k,w'.heap[k]? = if b = k then some (.cells cs'.toArray (nat_lit 3) (0,0)) else w.heap[k]? :=fun k=>by
   subst hw
   have hah : (Go.Sort.ahead w q).heap = w.heap:=rfl
   simp only [putRow,mapBlock,hah]
   rw [Array.getElem?_modify]
   by_cases hkb : b = k
   ·subst hkb
    rw [if_pos rfl,if_pos rfl,hb1]
    simp [Zac,onCells,hcs']
   ·rw [if_neg hkb,if_neg hkb]
  have hres : Res [b] w G w' G:=by
   refine ⟨?_,G.le_refl,fun _ _=>rfl,fun k o hk=>?_⟩
   ·refine ⟨by subst hw; rfl,by subst hw; rfl,by subst hw; rfl,by subst hw; exact Nat.le_add_right _ _,?_,fun k hk hkb=>?_⟩
    ·subst hw
     have hah : (Go.Sort.ahead w q).heap = w.heap:=rfl
     simp [putRow,mapBlock]
     try simp [hah]
    ·rw [hget,if_neg (by simpa [eq_comm] using hkb)]
   ·have hkb : b ≠ k:=fun e=>by subst e; simp only at hb2; rw [hb2] at hk; cases hk
    rw [hget,if_neg hkb]; exact hG k o hk
  have hI' : ∀ x ∈ compact l,Zy x:=fun x hx=>by
   unfold compact compactUpTo at hx
   obtain ⟨j,hj,rfl⟩:=List.mem_map.1 hx
   have hj' : j < l.length:=by simpa using (List.mem_filter.1 hj).1
   rw [getElem!_pos l.toArray j (by simpa using hj')]
   exact hI _ (by simp)
  have hby : (compact l).length * 8 ≤ reach:=Nat.le_trans (Nat.mul_le_mul_right _ hlen) h8
  refine ⟨_,G,he,hres,some (b,nat_lit 3,cs'), .inr ⟨b,cs',cap,(compact l).map (Value.int .i64),rfl,rfl,Nat.le_trans hlen h3,h4,?_,Zhb _ hI',?_,hby,Nat.le_trans hlen h9⟩,fun p hp=>?_,rfl⟩
  ·subst hcs'; rw [hE]; simpa [putCells] using h5
  ·rw [hE,Nat.mul_one]
   apply List.ext_getElem?
   intro t
   rw [List.getElem?_take]
   by_cases ht : t < (compact l).length
   ·have htc : t < cs.length:=by omega
    have htz : z[t]? = (compact l)[t]? :=by rw [hz,List.getElem?_append_left ht]
    have htz' : t < z.length:=by omega
    rw [if_pos ht,hcs']
    simp only [putCells,Array.getElem?_toList,Array.getElem?_mapIdx]
    simp only [List.getElem?_toArray]
    rw [List.getElem?_eq_getElem htc,List.getElem?_map,← htz,List.getElem?_eq_getElem htz']
    simp [htz']
   ·rw [if_neg ht,List.getElem?_eq_none]
    simp; omega
  ·obtain rfl:=Option.some.inj hp
   exact ⟨by rw [hget,if_pos rfl]; rfl,hb2⟩
end Go.Civ
namespace Go.Proofs
open Go.Shelf
def Tryz.ixByte_ren : Go.Shelf.Ren:=⟨fun | 137=>172 | 217=>211 | 266=>245 | n=>n,fun | 9=>9 | 5=>5 | 3=>3 | n=>n,fun | n=>n⟩
theorem Tryz.ixByte : Go.Proofs.Lays.n137 Tryz.prog Tryz.ixByte_ren:={
 mixed:=by kernel_rfl
 f137:=Tryz.func172.trans (congrArg some (by kernel_rfl))
 f217:=Tryz.func211.trans (congrArg some (by kernel_rfl))
 f266:=Tryz.func245.trans (congrArg some (by kernel_rfl))
 t3:=Tryz.underlying3
 a3:=Tryz.isAgg3
 z3:=Tryz.sizeOf3
 v3:=Tryz.zeroValue3
 t5:=Tryz.underlying5
 a5:=Tryz.isAgg5
 z5:=Tryz.sizeOf5
 v5:=Tryz.zeroValue5
 t9:=Tryz.underlying9
 a9:=Tryz.isAgg9
 z9:=Tryz.sizeOf9
 v9:=Tryz.zeroValue9 }
end Go.Proofs
set_option linter.unusedVariables false
namespace Go.Civ
open Go.Proofs Go.Shelf Go.RowKit
theorem Zkg {G : GH} {w : World} (hG : G.In w) (s : List UInt8) (c : Int) : Calls Tryz.prog (nat_lit 172) #[Zd s, .int .u8 c] w fun e w'=>∃ r G',e = .returned r ∧ Res [] w G w' G' ∧ r = .int .i64 (Lib.indexByte s c.toNat.toUInt8):=by
 refine (Any.strings_IndexByte Tryz.ixByte ⟨s.toArray⟩ c w).mono ?_
 rintro e w' ⟨rfl,rfl⟩
 exact ⟨_,G,rfl,Res.refl hG,rfl⟩
end Go.Civ
