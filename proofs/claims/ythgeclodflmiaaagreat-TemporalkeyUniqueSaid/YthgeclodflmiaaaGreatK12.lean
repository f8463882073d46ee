/- Lemmas. -/
import Derived.Test.YthgeclodflmiaaaGreatK03
import Derived.Test.YthgeclodflmiaaaGreatK07
import Derived.Test.YthgeclodflmiaaaGreatK09
import Derived.Test.YthgeclodflmiaaaGreatK11
import Derived.Laws.Slices
import Derived.Laws.Small
import Derived.Shelf.Slices.CompactI
import Derived.Ground.Names2Prog
import Derived.Test.YthgeclodflmiaaaGreatProg
import Derived.Shelf.Small.Strs
import Derived.Ground.NamesProg
namespace Go.Civ
open Go.RowKit
set_option linter.unusedVariables false
theorem Sl.takeV {α : Type} {E : Enc α} {by_ : Nat} {G : GH} {a : Option Addr} {n len cap : Nat} {l : List α} (h : Sl E by_ G (.slice a len cap) l) (hn : n ≤ l.length) : Sl E by_ G (sliced a 0 n cap E.n) (l.take n):=by
  obtain ⟨a',cap',e,h2,h3,h4,h5⟩:=h
  simp only [Value.slice.injEq] at e
  obtain ⟨rfl,rfl,rfl⟩:=e
  have hl : (l.take n).length = n:=by rw [List.length_take]; omega
  have ev : sliced a 0 n cap E.n = .slice a n cap:=by
    unfold sliced
    cases a <;> simp [Addr.add]
  rw [ev]
  refine ⟨a,cap,by rw [hl],by omega,?_,by omega,fun i x hx=>?_⟩
  · rw [hl]; exact Nat.le_trans (Nat.mul_le_mul_right _ hn) h3
  · rw [List.getElem?_take] at hx
    split at hx
    · exact h5 i x hx
    · cases hx
theorem Sl.dropV {α : Type} {E : Enc α} {by_ : Nat} {G : GH} {a : Option Addr} {n len cap : Nat} {l : List α} (h : Sl E by_ G (.slice a len cap) l) (hn : n ≤ l.length) : Sl E by_ G (sliced a n len cap E.n) (l.drop n):=by
  obtain ⟨a',cap',e,h2,h3,h4,h5⟩:=h
  simp only [Value.slice.injEq] at e
  obtain ⟨rfl,rfl,rfl⟩:=e
  have hl : (l.drop n).length = l.length - n:=by rw [List.length_drop]
  unfold sliced
  by_cases hc : cap = n
  · rw [if_pos hc]
    refine ⟨a,cap - n,by rw [hl],by omega,?_,by omega,fun i x hx=>?_⟩
    · rw [hl]; exact Nat.le_trans (Nat.mul_le_mul_right _ (by omega)) h3
    · have:=(List.getElem?_eq_some_iff.1 hx).1
      rw [hl] at this; omega
  · rw [if_neg hc]
    refine ⟨a.map fun p=>p.add (n * E.n),cap - n,by rw [hl],by omega,?_,by omega,fun i x hx=>?_⟩
    · rw [hl]; exact Nat.le_trans (Nat.mul_le_mul_right _ (by omega)) h3
    · rw [List.getElem?_drop] at hx
      obtain ⟨p,rfl,hp,hel⟩:=h5 (n + i) x hx
      refine ⟨p.add (n * E.n),rfl,by rw [addr_add _ _ hp],?_⟩
      have e1 : (p.add (n * E.n)).add (i * E.n) = p.add ((n + i) * E.n):=by
        rw [addr_add _ _ (by rw [addr_add _ _ hp]),addr_add _ _ hp,addr_add _ _ hp,Nat.add_mul,Nat.add_assoc]
      rw [e1]; exact hel
section
variable {P : Program} {Q : Exit → Env → World → Prop} {ρ : Env} {w : World} {ops : Array Oper} {rest : List Oper} {K : Env → World → Prop}
variable {d : Nat} {ty : TypeId} {pos : String} {af : Array Edge} {g : Option (Nat × Bool)} {G : GH}
theorem elem_of {t e : TypeId} (hu : P.underlying t = some (.slice e)) : P.elem t = e:=by simp [Program.elem,hu]
theorem WL.sliceHi {α : Type} {E : Enc α} {by_ : Nat} {t e : TypeId} {x hi : Operand} {v : Value} {l : List α} {ti : TI} (hs : Sl E by_ G v l) (n : Nat) (hn : n ≤ l.length) (hu : P.underlying t = some (.slice e)) (ht : tinfo P e = some ti) (hE : ti.size = E.n)
    (hw : Region.wanted ⟨some d, .slice t x none (some hi) none,ty,pos,af,g⟩ (yieldE ops ρ) = true) (hx : ev ρ x = v) (hh : ev ρ hi = .int .i64 (n : Int))
    (k : ∀ v',Sl E by_ G v' (l.take n) → K (upd ρ d v') w) : OW P ops ⟨some d, .slice t x none (some hi) none,ty,pos,af,g⟩ ρ w K:=by
  obtain ⟨a,cap,rfl,h2,_⟩:=id hs
  have he:=elem_of hu
  have hu' : P.underlying t = some (.slice (P.elem t)):=by rw [he]; exact hu
  have run : (Instr.sliceAt t (.slice a l.length cap) none (some (.int .i64 (n : Int))) none).run P w = .ok (sliced a 0 n cap E.n) w:=by
    rw [run_sliceAt_slice w t _ _ _ _ hu',run_slice_h w t a l.length cap hu' .i64 (n : Int) (by omega) (by omega),he,run_sizeOf' ht,hE]; rfl
  refine WL.val hw ?_ rfl (k _ (hs.takeV hn))
  simp [execOp,hx,hh,run,Result.andThen]
theorem WL.sliceLo {α : Type} {E : Enc α} {by_ : Nat} {t e : TypeId} {x lo : Operand} {v : Value} {l : List α} {ti : TI} (hs : Sl E by_ G v l) (n : Nat) (hn : n ≤ l.length) (hu : P.underlying t = some (.slice e)) (ht : tinfo P e = some ti) (hE : ti.size = E.n)
    (hw : Region.wanted ⟨some d, .slice t x (some lo) none none,ty,pos,af,g⟩ (yieldE ops ρ) = true) (hx : ev ρ x = v) (hh : ev ρ lo = .int .i64 (n : Int))
    (k : ∀ v',Sl E by_ G v' (l.drop n) → K (upd ρ d v') w) : OW P ops ⟨some d, .slice t x (some lo) none none,ty,pos,af,g⟩ ρ w K:=by
  obtain ⟨a,cap,rfl,h2,_⟩:=id hs
  have he:=elem_of hu
  have hu' : P.underlying t = some (.slice (P.elem t)):=by rw [he]; exact hu
  have run : (Instr.sliceAt t (.slice a l.length cap) (some (.int .i64 (n : Int))) none none).run P w = .ok (sliced a n l.length cap E.n) w:=by
    rw [run_sliceAt_slice w t _ _ _ _ hu',run_slice_l w t a l.length cap hu' .i64 (n : Int) (by omega) (by omega),he,run_sizeOf' ht,hE]; rfl
  refine WL.val hw ?_ rfl (k _ (hs.dropV hn))
  simp [execOp,hx,hh,run,Result.andThen]
theorem run_guard_bool (op : BinOp) (t : TypeId) (x y : Operand) (a b : Bool) : (eqGuard op t x y (.bool a) (.bool b)).run P w = .ok () w:=by
  unfold eqGuard; split <;> simp
theorem WL.boolEq {t ty' : TypeId} {x y : Operand} (a b : Bool) (hu : P.underlying t = some .bool)
    (hw : Region.wanted ⟨some d, .binOp .eql t x y ty',ty,pos,af,g⟩ (yieldE ops ρ) = true) (hx : ev ρ x = .bool a) (hy : ev ρ y = .bool b)
    (kk : K (upd ρ d (.bool (a == b))) w) : OW P ops ⟨some d, .binOp .eql t x y ty',ty,pos,af,g⟩ ρ w K:=by
  refine WL.val hw ?_ rfl kk
  simp [execOp,hx,hy,run_guard_bool,run_eql_bool w t a b hu,Result.andThen]
end
section
variable {w0 w w' : World} {X : List Nat} {G0 G G' : GH} {L : Own} {o o' : OB}
end
end Go.Civ
namespace Go.Civ
set_option linter.unusedVariables false
def rotIx (a m b p : Nat) : Nat:=if a ≤ p ∧ p < a + (b - m) then p + (m - a) else if a + (b - m) ≤ p ∧ p < b then p - (b - m) else p
def swpIx (a b n p : Nat) : Nat:=if a ≤ p ∧ p < a + n then p - a + b else if b ≤ p ∧ p < b + n then p - b + a else p
section
variable {α : Type}
structure Moved (l L : List α) (f : Nat → Nat) : Prop where
  perm : L.Perm l
  map : ∀ p,p < l.length → L[p]? = l[f p]?
variable {l L M : List α} {f g : Nat → Nat}
theorem Moved.len (h : Moved l L f) : L.length = l.length:=h.perm.length_eq
theorem Moved.refl (hf : ∀ p,p < l.length → f p = p) : Moved l l f:=⟨List.Perm.refl _,fun p hp=>by rw [hf p hp]⟩
theorem Moved.swap (h : Moved l L f) {i j : Nat} {x y : α} (hi : L[i]? = some x) (hj : L[j]? = some y) (hij : i ≠ j) (hg : ∀ p,p < l.length → g p = if p = i then f j else if p = j then f i else f p) : Moved l ((L.set i y).set j x) g:=by
  have hil : i < L.length:=(List.getElem?_eq_some_iff.1 hi).1
  have hjl : j < L.length:=(List.getElem?_eq_some_iff.1 hj).1
  have hl:=h.len
  refine ⟨(swap_perm hij hi hj).trans h.perm,fun p hp=>?_⟩
  rw [hg p hp,List.getElem?_set]
  by_cases h1 : j = p
  · subst h1
    rw [if_pos rfl,if_pos (by simpa using hjl),if_neg (Ne.symm hij),if_pos rfl,← hi]
    exact h.map i (by omega)
  · rw [if_neg h1,List.getElem?_set]
    by_cases h2 : i = p
    · subst h2
      rw [if_pos rfl,if_pos hil,if_pos rfl,← hj]
      exact h.map j (by omega)
    · rw [if_neg h2,if_neg (Ne.symm h2),if_neg (Ne.symm h1)]; exact h.map p hp
structure RotInv (l M : List α) (a m b i j : Nat) : Prop where
  perm : M.Perm l
  map : ∀ p,p < l.length → M[rotIx (m - i) m (m + j) p]? = l[rotIx a m b p]?
theorem RotInv.start {a m b : Nat} (h1 : a ≤ m) (h2 : m ≤ b) : RotInv l l a m b (m - a) (b - m):=by
  refine ⟨List.Perm.refl _,fun p hp=>?_⟩
  rw [show m - (m - a) = a by omega,show m + (b - m) = b by omega]
theorem RotInv.len {a m b i j : Nat} (h : RotInv l M a m b i j) : M.length = l.length:=h.perm.length_eq
theorem RotInv.left {a m b i j : Nat} (h : RotInv l M a m b i j) (k : Moved M L (swpIx (m - i) m j)) (hij : j < i) (hi : i ≤ m) (hj : m + j ≤ l.length) : RotInv l L a m b (i - j) j:=by
  refine ⟨k.perm.trans h.perm,fun p hp=>?_⟩
  have hl:=h.len
  rw [k.map _ (by rw [hl]; unfold rotIx; split <;> (try split) <;> omega),← h.map p hp]
  congr 1
  unfold swpIx rotIx
  repeat' split
  all_goals omega
theorem RotInv.right {a m b i j : Nat} (h : RotInv l M a m b i j) (k : Moved M L (swpIx (m - i) (m + j - i) i)) (hij : i < j) (hi : i ≤ m) (hj : m + j ≤ l.length) : RotInv l L a m b i (j - i):=by
  refine ⟨k.perm.trans h.perm,fun p hp=>?_⟩
  have hl:=h.len
  rw [k.map _ (by rw [hl]; unfold rotIx; split <;> (try split) <;> omega),← h.map p hp]
  congr 1
  unfold swpIx rotIx
  repeat' split
  all_goals omega
theorem RotInv.done {a m b i j : Nat} (h : RotInv l M a m b i j) (k : Moved M L (swpIx (m - i) m i)) (hij : i = j) (hi : i ≤ m) (hj : m + j ≤ l.length) : Moved l L (rotIx a m b):=by
  subst hij
  refine ⟨k.perm.trans h.perm,fun p hp=>?_⟩
  have hl:=h.len
  rw [k.map p (by omega),← h.map p hp]
  congr 1
  unfold swpIx rotIx
  repeat' split
  all_goals omega
variable {pf : α → α → Int}
def OrdA (pf : α → α → Int) (l : List α) : Prop:=∀ x ∈ l,∀ y ∈ l,pf x y < 0 → ¬ pf y x < 0
def OrdT (pf : α → α → Int) (l : List α) : Prop:=∀ x ∈ l,∀ y ∈ l,∀ z ∈ l,¬ pf y x < 0 → ¬ pf z y < 0 → ¬ pf z x < 0
def Cross (pf : α → α → Int) (M : List α) (a mid b : Nat) : Prop:=∀ p q u v,a ≤ p → p < mid → mid ≤ q → q < b → M[p]? = some u → M[q]? = some v → ¬ pf v u < 0
structure Halves (pf : α → α → Int) (l M : List α) (a s mid e b : Nat) : Prop where
  perm : M.Perm l
  frame : ∀ p,p < a ∨ b ≤ p → M[p]? = l[p]?
  s1 : Asc pf M a s
  s2 : Asc pf M s mid
  s3 : Asc pf M mid e
  s4 : Asc pf M e b
  cross : Cross pf M a mid b
theorem Ins.from_ {a b i p : Nat} {x : α} (h : Ins pf l L a b i) (hab : a ≤ b) (h1 : a ≤ p) (h2 : p < b) (hx : L[p]? = some x) : ∃ q,a ≤ q ∧ q < b ∧ l[q]? = some x:=by
  have hl:=h.len
  have e1 : L.take a = l.take a:=by
    apply List.ext_getElem?; intro k
    rw [List.getElem?_take,List.getElem?_take]
    split
    · exact h.frame k (by omega)
    · rfl
  have e2 : L.drop b = l.drop b:=by
    apply List.ext_getElem?; intro k
    rw [List.getElem?_drop,List.getElem?_drop]; exact h.frame _ (by omega)
  have dec : ∀ t : List α,t = t.take a ++ ((t.drop a).take (b - a) ++ t.drop b):=fun t=>by
    rw [show t.drop b = (t.drop a).drop (b - a) by rw [List.drop_drop]; congr 1; omega,List.take_append_drop,List.take_append_drop]
  have hp:=h.perm
  rw [dec L,dec l,e1,e2,List.perm_append_left_iff,List.perm_append_right_iff] at hp
  have hm : x ∈ (L.drop a).take (b - a):=by
    refine List.mem_of_getElem? (i:=p - a) ?_
    rw [List.getElem?_take,if_pos (by omega),List.getElem?_drop,show a + (p - a) = p by omega]; exact hx
  obtain ⟨k,hk⟩:=List.getElem?_of_mem (hp.mem_iff.1 hm)
  rw [List.getElem?_take] at hk
  split at hk
  · rw [List.getElem?_drop] at hk; exact ⟨a + k,by omega,by omega,hk⟩
  · cases hk
theorem Asc.empty {a b : Nat} (h : b ≤ a + 1) : Asc pf l a b:=fun p q x y h1 h2 h3=>by omega
theorem Halves.done {a s mid e b : Nat} {M1 M2 : List α} (h : Halves pf l M a s mid e b) (h1 : Ins pf M M1 a mid mid) (h2 : Ins pf M1 M2 mid b b) (ha : a ≤ mid) (hb : mid ≤ b) : Ins pf l M2 a b b:=by
  refine ⟨h2.perm.trans (h1.perm.trans h.perm),fun p hp=>?_,fun p q u v k1 k2 k3 hu hv=>?_⟩
  · rw [h2.frame p (by omega),h1.frame p (by omega)]; exact h.frame p hp
  · rcases Nat.lt_or_ge q mid with c | c
    · rw [h2.frame p (by omega)] at hu; rw [h2.frame q (by omega)] at hv
      exact h1.asc p q u v k1 k2 c hu hv
    · rcases Nat.lt_or_ge p mid with d | d
      · rw [h2.frame p (by omega)] at hu
        obtain ⟨p',a1,a2,a3⟩:=h1.from_ ha k1 d hu
        obtain ⟨q',b1,b2,b3⟩:=h2.from_ hb c k3 hv
        rw [h1.frame q' (by omega)] at b3
        exact h.cross p' q' u v a1 a2 b1 b2 a3 b3
      · exact h2.asc p q u v d k2 k3 hu hv
theorem Ins.same {a b : Nat} (h : Asc pf l a b) : Ins pf l l a b b:=⟨List.Perm.refl _,fun _ _=>rfl,h⟩
theorem Asc.frame {a b : Nat} (h : Asc pf l a b) (k : ∀ p,a ≤ p → p < b → L[p]? = l[p]?) : Asc pf L a b:=fun p q x y h1 h2 h3 hx hy=>by
  rw [k p h1 (by omega)] at hx; rw [k q (by omega) h3] at hy
  exact h p q x y h1 h2 h3 hx hy
theorem OrdA.perm (h : OrdA pf l) (k : L.Perm l) : OrdA pf L:=fun x hx y hy=>h x (k.mem_iff.1 hx) y (k.mem_iff.1 hy)
theorem OrdT.perm (h : OrdT pf l) (k : L.Perm l) : OrdT pf L:=fun x hx y hy z hz=>h x (k.mem_iff.1 hx) y (k.mem_iff.1 hy) z (k.mem_iff.1 hz)
end
end Go.Civ
namespace Go.Civ
open Go.RowKit
set_option linter.unusedVariables false
theorem wrap_u {n : Int} (h0 : 0 ≤ n) (h : n ≤ 9223372036854775807) : IntKind.u64.wrap n = n:=by
  simp only [IntKind.wrap,IntKind.signed,IntKind.bits]
  simp
  omega
section
variable {P : Program} {Q : Exit → Env → World → Prop} {ρ : Env} {w : World} {ops : Array Oper} {rest : List Oper} {K : Env → World → Prop}
variable {d : Nat} {ty : TypeId} {pos : String} {af : Array Edge} {g : Option (Nat × Bool)} {G : GH}
theorem WL.toU {t t' : TypeId} {x : Operand} (n : Nat) {k : IntKind} (hs : P.underlying t = some (.int k)) (h : P.underlying t' = some (.int .u64)) (hb : n ≤ 4 * reach)
    (hw : Region.wanted ⟨some d, .convert t t' x,ty,pos,af,g⟩ (yieldE ops ρ) = true) (hx : ev ρ x = .int .i64 (n : Int))
    (kk : K (upd ρ d (.int .u64 (n : Int))) w) : OW P ops ⟨some d, .convert t t' x,ty,pos,af,g⟩ ρ w K:=by
  refine WL.val hw ?_ rfl kk
  have e : IntKind.u64.wrap (n : Int) = (n : Int):=wrap_u (by omega) (by unfold reach at hb; omega)
  simp [execOp,hx,convert,underlying_run hs,underlying_run h,Conv.intToInt,Result.andThen,e]
theorem WL.half {t ty' : TypeId} {x y : Operand} (n : Nat)
    (hw : Region.wanted ⟨some d, .binOp .shr t x y ty',ty,pos,af,g⟩ (yieldE ops ρ) = true) (hx : ev ρ x = .int .u64 (n : Int)) (hy : ev ρ y = .int .u64 1)
    (kk : K (upd ρ d (.int .u64 ((n / 2 : Nat) : Int))) w) : OW P ops ⟨some d, .binOp .shr t x y ty',ty,pos,af,g⟩ ρ w K:=by
  refine WL.val hw ?_ rfl kk
  have e : (Op.shift .shr .u64 (n : Int) .u64 1) = pure (.int .u64 ((n / 2 : Nat) : Int)):=by
    rw [shift_shr .u64 .u64 (n : Int) 1 (by decide) (by decide)]; simp
  simp [execOp,hx,hy,binOp,eqGuard,e]
theorem WL.ofU {t t' : TypeId} {x : Operand} (n : Nat) {k : IntKind} (hs : P.underlying t = some (.int k)) (h : P.underlying t' = some (.int .i64)) (hb : n ≤ 4 * reach)
    (hw : Region.wanted ⟨some d, .convert t t' x,ty,pos,af,g⟩ (yieldE ops ρ) = true) (hx : ev ρ x = .int .u64 (n : Int))
    (kk : K (upd ρ d (.int .i64 (n : Int))) w) : OW P ops ⟨some d, .convert t t' x,ty,pos,af,g⟩ ρ w K:=
  WL.convInt (n : Int) hs h ⟨by omega,by unfold reach at hb; omega⟩ hw hx kk
end
section
variable {α : Type} {pf : α → α → Int} {l L M : List α}
def LoF (l : List α) (i lo : Nat) (p : α → Prop) : Prop:=i = lo ∨ ∃ y,l[i - 1]? = some y ∧ p y
def HiF (l : List α) (j hi : Nat) (p : α → Prop) : Prop:=j = hi ∨ ∃ y,l[j]? = some y ∧ p y
def C1F (pf : α → α → Int) (l : List α) (s lo n : Nat) : Prop:=s = lo ∨ ∃ u v,l[s - 1]? = some u ∧ l[n - s]? = some v ∧ ¬ pf v u < 0
def C2F (pf : α → α → Int) (l : List α) (r hi n : Nat) : Prop:=r = hi ∨ ∃ u v,l[r]? = some u ∧ l[n - r - 1]? = some v ∧ pf v u < 0
theorem LoF.start {i lo : Nat} {p : α → Prop} (h : i = lo) : LoF l i lo p:= .inl h
theorem HiF.start {i lo : Nat} {p : α → Prop} (h : i = lo) : HiF l i lo p:= .inl h
theorem C1F.start {s n : Nat} : C1F pf l s s n:= .inl rfl
theorem C2F.start {s n : Nat} : C2F pf l s s n:= .inl rfl
theorem LoF.step {h lo : Nat} {y : α} {p : α → Prop} (hy : l[h]? = some y) (hp : p y) : LoF l (h + 1) lo p:= .inr ⟨y,hy,hp⟩
theorem HiF.step {h hi : Nat} {y : α} {p : α → Prop} (hy : l[h]? = some y) (hp : p y) : HiF l h hi p:= .inr ⟨y,hy,hp⟩
theorem C1F.step {c n lo : Nat} {u v : α} (hu : l[c]? = some u) (hv : l[n - 1 - c]? = some v) (h : 0 ≤ pf v u) : C1F pf l (c + 1) lo n:=
  .inr ⟨u,v,hu,by rw [show n - (c + 1) = n - 1 - c by omega]; exact hv,by omega⟩
theorem C2F.step {c n hi : Nat} {u v : α} (hu : l[c]? = some u) (hv : l[n - 1 - c]? = some v) (h : pf v u < 0) : C2F pf l c hi n:=
  .inr ⟨u,v,hu,by rw [show n - c - 1 = n - 1 - c by omega]; exact hv,h⟩
inductive Blks (pf : α → α → Int) (L : List α) (bs n : Nat) : Nat → Prop
  | fin {a : Nat} : n ≤ a → Blks pf L bs n a
  | step {a : Nat} : Asc pf L a (min (a + bs) n) → Blks pf L bs n (a + bs) → Blks pf L bs n a
inductive Done (pf : α → α → Int) (L : List α) (bs : Nat) : Nat → Prop
  | zero : Done pf L bs 0
  | snoc {a : Nat} : Done pf L bs a → Asc pf L a (a + bs) → Done pf L bs (a + bs)
variable {bs n a : Nat}
theorem Blks.frame (h : Blks pf L bs n a) (k : ∀ p,a ≤ p → M[p]? = L[p]?) : Blks pf M bs n a:=by
  induction h with
  | fin h=>exact .fin h
  | step h1 h2 ih=>exact .step (h1.frame fun p hp _=>k p hp) (ih fun p hp=>k p (by omega))
theorem Done.frame (h : Done pf L bs a) (k : ∀ p,p < a → M[p]? = L[p]?) : Done pf M bs a:=by
  induction h with
  | zero=>exact .zero
  | snoc h1 h2 ih=>exact .snoc (ih fun p hp=>k p (by omega)) (h2.frame fun p _ hp=>k p hp)
theorem Done.blks (h : Done pf L bs a) (ha : a ≤ n) (k : Blks pf L bs n a) : Blks pf L bs n 0:=by
  induction h with
  | zero=>exact k
  | snoc h1 h2 ih=>exact ih (by omega) (.step (by rw [Nat.min_eq_left ha]; exact h2) k)
theorem Blks.head (h : Blks pf L bs n a) (ha : a < n) : Asc pf L a (min (a + bs) n) ∧ Blks pf L bs n (a + bs):=by
  cases h with
  | fin h=>omega
  | step h1 h2=>exact ⟨h1,h2⟩
theorem Blks.last (h : Asc pf L a n) (ha : n ≤ a + bs) : Blks pf L bs n a:= .step (by rw [Nat.min_eq_right ha]; exact h) (.fin ha)
theorem Blks.rest (h : Blks pf L bs n a) (h2 : a + bs < n) (h3 : n < a + 2 * bs) : Asc pf L a (a + bs) ∧ Asc pf L (a + bs) n:=by
  obtain ⟨k1,k2⟩:=h.head (by omega)
  obtain ⟨k3,_⟩:=k2.head h2
  rw [Nat.min_eq_left (by omega)] at k1
  rw [Nat.min_eq_right (by omega)] at k3
  exact ⟨k1,k3⟩
theorem Blks.one (h : Blks pf L bs n a) (h2 : n ≤ a + bs) : Asc pf L a n:=by
  rcases Nat.lt_or_ge a n with k | k
  · have:=(h.head k).1
    rwa [Nat.min_eq_right h2] at this
  · exact Asc.empty (by omega)
theorem Done.ins (h : Done pf L bs a) (k : Ins pf L M a (a + bs) (a + bs)) : Done pf M bs (a + bs):= .snoc (h.frame fun p hp=>k.frame p (by omega)) k.asc
theorem Done.last (h : Done pf L bs a) (k : Ins pf L M a n n) (ha : a ≤ n) (hn : n ≤ a + bs) : Blks pf M bs n 0:=(h.frame (M:=M) fun p hp=>k.frame p (by omega)).blks ha (.last k.asc hn)
end
end Go.Civ
namespace Go.Proofs
open Go.Shelf
def Tryz.laysCompact_ren : Go.Shelf.Ren:=⟨fun | 20=>146 | n=>n,fun | 22=>113 | 3=>3 | 4=>4 | 0=>0 | n=>n,fun | n=>n⟩
theorem Tryz.laysCompact : Go.Proofs.Lays2.n20 Tryz.prog Tryz.laysCompact_ren:={
  mixed:=by kernel_rfl
  f20:=Tryz.func146.trans (congrArg some (by kernel_rfl))
  t0:=Tryz.underlying0
  a0:=Tryz.isAgg0
  z0:=Tryz.sizeOf0
  v0:=Tryz.zeroValue0
  t3:=Tryz.underlying3
  a3:=Tryz.isAgg3
  z3:=Tryz.sizeOf3
  v3:=Tryz.zeroValue3
  t4:=Tryz.underlying4
  a4:=Tryz.isAgg4
  z4:=Tryz.sizeOf4
  v4:=Tryz.zeroValue4
  t22:=Tryz.underlying113
  a22:=Tryz.isAgg113
  z22:=Tryz.sizeOf113
  v22:=Tryz.zeroValue113
  i3:=by kernel_rfl }
end Go.Proofs
set_option linter.unusedVariables false
namespace Go.Civ
open Go.Proofs Go.Shelf Go.RowKit Go.Lib Go.Sort
theorem sortI_eq (l : List Int) : sortI l = sortZ l:=rfl
set_option maxHeartbeats 1000000 in
theorem c_Compact {G : GH} {w : World} (hG : G.In w) (l : List Int) (vd : Value) (od : OB) (hvd : Row Enc.int 8 (nat_lit 3) G vd l od) (hod : Lent w G od) :
    Calls Tryz.prog (nat_lit 146) #[vd] w fun e w'=>∃ r G',e = .returned r ∧ Res (blk od) w G w' G' ∧ ∃ (o' : OB),Row Enc.int 8 (nat_lit 3) G' r (compact l) o' ∧ Lent w' G' o' ∧ blk o' = blk od:=by
  rcases hvd with ⟨rfl,rfl,rfl⟩ | ⟨b,cs,cap,xs,rfl,rfl,h3,h4,h5,h6,h7,h8,h9⟩
  · exact (Any.slices_Compact_int_empty Tryz.laysCompact none 0 w).mono fun e w' ⟨he,hw⟩=>by
      subst hw
      exact ⟨_,G,he,Res.refl hG,none, .inl ⟨rfl,rfl,rfl⟩,fun p hp=>(by cases hp),rfl⟩
  · obtain ⟨hb1,hb2⟩:=hod _ rfl
    obtain ⟨rfl,hI⟩:=flatInt_cells l xs h6
    have hE : Enc.int.n = 1:=rfl
    rw [hE,Nat.mul_one] at h5 h7
    have hcell : ∀ t,t < l.length → cs[t]? = some (.int .i64 l[t]!):=fun t ht=>by
      have:=congrArg (·[t]?) h7
      simp only [List.getElem?_take,if_pos ht,List.getElem?_map] at this
      rw [this,List.getElem?_eq_getElem ht,getElem!_pos l t ht]; rfl
    have hH : Holds (Value.int .i64) w b 0 l.toArray:=fun t ht=>by
      have ht' : t < l.length:=by simpa using ht
      refine ⟨?_,?_⟩
      · rw [Nat.zero_add]
        simp only [World.cell?,hb1,objOf]
        have:=hcell t ht'
        rw [getElem!_pos l t ht'] at this
        rw [getElem!_pos l.toArray t ht]
        simpa using this
      · simp [World.frozen?,hb1,objOf]
    have hcon:=Any.slices_Compact_int Tryz.laysCompact b 0 cap l w hH (by unfold reach at h9; omega) h3
    refine hcon.mono fun e w' ⟨he,q,hw⟩=>?_
    have hlen:=compact_len l
    have hbl : b < w.heap.size:=(Array.getElem?_eq_some_iff.1 hb1).1
    obtain ⟨z,hz⟩ : ∃ z : List Int,z = compact l ++ List.replicate (l.length - (compact l).length) 0:=⟨_,rfl⟩
    have hzl : z.length = l.length:=by subst hz; simp; omega
    rw [← hz] at hw
    obtain ⟨cs',hcs'⟩ : ∃ cs' : List Value,cs' = (putCells (Value.int .i64) 0 z.toArray cs.toArray).toList:=⟨_,rfl⟩
    have hget : ∀ k,w'.heap[k]? = if b = k then some (.cells cs'.toArray (nat_lit 3) (0,0)) else w.heap[k]? :=fun k=>by
      subst hw
      have hah : (Go.Sort.ahead w q).heap = w.heap:=rfl
      simp only [putRow,mapBlock,hah]
      rw [Array.getElem?_modify]
      by_cases hkb : b = k
      · subst hkb
        rw [if_pos rfl,if_pos rfl,hb1]
        simp [objOf,onCells,hcs']
      · rw [if_neg hkb,if_neg hkb]
    have hres : Res [b] w G w' G:=by
      refine ⟨?_,G.le_refl,fun _ _=>rfl,fun k o hk=>?_⟩
      · refine ⟨by subst hw; rfl,by subst hw; rfl,by subst hw; rfl,by subst hw; exact Nat.le_add_right _ _,?_,fun k hk hkb=>?_⟩
        · subst hw
          have hah : (Go.Sort.ahead w q).heap = w.heap:=rfl
          simp [putRow,mapBlock]
          try simp [hah]
        · rw [hget,if_neg (by simpa [eq_comm] using hkb)]
      · have hkb : b ≠ k:=fun e=>by subst e; simp only at hb2; rw [hb2] at hk; cases hk
        rw [hget,if_neg hkb]; exact hG k o hk
    have hI' : ∀ x ∈ compact l,I64 x:=fun x hx=>by
      unfold compact compactUpTo at hx
      obtain ⟨j,hj,rfl⟩:=List.mem_map.1 hx
      have hj' : j < l.length:=by simpa using (List.mem_filter.1 hj).1
      rw [getElem!_pos l.toArray j (by simpa using hj')]
      exact hI _ (by simp)
    have hby : (compact l).length * 8 ≤ reach:=Nat.le_trans (Nat.mul_le_mul_right _ hlen) h8
    refine ⟨_,G,he,hres,some (b,nat_lit 3,cs'), .inr ⟨b,cs',cap,(compact l).map (Value.int .i64),rfl,rfl,Nat.le_trans hlen h3,h4,?_,flatInt _ hI',?_,hby,Nat.le_trans hlen h9⟩,fun p hp=>?_,rfl⟩
    · subst hcs'; rw [hE]; simpa [putCells] using h5
    · rw [hE,Nat.mul_one]
      apply List.ext_getElem?
      intro t
      rw [List.getElem?_take]
      by_cases ht : t < (compact l).length
      · have htc : t < cs.length:=by omega
        have htz : z[t]? = (compact l)[t]? :=by rw [hz,List.getElem?_append_left ht]
        have htz' : t < z.length:=by omega
        rw [if_pos ht,hcs']
        simp only [putCells,Array.getElem?_toList,Array.getElem?_mapIdx]
        simp only [List.getElem?_toArray]
        rw [List.getElem?_eq_getElem htc,List.getElem?_map,← htz,List.getElem?_eq_getElem htz']
        simp [htz']
      · rw [if_neg ht,List.getElem?_eq_none]
        simp; omega
    · obtain rfl:=Option.some.inj hp
      exact ⟨by rw [hget,if_pos rfl]; rfl,hb2⟩
end Go.Civ
namespace Go.Proofs
open Go.Shelf
def Tryz.ixByte_ren : Go.Shelf.Ren:=⟨fun | 137=>172 | 217=>211 | 266=>245 | n=>n,fun | 9=>9 | 5=>5 | 3=>3 | n=>n,fun | n=>n⟩
theorem Tryz.ixByte : Go.Proofs.Lays.n137 Tryz.prog Tryz.ixByte_ren:={
  mixed:=by kernel_rfl
  f137:=Tryz.func172.trans (congrArg some (by kernel_rfl))
  f217:=Tryz.func211.trans (congrArg some (by kernel_rfl))
  f266:=Tryz.func245.trans (congrArg some (by kernel_rfl))
  t3:=Tryz.underlying3
  a3:=Tryz.isAgg3
  z3:=Tryz.sizeOf3
  v3:=Tryz.zeroValue3
  t5:=Tryz.underlying5
  a5:=Tryz.isAgg5
  z5:=Tryz.sizeOf5
  v5:=Tryz.zeroValue5
  t9:=Tryz.underlying9
  a9:=Tryz.isAgg9
  z9:=Tryz.sizeOf9
  v9:=Tryz.zeroValue9 }
end Go.Proofs
set_option linter.unusedVariables false
namespace Go.Civ
open Go.Proofs Go.Shelf Go.RowKit
theorem c_IndexByte {G : GH} {w : World} (hG : G.In w) (s : List UInt8) (c : Int) : Calls Tryz.prog (nat_lit 172) #[strV s, .int .u8 c] w fun e w'=>∃ r G',e = .returned r ∧ Res [] w G w' G' ∧ r = .int .i64 (Lib.indexByte s c.toNat.toUInt8):=by
  refine (Any.strings_IndexByte Tryz.ixByte ⟨s.toArray⟩ c w).mono ?_
  rintro e w' ⟨rfl,rfl⟩
  exact ⟨_,G,rfl,Res.refl hG,rfl⟩
end Go.Civ
