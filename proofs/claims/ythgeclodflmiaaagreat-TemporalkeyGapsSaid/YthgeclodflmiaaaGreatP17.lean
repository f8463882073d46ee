/- Lemmas. -/
import Derived.Test.YthgeclodflmiaaaGreatP16
namespace Go.Civ
open Go.RowKit
set_option linter.unusedVariables false
section
variable {P : Program} {Q : Exit → Env → World → Prop} {ρ : Env} {w : World} {ops : Array Oper} {rest : List Oper} {K : Env → World → Prop}
variable {d : Nat} {ty : TypeId} {pos : String} {af : Array Edge} {g : Option (Nat × Bool)} {G : GH}
theorem Zky {t ty' : TypeId} {x y : Operand} (a b : Nat) (hb : 0 < b) (ha : a ≤ 4 * reach)
  (hw : Region.wanted ⟨some d, .binOp .quo t x y ty',ty,pos,af,g⟩ (Zo ops ρ) = true) (hx : ev ρ x = .int .i64 (a : Int)) (hy : ev ρ y = .int .i64 (b : Int))
  (kk : K (Z6 ρ d (.int .i64 ((a / b : Nat) : Int))) w) : OW P ops ⟨some d, .binOp .quo t x y ty',ty,pos,af,g⟩ ρ w K:=by
 have h1 : a / b ≤ a:=Nat.div_le_self a b
 have e1 : Int.tdiv (a : Int) (b : Int) = ((a / b : Nat) : Int):=by rw [Int.tdiv_eq_ediv_of_nonneg (by omega)]; simp
 generalize a / b = q at h1 e1 kk
 refine WL.val hw ?_ rfl kk
 have hI : Zy (q : Int):=by clear e1; exact ⟨by omega,by unfold reach at ha; omega⟩
 simp [execOp,hx,hy,binOp,Zay,Op.intDiv,show b ≠ 0 by omega,e1,ZeL hI,Result.andThen]
theorem Xk {t ty' : TypeId} {x y : Operand} (a b : Nat) (hb : 0 < b) (ha : a ≤ 4 * reach)
  (hw : Region.wanted ⟨some d, .binOp .rem t x y ty',ty,pos,af,g⟩ (Zo ops ρ) = true) (hx : ev ρ x = .int .i64 (a : Int)) (hy : ev ρ y = .int .i64 (b : Int))
  (kk : K (Z6 ρ d (.int .i64 ((a % b : Nat) : Int))) w) : OW P ops ⟨some d, .binOp .rem t x y ty',ty,pos,af,g⟩ ρ w K:=by
 have e1 : Int.tmod (a : Int) (b : Int) = ((a % b : Nat) : Int):=by rw [Int.tmod_eq_emod_of_nonneg (by omega)]; simp
 generalize a % b = q at e1 kk
 refine WL.val hw ?_ rfl kk
 simp [execOp,hx,hy,binOp,Zay,Op.intDiv,show b ≠ 0 by omega,e1,Result.andThen]
end
theorem Zq9 {l : List Span} (h : Can l) {k : Nat} {x y : Span} (hx : l[k - 1]? = some x) (hy : l[k]? = some y) (hk : 0 < k) (hge : x.b ≥ y.a) : False:=by
 obtain ⟨h1,rfl⟩:=List.getElem?_eq_some_iff.1 hx
 obtain ⟨h2,rfl⟩:=List.getElem?_eq_some_iff.1 hy
 have:=List.pairwise_iff_getElem.1 h.apart (k - 1) k h1 h2 (by omega)
 omega
def Za (l : List Span) (n : Nat) : Int:=if n = 2 * l.length then 8796093022208 else match l[n / 2]? with | some s=>if n % 2 = 0 then s.a else s.b | none=>0
theorem ZcE {l : List Span} {n : Nat} (h : n = 2 * l.length) : Za l n = 8796093022208:=by unfold Za; rw [if_pos h]
theorem ZqA {l : List Span} {n : Nat} {s : Span} (h : n ≠ 2 * l.length) (hs : l[n / 2]? = some s) (h0 : n % 2 = 0) : Za l n = s.a:=by unfold Za; rw [if_neg h,hs]; simp [h0]
theorem ZqB {l : List Span} {n : Nat} {s : Span} (h : n ≠ 2 * l.length) (hs : l[n / 2]? = some s) (h0 : n % 2 ≠ 0) : Za l n = s.b:=by unfold Za; rw [if_neg h,hs]; simp [h0]
structure Behind (l : List Span) (n : Nat) (T : Int) : Prop where
 le : n ≤ 2 * l.length
 lo : ∀ (j : Nat) s,l[j]? = some s → (2 * j < n → s.a ≤ T) ∧ (2 * j + 1 < n → s.b ≤ T)
 hi : ∀ (j : Nat) s,l[j]? = some s → (n ≤ 2 * j → T < s.a) ∧ (n ≤ 2 * j + 1 → T < s.b)
theorem Behind.start {l : List Span} {T : Int} (h : ∀ s ∈ l,T < s.a ∧ T < s.b) : Behind l 0 T:=
 ⟨by omega,fun j s hs=>⟨fun h=>by omega,fun h=>by omega⟩,fun j s hs=>⟨fun _=>(h s (List.mem_of_getElem? hs)).1,fun _=>(h s (List.mem_of_getElem? hs)).2⟩⟩
theorem Behind.cover {l : List Span} {n : Nat} {T : Int} (h : Behind l n T) : cover l T ↔ n % 2 = 1:=by
 constructor
 ·rintro ⟨s,hs,h1,h2⟩
  obtain ⟨j,hj,rfl⟩:=List.mem_iff_getElem.1 hs
  have e:=List.getElem?_eq_getElem hj
  have a1:=(h.hi j _ e).1
  have a2:=(h.lo j _ e).2
  have b1 : ¬ n ≤ 2 * j:=fun q=>by have:=a1 q; omega
  have b2 : ¬ 2 * j + 1 < n:=fun q=>by have:=a2 q; omega
  omega
 ·intro hn
  have hl:=h.le
  have hj : n / 2 < l.length:=by omega
  have e:=List.getElem?_eq_getElem hj
  exact ⟨_,List.getElem_mem hj,(h.lo _ _ e).1 (by omega),(h.hi _ _ e).2 (by omega)⟩
theorem ZbY {l : List Span} {n : Nat} (h : n < 2 * l.length) : ∃ s,l[n / 2]? = some s ∧ Za l n = if n % 2 = 0 then s.a else s.b:=by
 have hj : n / 2 < l.length:=by omega
 refine ⟨_,List.getElem?_eq_getElem hj,?_⟩
 unfold Za; rw [if_neg (by omega),List.getElem?_eq_getElem hj]
theorem Zjl {l : List Span} {n : Nat} (h : n < 2 * l.length) (hv : ∀ s ∈ l,s.a < 8796093022208 ∧ s.b < 8796093022208) : Za l n < 8796093022208:=by
 obtain ⟨s,hs,e⟩:=ZbY h
 have:=hv s (List.mem_of_getElem? hs)
 rw [e]; split <;> omega
theorem Behind.gt {l : List Span} {n : Nat} {T : Int} (h : Behind l n T) (hT : T < 8796093022208) : T < Za l n:=by
 by_cases hn : n = 2 * l.length
 ·rw [ZcE hn]; exact hT
 ·have hl:=h.le
  obtain ⟨s,hs,e⟩:=ZbY (l:=l) (n:=n) (by omega)
  rw [e]
  have:=h.hi _ _ hs
  split
  ·exact this.1 (by omega)
  ·exact this.2 (by omega)
theorem Zh5 {l : List Span} {n : Nat} (hC : Can l) (hn : n < 2 * l.length) (j : Nat) (s : Span) (hs : l[j]? = some s) : (n ≤ 2 * j → Za l n ≤ s.a) ∧ (n ≤ 2 * j + 1 → Za l n ≤ s.b) ∧ (n < 2 * j → Za l n < s.a) ∧ (n < 2 * j + 1 → Za l n < s.b):=by
 obtain ⟨s0,h0,e⟩:=ZbY hn
 have p0:=hC.pos s0 (List.mem_of_getElem? h0)
 have p1:=hC.pos s (List.mem_of_getElem? hs)
 have ap : n / 2 < j → s0.b < s.a:=fun hlt=>by
  obtain ⟨q1,rfl⟩:=List.getElem?_eq_some_iff.1 h0
  obtain ⟨q2,rfl⟩:=List.getElem?_eq_some_iff.1 hs
  exact List.pairwise_iff_getElem.1 hC.apart _ _ q1 q2 hlt
 have eq : n / 2 = j → s0 = s:=fun he=>by rw [he] at h0; exact Option.some.inj (h0.symm.trans hs)
 rw [e]
 by_cases hj : n / 2 = j
 ·have:=eq hj; subst this
  refine ⟨fun q=>?_,fun q=>?_,fun q=>?_,fun q=>?_⟩ <;> split <;> omega
 ·refine ⟨fun q=>?_,fun q=>?_,fun q=>?_,fun q=>?_⟩ <;> (have:=ap (by omega); split <;> omega)
theorem Behind.up {l : List Span} {n : Nat} {T T' : Int} (h : Behind l n T) (hC : Can l) (hT : T ≤ T') (hlt : T' < Za l n ∨ n = 2 * l.length) : Behind l n T':=by
 refine ⟨h.le,fun j s hs=>⟨fun q=>Int.le_trans ((h.lo j s hs).1 q) hT,fun q=>Int.le_trans ((h.lo j s hs).2 q) hT⟩,fun j s hs=>?_⟩
 have hj:=(List.getElem?_eq_some_iff.1 hs).1
 by_cases hn : n = 2 * l.length
 ·exact ⟨fun q=>by omega,fun q=>by omega⟩
 ·have hl:=h.le
  have hm:=Zh5 hC (n:=n) (by omega) j s hs
  have hlt' : T' < Za l n:=by rcases hlt with h1 | h1 <;> omega
  exact ⟨fun q=>by have:=hm.1 q; omega,fun q=>by have:=hm.2.1 q; omega⟩
theorem Behind.step {l : List Span} {n : Nat} {T T' : Int} (h : Behind l n T) (hC : Can l) (hT : T ≤ T') (hn : n < 2 * l.length) (he : Za l n = T') : Behind l (n + 1) T':=by
 refine ⟨by omega,fun j s hs=>?_,fun j s hs=>?_⟩
 ·obtain ⟨s0,h0,e⟩:=ZbY hn
  have eq : n / 2 = j → s0 = s:=fun he=>by rw [he] at h0; exact Option.some.inj (h0.symm.trans hs)
  constructor
  ·intro q
   by_cases hq : 2 * j < n
   ·exact Int.le_trans ((h.lo j s hs).1 hq) hT
   ·have:=eq (by omega); subst this
    rw [if_pos (by omega)] at e; omega
  ·intro q
   by_cases hq : 2 * j + 1 < n
   ·exact Int.le_trans ((h.lo j s hs).2 hq) hT
   ·have:=eq (by omega); subst this
    rw [if_neg (by omega)] at e; omega
 ·have hm:=Zh5 hC hn j s hs
  exact ⟨fun q=>by have:=hm.2.2.1 (by omega); omega,fun q=>by have:=hm.2.2.2 (by omega); omega⟩
def ZaQ (i k : Nat) : Bool:=decide (((i % 2 : Nat) : Int) = 1) && !decide (((k % 2 : Nat) : Int) = 1)
structure Sweep (a b : List Span) (i k : Nat) (ins : Bool) (fr : Int) (out : List Span) (T : Int) : Prop where
 ba : Behind a i T
 bb : Behind b k T
 st : ins = ZaQ i k
 can : Can out
 top : ∀ s ∈ out,s.b ≤ fr ∧ (ins = true → s.b < fr)
 frT : fr ≤ T ∨ (ins = false ∧ out = [])
 cov : ∀ x,x < T → ((cover out x ∨ (ins = true ∧ fr ≤ x)) ↔ (cover a x ∧ ¬ cover b x))
 len : 2 * out.length + (if ins then 1 else 0) ≤ i + k
 tb : T < 8796093022208
 bds : -8796093022208 ≤ T ∧ -8796093022208 ≤ fr ∧ fr ≤ 8796093022208
theorem Sweep.start {a b : List Span} (ha : ∀ s ∈ a,YM s = true) (hb : ∀ s ∈ b,YM s = true) : Sweep a b 0 0 false 0 [] (-8796093022208):=by
 have sv : ∀ s : Span,YM s = true → -8796093022208 < s.a ∧ -8796093022208 < s.b:=fun s hs=>by
  unfold YM Zaz at hs; simp at hs; omega
 refine ⟨Behind.start fun s hs=>sv s (ha s hs),Behind.start fun s hs=>sv s (hb s hs),rfl,⟨List.Pairwise.nil,by simp⟩,by simp, .inr ⟨rfl,rfl⟩,fun x hx=>?_,by simp,by decide,by decide⟩
 constructor
 ·rintro (⟨_,h,_⟩ | h)
  ·simp at h
  ·simp at h
 ·rintro ⟨⟨s,hs,h1,h2⟩,_⟩
  have:=sv s (ha s hs); omega
structure Adv (l : List Span) (i i' : Nat) (t : Int) : Prop where
 ok : (Za l i = t ∧ i' = i + 1) ∨ (Za l i ≠ t ∧ i' = i)
theorem Adv.yes {l : List Span} {i : Nat} {t : Int} (h : Za l i = t) : Adv l i (i + 1) t:=⟨.inl ⟨h,rfl⟩⟩
theorem Adv.no {l : List Span} {i : Nat} {t : Int} (h : Za l i ≠ t) : Adv l i i t:=⟨.inr ⟨h,rfl⟩⟩
structure Next (a b : List Span) (i k i' k' : Nat) (ins : Bool) (fr : Int) (out : List Span) (T t : Int) : Prop where
 ba : Behind a i' t
 bb : Behind b k' t
 lt : T < t
 tb : t < 8796093022208
 adv : i + k < i' + k'
 cov : ∀ x,x < t → ((cover out x ∨ (ins = true ∧ fr ≤ x)) ↔ (cover a x ∧ ¬ cover b x))
theorem Sweep.next {a b : List Span} {i k i' k' : Nat} {ins : Bool} {fr : Int} {out : List Span} {T t : Int} (h : Sweep a b i k ins fr out T)
  (hCa : Can a) (hCb : Can b) (ha : ∀ s ∈ a,YM s = true) (hb : ∀ s ∈ b,YM s = true)
  (ht : t = min (Za a i) (Za b k)) (hg : i < 2 * a.length ∨ k < 2 * b.length) (hi : Adv a i i' t) (hk : Adv b k k' t) : Next a b i k i' k' ins fr out T t:=by
 have sv : ∀ s : Span,YM s = true → s.a < 8796093022208 ∧ s.b < 8796093022208:=fun s hs=>by
  unfold YM Zaz at hs; simp at hs; omega
 have la:=h.ba.le; have lb:=h.bb.le
 have ga:=h.ba.gt h.tb; have gb:=h.bb.gt h.tb
 have hla : ∀ n,n < 2 * a.length → Za a n < 8796093022208:=fun n hn=>Zjl hn fun s hs=>sv s (ha s hs)
 have hlb : ∀ n,n < 2 * b.length → Za b n < 8796093022208:=fun n hn=>Zjl hn fun s hs=>sv s (hb s hs)
 have tb : t < 8796093022208:=by
  rcases hg with q | q
  ·have:=hla i q; omega
  ·have:=hlb k q; omega
 have hlt : T < t:=by omega
 have na : Za a i = t → i < 2 * a.length:=fun q=>by
  rcases Nat.lt_or_ge i (2 * a.length) with c | c
  ·exact c
  ·have:=ZcE (l:=a) (n:=i) (by omega); omega
 have nb : Za b k = t → k < 2 * b.length:=fun q=>by
  rcases Nat.lt_or_ge k (2 * b.length) with c | c
  ·exact c
  ·have:=ZcE (l:=b) (n:=k) (by omega); omega
 refine ⟨?_,?_,hlt,tb,?_,fun x hx=>?_⟩
 ·rcases hi.ok with ⟨q,rfl⟩ | ⟨q,rfl⟩
  ·exact h.ba.step hCa (by omega) (na q) q
  ·exact h.ba.up hCa (by omega) (.inl (by omega))
 ·rcases hk.ok with ⟨q,rfl⟩ | ⟨q,rfl⟩
  ·exact h.bb.step hCb (by omega) (nb q) q
  ·exact h.bb.up hCb (by omega) (.inl (by omega))
 ·rcases hi.ok with ⟨q,rfl⟩ | ⟨q,rfl⟩ <;> rcases hk.ok with ⟨q',rfl⟩ | ⟨q',rfl⟩ <;> omega
 ·rcases Int.lt_or_le x T with hxT | hxT
  ·exact h.cov x hxT
  ·have c1:=(h.ba.up hCa hxT (.inl (by omega))).cover
   have c2:=(h.bb.up hCb hxT (.inl (by omega))).cover
   have hst:=h.st
   rw [c1,c2]
   constructor
   ·rintro (⟨s,hs,h1,h2⟩ | ⟨q,_⟩)
    ·have:=(h.top s hs).1
     rcases h.frT with q | ⟨_,q⟩
     ·omega
     ·rw [q] at hs; simp at hs
    ·rw [q] at hst; unfold ZaQ at hst; simp at hst; omega
   ·intro q
    right
    have e : ins = true:=by rw [hst]; unfold ZaQ; simp; omega
    refine ⟨e,?_⟩
    rcases h.frT with q' | ⟨q',_⟩
    ·omega
    ·rw [e] at q'; cases q'
theorem Sweep.keep {a b : List Span} {i k i' k' : Nat} {ins : Bool} {fr : Int} {out : List Span} {T t : Int} (h : Sweep a b i k ins fr out T) (hn : Next a b i k i' k' ins fr out T t) {v : Bool} (hv : ZaQ i' k' = v) (he : (v == ins) = true) : Sweep a b i' k' ins fr out t:=
 ⟨hn.ba,hn.bb,(hv.trans (eq_of_beq he)).symm,h.can,h.top,by rcases h.frT with q | q; exact .inl (by have:=hn.lt; omega); exact .inr q,hn.cov,by have:=h.len; have:=hn.adv; omega,hn.tb,by have:=h.bds; have:=hn.lt; omega⟩
theorem Sweep.open {a b : List Span} {i k i' k' : Nat} {fr : Int} {out : List Span} {T t : Int} (h : Sweep a b i k false fr out T) (hn : Next a b i k i' k' false fr out T t) (he : ZaQ i' k' = true) : Sweep a b i' k' true t out t:=by
 have tp : ∀ s ∈ out,s.b < t:=fun s hs=>by
  have:=(h.top s hs).1
  rcases h.frT with q | ⟨_,q⟩
  ·have:=hn.lt; omega
  ·rw [q] at hs; simp at hs
 refine ⟨hn.ba,hn.bb,he.symm,h.can,fun s hs=>⟨by have:=tp s hs; omega,fun _=>tp s hs⟩, .inl (by omega),fun x hx=>?_,by have:=h.len; have:=hn.adv; simp at this ⊢; simp at *; omega,hn.tb,by have:=h.bds; have:=hn.lt; have:=hn.tb; omega⟩
 rw [← hn.cov x hx]
 constructor
 ·rintro (q | ⟨_,q⟩)
  ·exact .inl q
  ·omega
 ·rintro (q | ⟨q,_⟩)
  ·exact .inl q
  ·cases q
theorem Sweep.push {a b : List Span} {i k i' k' : Nat} {fr : Int} {out : List Span} {T t : Int} (h : Sweep a b i k true fr out T) (hn : Next a b i k i' k' true fr out T t) (he : ZaQ i' k' = false) : Sweep a b i' k' false t (out ++ [⟨fr,t⟩]) t:=by
 have hfr : fr ≤ T:=by
  rcases h.frT with q | ⟨q,_⟩
  ·exact q
  ·cases q
 have hlt:=hn.lt
 refine ⟨hn.ba,hn.bb,he.symm,⟨List.pairwise_append.2 ⟨h.can.apart,List.pairwise_singleton _ _,fun s hs q hq=>?_⟩,fun s hs=>?_⟩,fun s hs=>⟨?_,fun q=>by cases q⟩, .inl (by omega),fun x hx=>?_,?_,hn.tb,by have:=h.bds; have:=hn.tb; omega⟩
 ·simp at hq; subst hq; exact (h.top s hs).2 rfl
 ·rcases List.mem_append.1 hs with q | q
  ·exact h.can.pos s q
  ·simp at q; subst q; show fr < t; omega
 ·rcases List.mem_append.1 hs with q | q
  ·have:=(h.top s q).1; omega
  ·simp at q; subst q; show t ≤ t; omega
 ·rw [← hn.cov x hx]
  constructor
  ·rintro (⟨s,hs,h1,h2⟩ | ⟨q,_⟩)
   ·rcases List.mem_append.1 hs with q | q
    ·exact .inl ⟨s,q,h1,h2⟩
    ·simp at q; subst q; exact .inr ⟨rfl,h1⟩
   ·cases q
  ·rintro (⟨s,hs,h1,h2⟩ | ⟨_,q⟩)
   ·exact .inl ⟨s,List.mem_append_left _ hs,h1,h2⟩
   ·exact .inl ⟨⟨fr,t⟩,by simp,q,hx⟩
 ·have:=h.len; have:=hn.adv; simp at *; omega
theorem Sweep.flip {a b : List Span} {i k i' k' : Nat} {fr : Int} {out : List Span} {T t : Int} {ins v : Bool} (h : Sweep a b i k ins fr out T) (hn : Next a b i k i' k' ins fr out T t) (hv : ZaQ i' k' = v) (he : (v == ins) = false) (hi : ins = true) : Sweep a b i' k' v t (out ++ [⟨fr,t⟩]) t:=by
 subst hi
 have e : v = false:=by cases q : v with | false=>rfl | true=>rw [q] at he; cases he
 rw [e] at hv ⊢; exact h.push hn hv
theorem Sweep.flop {a b : List Span} {i k i' k' : Nat} {fr : Int} {out : List Span} {T t : Int} {ins v : Bool} (h : Sweep a b i k ins fr out T) (hn : Next a b i k i' k' ins fr out T t) (hv : ZaQ i' k' = v) (he : (v == ins) = false) (hi : ins = false) : Sweep a b i' k' v t out t:=by
 subst hi
 have e : v = true:=by cases q : v with | true=>rfl | false=>rw [q] at he; cases he
 rw [e] at hv ⊢; exact h.open hn hv
theorem Sweep.done {a b : List Span} {i k : Nat} {ins : Bool} {fr : Int} {out : List Span} {T : Int} (h : Sweep a b i k ins fr out T) (hCa : Can a) (hCb : Can b)
  (hi : ¬ (i < 2 * a.length)) (hk : ¬ (k < 2 * b.length)) : out = Yb 3 a b ∧ out.length ≤ a.length + b.length:=by
 have la:=h.ba.le; have lb:=h.bb.le
 have ei : i = 2 * a.length:=by omega
 have ek : k = 2 * b.length:=by omega
 have hst : ins = false:=by rw [h.st]; unfold ZaQ; simp; omega
 obtain ⟨h1,h2⟩:=Za7 (kind:=3) (a:=a) (b:=b) rfl hCa.pos hCb.pos
 refine ⟨Can.unique h.can h1 fun x=>?_,by have:=h.len; omega⟩
 rw [h2 x]
 have key : (cover a x ∧ ¬ cover b x) ↔ XW 3 (Y0 a x) (Y0 b x) = true:=by
  rw [← XL,← XL]
  simp [XW]
 rw [← key]
 rcases Int.lt_or_le x T with q | q
 ·rw [← h.cov x q,hst]; simp
 ·have c1:=(h.ba.up hCa q (.inr ei)).cover
  constructor
  ·rintro ⟨s,hs,u1,u2⟩
   have:=(h.top s hs).1
   rcases h.frT with q' | ⟨_,q'⟩
   ·omega
   ·rw [q'] at hs; simp at hs
  ·rintro ⟨u1,_⟩
   have:=c1.1 u1; omega
def ZpR (gs : List Group) (v : List Val) : Prop:=∀ (p q : Nat) (x y : Group),p < q → gs[p]? = some x → gs[q]? = some y → YU y.v v < 0 → YU x.v v < 0
def ZrY (gs : List Group) (v : List Val) (i : Nat) : Prop:=∀ (j : Nat),j < i → ∀ (u : Group),gs[j]? = some u → YU u.v v < 0
def ZpS (gs : List Group) (v : List Val) (i : Nat) : Prop:=∀ (j : Nat),i ≤ j → ∀ (u : Group),gs[j]? = some u → ¬ YU u.v v < 0
theorem ZrY.zero {gs : List Group} {v : List Val} : ZrY gs v 0:=fun j hj=>by omega
theorem ZpS.all {gs : List Group} {v : List Val} : ZpS gs v gs.length:=fun j hj u hu=>by have:=(List.getElem?_eq_some_iff.1 hu).1; omega
theorem ZrY.step {gs : List Group} {v : List Val} {h : Nat} {x : Group} (hs : ZpR gs v) (hx : gs[h]? = some x) (hc : YU x.v v < 0) : ZrY gs v (h + 1):=fun j hj u hu=>by
 by_cases e : j = h
 ·subst e; rw [hx] at hu; cases hu; exact hc
 ·exact hs j h u x (by omega) hu hx hc
theorem ZpS.step {gs : List Group} {v : List Val} {h : Nat} {x : Group} (hs : ZpR gs v) (hx : gs[h]? = some x) (hc : 0 ≤ YU x.v v) : ZpS gs v h:=fun j hj u hu k=>by
 by_cases e : j = h
 ·subst e; rw [hx] at hu; cases hu; omega
 ·have:=hs h j x u (by omega) hx hu k; omega
theorem Zdd (a b : List Fact) (v : List Val) : ZV (a ++ b) v = ZV a v ++ ZV b v:=by simp [ZV]
theorem Zl7 (t : List Span) (u v : List Val) : ZV (t.map (Fact.mk u)) v = if u = v then t else []:=by
 unfold ZV
 by_cases h : u = v
 ·rw [if_pos h,List.filter_eq_self.2 (by intro f hf; obtain ⟨s,_,rfl⟩:=List.mem_map.1 hf; simpa using h),List.map_map]
  exact List.map_id _
 ·rw [if_neg h,List.filter_eq_nil_iff.2 (by intro f hf; obtain ⟨s,_,rfl⟩:=List.mem_map.1 hf; simpa using h)]; rfl
theorem Zgr {l : List Span} (h : ∀ s ∈ l,ZC s = true) : ∀ s ∈ XD l,ZC s = true:=fun s hs=>by
 have hc:=X5 fun x hx=>Yp (h x hx)
 have hp:=hc.can.pos s hs
 obtain ⟨p,hp1,p1,p2⟩:=(hc.cov s.a).1 ⟨s,hs,by omega,hp⟩
 obtain ⟨q,hq1,q1,q2⟩:=(hc.cov (s.b - 1)).1 ⟨s,hs,by omega,by omega⟩
 have b1:=h p hp1
 have b2:=h q hq1
 unfold ZC at b1 b2 ⊢
 simp at b1 b2 ⊢
 omega
end Go.Civ
