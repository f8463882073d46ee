/- Lemmas. -/
import Derived.Test.YthgeclodflmiaaaGreatM25
namespace Go.Civ
open Go.RowKit
set_option linter.unusedVariables false
def XX (x : Int) : List Int → List Int
 | []=>[x]
 | y :: r=>if y < x then y :: XX x r else if y = x then y :: r else x :: y :: r
def Y5 (l : List Int) : List Int:=l.foldl (fun out x=>XX x out) []
section
variable {x y : Int} {l out : List Int} {k : Nat}
theorem Zgm : ∀ {l : List Int},y ∈ XX x l ↔ y = x ∨ y ∈ l
 | []=>by simp [XX]
 | z :: r=>by
  unfold XX
  split
  ·rw [List.mem_cons,Zgm,List.mem_cons]
   constructor
   ·rintro (h | h | h)
    ·exact .inr (.inl h)
    ·exact .inl h
    ·exact .inr (.inr h)
   ·rintro (h | h | h)
    ·exact .inr (.inl h)
    ·exact .inl h
    ·exact .inr (.inr h)
  ·split
   ·rename_i h
    constructor
    ·exact .inr
    ·rintro (rfl | q)
     ·rw [h]; simp
     ·exact q
   ·simp
theorem Zkx : ∀ {l : List Int},l.Pairwise (· < ·) → (XX x l).Pairwise (· < ·)
 | [],_=>by simp [XX]
 | z :: r,h=>by
  obtain ⟨h1,h2⟩:=List.pairwise_cons.1 h
  unfold XX
  split
  ·rename_i hz
   refine List.pairwise_cons.2 ⟨fun w hw=>?_,Zkx h2⟩
   rcases Zgm.1 hw with rfl | hw
   ·exact hz
   ·exact h1 w hw
  ·split
   ·exact h
   ·refine List.pairwise_cons.2 ⟨fun w hw=>?_,h⟩
    rcases List.mem_cons.1 hw with rfl | hw
    ·omega
    ·have:=h1 w hw; omega
theorem Zky : ∀ {l : List Int},(XX x l).length ≤ l.length + 1
 | []=>by simp [XX]
 | z :: r=>by
  have:=Zky (l:=r)
  unfold XX
  split
  ·simp; omega
  ·split <;> simp
theorem Zgn : ∀ (l out : List Int),out.Pairwise (· < ·) → (l.foldl (fun out x=>XX x out) out).Pairwise (· < ·) ∧ ∀ y,y ∈ l.foldl (fun out x=>XX x out) out ↔ y ∈ l ∨ y ∈ out
 | [],out,h=>⟨h,fun y=>by simp⟩
 | x :: l,out,h=>by
  obtain ⟨h1,h2⟩:=Zgn l (XX x out) (Zkx h)
  refine ⟨h1,fun y=>(h2 y).trans ?_⟩
  rw [Zgm,List.mem_cons]
  constructor
  ·rintro (a | a | a)
   ·exact .inl (.inr a)
   ·exact .inl (.inl a)
   ·exact .inr a
  ·rintro ((a | a) | a)
   ·exact .inr (.inl a)
   ·exact .inl a
   ·exact .inr (.inr a)
theorem Zgo (l : List Int) : (Y5 l).Pairwise (· < ·):=(Zgn l [] List.Pairwise.nil).1
theorem ZcH : y ∈ Y5 l ↔ y ∈ l:=by unfold Y5; rw [(Zgn l [] List.Pairwise.nil).2 y]; simp
theorem Zbh (h : l[k]? = some x) : Y5 (l.take (k + 1)) = XX x (Y5 (l.take k)):=by
 unfold Y5; rw [List.take_add_one,h]; simp [List.foldl_append]
theorem Zem : ∀ (l : List Int),(Y5 l).length ≤ l.length:=by
 have : ∀ (l out : List Int),(l.foldl (fun out x=>XX x out) out).length ≤ out.length + l.length:=by
  intro l
  induction l with
  | nil=>intro out; simp
  | cons x l ih=>intro out; have:=ih (XX x out); have:=Zky (x:=x) (l:=out); rw [List.foldl_cons,List.length_cons]; omega
 intro l
 have:=this l []
 simpa [Y5] using this
theorem Zkz (l : List Int) (k : Nat) : (Y5 (l.take k)).length ≤ l.length:=by
 have:=Zem (l.take k)
 have:=List.length_take_le' k l
 omega
def DnI (out : List Int) (x : Int) (k : Nat) : Prop:=∀ j,j < k → ∀ u,out[j]? = some u → u < x
theorem DnI.step {u : Int} (h : DnI out x k) (hu : out[k]? = some u) (h1 : u < x) : DnI out x (k + 1):=fun j hj w hw=>by
 by_cases e : j = k
 ·subst e; rw [hu] at hw; obtain rfl:=Option.some.inj hw; exact h1
 ·exact h j (by omega) w hw
theorem Zl5 : ∀ {out : List Int} {k : Nat} {u : Int},DnI out x k → out[k]? = some u → u = x → XX x out = out
 | [],k,u,_,h,_=>by cases h
 | z :: r,0,u,_,h,e=>by
  obtain rfl:=Option.some.inj h
  unfold XX
  rw [if_neg (by omega),if_pos e]
 | z :: r,k + 1,u,h1,h,e=>by
  have hz:=h1 0 (by omega) z rfl
  unfold XX
  rw [if_pos hz,Zl5 (k:=k) (fun j hj w hw=>h1 (j + 1) (by omega) w (by simpa using hw)) (by simpa using h) e]
theorem Zgp : ∀ {out : List Int} {k : Nat},DnI out x k → k ≤ out.length → (∀ u,out[k]? = some u → x < u) → (([] ++ out.take k) ++ [x]) ++ out.drop k = XX x out
 | [],0,_,_,_=>by simp [XX]
 | z :: r,0,_,_,h=>by
  have:=h z rfl
  unfold XX
  rw [if_neg (by omega),if_neg (by omega)]; simp
 | [],k + 1,_,h,_=>by simp at h
 | z :: r,k + 1,h1,h2,h=>by
  have hz:=h1 0 (by omega) z rfl
  have ih:=Zgp (out:=r) (k:=k) (fun j hj w hw=>h1 (j + 1) (by omega) w (by simpa using hw)) (by simpa using h2) (fun u hu=>h u (by simpa using hu))
  unfold XX
  rw [if_pos hz,← ih]; simp
end
theorem Zdr {β : Type} {f : Int → Option β} {x : Int} {r : β} : ∀ {l : List Int},x ∈ l → l.Pairwise (· < ·) → (∀ y ∈ l,y < x → f y = none) → f x = some r → l.findSome? f = some r
 | [],h,_,_,_=>by cases h
 | z :: l,h,hp,hn,hf=>by
  obtain ⟨h1,h2⟩:=List.pairwise_cons.1 hp
  rcases List.mem_cons.1 h with rfl | h
  ·rw [List.findSome?_cons,hf]
  ·rw [List.findSome?_cons,hn z (by simp) (h1 x h)]
   exact Zdr h h2 (fun y hy=>hn y (by simp [hy])) hf
theorem Zcr {β : Type} {f : Int → Option β} {l : List Int} (h : ∀ x ∈ l,f x = none) : l.findSome? f = none:=by
 rw [List.findSome?_eq_none_iff]; exact h
section
variable {k : Nat} {l : VV}
end
theorem Zgq {β : Type} {f : Int → Option β} {r : β} : ∀ {l : List Int} {j : Nat} {x : Int},(∀ i,i < j → ∀ y,l[i]? = some y → f y = none) → l[j]? = some x → f x = some r → l.findSome? f = some r
 | [],j,x,_,h,_=>by cases h
 | z :: l,j,x,h1,h2,hf=>by
  rw [List.findSome?_cons]
  cases j with
  | zero=>obtain rfl:=Option.some.inj h2; rw [hf]
  | succ j=>
   rw [h1 0 (by omega) z rfl]
   exact Zgq (j:=j) (fun i hi y hy=>h1 (i + 1) (by omega) y (by simpa using hy)) (by simpa using h2) hf
theorem Zk0 {β : Type} {f : Int → Option β} {l : List Int} {j : Nat} (h : ∀ i,i < j → ∀ y,l[i]? = some y → f y = none) (hj : l.length ≤ j) : l.findSome? f = none:=
 Zcr fun x hx=>by
  obtain ⟨i,hi⟩:=List.getElem?_of_mem hx
  obtain ⟨hlt,_⟩:=List.getElem?_eq_some_iff.1 hi
  exact h i (by omega) x hi
def Zb2 (r : HRow) : Bool:=decide (r.v.length = 0) && decide (r.r = ⟨⟨0,0⟩,⟨0,0⟩⟩)
def Zdd (a b : HRow) : Bool:=decide (a.v = b.v) && decide (a.r = b.r)
theorem Zop (a : HRow) : Zdd a a = true:=by unfold Zdd; simp
section
variable {t : Table}
end
end Go.Civ
namespace Go.Civ
open Go.RowKit
set_option linter.unusedVariables false
section
variable (M : List Val → List Val → Bool)
def Yq (fs : List Fact) (v : List Val) : List Span:=fs.foldl (fun c o=>if M v o.v then ZL 1 c [o.t] else c) []
def ZaB (l : List HRow) (tx : Int) (fs : List Fact) : List Fact:=fs.flatMap fun f=>(YE M l f.v f.t tx).map (Fact.mk f.v)
def ZaV (os : List Fact) (fs : List Fact) : List Fact:=fs.flatMap fun f=>(ZL 3 [f.t] (Yq M os f.v)).map (Fact.mk f.v)
end
section
variable {M : List Val → List Val → Bool} {l : List HRow} {v : List Val} {tx x : Int}
theorem ZfN {fs : List Fact} {k : Nat} {f : Fact} (h : fs[k]? = some f) : Yq M (fs.take (k + 1)) v = if M v f.v then ZL 1 (Yq M (fs.take k) v) [f.t] else Yq M (fs.take k) v:=by
 rw [List.take_add_one,h]; simp [Yq,List.foldl_append]
theorem Zep : ∀ (n : Nat) (fs : List Fact),fs.length = n → (∀ f ∈ fs,f.t.a < f.t.b) → Can (Yq M fs v) ∧ ∀ x,cover (Yq M fs v) x ↔ ∃ f ∈ fs,M v f.v = true ∧ f.t.a ≤ x ∧ x < f.t.b
 | 0,fs,h,_=>by
  obtain rfl:=List.length_eq_zero_iff.1 h
  exact ⟨⟨List.Pairwise.nil,fun s hs=>by cases hs⟩,fun x=>by simp [Yq,cover]⟩
 | n + 1,fs,h,hp=>by
  obtain ⟨m,f,rfl⟩ : ∃ m f,fs = m ++ [f]:=⟨fs.dropLast,fs.getLast (by intro e; simp [e] at h),(List.dropLast_concat_getLast _).symm⟩
  obtain ⟨h1,h2⟩:=Zep n m (by simpa using h) fun g hg=>hp g (by simp [hg])
  have e : Yq M (m ++ [f]) v = if M v f.v then ZL 1 (Yq M m v) [f.t] else Yq M m v:=by simp [Yq,List.foldl_append]
  have hf:=hp f (by simp)
  rw [e]
  cases hm : M v f.v with
  | true=>
   rw [if_pos rfl]
   have hc:=QL (kind:=1) rfl (a:=Yq M m v) (b:=[f.t]) h1.pos (by simpa using hf)
   refine ⟨hc.1,fun x=>(hc.2 x).trans ?_⟩
   have e1 : YW 1 (Yu (Yq M m v) x) (Yu [f.t] x) = (Yu (Yq M m v) x || Yu [f.t] x):=rfl
   rw [e1,Bool.or_eq_true,X9,X9,h2,XB]
   constructor
   ·rintro (⟨g,hg,k⟩ | k)
    ·exact ⟨g,by simp [hg],k⟩
    ·exact ⟨f,by simp,hm,k⟩
   ·rintro ⟨g,hg,k⟩
    rcases List.mem_append.1 hg with hg | hg
    ·exact .inl ⟨g,hg,k⟩
    ·rw [List.mem_singleton.1 hg] at k; exact .inr k.2
  | false=>
   rw [if_neg (by simp)]
   refine ⟨h1,fun x=>(h2 x).trans ?_⟩
   constructor
   ·rintro ⟨g,hg,k⟩; exact ⟨g,by simp [hg],k⟩
   ·rintro ⟨g,hg,k⟩
    rcases List.mem_append.1 hg with hg | hg
    ·exact ⟨g,hg,k⟩
    ·rw [List.mem_singleton.1 hg,hm] at k; cases k.1
theorem Zfj (hg : Z2 l) : ∀ f ∈ Qf l tx,f.t.a < f.t.b:=fun f hf=>by
 obtain ⟨g,hgm,h⟩:=List.mem_flatMap.1 hf
 obtain ⟨s,hs,rfl⟩:=List.mem_map.1 h
 exact (Za7 (ZeP hg g hgm) tx).pos s hs
theorem Zo8 (hg : Z2 l) : (∃ f ∈ Qf l tx,M v f.v = true ∧ f.t.a ≤ x ∧ x < f.t.b) ↔ ∃ o ∈ l,Y7 tx o = true ∧ M v o.v = true ∧ o.r.d.a ≤ x ∧ x < o.r.d.b:=by
 constructor
 ·rintro ⟨f,hf,h1,h2⟩
  obtain ⟨g,hgm,h⟩:=List.mem_flatMap.1 hf
  obtain ⟨s,hs,rfl⟩:=List.mem_map.1 h
  unfold ZY at hgm
  obtain ⟨u,hu,rfl⟩:=List.mem_map.1 hgm
  obtain ⟨o,ho,ho1,ho2⟩:=(Zbg hg u x tx).1 ⟨s,hs,h2⟩
  obtain ⟨z1,z2,z3,z4⟩:=QW.1 ho2
  exact ⟨o,ho,by unfold Y7; simp; exact ⟨z3,z4⟩,by rw [ho1]; exact h1,z1,z2⟩
 ·rintro ⟨o,ho,h1,h2,h3,h4⟩
  unfold Y7 at h1
  simp at h1
  obtain ⟨s,hs,k⟩:=(Zbg hg o.v x tx).2 ⟨o,ho,rfl,QW.2 ⟨h3,h4,h1.1,h1.2⟩⟩
  exact ⟨⟨o.v,s⟩,List.mem_flatMap.2 ⟨⟨o.v,YM l o.v⟩,List.mem_map.2 ⟨o.v,Qa.2 ⟨o,ho,rfl⟩,rfl⟩,List.mem_map.2 ⟨s,hs,rfl⟩⟩,h2,k⟩
theorem Zq5 (hg : Z2 l) {d : Span} (hd : d.a < d.b) : ZL 3 [d] (Yq M (Qf l tx) v) = YE M l v d tx:=by
 have R:=Zep (M:=M) (v:=v) _ (Qf l tx) rfl (Zfj hg)
 have I:=Zeo (M:=M) (v:=v) (tx:=tx) hg hd
 have hc:=QL (kind:=3) rfl (a:=[d]) (b:=Yq M (Qf l tx) v) (by simpa using hd) R.1.pos
 refine Can.unique hc.1 I.1 fun x=>(hc.2 x).trans ?_
 rw [I.2,← Zo8 hg,← R.2,← X9,← XB,← X9]
 simp [YW]
theorem Zs4 (hg : Z2 l) {fs : List Fact} (hf : ∀ f ∈ fs,f.t.a < f.t.b) : ZaB M l tx fs = ZaV M (Qf l tx) fs:=by
 unfold ZaB ZaV
 exact ZeW fun f h=>by rw [Zq5 hg (hf f h)]
end
end Go.Civ
namespace Go.Civ
open Go.RowKit
open Go.Lib (compact)
set_option linter.unusedVariables false
section
variable (M : List Val → List Val → Bool) (l : List HRow)
def YR (r : HRow) (fr : Int) : List Int:=(l.filter fun o=>decide (Yp r fr < o.r.x.b) && M r.v o.v).map fun o=>o.r.x.b
def Zeq (r : HRow) (fr : Int) : List Int:=compact (XM (Yp r fr :: YR M l r fr))
def Yi (t : List HRow) (fr : Int) : List Pt:=t.filterMap fun r=>XU M l r (Zeq M l r fr)
def Zds (t : List HRow) (fr : Int) : Option Pt:=match Yi M l t fr with
 | []=>none
 | q :: r=>some (Xb (q :: r))
def Zal (t : List HRow) (x y : Int) : Option (List Val):=(YC t y x).find? fun v=>!(YC l y x).any (M v)
def Zvl (t : List HRow) (ys : List Int) (x : Int) : Option Pt:=ys.findSome? fun y=>(Zal M l t x y).map fun v=>⟨x,y,v⟩
def ZaC (t : List HRow) (fr : Int) (ys : List Int) (x : Int) : Option Pt:=if x < fr ∨ 253402300800 ≤ x then none else Zvl M l t ys x
def Zq6 (t : List HRow) (fr : Int) : Option Pt:=(Y5 ((fr :: t.map fun r=>r.r.x.a) ++ l.map fun o=>o.r.x.b)).findSome? (ZaC M l t fr (Y5 ((t.map fun r=>r.r.d.a) ++ l.map fun o=>o.r.d.b)))
end
theorem Zk7 {P : List Val → Bool} {v m : List Val} : ∀ {l : VV},Zaf l → l.find? P = some v → m ∈ l → P m = true → v = m ∨ ZC cmpV v m < 0
 | [],_,h,_,_=>by cases h
 | x :: r,hi,h,hm,hP=>by
  obtain ⟨h1,h2⟩:=List.pairwise_cons.1 hi
  rw [List.find?_cons] at h
  cases hx : P x with
  | true=>
   rw [hx] at h
   obtain rfl:=Option.some.inj h
   rcases List.mem_cons.1 hm with rfl | hm
   ·exact .inl rfl
   ·exact .inr (h1 m hm)
  | false=>
   rw [hx] at h
   rcases List.mem_cons.1 hm with rfl | hm
   ·rw [hx] at hP; cases hP
   ·exact Zk7 h2 h hm hP
section
variable {M : List Val → List Val → Bool} {l t : List HRow} {v : List Val} {x y fr : Int} {r : HRow} {p : Pt}
theorem Zq7 (hg : Z2 l) (h : ZaZ l v y x) : x < 253402300800:=by
 obtain ⟨r,hr,_,h⟩:=h
 have h1:=(ZS (hg r hr)).2.2
 unfold ZF at h1
 simp at h1
 have h2:=QW.1 h
 omega
theorem Zo9 : (Zeq M l r fr).Pairwise (· < ·):=(Zdl (ZcS _)).inc
theorem Zi2 {z : Int} : z ∈ Zeq M l r fr ↔ ZiU M l r fr z:=by
 unfold Zeq ZiU YR
 rw [ZfD (ZcS _),(ZdP _).mem_iff,List.mem_cons,List.mem_map]
 constructor
 ·rintro (h | ⟨o,ho,e⟩)
  ·exact .inl h
  ·rw [List.mem_filter,Bool.and_eq_true,decide_eq_true_eq] at ho
   exact .inr ⟨o,ho.1,ho.2.1,ho.2.2,e⟩
 ·rintro (h | ⟨o,ho,h1,h2,e⟩)
  ·exact .inl h
  ·exact .inr ⟨o,List.mem_filter.2 ⟨ho,by rw [Bool.and_eq_true,decide_eq_true_eq]; exact ⟨h1,h2⟩⟩,e⟩
theorem Zer : p ∈ Yi M l t fr ↔ ∃ r ∈ t,XU M l r (Zeq M l r fr) = some p:=List.mem_filterMap
theorem Zk8 (hgt : Z2 t) : VP (Yi M l t fr):=fun p hp=>by
 obtain ⟨r,hr,h⟩:=Zer.1 hp
 rw [(ZbU h).2.2.1]; exact (ZS (hgt r hr)).1
theorem Zfk (hgl : Z2 l) (hgt : Z2 t) (hp : p ∈ Yi M l t fr) :
  Zen M l t p.v p.vd p.tx ∧ fr ≤ p.tx ∧ (p.tx = fr ∨ (∃ q ∈ t,q.r.x.a = p.tx) ∨ ∃ o ∈ l,o.r.x.b = p.tx) ∧ ((∃ q ∈ t,q.r.d.a = p.vd) ∨ ∃ o ∈ l,o.r.d.b = p.vd):=by
 obtain ⟨r,hr,h⟩:=Zer.1 hp
 exact Zo7 hgl hgt hr (fun z hz=>Zi2.1 hz) h
theorem Zb4 (hgl : Z2 l) (hgt : Z2 t) (hf : fr ≤ x) (h : Zen M l t v y x) : ∃ p ∈ Yi M l t fr,p.v = v ∧ (p.tx < x ∨ (p.tx = x ∧ p.vd ≤ y)):=by
 obtain ⟨r,hr,e,k⟩:=Zk6 (fr:=fr) hgl hgt hf h
 obtain ⟨p,hp,hq⟩:=k _ Zo9 (fun z=>Zi2)
 exact ⟨p,Zer.2 ⟨r,hr,hp⟩,by rw [(ZbU hp).2.2.1,e],hq⟩
theorem Zfl (h : Yi M l t fr = []) : Zds M l t fr = none:=by unfold Zds; rw [h]
theorem Zfm (h : Yi M l t fr ≠ []) : Zds M l t fr = some (Xb (Yi M l t fr)):=by
 unfold Zds
 cases e : Yi M l t fr with
 | nil=>exact absurd e h
 | cons a r=>rfl
theorem Zk9 (hgl : Z2 l) (hgt : Z2 t) : (v ∈ YC t y x ∧ (!(YC l y x).any (M v)) = true) ↔ Zen M l t v y x:=by
 rw [← Zbf hgt,← Zbf hgl,Zay hgt]
 unfold Zen
 refine and_congr_right fun _=>?_
 rw [Bool.not_eq_true',List.any_eq_false]
 constructor
 ·intro h u hu hh; exact h u ((Zay hgl).2 hh) hu
 ·intro h u hu hh; exact h u hh ((Zay hgl).1 hu)
theorem Zgs (hgl : Z2 l) (hgt : Z2 t) (h : Zal M l t x y = some v) : Zen M l t v y x:=
 (Zk9 hgl hgt).1 ⟨List.mem_of_find?_eq_some h,List.find?_some (p:=fun v=>!(YC l y x).any (M v)) h⟩
theorem ZtX (hgl : Z2 l) (hgt : Z2 t) : Zq6 M l t fr = Zds M l t fr:=by
 unfold Zq6
 by_cases e : Yi M l t fr = []
 ·rw [Zfl e]
  refine Zcr fun x _=>?_
  unfold ZaC
  split
  ·rfl
  ·refine Zcr fun y _=>?_
   cases k : Zal M l t x y with
   | none=>rfl
   | some v=>
    obtain ⟨p,hp,_⟩:=Zb4 (fr:=fr) hgl hgt (by omega) (Zgs hgl hgt k)
    rw [e] at hp; cases hp
 ·rw [Zfm e]
  have hV:=Zk8 (M:=M) (l:=l) (fr:=fr) hgt
  obtain ⟨hm,hmin⟩:=Zcq hV e
  generalize Xb (Yi M l t fr) = m at hm hmin ⊢
  obtain ⟨g1,g2,g3,g4⟩:=Zfk hgl hgt hm
  have hlate : m.tx < 253402300800:=Zq7 hgt g1.1
  have none_at : ∀ {a b : Int},fr ≤ a → Zhh a b m.tx m.vd → Zal M l t a b = none:=fun {a b} hf hlt=>by
   cases k : Zal M l t a b with
   | none=>rfl
   | some v=>
    obtain ⟨p,hp,_,h2⟩:=Zb4 (fr:=fr) hgl hgt hf (Zgs hgl hgt k)
    refine absurd ?_ (Zlx (hmin p hp))
    unfold Zhh at hlt ⊢
    omega
  have here : Zal M l t m.tx m.vd = some m.v:=by
   obtain ⟨i1,i2⟩:=(Zk9 hgl hgt).2 g1
   cases k : Zal M l t m.tx m.vd with
   | none=>
    unfold Zal at k
    rw [List.find?_eq_none] at k
    exact absurd i2 (k m.v i1)
   | some v=>
    have hinc : Zaf (YC t m.vd m.tx):=XZ _
    rcases Zk7 hinc k i1 i2 with h | h
    ·rw [h]
    ·exfalso
     obtain ⟨p,hp,h1,h2⟩:=Zb4 (fr:=fr) hgl hgt g2 (Zgs hgl hgt k)
     have h3:=Zlx (hmin p hp)
     unfold Zhh at h3
     have e1 : p.tx = m.tx:=by omega
     have e2 : p.vd = m.vd:=by omega
     apply hmin p hp
     unfold XQ Yk
     rw [e1,e2,if_neg (Int.lt_irrefl _),if_neg (Int.lt_irrefl _),if_neg (Int.lt_irrefl _),if_neg (Int.lt_irrefl _),XL (hV p hp) (hV m hm),h1]
     simpa using h
  refine Zdr (x:=m.tx) (ZcH.2 ?_) (Zgo _) (fun a _ ha=>?_) ?_
  ·rw [List.mem_append,List.mem_cons,List.mem_map,List.mem_map]
   rcases g3 with g | ⟨q,hq,g⟩ | ⟨o,ho,g⟩
   ·exact .inl (.inl g)
   ·exact .inl (.inr ⟨q,hq,g⟩)
   ·exact .inr ⟨o,ho,g⟩
  ·unfold ZaC
   split
   ·rfl
   ·refine Zcr fun b _=>?_
    rw [none_at (by omega) (.inl ha)]; rfl
  ·unfold ZaC
   rw [if_neg (by omega)]
   refine Zdr (x:=m.vd) (ZcH.2 ?_) (Zgo _) (fun b _ hb=>?_) ?_
   ·rw [List.mem_append,List.mem_map,List.mem_map]
    rcases g4 with ⟨q,hq,g⟩ | ⟨o,ho,g⟩
    ·exact .inl ⟨q,hq,g⟩
    ·exact .inr ⟨o,ho,g⟩
   ·rw [none_at g2 (.inr ⟨rfl,hb⟩)]; rfl
   ·rw [here]; rfl
end
def Zaz (s : Schema) (cs : List (List UInt8)) (v : List Val) : List Val:=cs.map fun c=>ZdI v (YL (s.cols.map Col.name) c)
def mtB (s : Schema) (cs : List (List UInt8)) (v u : List Val) : Bool:=decide (u.take cs.length = Zaz s cs v)
def Zfn (s : Schema) (f : Foreign) : Bool:=s.fks.any fun g=>decide (g.table = f.table) && decide (g.cols = f.cols)
def ZbH (t o : Schema) (j : Nat) (c : List UInt8) : Bool:=decide (Ze7 t.cols (YL (t.cols.map Col.name) c) = Ze7 o.cols (j : Int))
def Zq8 (t o : Schema) (cs : List (List UInt8)) : Bool:=cs.zipIdx.all fun p=>ZbH t o p.2 p.1
def Xd (t o : Schema) (f : Foreign) : Bool:=Zfn t f && (decide (f.table = o.name) && (decide ((f.cols.length : Int) = o.key) && Zq8 t o f.cols))
section
variable {s t o : Schema} {f : Foreign} {cs : List (List UInt8)} {c : List UInt8} {v u : List Val} {k : Nat}
theorem Zgt (hs : Yt s = true) (h : Zfn s f = true) : ∀ c ∈ f.cols,0 ≤ YL (s.cols.map Col.name) c:=fun c hc=>by
 unfold Zfn at h
 rw [List.any_eq_true] at h
 obtain ⟨g,hg,e⟩:=h
 rw [Bool.and_eq_true,decide_eq_true_eq,decide_eq_true_eq] at e
 unfold Yt at hs
 simp only [Bool.and_eq_true,List.all_eq_true] at hs
 have h2:=hs.2.2 g hg
 unfold fkB at h2
 simp only [Bool.and_eq_true,List.all_eq_true,decide_eq_true_eq] at h2
 exact h2.2 c (by rw [e.2]; exact hc)
theorem ZtY {l : List (List UInt8)} : (YL l c).toNat < l.length ∨ YL l c < 0:=by
 unfold YL Zaq
 split
 ·rename_i i hi
  left
  have:=(List.findIdx?_eq_some_iff_getElem.1 hi).1
  omega
 ·right; decide
theorem Zhs (h : 0 ≤ YL (s.cols.map Col.name) c) : (YL (s.cols.map Col.name) c).toNat < s.cols.length:=by
 rcases ZtY (c:=c) (l:=s.cols.map Col.name) with k | k
 ·rwa [List.length_map] at k
 ·omega
theorem ZoA (hs : Yt t = true) (h : Xd t o f = true) : (∀ c ∈ f.cols,0 ≤ YL (t.cols.map Col.name) c) ∧ (f.cols.length : Int) = o.key:=by
 unfold Xd at h
 simp only [Bool.and_eq_true,decide_eq_true_eq] at h
 exact ⟨Zgt hs h.1,h.2.2.1⟩
theorem Zdt {l : List Col} {i : Int} {x : Col} (h : l[i.toNat]? = some x) : Ze7 l i = x.kind:=by unfold Ze7; rw [h]
theorem Zht {l : List Col} {i : Nat} {x : Col} (h : l[i]? = some x) : Ze7 l (i : Int) = x.kind:=Zdt (by simpa using h)
theorem ZoB {j : Nat} {x z : Col} (h1 : t.cols[(YL (t.cols.map Col.name) c).toNat]? = some x) (h2 : o.cols[j]? = some z) (h : x.kind = z.kind) : ZbH t o j c = true:=by
 unfold ZbH; rw [Zdt h1,Zht h2]; exact decide_eq_true h
theorem ZoC {j : Nat} {x z : Col} (h1 : t.cols[(YL (t.cols.map Col.name) c).toNat]? = some x) (h2 : o.cols[j]? = some z) (h : x.kind ≠ z.kind) : ZbH t o j c = false:=by
 unfold ZbH; rw [Zdt h1,Zht h2]; exact decide_eq_false h
theorem ZoD {α : Type} {P : Nat → α → Bool} {l : List α} {x : α} (h : l[k]? = some x) (hx : P k x = false) : (l.zipIdx.all fun p=>P p.2 p.1) = false:=by
 rw [Bool.eq_false_iff]
 intro e
 rw [List.all_eq_true] at e
 have:=e (x,k) (List.mem_zipIdx_iff_getElem?.2 h)
 rw [hx] at this; cases this
theorem ZmM {α : Type} {P : Nat → α → Bool} {l : List α} (h : ∀ j,j < k → ∀ x,l[j]? = some x → P j x = true) (hk : l.length ≤ k) : (l.zipIdx.all fun p=>P p.2 p.1) = true:=by
 rw [List.all_eq_true]
 rintro ⟨x,j⟩ hm
 have hj:=List.mem_zipIdx_iff_getElem?.1 hm
 have:=(List.getElem?_eq_some_iff.1 hj).1
 exact h j (by simp at this ⊢; omega) x hj
theorem ZoE (h : Zfn t f = false) : false = Xd t o f:=by unfold Xd; rw [h]; rfl
theorem ZoF (h : f.table ≠ o.name) : false = Xd t o f:=by unfold Xd; rw [decide_eq_false h]; simp
theorem ZoG (h : (f.cols.length : Int) ≠ o.key) : false = Xd t o f:=by unfold Xd; rw [decide_eq_false h]; simp
theorem ZoH (h : f.cols[k]? = some c) (h2 : ZbH t o k c = false) : false = Xd t o f:=by unfold Xd Zq8; rw [ZoD (P:=fun j c=>ZbH t o j c) h h2]; simp
theorem ZoI (h1 : Zfn t f = true) (h2 : f.table = o.name) (h3 : (f.cols.length : Int) = o.key) (h4 : ∀ j,j < k → ∀ c,f.cols[j]? = some c → ZbH t o j c = true) (hk : f.cols.length ≤ k) : true = Xd t o f:=by
 unfold Xd Zq8; rw [h1,decide_eq_true h2,decide_eq_true h3,ZmM (P:=fun j c=>ZbH t o j c) h4 hk]; rfl
theorem Zes {i : Int} {x : Val} (h : v[i.toNat]? = some x) : ZdI v i = x:=by unfold ZdI; rw [h]
theorem Zvm {a b : Val} (h : cs[k]? = some c) (h1 : v[(YL (s.cols.map Col.name) c).toNat]? = some a) (h2 : u[k]? = some b) (hne : a ≠ b) : false = mtB s cs v u:=by
 refine (decide_eq_false fun e=>hne ?_).symm
 have hk:=(List.getElem?_eq_some_iff.1 h).1
 have:=congrArg (fun (l : List Val)=>l[k]?) e
 simp only [Zaz,List.getElem?_map,h,Option.map_some,List.getElem?_take,if_pos hk,h2] at this
 rw [Zes h1] at this
 exact (Option.some.inj this).symm
theorem ZtZ (hl : cs.length ≤ u.length) (h : ∀ j,j < k → ∀ c,cs[j]? = some c → u[j]? = some (ZdI v (YL (s.cols.map Col.name) c))) (hk : cs.length ≤ k) : true = mtB s cs v u:=by
 refine (decide_eq_true ?_).symm
 apply List.ext_getElem?
 intro i
 unfold Zaz
 rw [List.getElem?_take,List.getElem?_map]
 split
 ·rename_i hi
  have hc : cs[i]? = some cs[i]:=List.getElem?_eq_getElem hi
  rw [h i (by omega) _ hc,hc]; rfl
 ·rw [List.getElem?_eq_none (by omega)]; rfl
theorem Zs5 {a b : Val} (h : ∀ j,j < k → ∀ c,cs[j]? = some c → u[j]? = some (ZdI v (YL (s.cols.map Col.name) c))) (hc : cs[k]? = some c) (h1 : v[(YL (s.cols.map Col.name) c).toNat]? = some a) (h2 : u[k]? = some b) (e : a = b) :
  ∀ j,j < k + 1 → ∀ c,cs[j]? = some c → u[j]? = some (ZdI v (YL (s.cols.map Col.name) c)):=fun j hj d hd=>by
 by_cases q : j = k
 ·subst q
  rw [hc] at hd
  obtain rfl:=Option.some.inj hd
  rw [Zes h1,h2,e]
 ·exact h j (by omega) d hd
end
end Go.Civ
