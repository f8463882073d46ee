/- Lemmas. -/
import Derived.Test.YthgeclodflmiaaaGreatH09
import Derived.Test.YthgeclodflmiaaaGreatH11
import Derived.Test.YthgeclodflmiaaaGreatH12
import Derived.Test.YthgeclodflmiaaaGreatH14
import Derived.Lib.Bytealg
namespace Go.Civ
open Go.RowKit
set_option linter.unusedVariables false
structure HGrp where
 v : List Val
 t : List HRow
def ZbB : Enc HGrp:=(Enc.pair (ValE.slice 32) (HRowE.slice 56)).via fun x=>(x.v,x.t)
theorem Zai {G : GH} {x : HGrp} {cs : List Value} (h : ZbB.rep G x cs) : ∃ v u,cs = [v,u] ∧ Sl ValE 32 G v x.v ∧ Sl HRowE 56 G u x.t:=by
 obtain ⟨c1,c2,rfl,⟨v,rfl,h1⟩,u,rfl,h2⟩:=h
 exact ⟨v,u,rfl,h1,h2⟩
theorem ZeA {G : GH} (x : HGrp) {v u : Value} (h1 : Sl ValE 32 G v x.v) (h2 : Sl HRowE 56 G u x.t) : ZbB.rep G x [v,u]:=⟨[v],[u],rfl,⟨v,rfl,h1⟩,u,rfl,h2⟩
def XO (tx : Int) (r : HRow) : Bool:=decide (r.r.x.a ≤ tx) && decide (tx < r.r.x.b)
def Yv (l : List HRow) (tx : Int) : List Span:=(l.filter (XO tx)).map fun r=>r.r.d
def ZB (l : List HRow) (tx : Int) : List Span:=ZaM (Yv l tx)
def Y0 (r : HRow) : Bool:=r.v.all Zz && ZI r.r.d && ZI r.r.x
def ZK (l : List HRow) : Prop:=∀ r ∈ l,Y0 r = true
def XA (l : List HRow) (v : List Val) : List HRow:=l.filter fun r=>decide (r.v = v)
def Xk (l : List HRow) : VV:=l.foldl (fun out r=>Za8 out r.v) []
def Yl (l : List HRow) : List HGrp:=(Xk l).map fun v=>⟨v,XA l v⟩
theorem Yx {r : HRow} (h : Y0 r = true) : r.v.all Zz = true ∧ ZI r.r.d = true ∧ ZI r.r.x = true:=by
 unfold Y0 at h; simp only [Bool.and_eq_true] at h; exact ⟨h.1.1,h.1.2,h.2⟩
theorem ZdO {l : List HRow} {k : Nat} {x : HRow} {tx : Int} (h : l[k]? = some x) : Yv (l.take (k + 1)) tx = Yv (l.take k) tx ++ if XO tx x then [x.r.d] else []:=by
 rw [List.take_add_one,h]; unfold Yv; rw [List.filter_append,List.map_append]; congr 1
 simp only [Option.toList]; cases hb : XO tx x <;> simp [hb]
theorem ZeB (l : List HRow) (tx : Int) : (Yv l tx).length ≤ l.length:=by
 unfold Yv; rw [List.length_map]; exact List.length_filter_le _ _
theorem Zii (l : List HRow) (tx : Int) (k : Nat) : (Yv (l.take k) tx).length ≤ l.length:=Nat.le_trans (ZeB _ _) (List.length_take_le' _ _)
theorem Zbg {l : List HRow} (h : ∀ r ∈ l,ZI r.r.d = true) (tx : Int) : ∀ s ∈ Yv l tx,ZI s = true:=fun s hs=>by
 obtain ⟨r,hr,rfl⟩:=List.mem_map.1 hs
 exact h r (List.mem_filter.1 hr).1
theorem ZcC (l : List HRow) (tx : Int) : (ZB l tx).length ≤ l.length:=Nat.le_trans ZiC (ZeB _ _)
theorem Zh0 (l : List HRow) (r : HRow) : Xk (l ++ [r]) = Za8 (Xk l) r.v:=by simp [Xk,List.foldl_append]
theorem ZaO {l : List HRow} {k : Nat} {r : HRow} (h : l[k]? = some r) : Xk (l.take (k + 1)) = Za8 (Xk (l.take k)) r.v:=by
 rw [List.take_add_one,h]; exact Zh0 _ _
theorem Zd4 : ∀ (n : Nat) (l : List HRow),l.length = n → Za9 (Xk l) ∧ (∀ v,v ∈ Xk l ↔ ∃ r ∈ l,r.v = v) ∧ (Xk l).length ≤ l.length
 | 0,l,h=>by
  obtain rfl:=List.length_eq_zero_iff.1 h
  exact ⟨List.Pairwise.nil,fun v=>by simp [Xk],Nat.le_refl _⟩
 | n + 1,l,h=>by
  obtain ⟨m,r,rfl⟩ : ∃ m r,l = m ++ [r]:=⟨l.dropLast,l.getLast (by intro e; simp [e] at h),(List.dropLast_concat_getLast _).symm⟩
  obtain ⟨h1,h2,h3⟩:=Zd4 n m (by simpa using h)
  rw [Zh0]
  refine ⟨ZqC h1,fun v=>?_,?_⟩
  ·rw [ZqB,h2]
   constructor
   ·rintro (⟨x,hx,rfl⟩ | rfl)
    ·exact ⟨x,by simp [hx],rfl⟩
    ·exact ⟨r,by simp,rfl⟩
   ·rintro ⟨x,hx,rfl⟩
    rcases List.mem_append.1 hx with hx | hx
    ·exact .inl ⟨x,hx,rfl⟩
    ·rw [List.mem_singleton.1 hx]; exact .inr rfl
  ·have:=ZqA (Xk m) r.v; rw [List.length_append]; simp only [List.length_singleton]; omega
theorem QY (l : List HRow) : Za9 (Xk l):=(Zd4 _ l rfl).1
theorem ZaA {l : List HRow} {v : List Val} : v ∈ Xk l ↔ ∃ r ∈ l,r.v = v:=(Zd4 _ l rfl).2.1 v
theorem ZiL (l : List HRow) : (Xk l).length ≤ l.length:=(Zd4 _ l rfl).2.2
theorem Zj2 (l : List HRow) (k : Nat) : (Xk (l.take k)).length ≤ l.length:=Nat.le_trans (ZiL _) (List.length_take_le' _ _)
def ZdP (out : List HGrp) (v : List Val) : Option Nat:=out.findIdx? fun g=>decide (g.v = v)
def Zca (out : List HGrp) (i : Nat) (r : HRow) : List HGrp:=match out[i]? with
 | some g=>out.set i ⟨g.v,g.t ++ [r]⟩
 | none=>out
def Zd5 (out : List HGrp) (r : HRow) : List HGrp:=match ZdP out r.v with
 | some i=>Zca out i r
 | none=>out ++ [⟨r.v,[r]⟩]
def hgroups (l : List HRow) : List HGrp:=l.foldl Zd5 []
structure HInv (l : List HRow) (out : List HGrp) : Prop where
 nd : (out.map HGrp.v).Nodup
 rows : ∀ g ∈ out,g.t = XA l g.v
 mem : ∀ v,v ∈ out.map HGrp.v ↔ ∃ r ∈ l,r.v = v
theorem Zfx (l : List HRow) (r : HRow) : hgroups (l ++ [r]) = Zd5 (hgroups l) r:=by simp [hgroups,List.foldl_append]
theorem Zdj {l : List HRow} {k : Nat} {r : HRow} (h : l[k]? = some r) : hgroups (l.take (k + 1)) = Zd5 (hgroups (l.take k)) r:=by
 rw [List.take_add_one,h]; exact Zfx _ _
theorem ZiM {out : List HGrp} {v : List Val} {i : Nat} (h : ZdP out v = some i) : ∃ g,out[i]? = some g ∧ g.v = v:=by
 unfold ZdP at h
 rw [List.findIdx?_eq_some_iff_getElem] at h
 obtain ⟨hl,h1,_⟩:=h
 exact ⟨out[i],List.getElem?_eq_getElem hl,by simpa using h1⟩
theorem Zox {out : List HGrp} {v : List Val} (h : ZdP out v = none) : v ∉ out.map HGrp.v:=by
 unfold ZdP at h
 rw [List.findIdx?_eq_none_iff] at h
 intro hv
 obtain ⟨g,hg,rfl⟩:=List.mem_map.1 hv
 simpa using h g hg
theorem Zij {out : List HGrp} {i : Nat} {g : HGrp} (r : HRow) (h : out[i]? = some g) : Zca out i r = out.set i ⟨g.v,g.t ++ [r]⟩:=by unfold Zca; rw [h]
theorem Zfy {out : List HGrp} {i : Nat} {r : HRow} : (Zca out i r).map HGrp.v = out.map HGrp.v:=by
 unfold Zca
 split
 ·rename_i g hg
  rw [List.map_set]
  apply List.ext_getElem?
  intro j
  rw [List.getElem?_set]
  split
  ·rename_i hj; subst hj
   rw [List.getElem?_map,hg,List.length_map]
   rw [if_pos (List.getElem?_eq_some_iff.1 hg).1]; rfl
  ·rfl
 ·rfl
theorem ZeC (l : List HRow) (r : HRow) (v : List Val) : XA (l ++ [r]) v = XA l v ++ if r.v = v then [r] else []:=by
 unfold XA; rw [List.filter_append]; congr 1
 by_cases h : r.v = v <;> simp [h]
theorem Zgv : ∀ (n : Nat) (l : List HRow),l.length = n → HInv l (hgroups l)
 | 0,l,h=>by
  obtain rfl:=List.length_eq_zero_iff.1 h
  exact ⟨by simp [hgroups],fun g hg=>by simp [hgroups] at hg,fun v=>by simp [hgroups]⟩
 | n + 1,l,h=>by
  obtain ⟨m,r,rfl⟩ : ∃ m r,l = m ++ [r]:=⟨l.dropLast,l.getLast (by intro e; simp [e] at h),(List.dropLast_concat_getLast _).symm⟩
  obtain ⟨h1,h2,h3⟩:=Zgv n m (by simpa using h)
  rw [Zfx]
  unfold Zd5
  cases hi : ZdP (hgroups m) r.v with
  | some i=>
   obtain ⟨g,hg,hgv⟩:=ZiM hi
   simp only
   refine ⟨by rw [Zfy]; exact h1,fun x hx=>?_,fun v=>?_⟩
   ·rw [Zij r hg] at hx
    obtain ⟨j,hj⟩:=List.getElem?_of_mem hx
    rw [List.getElem?_set] at hj
    split at hj
    ·rename_i hij; subst hij
     split at hj
     ·obtain rfl:=Option.some.inj hj
      simp only
      rw [ZeC,if_pos hgv.symm,h2 g (List.mem_of_getElem? hg)]
     ·cases hj
    ·rename_i hij
     rw [ZeC,if_neg,h2 x (List.mem_of_getElem? hj),List.append_nil]
     intro e
     have a1 : (hgroups m |>.map HGrp.v)[i]? = some r.v:=by rw [List.getElem?_map,hg]; simp [hgv]
     have a2 : (hgroups m |>.map HGrp.v)[j]? = some r.v:=by rw [List.getElem?_map,hj]; simp [e]
     have b1:=(List.getElem?_eq_some_iff.1 a1).1
     exact hij ((List.getElem?_inj b1 h1).1 (a1.trans a2.symm))
   ·rw [Zfy,h3]
    constructor
    ·rintro ⟨x,hx,rfl⟩; exact ⟨x,by simp [hx],rfl⟩
    ·rintro ⟨x,hx,rfl⟩
     rcases List.mem_append.1 hx with hx | hx
     ·exact ⟨x,hx,rfl⟩
     ·rw [List.mem_singleton.1 hx,← h3,← hgv]; exact List.mem_map.2 ⟨g,List.mem_of_getElem? hg,rfl⟩
  | none=>
   have hn:=Zox hi
   simp only
   refine ⟨?_,fun x hx=>?_,fun v=>?_⟩
   ·rw [List.map_append,List.nodup_append]
    refine ⟨h1,by simp,fun a ha b hb=>?_⟩
    simp at hb; subst hb
    exact fun e=>hn (e ▸ ha)
   ·rcases List.mem_append.1 hx with hx | hx
    ·rw [ZeC,if_neg,h2 x hx,List.append_nil]
     exact fun e=>hn (e ▸ List.mem_map.2 ⟨x,hx,rfl⟩)
    ·rw [List.mem_singleton.1 hx]
     simp only
     rw [ZeC,if_pos rfl]
     have : XA m r.v = []:=by
      unfold XA
      rw [List.filter_eq_nil_iff]
      intro y hy
      simp only [decide_eq_true_eq]
      exact fun e=>hn ((h3 _).2 ⟨y,hy,e⟩)
     rw [this]; rfl
   ·rw [List.map_append,List.mem_append,h3]
    constructor
    ·rintro (⟨x,hx,rfl⟩ | hv)
     ·exact ⟨x,by simp [hx],rfl⟩
     ·simp at hv; subst hv; exact ⟨r,by simp,rfl⟩
    ·rintro ⟨x,hx,rfl⟩
     rcases List.mem_append.1 hx with hx | hx
     ·exact .inl ⟨x,hx,rfl⟩
     ·rw [List.mem_singleton.1 hx]; exact .inr (by simp)
theorem ZcD (l : List HRow) : HInv l (hgroups l):=Zgv _ l rfl
theorem Zoy (out : List HGrp) (r : HRow) : (Zd5 out r).length ≤ out.length + 1:=by
 unfold Zd5
 cases ZdP out r.v with
 | none=>simp
 | some i=>simp only; unfold Zca; split <;> simp
theorem ZdQ (l : List HRow) : ∀ k,(hgroups (l.take k)).length ≤ k
 | 0=>by simp [hgroups]
 | k + 1=>by
  have h:=ZdQ l k
  cases e : l[k]? with
  | none=>rw [List.take_add_one,e]; simpa using Nat.le_succ_of_le h
  | some r=>rw [Zdj e]; exact Nat.le_trans (Zoy _ _) (by omega)
theorem ZsO {l : List HRow} {s : List HGrp} (hg : ∀ r ∈ l,r.v.all Zz = true) (hp : s.Perm (hgroups l)) (hs : s.Pairwise fun x y=>¬ X4 y.v x.v < 0) : s = Yl l:=by
 have I:=ZcD l
 have hv : ∀ g ∈ s,g.v.all Zz = true:=fun g h=>by
  obtain ⟨r,hr,e⟩:=(I.mem g.v).1 (List.mem_map.2 ⟨g,hp.mem_iff.1 h,rfl⟩)
  rw [← e]; exact hg r hr
 have nd : (s.map HGrp.v).Nodup:=(hp.map HGrp.v).nodup_iff.2 I.nd
 have e1 : s.map HGrp.v = Xk l:=by
  refine Zc1 ord ?_ (QY l) fun v=>?_
  ·rw [List.pairwise_map]
   have nd2 : s.Pairwise fun x y=>x.v ≠ y.v:=by
    unfold List.Nodup at nd; rw [List.pairwise_map] at nd; exact nd
   refine List.Pairwise.imp_of_mem ?_ (List.Pairwise.and hs nd2)
   intro x y hx hy h
   rw [Ql (hv y hy) (hv x hx)] at h
   rcases Int.lt_or_le (ZG cmpV x.v y.v) 0 with k | k
   ·exact k
   ·exfalso
    by_cases e : ZG cmpV x.v y.v = 0
    ·exact h.2 ((ord.eq _ _).1 e)
    ·exact h.1 ((ord.swap _ _).2 (by omega))
  ·rw [(hp.map HGrp.v).mem_iff,I.mem,ZaA]
 unfold Yl
 rw [← e1,List.map_map]
 symm
 have : ∀ g ∈ s,((fun v=>(⟨v,XA l v⟩ : HGrp)) ∘ HGrp.v) g = g:=fun g h=>by
  have:=I.rows g (hp.mem_iff.1 h)
  simp only [Function.comp]
  rw [← this]
 rw [List.map_congr_left this,List.map_id']
structure NS where
 out : List HRow
 now : List Span
 fr : Int
def Xl (v : List Val) (now : List Span) (a b : Int) : List HRow:=now.map fun s=>⟨v,⟨s,⟨a,b⟩⟩⟩
def ZaP (v : List Val) (f : Int → List Span) (s : NS) (c : Int) : NS:=if s.now = f c then s else ⟨s.out ++ Xl v s.now s.fr c,f c,c⟩
def Xm (v : List Val) (f : Int → List Span) (cs : List Int) : NS:=cs.foldl (ZaP v f) ⟨[],[],0⟩
def Yo (l : List HRow) : List Int:=Q2 (l.map fun r=>r.r.x)
def ZeD (g : HGrp) : List HRow:=(Xm g.v (ZB g.t) (Yo g.t)).out
def ZS (l : List HRow) : List HRow:=(Yl l).flatMap ZeD
def ZkH (l : List HRow) (v : List Val) (tx : Int) : List Span:=(l.filter fun r=>XO tx r && decide (r.v = v)).map fun r=>r.r.d
def Zcb (l : List HRow) (v : List Val) (tx : Int) : List Span:=ZX 1 (ZkH l v tx) []
def ZkI (l : List HRow) : List HRow:=(Xk l).flatMap fun v=>(Xm v (Zcb l v) (Yo l)).out
theorem ZiN {v : List Val} {f : Int → List Span} {cs : List Int} {k : Nat} {c : Int} (h : cs[k]? = some c) : Xm v f (cs.take (k + 1)) = ZaP v f (Xm v f (cs.take k)) c:=by
 rw [List.take_add_one,h]; simp [Xm,List.foldl_append]
theorem ZcE {v : List Val} {f : Int → List Span} {s : NS} {c : Int} (h : s.now = f c) : ZaP v f s c = s:=by unfold ZaP; rw [if_pos h]
theorem Zfz {v : List Val} {f : Int → List Span} {s : NS} {c : Int} (h : s.now ≠ f c) : ZaP v f s c = ⟨s.out ++ Xl v s.now s.fr c,f c,c⟩:=by unfold ZaP; rw [if_neg h]
theorem Zoz (l : List HRow) (v : List Val) (tx : Int) : ZkH l v tx = Yv (XA l v) tx:=by
 unfold ZkH Yv XA; rw [List.filter_filter]
theorem ZK.d {l : List HRow} (h : ZK l) : ∀ r ∈ l,ZI r.r.d = true:=fun r hr=>(Yx (h r hr)).2.1
theorem ZK.of {l : List HRow} (h : ZK l) (v : List Val) : ZK (XA l v):=fun r hr=>h r (List.mem_filter.1 hr).1
theorem Zcw {l : List HRow} (h : ZK l) (v : List Val) (tx : Int) : Zcb l v tx = ZB (XA l v) tx:=by
 unfold Zcb ZB
 rw [Zoz]
 exact ZlF fun s hs=>Xb (Zbg (h.of v).d tx s hs)
theorem Zgb {v : List Val} {f : Int → List Span} : ∀ (E C : List Int) (s : NS),E.Pairwise (· < ·) → C.Pairwise (· < ·) → (∀ c ∈ C,c ∈ E) →
  (∀ e ∈ E,(∀ c ∈ C,e < c) → f e = s.now) → (∀ c ∈ C,∀ e ∈ E,c ≤ e → (∀ c' ∈ C,c < c' → e < c') → f e = f c) → E.foldl (ZaP v f) s = C.foldl (ZaP v f) s
 | [],[],s,_,_,_,_,_=>rfl
 | [],c :: C,s,_,_,h,_,_=>absurd (h c (by simp)) (by simp)
 | e :: E,C,s,hE,hC,hs,h0,hc=>by
  obtain ⟨hE1,hE2⟩:=List.pairwise_cons.1 hE
  rw [List.foldl_cons]
  by_cases he : e ∈ C
  ·cases C with
   | nil=>cases he
   | cons c C=>
    obtain ⟨hC1,hC2⟩:=List.pairwise_cons.1 hC
    have ec : e = c:=by
     rcases List.mem_cons.1 he with h | h
     ·exact h
     ·have a:=hC1 e h
      rcases List.mem_cons.1 (hs c (by simp)) with h' | h'
      ·exact h'.symm
      ·have:=hE1 c h'; omega
    subst ec
    rw [List.foldl_cons]
    refine Zgb E C _ hE2 hC2 (fun c hcC=>?_) (fun x hx hxC=>?_) (fun c hcC x hx hle hno=>?_)
    ·rcases List.mem_cons.1 (hs c (by simp [hcC])) with h' | h'
     ·have:=hC1 c hcC; omega
     ·exact h'
    ·have hxe:=hE1 x hx
     have e1 : f x = f e:=hc e (by simp) x (by simp [hx]) (by omega) (fun c' hc' hlt=>by
      rcases List.mem_cons.1 hc' with h' | h'
      ·omega
      ·exact hxC c' h')
     rw [e1]
     unfold ZaP
     split
     ·rename_i hn; exact hn.symm
     ·rfl
    ·exact hc c (by simp [hcC]) x (by simp [hx]) hle (fun c' hc' hlt=>by
      rcases List.mem_cons.1 hc' with h' | h'
      ·subst h'; have:=hC1 c hcC; omega
      ·exact hno c' h' hlt)
  ·have hlt : ∀ c ∈ C,e < c:=fun c hcC=>by
    rcases List.mem_cons.1 (hs c hcC) with h' | h'
    ·exact absurd (h' ▸ hcC) he
    ·exact hE1 c h'
   rw [ZcE (h0 e (by simp) hlt).symm]
   refine Zgb E C s hE2 hC (fun c hcC=>?_) (fun x hx hxC=>h0 x (by simp [hx]) hxC) (fun c hcC x hx=>hc c hcC x (by simp [hx]))
   rcases List.mem_cons.1 (hs c hcC) with h' | h'
   ·exact absurd (h' ▸ hcC) he
   ·exact h'
theorem XG {l : List HRow} {y : Int} : y ∈ Yo l ↔ ∃ r ∈ l,y = r.r.x.a ∨ y = r.r.x.b:=by
 unfold Yo; rw [Zfv]
 constructor
 ·rintro ⟨s,hs,h⟩; obtain ⟨r,hr,rfl⟩:=List.mem_map.1 hs; exact ⟨r,hr,h⟩
 ·rintro ⟨r,hr,h⟩; exact ⟨r.r.x,List.mem_map.2 ⟨r,hr,rfl⟩,h⟩
theorem QZ (l : List HRow) : (Yo l).Pairwise (· < ·):=ZiG _
theorem ZiO (l : List HRow) : (Yo l).length ≤ 2 * l.length:=by have:=ZiH (l.map fun r=>r.r.x); rw [List.length_map] at this; exact this
theorem Zf0 {l : List HRow} {x y : Int} (hxy : x ≤ y) (h : ∀ c ∈ Yo l,x < c → y < c) : Yv l y = Yv l x:=by
 unfold Yv
 have : ∀ r ∈ l,XO y r = XO x r:=fun r hr=>by
  have ha:=h r.r.x.a (XG.2 ⟨r,hr, .inl rfl⟩)
  have hb:=h r.r.x.b (XG.2 ⟨r,hr, .inr rfl⟩)
  unfold XO
  have e1 : decide (r.r.x.a ≤ y) = decide (r.r.x.a ≤ x):=decide_eq_decide.2 ⟨fun q=>by omega,fun q=>by omega⟩
  have e2 : decide (y < r.r.x.b) = decide (x < r.r.x.b):=decide_eq_decide.2 ⟨fun q=>by omega,fun q=>by omega⟩
  rw [e1,e2]
 rw [List.filter_congr this]
theorem ZaQ : ZaM [] = []:=by simp [ZaM,Zhr,Ym]
theorem Zcx {l : List HRow} {x : Int} (hg : ZK l) (h : ∀ c ∈ Yo l,x < c) : Yv l x = []:=by
 unfold Yv
 have : l.filter (XO x) = []:=by
  rw [List.filter_eq_nil_iff]
  intro r hr hl
  have ha:=h r.r.x.a (XG.2 ⟨r,hr, .inl rfl⟩)
  unfold XO at hl
  simp at hl; omega
 rw [this]; rfl
theorem Zeh {l : List HRow} (hg : ZK l) : ZS l = ZkI l:=by
 unfold ZS ZkI Yl
 rw [List.flatMap_map]
 congr 1
 funext v
 unfold ZeD
 simp only
 have ef : Zcb l v = ZB (XA l v):=funext fun tx=>Zcw hg v tx
 rw [ef]
 congr 1
 symm
 refine Zgb _ _ _ (QZ l) (QZ _) (fun c hc=>?_) (fun e he h=>?_) (fun c hc e he hle h=>?_)
 ·obtain ⟨r,hr,h⟩:=XG.1 hc
  exact XG.2 ⟨r,(List.mem_filter.1 hr).1,h⟩
 ·unfold ZB; rw [Zcx (hg.of v) h]; exact ZaQ
 ·unfold ZB; rw [Zf0 hle h]
end Go.Civ
namespace Go.Civ
open Go.RowKit
set_option linter.unusedVariables false
def ZaY (c : Int) : Bool:=(decide (65 ≤ c) && decide (c ≤ 90)) || (decide (97 ≤ c) && decide (c ≤ 122))
def Zf3 (c : Int) : Bool:=decide (48 ≤ c) && decide (c ≤ 57)
def ixM (c : Int) : Int:=Go.Lib.indexByte [95,47,43,45] c.toNat.toUInt8
def Zbq (c : UInt8) : Bool:=ZaY (c.toNat : Int) || Zf3 (c.toNat : Int) || decide (0 ≤ ixM (c.toNat : Int))
def XR (s : List UInt8) : Bool:=decide (1 ≤ s.length) && decide (s.length ≤ 30) && ZaY ((s.headD 0).toNat : Int) && s.all Zbq
theorem ZqF {s : List UInt8} {k : Nat} {c : UInt8} (h : s[k]? = some c) (hc : Zbq c = false) : XR s = false:=by
 unfold XR; rw [Zfj h hc]; simp
theorem Zh1 {s : List UInt8} {c : UInt8} (h : s[0]? = some c) : s.headD 0 = c:=by
 cases s with
 | nil=>simp at h
 | cons x s=>simp at h; simpa using h
theorem ZsR {c : UInt8} (h : ZaY (c.toNat : Int) = true) : Zbq c = true:=by unfold Zbq; rw [h]; rfl
theorem ZsS {c : UInt8} (h : Zf3 (c.toNat : Int) = true) : Zbq c = true:=by unfold Zbq; rw [h]; simp
theorem ZsT {c : UInt8} (h : 0 ≤ Go.Lib.indexByte [95,47,43,45] (c.toNat : Int).toNat.toUInt8) : Zbq c = true:=by unfold Zbq ixM; rw [decide_eq_true h]; simp
theorem ZqG {c : UInt8} (h1 : ZaY (c.toNat : Int) = false) (h2 : Zf3 (c.toNat : Int) = false) (h3 : Go.Lib.indexByte [95,47,43,45] (c.toNat : Int).toNat.toUInt8 < 0) : Zbq c = false:=by
 unfold Zbq ixM; rw [h1,h2,decide_eq_false (by omega)]; rfl
theorem ZiP {s : List UInt8} (h : (s.length : Int) < 1 ∨ 30 < (s.length : Int)) : XR s = false:=by
 unfold XR
 rcases h with h | h
 ·rw [decide_eq_false (show ¬ 1 ≤ s.length by omega)]; simp
 ·rw [decide_eq_false (show ¬ s.length ≤ 30 by omega)]; simp
theorem Zo2 {s : List UInt8} {c : UInt8} (h : s[0]? = some c) (hc : ZaY (c.toNat : Int) = false) : XR s = false:=by
 unfold XR; rw [Zh1 h,hc]; simp
theorem Zo3 {s : List UInt8} {c : UInt8} (h1 : 1 ≤ (s.length : Int)) (h2 : (s.length : Int) ≤ 30) (h : s[0]? = some c) (hc : ZaY (c.toNat : Int) = true) (ha : s.all Zbq = true) : XR s = true:=by
 unfold XR; rw [Zh1 h,hc,ha,decide_eq_true (show 1 ≤ s.length by omega),decide_eq_true (show s.length ≤ 30 by omega)]; rfl
def ZbC (l : List (List UInt8)) (j : Nat) (s : List UInt8) : Bool:=XR s && !(l.take j).any fun x=>decide (x = s)
def Zay (l : List (List UInt8)) : Bool:=l.zipIdx.all fun p=>ZbC l p.2 p.1
theorem Zo4 {l : List (List UInt8)} {j : Nat} {s : List UInt8} (h1 : XR s = true) (h2 : ((l.take j).any fun x=>decide (x = s)) = false) : ZbC l j s = true:=by unfold ZbC; rw [h1,h2]; rfl
theorem Zo5 {l : List (List UInt8)} {j : Nat} {s : List UInt8} (h1 : XR s = false) : ZbC l j s = false:=by unfold ZbC; rw [h1]; rfl
theorem Zo6 {l : List (List UInt8)} {j : Nat} {s : List UInt8} (h2 : ((l.take j).any fun x=>decide (x = s)) = true) : ZbC l j s = false:=by unfold ZbC; rw [h2]; simp
theorem ZkM {α : Type} {P : Nat → α → Prop} {l : List α} {k : Nat} {y : α} (h : ∀ j,j < k → ∀ x,l[j]? = some x → P j x) (hk : l[k]? = some y) (hy : P k y) : ∀ j,j < k + 1 → ∀ x,l[j]? = some x → P j x:=fun j hj x hx=>by
 by_cases e : j = k
 ·subst e; rw [hk] at hx; obtain rfl:=Option.some.inj hx; exact hy
 ·exact h j (by omega) x hx
theorem ZkN {l : List (List UInt8)} {k : Nat} {s : List UInt8} (h : l[k]? = some s) (hs : ZbC l k s = false) : Zay l = false:=by
 unfold Zay
 rw [Bool.eq_false_iff]
 intro e
 rw [List.all_eq_true] at e
 have:=e (s,k) (List.mem_zipIdx_iff_getElem?.2 h)
 rw [this] at hs; cases hs
theorem Zo7 {l : List (List UInt8)} {k : Nat} (h : ∀ j,j < k → ∀ s,l[j]? = some s → ZbC l j s = true) (hk : l.length ≤ k) : Zay l = true:=by
 unfold Zay
 rw [List.all_eq_true]
 rintro ⟨s,j⟩ hm
 have hj:=List.mem_zipIdx_iff_getElem?.1 hm
 have:=(List.getElem?_eq_some_iff.1 hj).1
 exact h j (by simp at this ⊢; omega) s hj
def ixS (l : List (List UInt8)) (nm : List UInt8) : Int:=Za4 (fun x=>decide (x = nm)) l
theorem ZsU {l : List (List UInt8)} {nm : List UInt8} : decide (0 ≤ ixS l nm) = l.any fun x=>decide (x = nm):=Ze0 _ _
def ZeF (c : Col) : Bool:=decide (1 ≤ c.kind) && decide (c.kind ≤ 4)
def fkB (s : Schema) (f : Foreign) : Bool:=XR f.table && decide (1 ≤ f.cols.length) && decide (f.cols.length ≤ 8) && Zay f.cols && f.cols.all fun c=>decide (0 ≤ ixS (s.cols.map Col.name) c)
def Qj (s : Schema) : Bool:=XR s.name && decide (1 ≤ s.cols.length) && decide (s.cols.length ≤ 8) && decide (1 ≤ s.key) && decide (s.key ≤ s.cols.length) && decide (s.fks.length ≤ 8) && Zay (s.cols.map Col.name)
def YM (s : Schema) : Bool:=Qj s && (s.cols.all ZeF && s.fks.all (fkB s))
theorem Zo8 {c : Col} (h1 : 1 ≤ c.kind) (h2 : c.kind ≤ 4) : ZeF c = true:=by unfold ZeF; simp [h1,h2]
theorem ZsV {s : Schema} {f : Foreign} (h1 : XR f.table = true) (h2 : 1 ≤ (f.cols.length : Int)) (h3 : (f.cols.length : Int) ≤ 8) (h4 : Zay f.cols = true) (h5 : (f.cols.all fun c=>decide (0 ≤ ixS (s.cols.map Col.name) c)) = true) : fkB s f = true:=by
 unfold fkB; rw [h1,h4,h5,decide_eq_true (show 1 ≤ f.cols.length by omega),decide_eq_true (show f.cols.length ≤ 8 by omega)]; rfl
theorem XV {s : Schema} {f : Foreign} (h1 : XR f.table = false) : fkB s f = false:=by unfold fkB; rw [h1]; rfl
theorem XW {s : Schema} {f : Foreign} (h : (f.cols.length : Int) < 1 ∨ 8 < (f.cols.length : Int)) : fkB s f = false:=by
 unfold fkB
 rcases h with h | h
 ·rw [decide_eq_false (show ¬ 1 ≤ f.cols.length by omega)]; simp
 ·rw [decide_eq_false (show ¬ f.cols.length ≤ 8 by omega)]; simp
theorem XX {s : Schema} {f : Foreign} (h1 : Zay f.cols = false) : fkB s f = false:=by unfold fkB; rw [h1]; simp
theorem XY {s : Schema} {f : Foreign} {k : Nat} {c : List UInt8} (h : f.cols[k]? = some c) (hc : ixS (s.cols.map Col.name) c < 0) : fkB s f = false:=by
 unfold fkB; rw [Zfj (p:=fun c=>decide (0 ≤ ixS (s.cols.map Col.name) c)) h (decide_eq_false (by omega))]; simp
theorem XE {s : Schema} (h1 : Qj s = true) (h2 : s.cols.all ZeF = true) (h3 : s.fks.all (fkB s) = true) : YM s = true:=by unfold YM; rw [h1,h2,h3]; rfl
theorem Xz {s : Schema} {k : Nat} {c : Col} (h : s.cols[k]? = some c) (hc : c.kind < 1 ∨ 4 < c.kind) : YM s = false:=by
 unfold YM; rw [Zfj (p:=ZeF) h (by unfold ZeF; rcases hc with hc | hc <;> simp <;> omega)]; simp
theorem Z8 {s : Schema} {k : Nat} {f : Foreign} (h : s.fks[k]? = some f) (hc : fkB s f = false) : YM s = false:=by
 unfold YM; rw [Zfj (p:=fkB s) h hc]; simp
theorem Qy {s : Schema} (h : Qj s = false) : YM s = false:=by unfold YM; rw [h]; rfl
def YQ (s : Schema) (v : List Val) : Int:=if YM s && v.all Zz then (if Qr (fun (c : Col) (x : Val)=>decide (c.kind = x.k)) s.cols v then 0 else 13) else 1
theorem ZqH (s : Schema) (v : List Val) : Zw (YQ s v):=by unfold YQ; split <;> (try split) <;> constructor <;> decide
theorem ZuE {s : Schema} {v : List Val} (h : YM s = false) : YQ s v = 1:=by unfold YQ; rw [h]; rfl
theorem ZcO {v : List Val} {b : Bool} (h : (v.any fun x=>!Zz x) = b) : v.all Zz = !b:=by rw [← ZlT,h]
theorem ZuF {s : Schema} {v : List Val} (h : (v.any fun x=>!Zz x) = true) : YQ s v = 1:=by unfold YQ; rw [ZcO h]; simp
theorem ZsW {s : Schema} {v : List Val} (h1 : YM s = true) (h2 : (v.any fun x=>!Zz x) = false) (h3 : Qr (fun (c : Col) (x : Val)=>decide (c.kind = x.k)) s.cols v = false) : YQ s v = 13:=by
 unfold YQ; rw [ZcO h2,h1,h3]; rfl
theorem ZuG {s : Schema} {v : List Val} (h1 : YM s = true) (h2 : (v.any fun x=>!Zz x) = false) (h3 : Qr (fun (c : Col) (x : Val)=>decide (c.kind = x.k)) s.cols v = true) : YQ s v = 0:=by
 unfold YQ; rw [ZcO h2,h1,h3]; rfl
theorem ZeG {α β : Type} {f : α → β → Bool} : ∀ {a : List α} {b : List β},Qr f a b = true → a.length = b.length
 | [],[],_=>rfl
 | [],_ :: _,h=>by simp [Qr] at h
 | _ :: _,[],h=>by simp [Qr] at h
 | x :: a,y :: b,h=>by simp [Qr] at h; simp [ZeG (f:=f) (a:=a) (b:=b) h.2]
theorem Zbt {s : Schema} {v : List Val} (h : YQ s v = 0) : v.length ≤ 8 ∧ v.all Zz = true ∧ v.length = s.cols.length ∧ YM s = true:=by
 unfold YQ at h
 split at h
 ·rename_i h1
  split at h
  ·rename_i h2
   simp only [Bool.and_eq_true] at h1
   have h3:=ZeG h2
   have h4:=h1.1
   unfold YM Qj at h4
   simp only [Bool.and_eq_true,decide_eq_true_eq] at h4
   exact ⟨by omega,h1.2,h3.symm,h1.1⟩
  ·cases h
 ·cases h
def YN (s : Schema) (last : Int) (r : HRow) : Bool:=decide (YQ s r.v = 0) && Y0 r && decide (r.r.x.a ≤ last) && (decide (r.r.x.b ≤ last) || decide (r.r.x.b = 253402300800))
def Z2 (t : Table) : Bool:=YM t.s && decide (-62135596801 ≤ t.last) && decide (t.last < 253402300800) && decide (t.rows.length ≤ 500) && t.rows.all (YN t.s t.last) && decide (t.rows = ZS t.rows)
def Yp (x : Int) : Bool:=decide (-62135596800 ≤ x) && decide (x < 253402300800)
def Zem (last : Int) (r : HRow) : Bool:=Y0 r && decide (r.r.x.a ≤ last) && (decide (r.r.x.b ≤ last) || decide (r.r.x.b = 253402300800))
def Zo9 (l : List HRow) (last : Int) : Bool:=decide (-62135596801 ≤ last) && decide (last < 253402300800) && decide (l.length ≤ 500) && l.all (Zem last) && decide (ZkI l = l)
def Zmc (t : Table) : Bool:=YM t.s && Zo9 t.rows t.last && t.rows.all fun r=>decide (YQ t.s r.v = 0)
theorem Y5 {t : Table} (h : Z2 t = true) : ZK t.rows ∧ t.rows.length ≤ 500 ∧ (∀ r ∈ t.rows,r.v.length ≤ 8) ∧ t.rows = ZS t.rows:=by
 unfold Z2 at h
 simp only [Bool.and_eq_true,decide_eq_true_eq,List.all_eq_true] at h
 refine ⟨fun r hr=>?_,h.1.1.2,fun r hr=>?_,h.2⟩
 ·have:=h.1.2 r hr
  unfold YN at this; simp only [Bool.and_eq_true,decide_eq_true_eq] at this; exact this.1.1.2
 ·have:=h.1.2 r hr
  unfold YN at this; simp only [Bool.and_eq_true,decide_eq_true_eq] at this; exact (Zbt this.1.1.1).1
theorem ZoA (t : Table) : Zmc t = Z2 t:=by
 rw [Bool.eq_iff_iff]
 unfold Zmc Z2 Zo9
 simp only [Bool.and_eq_true,decide_eq_true_eq,List.all_eq_true]
 have e : ∀ r,YN t.s t.last r = true ↔ (YQ t.s r.v = 0 ∧ Zem t.last r = true):=fun r=>by
  unfold YN Zem; simp only [Bool.and_eq_true,decide_eq_true_eq]; constructor
  ·rintro ⟨⟨⟨a,b⟩,c⟩,d⟩; exact ⟨a,⟨b,c⟩,d⟩
  ·rintro ⟨a,⟨b,c⟩,d⟩; exact ⟨⟨⟨a,b⟩,c⟩,d⟩
 have g : (∀ r ∈ t.rows,Zem t.last r = true) → ZK t.rows:=fun h r hr=>by
  have:=h r hr; unfold Zem at this; simp only [Bool.and_eq_true] at this; exact this.1.1
 constructor
 ·rintro ⟨⟨h1,⟨⟨⟨h2,h3⟩,h4⟩,h5⟩,h6⟩,h7⟩
  exact ⟨⟨⟨⟨⟨h1,h2⟩,h3⟩,h4⟩,fun r hr=>(e r).2 ⟨h7 r hr,h5 r hr⟩⟩,by rw [Zeh (g h5)]; exact h6.symm⟩
 ·rintro ⟨⟨⟨⟨⟨h1,h2⟩,h3⟩,h4⟩,h5⟩,h6⟩
  have h5' : ∀ r ∈ t.rows,Zem t.last r = true:=fun r hr=>((e r).1 (h5 r hr)).2
  exact ⟨⟨h1,⟨⟨⟨h2,h3⟩,h4⟩,h5'⟩,by rw [← Zeh (g h5')]; exact h6.symm⟩,fun r hr=>((e r).1 (h5 r hr)).1⟩
abbrev Qs : Table:=⟨⟨[],[],0,[]⟩,[],0⟩
def Z1 (t : Table) (tx : Int) (l : List HRow) : Table:=if (ZS l).length ≤ 500 then ⟨t.s,ZS l,tx⟩ else Qs
def X0 (l : List HRow) : Int:=if (ZS l).length ≤ 500 then 0 else 5
def YG (t : Table) (tx : Int) : Int:=if Yp tx then (if tx ≤ t.last then 6 else 0) else 2
def or2 (a b : Int) : Int:=if a ≠ 0 then a else b
abbrev QV (t : Table) (tx : Int) (v : List Val) (d : Span) : List HRow:=t.rows ++ [⟨v,⟨d,⟨tx,253402300800⟩⟩⟩]
def YZ (t : Table) (d : Span) : Bool:=Z2 t && ZI d
def Zdl (t : Table) (tx : Int) (v : List Val) (d : Span) : Int:=if YZ t d then or2 (YQ t.s v) (YG t tx) else 1
def ZF (t : Table) (tx : Int) (v : List Val) (d : Span) : Table:=if Zdl t tx v d = 0 then Z1 t tx (QV t tx v d) else Qs
def Y2 (t : Table) (tx : Int) (v : List Val) (d : Span) : Int:=if Zdl t tx v d = 0 then X0 (QV t tx v d) else Zdl t tx v d
def ZbD (d : Span) (r : HRow) : Bool:=decide (r.r.x.b = 253402300800) && decide (r.r.d.a < d.b) && decide (d.a < r.r.d.b)
def ZjH (r d : Span) : Span:=⟨max r.a d.a,min r.b d.b⟩
def Zcm (nx : Option (List Val)) (r d : Span) (tx : Int) : List HRow:=match nx with
 | some v=>[⟨v,⟨ZjH r d,⟨tx,253402300800⟩⟩⟩]
 | none=>[]
def Zak (hl : List Val → Bool) (nx : List Val → Option (List Val)) (tx : Int) (d : Span) (r : HRow) : List HRow:=
 if ZbD d r && hl r.v then [⟨r.v,⟨r.r.d,⟨r.r.x.a,tx⟩⟩⟩] ++ Xl r.v (ZX 3 [r.r.d] [d]) tx 253402300800 ++ Zcm (nx r.v) r.r.d d tx else [r]
def Z9 (hl : List Val → Bool) (nx : List Val → Option (List Val)) (tx : Int) (d : Span) (l : List HRow) : List HRow:=l.flatMap (Zak hl nx tx d)
theorem Qz {hl : List Val → Bool} {nx : List Val → Option (List Val)} {tx : Int} {d : Span} {l : List HRow} {k : Nat} {r : HRow} (h : l[k]? = some r) :
  Z9 hl nx tx d (l.take (k + 1)) = Z9 hl nx tx d (l.take k) ++ Zak hl nx tx d r:=by
 rw [List.take_add_one,h]; simp [Z9]
theorem Zbh {hl : List Val → Bool} {nx : List Val → Option (List Val)} {tx : Int} {d : Span} {l : List HRow} {k : Nat} (h : l.length ≤ k) : Z9 hl nx tx d (l.take k) = Z9 hl nx tx d l:=by rw [List.take_of_length_le h]
theorem ZeH {hl : List Val → Bool} {nx : List Val → Option (List Val)} {tx : Int} {d : Span} {r : HRow} (h : r.r.x.b ≠ 253402300800 ∨ hl r.v = false ∨ d.b ≤ r.r.d.a ∨ r.r.d.b ≤ d.a) : Zak hl nx tx d r = [r]:=by
 unfold Zak
 rw [if_neg]
 unfold ZbD
 simp only [Bool.and_eq_true,decide_eq_true_eq]
 rintro ⟨⟨⟨h1,h2⟩,h3⟩,h4⟩
 rcases h with h | h | h | h
 ·exact h h1
 ·rw [h] at h4; cases h4
 ·omega
 ·omega
theorem ZiR {hl : List Val → Bool} {nx : List Val → Option (List Val)} {tx : Int} {d : Span} {r : HRow} (h1 : r.r.x.b = 253402300800) (h2 : hl r.v = true) (h3 : r.r.d.a < d.b) (h4 : d.a < r.r.d.b) :
  Zak hl nx tx d r = [⟨r.v,⟨r.r.d,⟨r.r.x.a,tx⟩⟩⟩] ++ Xl r.v (ZX 3 [r.r.d] [d]) tx 253402300800 ++ Zcm (nx r.v) r.r.d d tx:=by
 unfold Zak
 rw [if_pos]
 unfold ZbD
 simp only [Bool.and_eq_true,decide_eq_true_eq]
 exact ⟨⟨⟨h1,h3⟩,h4⟩,h2⟩
def X1 (t : Table) : List (List UInt8):=t.s.cols.map Col.name
def Zdm (d : Nat) (t : Table) (tx : Int) (c : Cond) (p : Span) : Int:=if YZ t p then or2 (ZW d c t.s.cols) (YG t tx) else 1
abbrev Zgd (d : Nat) (t : Table) (tx : Int) (c : Cond) (p : Span) : List HRow:=Z9 (Yt d c (X1 t)) (fun _=>none) tx p t.rows
def Q7 (d : Nat) (t : Table) (tx : Int) (c : Cond) (p : Span) : Table:=if Zdm d t tx c p = 0 then Z1 t tx (Zgd d t tx c p) else Qs
def ZdS (d : Nat) (t : Table) (tx : Int) (c : Cond) (p : Span) : Int:=if Zdm d t tx c p = 0 then X0 (Zgd d t tx c p) else Zdm d t tx c p
def Yc : List Val → List Val → List Bool → List Val
 | x :: v,y :: s,m :: k=>(if m then y else x) :: Yc v s k
 | v,_,_=>v
def okM (cols : List Col) (set : List Val) (mask : List Bool) (j : Nat) : Bool:=match mask[j]?,set[j]?,cols[j]? with
 | some m,some x,some c=>!m || (Zz x && decide (x.k = c.kind))
 | _,_,_=>true
def Zar (cols : List Col) (set : List Val) (mask : List Bool) : Bool:=(List.range mask.length).all (okM cols set mask)
def ZaB (d : Nat) (t : Table) (tx : Int) (c : Cond) (set : List Val) (mask : List Bool) (p : Span) : Int:=
 if YZ t p then (if ZW d c t.s.cols ≠ 0 then ZW d c t.s.cols else if set.length ≠ t.s.cols.length ∨ mask.length ≠ t.s.cols.length then 1 else if Zar t.s.cols set mask then YG t tx else 13) else 1
abbrev Zen (d : Nat) (t : Table) (tx : Int) (c : Cond) (set : List Val) (mask : List Bool) (p : Span) : List HRow:=Z9 (Yt d c (X1 t)) (fun v=>some (Yc v set mask)) tx p t.rows
def YH (d : Nat) (t : Table) (tx : Int) (c : Cond) (set : List Val) (mask : List Bool) (p : Span) : Table:=if ZaB d t tx c set mask p = 0 then Z1 t tx (Zen d t tx c set mask p) else Qs
def Xv (d : Nat) (t : Table) (tx : Int) (c : Cond) (set : List Val) (mask : List Bool) (p : Span) : Int:=if ZaB d t tx c set mask p = 0 then X0 (Zen d t tx c set mask p) else ZaB d t tx c set mask p
def ZaC (l : List HRow) (at_ tx : Int) : List (List Val):=((Yl l).filter fun g=>Xq (ZB g.t tx) at_).map HGrp.v
def YF (t : Table) (at_ tx : Int) : List (List Val):=if Z2 t && Yp at_ && Yp tx then ZaC t.rows at_ tx else []
def Zik (l : List HRow) (tx : Int) : List Fact:=(Yl l).flatMap fun g=>(ZB g.t tx).map (Fact.mk g.v)
def atH (t : Table) (tx : Int) : List Fact:=if Z2 t && Yp tx then Zik t.rows tx else []
end Go.Civ
