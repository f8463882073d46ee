/- Lemmas. -/
import Derived.Test.YthgeclodflmiaaaGreatN11
import Derived.Test.YthgeclodflmiaaaGreatN12
import Derived.Lib.Bytealg
namespace Go.Civ
open Go.RowKit
set_option linter.unusedVariables false
structure HGrp where
 v : List Val
 t : List HRow
def Zb4 : Enc HGrp:=(Enc.pair (ValE.slice 32) (HRowE.slice 56)).via fun x=>(x.v,x.t)
theorem QZ {G : GH} {x : HGrp} {cs : List Value} (h : Zb4.rep G x cs) : ∃ v u,cs = [v,u] ∧ Sl ValE 32 G v x.v ∧ Sl HRowE 56 G u x.t:=by
 obtain ⟨c1,c2,rfl,⟨v,rfl,h1⟩,u,rfl,h2⟩:=h
 exact ⟨v,u,rfl,h1,h2⟩
theorem Ze0 {G : GH} (x : HGrp) {v u : Value} (h1 : Sl ValE 32 G v x.v) (h2 : Sl HRowE 56 G u x.t) : Zb4.rep G x [v,u]:=⟨[v],[u],rfl,⟨v,rfl,h1⟩,u,rfl,h2⟩
def YU (tx : Int) (r : HRow) : Bool:=decide (r.r.x.a ≤ tx) && decide (tx < r.r.x.b)
def Yw (l : List HRow) (tx : Int) : List Span:=(l.filter (YU tx)).map fun r=>r.r.d
def Z4 (l : List HRow) (tx : Int) : List Span:=Zao (Yw l tx)
def Y0 (r : HRow) : Bool:=r.v.all Zy && ZC r.r.d && ZC r.r.x
def ZA (l : List HRow) : Prop:=∀ r ∈ l,Y0 r = true
def YG (l : List HRow) (v : List Val) : List HRow:=l.filter fun r=>decide (r.v = v)
def Y7 (l : List HRow) : VV:=l.foldl (fun out r=>Za4 out r.v) []
def Ys (l : List HRow) : List HGrp:=(Y7 l).map fun v=>⟨v,YG l v⟩
theorem ZY {r : HRow} (h : Y0 r = true) : r.v.all Zy = true ∧ ZC r.r.d = true ∧ ZC r.r.x = true:=by
 unfold Y0 at h; simp only [Bool.and_eq_true] at h; exact ⟨h.1.1,h.1.2,h.2⟩
theorem ZdH {l : List HRow} {k : Nat} {x : HRow} {tx : Int} (h : l[k]? = some x) : Yw (l.take (k + 1)) tx = Yw (l.take k) tx ++ if YU tx x then [x.r.d] else []:=by
 rw [List.take_add_one,h]; unfold Yw; rw [List.filter_append,List.map_append]; congr 1
 simp only [Option.toList]; cases hb : YU tx x <;> simp [hb]
theorem Ze1 (l : List HRow) (tx : Int) : (Yw l tx).length ≤ l.length:=by
 unfold Yw; rw [List.length_map]; exact List.length_filter_le _ _
theorem ZhU (l : List HRow) (tx : Int) (k : Nat) : (Yw (l.take k) tx).length ≤ l.length:=Nat.le_trans (Ze1 _ _) (List.length_take_le' _ _)
theorem ZaY {l : List HRow} (h : ∀ r ∈ l,ZC r.r.d = true) (tx : Int) : ∀ s ∈ Yw l tx,ZC s = true:=fun s hs=>by
 obtain ⟨r,hr,rfl⟩:=List.mem_map.1 hs
 exact h r (List.mem_filter.1 hr).1
theorem Zb5 (l : List HRow) (tx : Int) : (Z4 l tx).length ≤ l.length:=Nat.le_trans Zi1 (Ze1 _ _)
theorem Zho (l : List HRow) (r : HRow) : Y7 (l ++ [r]) = Za4 (Y7 l) r.v:=by simp [Y7,List.foldl_append]
theorem ZaI {l : List HRow} {k : Nat} {r : HRow} (h : l[k]? = some r) : Y7 (l.take (k + 1)) = Za4 (Y7 (l.take k)) r.v:=by
 rw [List.take_add_one,h]; exact Zho _ _
theorem Zdk : ∀ (n : Nat) (l : List HRow),l.length = n → Za5 (Y7 l) ∧ (∀ v,v ∈ Y7 l ↔ ∃ r ∈ l,r.v = v) ∧ (Y7 l).length ≤ l.length
 | 0,l,h=>by
  obtain rfl:=List.length_eq_zero_iff.1 h
  exact ⟨List.Pairwise.nil,fun v=>by simp [Y7],Nat.le_refl _⟩
 | n + 1,l,h=>by
  obtain ⟨m,r,rfl⟩ : ∃ m r,l = m ++ [r]:=⟨l.dropLast,l.getLast (by intro e; simp [e] at h),(List.dropLast_concat_getLast _).symm⟩
  obtain ⟨h1,h2,h3⟩:=Zdk n m (by simpa using h)
  rw [Zho]
  refine ⟨Zq5 h1,fun v=>?_,?_⟩
  ·rw [Zq4,h2]
   constructor
   ·rintro (⟨x,hx,rfl⟩ | rfl)
    ·exact ⟨x,by simp [hx],rfl⟩
    ·exact ⟨r,by simp,rfl⟩
   ·rintro ⟨x,hx,rfl⟩
    rcases List.mem_append.1 hx with hx | hx
    ·exact .inl ⟨x,hx,rfl⟩
    ·rw [List.mem_singleton.1 hx]; exact .inr rfl
  ·have:=Zq3 (Y7 m) r.v; rw [List.length_append]; simp only [List.length_singleton]; omega
theorem Q5 (l : List HRow) : Za5 (Y7 l):=(Zdk _ l rfl).1
theorem Za6 {l : List HRow} {v : List Val} : v ∈ Y7 l ↔ ∃ r ∈ l,r.v = v:=(Zdk _ l rfl).2.1 v
theorem Zdl (l : List HRow) : (Y7 l).length ≤ l.length:=(Zdk _ l rfl).2.2
theorem Zjn (l : List HRow) (k : Nat) : (Y7 (l.take k)).length ≤ l.length:=Nat.le_trans (Zdl _) (List.length_take_le' _ _)
def ZdI (out : List HGrp) (v : List Val) : Option Nat:=out.findIdx? fun g=>decide (g.v = v)
def ZbT (out : List HGrp) (i : Nat) (r : HRow) : List HGrp:=match out[i]? with
 | some g=>out.set i ⟨g.v,g.t ++ [r]⟩
 | none=>out
def Zdm (out : List HGrp) (r : HRow) : List HGrp:=match ZdI out r.v with
 | some i=>ZbT out i r
 | none=>out ++ [⟨r.v,[r]⟩]
def hgroups (l : List HRow) : List HGrp:=l.foldl Zdm []
structure HInv (l : List HRow) (out : List HGrp) : Prop where
 nd : (out.map HGrp.v).Nodup
 rows : ∀ g ∈ out,g.t = YG l g.v
 mem : ∀ v,v ∈ out.map HGrp.v ↔ ∃ r ∈ l,r.v = v
theorem Zfm (l : List HRow) (r : HRow) : hgroups (l ++ [r]) = Zdm (hgroups l) r:=by simp [hgroups,List.foldl_append]
theorem ZcO {l : List HRow} {k : Nat} {r : HRow} (h : l[k]? = some r) : hgroups (l.take (k + 1)) = Zdm (hgroups (l.take k)) r:=by
 rw [List.take_add_one,h]; exact Zfm _ _
theorem Zi9 {out : List HGrp} {v : List Val} {i : Nat} (h : ZdI out v = some i) : ∃ g,out[i]? = some g ∧ g.v = v:=by
 unfold ZdI at h
 rw [List.findIdx?_eq_some_iff_getElem] at h
 obtain ⟨hl,h1,_⟩:=h
 exact ⟨out[i],List.getElem?_eq_getElem hl,by simpa using h1⟩
theorem Zot {out : List HGrp} {v : List Val} (h : ZdI out v = none) : v ∉ out.map HGrp.v:=by
 unfold ZdI at h
 rw [List.findIdx?_eq_none_iff] at h
 intro hv
 obtain ⟨g,hg,rfl⟩:=List.mem_map.1 hv
 simpa using h g hg
theorem ZhV {out : List HGrp} {i : Nat} {g : HGrp} (r : HRow) (h : out[i]? = some g) : ZbT out i r = out.set i ⟨g.v,g.t ++ [r]⟩:=by unfold ZbT; rw [h]
theorem Zfn {out : List HGrp} {i : Nat} {r : HRow} : (ZbT out i r).map HGrp.v = out.map HGrp.v:=by
 unfold ZbT
 split
 ·rename_i g hg
  rw [List.map_set]
  apply List.ext_getElem?
  intro j
  rw [List.getElem?_set]
  split
  ·rename_i hj; subst hj
   rw [List.getElem?_map,hg,List.length_map]
   rw [if_pos (List.getElem?_eq_some_iff.1 hg).1]; rfl
  ·rfl
 ·rfl
theorem Ze2 (l : List HRow) (r : HRow) (v : List Val) : YG (l ++ [r]) v = YG l v ++ if r.v = v then [r] else []:=by
 unfold YG; rw [List.filter_append]; congr 1
 by_cases h : r.v = v <;> simp [h]
theorem Zgf : ∀ (n : Nat) (l : List HRow),l.length = n → HInv l (hgroups l)
 | 0,l,h=>by
  obtain rfl:=List.length_eq_zero_iff.1 h
  exact ⟨by simp [hgroups],fun g hg=>by simp [hgroups] at hg,fun v=>by simp [hgroups]⟩
 | n + 1,l,h=>by
  obtain ⟨m,r,rfl⟩ : ∃ m r,l = m ++ [r]:=⟨l.dropLast,l.getLast (by intro e; simp [e] at h),(List.dropLast_concat_getLast _).symm⟩
  obtain ⟨h1,h2,h3⟩:=Zgf n m (by simpa using h)
  rw [Zfm]
  unfold Zdm
  cases hi : ZdI (hgroups m) r.v with
  | some i=>
   obtain ⟨g,hg,hgv⟩:=Zi9 hi
   simp only
   refine ⟨by rw [Zfn]; exact h1,fun x hx=>?_,fun v=>?_⟩
   ·rw [ZhV r hg] at hx
    obtain ⟨j,hj⟩:=List.getElem?_of_mem hx
    rw [List.getElem?_set] at hj
    split at hj
    ·rename_i hij; subst hij
     split at hj
     ·obtain rfl:=Option.some.inj hj
      simp only
      rw [Ze2,if_pos hgv.symm,h2 g (List.mem_of_getElem? hg)]
     ·cases hj
    ·rename_i hij
     rw [Ze2,if_neg,h2 x (List.mem_of_getElem? hj),List.append_nil]
     intro e
     have a1 : (hgroups m |>.map HGrp.v)[i]? = some r.v:=by rw [List.getElem?_map,hg]; simp [hgv]
     have a2 : (hgroups m |>.map HGrp.v)[j]? = some r.v:=by rw [List.getElem?_map,hj]; simp [e]
     have b1:=(List.getElem?_eq_some_iff.1 a1).1
     exact hij ((List.getElem?_inj b1 h1).1 (a1.trans a2.symm))
   ·rw [Zfn,h3]
    constructor
    ·rintro ⟨x,hx,rfl⟩; exact ⟨x,by simp [hx],rfl⟩
    ·rintro ⟨x,hx,rfl⟩
     rcases List.mem_append.1 hx with hx | hx
     ·exact ⟨x,hx,rfl⟩
     ·rw [List.mem_singleton.1 hx,← h3,← hgv]; exact List.mem_map.2 ⟨g,List.mem_of_getElem? hg,rfl⟩
  | none=>
   have hn:=Zot hi
   simp only
   refine ⟨?_,fun x hx=>?_,fun v=>?_⟩
   ·rw [List.map_append,List.nodup_append]
    refine ⟨h1,by simp,fun a ha b hb=>?_⟩
    simp at hb; subst hb
    exact fun e=>hn (e ▸ ha)
   ·rcases List.mem_append.1 hx with hx | hx
    ·rw [Ze2,if_neg,h2 x hx,List.append_nil]
     exact fun e=>hn (e ▸ List.mem_map.2 ⟨x,hx,rfl⟩)
    ·rw [List.mem_singleton.1 hx]
     simp only
     rw [Ze2,if_pos rfl]
     have : YG m r.v = []:=by
      unfold YG
      rw [List.filter_eq_nil_iff]
      intro y hy
      simp only [decide_eq_true_eq]
      exact fun e=>hn ((h3 _).2 ⟨y,hy,e⟩)
     rw [this]; rfl
   ·rw [List.map_append,List.mem_append,h3]
    constructor
    ·rintro (⟨x,hx,rfl⟩ | hv)
     ·exact ⟨x,by simp [hx],rfl⟩
     ·simp at hv; subst hv; exact ⟨r,by simp,rfl⟩
    ·rintro ⟨x,hx,rfl⟩
     rcases List.mem_append.1 hx with hx | hx
     ·exact .inl ⟨x,hx,rfl⟩
     ·rw [List.mem_singleton.1 hx]; exact .inr (by simp)
theorem Zc3 (l : List HRow) : HInv l (hgroups l):=Zgf _ l rfl
theorem Zou (out : List HGrp) (r : HRow) : (Zdm out r).length ≤ out.length + 1:=by
 unfold Zdm
 cases ZdI out r.v with
 | none=>simp
 | some i=>simp only; unfold ZbT; split <;> simp
theorem ZdJ (l : List HRow) : ∀ k,(hgroups (l.take k)).length ≤ k
 | 0=>by simp [hgroups]
 | k + 1=>by
  have h:=ZdJ l k
  cases e : l[k]? with
  | none=>rw [List.take_add_one,e]; simpa using Nat.le_succ_of_le h
  | some r=>rw [ZcO e]; exact Nat.le_trans (Zou _ _) (by omega)
theorem ZsE {l : List HRow} {s : List HGrp} (hg : ∀ r ∈ l,r.v.all Zy = true) (hp : s.Perm (hgroups l)) (hs : s.Pairwise fun x y=>¬ Xr y.v x.v < 0) : s = Ys l:=by
 have I:=Zc3 l
 have hv : ∀ g ∈ s,g.v.all Zy = true:=fun g h=>by
  obtain ⟨r,hr,e⟩:=(I.mem g.v).1 (List.mem_map.2 ⟨g,hp.mem_iff.1 h,rfl⟩)
  rw [← e]; exact hg r hr
 have nd : (s.map HGrp.v).Nodup:=(hp.map HGrp.v).nodup_iff.2 I.nd
 have e1 : s.map HGrp.v = Y7 l:=by
  refine Zct ord ?_ (Q5 l) fun v=>?_
  ·rw [List.pairwise_map]
   have nd2 : s.Pairwise fun x y=>x.v ≠ y.v:=by
    unfold List.Nodup at nd; rw [List.pairwise_map] at nd; exact nd
   refine List.Pairwise.imp_of_mem ?_ (List.Pairwise.and hs nd2)
   intro x y hx hy h
   rw [Qk (hv y hy) (hv x hx)] at h
   rcases Int.lt_or_le (ZI cmpV x.v y.v) 0 with k | k
   ·exact k
   ·exfalso
    by_cases e : ZI cmpV x.v y.v = 0
    ·exact h.2 ((ord.eq _ _).1 e)
    ·exact h.1 ((ord.swap _ _).2 (by omega))
  ·rw [(hp.map HGrp.v).mem_iff,I.mem,Za6]
 unfold Ys
 rw [← e1,List.map_map]
 symm
 have : ∀ g ∈ s,((fun v=>(⟨v,YG l v⟩ : HGrp)) ∘ HGrp.v) g = g:=fun g h=>by
  have:=I.rows g (hp.mem_iff.1 h)
  simp only [Function.comp]
  rw [← this]
 rw [List.map_congr_left this,List.map_id']
structure NS where
 out : List HRow
 now : List Span
 fr : Int
def YD (v : List Val) (now : List Span) (a b : Int) : List HRow:=now.map fun s=>⟨v,⟨s,⟨a,b⟩⟩⟩
def Zas (v : List Val) (f : Int → List Span) (s : NS) (c : Int) : NS:=if s.now = f c then s else ⟨s.out ++ YD v s.now s.fr c,f c,c⟩
def Y9 (v : List Val) (f : Int → List Span) (cs : List Int) : NS:=cs.foldl (Zas v f) ⟨[],[],0⟩
def ZL (l : List HRow) : List Int:=Y6 (l.map fun r=>r.r.x)
def Ze3 (g : HGrp) : List HRow:=(Y9 g.v (Z4 g.t) (ZL g.t)).out
def Z5 (l : List HRow) : List HRow:=(Ys l).flatMap Ze3
def Qs (l : List HRow) (v : List Val) (tx : Int) : List Span:=(l.filter fun r=>YU tx r && decide (r.v = v)).map fun r=>r.r.d
def YO (l : List HRow) (v : List Val) (tx : Int) : List Span:=Yn 1 (Qs l v tx) []
def Zaf (l : List HRow) : List HRow:=(Y7 l).flatMap fun v=>(Y9 v (YO l v) (ZL l)).out
theorem ZiA {v : List Val} {f : Int → List Span} {cs : List Int} {k : Nat} {c : Int} (h : cs[k]? = some c) : Y9 v f (cs.take (k + 1)) = Zas v f (Y9 v f (cs.take k)) c:=by
 rw [List.take_add_one,h]; simp [Y9,List.foldl_append]
theorem Zb6 {v : List Val} {f : Int → List Span} {s : NS} {c : Int} (h : s.now = f c) : Zas v f s c = s:=by unfold Zas; rw [if_pos h]
theorem Zdn {v : List Val} {f : Int → List Span} {s : NS} {c : Int} (h : s.now ≠ f c) : Zas v f s c = ⟨s.out ++ YD v s.now s.fr c,f c,c⟩:=by unfold Zas; rw [if_neg h]
theorem Zov (l : List HRow) (v : List Val) (tx : Int) : Qs l v tx = Yw (YG l v) tx:=by
 unfold Qs Yw YG; rw [List.filter_filter]
theorem ZA.d {l : List HRow} (h : ZA l) : ∀ r ∈ l,ZC r.r.d = true:=fun r hr=>(ZY (h r hr)).2.1
theorem ZA.of {l : List HRow} (h : ZA l) (v : List Val) : ZA (YG l v):=fun r hr=>h r (List.mem_filter.1 hr).1
theorem Zcn {l : List HRow} (h : ZA l) (v : List Val) (tx : Int) : YO l v tx = Z4 (YG l v) tx:=by
 unfold YO Z4
 rw [Zov]
 exact Zlx fun s hs=>Yx (ZaY (h.of v).d tx s hs)
theorem ZfL {v : List Val} {f : Int → List Span} : ∀ (E C : List Int) (s : NS),E.Pairwise (· < ·) → C.Pairwise (· < ·) → (∀ c ∈ C,c ∈ E) →
  (∀ e ∈ E,(∀ c ∈ C,e < c) → f e = s.now) → (∀ c ∈ C,∀ e ∈ E,c ≤ e → (∀ c' ∈ C,c < c' → e < c') → f e = f c) → E.foldl (Zas v f) s = C.foldl (Zas v f) s
 | [],[],s,_,_,_,_,_=>rfl
 | [],c :: C,s,_,_,h,_,_=>absurd (h c (by simp)) (by simp)
 | e :: E,C,s,hE,hC,hs,h0,hc=>by
  obtain ⟨hE1,hE2⟩:=List.pairwise_cons.1 hE
  rw [List.foldl_cons]
  by_cases he : e ∈ C
  ·cases C with
   | nil=>cases he
   | cons c C=>
    obtain ⟨hC1,hC2⟩:=List.pairwise_cons.1 hC
    have ec : e = c:=by
     rcases List.mem_cons.1 he with h | h
     ·exact h
     ·have a:=hC1 e h
      rcases List.mem_cons.1 (hs c (by simp)) with h' | h'
      ·exact h'.symm
      ·have:=hE1 c h'; omega
    subst ec
    rw [List.foldl_cons]
    refine ZfL E C _ hE2 hC2 (fun c hcC=>?_) (fun x hx hxC=>?_) (fun c hcC x hx hle hno=>?_)
    ·rcases List.mem_cons.1 (hs c (by simp [hcC])) with h' | h'
     ·have:=hC1 c hcC; omega
     ·exact h'
    ·have hxe:=hE1 x hx
     have e1 : f x = f e:=hc e (by simp) x (by simp [hx]) (by omega) (fun c' hc' hlt=>by
      rcases List.mem_cons.1 hc' with h' | h'
      ·omega
      ·exact hxC c' h')
     rw [e1]
     unfold Zas
     split
     ·rename_i hn; exact hn.symm
     ·rfl
    ·exact hc c (by simp [hcC]) x (by simp [hx]) hle (fun c' hc' hlt=>by
      rcases List.mem_cons.1 hc' with h' | h'
      ·subst h'; have:=hC1 c hcC; omega
      ·exact hno c' h' hlt)
  ·have hlt : ∀ c ∈ C,e < c:=fun c hcC=>by
    rcases List.mem_cons.1 (hs c hcC) with h' | h'
    ·exact absurd (h' ▸ hcC) he
    ·exact hE1 c h'
   rw [Zb6 (h0 e (by simp) hlt).symm]
   refine ZfL E C s hE2 hC (fun c hcC=>?_) (fun x hx hxC=>h0 x (by simp [hx]) hxC) (fun c hcC x hx=>hc c hcC x (by simp [hx]))
   rcases List.mem_cons.1 (hs c hcC) with h' | h'
   ·exact absurd (h' ▸ hcC) he
   ·exact h'
theorem X1 {l : List HRow} {y : Int} : y ∈ ZL l ↔ ∃ r ∈ l,y = r.r.x.a ∨ y = r.r.x.b:=by
 unfold ZL; rw [Zfj]
 constructor
 ·rintro ⟨s,hs,h⟩; obtain ⟨r,hr,rfl⟩:=List.mem_map.1 hs; exact ⟨r,hr,h⟩
 ·rintro ⟨r,hr,h⟩; exact ⟨r.r.x,List.mem_map.2 ⟨r,hr,rfl⟩,h⟩
theorem Q6 (l : List HRow) : (ZL l).Pairwise (· < ·):=Zi5 _
theorem Zdo (l : List HRow) : (ZL l).length ≤ 2 * l.length:=by have:=Zdj (l.map fun r=>r.r.x); rw [List.length_map] at this; exact this
theorem Zdp {l : List HRow} {x y : Int} (hxy : x ≤ y) (h : ∀ c ∈ ZL l,x < c → y < c) : Yw l y = Yw l x:=by
 unfold Yw
 have : ∀ r ∈ l,YU y r = YU x r:=fun r hr=>by
  have ha:=h r.r.x.a (X1.2 ⟨r,hr, .inl rfl⟩)
  have hb:=h r.r.x.b (X1.2 ⟨r,hr, .inr rfl⟩)
  unfold YU
  have e1 : decide (r.r.x.a ≤ y) = decide (r.r.x.a ≤ x):=decide_eq_decide.2 ⟨fun q=>by omega,fun q=>by omega⟩
  have e2 : decide (y < r.r.x.b) = decide (x < r.r.x.b):=decide_eq_decide.2 ⟨fun q=>by omega,fun q=>by omega⟩
  rw [e1,e2]
 rw [List.filter_congr this]
theorem Zaa : Zao [] = []:=by simp [Zao,Zhb,Yt]
theorem Zbu {l : List HRow} {x : Int} (hg : ZA l) (h : ∀ c ∈ ZL l,x < c) : Yw l x = []:=by
 unfold Yw
 have : l.filter (YU x) = []:=by
  rw [List.filter_eq_nil_iff]
  intro r hr hl
  have ha:=h r.r.x.a (X1.2 ⟨r,hr, .inl rfl⟩)
  unfold YU at hl
  simp at hl; omega
 rw [this]; rfl
theorem ZaJ {l : List HRow} (hg : ZA l) : Z5 l = Zaf l:=by
 unfold Z5 Zaf Ys
 rw [List.flatMap_map]
 congr 1
 funext v
 unfold Ze3
 simp only
 have ef : YO l v = Z4 (YG l v):=funext fun tx=>Zcn hg v tx
 rw [ef]
 congr 1
 symm
 refine ZfL _ _ _ (Q6 l) (Q6 _) (fun c hc=>?_) (fun e he h=>?_) (fun c hc e he hle h=>?_)
 ·obtain ⟨r,hr,h⟩:=X1.1 hc
  exact X1.2 ⟨r,(List.mem_filter.1 hr).1,h⟩
 ·unfold Z4; rw [Zbu (hg.of v) h]; exact Zaa
 ·unfold Z4; rw [Zdp hle h]
end Go.Civ
namespace Go.Civ
open Go.RowKit
set_option linter.unusedVariables false
def ZaS (c : Int) : Bool:=(decide (65 ≤ c) && decide (c ≤ 90)) || (decide (97 ≤ c) && decide (c ≤ 122))
def Zfq (c : Int) : Bool:=decide (48 ≤ c) && decide (c ≤ 57)
def ixM (c : Int) : Int:=Go.Lib.indexByte [95,47,43,45] c.toNat.toUInt8
def Zbi (c : UInt8) : Bool:=ZaS (c.toNat : Int) || Zfq (c.toNat : Int) || decide (0 ≤ ixM (c.toNat : Int))
def X5 (s : List UInt8) : Bool:=decide (1 ≤ s.length) && decide (s.length ≤ 30) && ZaS ((s.headD 0).toNat : Int) && s.all Zbi
theorem Zq8 {s : List UInt8} {k : Nat} {c : UInt8} (h : s[k]? = some c) (hc : Zbi c = false) : X5 s = false:=by
 unfold X5; rw [ZcH h hc]; simp
theorem Zhq {s : List UInt8} {c : UInt8} (h : s[0]? = some c) : s.headD 0 = c:=by
 cases s with
 | nil=>simp at h
 | cons x s=>simp at h; simpa using h
theorem ZsH {c : UInt8} (h : ZaS (c.toNat : Int) = true) : Zbi c = true:=by unfold Zbi; rw [h]; rfl
theorem ZsI {c : UInt8} (h : Zfq (c.toNat : Int) = true) : Zbi c = true:=by unfold Zbi; rw [h]; simp
theorem ZsJ {c : UInt8} (h : 0 ≤ Go.Lib.indexByte [95,47,43,45] (c.toNat : Int).toNat.toUInt8) : Zbi c = true:=by unfold Zbi ixM; rw [decide_eq_true h]; simp
theorem Zq9 {c : UInt8} (h1 : ZaS (c.toNat : Int) = false) (h2 : Zfq (c.toNat : Int) = false) (h3 : Go.Lib.indexByte [95,47,43,45] (c.toNat : Int).toNat.toUInt8 < 0) : Zbi c = false:=by
 unfold Zbi ixM; rw [h1,h2,decide_eq_false (by omega)]; rfl
theorem ZiB {s : List UInt8} (h : (s.length : Int) < 1 ∨ 30 < (s.length : Int)) : X5 s = false:=by
 unfold X5
 rcases h with h | h
 ·rw [decide_eq_false (show ¬ 1 ≤ s.length by omega)]; simp
 ·rw [decide_eq_false (show ¬ s.length ≤ 30 by omega)]; simp
theorem Zoz {s : List UInt8} {c : UInt8} (h : s[0]? = some c) (hc : ZaS (c.toNat : Int) = false) : X5 s = false:=by
 unfold X5; rw [Zhq h,hc]; simp
theorem Zo0 {s : List UInt8} {c : UInt8} (h1 : 1 ≤ (s.length : Int)) (h2 : (s.length : Int) ≤ 30) (h : s[0]? = some c) (hc : ZaS (c.toNat : Int) = true) (ha : s.all Zbi = true) : X5 s = true:=by
 unfold X5; rw [Zhq h,hc,ha,decide_eq_true (show 1 ≤ s.length by omega),decide_eq_true (show s.length ≤ 30 by omega)]; rfl
def ZaK (l : List (List UInt8)) (j : Nat) (s : List UInt8) : Bool:=X5 s && !(l.take j).any fun x=>decide (x = s)
def Qc (l : List (List UInt8)) : Bool:=l.zipIdx.all fun p=>ZaK l p.2 p.1
theorem Zo1 {l : List (List UInt8)} {j : Nat} {s : List UInt8} (h1 : X5 s = true) (h2 : ((l.take j).any fun x=>decide (x = s)) = false) : ZaK l j s = true:=by unfold ZaK; rw [h1,h2]; rfl
theorem Zo2 {l : List (List UInt8)} {j : Nat} {s : List UInt8} (h1 : X5 s = false) : ZaK l j s = false:=by unfold ZaK; rw [h1]; rfl
theorem Zo3 {l : List (List UInt8)} {j : Nat} {s : List UInt8} (h2 : ((l.take j).any fun x=>decide (x = s)) = true) : ZaK l j s = false:=by unfold ZaK; rw [h2]; simp
theorem Zk2 {α : Type} {P : Nat → α → Prop} {l : List α} {k : Nat} {y : α} (h : ∀ j,j < k → ∀ x,l[j]? = some x → P j x) (hk : l[k]? = some y) (hy : P k y) : ∀ j,j < k + 1 → ∀ x,l[j]? = some x → P j x:=fun j hj x hx=>by
 by_cases e : j = k
 ·subst e; rw [hk] at hx; obtain rfl:=Option.some.inj hx; exact hy
 ·exact h j (by omega) x hx
theorem Zk3 {l : List (List UInt8)} {k : Nat} {s : List UInt8} (h : l[k]? = some s) (hs : ZaK l k s = false) : Qc l = false:=by
 unfold Qc
 rw [Bool.eq_false_iff]
 intro e
 rw [List.all_eq_true] at e
 have:=e (s,k) (List.mem_zipIdx_iff_getElem?.2 h)
 rw [this] at hs; cases hs
theorem Zo4 {l : List (List UInt8)} {k : Nat} (h : ∀ j,j < k → ∀ s,l[j]? = some s → ZaK l j s = true) (hk : l.length ≤ k) : Qc l = true:=by
 unfold Qc
 rw [List.all_eq_true]
 rintro ⟨s,j⟩ hm
 have hj:=List.mem_zipIdx_iff_getElem?.1 hm
 have:=(List.getElem?_eq_some_iff.1 hj).1
 exact h j (by simp at this ⊢; omega) s hj
def ixS (l : List (List UInt8)) (nm : List UInt8) : Int:=ZaP (fun x=>decide (x = nm)) l
theorem ZsK {l : List (List UInt8)} {nm : List UInt8} : decide (0 ≤ ixS l nm) = l.any fun x=>decide (x = nm):=Zek _ _
def Ze5 (c : Col) : Bool:=decide (1 ≤ c.kind) && decide (c.kind ≤ 4)
def fkB (s : Schema) (f : Foreign) : Bool:=X5 f.table && decide (1 ≤ f.cols.length) && decide (f.cols.length ≤ 8) && Qc f.cols && f.cols.all fun c=>decide (0 ≤ ixS (s.cols.map Col.name) c)
def XX (s : Schema) : Bool:=X5 s.name && decide (1 ≤ s.cols.length) && decide (s.cols.length ≤ 8) && decide (1 ≤ s.key) && decide (s.key ≤ s.cols.length) && decide (s.fks.length ≤ 8) && Qc (s.cols.map Col.name)
def YE (s : Schema) : Bool:=XX s && (s.cols.all Ze5 && s.fks.all (fkB s))
theorem Zo5 {c : Col} (h1 : 1 ≤ c.kind) (h2 : c.kind ≤ 4) : Ze5 c = true:=by unfold Ze5; simp [h1,h2]
theorem ZsL {s : Schema} {f : Foreign} (h1 : X5 f.table = true) (h2 : 1 ≤ (f.cols.length : Int)) (h3 : (f.cols.length : Int) ≤ 8) (h4 : Qc f.cols = true) (h5 : (f.cols.all fun c=>decide (0 ≤ ixS (s.cols.map Col.name) c)) = true) : fkB s f = true:=by
 unfold fkB; rw [h1,h4,h5,decide_eq_true (show 1 ≤ f.cols.length by omega),decide_eq_true (show f.cols.length ≤ 8 by omega)]; rfl
theorem XR {s : Schema} {f : Foreign} (h1 : X5 f.table = false) : fkB s f = false:=by unfold fkB; rw [h1]; rfl
theorem XS {s : Schema} {f : Foreign} (h : (f.cols.length : Int) < 1 ∨ 8 < (f.cols.length : Int)) : fkB s f = false:=by
 unfold fkB
 rcases h with h | h
 ·rw [decide_eq_false (show ¬ 1 ≤ f.cols.length by omega)]; simp
 ·rw [decide_eq_false (show ¬ f.cols.length ≤ 8 by omega)]; simp
theorem XT {s : Schema} {f : Foreign} (h1 : Qc f.cols = false) : fkB s f = false:=by unfold fkB; rw [h1]; simp
theorem XU {s : Schema} {f : Foreign} {k : Nat} {c : List UInt8} (h : f.cols[k]? = some c) (hc : ixS (s.cols.map Col.name) c < 0) : fkB s f = false:=by
 unfold fkB; rw [ZcH (p:=fun c=>decide (0 ≤ ixS (s.cols.map Col.name) c)) h (decide_eq_false (by omega))]; simp
theorem X8 {s : Schema} (h1 : XX s = true) (h2 : s.cols.all Ze5 = true) (h3 : s.fks.all (fkB s) = true) : YE s = true:=by unfold YE; rw [h1,h2,h3]; rfl
theorem Xn {s : Schema} {k : Nat} {c : Col} (h : s.cols[k]? = some c) (hc : c.kind < 1 ∨ 4 < c.kind) : YE s = false:=by
 unfold YE; rw [ZcH (p:=Ze5) h (by unfold Ze5; rcases hc with hc | hc <;> simp <;> omega)]; simp
theorem ZB {s : Schema} {k : Nat} {f : Foreign} (h : s.fks[k]? = some f) (hc : fkB s f = false) : YE s = false:=by
 unfold YE; rw [ZcH (p:=fkB s) h hc]; simp
theorem Qt {s : Schema} (h : XX s = false) : YE s = false:=by unfold YE; rw [h]; rfl
def YJ (s : Schema) (v : List Val) : Int:=if YE s && v.all Zy then (if Qp (fun (c : Col) (x : Val)=>decide (c.kind = x.k)) s.cols v then 0 else 13) else 1
theorem ZqA (s : Schema) (v : List Val) : Zv (YJ s v):=by unfold YJ; split <;> (try split) <;> constructor <;> decide
theorem Zuu {s : Schema} {v : List Val} (h : YE s = false) : YJ s v = 1:=by unfold YJ; rw [h]; rfl
theorem ZcB {v : List Val} {b : Bool} (h : (v.any fun x=>!Zy x) = b) : v.all Zy = !b:=by rw [← ZlH,h]
theorem Zuv {s : Schema} {v : List Val} (h : (v.any fun x=>!Zy x) = true) : YJ s v = 1:=by unfold YJ; rw [ZcB h]; simp
theorem ZsM {s : Schema} {v : List Val} (h1 : YE s = true) (h2 : (v.any fun x=>!Zy x) = false) (h3 : Qp (fun (c : Col) (x : Val)=>decide (c.kind = x.k)) s.cols v = false) : YJ s v = 13:=by
 unfold YJ; rw [ZcB h2,h1,h3]; rfl
theorem Zuw {s : Schema} {v : List Val} (h1 : YE s = true) (h2 : (v.any fun x=>!Zy x) = false) (h3 : Qp (fun (c : Col) (x : Val)=>decide (c.kind = x.k)) s.cols v = true) : YJ s v = 0:=by
 unfold YJ; rw [ZcB h2,h1,h3]; rfl
theorem Zhr {α β : Type} {f : α → β → Bool} : ∀ {a : List α} {b : List β},Qp f a b = true → a.length = b.length
 | [],[],_=>rfl
 | [],_ :: _,h=>by simp [Qp] at h
 | _ :: _,[],h=>by simp [Qp] at h
 | x :: a,y :: b,h=>by simp [Qp] at h; simp [Zhr (f:=f) (a:=a) (b:=b) h.2]
theorem Qu {s : Schema} {v : List Val} (h : YJ s v = 0) : v.length ≤ 8 ∧ v.all Zy = true ∧ v.length = s.cols.length ∧ YE s = true:=by
 unfold YJ at h
 split at h
 ·rename_i h1
  split at h
  ·rename_i h2
   simp only [Bool.and_eq_true] at h1
   have h3:=Zhr h2
   have h4:=h1.1
   unfold YE XX at h4
   simp only [Bool.and_eq_true,decide_eq_true_eq] at h4
   exact ⟨by omega,h1.2,h3.symm,h1.1⟩
  ·cases h
 ·cases h
def YF (s : Schema) (last : Int) (r : HRow) : Bool:=decide (YJ s r.v = 0) && Y0 r && decide (r.r.x.a ≤ last) && (decide (r.r.x.b ≤ last) || decide (r.r.x.b = 253402300800))
def Z3 (t : Table) : Bool:=YE t.s && decide (-62135596801 ≤ t.last) && decide (t.last < 253402300800) && decide (t.rows.length ≤ 500) && t.rows.all (YF t.s t.last) && decide (t.rows = Z5 t.rows)
def Yu (x : Int) : Bool:=decide (-62135596800 ≤ x) && decide (x < 253402300800)
def ZdZ (last : Int) (r : HRow) : Bool:=Y0 r && decide (r.r.x.a ≤ last) && (decide (r.r.x.b ≤ last) || decide (r.r.x.b = 253402300800))
def Zo6 (l : List HRow) (last : Int) : Bool:=decide (-62135596801 ≤ last) && decide (last < 253402300800) && decide (l.length ≤ 500) && l.all (ZdZ last) && decide (Zaf l = l)
def ZlT (t : Table) : Bool:=YE t.s && Zo6 t.rows t.last && t.rows.all fun r=>decide (YJ t.s r.v = 0)
theorem ZS {t : Table} (h : Z3 t = true) : ZA t.rows ∧ t.rows.length ≤ 500 ∧ (∀ r ∈ t.rows,r.v.length ≤ 8) ∧ t.rows = Z5 t.rows:=by
 unfold Z3 at h
 simp only [Bool.and_eq_true,decide_eq_true_eq,List.all_eq_true] at h
 refine ⟨fun r hr=>?_,h.1.1.2,fun r hr=>?_,h.2⟩
 ·have:=h.1.2 r hr
  unfold YF at this; simp only [Bool.and_eq_true,decide_eq_true_eq] at this; exact this.1.1.2
 ·have:=h.1.2 r hr
  unfold YF at this; simp only [Bool.and_eq_true,decide_eq_true_eq] at this; exact (Qu this.1.1.1).1
theorem Zo7 (t : Table) : ZlT t = Z3 t:=by
 rw [Bool.eq_iff_iff]
 unfold ZlT Z3 Zo6
 simp only [Bool.and_eq_true,decide_eq_true_eq,List.all_eq_true]
 have e : ∀ r,YF t.s t.last r = true ↔ (YJ t.s r.v = 0 ∧ ZdZ t.last r = true):=fun r=>by
  unfold YF ZdZ; simp only [Bool.and_eq_true,decide_eq_true_eq]; constructor
  ·rintro ⟨⟨⟨a,b⟩,c⟩,d⟩; exact ⟨a,⟨b,c⟩,d⟩
  ·rintro ⟨a,⟨b,c⟩,d⟩; exact ⟨⟨⟨a,b⟩,c⟩,d⟩
 have g : (∀ r ∈ t.rows,ZdZ t.last r = true) → ZA t.rows:=fun h r hr=>by
  have:=h r hr; unfold ZdZ at this; simp only [Bool.and_eq_true] at this; exact this.1.1
 constructor
 ·rintro ⟨⟨h1,⟨⟨⟨h2,h3⟩,h4⟩,h5⟩,h6⟩,h7⟩
  exact ⟨⟨⟨⟨⟨h1,h2⟩,h3⟩,h4⟩,fun r hr=>(e r).2 ⟨h7 r hr,h5 r hr⟩⟩,by rw [ZaJ (g h5)]; exact h6.symm⟩
 ·rintro ⟨⟨⟨⟨⟨h1,h2⟩,h3⟩,h4⟩,h5⟩,h6⟩
  have h5' : ∀ r ∈ t.rows,ZdZ t.last r = true:=fun r hr=>((e r).1 (h5 r hr)).2
  exact ⟨⟨h1,⟨⟨⟨h2,h3⟩,h4⟩,h5'⟩,by rw [← ZaJ (g h5')]; exact h6.symm⟩,fun r hr=>((e r).1 (h5 r hr)).1⟩
abbrev noT : Table:=⟨⟨[],[],0,[]⟩,[],0⟩
def ZV (t : Table) (tx : Int) (l : List HRow) : Table:=if (Z5 l).length ≤ 500 then ⟨t.s,Z5 l,tx⟩ else noT
def Qi (l : List HRow) : Int:=if (Z5 l).length ≤ 500 then 0 else 5
def XK (t : Table) (tx : Int) : Int:=if Yu tx then (if tx ≤ t.last then 6 else 0) else 2
def or2 (a b : Int) : Int:=if a ≠ 0 then a else b
abbrev Qd (t : Table) (tx : Int) (v : List Val) (d : Span) : List HRow:=t.rows ++ [⟨v,⟨d,⟨tx,253402300800⟩⟩⟩]
def Zac (t : Table) (d : Span) : Bool:=Z3 t && ZC d
def ZcQ (t : Table) (tx : Int) (v : List Val) (d : Span) : Int:=if Zac t d then or2 (YJ t.s v) (XK t tx) else 1
def ZP (t : Table) (tx : Int) (v : List Val) (d : Span) : Table:=if ZcQ t tx v d = 0 then ZV t tx (Qd t tx v d) else noT
def Yi (t : Table) (tx : Int) (v : List Val) (d : Span) : Int:=if ZcQ t tx v d = 0 then Qi (Qd t tx v d) else ZcQ t tx v d
def XY (d : Span) (r : HRow) : Bool:=decide (r.r.x.b = 253402300800) && decide (r.r.d.a < d.b) && decide (d.a < r.r.d.b)
def Zj1 (r d : Span) : Span:=⟨max r.a d.a,min r.b d.b⟩
def Zat (nx : Option (List Val)) (r d : Span) (tx : Int) : List HRow:=match nx with
 | some v=>[⟨v,⟨Zj1 r d,⟨tx,253402300800⟩⟩⟩]
 | none=>[]
def Xm (hl : List Val → Bool) (nx : List Val → Option (List Val)) (tx : Int) (d : Span) (r : HRow) : List HRow:=
 if XY d r && hl r.v then [⟨r.v,⟨r.r.d,⟨r.r.x.a,tx⟩⟩⟩] ++ YD r.v (Yn 3 [r.r.d] [d]) tx 253402300800 ++ Zat (nx r.v) r.r.d d tx else [r]
def Yz (hl : List Val → Bool) (nx : List Val → Option (List Val)) (tx : Int) (d : Span) (l : List HRow) : List HRow:=l.flatMap (Xm hl nx tx d)
theorem Zb8 {hl : List Val → Bool} {nx : List Val → Option (List Val)} {tx : Int} {d : Span} {l : List HRow} {k : Nat} {r : HRow} (h : l[k]? = some r) :
  Yz hl nx tx d (l.take (k + 1)) = Yz hl nx tx d (l.take k) ++ Xm hl nx tx d r:=by
 rw [List.take_add_one,h]; simp [Yz]
theorem Zly {hl : List Val → Bool} {nx : List Val → Option (List Val)} {tx : Int} {d : Span} {l : List HRow} {k : Nat} (h : l.length ≤ k) : Yz hl nx tx d (l.take k) = Yz hl nx tx d l:=by rw [List.take_of_length_le h]
theorem ZqB {hl : List Val → Bool} {nx : List Val → Option (List Val)} {tx : Int} {d : Span} {r : HRow} (h : r.r.x.b ≠ 253402300800 ∨ hl r.v = false ∨ d.b ≤ r.r.d.a ∨ r.r.d.b ≤ d.a) : Xm hl nx tx d r = [r]:=by
 unfold Xm
 rw [if_neg]
 unfold XY
 simp only [Bool.and_eq_true,decide_eq_true_eq]
 rintro ⟨⟨⟨h1,h2⟩,h3⟩,h4⟩
 rcases h with h | h | h | h
 ·exact h h1
 ·rw [h] at h4; cases h4
 ·omega
 ·omega
theorem Zo8 {hl : List Val → Bool} {nx : List Val → Option (List Val)} {tx : Int} {d : Span} {r : HRow} (h1 : r.r.x.b = 253402300800) (h2 : hl r.v = true) (h3 : r.r.d.a < d.b) (h4 : d.a < r.r.d.b) :
  Xm hl nx tx d r = [⟨r.v,⟨r.r.d,⟨r.r.x.a,tx⟩⟩⟩] ++ YD r.v (Yn 3 [r.r.d] [d]) tx 253402300800 ++ Zat (nx r.v) r.r.d d tx:=by
 unfold Xm
 rw [if_pos]
 unfold XY
 simp only [Bool.and_eq_true,decide_eq_true_eq]
 exact ⟨⟨⟨h1,h3⟩,h4⟩,h2⟩
def Xi : List Val → List Val → List Bool → List Val
 | x :: v,y :: s,m :: k=>(if m then y else x) :: Xi v s k
 | v,_,_=>v
def Za7 (l : List HRow) (at_ tx : Int) : List (List Val):=((Ys l).filter fun g=>YC (Z4 g.t tx) at_).map HGrp.v
def YB (t : Table) (at_ tx : Int) : List (List Val):=if Z3 t && Yu at_ && Yu tx then Za7 t.rows at_ tx else []
def ZhX (l : List HRow) (tx : Int) : List Fact:=(Ys l).flatMap fun g=>(Z4 g.t tx).map (Fact.mk g.v)
def atH (t : Table) (tx : Int) : List Fact:=if Z3 t && Yu tx then ZhX t.rows tx else []
end Go.Civ
