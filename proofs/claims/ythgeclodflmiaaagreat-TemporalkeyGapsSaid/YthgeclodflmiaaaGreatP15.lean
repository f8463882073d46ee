/- Lemmas. -/
import Derived.Test.YthgeclodflmiaaaGreatP09
import Derived.Test.YthgeclodflmiaaaGreatP14
namespace Go.Civ
open Go.RowKit
set_option linter.unusedVariables false
structure HGrp where
 v : List Val
 t : List HRow
def ZaL : Enc HGrp:=(Enc.pair (ValE.slice 32) (HRowE.slice 56)).via fun x=>(x.v,x.t)
theorem Q9 {G : GH} {x : HGrp} {cs : List Value} (h : ZaL.rep G x cs) : ∃ v u,cs = [v,u] ∧ Sl ValE 32 G v x.v ∧ Sl HRowE 56 G u x.t:=by
 obtain ⟨c1,c2,rfl,⟨v,rfl,h1⟩,u,rfl,h2⟩:=h
 exact ⟨v,u,rfl,h1,h2⟩
theorem Zdy {G : GH} (x : HGrp) {v u : Value} (h1 : Sl ValE 32 G v x.v) (h2 : Sl HRowE 56 G u x.t) : ZaL.rep G x [v,u]:=⟨[v],[u],rfl,⟨v,rfl,h1⟩,u,rfl,h2⟩
def Y6 (tx : Int) (r : HRow) : Bool:=decide (r.r.x.a ≤ tx) && decide (tx < r.r.x.b)
def Yf (l : List HRow) (tx : Int) : List Span:=(l.filter (Y6 tx)).map fun r=>r.r.d
def Z1 (l : List HRow) (tx : Int) : List Span:=XD (Yf l tx)
def Yh (r : HRow) : Bool:=r.v.all Z9 && ZC r.r.d && ZC r.r.x
def ZA (l : List HRow) : Prop:=∀ r ∈ l,Yh r = true
def YI (l : List HRow) (v : List Val) : List HRow:=l.filter fun r=>decide (r.v = v)
def YZ (l : List HRow) : VV:=l.foldl (fun out r=>Zej out r.v) []
def ZT (l : List HRow) : List HGrp:=(YZ l).map fun v=>⟨v,YI l v⟩
theorem ZU {r : HRow} (h : Yh r = true) : r.v.all Z9 = true ∧ ZC r.r.d = true ∧ ZC r.r.x = true:=by
 unfold Yh at h; simp only [Bool.and_eq_true] at h; exact ⟨h.1.1,h.1.2,h.2⟩
theorem ZcS {l : List HRow} {k : Nat} {x : HRow} {tx : Int} (h : l[k]? = some x) : Yf (l.take (k + 1)) tx = Yf (l.take k) tx ++ if Y6 tx x then [x.r.d] else []:=by
 rw [List.take_add_one,h]; unfold Yf; rw [List.filter_append,List.map_append]; congr 1
 simp only [Option.toList]; cases hb : Y6 tx x <;> simp [hb]
theorem Zdz (l : List HRow) (tx : Int) : (Yf l tx).length ≤ l.length:=by
 unfold Yf; rw [List.length_map]; exact List.length_filter_le _ _
theorem ZgU (l : List HRow) (tx : Int) (k : Nat) : (Yf (l.take k) tx).length ≤ l.length:=Nat.le_trans (Zdz _ _) (List.length_take_le' _ _)
theorem Zav {l : List HRow} (h : ∀ r ∈ l,ZC r.r.d = true) (tx : Int) : ∀ s ∈ Yf l tx,ZC s = true:=fun s hs=>by
 obtain ⟨r,hr,rfl⟩:=List.mem_map.1 hs
 exact h r (List.mem_filter.1 hr).1
theorem ZaM (l : List HRow) (tx : Int) : (Z1 l tx).length ≤ l.length:=Nat.le_trans Zb9 (Zdz _ _)
theorem Zly (l : List HRow) (r : HRow) : YZ (l ++ [r]) = Zej (YZ l) r.v:=by simp [YZ,List.foldl_append]
theorem ZcB : ∀ (n : Nat) (l : List HRow),l.length = n → ZbM (YZ l) ∧ (∀ v,v ∈ YZ l ↔ ∃ r ∈ l,r.v = v) ∧ (YZ l).length ≤ l.length
 | 0,l,h=>by
  obtain rfl:=List.length_eq_zero_iff.1 h
  exact ⟨List.Pairwise.nil,fun v=>by simp [YZ],Nat.le_refl _⟩
 | n + 1,l,h=>by
  obtain ⟨m,r,rfl⟩ : ∃ m r,l = m ++ [r]:=⟨l.dropLast,l.getLast (by intro e; simp [e] at h),(List.dropLast_concat_getLast _).symm⟩
  obtain ⟨h1,h2,h3⟩:=ZcB n m (by simpa using h)
  rw [Zly]
  refine ⟨Zot h1,fun v=>?_,?_⟩
  ·rw [Zos,h2]
   constructor
   ·rintro (⟨x,hx,rfl⟩ | rfl)
    ·exact ⟨x,by simp [hx],rfl⟩
    ·exact ⟨r,by simp,rfl⟩
   ·rintro ⟨x,hx,rfl⟩
    rcases List.mem_append.1 hx with hx | hx
    ·exact .inl ⟨x,hx,rfl⟩
    ·rw [List.mem_singleton.1 hx]; exact .inr rfl
  ·have:=Zor (YZ m) r.v; rw [List.length_append]; simp only [List.length_singleton]; omega
theorem Qj (l : List HRow) : ZbM (YZ l):=(ZcB _ l rfl).1
theorem Qk {l : List HRow} {v : List Val} : v ∈ YZ l ↔ ∃ r ∈ l,r.v = v:=(ZcB _ l rfl).2.1 v
theorem Zms (l : List HRow) : (YZ l).length ≤ l.length:=(ZcB _ l rfl).2.2
def ZcT (out : List HGrp) (v : List Val) : Option Nat:=out.findIdx? fun g=>decide (g.v = v)
def Zbn (out : List HGrp) (i : Nat) (r : HRow) : List HGrp:=match out[i]? with
 | some g=>out.set i ⟨g.v,g.t ++ [r]⟩
 | none=>out
def ZcC (out : List HGrp) (r : HRow) : List HGrp:=match ZcT out r.v with
 | some i=>Zbn out i r
 | none=>out ++ [⟨r.v,[r]⟩]
def hgroups (l : List HRow) : List HGrp:=l.foldl ZcC []
structure HInv (l : List HRow) (out : List HGrp) : Prop where
 nd : (out.map HGrp.v).Nodup
 rows : ∀ g ∈ out,g.t = YI l g.v
 mem : ∀ v,v ∈ out.map HGrp.v ↔ ∃ r ∈ l,r.v = v
theorem Zel (l : List HRow) (r : HRow) : hgroups (l ++ [r]) = ZcC (hgroups l) r:=by simp [hgroups,List.foldl_append]
theorem Zcq {l : List HRow} {k : Nat} {r : HRow} (h : l[k]? = some r) : hgroups (l.take (k + 1)) = ZcC (hgroups (l.take k)) r:=by
 rw [List.take_add_one,h]; exact Zel _ _
theorem Zhy {out : List HGrp} {v : List Val} {i : Nat} (h : ZcT out v = some i) : ∃ g,out[i]? = some g ∧ g.v = v:=by
 unfold ZcT at h
 rw [List.findIdx?_eq_some_iff_getElem] at h
 obtain ⟨hl,h1,_⟩:=h
 exact ⟨out[i],List.getElem?_eq_getElem hl,by simpa using h1⟩
theorem Zmt {out : List HGrp} {v : List Val} (h : ZcT out v = none) : v ∉ out.map HGrp.v:=by
 unfold ZcT at h
 rw [List.findIdx?_eq_none_iff] at h
 intro hv
 obtain ⟨g,hg,rfl⟩:=List.mem_map.1 hv
 simpa using h g hg
theorem ZgV {out : List HGrp} {i : Nat} {g : HGrp} (r : HRow) (h : out[i]? = some g) : Zbn out i r = out.set i ⟨g.v,g.t ++ [r]⟩:=by unfold Zbn; rw [h]
theorem Zem {out : List HGrp} {i : Nat} {r : HRow} : (Zbn out i r).map HGrp.v = out.map HGrp.v:=by
 unfold Zbn
 split
 ·rename_i g hg
  rw [List.map_set]
  apply List.ext_getElem?
  intro j
  rw [List.getElem?_set]
  split
  ·rename_i hj; subst hj
   rw [List.getElem?_map,hg,List.length_map]
   rw [if_pos (List.getElem?_eq_some_iff.1 hg).1]; rfl
  ·rfl
 ·rfl
theorem Zd0 (l : List HRow) (r : HRow) (v : List Val) : YI (l ++ [r]) v = YI l v ++ if r.v = v then [r] else []:=by
 unfold YI; rw [List.filter_append]; congr 1
 by_cases h : r.v = v <;> simp [h]
theorem Zfm : ∀ (n : Nat) (l : List HRow),l.length = n → HInv l (hgroups l)
 | 0,l,h=>by
  obtain rfl:=List.length_eq_zero_iff.1 h
  exact ⟨by simp [hgroups],fun g hg=>by simp [hgroups] at hg,fun v=>by simp [hgroups]⟩
 | n + 1,l,h=>by
  obtain ⟨m,r,rfl⟩ : ∃ m r,l = m ++ [r]:=⟨l.dropLast,l.getLast (by intro e; simp [e] at h),(List.dropLast_concat_getLast _).symm⟩
  obtain ⟨h1,h2,h3⟩:=Zfm n m (by simpa using h)
  rw [Zel]
  unfold ZcC
  cases hi : ZcT (hgroups m) r.v with
  | some i=>
   obtain ⟨g,hg,hgv⟩:=Zhy hi
   simp only
   refine ⟨by rw [Zem]; exact h1,fun x hx=>?_,fun v=>?_⟩
   ·rw [ZgV r hg] at hx
    obtain ⟨j,hj⟩:=List.getElem?_of_mem hx
    rw [List.getElem?_set] at hj
    split at hj
    ·rename_i hij; subst hij
     split at hj
     ·obtain rfl:=Option.some.inj hj
      simp only
      rw [Zd0,if_pos hgv.symm,h2 g (List.mem_of_getElem? hg)]
     ·cases hj
    ·rename_i hij
     rw [Zd0,if_neg,h2 x (List.mem_of_getElem? hj),List.append_nil]
     intro e
     have a1 : (hgroups m |>.map HGrp.v)[i]? = some r.v:=by rw [List.getElem?_map,hg]; simp [hgv]
     have a2 : (hgroups m |>.map HGrp.v)[j]? = some r.v:=by rw [List.getElem?_map,hj]; simp [e]
     have b1:=(List.getElem?_eq_some_iff.1 a1).1
     exact hij ((List.getElem?_inj b1 h1).1 (a1.trans a2.symm))
   ·rw [Zem,h3]
    constructor
    ·rintro ⟨x,hx,rfl⟩; exact ⟨x,by simp [hx],rfl⟩
    ·rintro ⟨x,hx,rfl⟩
     rcases List.mem_append.1 hx with hx | hx
     ·exact ⟨x,hx,rfl⟩
     ·rw [List.mem_singleton.1 hx,← h3,← hgv]; exact List.mem_map.2 ⟨g,List.mem_of_getElem? hg,rfl⟩
  | none=>
   have hn:=Zmt hi
   simp only
   refine ⟨?_,fun x hx=>?_,fun v=>?_⟩
   ·rw [List.map_append,List.nodup_append]
    refine ⟨h1,by simp,fun a ha b hb=>?_⟩
    simp at hb; subst hb
    exact fun e=>hn (e ▸ ha)
   ·rcases List.mem_append.1 hx with hx | hx
    ·rw [Zd0,if_neg,h2 x hx,List.append_nil]
     exact fun e=>hn (e ▸ List.mem_map.2 ⟨x,hx,rfl⟩)
    ·rw [List.mem_singleton.1 hx]
     simp only
     rw [Zd0,if_pos rfl]
     have : YI m r.v = []:=by
      unfold YI
      rw [List.filter_eq_nil_iff]
      intro y hy
      simp only [decide_eq_true_eq]
      exact fun e=>hn ((h3 _).2 ⟨y,hy,e⟩)
     rw [this]; rfl
   ·rw [List.map_append,List.mem_append,h3]
    constructor
    ·rintro (⟨x,hx,rfl⟩ | hv)
     ·exact ⟨x,by simp [hx],rfl⟩
     ·simp at hv; subst hv; exact ⟨r,by simp,rfl⟩
    ·rintro ⟨x,hx,rfl⟩
     rcases List.mem_append.1 hx with hx | hx
     ·exact .inl ⟨x,hx,rfl⟩
     ·rw [List.mem_singleton.1 hx]; exact .inr (by simp)
theorem ZbW (l : List HRow) : HInv l (hgroups l):=Zfm _ l rfl
theorem Zmu (out : List HGrp) (r : HRow) : (ZcC out r).length ≤ out.length + 1:=by
 unfold ZcC
 cases ZcT out r.v with
 | none=>simp
 | some i=>simp only; unfold Zbn; split <;> simp
theorem ZcU (l : List HRow) : ∀ k,(hgroups (l.take k)).length ≤ k
 | 0=>by simp [hgroups]
 | k + 1=>by
  have h:=ZcU l k
  cases e : l[k]? with
  | none=>rw [List.take_add_one,e]; simpa using Nat.le_succ_of_le h
  | some r=>rw [Zcq e]; exact Nat.le_trans (Zmu _ _) (by omega)
theorem Zqu {l : List HRow} {s : List HGrp} (hg : ∀ r ∈ l,r.v.all Z9 = true) (hp : s.Perm (hgroups l)) (hs : s.Pairwise fun x y=>¬ YU y.v x.v < 0) : s = ZT l:=by
 have I:=ZbW l
 have hv : ∀ g ∈ s,g.v.all Z9 = true:=fun g h=>by
  obtain ⟨r,hr,e⟩:=(I.mem g.v).1 (List.mem_map.2 ⟨g,hp.mem_iff.1 h,rfl⟩)
  rw [← e]; exact hg r hr
 have nd : (s.map HGrp.v).Nodup:=(hp.map HGrp.v).nodup_iff.2 I.nd
 have e1 : s.map HGrp.v = YZ l:=by
  refine ZbG ord ?_ (Qj l) fun v=>?_
  ·rw [List.pairwise_map]
   have nd2 : s.Pairwise fun x y=>x.v ≠ y.v:=by
    unfold List.Nodup at nd; rw [List.pairwise_map] at nd; exact nd
   refine List.Pairwise.imp_of_mem ?_ (List.Pairwise.and hs nd2)
   intro x y hx hy h
   rw [XE (hv y hy) (hv x hx)] at h
   rcases Int.lt_or_le (Yi cmpV x.v y.v) 0 with k | k
   ·exact k
   ·exfalso
    by_cases e : Yi cmpV x.v y.v = 0
    ·exact h.2 ((ord.eq _ _).1 e)
    ·exact h.1 ((ord.swap _ _).2 (by omega))
  ·rw [(hp.map HGrp.v).mem_iff,I.mem,Qk]
 unfold ZT
 rw [← e1,List.map_map]
 symm
 have : ∀ g ∈ s,((fun v=>(⟨v,YI l v⟩ : HGrp)) ∘ HGrp.v) g = g:=fun g h=>by
  have:=I.rows g (hp.mem_iff.1 h)
  simp only [Function.comp]
  rw [← this]
 rw [List.map_congr_left this,List.map_id']
structure NS where
 out : List HRow
 now : List Span
 fr : Int
def Xd (v : List Val) (now : List Span) (a b : Int) : List HRow:=now.map fun s=>⟨v,⟨s,⟨a,b⟩⟩⟩
def Zai (v : List Val) (f : Int → List Span) (s : NS) (c : Int) : NS:=if s.now = f c then s else ⟨s.out ++ Xd v s.now s.fr c,f c,c⟩
def YF (v : List Val) (f : Int → List Span) (cs : List Int) : NS:=cs.foldl (Zai v f) ⟨[],[],0⟩
def Yc (l : List HRow) : List Int:=XV (l.map fun r=>r.r.x)
def Zd1 (g : HGrp) : List HRow:=(YF g.v (Z1 g.t) (Yc g.t)).out
def ZO (l : List HRow) : List HRow:=(ZT l).flatMap Zd1
def Zjd (l : List HRow) (v : List Val) (tx : Int) : List Span:=(l.filter fun r=>Y6 tx r && decide (r.v = v)).map fun r=>r.r.d
def Zbo (l : List HRow) (v : List Val) (tx : Int) : List Span:=Yb 1 (Zjd l v tx) []
def Zje (l : List HRow) : List HRow:=(YZ l).flatMap fun v=>(YF v (Zbo l v) (Yc l)).out
theorem Zhz {v : List Val} {f : Int → List Span} {cs : List Int} {k : Nat} {c : Int} (h : cs[k]? = some c) : YF v f (cs.take (k + 1)) = Zai v f (YF v f (cs.take k)) c:=by
 rw [List.take_add_one,h]; simp [YF,List.foldl_append]
theorem ZbX {v : List Val} {f : Int → List Span} {s : NS} {c : Int} (h : s.now = f c) : Zai v f s c = s:=by unfold Zai; rw [if_pos h]
theorem Zen {v : List Val} {f : Int → List Span} {s : NS} {c : Int} (h : s.now ≠ f c) : Zai v f s c = ⟨s.out ++ Xd v s.now s.fr c,f c,c⟩:=by unfold Zai; rw [if_neg h]
theorem Zmv (l : List HRow) (v : List Val) (tx : Int) : Zjd l v tx = Yf (YI l v) tx:=by
 unfold Zjd Yf YI; rw [List.filter_filter]
theorem ZA.d {l : List HRow} (h : ZA l) : ∀ r ∈ l,ZC r.r.d = true:=fun r hr=>(ZU (h r hr)).2.1
theorem ZA.of {l : List HRow} (h : ZA l) (v : List Val) : ZA (YI l v):=fun r hr=>h r (List.mem_filter.1 hr).1
theorem ZbA {l : List HRow} (h : ZA l) (v : List Val) (tx : Int) : Zbo l v tx = Z1 (YI l v) tx:=by
 unfold Zbo Z1
 rw [Zmv]
 exact ZjV fun s hs=>Yp (Zav (h.of v).d tx s hs)
theorem ZeV {v : List Val} {f : Int → List Span} : ∀ (E C : List Int) (s : NS),E.Pairwise (· < ·) → C.Pairwise (· < ·) → (∀ c ∈ C,c ∈ E) →
  (∀ e ∈ E,(∀ c ∈ C,e < c) → f e = s.now) → (∀ c ∈ C,∀ e ∈ E,c ≤ e → (∀ c' ∈ C,c < c' → e < c') → f e = f c) → E.foldl (Zai v f) s = C.foldl (Zai v f) s
 | [],[],s,_,_,_,_,_=>rfl
 | [],c :: C,s,_,_,h,_,_=>absurd (h c (by simp)) (by simp)
 | e :: E,C,s,hE,hC,hs,h0,hc=>by
  obtain ⟨hE1,hE2⟩:=List.pairwise_cons.1 hE
  rw [List.foldl_cons]
  by_cases he : e ∈ C
  ·cases C with
   | nil=>cases he
   | cons c C=>
    obtain ⟨hC1,hC2⟩:=List.pairwise_cons.1 hC
    have ec : e = c:=by
     rcases List.mem_cons.1 he with h | h
     ·exact h
     ·have a:=hC1 e h
      rcases List.mem_cons.1 (hs c (by simp)) with h' | h'
      ·exact h'.symm
      ·have:=hE1 c h'; omega
    subst ec
    rw [List.foldl_cons]
    refine ZeV E C _ hE2 hC2 (fun c hcC=>?_) (fun x hx hxC=>?_) (fun c hcC x hx hle hno=>?_)
    ·rcases List.mem_cons.1 (hs c (by simp [hcC])) with h' | h'
     ·have:=hC1 c hcC; omega
     ·exact h'
    ·have hxe:=hE1 x hx
     have e1 : f x = f e:=hc e (by simp) x (by simp [hx]) (by omega) (fun c' hc' hlt=>by
      rcases List.mem_cons.1 hc' with h' | h'
      ·omega
      ·exact hxC c' h')
     rw [e1]
     unfold Zai
     split
     ·rename_i hn; exact hn.symm
     ·rfl
    ·exact hc c (by simp [hcC]) x (by simp [hx]) hle (fun c' hc' hlt=>by
      rcases List.mem_cons.1 hc' with h' | h'
      ·subst h'; have:=hC1 c hcC; omega
      ·exact hno c' h' hlt)
  ·have hlt : ∀ c ∈ C,e < c:=fun c hcC=>by
    rcases List.mem_cons.1 (hs c hcC) with h' | h'
    ·exact absurd (h' ▸ hcC) he
    ·exact hE1 c h'
   rw [ZbX (h0 e (by simp) hlt).symm]
   refine ZeV E C s hE2 hC (fun c hcC=>?_) (fun x hx hxC=>h0 x (by simp [hx]) hxC) (fun c hcC x hx=>hc c hcC x (by simp [hx]))
   rcases List.mem_cons.1 (hs c hcC) with h' | h'
   ·exact absurd (h' ▸ hcC) he
   ·exact h'
theorem Xi {l : List HRow} {y : Int} : y ∈ Yc l ↔ ∃ r ∈ l,y = r.r.x.a ∨ y = r.r.x.b:=by
 unfold Yc; rw [Zei]
 constructor
 ·rintro ⟨s,hs,h⟩; obtain ⟨r,hr,rfl⟩:=List.mem_map.1 hs; exact ⟨r,hr,h⟩
 ·rintro ⟨r,hr,h⟩; exact ⟨r.r.x,List.mem_map.2 ⟨r,hr,rfl⟩,h⟩
theorem Q4 (l : List HRow) : (Yc l).Pairwise (· < ·):=Zhu _
theorem Zh0 (l : List HRow) : (Yc l).length ≤ 2 * l.length:=by have:=Zhv (l.map fun r=>r.r.x); rw [List.length_map] at this; exact this
theorem Zeo {l : List HRow} {x y : Int} (hxy : x ≤ y) (h : ∀ c ∈ Yc l,x < c → y < c) : Yf l y = Yf l x:=by
 unfold Yf
 have : ∀ r ∈ l,Y6 y r = Y6 x r:=fun r hr=>by
  have ha:=h r.r.x.a (Xi.2 ⟨r,hr, .inl rfl⟩)
  have hb:=h r.r.x.b (Xi.2 ⟨r,hr, .inr rfl⟩)
  unfold Y6
  have e1 : decide (r.r.x.a ≤ y) = decide (r.r.x.a ≤ x):=decide_eq_decide.2 ⟨fun q=>by omega,fun q=>by omega⟩
  have e2 : decide (y < r.r.x.b) = decide (x < r.r.x.b):=decide_eq_decide.2 ⟨fun q=>by omega,fun q=>by omega⟩
  rw [e1,e2]
 rw [List.filter_congr this]
theorem Zaj : XD [] = []:=by simp [XD,ZfX,ZZ]
theorem ZbB {l : List HRow} {x : Int} (hg : ZA l) (h : ∀ c ∈ Yc l,x < c) : Yf l x = []:=by
 unfold Yf
 have : l.filter (Y6 x) = []:=by
  rw [List.filter_eq_nil_iff]
  intro r hr hl
  have ha:=h r.r.x.a (Xi.2 ⟨r,hr, .inl rfl⟩)
  unfold Y6 at hl
  simp at hl; omega
 rw [this]; rfl
theorem Zdb {l : List HRow} (hg : ZA l) : ZO l = Zje l:=by
 unfold ZO Zje ZT
 rw [List.flatMap_map]
 congr 1
 funext v
 unfold Zd1
 simp only
 have ef : Zbo l v = Z1 (YI l v):=funext fun tx=>ZbA hg v tx
 rw [ef]
 congr 1
 symm
 refine ZeV _ _ _ (Q4 l) (Q4 _) (fun c hc=>?_) (fun e he h=>?_) (fun c hc e he hle h=>?_)
 ·obtain ⟨r,hr,h⟩:=Xi.1 hc
  exact Xi.2 ⟨r,(List.mem_filter.1 hr).1,h⟩
 ·unfold Z1; rw [ZbB (hg.of v) h]; exact Zaj
 ·unfold Z1; rw [Zeo hle h]
end Go.Civ
