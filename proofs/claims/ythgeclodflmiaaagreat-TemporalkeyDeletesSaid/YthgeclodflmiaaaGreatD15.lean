/- Lemmas. -/
import Derived.Test.YthgeclodflmiaaaGreatD08
import Derived.Test.YthgeclodflmiaaaGreatD11
import Derived.Test.YthgeclodflmiaaaGreatD12
import Derived.Test.YthgeclodflmiaaaGreatD13
import Derived.Test.YthgeclodflmiaaaGreatD14
import Derived.Test.YthgeclodflmiaaaGreatRows
import Derived.Shelf.Slices.CompactI
import Derived.Ground.Names2Prog
import Derived.Test.YthgeclodflmiaaaGreatProg
import Derived.KernelRfl
import Derived.WalkKit
set_option linter.unusedVariables false
namespace Go.Civ
open Go.Proofs
section
variable {H : Type} {enc : TypeId × Value → H} {w : World}
theorem ZlS : Xn enc Tryz.prog w 33 SpanE:=Zcn (g:=fun p=>⟨p.1,p.2⟩) (fun _=>rfl) Tryz.underlying33 rfl (by kernel_rfl) rfl (by kernel_rfl) (by kernel_rfl) (ZaB Tryz.underlying3) (ZaB Tryz.underlying3)
theorem Zur : Xn enc Tryz.prog w 58 ValE:=Zhl (g:=fun p=>⟨p.1,p.2.1,p.2.2⟩) (fun _=>rfl) Tryz.underlying58 rfl (by kernel_rfl) rfl (by kernel_rfl) rfl (by kernel_rfl) (by kernel_rfl) (ZaB Tryz.underlying3) (ZaB Tryz.underlying3) (Zbl Tryz.underlying9)
theorem ZwK : Xn enc Tryz.prog w 31 (ValE.slice 32):=ZaV Tryz.underlying31 (by kernel_rfl) (by decide) (by kernel_rfl) (by decide) Zur
theorem ZwL : Xn enc Tryz.prog w 35 RectE:=Zcn (g:=fun p=>⟨p.1,p.2⟩) (fun _=>rfl) Tryz.underlying35 rfl (by kernel_rfl) rfl (by kernel_rfl) (by kernel_rfl) ZlS ZlS
theorem Zyz : Xn enc Tryz.prog w 37 HRowE:=Zcn (g:=fun p=>⟨p.1,p.2⟩) (fun _=>rfl) Tryz.underlying37 rfl (by kernel_rfl) rfl (by kernel_rfl) (by kernel_rfl) ZwK ZwL
theorem ZwM : Xn enc Tryz.prog w 26 (HRowE.slice 56):=ZaV Tryz.underlying26 (by kernel_rfl) (by decide) (by kernel_rfl) (by decide) Zyz
theorem Zy0 : Xn enc Tryz.prog w 130 ColE:=Zcn (g:=fun p=>⟨p.1,p.2⟩) (fun _=>rfl) Tryz.underlying130 rfl (by kernel_rfl) rfl (by kernel_rfl) (by kernel_rfl) (Zbl Tryz.underlying9) (ZaB Tryz.underlying3)
theorem ZwN : Xn enc Tryz.prog w 22 (ColE.slice 24):=ZaV Tryz.underlying22 (by kernel_rfl) (by decide) (by kernel_rfl) (by decide) Zy0
theorem ZwO : Xn enc Tryz.prog w 48 (Enc.str.slice 16):=ZaV Tryz.underlying48 (by kernel_rfl) (by decide) (by kernel_rfl) (by decide) (Zbl Tryz.underlying9)
theorem Zqi : Xn enc Tryz.prog w 50 ForeignE:=Zcn (g:=fun p=>⟨p.1,p.2⟩) (fun _=>rfl) Tryz.underlying50 rfl (by kernel_rfl) rfl (by kernel_rfl) (by kernel_rfl) ZwO (Zbl Tryz.underlying9)
theorem Zo9 : Xn enc Tryz.prog w 23 (ForeignE.slice 40):=ZaV Tryz.underlying23 (by kernel_rfl) (by decide) (by kernel_rfl) (by decide) Zqi
theorem Zsx : Xn enc Tryz.prog w 25 SchemaE:=Zo8 (g:=fun p=>⟨p.1,p.2.1,p.2.2.1,p.2.2.2⟩) (fun _=>rfl) Tryz.underlying25 rfl (by kernel_rfl) rfl (by kernel_rfl) rfl (by kernel_rfl) rfl (by kernel_rfl) (by kernel_rfl) (Zbl Tryz.underlying9) ZwN (ZaB Tryz.underlying3) Zo9
theorem ZnB : Xn enc Tryz.prog w 28 TableE:=Zhl (g:=fun p=>⟨p.1,p.2.1,p.2.2⟩) (fun _=>rfl) Tryz.underlying28 rfl (by kernel_rfl) rfl (by kernel_rfl) rfl (by kernel_rfl) (by kernel_rfl) Zsx ZwM (ZaB Tryz.underlying3)
theorem Zsy : Xn enc Tryz.prog w 77 (TableE.slice 104):=ZaV Tryz.underlying77 (by kernel_rfl) (by decide) (by kernel_rfl) (by decide) ZnB
theorem ZwP : ∀ N,ZfW (fun d=>SizeOf.sizeOf d ≤ N) enc Tryz.prog w 87 (YQ N):=
 Zio Tryz.underlying87 ⟨rfl,rfl,rfl,rfl,rfl⟩ Tryz.underlying3 Tryz.underlying9 Tryz.underlying9 Zur Tryz.underlying85 ⟨by kernel_rfl,by kernel_rfl,by kernel_rfl,by kernel_rfl,by kernel_rfl⟩ (by kernel_rfl) (by kernel_rfl)
end
theorem ZzM : ownKnob Tryz.prog.godebug = none:=by kernel_rfl
theorem Zfi : laidOutB Tryz.prog = true:=by kernel_rfl
end Go.Civ
namespace Go.Civ
open Go.RowKit
set_option linter.unusedVariables false
structure HGrp where
 v : List Val
 t : List HRow
def Zcy : Enc HGrp:=(Enc.pair (ValE.slice 32) (HRowE.slice 56)).via fun x=>(x.v,x.t)
theorem ZaL {G : GH} {x : HGrp} {cs : List Value} (h : Zcy.rep G x cs) : ∃ v u,cs = [v,u] ∧ Sl ValE 32 G v x.v ∧ Sl HRowE 56 G u x.t:=by
 obtain ⟨c1,c2,rfl,⟨v,rfl,h1⟩,u,rfl,h2⟩:=h
 exact ⟨v,u,rfl,h1,h2⟩
theorem Zfr {G : GH} (x : HGrp) {v u : Value} (h1 : Sl ValE 32 G v x.v) (h2 : Sl HRowE 56 G u x.t) : Zcy.rep G x [v,u]:=⟨[v],[u],rfl,⟨v,rfl,h1⟩,u,rfl,h2⟩
def Xv (tx : Int) (r : HRow) : Bool:=decide (r.r.x.a ≤ tx) && decide (tx < r.r.x.b)
def Y7 (l : List HRow) (tx : Int) : List Span:=(l.filter (Xv tx)).map fun r=>r.r.d
def ZH (l : List HRow) (tx : Int) : List Span:=Zai (Y7 l tx)
def YA (r : HRow) : Bool:=r.v.all Z4 && ZN r.r.d && ZN r.r.x
def Z8 (l : List HRow) : Prop:=∀ r ∈ l,YA r = true
def XS (l : List HRow) (v : List Val) : List HRow:=l.filter fun r=>decide (r.v = v)
def X0 (l : List HRow) : VV:=l.foldl (fun out r=>Zbo out r.v) []
def Yx (l : List HRow) : List HGrp:=(X0 l).map fun v=>⟨v,XS l v⟩
theorem Yk {r : HRow} (h : YA r = true) : r.v.all Z4 = true ∧ ZN r.r.d = true ∧ ZN r.r.x = true:=by
 unfold YA at h; simp only [Bool.and_eq_true] at h; exact ⟨h.1.1,h.1.2,h.2⟩
theorem Ze6 {l : List HRow} {k : Nat} {x : HRow} {tx : Int} (h : l[k]? = some x) : Y7 (l.take (k + 1)) tx = Y7 (l.take k) tx ++ if Xv tx x then [x.r.d] else []:=by
 rw [List.take_add_one,h]; unfold Y7; rw [List.filter_append,List.map_append]; congr 1
 simp only [Option.toList]; cases hb : Xv tx x <;> simp [hb]
theorem Zfs (l : List HRow) (tx : Int) : (Y7 l tx).length ≤ l.length:=by
 unfold Y7; rw [List.length_map]; exact List.length_filter_le _ _
theorem Zjs (l : List HRow) (tx : Int) (k : Nat) : (Y7 (l.take k) tx).length ≤ l.length:=Nat.le_trans (Zfs _ _) (List.length_take_le' _ _)
theorem ZbP {l : List HRow} (h : ∀ r ∈ l,ZN r.r.d = true) (tx : Int) : ∀ s ∈ Y7 l tx,ZN s = true:=fun s hs=>by
 obtain ⟨r,hr,rfl⟩:=List.mem_map.1 hs
 exact h r (List.mem_filter.1 hr).1
theorem Zd2 (l : List HRow) (tx : Int) : (ZH l tx).length ≤ l.length:=Nat.le_trans Zgb (Zfs _ _)
theorem Zi4 (l : List HRow) (r : HRow) : X0 (l ++ [r]) = Zbo (X0 l) r.v:=by simp [X0,List.foldl_append]
theorem Zb3 {l : List HRow} {k : Nat} {r : HRow} (h : l[k]? = some r) : X0 (l.take (k + 1)) = Zbo (X0 (l.take k)) r.v:=by
 rw [List.take_add_one,h]; exact Zi4 _ _
theorem Zej : ∀ (n : Nat) (l : List HRow),l.length = n → ZaK (X0 l) ∧ (∀ v,v ∈ X0 l ↔ ∃ r ∈ l,r.v = v) ∧ (X0 l).length ≤ l.length
 | 0,l,h=>by
  obtain rfl:=List.length_eq_zero_iff.1 h
  exact ⟨List.Pairwise.nil,fun v=>by simp [X0],Nat.le_refl _⟩
 | n + 1,l,h=>by
  obtain ⟨m,r,rfl⟩ : ∃ m r,l = m ++ [r]:=⟨l.dropLast,l.getLast (by intro e; simp [e] at h),(List.dropLast_concat_getLast _).symm⟩
  obtain ⟨h1,h2,h3⟩:=Zej n m (by simpa using h)
  rw [Zi4]
  refine ⟨ZsQ h1,fun v=>?_,?_⟩
  ·rw [ZsP,h2]
   constructor
   ·rintro (⟨x,hx,rfl⟩ | rfl)
    ·exact ⟨x,by simp [hx],rfl⟩
    ·exact ⟨r,by simp,rfl⟩
   ·rintro ⟨x,hx,rfl⟩
    rcases List.mem_append.1 hx with hx | hx
    ·exact .inl ⟨x,hx,rfl⟩
    ·rw [List.mem_singleton.1 hx]; exact .inr rfl
  ·have:=ZsO (X0 m) r.v; rw [List.length_append]; simp only [List.length_singleton]; omega
theorem Zaj (l : List HRow) : ZaK (X0 l):=(Zej _ l rfl).1
theorem Zbp {l : List HRow} {v : List Val} : v ∈ X0 l ↔ ∃ r ∈ l,r.v = v:=(Zej _ l rfl).2.1 v
theorem ZjY (l : List HRow) : (X0 l).length ≤ l.length:=(Zej _ l rfl).2.2
theorem ZkO (l : List HRow) (k : Nat) : (X0 (l.take k)).length ≤ l.length:=Nat.le_trans (ZjY _) (List.length_take_le' _ _)
def Ze7 (out : List HGrp) (v : List Val) : Option Nat:=out.findIdx? fun g=>decide (g.v = v)
def ZcN (out : List HGrp) (i : Nat) (r : HRow) : List HGrp:=match out[i]? with
 | some g=>out.set i ⟨g.v,g.t ++ [r]⟩
 | none=>out
def Zek (out : List HGrp) (r : HRow) : List HGrp:=match Ze7 out r.v with
 | some i=>ZcN out i r
 | none=>out ++ [⟨r.v,[r]⟩]
def hgroups (l : List HRow) : List HGrp:=l.foldl Zek []
structure HInv (l : List HRow) (out : List HGrp) : Prop where
 nd : (out.map HGrp.v).Nodup
 rows : ∀ g ∈ out,g.t = XS l g.v
 mem : ∀ v,v ∈ out.map HGrp.v ↔ ∃ r ∈ l,r.v = v
theorem Zgj (l : List HRow) (r : HRow) : hgroups (l ++ [r]) = Zek (hgroups l) r:=by simp [hgroups,List.foldl_append]
theorem ZdR {l : List HRow} {k : Nat} {r : HRow} (h : l[k]? = some r) : hgroups (l.take (k + 1)) = Zek (hgroups (l.take k)) r:=by
 rw [List.take_add_one,h]; exact Zgj _ _
theorem ZjZ {out : List HGrp} {v : List Val} {i : Nat} (h : Ze7 out v = some i) : ∃ g,out[i]? = some g ∧ g.v = v:=by
 unfold Ze7 at h
 rw [List.findIdx?_eq_some_iff_getElem] at h
 obtain ⟨hl,h1,_⟩:=h
 exact ⟨out[i],List.getElem?_eq_getElem hl,by simpa using h1⟩
theorem Zqn {out : List HGrp} {v : List Val} (h : Ze7 out v = none) : v ∉ out.map HGrp.v:=by
 unfold Ze7 at h
 rw [List.findIdx?_eq_none_iff] at h
 intro hv
 obtain ⟨g,hg,rfl⟩:=List.mem_map.1 hv
 simpa using h g hg
theorem Zjt {out : List HGrp} {i : Nat} {g : HGrp} (r : HRow) (h : out[i]? = some g) : ZcN out i r = out.set i ⟨g.v,g.t ++ [r]⟩:=by unfold ZcN; rw [h]
theorem Zgk {out : List HGrp} {i : Nat} {r : HRow} : (ZcN out i r).map HGrp.v = out.map HGrp.v:=by
 unfold ZcN
 split
 ·rename_i g hg
  rw [List.map_set]
  apply List.ext_getElem?
  intro j
  rw [List.getElem?_set]
  split
  ·rename_i hj; subst hj
   rw [List.getElem?_map,hg,List.length_map]
   rw [if_pos (List.getElem?_eq_some_iff.1 hg).1]; rfl
  ·rfl
 ·rfl
theorem Zft (l : List HRow) (r : HRow) (v : List Val) : XS (l ++ [r]) v = XS l v ++ if r.v = v then [r] else []:=by
 unfold XS; rw [List.filter_append]; congr 1
 by_cases h : r.v = v <;> simp [h]
theorem Zhr : ∀ (n : Nat) (l : List HRow),l.length = n → HInv l (hgroups l)
 | 0,l,h=>by
  obtain rfl:=List.length_eq_zero_iff.1 h
  exact ⟨by simp [hgroups],fun g hg=>by simp [hgroups] at hg,fun v=>by simp [hgroups]⟩
 | n + 1,l,h=>by
  obtain ⟨m,r,rfl⟩ : ∃ m r,l = m ++ [r]:=⟨l.dropLast,l.getLast (by intro e; simp [e] at h),(List.dropLast_concat_getLast _).symm⟩
  obtain ⟨h1,h2,h3⟩:=Zhr n m (by simpa using h)
  rw [Zgj]
  unfold Zek
  cases hi : Ze7 (hgroups m) r.v with
  | some i=>
   obtain ⟨g,hg,hgv⟩:=ZjZ hi
   simp only
   refine ⟨by rw [Zgk]; exact h1,fun x hx=>?_,fun v=>?_⟩
   ·rw [Zjt r hg] at hx
    obtain ⟨j,hj⟩:=List.getElem?_of_mem hx
    rw [List.getElem?_set] at hj
    split at hj
    ·rename_i hij; subst hij
     split at hj
     ·obtain rfl:=Option.some.inj hj
      simp only
      rw [Zft,if_pos hgv.symm,h2 g (List.mem_of_getElem? hg)]
     ·cases hj
    ·rename_i hij
     rw [Zft,if_neg,h2 x (List.mem_of_getElem? hj),List.append_nil]
     intro e
     have a1 : (hgroups m |>.map HGrp.v)[i]? = some r.v:=by rw [List.getElem?_map,hg]; simp [hgv]
     have a2 : (hgroups m |>.map HGrp.v)[j]? = some r.v:=by rw [List.getElem?_map,hj]; simp [e]
     have b1:=(List.getElem?_eq_some_iff.1 a1).1
     exact hij ((List.getElem?_inj b1 h1).1 (a1.trans a2.symm))
   ·rw [Zgk,h3]
    constructor
    ·rintro ⟨x,hx,rfl⟩; exact ⟨x,by simp [hx],rfl⟩
    ·rintro ⟨x,hx,rfl⟩
     rcases List.mem_append.1 hx with hx | hx
     ·exact ⟨x,hx,rfl⟩
     ·rw [List.mem_singleton.1 hx,← h3,← hgv]; exact List.mem_map.2 ⟨g,List.mem_of_getElem? hg,rfl⟩
  | none=>
   have hn:=Zqn hi
   simp only
   refine ⟨?_,fun x hx=>?_,fun v=>?_⟩
   ·rw [List.map_append,List.nodup_append]
    refine ⟨h1,by simp,fun a ha b hb=>?_⟩
    simp at hb; subst hb
    exact fun e=>hn (e ▸ ha)
   ·rcases List.mem_append.1 hx with hx | hx
    ·rw [Zft,if_neg,h2 x hx,List.append_nil]
     exact fun e=>hn (e ▸ List.mem_map.2 ⟨x,hx,rfl⟩)
    ·rw [List.mem_singleton.1 hx]
     simp only
     rw [Zft,if_pos rfl]
     have : XS m r.v = []:=by
      unfold XS
      rw [List.filter_eq_nil_iff]
      intro y hy
      simp only [decide_eq_true_eq]
      exact fun e=>hn ((h3 _).2 ⟨y,hy,e⟩)
     rw [this]; rfl
   ·rw [List.map_append,List.mem_append,h3]
    constructor
    ·rintro (⟨x,hx,rfl⟩ | hv)
     ·exact ⟨x,by simp [hx],rfl⟩
     ·simp at hv; subst hv; exact ⟨r,by simp,rfl⟩
    ·rintro ⟨x,hx,rfl⟩
     rcases List.mem_append.1 hx with hx | hx
     ·exact .inl ⟨x,hx,rfl⟩
     ·rw [List.mem_singleton.1 hx]; exact .inr (by simp)
theorem Zd3 (l : List HRow) : HInv l (hgroups l):=Zhr _ l rfl
theorem Zqo (out : List HGrp) (r : HRow) : (Zek out r).length ≤ out.length + 1:=by
 unfold Zek
 cases Ze7 out r.v with
 | none=>simp
 | some i=>simp only; unfold ZcN; split <;> simp
theorem Ze8 (l : List HRow) : ∀ k,(hgroups (l.take k)).length ≤ k
 | 0=>by simp [hgroups]
 | k + 1=>by
  have h:=Ze8 l k
  cases e : l[k]? with
  | none=>rw [List.take_add_one,e]; simpa using Nat.le_succ_of_le h
  | some r=>rw [ZdR e]; exact Nat.le_trans (Zqo _ _) (by omega)
theorem Zv3 {l : List HRow} {s : List HGrp} (hg : ∀ r ∈ l,r.v.all Z4 = true) (hp : s.Perm (hgroups l)) (hs : s.Pairwise fun x y=>¬ XL y.v x.v < 0) : s = Yx l:=by
 have I:=Zd3 l
 have hv : ∀ g ∈ s,g.v.all Z4 = true:=fun g h=>by
  obtain ⟨r,hr,e⟩:=(I.mem g.v).1 (List.mem_map.2 ⟨g,hp.mem_iff.1 h,rfl⟩)
  rw [← e]; exact hg r hr
 have nd : (s.map HGrp.v).Nodup:=(hp.map HGrp.v).nodup_iff.2 I.nd
 have e1 : s.map HGrp.v = X0 l:=by
  refine Zdq ord ?_ (Zaj l) fun v=>?_
  ·rw [List.pairwise_map]
   have nd2 : s.Pairwise fun x y=>x.v ≠ y.v:=by
    unfold List.Nodup at nd; rw [List.pairwise_map] at nd; exact nd
   refine List.Pairwise.imp_of_mem ?_ (List.Pairwise.and hs nd2)
   intro x y hx hy h
   rw [Q3 (hv y hy) (hv x hx)] at h
   rcases Int.lt_or_le (ZL cmpV x.v y.v) 0 with k | k
   ·exact k
   ·exfalso
    by_cases e : ZL cmpV x.v y.v = 0
    ·exact h.2 ((ord.eq _ _).1 e)
    ·exact h.1 ((ord.swap _ _).2 (by omega))
  ·rw [(hp.map HGrp.v).mem_iff,I.mem,Zbp]
 unfold Yx
 rw [← e1,List.map_map]
 symm
 have : ∀ g ∈ s,((fun v=>(⟨v,XS l v⟩ : HGrp)) ∘ HGrp.v) g = g:=fun g h=>by
  have:=I.rows g (hp.mem_iff.1 h)
  simp only [Function.comp]
  rw [← this]
 rw [List.map_congr_left this,List.map_id']
structure NS where
 out : List HRow
 now : List Span
 fr : Int
def X1 (v : List Val) (now : List Span) (a b : Int) : List HRow:=now.map fun s=>⟨v,⟨s,⟨a,b⟩⟩⟩
def Zb4 (v : List Val) (f : Int → List Span) (s : NS) (c : Int) : NS:=if s.now = f c then s else ⟨s.out ++ X1 v s.now s.fr c,f c,c⟩
def X2 (v : List Val) (f : Int → List Span) (cs : List Int) : NS:=cs.foldl (Zb4 v f) ⟨[],[],0⟩
def Y0 (l : List HRow) : List Int:=Zaa (l.map fun r=>r.r.x)
def Zfu (g : HGrp) : List HRow:=(X2 g.v (ZH g.t) (Y0 g.t)).out
def Yd (l : List HRow) : List HRow:=(Yx l).flatMap Zfu
def Zmg (l : List HRow) (v : List Val) (tx : Int) : List Span:=(l.filter fun r=>Xv tx r && decide (r.v = v)).map fun r=>r.r.d
def ZcO (l : List HRow) (v : List Val) (tx : Int) : List Span:=Yh 1 (Zmg l v tx) []
def Zmh (l : List HRow) : List HRow:=(X0 l).flatMap fun v=>(X2 v (ZcO l v) (Y0 l)).out
theorem Zka {v : List Val} {f : Int → List Span} {cs : List Int} {k : Nat} {c : Int} (h : cs[k]? = some c) : X2 v f (cs.take (k + 1)) = Zb4 v f (X2 v f (cs.take k)) c:=by
 rw [List.take_add_one,h]; simp [X2,List.foldl_append]
theorem Zd4 {v : List Val} {f : Int → List Span} {s : NS} {c : Int} (h : s.now = f c) : Zb4 v f s c = s:=by unfold Zb4; rw [if_pos h]
theorem Zgl {v : List Val} {f : Int → List Span} {s : NS} {c : Int} (h : s.now ≠ f c) : Zb4 v f s c = ⟨s.out ++ X1 v s.now s.fr c,f c,c⟩:=by unfold Zb4; rw [if_neg h]
theorem Zqp (l : List HRow) (v : List Val) (tx : Int) : Zmg l v tx = Y7 (XS l v) tx:=by
 unfold Zmg Y7 XS; rw [List.filter_filter]
theorem Z8.d {l : List HRow} (h : Z8 l) : ∀ r ∈ l,ZN r.r.d = true:=fun r hr=>(Yk (h r hr)).2.1
theorem Z8.of {l : List HRow} (h : Z8 l) (v : List Val) : Z8 (XS l v):=fun r hr=>h r (List.mem_filter.1 hr).1
theorem Zdj {l : List HRow} (h : Z8 l) (v : List Val) (tx : Int) : ZcO l v tx = ZH (XS l v) tx:=by
 unfold ZcO ZH
 rw [Zqp]
 exact Znu fun s hs=>YG (ZbP (h.of v).d tx s hs)
theorem ZgN {v : List Val} {f : Int → List Span} : ∀ (E C : List Int) (s : NS),E.Pairwise (· < ·) → C.Pairwise (· < ·) → (∀ c ∈ C,c ∈ E) →
  (∀ e ∈ E,(∀ c ∈ C,e < c) → f e = s.now) → (∀ c ∈ C,∀ e ∈ E,c ≤ e → (∀ c' ∈ C,c < c' → e < c') → f e = f c) → E.foldl (Zb4 v f) s = C.foldl (Zb4 v f) s
 | [],[],s,_,_,_,_,_=>rfl
 | [],c :: C,s,_,_,h,_,_=>absurd (h c (by simp)) (by simp)
 | e :: E,C,s,hE,hC,hs,h0,hc=>by
  obtain ⟨hE1,hE2⟩:=List.pairwise_cons.1 hE
  rw [List.foldl_cons]
  by_cases he : e ∈ C
  ·cases C with
   | nil=>cases he
   | cons c C=>
    obtain ⟨hC1,hC2⟩:=List.pairwise_cons.1 hC
    have ec : e = c:=by
     rcases List.mem_cons.1 he with h | h
     ·exact h
     ·have a:=hC1 e h
      rcases List.mem_cons.1 (hs c (by simp)) with h' | h'
      ·exact h'.symm
      ·have:=hE1 c h'; omega
    subst ec
    rw [List.foldl_cons]
    refine ZgN E C _ hE2 hC2 (fun c hcC=>?_) (fun x hx hxC=>?_) (fun c hcC x hx hle hno=>?_)
    ·rcases List.mem_cons.1 (hs c (by simp [hcC])) with h' | h'
     ·have:=hC1 c hcC; omega
     ·exact h'
    ·have hxe:=hE1 x hx
     have e1 : f x = f e:=hc e (by simp) x (by simp [hx]) (by omega) (fun c' hc' hlt=>by
      rcases List.mem_cons.1 hc' with h' | h'
      ·omega
      ·exact hxC c' h')
     rw [e1]
     unfold Zb4
     split
     ·rename_i hn; exact hn.symm
     ·rfl
    ·exact hc c (by simp [hcC]) x (by simp [hx]) hle (fun c' hc' hlt=>by
      rcases List.mem_cons.1 hc' with h' | h'
      ·subst h'; have:=hC1 c hcC; omega
      ·exact hno c' h' hlt)
  ·have hlt : ∀ c ∈ C,e < c:=fun c hcC=>by
    rcases List.mem_cons.1 (hs c hcC) with h' | h'
    ·exact absurd (h' ▸ hcC) he
    ·exact hE1 c h'
   rw [Zd4 (h0 e (by simp) hlt).symm]
   refine ZgN E C s hE2 hC (fun c hcC=>?_) (fun x hx hxC=>h0 x (by simp [hx]) hxC) (fun c hcC x hx=>hc c hcC x (by simp [hx]))
   rcases List.mem_cons.1 (hs c hcC) with h' | h'
   ·exact absurd (h' ▸ hcC) he
   ·exact h'
theorem Qc {l : List HRow} {y : Int} : y ∈ Y0 l ↔ ∃ r ∈ l,y = r.r.x.a ∨ y = r.r.x.b:=by
 unfold Y0; rw [Zgh]
 constructor
 ·rintro ⟨s,hs,h⟩; obtain ⟨r,hr,rfl⟩:=List.mem_map.1 hs; exact ⟨r,hr,h⟩
 ·rintro ⟨r,hr,h⟩; exact ⟨r.r.x,List.mem_map.2 ⟨r,hr,rfl⟩,h⟩
theorem ZaC (l : List HRow) : (Y0 l).Pairwise (· < ·):=ZjT _
theorem Zkb (l : List HRow) : (Y0 l).length ≤ 2 * l.length:=by have:=ZjU (l.map fun r=>r.r.x); rw [List.length_map] at this; exact this
theorem Zgm {l : List HRow} {x y : Int} (hxy : x ≤ y) (h : ∀ c ∈ Y0 l,x < c → y < c) : Y7 l y = Y7 l x:=by
 unfold Y7
 have : ∀ r ∈ l,Xv y r = Xv x r:=fun r hr=>by
  have ha:=h r.r.x.a (Qc.2 ⟨r,hr, .inl rfl⟩)
  have hb:=h r.r.x.b (Qc.2 ⟨r,hr, .inr rfl⟩)
  unfold Xv
  have e1 : decide (r.r.x.a ≤ y) = decide (r.r.x.a ≤ x):=decide_eq_decide.2 ⟨fun q=>by omega,fun q=>by omega⟩
  have e2 : decide (y < r.r.x.b) = decide (x < r.r.x.b):=decide_eq_decide.2 ⟨fun q=>by omega,fun q=>by omega⟩
  rw [e1,e2]
 rw [List.filter_congr this]
theorem Zb5 : Zai [] = []:=by simp [Zai,Ziu,Yy]
theorem Zdk {l : List HRow} {x : Int} (hg : Z8 l) (h : ∀ c ∈ Y0 l,x < c) : Y7 l x = []:=by
 unfold Y7
 have : l.filter (Xv x) = []:=by
  rw [List.filter_eq_nil_iff]
  intro r hr hl
  have ha:=h r.r.x.a (Qc.2 ⟨r,hr, .inl rfl⟩)
  unfold Xv at hl
  simp at hl; omega
 rw [this]; rfl
theorem ZeO {l : List HRow} (hg : Z8 l) : Yd l = Zmh l:=by
 unfold Yd Zmh Yx
 rw [List.flatMap_map]
 congr 1
 funext v
 unfold Zfu
 simp only
 have ef : ZcO l v = ZH (XS l v):=funext fun tx=>Zdj hg v tx
 rw [ef]
 congr 1
 symm
 refine ZgN _ _ _ (ZaC l) (ZaC _) (fun c hc=>?_) (fun e he h=>?_) (fun c hc e he hle h=>?_)
 ·obtain ⟨r,hr,h⟩:=Qc.1 hc
  exact Qc.2 ⟨r,(List.mem_filter.1 hr).1,h⟩
 ·unfold ZH; rw [Zdk (hg.of v) h]; exact Zb5
 ·unfold ZH; rw [Zgm hle h]
end Go.Civ
namespace Go.Civ
open Go.RowKit
set_option linter.unusedVariables false
section
variable {P : Program} {Q : Exit → Env → World → Prop} {ρ : Env} {w : World} {ops : Array Oper} {rest : List Oper} {K : Env → World → Prop}
variable {d : Nat} {ty : TypeId} {pos : String} {af : Array Edge} {g : Option (Nat × Bool)} {G : GH}
end
theorem ZeQ {b : Bool} (h : (!b) = false) : b = true:=by cases b with | true=>rfl | false=>cases h
theorem XP.cast {w : World} {G : GH} {b e : Nat} {cs cs' : List Value} (h : XP w G (some (b,e,cs))) (k : cs = cs') : XP w G (some (b,e,cs')):=k ▸ h
end Go.Civ
namespace Go.Civ
open Go.RowKit
set_option linter.unusedVariables false
def ZaM (ns : List (List UInt8)) (l : List Val) (k : Nat) : List Col:=((ns.zip l).take k).map fun p=>⟨p.1,p.2.k⟩
def Zak (ns : List (List UInt8)) (l : List Val) : List Col:=(ns.zip l).map fun p=>⟨p.1,p.2.k⟩
theorem ZoY {ns : List (List UInt8)} {l : List Val} {k : Nat} {n : List UInt8} {v : Val} (h1 : ns[k]? = some n) (h2 : l[k]? = some v) : ZaM ns l (k + 1) = ZaM ns l k ++ [⟨n,v.k⟩]:=by
 unfold ZaM
 have e : (ns.zip l)[k]? = some (n,v):=List.getElem?_zip_eq_some.2 ⟨h1,h2⟩
 rw [List.take_add_one,e]; simp
theorem Zqq (ns : List (List UInt8)) (l : List Val) (k : Nat) : (ZaM ns l k).length ≤ k:=by unfold ZaM; rw [List.length_map]; exact List.length_take_le _ _
theorem Zqr {ns : List (List UInt8)} {l : List Val} {k : Nat} (h : ns.length ≤ k) : ZaM ns l k = Zak ns l:=by
 unfold ZaM Zak; rw [List.take_of_length_le (by rw [List.length_zip]; omega)]
theorem ZoZ {ns : List (List UInt8)} {l : List Val} (h : ns.length = l.length) : (Zak ns l).length = l.length:=by unfold Zak; rw [List.length_map,List.length_zip]; omega
def Ze9 (ns : List (List UInt8)) (l : List Val) : Bool:=decide (ns.length = l.length) && decide (ns.length ≤ 100) && l.all Z4
def Zfv (d : Nat) (c : Cond) (ns : List (List UInt8)) (l : List Val) : Int:=bif Ze9 ns l then YE d c (Zak ns l) else 1
def X6 (d : Nat) (c : Cond) (ns : List (List UInt8)) (l : List Val) : Bool:=bif Ze9 ns l then (bif decide (YE d c (Zak ns l) = 0) then Xu d c (Zak ns l) l else false) else false
section
variable {d : Nat} {c : Cond} {ns : List (List UInt8)} {l : List Val}
theorem ZeR (h : ns.length ≠ l.length ∨ 100 < ns.length ∨ l.all Z4 = false) : X6 d c ns l = false ∧ Zfv d c ns l = 1:=by
 have : Ze9 ns l = false:=by
  unfold Ze9
  rcases h with h | h | h
  ·rw [decide_eq_false h]; rfl
  ·rw [decide_eq_false (by omega : ¬ ns.length ≤ 100)]; simp
  ·rw [h]; simp
 unfold X6 Zfv; rw [this]; exact ⟨rfl,rfl⟩
theorem Zld (h1 : ns.length = l.length) (h2 : ns.length ≤ 100) (h3 : l.all Z4 = true) : Ze9 ns l = true:=by unfold Ze9; rw [decide_eq_true h1,decide_eq_true h2,h3]; rfl
theorem Zv5 (hg : Ze9 ns l = true) (h : YE d c (Zak ns l) ≠ 0) : X6 d c ns l = false ∧ Zfv d c ns l = YE d c (Zak ns l):=by
 unfold X6 Zfv; rw [hg,decide_eq_false h]; exact ⟨rfl,rfl⟩
theorem Zxu (hg : Ze9 ns l = true) (h : YE d c (Zak ns l) = 0) : X6 d c ns l = Xu d c (Zak ns l) l ∧ Zfv d c ns l = 0:=by
 unfold X6 Zfv; rw [hg,decide_eq_true h,h]; exact ⟨rfl,rfl⟩
theorem Zml {cols : List Col} (hc : cols = Zak ns l) (hg : Ze9 ns l = true) (h : YE d c cols ≠ 0) : X6 d c ns l = false ∧ Zfv d c ns l = YE d c cols:=by subst hc; exact Zv5 hg h
theorem ZnG {cols : List Col} (hc : cols = Zak ns l) (hg : Ze9 ns l = true) (h : YE d c cols = 0) : X6 d c ns l = Xu d c cols l ∧ Zfv d c ns l = 0:=by subst hc; exact Zxu hg h
theorem Zpa {cs : List Col} (h : YE d c cs = 0) : Zfh d c ∧ Xf d c cs = 0:=by
 unfold YE at h
 by_cases g : YY d c 1 ≤ 60
 ·rw [if_pos g] at h; exact ⟨Zn9 (by omega) (by omega) g,h⟩
 ·rw [if_neg g] at h; omega
end
section
variable {d : Nat} {c : Cond} {cs : List Col} {l : List Fact} {k : Nat} {f : Fact}
end
section
variable {d : Nat} {c : Cond} {cs : List Col} {l : List Fact}
end
end Go.Civ
namespace Go.Civ
set_option linter.unusedVariables false
end Go.Civ
namespace Go.Civ
set_option linter.unusedVariables false
section
variable {l : List Fact} {ps : List Int} {k j : Nat} {f : Fact} {i : Int}
end
end Go.Civ
namespace Go.Proofs
open Go.Shelf
def Tryz.laysCompact_ren : Go.Shelf.Ren:=⟨fun | 20=>146 | n=>n,fun | 22=>113 | 3=>3 | 4=>4 | 0=>0 | n=>n,fun | n=>n⟩
theorem Tryz.laysCompact : Go.Proofs.Lays2.n20 Tryz.prog Tryz.laysCompact_ren:={
 mixed:=by kernel_rfl
 f20:=Tryz.func146.trans (congrArg some (by kernel_rfl))
 t0:=Tryz.underlying0
 a0:=Tryz.isAgg0
 z0:=Tryz.sizeOf0
 v0:=Tryz.zeroValue0
 t3:=Tryz.underlying3
 a3:=Tryz.isAgg3
 z3:=Tryz.sizeOf3
 v3:=Tryz.zeroValue3
 t4:=Tryz.underlying4
 a4:=Tryz.isAgg4
 z4:=Tryz.sizeOf4
 v4:=Tryz.zeroValue4
 t22:=Tryz.underlying113
 a22:=Tryz.isAgg113
 z22:=Tryz.sizeOf113
 v22:=Tryz.zeroValue113
 i3:=by kernel_rfl }
end Go.Proofs
set_option linter.unusedVariables false
set_option linter.unusedSimpArgs false
set_option maxRecDepth 100000
set_option maxHeartbeats 4000000
namespace Go.Civ
open Go.Proofs
theorem Zp2 {G : GH} {w : World} (hG : G.In w) (x y : Val) (cx : List Value) (hcx : ValE.rep G x cx) (cy : List Value) (hcy : ValE.rep G y cy) : CL Tryz.prog (nat_lit 213) #[.agg cx.toArray, .agg cy.toArray] [] w G fun _ _ r=>r = S (cmpV x y):=by
 refine Zh ft [] Tryz.func213 U U ?_
 have hS:=St.start (X:=[]) hG
 obtain ⟨rfl,B1,B2,B3⟩:=Yj hcx
 obtain ⟨rfl,B4,B5,B6⟩:=Yj hcy
 refine Zw [S x.k,S x.n,Za x.s] _ hS U U U (fun p1 w1 G1 L1 M1 C1 S1=>?_)
 refine Zw [S y.k,S y.n,Za y.s] _ S1 U U U (fun p2 w2 G2 L2 M2 C2 S2=>?_)
 refine Z S2 (XC.drop 0 (C1.mono L2)) Zt U U U <| Z S2 (XC.drop 0 C2) Zt U U U ?_
 refine Yr x.k y.k U U U (fun h1=>?_) (fun h1=>?_)
 ·refine Z S2 (XC.drop 0 (C1.mono L2)) Zt U U U <| Z S2 (XC.drop 0 C2) Zt U U U ?_
  refine Zr S2 Zfm U U U (ZdP S2.imm x.k y.k) (fun w3 G3 S3 L3=>?_)
  exact RI S3 U (by exact (Zxn ‹_›).symm)
 refine Z S2 (XC.drop 1 (C1.mono L2)) Zt U U U <| Z S2 (XC.drop 1 C2) Zt U U U ?_
 refine Yr x.n y.n U U U (fun h2=>?_) (fun h2=>?_)
 ·refine Z S2 (XC.drop 1 (C1.mono L2)) Zt U U U <| Z S2 (XC.drop 1 C2) Zt U U U ?_
  refine Zr S2 Zfm U U U (ZdP S2.imm x.n y.n) (fun w4 G4 S4 L4=>?_)
  exact RI S4 U (by exact (Zxo ‹_› ‹_›).symm)
 refine LP.go ft [] (fun m ρ1 w1=>∃ (k1 : Nat),∃ (G5 : GH),m = x.s.length - k1 ∧ G2.le G5 ∧ St w [] G G5 [] w1 ∧ FR ρ1 [(2,Zs p1),(3,Zs p2),(5,S (k1 : Int))] ∧ k1 ≤ x.s.length ∧ ∀ j,j < k1 → ∀ c d,x.s[j]? = some c → y.s[j]? = some d → c = d) _ ⟨0,G2,U,(G2.le_refl),S2,⟨U,U,U,trivial⟩,(by omega),(by intro j hj; omega)⟩ ?_
 rintro m ρ1 w5 ⟨k1,G5,rfl,L5,S5,F9,f1,f2⟩
 refine F9.set ?_
 clear F9
 have j1:=(L2.trans L5)
 refine Z S5 (XC.drop 2 (C1.mono j1)) ZF U U U <| QN x.s ul9 U U ?_
 refine Zp (k1 : Int) (x.s.length : Int) U U U (fun h3=>?_) (fun h3=>?_)
 ·refine Z S5 (XC.drop 2 (C2.mono L5)) ZF U U U <| QN y.s ul9 U U ?_
  refine Zp (k1 : Int) (y.s.length : Int) U U U (fun h4=>?_) (fun h4=>?_)
  ·obtain ⟨c1,U1⟩ : ∃ c,x.s[k1]? = some c:=⟨_,List.getElem?_eq_getElem (by omega)⟩
   obtain ⟨c2,U2⟩ : ∃ c,y.s[k1]? = some c:=⟨_,List.getElem?_eq_getElem (by omega)⟩
   rcases Cmp.dec .neq (c1.toNat : Int) (c2.toNat : Int) with ⟨B7,q1⟩ | ⟨B7,q1⟩
   ·have h5 : (c1.toNat : Int) ≠ (c2.toNat : Int):=q1
    clear q1
    refine dr [] [(41,Za x.s),(43, .int .u8 (c1.toNat : Int)),(45,Za y.s),(47, .int .u8 (c2.toNat : Int)),(48, .bool true)] S5 ⟨fun _ hSw=>Z hSw (XC.drop 2 (C1.mono j1)) ZF U U U <| nu U U,fun _=>Za2 x.s k1 c1 U1 ul9 U U U <| nu U U,fun _ hSw=>Z hSw (XC.drop 2 (C2.mono L5)) ZF U U U <| nu U U,fun _=>Za2 y.s k1 c2 U2 ul9 U U U <| nu U U,fun _=>WL.cmpV .neq U .u8 (c1.toNat : Int) (c2.toNat : Int) _ B7 U U U <| nu U U,trivial⟩ (fun w6 S6=>?_)
    obtain ⟨c3,U3⟩ : ∃ c,x.s[k1]? = some c:=⟨_,List.getElem?_eq_getElem (by omega)⟩
    obtain rfl : c1 = c3:=Option.some.inj (U1.symm.trans U3)
    obtain ⟨c4,U4⟩ : ∃ c,y.s[k1]? = some c:=⟨_,List.getElem?_eq_getElem (by omega)⟩
    obtain rfl : c2 = c4:=Option.some.inj (U2.symm.trans U4)
    refine dr [(11,false)] [(50,Za x.s),(52, .int .u8 (c1.toNat : Int)),(53,S (c1.toNat : Int)),(55,Za y.s),(57, .int .u8 (c2.toNat : Int)),(58,S (c2.toNat : Int)),(59,S (Y5 (c1.toNat : Int) (c2.toNat : Int)))] S6 ⟨fun _ hSw=>Z hSw (XC.drop 2 (C1.mono j1)) ZF U U U <| nu U U,fun _=>Za2 x.s k1 c1 U1 ul9 U U U <| nu U U,fun _=>Zl6 (c1.toNat : Int) ul5 Qb (Zw8 c1) U U <| nu U U,fun _ hSw=>Z hSw (XC.drop 2 (C2.mono L5)) ZF U U U <| nu U U,fun _=>Za2 y.s k1 c2 U2 ul9 U U U <| nu U U,fun _=>Zl6 (c2.toNat : Int) ul5 Qb (Zw8 c2) U U <| nu U U,fun _ hSw=>Z3 hSw Zfm U U U (ZdP hSw.imm (c1.toNat : Int) (c2.toNat : Int)) U,trivial⟩ (fun w7 S7=>?_)
    exact RI S7 U (by (rw [Zmf ‹_› ‹_›]; first | exact (ZgM ‹_› ‹_› ‹_› ‹_›).symm | exact (Zfq ‹_› (by omega)).symm))
   have h5 : (c1.toNat : Int) = (c2.toNat : Int):=q1
   clear q1
   refine dr [] [(41,Za x.s),(43, .int .u8 (c1.toNat : Int)),(45,Za y.s),(47, .int .u8 (c2.toNat : Int)),(48, .bool false)] S5 ⟨fun _ hSw=>Z hSw (XC.drop 2 (C1.mono j1)) ZF U U U <| nu U U,fun _=>Za2 x.s k1 c1 U1 ul9 U U U <| nu U U,fun _ hSw=>Z hSw (XC.drop 2 (C2.mono L5)) ZF U U U <| nu U U,fun _=>Za2 y.s k1 c2 U2 ul9 U U U <| nu U U,fun _=>WL.cmpV .neq U .u8 (c1.toNat : Int) (c2.toNat : Int) _ B7 U U U <| nu U U,trivial⟩ (fun w9 S8=>?_)
   refine Zj k1 (by have:=Zc; omega) U U U ?_
   exact BK.mk' _ ⟨k1 + 1,G5,U,L5,S8,⟨U,U,U,trivial⟩,(by omega),(by exact QT ‹_› ‹_› ‹_› (Zzq ‹_›))⟩ (show x.s.length - (k1 + 1) < x.s.length - k1 by omega)
  refine Z S5 (XC.drop 2 (C1.mono j1)) ZF U U U <| QN x.s ul9 U U <| Z S5 (XC.drop 2 (C2.mono L5)) ZF U U U <| QN y.s ul9 U U ?_
  refine Zr S5 Zfm U U U (ZdP S5.imm (x.s.length : Int) (y.s.length : Int)) (fun w10 G6 S9 L6=>?_)
  exact RI S9 U (by (rw [Zmf ‹_› ‹_›]; first | exact (ZgM ‹_› ‹_› ‹_› ‹_›).symm | exact (Zfq ‹_› (by omega)).symm))
 refine Z S5 (XC.drop 2 (C1.mono j1)) ZF U U U <| QN x.s ul9 U U <| Z S5 (XC.drop 2 (C2.mono L5)) ZF U U U <| QN y.s ul9 U U ?_
 refine Zr S5 Zfm U U U (ZdP S5.imm (x.s.length : Int) (y.s.length : Int)) (fun w11 G7 S10 L7=>?_)
 exact RI S10 U (by (rw [Zmf ‹_› ‹_›]; first | exact (ZgM ‹_› ‹_› ‹_› ‹_›).symm | exact (Zfq ‹_› (by omega)).symm))
theorem ZcS {G : GH} {w : World} (hG : G.In w) (a b : List Val) (va : Value) (hva : Sl ValE 32 G va a) (vb : Value) (hvb : Sl ValE 32 G vb b) : CL Tryz.prog (nat_lit 179) #[va,vb] [] w G fun _ _ r=>r = S (ZL cmpV a b):=by
 refine Zh ft [] Tryz.func179 U U ?_
 have hS:=St.start (X:=[]) hG
 refine LP.go ft [] (fun m ρ1 w1=>∃ (k1 : Nat),∃ (G1 : GH),m = a.length - k1 ∧ G.le G1 ∧ St w [] G G1 [] w1 ∧ FR ρ1 [(0,va),(1,vb),(5,S (k1 : Int))] ∧ k1 ≤ a.length ∧ ∀ j,j < k1 → ∀ x y,a[j]? = some x → b[j]? = some y → cmpV x y = 0) _ ⟨0,G,U,(G.le_refl),hS,⟨U,U,U,trivial⟩,(by omega),(by intro j hj; omega)⟩ ?_
 rintro m ρ1 w1 ⟨k1,G1,rfl,L1,S1,F9,f1,f2⟩
 refine F9.set ?_
 clear F9
 have V1:=hva.bound
 refine Zl (hva.mono L1) Yv U U ?_
 refine Zp (k1 : Int) (a.length : Int) U U U (fun h1=>?_) (fun h1=>?_)
 ·have V2:=hvb.bound
  refine Zl (hvb.mono L1) Yv U U ?_
  refine Zp (k1 : Int) (b.length : Int) U U U (fun h2=>?_) (fun h2=>?_)
  ·obtain ⟨p1,x1,U1,E1,W1⟩:=Sl.at (hva.mono L1) k1 (by omega)
   obtain ⟨D1,C1,R1⟩:=E1
   obtain ⟨rfl,B1,B2,B3⟩:=Yj R1
   obtain ⟨p2,x2,U2,E2,W2⟩:=Sl.at (hvb.mono L1) k1 (by omega)
   obtain ⟨D2,C2,R2⟩:=E2
   obtain ⟨rfl,B4,B5,B6⟩:=Yj R2
   refine dr [(9,false)] [(21,Zs p1),(22, .agg #[S x1.k,S x1.n,Za x1.s]),(25,Zs p2),(26, .agg #[S x2.k,S x2.n,Za x2.s]),(27,S (cmpV x1 x2))] S1 ⟨fun _=>Zg k1 W1 Yv Z6 U U U U <| nu U U,fun _ hSw=>Zb hSw C1 [S x1.k,S x1.n,Za x1.s] Z6 U U U U U <| nu U U,fun _=>Zg k1 W2 Yv Z6 U U U U <| nu U U,fun _ hSw=>Zb hSw C2 [S x2.k,S x2.n,Za x2.s] Z6 U U U U U <| nu U U,fun _ hSw=>Z3 hSw Zzl U U U (Zp2 hSw.imm x1 x2 _ (YP x1 B1 B2 B3) _ (YP x2 B4 B5 B6)) U,trivial⟩ (fun w2 S2=>?_)
   refine Yr (cmpV x1 x2) 0 U U U (fun h3=>?_) (fun h3=>?_)
   ·exact RI S2 U (by exact (Zjj ‹_› ‹_› ‹_› ‹_›).symm)
   refine Zj k1 (by have:=Zc; omega) U U U ?_
   exact BK.mk' _ ⟨k1 + 1,G1,U,L1,S2,⟨U,U,U,trivial⟩,(by omega),(by exact QT ‹_› ‹_› ‹_› ‹_›)⟩ (show a.length - (k1 + 1) < a.length - k1 by omega)
  have V3:=hva.bound
  refine Zl (hva.mono L1) Yv U U ?_
  have V4:=hvb.bound
  refine Zl (hvb.mono L1) Yv U U ?_
  refine Zr S1 Zfm U U U (ZdP S1.imm (a.length : Int) (b.length : Int)) (fun w3 G2 S3 L2=>?_)
  exact RI S3 U (by exact (ZjX ‹_› (by omega)).symm)
 have V5:=hva.bound
 refine Zl (hva.mono L1) Yv U U ?_
 have V6:=hvb.bound
 refine Zl (hvb.mono L1) Yv U U ?_
 refine Zr S1 Zfm U U U (ZdP S1.imm (a.length : Int) (b.length : Int)) (fun w4 G3 S4 L3=>?_)
 exact RI S4 U (by exact (ZjX ‹_› (by omega)).symm)
end Go.Civ
