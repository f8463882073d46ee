/- Lemmas. -/
import Derived.Test.YthgeclodflmiaaaGreatK10
import Derived.Test.YthgeclodflmiaaaGreatK14
namespace Go.Civ
open Go.RowKit
set_option linter.unusedVariables false
structure HGrp where
  v : List Val
  t : List HRow
def HGrpE : Enc HGrp:=(Enc.pair (ValE.slice 32) (HRowE.slice 56)).via fun x=>(x.v,x.t)
theorem HGrpE_open {G : GH} {x : HGrp} {cs : List Value} (h : HGrpE.rep G x cs) : ∃ v u,cs = [v,u] ∧ Sl ValE 32 G v x.v ∧ Sl HRowE 56 G u x.t:=by
  obtain ⟨c1,c2,rfl,⟨v,rfl,h1⟩,u,rfl,h2⟩:=h
  exact ⟨v,u,rfl,h1,h2⟩
theorem HGrpE_mk {G : GH} (x : HGrp) {v u : Value} (h1 : Sl ValE 32 G v x.v) (h2 : Sl HRowE 56 G u x.t) : HGrpE.rep G x [v,u]:=⟨[v],[u],rfl,⟨v,rfl,h1⟩,u,rfl,h2⟩
def liveB (tx : Int) (r : HRow) : Bool:=decide (r.r.x.a ≤ tx) && decide (tx < r.r.x.b)
def spansH (l : List HRow) (tx : Int) : List Span:=(l.filter (liveB tx)).map fun r=>r.r.d
def timesH (l : List HRow) (tx : Int) : List Span:=canon (spansH l tx)
def goodB (r : HRow) : Bool:=r.v.all valB && spanB r.r.d && spanB r.r.x
def GoodH (l : List HRow) : Prop:=∀ r ∈ l,goodB r = true
def ofV (l : List HRow) (v : List Val) : List HRow:=l.filter fun r=>decide (r.v = v)
def valsH (l : List HRow) : VV:=l.foldl (fun out r=>insV out r.v) []
def grpH (l : List HRow) : List HGrp:=(valsH l).map fun v=>⟨v,ofV l v⟩
theorem goodB_parts {r : HRow} (h : goodB r = true) : r.v.all valB = true ∧ spanB r.r.d = true ∧ spanB r.r.x = true:=by
  unfold goodB at h; simp only [Bool.and_eq_true] at h; exact ⟨h.1.1,h.1.2,h.2⟩
theorem spansH_take {l : List HRow} {k : Nat} {x : HRow} {tx : Int} (h : l[k]? = some x) : spansH (l.take (k + 1)) tx = spansH (l.take k) tx ++ if liveB tx x then [x.r.d] else []:=by
  rw [List.take_add_one,h]; unfold spansH; rw [List.filter_append,List.map_append]; congr 1
  simp only [Option.toList]; cases hb : liveB tx x <;> simp [hb]
theorem spansH_len (l : List HRow) (tx : Int) : (spansH l tx).length ≤ l.length:=by
  unfold spansH; rw [List.length_map]; exact List.length_filter_le _ _
theorem spansH_takeLen (l : List HRow) (tx : Int) (k : Nat) : (spansH (l.take k) tx).length ≤ l.length:=Nat.le_trans (spansH_len _ _) (List.length_take_le' _ _)
theorem spansH_good {l : List HRow} (h : ∀ r ∈ l,spanB r.r.d = true) (tx : Int) : ∀ s ∈ spansH l tx,spanB s = true:=fun s hs=>by
  obtain ⟨r,hr,rfl⟩:=List.mem_map.1 hs
  exact h r (List.mem_filter.1 hr).1
theorem timesH_len (l : List HRow) (tx : Int) : (timesH l tx).length ≤ l.length:=Nat.le_trans canon_len (spansH_len _ _)
theorem valsH_snoc (l : List HRow) (r : HRow) : valsH (l ++ [r]) = insV (valsH l) r.v:=by simp [valsH,List.foldl_append]
theorem valsH_take {l : List HRow} {k : Nat} {r : HRow} (h : l[k]? = some r) : valsH (l.take (k + 1)) = insV (valsH (l.take k)) r.v:=by
  rw [List.take_add_one,h]; exact valsH_snoc _ _
theorem valsH_inv : ∀ (n : Nat) (l : List HRow),l.length = n → IncV (valsH l) ∧ (∀ v,v ∈ valsH l ↔ ∃ r ∈ l,r.v = v) ∧ (valsH l).length ≤ l.length
  | 0,l,h=>by
    obtain rfl:=List.length_eq_zero_iff.1 h
    exact ⟨List.Pairwise.nil,fun v=>by simp [valsH],Nat.le_refl _⟩
  | n + 1,l,h=>by
    obtain ⟨m,r,rfl⟩ : ∃ m r,l = m ++ [r]:=⟨l.dropLast,l.getLast (by intro e; simp [e] at h),(List.dropLast_concat_getLast _).symm⟩
    obtain ⟨h1,h2,h3⟩:=valsH_inv n m (by simpa using h)
    rw [valsH_snoc]
    refine ⟨insV_inc h1,fun v=>?_,?_⟩
    · rw [insV_mem,h2]
      constructor
      · rintro (⟨x,hx,rfl⟩ | rfl)
        · exact ⟨x,by simp [hx],rfl⟩
        · exact ⟨r,by simp,rfl⟩
      · rintro ⟨x,hx,rfl⟩
        rcases List.mem_append.1 hx with hx | hx
        · exact .inl ⟨x,hx,rfl⟩
        · rw [List.mem_singleton.1 hx]; exact .inr rfl
    · have:=insV_len (valsH m) r.v; rw [List.length_append]; simp only [List.length_singleton]; omega
theorem valsH_inc (l : List HRow) : IncV (valsH l):=(valsH_inv _ l rfl).1
theorem valsH_mem {l : List HRow} {v : List Val} : v ∈ valsH l ↔ ∃ r ∈ l,r.v = v:=(valsH_inv _ l rfl).2.1 v
theorem valsH_len (l : List HRow) : (valsH l).length ≤ l.length:=(valsH_inv _ l rfl).2.2
theorem valsH_takeLen (l : List HRow) (k : Nat) : (valsH (l.take k)).length ≤ l.length:=Nat.le_trans (valsH_len _) (List.length_take_le' _ _)
def idxG (out : List HGrp) (v : List Val) : Option Nat:=out.findIdx? fun g=>decide (g.v = v)
def addG (out : List HGrp) (i : Nat) (r : HRow) : List HGrp:=match out[i]? with
  | some g=>out.set i ⟨g.v,g.t ++ [r]⟩
  | none=>out
def hstep (out : List HGrp) (r : HRow) : List HGrp:=match idxG out r.v with
  | some i=>addG out i r
  | none=>out ++ [⟨r.v,[r]⟩]
def hgroups (l : List HRow) : List HGrp:=l.foldl hstep []
structure HInv (l : List HRow) (out : List HGrp) : Prop where
  nd : (out.map HGrp.v).Nodup
  rows : ∀ g ∈ out,g.t = ofV l g.v
  mem : ∀ v,v ∈ out.map HGrp.v ↔ ∃ r ∈ l,r.v = v
theorem hgroups_snoc (l : List HRow) (r : HRow) : hgroups (l ++ [r]) = hstep (hgroups l) r:=by simp [hgroups,List.foldl_append]
theorem hgroups_take {l : List HRow} {k : Nat} {r : HRow} (h : l[k]? = some r) : hgroups (l.take (k + 1)) = hstep (hgroups (l.take k)) r:=by
  rw [List.take_add_one,h]; exact hgroups_snoc _ _
theorem idxG_some {out : List HGrp} {v : List Val} {i : Nat} (h : idxG out v = some i) : ∃ g,out[i]? = some g ∧ g.v = v:=by
  unfold idxG at h
  rw [List.findIdx?_eq_some_iff_getElem] at h
  obtain ⟨hl,h1,_⟩:=h
  exact ⟨out[i],List.getElem?_eq_getElem hl,by simpa using h1⟩
theorem idxG_none {out : List HGrp} {v : List Val} (h : idxG out v = none) : v ∉ out.map HGrp.v:=by
  unfold idxG at h
  rw [List.findIdx?_eq_none_iff] at h
  intro hv
  obtain ⟨g,hg,rfl⟩:=List.mem_map.1 hv
  simpa using h g hg
theorem addG_at {out : List HGrp} {i : Nat} {g : HGrp} (r : HRow) (h : out[i]? = some g) : addG out i r = out.set i ⟨g.v,g.t ++ [r]⟩:=by unfold addG; rw [h]
theorem addG_vals {out : List HGrp} {i : Nat} {r : HRow} : (addG out i r).map HGrp.v = out.map HGrp.v:=by
  unfold addG
  split
  · rename_i g hg
    rw [List.map_set]
    apply List.ext_getElem?
    intro j
    rw [List.getElem?_set]
    split
    · rename_i hj; subst hj
      rw [List.getElem?_map,hg,List.length_map]
      rw [if_pos (List.getElem?_eq_some_iff.1 hg).1]; rfl
    · rfl
  · rfl
theorem ofV_snoc (l : List HRow) (r : HRow) (v : List Val) : ofV (l ++ [r]) v = ofV l v ++ if r.v = v then [r] else []:=by
  unfold ofV; rw [List.filter_append]; congr 1
  by_cases h : r.v = v <;> simp [h]
theorem hgroups_inv : ∀ (n : Nat) (l : List HRow),l.length = n → HInv l (hgroups l)
  | 0,l,h=>by
    obtain rfl:=List.length_eq_zero_iff.1 h
    exact ⟨by simp [hgroups],fun g hg=>by simp [hgroups] at hg,fun v=>by simp [hgroups]⟩
  | n + 1,l,h=>by
    obtain ⟨m,r,rfl⟩ : ∃ m r,l = m ++ [r]:=⟨l.dropLast,l.getLast (by intro e; simp [e] at h),(List.dropLast_concat_getLast _).symm⟩
    obtain ⟨h1,h2,h3⟩:=hgroups_inv n m (by simpa using h)
    rw [hgroups_snoc]
    unfold hstep
    cases hi : idxG (hgroups m) r.v with
    | some i=>
      obtain ⟨g,hg,hgv⟩:=idxG_some hi
      simp only
      refine ⟨by rw [addG_vals]; exact h1,fun x hx=>?_,fun v=>?_⟩
      · rw [addG_at r hg] at hx
        obtain ⟨j,hj⟩:=List.getElem?_of_mem hx
        rw [List.getElem?_set] at hj
        split at hj
        · rename_i hij; subst hij
          split at hj
          · obtain rfl:=Option.some.inj hj
            simp only
            rw [ofV_snoc,if_pos hgv.symm,h2 g (List.mem_of_getElem? hg)]
          · cases hj
        · rename_i hij
          rw [ofV_snoc,if_neg,h2 x (List.mem_of_getElem? hj),List.append_nil]
          intro e
          have a1 : (hgroups m |>.map HGrp.v)[i]? = some r.v:=by rw [List.getElem?_map,hg]; simp [hgv]
          have a2 : (hgroups m |>.map HGrp.v)[j]? = some r.v:=by rw [List.getElem?_map,hj]; simp [e]
          have b1:=(List.getElem?_eq_some_iff.1 a1).1
          exact hij ((List.getElem?_inj b1 h1).1 (a1.trans a2.symm))
      · rw [addG_vals,h3]
        constructor
        · rintro ⟨x,hx,rfl⟩; exact ⟨x,by simp [hx],rfl⟩
        · rintro ⟨x,hx,rfl⟩
          rcases List.mem_append.1 hx with hx | hx
          · exact ⟨x,hx,rfl⟩
          · rw [List.mem_singleton.1 hx,← h3,← hgv]; exact List.mem_map.2 ⟨g,List.mem_of_getElem? hg,rfl⟩
    | none=>
      have hn:=idxG_none hi
      simp only
      refine ⟨?_,fun x hx=>?_,fun v=>?_⟩
      · rw [List.map_append,List.nodup_append]
        refine ⟨h1,by simp,fun a ha b hb=>?_⟩
        simp at hb; subst hb
        exact fun e=>hn (e ▸ ha)
      · rcases List.mem_append.1 hx with hx | hx
        · rw [ofV_snoc,if_neg,h2 x hx,List.append_nil]
          exact fun e=>hn (e ▸ List.mem_map.2 ⟨x,hx,rfl⟩)
        · rw [List.mem_singleton.1 hx]
          simp only
          rw [ofV_snoc,if_pos rfl]
          have : ofV m r.v = []:=by
            unfold ofV
            rw [List.filter_eq_nil_iff]
            intro y hy
            simp only [decide_eq_true_eq]
            exact fun e=>hn ((h3 _).2 ⟨y,hy,e⟩)
          rw [this]; rfl
      · rw [List.map_append,List.mem_append,h3]
        constructor
        · rintro (⟨x,hx,rfl⟩ | hv)
          · exact ⟨x,by simp [hx],rfl⟩
          · simp at hv; subst hv; exact ⟨r,by simp,rfl⟩
        · rintro ⟨x,hx,rfl⟩
          rcases List.mem_append.1 hx with hx | hx
          · exact .inl ⟨x,hx,rfl⟩
          · rw [List.mem_singleton.1 hx]; exact .inr (by simp)
theorem hgroups_is (l : List HRow) : HInv l (hgroups l):=hgroups_inv _ l rfl
theorem hstep_len (out : List HGrp) (r : HRow) : (hstep out r).length ≤ out.length + 1:=by
  unfold hstep
  cases idxG out r.v with
  | none=>simp
  | some i=>simp only; unfold addG; split <;> simp
theorem hgroups_len (l : List HRow) : ∀ k,(hgroups (l.take k)).length ≤ k
  | 0=>by simp [hgroups]
  | k + 1=>by
    have h:=hgroups_len l k
    cases e : l[k]? with
    | none=>rw [List.take_add_one,e]; simpa using Nat.le_succ_of_le h
    | some r=>rw [hgroups_take e]; exact Nat.le_trans (hstep_len _ _) (by omega)
theorem grpH_of {l : List HRow} {s : List HGrp} (hg : ∀ r ∈ l,r.v.all valB = true) (hp : s.Perm (hgroups l)) (hs : s.Pairwise fun x y=>¬ ordV y.v x.v < 0) : s = grpH l:=by
  have I:=hgroups_is l
  have hv : ∀ g ∈ s,g.v.all valB = true:=fun g h=>by
    obtain ⟨r,hr,e⟩:=(I.mem g.v).1 (List.mem_map.2 ⟨g,hp.mem_iff.1 h,rfl⟩)
    rw [← e]; exact hg r hr
  have nd : (s.map HGrp.v).Nodup:=(hp.map HGrp.v).nodup_iff.2 I.nd
  have e1 : s.map HGrp.v = valsH l:=by
    refine strict_unique ord ?_ (valsH_inc l) fun v=>?_
    · rw [List.pairwise_map]
      have nd2 : s.Pairwise fun x y=>x.v ≠ y.v:=by
        unfold List.Nodup at nd; rw [List.pairwise_map] at nd; exact nd
      refine List.Pairwise.imp_of_mem ?_ (List.Pairwise.and hs nd2)
      intro x y hx hy h
      rw [ordV_valid (hv y hy) (hv x hx)] at h
      rcases Int.lt_or_le (cmpL cmpV x.v y.v) 0 with k | k
      · exact k
      · exfalso
        by_cases e : cmpL cmpV x.v y.v = 0
        · exact h.2 ((ord.eq _ _).1 e)
        · exact h.1 ((ord.swap _ _).2 (by omega))
    · rw [(hp.map HGrp.v).mem_iff,I.mem,valsH_mem]
  unfold grpH
  rw [← e1,List.map_map]
  symm
  have : ∀ g ∈ s,((fun v=>(⟨v,ofV l v⟩ : HGrp)) ∘ HGrp.v) g = g:=fun g h=>by
    have:=I.rows g (hp.mem_iff.1 h)
    simp only [Function.comp]
    rw [← this]
  rw [List.map_congr_left this,List.map_id']
structure NS where
  out : List HRow
  now : List Span
  fr : Int
def outN (v : List Val) (now : List Span) (a b : Int) : List HRow:=now.map fun s=>⟨v,⟨s,⟨a,b⟩⟩⟩
def nstep (v : List Val) (f : Int → List Span) (s : NS) (c : Int) : NS:=if s.now = f c then s else ⟨s.out ++ outN v s.now s.fr c,f c,c⟩
def runN (v : List Val) (f : Int → List Span) (cs : List Int) : NS:=cs.foldl (nstep v f) ⟨[],[],0⟩
def cutsL (l : List HRow) : List Int:=endsR (l.map fun r=>r.r.x)
def normG (g : HGrp) : List HRow:=(runN g.v (timesH g.t) (cutsL g.t)).out
def normH (l : List HRow) : List HRow:=(grpH l).flatMap normG
def spansV (l : List HRow) (v : List Val) (tx : Int) : List Span:=(l.filter fun r=>liveB tx r && decide (r.v = v)).map fun r=>r.r.d
def rtimesH (l : List HRow) (v : List Val) (tx : Int) : List Span:=combR 1 (spansV l v tx) []
def rnormH (l : List HRow) : List HRow:=(valsH l).flatMap fun v=>(runN v (rtimesH l v) (cutsL l)).out
theorem runN_take {v : List Val} {f : Int → List Span} {cs : List Int} {k : Nat} {c : Int} (h : cs[k]? = some c) : runN v f (cs.take (k + 1)) = nstep v f (runN v f (cs.take k)) c:=by
  rw [List.take_add_one,h]; simp [runN,List.foldl_append]
theorem nstep_same {v : List Val} {f : Int → List Span} {s : NS} {c : Int} (h : s.now = f c) : nstep v f s c = s:=by unfold nstep; rw [if_pos h]
theorem nstep_new {v : List Val} {f : Int → List Span} {s : NS} {c : Int} (h : s.now ≠ f c) : nstep v f s c = ⟨s.out ++ outN v s.now s.fr c,f c,c⟩:=by unfold nstep; rw [if_neg h]
theorem spansV_eq (l : List HRow) (v : List Val) (tx : Int) : spansV l v tx = spansH (ofV l v) tx:=by
  unfold spansV spansH ofV; rw [List.filter_filter]
theorem GoodH.d {l : List HRow} (h : GoodH l) : ∀ r ∈ l,spanB r.r.d = true:=fun r hr=>(goodB_parts (h r hr)).2.1
theorem GoodH.of {l : List HRow} (h : GoodH l) (v : List Val) : GoodH (ofV l v):=fun r hr=>h r (List.mem_filter.1 hr).1
theorem rtimes_eq {l : List HRow} (h : GoodH l) (v : List Val) (tx : Int) : rtimesH l v tx = timesH (ofV l v) tx:=by
  unfold rtimesH timesH
  rw [spansV_eq]
  exact combR_union fun s hs=>spanB_pos (spansH_good (h.of v).d tx s hs)
theorem runN_go {v : List Val} {f : Int → List Span} : ∀ (E C : List Int) (s : NS),E.Pairwise (· < ·) → C.Pairwise (· < ·) → (∀ c ∈ C,c ∈ E) →
    (∀ e ∈ E,(∀ c ∈ C,e < c) → f e = s.now) → (∀ c ∈ C,∀ e ∈ E,c ≤ e → (∀ c' ∈ C,c < c' → e < c') → f e = f c) → E.foldl (nstep v f) s = C.foldl (nstep v f) s
  | [],[],s,_,_,_,_,_=>rfl
  | [],c :: C,s,_,_,h,_,_=>absurd (h c (by simp)) (by simp)
  | e :: E,C,s,hE,hC,hs,h0,hc=>by
    obtain ⟨hE1,hE2⟩:=List.pairwise_cons.1 hE
    rw [List.foldl_cons]
    by_cases he : e ∈ C
    · cases C with
      | nil=>cases he
      | cons c C=>
        obtain ⟨hC1,hC2⟩:=List.pairwise_cons.1 hC
        have ec : e = c:=by
          rcases List.mem_cons.1 he with h | h
          · exact h
          · have a:=hC1 e h
            rcases List.mem_cons.1 (hs c (by simp)) with h' | h'
            · exact h'.symm
            · have:=hE1 c h'; omega
        subst ec
        rw [List.foldl_cons]
        refine runN_go E C _ hE2 hC2 (fun c hcC=>?_) (fun x hx hxC=>?_) (fun c hcC x hx hle hno=>?_)
        · rcases List.mem_cons.1 (hs c (by simp [hcC])) with h' | h'
          · have:=hC1 c hcC; omega
          · exact h'
        · have hxe:=hE1 x hx
          have e1 : f x = f e:=hc e (by simp) x (by simp [hx]) (by omega) (fun c' hc' hlt=>by
            rcases List.mem_cons.1 hc' with h' | h'
            · omega
            · exact hxC c' h')
          rw [e1]
          unfold nstep
          split
          · rename_i hn; exact hn.symm
          · rfl
        · exact hc c (by simp [hcC]) x (by simp [hx]) hle (fun c' hc' hlt=>by
            rcases List.mem_cons.1 hc' with h' | h'
            · subst h'; have:=hC1 c hcC; omega
            · exact hno c' h' hlt)
    · have hlt : ∀ c ∈ C,e < c:=fun c hcC=>by
        rcases List.mem_cons.1 (hs c hcC) with h' | h'
        · exact absurd (h' ▸ hcC) he
        · exact hE1 c h'
      rw [nstep_same (h0 e (by simp) hlt).symm]
      refine runN_go E C s hE2 hC (fun c hcC=>?_) (fun x hx hxC=>h0 x (by simp [hx]) hxC) (fun c hcC x hx=>hc c hcC x (by simp [hx]))
      rcases List.mem_cons.1 (hs c hcC) with h' | h'
      · exact absurd (h' ▸ hcC) he
      · exact h'
theorem cutsL_mem {l : List HRow} {y : Int} : y ∈ cutsL l ↔ ∃ r ∈ l,y = r.r.x.a ∨ y = r.r.x.b:=by
  unfold cutsL; rw [endsR_mem]
  constructor
  · rintro ⟨s,hs,h⟩; obtain ⟨r,hr,rfl⟩:=List.mem_map.1 hs; exact ⟨r,hr,h⟩
  · rintro ⟨r,hr,h⟩; exact ⟨r.r.x,List.mem_map.2 ⟨r,hr,rfl⟩,h⟩
theorem cutsL_inc (l : List HRow) : (cutsL l).Pairwise (· < ·):=endsR_inc _
theorem cutsL_len (l : List HRow) : (cutsL l).length ≤ 2 * l.length:=by have:=endsR_len (l.map fun r=>r.r.x); rw [List.length_map] at this; exact this
theorem live_same {l : List HRow} {x y : Int} (hxy : x ≤ y) (h : ∀ c ∈ cutsL l,x < c → y < c) : spansH l y = spansH l x:=by
  unfold spansH
  have : ∀ r ∈ l,liveB y r = liveB x r:=fun r hr=>by
    have ha:=h r.r.x.a (cutsL_mem.2 ⟨r,hr, .inl rfl⟩)
    have hb:=h r.r.x.b (cutsL_mem.2 ⟨r,hr, .inr rfl⟩)
    unfold liveB
    have e1 : decide (r.r.x.a ≤ y) = decide (r.r.x.a ≤ x):=decide_eq_decide.2 ⟨fun q=>by omega,fun q=>by omega⟩
    have e2 : decide (y < r.r.x.b) = decide (x < r.r.x.b):=decide_eq_decide.2 ⟨fun q=>by omega,fun q=>by omega⟩
    rw [e1,e2]
  rw [List.filter_congr this]
theorem canon_none : canon [] = []:=by simp [canon,sortA,mergeS]
theorem live_none {l : List HRow} {x : Int} (hg : GoodH l) (h : ∀ c ∈ cutsL l,x < c) : spansH l x = []:=by
  unfold spansH
  have : l.filter (liveB x) = []:=by
    rw [List.filter_eq_nil_iff]
    intro r hr hl
    have ha:=h r.r.x.a (cutsL_mem.2 ⟨r,hr, .inl rfl⟩)
    unfold liveB at hl
    simp at hl; omega
  rw [this]; rfl
theorem norm_eq {l : List HRow} (hg : GoodH l) : normH l = rnormH l:=by
  unfold normH rnormH grpH
  rw [List.flatMap_map]
  congr 1
  funext v
  unfold normG
  simp only
  have ef : rtimesH l v = timesH (ofV l v):=funext fun tx=>rtimes_eq hg v tx
  rw [ef]
  congr 1
  symm
  refine runN_go _ _ _ (cutsL_inc l) (cutsL_inc _) (fun c hc=>?_) (fun e he h=>?_) (fun c hc e he hle h=>?_)
  · obtain ⟨r,hr,h⟩:=cutsL_mem.1 hc
    exact cutsL_mem.2 ⟨r,(List.mem_filter.1 hr).1,h⟩
  · unfold timesH; rw [live_none (hg.of v) h]; exact canon_none
  · unfold timesH; rw [live_same hle h]
end Go.Civ
