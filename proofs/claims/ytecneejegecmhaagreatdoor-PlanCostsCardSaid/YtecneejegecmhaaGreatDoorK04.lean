/- Lemmas. -/
import Derived.Test.YtecneejegecmhaaGreatDoorK03
set_option linter.unusedVariables false
set_option linter.unusedSimpArgs false
set_option linter.unnecessarySimpa false
namespace Go.Civ
open Go.RowKit
def Zkt (M : List Nat) (o : Oper) : Nat:=o.after.toList.foldl (fun s e=>bif Region.binds .any e then s ||| 2 ^ e.on ||| M.getD e.on 0 else s) 0
def waits (M : List Nat) (i j : Nat) : Bool:=(M.getD i 0).testBit j
def Zay (ops : Array Oper) (i : Nat) : Option Nat:=(ops[i]?).bind (·.dst)
def Zh0 : Op → Bool | .select .. =>true | _=>false
structure Plan where
 M : List Nat
 Hp : List Nat
 Hr : List Nat
 Hc : List Nat
 T : List Nat
def Plan.H (p : Plan) : List Nat:=p.Hp ++ p.Hr ++ p.Hc
def ZcC (M : List Nat) : List Nat → Bool
 | a :: b :: r=>waits M b a && ZcC M (b :: r)
 | _=>true
def opB (ops : Array Oper) (p : Plan) (i : Nat) (o : Oper) : Bool:=
 ((((p.M.getD i 0) ||| Zkt p.M o) == Zkt p.M o) && (match o.dst with | some t=>!(o.looksAt ops).contains t | none=>true)) && (o.after.all fun e=>!Region.binds .any e || Nat.blt e.on i) && !Zh0 o.op &&
 (List.range ops.size).all fun j=>(i == j) || (match Zay ops j with
  | none=>true
  | some t=>(o.dst != some t) && (!(o.looksAt ops).contains t ||
    (bif p.H.contains i then (bif p.H.contains j then waits p.M i j else waits p.M j i) else (p.T.contains j || waits p.M i j))))
def Zh1 (ops : List Oper) (p : Plan) : Bool:=
 (List.range ops.length).all (fun i=>p.H.contains i != p.T.contains i) &&
 (ops.zipIdx.all fun x=>opB ops.toArray p x.2 x.1) &&
 p.T.all (fun j=>p.Hc.all fun i=>waits p.M j i) && p.T.Nodup && p.T.all (fun j=>Nat.blt j ops.length)
def Znd (ops : List Oper) (p : Plan) : Bool:=Zh1 ops p && ZcC p.M p.T
def Zbi (p : Plan) (j : Nat) : Bool:=p.Hr.any fun i=>!waits p.M j i
def TL (P : Program) (ops : Array Oper) (p : Plan) (C : World → Prop) (Q : Exit → Env → World → Prop) : List Nat → Env → World → Prop
 | [],ρ,w=>Q .normal ρ w
 | j :: r,ρ,w=>match ops[j]? with
  | some o=>oW P ops o ρ w fun ρ' w'=>(Zbi p j = true → C w') ∧ TL P ops p C Q r ρ' w'
  | none=>False
def TG (P : Program) (ops : Array Oper) (p : Plan) (C : World → Prop) (Q : Exit → Env → World → Prop) : Nat → List Nat → Env → World → Prop
 | 0,R,ρ,w=>R = [] → Q .normal ρ w
 | n + 1,R,ρ,w=>(R = [] → Q .normal ρ w) ∧ ∀ j ∈ R,(∀ i ∈ R,waits p.M j i = false) → match ops[j]? with
  | some o=>oW P ops o ρ w fun ρ' w'=>(Zbi p j = true → C w') ∧ TG P ops p C Q n (R.filter fun i=>i != j) ρ' w'
  | none=>False
section
variable {P : Program} {N : Nat} {ops : List Oper} {p : Plan} {C : World → Prop} {Q : Exit → Env → World → Prop} {ρH : Env}
theorem Zot (M : List Nat) (o : Oper) (j : Nat) (h : (Zkt M o).testBit j = true) : ∃ e ∈ o.after,Region.binds .any e = true ∧ (e.on = j ∨ waits M e.on j = true):=by
 unfold Zkt at h
 have key : ∀ (l : List Edge) (s : Nat),(l.foldl (fun s e=>bif Region.binds .any e then s ||| 2 ^ e.on ||| M.getD e.on 0 else s) s).testBit j = true →
   s.testBit j = true ∨ ∃ e ∈ l,Region.binds .any e = true ∧ (e.on = j ∨ waits M e.on j = true):=by
  intro l
  induction l with
  | nil=>intro s h; exact .inl h
  | cons e l ih=>
   intro s h
   rcases ih _ h with h1 | ⟨e',he',h1⟩
   ·cases hb : Region.binds .any e with
    | false=>simp only [hb,cond_false] at h1; exact .inl h1
    | true=>
     simp only [hb,cond_true,Nat.testBit_or,Bool.or_eq_true,Nat.testBit_two_pow,decide_eq_true_eq] at h1
     rcases h1 with (h1 | h1) | h1
     ·exact .inl h1
     ·exact .inr ⟨e,by simp,hb, .inl h1⟩
     ·exact .inr ⟨e,by simp,hb, .inr h1⟩
   ·exact .inr ⟨e',by simp [he'],h1⟩
 rcases key _ _ h with h | ⟨e,he,h1⟩
 ·simp at h
 ·exact ⟨e,by simpa using he,h1⟩
structure PlanOk (ops : List Oper) (p : Plan) : Prop where
 cover : ∀ i,i < ops.length → (i ∈ p.H ↔ ¬ i ∈ p.T)
 mask : ∀ (i : Nat) o,ops[i]? = some o → ∀ j,waits p.M i j = true → ∃ e ∈ o.after,Region.binds .any e = true ∧ (e.on = j ∨ waits p.M e.on j = true)
 back : ∀ (i : Nat) o,ops[i]? = some o → ∀ e ∈ o.after,Region.binds .any e = true → e.on < i
 self : ∀ (i : Nat) o t,ops[i]? = some o → o.dst = some t → ¬ t ∈ o.looksAt ops.toArray
 nosel : ∀ (i : Nat) o,ops[i]? = some o → ∀ cs b,o.op ≠ .select cs b
 dst : ∀ (i j : Nat) o t,ops[i]? = some o → i ≠ j → Zay ops.toArray j = some t → o.dst ≠ some t
 looksH : ∀ (i j : Nat) o t,ops[i]? = some o → i ≠ j → i ∈ p.H → Zay ops.toArray j = some t → t ∈ o.looksAt ops.toArray → (j ∈ p.H → waits p.M i j = true) ∧ (j ∈ p.T → waits p.M j i = true)
 looksT : ∀ (i j : Nat) o t,ops[i]? = some o → i ≠ j → i ∈ p.T → Zay ops.toArray j = some t → t ∈ o.looksAt ops.toArray → j ∈ p.H → waits p.M i j = true
 calls : ∀ j ∈ p.T,∀ i ∈ p.Hc,waits p.M j i = true
 nodup : p.T.Nodup
 lt : ∀ j ∈ p.T,j < ops.length
theorem Zou (h : Zh1 ops p = true) : PlanOk ops p:=by
 simp only [Zh1,Bool.and_eq_true,List.all_eq_true,List.mem_range,bne_iff_ne,ne_eq] at h
 obtain ⟨⟨⟨⟨h1,h2⟩,h3⟩,h5⟩,h6⟩:=h
 have h2' : ∀ (i : Nat) o,ops[i]? = some o → opB ops.toArray p i o = true:=fun i o ho=>h2 (o,i) (by
  rw [List.mem_zipIdx_iff_getElem?]; exact ho)
 have cov : ∀ i,i < ops.length → (i ∈ p.H ↔ ¬ i ∈ p.T):=fun i hi=>by
  have:=h1 i hi
  constructor
  ·intro hH hT; exact this (by simp [List.contains_eq_mem,hH,hT])
  ·intro hT; apply Classical.byContradiction; intro hH; exact this (by simp [List.contains_eq_mem,hH,hT])
 have look : ∀ (i j : Nat) o t,ops[i]? = some o → i ≠ j → Zay ops.toArray j = some t → o.dst ≠ some t ∧ (t ∈ o.looksAt ops.toArray →
   (i ∈ p.H → (j ∈ p.H → waits p.M i j = true) ∧ (¬ j ∈ p.H → waits p.M j i = true)) ∧ (¬ i ∈ p.H → j ∈ p.T ∨ waits p.M i j = true)):=fun i j o t ho hij ht=>by
  have h:=h2' i o ho
  simp only [opB,Bool.and_eq_true,List.all_eq_true,List.mem_range] at h
  have hj : j < ops.toArray.size:=by
   unfold Zay at ht
   cases hoj : ops.toArray[j]? with
   | none=>rw [hoj] at ht; cases ht
   | some oj=>exact (Array.getElem?_eq_some_iff.1 hoj).1
  have hh:=h.2 j hj
  simp only [beq_iff_eq,hij,Bool.or_eq_true,ht,Bool.and_eq_true,bne_iff_ne,ne_eq,false_or,Bool.not_eq_true'] at hh
  refine ⟨hh.1,fun hl=>?_⟩
  rcases hh.2 with hh2 | hh2
  ·simp at hh2; exact absurd hl hh2
  ·refine ⟨fun hi=>?_,fun hi=>?_⟩
   ·rw [show p.H.contains i = true by simpa using hi] at hh2
    refine ⟨fun hj=>?_,fun hj=>?_⟩
    ·rw [show p.H.contains j = true by simpa using hj] at hh2; exact hh2
    ·rw [show p.H.contains j = false by simpa using hj] at hh2; exact hh2
   ·rw [show p.H.contains i = false by simpa using hi] at hh2
    simpa using hh2
 refine ⟨cov,fun i o ho j hw=>?_,fun i o ho e he hb=>?_,fun i o t ho ht hl=>?_,fun i o ho cs b heq=>?_,fun i j o t ho hij ht=>(look i j o t ho hij ht).1,fun i j o t ho hij hi ht hl=>?_,fun i j o t ho hij hi ht hl hj=>?_,h3,by simpa using h5,fun j hj=>by simpa using h6 j hj⟩
 ·have h:=h2' i o ho
  simp only [opB,Bool.and_eq_true,beq_iff_eq] at h
  refine Zot p.M o j ?_
  rw [← h.1.1.1.1,Nat.testBit_or,Bool.or_eq_true]
  exact .inl hw
 ·have h:=h2' i o ho
  simp only [opB,Bool.and_eq_true] at h
  obtain ⟨k,hk,rfl⟩:=Array.mem_iff_getElem.1 he
  have:=Array.all_eq_true.1 h.1.1.2 k hk
  simpa [hb] using this
 ·have h:=h2' i o ho
  simp only [opB,Bool.and_eq_true] at h
  have:=h.1.1.1.2
  rw [ht] at this
  simp at this
  exact this hl
 ·have h:=h2' i o ho
  simp only [opB,Bool.and_eq_true] at h
  have:=h.1.2
  rw [heq] at this; simp [Zh0] at this
 ·have:=((look i j o t ho hij ht).2 hl).1 hi
  refine ⟨this.1,fun hj=>this.2 fun hjH=>?_⟩
  have hjl : j < ops.length:=by
   unfold Zay at ht
   cases hoj : ops.toArray[j]? with
   | none=>rw [hoj] at ht; cases ht
   | some oj=>simpa using (Array.getElem?_eq_some_iff.1 hoj).1
  exact (cov j hjl).1 hjH hj
 ·have hil : i < ops.length:=(List.getElem?_eq_some_iff.1 ho).1
  have hjl : j < ops.length:=by
   unfold Zay at ht
   cases hoj : ops.toArray[j]? with
   | none=>rw [hoj] at ht; cases ht
   | some oj=>simpa using (Array.getElem?_eq_some_iff.1 hoj).1
  rcases ((look i j o t ho hij ht).2 hl).2 (fun hiH=>(cov i hil).1 hiH hi) with h | h
  ·exact absurd h ((cov j hjl).1 hj)
  ·exact h
def Zkv (ops : List Oper) (listed : Array Bool) : Prop:=∀ (i : Nat) o,ops[i]? = some o → listed.getD i false = true → ∀ e ∈ o.after,Region.binds .any e = true → listed.getD e.on false = true
theorem Zkv.waits (ok : PlanOk ops p) {listed : Array Bool} (hc : Zkv ops listed) : ∀ (i : Nat),i < ops.length → listed.getD i false = true → ∀ j,waits p.M i j = true → listed.getD j false = true:=by
 intro i
 induction i using Nat.strongRecOn with
 | _ i ih=>
  intro hi hl j hw
  have ho : ops[i]? = some ops[i]:=List.getElem?_eq_getElem hi
  obtain ⟨e,he,hb,h⟩:=ok.mask i _ ho j hw
  have hlt:=ok.back i _ ho e he hb
  have hel:=hc i _ ho hl e he hb
  rcases h with rfl | h
  ·exact hel
  ·exact ih e.on hlt (by omega) hel j h
theorem ZbI {o : Oper} {ρ ρ' : Env} {w : World} {K K' : Env → World → Prop} {ops : Array Oper} (hs : ∀ cs b,o.op ≠ .select cs b) (h : ∀ t,t ∈ o.looksAt ops → ρ t = ρ' t)
  (hK : ∀ v w',K (XH ρ o.dst v) w' → K' (XH ρ' o.dst v) w') (hh : oW P ops o ρ w K) : oW P ops o ρ' w K':=by
 have hw : Region.wanted o (Zu ops ρ') = Region.wanted o (Zu ops ρ):=by
  unfold Region.wanted
  cases hg : o.guard with
  | none=>rfl
  | some q=>
   have : Zu ops ρ' q.1 = Zu ops ρ q.1:=by
    unfold Zu
    cases hd : (ops[q.1]?).bind (·.dst) with
    | none=>rfl
    | some t=>
     simp only
     rw [h t]
     unfold Oper.looksAt
     refine List.mem_append_right _ ?_
     simp [hg,hd]
   simp [this]
 have he : execOp (ev ρ') o = execOp (ev ρ) o:=(execOp_congr o hs fun x hx=>by
  cases x with
  | tmp t=>
   refine (h t ?_).symm
   unfold Oper.looksAt
   refine List.mem_append_left _ (List.mem_filterMap.2 ⟨.tmp t,by simpa using hx,rfl⟩)
  | _=>rfl)
 unfold oW at hh ⊢
 rw [hw,he]
 cases hwb : Region.wanted o (Zu ops ρ) <;> simp only [hwb] at hh ⊢
 ·exact hK _ _ hh
 ·exact Zbg.mono hK hh
theorem Zkw {l : Array Bool} {i j : Nat} (d : Bool) (h : i ≠ j) : (l.setIfInBounds i true).getD j d = l.getD j d:=by
 simp only [Array.getD_eq_getD_getElem?,Array.getElem?_setIfInBounds,if_neg h]
theorem Zkx {l : Array Bool} {i : Nat} (d : Bool) (h : i < l.size) : (l.setIfInBounds i true).getD i d = true:=by
 simp [h]
theorem Zky {l : Array Bool} {i : Nat} {d d' : Bool} (h : i < l.size) : l.getD i d = l.getD i d':=by simp [h]
structure Mid (P : Program) (ops : List Oper) (p : Plan) (C : World → Prop) (Q : Exit → Env → World → Prop) (ρH : Env) (listed : Array Bool) (ρ : Env) (w : World) (R : List Nat) (ρf : Env) : Prop where
 size : listed.size = ops.length
 closed : Zkv ops listed
 sub : ∀ j,j ∈ R → j ∈ p.T
 tdone : ∀ j,j ∈ p.T → (listed.getD j false = true ↔ ¬ j ∈ R)
 slots : ∀ t,(∃ i ∈ p.H,listed.getD i false = false ∧ i < ops.length ∧ Zay ops.toArray i = some t) ∨ ρ t = ρf t
 base : ∀ t,ρf t = ρH t ∨ ∃ (j : Nat),j ∈ p.T ∧ ¬ j ∈ R ∧ Zay ops.toArray j = some t
 first : R = p.T → C w ∧ ρf = ρH ∧ ∀ w,C w → TG P ops.toArray p C Q p.T.length p.T ρH w
 goes : ∃ n,R.length ≤ n ∧ TG P ops.toArray p C Q n R ρf w
 cls : (∃ i ∈ p.Hr,listed.getD i false = false ∧ i < ops.length) → C w
 fresh : R ≠ p.T → ∀ i ∈ p.Hc,listed.getD i false = true
structure Hold (P : Program) (ops : List Oper) (p : Plan) (C : World → Prop) (ρH : Env) : Prop where
 pure : ∀ i ∈ p.Hp,∀ o,ops[i]? = some o → ∀ w,oW P ops.toArray o ρH w fun ρ' w'=>ρ' = ρH ∧ w' = w
 read : ∀ i ∈ p.Hr,∀ o,ops[i]? = some o → ∀ w,C w → oW P ops.toArray o ρH w fun ρ' w'=>ρ' = ρH ∧ w' = w
 call : ∀ i ∈ p.Hc,∀ o,ops[i]? = some o → ∀ w,C w → oW P ops.toArray o ρH w fun ρ' w'=>ρ' = ρH ∧ C w'
theorem ZeH {i : Nat} {o : Oper} (ho : ops[i]? = some o) : Zay ops.toArray i = o.dst:=by unfold Zay; simp [ho]
theorem Mid.step (ok : PlanOk ops p) (hold : Hold P ops p C ρH) {listed : Array Bool} {ρ : Env} {w : World} {R : List Nat} {ρf : Env} (h : Mid P ops p C Q ρH listed ρ w R ρf) (i : Nat) (o : Oper) (ho : ops[i]? = some o)
  (hun : listed.getD i false = false) (hdep : ∀ e ∈ o.after,Region.binds .any e = true → listed.getD e.on false = true) :
  oW P ops.toArray o ρ w fun ρ' w'=>∃ m' ρf',Mid P ops p C Q ρH (listed.setIfInBounds i true) ρ' w' m' ρf':=by
 have hi : i < ops.length:=(List.getElem?_eq_some_iff.1 ho).1
 have his : i < listed.size:=by rw [h.size]; exact hi
 have hwt : ∀ j,waits p.M i j = true → listed.getD j false = true:=fun j hw=>by
  obtain ⟨e,he,hb,h'⟩:=ok.mask i o ho j hw
  have hel:=hdep e he hb
  rcases h' with rfl | h'
  ·exact hel
  ·exact h.closed.waits ok e.on (by have:=ok.back i o ho e he hb; omega) hel j h'
 have hset : ∀ j,j ≠ i → (listed.setIfInBounds i true).getD j false = listed.getD j false:=fun j hj=>Zkw false (Ne.symm hj)
 have hseti : (listed.setIfInBounds i true).getD i false = true:=Zkx false his
 have hclosed : Zkv ops (listed.setIfInBounds i true):=fun j oj hoj hl e he hb=>by
  by_cases hij : j = i
  ·subst hij
   have : oj = o:=Option.some.inj (hoj.symm.trans ho)
   subst this
   have:=hdep e he hb
   by_cases hei : e.on = j
   ·rw [hei]; exact hseti
   ·rw [hset _ hei]; exact this
  ·rw [hset _ hij] at hl
   have:=h.closed j oj hoj hl e he hb
   by_cases hei : e.on = i
   ·rw [hei]; exact hseti
   ·rw [hset _ hei]; exact this
 by_cases hiT : i ∈ p.T
 ·
  have hiR : i ∈ R:=by
   apply Classical.byContradiction
   intro hn
   rw [(h.tdone i hiT).2 hn] at hun; cases hun
  have hav : ∀ q ∈ R,waits p.M i q = false:=fun q hq=>by
   cases hw : waits p.M i q with
   | false=>rfl
   | true=>exact absurd hq ((h.tdone q (h.sub q hq)).1 (hwt q hw))
  obtain ⟨n,hn,hg⟩:=h.goes
  obtain ⟨n,rfl⟩ : ∃ k,n = k + 1:=⟨n - 1,by have:=List.length_pos_of_mem hiR; omega⟩
  simp only [TG] at hg
  have hg:=hg.2 i hiR hav
  simp only [List.getElem?_toArray,ho] at hg
  have hlen : (R.filter fun q=>q != i).length ≤ n:=by
   have:=List.length_filter_lt_length_iff_exists.2 (⟨i,hiR,by simp⟩ : ∃ x ∈ R,¬ (fun q=>q != i) x = true)
   omega
  have hmem : ∀ q,q ∈ (R.filter fun q=>q != i) ↔ q ∈ R ∧ q ≠ i:=fun q=>by simp
  have hcalls : ∀ q ∈ p.Hc,listed.getD q false = true:=fun q hq=>hwt q (ok.calls i hiT q hq)
  have hiH : ¬ i ∈ p.H:=fun hh=>(ok.cover i hi).1 hh hiT
  refine ZbI (ρ:=ρf) (ok.nosel i o ho) (fun t ht=>?_) (fun v w' hK=>?_) hg
  ·rcases h.slots t with ⟨q,hq,hql,hqn,hqt⟩ | hs
   ·have hqi : i ≠ q:=fun e=>hiH (e ▸ hq)
    have:=ok.looksT i q o t ho hqi hiT hqt ht hq
    rw [hwt q this] at hql; cases hql
   ·exact hs.symm
  ·refine ⟨R.filter fun q=>q != i,XH ρf o.dst v,by simp [h.size],hclosed,fun j hj=>h.sub j ((hmem j).1 hj).1,fun j hj=>?_,fun t=>?_,fun t=>?_,fun h0=>absurd hiT (by rw [← h0,hmem]; exact fun z=>z.2 rfl),⟨n,hlen,hK.2⟩,fun ⟨q,hq,hql,hqn⟩=>?_,fun _ q hq=>?_⟩
   ·rw [hmem]
    by_cases hji : j = i
    ·subst hji; simp [hseti]
    ·rw [hset _ hji,h.tdone j hj]
     exact ⟨fun a b=>a b.1,fun a b=>a ⟨b,hji⟩⟩
   ·rcases h.slots t with ⟨q,hq,hql,hqn,hqt⟩ | hs
    ·have hqi : q ≠ i:=fun e=>hiH (e ▸ hq)
     exact .inl ⟨q,hq,by rw [hset _ hqi]; exact hql,hqn,hqt⟩
    ·refine .inr ?_
     cases hd : o.dst with
     | none=>simpa [XH,hd] using hs
     | some d=>simp only [XH,ZQ]; cases Nat.beq t d <;> simp [hs]
   ·cases hd : o.dst with
    | none=>
     simp only [XH]
     rcases h.base t with hb | ⟨j,h1,h2,h3⟩
     ·exact .inl hb
     ·exact .inr ⟨j,h1,fun z=>h2 ((hmem j).1 z).1,h3⟩
    | some d=>
     by_cases htd : t = d
     ·subst htd; exact .inr ⟨i,hiT,fun z=>((hmem i).1 z).2 rfl,by rw [ZeH ho]; exact hd⟩
     ·have e : XH ρf (some d) v t = ρf t:=by simp only [XH,ZQ]; rw [show Nat.beq t d = false from by cases hb : Nat.beq t d with | true=>exact absurd (Nat.eq_of_beq_eq_true hb) htd | false=>rfl]; rfl
      rcases h.base t with hb | ⟨j,h1,h2,h3⟩
      ·exact .inl (e.trans hb)
      ·exact .inr ⟨j,h1,fun z=>h2 ((hmem j).1 z).1,h3⟩
   ·have hqi : q ≠ i:=fun e=>hiH (by subst e; simp [Plan.H,hq])
    rw [hset _ hqi] at hql
    refine hK.1 ?_
    unfold Zbi
    rw [List.any_eq_true]
    refine ⟨q,hq,?_⟩
    cases hwq : waits p.M i q with
    | false=>rfl
    | true=>rw [hwt q hwq] at hql; cases hql
   ·by_cases hqi : q = i
    ·subst hqi; exact hseti
    ·rw [hset _ hqi]; exact hcalls q hq
 ·
  have hiH : i ∈ p.H:=(ok.cover i hi).2 hiT
  have hops : ∀ t,t ∈ o.looksAt ops.toArray → ρH t = ρ t:=fun t ht=>by
   have h1 : ρ t = ρf t:=by
    rcases h.slots t with ⟨q,hq,hql,hqn,hqt⟩ | hs
    ·by_cases hqi : i = q
     ·subst hqi
      rw [ZeH ho] at hqt
      exact absurd ht (ok.self i o t ho hqt)
     ·have:=(ok.looksH i q o t ho hqi hiH hqt ht).1 hq
      rw [hwt q this] at hql; cases hql
    ·exact hs
   rcases h.base t with hb | ⟨j,hjT,hjR,hjt⟩
   ·rw [h1,hb]
   ·have hij : i ≠ j:=fun e=>hiT (e ▸ hjT)
    have hwj:=(ok.looksH i j o t ho hij hiH hjt ht).2 hjT
    have hjl : listed.getD j false = true:=(h.tdone j hjT).2 hjR
    have:=h.closed.waits ok j (ok.lt j hjT) hjl i hwj
    rw [this] at hun; cases hun
  have fin : ∀ v w',XH ρH o.dst v = ρH → (w' = w ∨ (R = p.T ∧ C w')) → ∃ m' ρf',Mid P ops p C Q ρH (listed.setIfInBounds i true) (XH ρ o.dst v) w' m' ρf':=fun v w' hv hw'=>by
   refine ⟨R,ρf,by simp [h.size],hclosed,h.sub,fun j hj=>?_,fun t=>?_,h.base,fun h0=>?_,?_,fun ⟨q,hq,hql,hqn⟩=>?_,fun hm q hq=>?_⟩
   ·have hji : j ≠ i:=fun e=>hiT (e ▸ hj)
    rw [hset _ hji]; exact h.tdone j hj
   ·cases hd : o.dst with
    | none=>
     simp only [XH]
     rcases h.slots t with ⟨q,hq,hql,hqn,hqt⟩ | hs
     ·by_cases hqi : q = i
      ·subst hqi; rw [ZeH ho,hd] at hqt; cases hqt
      ·exact .inl ⟨q,hq,by rw [hset _ hqi]; exact hql,hqn,hqt⟩
     ·exact .inr hs
    | some d=>
     by_cases htd : t = d
     ·subst htd
      refine .inr ?_
      have e1 : XH ρ (some t) v t = v:=by simp [XH,ZQ]
      have e2 : ρH t = v:=by rw [← hv,hd]; simp [XH,ZQ]
      rw [e1,← e2]
      rcases h.base t with hb | ⟨j,hjT,hjR,hjt⟩
      ·exact hb.symm
      ·have hij : i ≠ j:=fun e=>hiT (e ▸ hjT)
       exact absurd hd (ok.dst i j o t ho hij hjt)
     ·have e : XH ρ (some d) v t = ρ t:=by simp only [XH,ZQ]; rw [show Nat.beq t d = false from by cases hb : Nat.beq t d with | true=>exact absurd (Nat.eq_of_beq_eq_true hb) htd | false=>rfl]; rfl
      rcases h.slots t with ⟨q,hq,hql,hqn,hqt⟩ | hs
      ·by_cases hqi : q = i
       ·subst hqi; rw [ZeH ho,hd] at hqt; exact absurd (Option.some.inj hqt).symm htd
       ·exact .inl ⟨q,hq,by rw [hset _ hqi]; exact hql,hqn,hqt⟩
      ·exact .inr (e.trans hs)
   ·obtain ⟨f1,f2,f3⟩:=h.first h0
    rcases hw' with rfl | ⟨_,hw'⟩
    ·exact ⟨f1,f2,f3⟩
    ·exact ⟨hw',f2,f3⟩
   ·rcases hw' with rfl | ⟨h0,hw'⟩
    ·exact h.goes
    ·obtain ⟨f1,f2,f3⟩:=h.first h0
     subst h0; rw [f2]; exact ⟨_,Nat.le_refl _,f3 w' hw'⟩
   ·rcases hw' with rfl | ⟨h0,hw'⟩
    ·by_cases hqi : q = i
     ·subst hqi; rw [hseti] at hql; cases hql
     ·exact h.cls ⟨q,hq,by rw [hset _ hqi] at hql; exact hql,hqn⟩
    ·exact hw'
   ·by_cases hqi : q = i
    ·subst hqi; exact hseti
    ·rw [hset _ hqi]; exact h.fresh hm q hq
  have hcase : i ∈ p.Hp ∨ i ∈ p.Hr ∨ i ∈ p.Hc:=by simpa [Plan.H,or_assoc] using hiH
  rcases hcase with hc | hc | hc
  ·exact ZbI (ok.nosel i o ho) hops (fun v w' ⟨h1,h2⟩=>fin v w' h1 (.inl h2)) (hold.pure i hc o ho w)
  ·exact ZbI (ok.nosel i o ho) hops (fun v w' ⟨h1,h2⟩=>fin v w' h1 (.inl h2)) (hold.read i hc o ho w (h.cls ⟨i,hc,hun,hi⟩))
  ·have hm0 : R = p.T:=by
    apply Classical.byContradiction
    intro h0
    have:=h.fresh h0 i hc
    rw [this] at hun; cases hun
   exact ZbI (ok.nosel i o ho) hops (fun v w' ⟨h1,h2⟩=>fin v w' h1 (.inr ⟨hm0,h2⟩)) (hold.call i hc o ho w (h.first hm0).1)
theorem Zkz (hN : ops.all (Zcq N) = true) (ok : PlanOk ops p) (hold : Hold P ops p C ρH) : ∀ (fuel : Nat) (listed : Array Bool) (a : Act) (ρ : Env) (w : World) (m : List Nat) (ρf : Env),Fits N a ρ → Mid P ops p C Q ρH listed ρ w m ρf →
  fuel + (listed.toList.filter (· = true)).length = ops.length → wpAny P .any ops.toArray (up N Q) fuel listed a w:=by
 have done : ∀ (listed : Array Bool) (a : Act) (ρ : Env) (w : World) (m : List Nat) (ρf : Env),Fits N a ρ → Mid P ops p C Q ρH listed ρ w m ρf → Region.ready .any ops.toArray listed = [] → up N Q .normal a w:=by
  intro listed a ρ w m ρf ha h hr
  have all : ∀ i,i < ops.length → listed.getD i false = true:=by
   intro i
   induction i using Nat.strongRecOn with
   | _ i ih=>
    intro hi
    apply Classical.byContradiction
    intro hun
    have ho : ops[i]? = some ops[i]:=List.getElem?_eq_getElem hi
    have hin : i ∈ Region.ready .any ops.toArray listed:=mem_ready.2 ⟨by
     have : listed.getD i false = false:=by simpa using hun
     rw [← this]; exact Zky (by rw [h.size]; exact hi),ops[i],by simp,fun e he hb=>by
      have hlt:=ok.back i _ ho e he hb
      exact ih e.on hlt (by omega)⟩
    rw [hr] at hin; cases hin
  have hm : m = []:=by
   rw [List.eq_nil_iff_forall_not_mem]
   intro q hq
   have hqT:=h.sub q hq
   exact (h.tdone q hqT).1 (all q (ok.lt q hqT)) hq
  obtain ⟨n,_,hg⟩:=h.goes
  have hg : Q .normal ρf w:=by cases n with
   | zero=>exact hg hm
   | succ n=>exact hg.1 hm
  have hρ : ρ = ρf:=funext fun t=>by
   rcases h.slots t with ⟨q,hq,hql,hqn,_⟩ | hs
   ·rw [all q hqn] at hql; cases hql
   ·exact hs
  exact ⟨ρ,ha,by rw [hρ]; exact hg⟩
 intro fuel
 induction fuel with
 | zero=>
  intro listed a ρ w m ρf ha h hf
  have hr : Region.ready .any ops.toArray listed = []:=by
   rw [List.eq_nil_iff_forall_not_mem]
   intro i hi
   obtain ⟨h1,o,ho,_⟩:=mem_ready.1 hi
   have hi' : i < listed.toList.length:=by rw [Array.length_toList,h.size]; simpa using (Array.getElem?_eq_some_iff.1 ho).1
   have hsz:=h.size
   have hlen : (listed.toList.filter (· = true)).length = listed.toList.length:=by
    have : listed.toList.length = ops.length:=by rw [Array.length_toList,hsz]
    omega
   have:=(List.length_filter_eq_length_iff.1 hlen) listed.toList[i] (List.getElem_mem hi')
   have h2 : listed.getD i true = listed.toList[i]:=by simp at hi'; simp [hi']
   rw [h2] at h1; simp [h1] at this
  exact ⟨hr,done listed a ρ w m ρf ha h hr⟩
 | succ fuel ih=>
  intro listed a ρ w m ρf ha h hf
  refine ⟨fun hr=>done listed a ρ w m ρf ha h hr,fun i hi=>?_⟩
  obtain ⟨h1,o,ho,hdep⟩:=mem_ready.1 hi
  have ho' : ops[i]? = some o:=by simpa using ho
  have hin : i < ops.length:=(List.getElem?_eq_some_iff.1 ho').1
  have his : i < listed.size:=by rw [h.size]; exact hin
  have hun : listed.getD i false = false:=by rw [← h1]; exact Zky his
  have hst:=h.step ok hold i o ho' hun hdep
  have hdN : Zcq N o = true:=List.all_eq_true.1 hN o (List.mem_of_getElem? ho')
  have hcount : ((listed.setIfInBounds i true).toList.filter (· = true)).length = (listed.toList.filter (· = true)).length + 1:=by
   rw [Array.toList_setIfInBounds]
   have hl : i < listed.toList.length:=by simpa using his
   have hli : listed.toList[i] = false:=by simpa [his] using hun
   have e1 : listed.toList = listed.toList.take i ++ false :: listed.toList.drop (i + 1):=by
    rw [← hli,List.getElem_cons_drop,List.take_append_drop]
   have e2 : listed.toList.set i true = listed.toList.take i ++ true :: listed.toList.drop (i + 1):=by
    rw [List.set_eq_take_append_cons_drop,if_pos hl]
   rw [e2]
   conv=>rhs; rw [e1]
   simp; omega
  unfold wpOp
  simp only [ho]
  rw [ZiU ha]
  unfold oW at hst
  cases hw : Region.wanted o (Zu ops.toArray ρ) <;> simp only [hw] at hst
  ·rw [if_neg (by simp)]
   obtain ⟨m',ρf',hm⟩:=hst
   exact ih _ _ _ _ m' ρf' (ha.putO hdN undef) hm (by omega)
  ·rw [if_pos rfl]
   exact .inl (Zfw ha hdN (fun ρ' a' w' hf' ⟨m',ρf',hm⟩=>ih _ _ ρ' w' m' ρf' hf' hm (by omega)) hst)
def Zvc (P : Program) (ops : List Oper) (ρH : Env) (pre : World → Prop) (post : World → World → Prop) : List Nat → Prop
 | []=>True
 | i :: r=>(match ops[i]? with
  | some o=>∀ w,pre w → OW P ops.toArray o ρH w (fun ρ' w'=>ρ' = ρH ∧ post w w')
  | none=>False) ∧ Zvc P ops ρH pre post r
theorem Zvc.get {pre : World → Prop} {post : World → World → Prop} : ∀ {l : List Nat},Zvc P ops ρH pre post l → ∀ i ∈ l,∀ o,ops[i]? = some o → ∀ w,pre w → oW P ops.toArray o ρH w fun ρ' w'=>ρ' = ρH ∧ post w w'
 | [],_,i,hi=>nomatch hi
 | j :: r,h,i,hi=>fun o ho w hw=>by
  rcases List.mem_cons.1 hi with rfl | hi
  ·have:=h.1
   rw [ho] at this
   exact (this w hw).h
  ·exact h.2.get i hi o ho w hw
theorem Zk0 {id : Nat} {ρ : Env} {w : World} (p : Plan) (C : World → Prop) (hm : P.follows .mixedOrders = true) (hN : ops.all (Zcq N) = true) (ok : PlanOk ops p)
  (hC : C { w with drawn:=w.drawn + 1 }) (ρH : Env) (hslots : ∀ t,(∃ i ∈ p.H,Zay ops.toArray i = some t) ∨ ρ t = ρH t)
  (hold : Hold P ops p C ρH)
  (hT : ∀ w,C w → TG P ops.toArray p C Q p.T.length p.T ρH w) : WC P N (.region id ops.toArray true) Q ρ w:=by
 intro a ha
 refine wp_region_any hm ?_
 have hrep : ∀ (j : Nat),(Array.replicate ops.length false).getD j false = false:=fun j=>by
  simp only [Array.getD_eq_getD_getElem?,Array.getElem?_replicate]; split <;> rfl
 refine Zkz (ρH:=ρH) (ρ:=ρ) (m:=p.T) (ρf:=ρH) hN ok hold _ _ _ _ ha ⟨by simp,(fun i o _ hl=>by rw [List.size_toArray,hrep] at hl; exact absurd hl (by simp)),fun j hj=>hj,fun j hj=>by simp only [List.size_toArray,hrep]; simp [hj],fun t=>?_,fun t=> .inl rfl,fun _=>⟨hC,rfl,hT⟩,⟨_,Nat.le_refl _,hT _ hC⟩,fun _=>hC,fun h=>absurd rfl h⟩ (by simp)
 rcases hslots t with ⟨i,hi,hd⟩ | h
 ·refine .inl ⟨i,hi,by simp only [List.size_toArray,hrep],?_,hd⟩
  unfold Zay at hd
  cases hoj : ops.toArray[i]? with
  | none=>rw [hoj] at hd; cases hd
  | some oj=>simpa using (Array.getElem?_eq_some_iff.1 hoj).1
 ·exact .inr h
theorem Zh2 {M : List Nat} : ∀ {l : List Nat} {a : Nat},ZcC M (a :: l) = true → ∀ j ∈ l,∃ i ∈ a :: l,waits M j i = true
 | [],_,_,j,hj=>by cases hj
 | b :: l,a,h,j,hj=>by
  simp only [ZcC,Bool.and_eq_true] at h
  rcases List.mem_cons.1 hj with rfl | hj
  ·exact ⟨a,by simp,h.1⟩
  ·obtain ⟨i,hi,hw⟩:=Zh2 h.2 j hj
   exact ⟨i,List.mem_cons_of_mem _ hi,hw⟩
theorem Zne {M : List Nat} {a : Nat} {l : List Nat} (h : ZcC M (a :: l) = true) : ZcC M l = true:=by
 cases l with
 | nil=>rfl
 | cons b l=>simp only [ZcC,Bool.and_eq_true] at h; exact h.2
theorem TG.of_TL (hs : ∀ (i : Nat) o,ops[i]? = some o → ∀ cs b,o.op ≠ .select cs b) : ∀ (l : List Nat) (n : Nat) (ρ : Env) (w : World),ZcC p.M l = true → l.Nodup → l.length ≤ n → TL P ops.toArray p C Q l ρ w → TG P ops.toArray p C Q n l ρ w
 | [],0,ρ,w,_,_,_,h=>fun _=>h
 | [],n + 1,ρ,w,_,_,_,h=>⟨fun _=>h,fun j hj=>by cases hj⟩
 | a :: l,0,ρ,w,_,_,hn,_=>by simp at hn
 | a :: l,n + 1,ρ,w,hc,hd,hn,h=>by
  refine ⟨fun z=>absurd z (by simp),fun j hj hav=>?_⟩
  have hja : j = a:=by
   rcases List.mem_cons.1 hj with e | hl
   ·exact e
   ·obtain ⟨i,hi,hw⟩:=Zh2 hc j hl
    rw [hav i hi] at hw; cases hw
  subst hja
  have hnot : ¬ j ∈ l:=(List.nodup_cons.1 hd).1
  have hf : (j :: l).filter (fun i=>i != j) = l:=by
   rw [List.filter_cons_of_neg (by simp),List.filter_eq_self]
   intro i hi; simp; exact fun e=>hnot (e ▸ hi)
  simp only [TL] at h
  rw [hf]
  cases ho : ops.toArray[j]? with
  | none=>rw [ho] at h; exact h
  | some o=>
   rw [ho] at h
   exact ZbI (hs j o (by simpa using ho)) (fun _ _=>rfl) (fun v w' hK=>⟨hK.1,TG.of_TL hs l n _ _ (Zne hc) (List.nodup_cons.1 hd).2 (by simpa using hn) hK.2⟩) h
def ZbY (o : Oper) : Nat:=match o.op with
 | .load _ _=>1
 | .call c=>match c.callee with
  | .builtin _=>0
  | _=>2
 | _=>0
def Zt7 (ops : List Oper) : List Nat:=ops.foldl (fun M o=>M ++ [Zkt M o]) []
def Zdp (T : List Nat) (k : Nat) : Nat → List Oper → List Nat
 | _,[]=>[]
 | i,o :: r=>bif Zbu i T then Zdp T k (i + 1) r else bif Nat.beq (ZbY o) k then i :: Zdp T k (i + 1) r else Zdp T k (i + 1) r
def ZaM (ops : List Oper) (T : List Nat) : Plan:=⟨Zt7 ops,Zdp T 0 0 ops,Zdp T 1 0 ops,Zdp T 2 0 ops,T⟩
theorem Zqx (o : Oper) : ZbY o = 0 ∨ ZbY o = 1 ∨ ZbY o = 2:=by
 unfold ZbY
 split
 ·exact .inr (.inl rfl)
 ·split
  ·exact .inl rfl
  ·exact .inr (.inr rfl)
 ·exact .inl rfl
theorem Zct {n : Nat} : ∀ {l : List Nat},Zbu n l = true ↔ n ∈ l
 | []=>by simp [Zbu]
 | x :: r=>by
  unfold Zbu
  cases hb : Nat.beq x n with
  | true=>have:=Nat.eq_of_beq_eq_true hb; subst this; simp
  | false=>
   have hne : x ≠ n:=Nat.ne_of_beq_eq_false hb
   simp only [cond_false,List.mem_cons,Zct (l:=r)]
   constructor
   ·exact .inr
   ·rintro (h | h)
    ·exact absurd h.symm hne
    ·exact h
theorem ZgY (T : List Nat) (k : Nat) : ∀ (l : List Oper) (s i : Nat),i ∈ Zdp T k s l ↔ ∃ j o,i = s + j ∧ l[j]? = some o ∧ ¬ i ∈ T ∧ ZbY o = k
 | [],s,i=>by simp [Zdp]
 | o :: r,s,i=>by
  have ih:=ZgY T k r (s + 1) i
  have step : (∃ j o',i = s + j ∧ (o :: r)[j]? = some o' ∧ ¬ i ∈ T ∧ ZbY o' = k) ↔ (i = s ∧ ¬ s ∈ T ∧ ZbY o = k) ∨ i ∈ Zdp T k (s + 1) r:=by
   rw [ih]
   constructor
   ·rintro ⟨j,o',rfl,h1,h2,h3⟩
    cases j with
    | zero=>simp at h1; subst h1; exact .inl ⟨rfl,h2,h3⟩
    | succ j=>exact .inr ⟨j,o',by omega,by simpa using h1,h2,h3⟩
   ·rintro (⟨rfl,h2,h3⟩ | ⟨j,o',rfl,h1,h2,h3⟩)
    ·exact ⟨0,o,rfl,rfl,h2,h3⟩
    ·exact ⟨j + 1,o',by omega,by simpa using h1,h2,h3⟩
  rw [step]
  simp only [Zdp]
  cases hm : Zbu s T with
  | true=>
   have hm':=Zct.1 hm
   simp only [cond_true]
   exact ⟨.inr,fun h=>h.resolve_left fun h=>h.2.1 hm'⟩
  | false=>
   have hm' : ¬ s ∈ T:=fun h=>by rw [Zct.2 h] at hm; cases hm
   cases hk : Nat.beq (ZbY o) k with
   | true=>
    have hk':=Nat.eq_of_beq_eq_true hk
    simp only [cond_true,cond_false,List.mem_cons]
    exact ⟨fun h=>h.imp_left fun h=>⟨h,hm',hk'⟩,fun h=>h.imp_left fun h=>h.1⟩
   | false=>
    have hk':=Nat.ne_of_beq_eq_false hk
    simp only [cond_false]
    exact ⟨.inr,fun h=>h.resolve_left fun h=>hk' h.2.2⟩
def Zh3 (F : FTab P) (ops : List Oper) (ρ : Env) (o : Oper) : Option Value:=match Region.wanted o (Zu ops.toArray ρ) with
 | false=>some undef
 | true=>ZeG F ρ o
def Q2 (F : FTab P) (ops : List Oper) (T : List Nat) (hv : List (Nat × Value)) : Nat → List Oper → Env → Env
 | _,[],ρ=>ρ
 | i,o :: r,ρ=>match Zbu i T with
  | true=>Q2 F ops T hv (i + 1) r ρ
  | false=>match o.dst with
   | some d=>Q2 F ops T hv (i + 1) r (ZQ ρ d (match ZeF d hv with
    | some v=>v
    | none=>match Zh3 F ops ρ o with
     | some v=>v
     | none=>undef))
   | none=>Q2 F ops T hv (i + 1) r ρ
def ZeI (hv : List (Nat × Value)) (o : Oper) : Bool:=match o.dst with
 | some d=>(ZeF d hv).isSome
 | none=>false
def Zc5 (F : FTab P) (ops : List Oper) (T : List Nat) (hv : List (Nat × Value)) (ρH : Env) : Nat → List Oper → List (Option Value)
 | _,[]=>[]
 | i,o :: r=>match Zbu i T,ZeI hv o with
  | false,false=>Zh3 F ops ρH o :: Zc5 F ops T hv ρH (i + 1) r
  | _,_=>Zc5 F ops T hv ρH (i + 1) r
def Zc6 (T : List Nat) (hv : List (Nat × Value)) (ρH : Env) : Nat → List Oper → List (Option Value)
 | _,[]=>[]
 | i,o :: r=>match Zbu i T,ZeI hv o with
  | false,false=>(match o.dst with
   | some d=>some (ρH d)
   | none=>some undef) :: Zc6 T hv ρH (i + 1) r
  | _,_=>Zc6 T hv ρH (i + 1) r
def obl (P : Program) (ops : List Oper) (C : World → Prop) (ρH : Env) (o : Oper) : Prop:=match ZbY o with
 | 0=>∀ w,OW P ops.toArray o ρH w (fun ρ' w'=>ρ' = ρH ∧ w' = w)
 | 1=>∀ w,C w → OW P ops.toArray o ρH w (fun ρ' w'=>ρ' = ρH ∧ w' = w)
 | _=>∀ w,C w → OW P ops.toArray o ρH w (fun ρ' w'=>ρ' = ρH ∧ C w')
def Zeb (P : Program) (ops : List Oper) (C : World → Prop) (T : List Nat) (hv : List (Nat × Value)) (ρH : Env) : Nat → List Oper → Prop
 | _,[]=>True
 | i,o :: r=>match Zbu i T,ZeI hv o with
  | false,true=>obl P ops C ρH o ∧ Zeb P ops C T hv ρH (i + 1) r
  | _,_=>Zeb P ops C T hv ρH (i + 1) r
theorem ZeJ {T : List Nat} {hv : List (Nat × Value)} : ∀ (l : List Oper) (s : Nat),Zeb P ops C T hv ρH s l → ∀ j o,l[j]? = some o → ¬ s + j ∈ T → ZeI hv o = true → obl P ops C ρH o
 | [],_,_,j,o,h,_,_=>by simp at h
 | o :: r,s,h,j,o',hj,hT,ht=>by
  unfold Zeb at h
  cases j with
  | zero=>
   simp at hj; subst hj
   have hm : Zbu s T = false:=by cases e : Zbu s T with
    | false=>rfl
    | true=>exact absurd (Zct.1 e) hT
   rw [hm,ht] at h
   exact h.1
  | succ j=>
   have h' : Zeb P ops C T hv ρH (s + 1) r:=by
    split at h
    ·exact h.2
    ·exact h
   exact ZeJ r (s + 1) h' j o' (by simpa using hj) (by rwa [show s + 1 + j = s + (j + 1) by omega]) ht
theorem ZiY {F : FTab P} {T : List Nat} {hv : List (Nat × Value)} : ∀ (l : List Oper) (s : Nat),Zc5 F ops T hv ρH s l = Zc6 T hv ρH s l → ∀ j o,l[j]? = some o → ¬ s + j ∈ T → ZeI hv o = false →
  Zh3 F ops ρH o = match o.dst with | some d=>some (ρH d) | none=>some undef
 | [],_,_,j,o,h,_,_=>by simp at h
 | o :: r,s,h,j,o',hj,hT,ht=>by
  unfold Zc5 Zc6 at h
  cases j with
  | zero=>
   simp at hj; subst hj
   have hm : Zbu s T = false:=by cases e : Zbu s T with
    | false=>rfl
    | true=>exact absurd (Zct.1 e) hT
   rw [hm,ht] at h
   exact (List.cons.inj h).1
  | succ j=>
   have h' : Zc5 F ops T hv ρH (s + 1) r = Zc6 T hv ρH (s + 1) r:=by
    split at h
    ·exact (List.cons.inj h).2
    ·exact h
   exact ZiY r (s + 1) h' j o' (by simpa using hj) (by rwa [show s + 1 + j = s + (j + 1) by omega]) ht
theorem Zh4 {F : FTab P} {T : List Nat} {hv : List (Nat × Value)} (t : Nat) : ∀ (l : List Oper) (s : Nat) (ρ : Env),(∃ j o,l[j]? = some o ∧ ¬ s + j ∈ T ∧ o.dst = some t) ∨ Q2 F ops T hv s l ρ t = ρ t
 | [],_,_=> .inr rfl
 | o :: r,s,ρ=>by
  simp only [Q2]
  have up : ∀ ρ',(∃ j o,r[j]? = some o ∧ ¬ s + 1 + j ∈ T ∧ o.dst = some t) ∨ Q2 F ops T hv (s + 1) r ρ' t = ρ' t:=fun ρ'=>Zh4 t r (s + 1) ρ'
  have lift : (∃ j o,r[j]? = some o ∧ ¬ s + 1 + j ∈ T ∧ o.dst = some t) → ∃ j o',(o :: r)[j]? = some o' ∧ ¬ s + j ∈ T ∧ o'.dst = some t:=fun ⟨j,o',h1,h2,h3⟩=>⟨j + 1,o',by simpa using h1,by rwa [show s + (j + 1) = s + 1 + j by omega],h3⟩
  cases hm : Zbu s T with
  | true=>exact (up ρ).imp_left lift
  | false=>
   have hmT : ¬ s ∈ T:=fun h=>by rw [Zct.2 h] at hm; cases hm
   simp only
   cases hd : o.dst with
   | some d=>
    simp only
    by_cases htd : t = d
    ·subst htd; exact .inl ⟨0,o,rfl,by simpa using hmT,hd⟩
    ·rcases up (ZQ ρ d (match ZeF d hv with
      | some v=>v
      | none=>match Zh3 F ops ρ o with
       | some v=>v
       | none=>undef)) with h | h
     ·exact .inl (lift h)
     ·refine .inr (h.trans ?_)
      unfold ZQ
      rw [show Nat.beq t d = false from by cases hb : Nat.beq t d with | true=>exact absurd (Nat.eq_of_beq_eq_true hb) htd | false=>rfl]; rfl
   | none=>exact (up ρ).imp_left lift
def AC (C : World → Prop) (K : Env → World → Prop) (ρ : Env) (w : World) : Prop:=C w ∧ K ρ w
def AN (b : Bool) (C : World → Prop) (K : Env → World → Prop) (ρ : Env) (w : World) : Prop:=(b = true → C w) ∧ K ρ w
def Znf (F : FTab P) (ops : List Oper) (C : World → Prop) (x : Nat × Bool) (ih : Env → World → Prop) (ρ : Env) (w : World) : Prop:=match ops[x.1]? with
 | some o=>match x.2 with
  | true=>OW P ops.toArray o ρ w (AC C ih)
  | false=>match Region.wanted o (Zu ops.toArray ρ) with
   | false=>ih (XH ρ o.dst undef) w
   | true=>match ZeG F ρ o with
    | some v=>ih (XH ρ o.dst v) w
    | none=>OW P ops.toArray o ρ w ih
 | none=>False
noncomputable def goT (F : FTab P) (ops : List Oper) (C : World → Prop) (Q : Exit → Env → World → Prop) (T : List (Nat × Bool)) : Env → World → Prop:=
 List.rec (motive:=fun _=>Env → World → Prop) (Q .normal) (fun x _ ih=>Znf F ops C x ih) T
theorem Zqy {F : FTab P} {C : World → Prop} {x : Nat × Bool} {r : List (Nat × Bool)} {ρ : Env} {w : World} : goT F ops C Q (x :: r) ρ w = Znf F ops C x (goT F ops C Q r) ρ w:=rfl
theorem goT.ok {F : FTab P} : ∀ {T : List (Nat × Bool)} {ρ : Env} {w : World},(∀ x ∈ T,Zbi p x.1 = x.2) → goT F ops C Q T ρ w → TL P ops.toArray p C Q (T.map (·.1)) ρ w
 | [],_,_,_,h=>h
 | x :: r,ρ,w,hn,h=>by
  have hx:=hn x (by simp)
  have hr : ∀ y ∈ r,Zbi p y.1 = y.2:=fun y hy=>hn y (by simp [hy])
  simp only [TL,List.map_cons,List.getElem?_toArray]
  rw [Zqy] at h
  unfold Znf at h
  cases ho : ops[x.1]? with
  | none=>rw [ho] at h; exact h
  | some o=>
   rw [ho] at h
   simp only at h ⊢
   cases hx2 : x.2 with
   | true=>
    rw [hx2] at h
    exact h.h.mono fun ρ w hh=>⟨fun _=>hh.1,goT.ok hr hh.2⟩
   | false=>
    rw [hx2] at h hx
    simp only at h
    have nn : Zbi p x.1 = true → False:=fun e=>by rw [hx] at e; cases e
    cases hw : Region.wanted o (Zu ops.toArray ρ) with
    | false=>
     rw [hw] at h
     simp only [oW,hw]
     exact ⟨fun e=>(nn e).elim,goT.ok hr h⟩
    | true=>
     rw [hw] at h
     simp only at h
     cases hp : ZeG F ρ o with
     | some v=>
      rw [hp] at h
      simp only [oW,hw,Zd8 hp,Zbg]
      exact ⟨fun e=>(nn e).elim,goT.ok hr h⟩
     | none=>
      rw [hp] at h
      exact h.h.mono fun ρ w hh=>⟨fun e=>(nn e).elim,goT.ok hr hh⟩
theorem ZgD {F : FTab P} {T : List Nat} (hv : List (Nat × Value)) (ok : PlanOk ops (ZaM ops T)) (ha : Zc5 F ops T hv ρH 0 ops = Zc6 T hv ρH 0 ops) (ho : Zeb P ops C T hv ρH 0 ops) : Hold P ops (ZaM ops T) C ρH:=by
 have auto : ∀ i o,ops[i]? = some o → ¬ i ∈ T → ZeI hv o = false → ∀ w,oW P ops.toArray o ρH w fun ρ' w'=>ρ' = ρH ∧ w' = w:=fun i o hi hT ht w=>by
  have h:=ZiY ops 0 ha i o hi (by simpa using hT) ht
  unfold Zh3 at h
  unfold oW
  cases hd : o.dst with
  | none=>
   rw [hd] at h
   cases hw : Region.wanted o (Zu ops.toArray ρH) with
   | false=>exact ⟨by simp [XH],rfl⟩
   | true=>
    rw [hw] at h
    simp only at h ⊢
    simp only [Zd8 h,Zbg,hd]
    exact ⟨by simp [XH],trivial⟩
  | some d=>
   rw [hd] at h
   cases hw : Region.wanted o (Zu ops.toArray ρH) with
   | false=>
    rw [hw] at h
    simp only at h ⊢
    exact ⟨ZaW (Option.some.inj h).symm,trivial⟩
   | true=>
    rw [hw] at h
    simp only at h ⊢
    simp only [Zd8 h,Zbg,hd]
    exact ⟨ZaW rfl,trivial⟩
 have get : ∀ k i,i ∈ Zdp T k 0 ops → ∀ o,ops[i]? = some o → ¬ i ∈ T ∧ ZbY o = k:=fun k i hi o ho=>by
  obtain ⟨j,o',rfl,h1,h2,h3⟩:=(ZgY T k ops 0 i).1 hi
  rw [Nat.zero_add] at ho h2 ⊢
  obtain rfl:=Option.some.inj (h1.symm.trans ho)
  exact ⟨h2,h3⟩
 refine ⟨fun i hi o hio w=>?_,fun i hi o hio w hw=>?_,fun i hi o hio w hw=>?_⟩
 ·obtain ⟨hT,hk⟩:=get 0 i hi o hio
  cases ht : ZeI hv o with
  | false=>exact auto i o hio hT ht w
  | true=>
   have:=ZeJ ops 0 ho i o hio (by simpa using hT) ht
   unfold obl at this; rw [hk] at this
   exact (this w).h
 ·obtain ⟨hT,hk⟩:=get 1 i hi o hio
  cases ht : ZeI hv o with
  | false=>exact auto i o hio hT ht w
  | true=>
   have:=ZeJ ops 0 ho i o hio (by simpa using hT) ht
   unfold obl at this; rw [hk] at this
   exact (this w hw).h
 ·obtain ⟨hT,hk⟩:=get 2 i hi o hio
  cases ht : ZeI hv o with
  | false=>exact (auto i o hio hT ht w).mono fun ρ' w' h=>⟨h.1,by rw [h.2]; exact hw⟩
  | true=>
   have:=ZeJ ops 0 ho i o hio (by simpa using hT) ht
   unfold obl at this; rw [hk] at this
   exact (this w hw).h
theorem Zf5 {F : FTab P} {T : List Nat} {hv : List (Nat × Value)} {ρ : Env} (t : Nat) : (∃ i ∈ (ZaM ops T).H,Zay ops.toArray i = some t) ∨ ρ t = Q2 F ops T hv 0 ops ρ t:=by
 rcases Zh4 (P:=P) (F:=F) (T:=T) (hv:=hv) (ops:=ops) t ops 0 ρ with ⟨j,o,h1,h2,h3⟩ | h
 ·rw [Nat.zero_add] at h2
  refine .inl ⟨j,?_,by unfold Zay; simp [h1,h3]⟩
  simp only [Plan.H,ZaM,List.mem_append,ZgY,Nat.zero_add]
  rcases Zqx o with hk | hk | hk
  ·exact .inl (.inl ⟨j,o,rfl,h1,h2,hk⟩)
  ·exact .inl (.inr ⟨j,o,rfl,h1,h2,hk⟩)
  ·exact .inr ⟨j,o,rfl,h1,h2,hk⟩
 ·exact .inr h.symm
theorem DR.go {id : Nat} {ρ : Env} {w : World} {F : FTab P} (C : World → Prop) (T : List (Nat × Bool)) (hv : List (Nat × Value)) (hm : P.follows .mixedOrders = true) (hN : ops.all (Zcq N) = true) (hp : Znd ops (ZaM ops (T.map (·.1))) = true)
  (hn : T.map (fun x=>Zbi (ZaM ops (T.map (·.1))) x.1) = T.map (·.2))
  (ha : Zc5 F ops (T.map (·.1)) hv (Q2 F ops (T.map (·.1)) hv 0 ops ρ) 0 ops = Zc6 (T.map (·.1)) hv (Q2 F ops (T.map (·.1)) hv 0 ops ρ) 0 ops)
  (hC : C { w with drawn:=w.drawn + 1 }) (ho : Zeb P ops C (T.map (·.1)) hv (Q2 F ops (T.map (·.1)) hv 0 ops ρ) 0 ops)
  (hT : ∀ w,C w → goT F ops C Q T (Q2 F ops (T.map (·.1)) hv 0 ops ρ) w) : DR P N id ops.toArray Q ρ w:=by
 refine ⟨?_⟩
 unfold Znd at hp
 rw [Bool.and_eq_true] at hp
 have ok:=Zou hp.1
 refine Zk0 _ C hm hN ok hC _ Zf5 (ZgD hv ok ha ho) fun w hw=>TG.of_TL ok.nosel _ _ _ _ hp.2 ok.nodup (Nat.le_refl _) (goT.ok (fun x hx=>?_) (hT w hw))
 exact List.map_inj_left.1 hn x hx
theorem DR.goG {id : Nat} {ρ : Env} {w : World} {F : FTab P} (C : World → Prop) (T : List Nat) (hv : List (Nat × Value)) (hm : P.follows .mixedOrders = true) (hN : ops.all (Zcq N) = true) (hp : Zh1 ops (ZaM ops T) = true)
  (ha : Zc5 F ops T hv (Q2 F ops T hv 0 ops ρ) 0 ops = Zc6 T hv (Q2 F ops T hv 0 ops ρ) 0 ops)
  (hC : C { w with drawn:=w.drawn + 1 }) (ho : Zeb P ops C T hv (Q2 F ops T hv 0 ops ρ) 0 ops)
  (hT : ∀ w,C w → TG P ops.toArray (ZaM ops T) C Q T.length T (Q2 F ops T hv 0 ops ρ) w) : DR P N id ops.toArray Q ρ w:=by
 refine ⟨?_⟩
 have ok:=Zou hp
 exact Zk0 _ C hm hN ok hC _ Zf5 (ZgD hv ok ha ho) hT
def TA (P : Program) (ops : List Oper) (p : Plan) (C : World → Prop) (Q : Exit → Env → World → Prop) (n : Nat) (R : List Nat) (ρ : Env) (w : World) : List Nat → Prop
 | []=>True
 | j :: r=>(match ops[j]? with
  | some o=>OW P ops.toArray o ρ w (AN (Zbi p j) C (TG P ops.toArray p C Q n (R.filter fun i=>i != j)))
  | none=>False) ∧ TA P ops p C Q n R ρ w r
theorem TA.nil {n : Nat} {R : List Nat} {ρ : Env} {w : World} : TA P ops p C Q n R ρ w []:=trivial
theorem TA.cons {n j : Nat} {R r : List Nat} {ρ : Env} {w : World} {o : Oper} (ho : ops[j]? = some o)
  (h : OW P ops.toArray o ρ w (AN (Zbi p j) C (TG P ops.toArray p C Q n (R.filter fun i=>i != j)))) (hr : TA P ops p C Q n R ρ w r) : TA P ops p C Q n R ρ w (j :: r):=by
 simp only [TA,ho]; exact ⟨h,hr⟩
theorem TA.get {n : Nat} {R : List Nat} {ρ : Env} {w : World} : ∀ {l : List Nat},TA P ops p C Q n R ρ w l → ∀ j ∈ l,match ops.toArray[j]? with
  | some o=>oW P ops.toArray o ρ w fun ρ' w'=>(Zbi p j = true → C w') ∧ TG P ops.toArray p C Q n (R.filter fun i=>i != j) ρ' w'
  | none=>False
 | [],_,j,hj=>by cases hj
 | a :: l,h,j,hj=>by
  rcases List.mem_cons.1 hj with rfl | hj
  ·have h1:=h.1
   rw [List.getElem?_toArray]
   cases ho : ops[j]? with
   | none=>rw [ho] at h1; exact h1
   | some o=>rw [ho] at h1; exact h1.h
  ·exact TA.get h.2 j hj
theorem TG.fork {ρ : Env} {w : World} (n : Nat) (R av : List Nat) {R0 : List Nat} {n0 : Nat} (hn : n0 = n + 1) (hR : R0 = R) (hav : (R.filter fun j=>R.all fun i=>!waits p.M j i) = av) (hne : R ≠ [])
  (h : TA P ops p C Q n R ρ w av) : TG P ops.toArray p C Q n0 R0 ρ w:=by
 subst hn hR
 refine ⟨fun z=>absurd z hne,fun j hj hw=>h.get j ?_⟩
 rw [← hav,List.mem_filter,List.all_eq_true]
 exact ⟨hj,fun i hi=>by rw [hw i hi]; rfl⟩
def Zk1 (ops : List Oper) (p : Plan) (R : List Nat) (j : Nat) : Bool:=
 match ops[j]? with
 | some o=>(match o.dst with
  | some d=>(R.all fun i=>(i == j) || (match ops[i]? with
    | some q=>(q.dst != some d) && (!(q.looksAt ops.toArray).contains d || waits p.M i j) && (match q.dst with | some t=>!(o.looksAt ops.toArray).contains t | none=>true) && !Zh0 q.op
    | none=>true)) && (R.all fun i=>!waits p.M j i) && !Zh0 o.op && !Zbi p j && R.contains j
  | none=>false)
 | none=>false
structure Quiet (ops : List Oper) (p : Plan) (R : List Nat) (j : Nat) (o : Oper) (d : Nat) : Prop where
 mem : j ∈ R
 av : ∀ i ∈ R,waits p.M j i = false
 need : Zbi p j = false
 sel : ∀ cs b,o.op ≠ .select cs b
 other : ∀ i ∈ R,i ≠ j → ∀ q,ops[i]? = some q → q.dst ≠ some d ∧ (d ∈ q.looksAt ops.toArray → waits p.M i j = true) ∧ (∀ t,q.dst = some t → ¬ t ∈ o.looksAt ops.toArray) ∧ ∀ cs b,q.op ≠ .select cs b
theorem Zk2 {x : Op} (h : Zh0 x = false) : ∀ cs b,x ≠ .select cs b:=fun cs b e=>by rw [e] at h; cases h
theorem Zox {R : List Nat} {j : Nat} {o : Oper} {d : Nat} (ho : ops[j]? = some o) (hd : o.dst = some d) (h : Zk1 ops p R j = true) : Quiet ops p R j o d:=by
 unfold Zk1 at h
 rw [ho] at h
 simp only [hd,Bool.and_eq_true,List.all_eq_true,Bool.not_eq_true',List.contains_iff_mem] at h
 obtain ⟨⟨⟨⟨h1,h2⟩,h3⟩,h4⟩,h5⟩:=h
 refine ⟨h5,h2,h4,Zk2 h3,fun i hi hij q hq=>?_⟩
 have h6:=h1 i hi
 rw [hq] at h6
 simp only [beq_iff_eq,hij,Bool.or_eq_true,false_or,Bool.and_eq_true,bne_iff_ne,ne_eq,Bool.not_eq_true'] at h6
 obtain ⟨⟨⟨k1,k2⟩,k3⟩,k4⟩:=h6
 refine ⟨k1,fun hl=>?_,fun t ht hl=>?_,Zk2 k4⟩
 ·rcases k2 with k2 | k2
  ·rw [← Bool.not_eq_true,List.contains_iff_mem] at k2; exact absurd hl k2
  ·exact k2
 ·rw [ht] at k3
  simp only [Bool.not_eq_true'] at k3
  rw [← Bool.not_eq_true,List.contains_iff_mem] at k3; exact k3 hl
theorem Zqz {ρ : Env} {d e : Nat} {v u : Value} (h : e ≠ d) : ZQ (ZQ ρ d v) e u = ZQ (ZQ ρ e u) d v:=by
 funext t
 unfold ZQ
 cases h1 : Nat.beq t e <;> cases h2 : Nat.beq t d <;> simp only [cond_true,cond_false]
 exact absurd ((Nat.eq_of_beq_eq_true h1).symm.trans (Nat.eq_of_beq_eq_true h2)) h
theorem ZiZ {ρ : Env} {d t : Nat} {v : Value} (h : t ≠ d) : ZQ ρ d v t = ρ t:=by
 unfold ZQ; rw [Zoq h]; rfl
theorem Zq0 {ρ : Env} {d : Nat} {v : Value} : ZQ ρ d v d = v:=by
 unfold ZQ; rw [show Nat.beq d d = true by simp]; rfl
theorem TG.quietG {j : Nat} {o : Oper} {d : Nat} {v : Value} (ho : ops[j]? = some o) (hd : o.dst = some d) : ∀ (n : Nat) (R : List Nat) (ρ : Env) (w : World),Quiet ops p R j o d → (R.filter fun i=>i != j).length ≤ n →
  (∀ w K,K (ZQ ρ d v) w → OW P ops.toArray o ρ w K) → TG P ops.toArray p C Q n (R.filter fun i=>i != j) (ZQ ρ d v) w → TG P ops.toArray p C Q (n + 1) R ρ w:=by
 intro n
 induction n with
 | zero=>
  intro R ρ w hQ hn hq h
  refine ⟨fun e=>(by rw [e] at hQ; exact absurd hQ.mem (by simp)),fun k hk hav=>?_⟩
  by_cases hkj : k = j
  ·subst hkj
   simp only [List.getElem?_toArray,ho]
   exact (hq w _ ⟨fun e=>(by rw [hQ.need] at e; cases e),h⟩).h
  ·have : k ∈ R.filter fun i=>i != j:=List.mem_filter.2 ⟨hk,by simpa using hkj⟩
   have e0:=List.eq_nil_of_length_eq_zero (Nat.le_zero.1 hn)
   rw [e0] at this; cases this
 | succ n ih=>
  intro R ρ w hQ hn hq h
  refine ⟨fun e=>(by rw [e] at hQ; exact absurd hQ.mem (by simp)),fun k hk hav=>?_⟩
  by_cases hkj : k = j
  ·subst hkj
   simp only [List.getElem?_toArray,ho]
   exact (hq w _ ⟨fun e=>(by rw [hQ.need] at e; cases e),h⟩).h
  ·have hk' : k ∈ R.filter fun i=>i != j:=List.mem_filter.2 ⟨hk,by simpa using hkj⟩
   have h2:=h.2 k hk' fun i hi=>hav i (List.mem_filter.1 hi).1
   simp only [List.getElem?_toArray] at h2 ⊢
   cases hok : ops[k]? with
   | none=>rw [hok] at h2; exact h2
   | some q=>
    rw [hok] at h2
    simp only at h2 ⊢
    obtain ⟨q1,q2,q3,q4⟩:=hQ.other k hk hkj q hok
    have hdl : ¬ d ∈ q.looksAt ops.toArray:=fun hl=>by rw [hav j hQ.mem] at q2; cases q2 hl
    refine ZbI q4 (fun t ht=>ZiZ (ρ:=ρ) (v:=v) (show t ≠ d from fun e=>hdl (by rw [← e]; exact ht))) (fun x w' hK=>⟨hK.1,?_⟩) h2
    have hcm : XH (ZQ ρ d v) q.dst x = ZQ (XH ρ q.dst x) d v:=by
     cases hqd : q.dst with
     | none=>rfl
     | some t=>exact Zqz fun e=>q1 (by rw [hqd,e])
    have hlo : ∀ t,t ∈ o.looksAt ops.toArray → ρ t = XH ρ q.dst x t:=fun t ht=>by
     cases hqd : q.dst with
     | none=>rfl
     | some t'=>exact (ZiZ (ρ:=ρ) (v:=x) (show t ≠ t' from fun e=>q3 t' hqd (by rw [← e]; exact ht))).symm
    have hff : (R.filter fun i=>i != k).filter (fun i=>i != j) = (R.filter fun i=>i != j).filter fun i=>i != k:=by
     rw [List.filter_filter,List.filter_filter]; congr 1; funext i; exact Bool.and_comm _ _
    refine ih _ _ w' ⟨List.mem_filter.2 ⟨hQ.mem,by simpa using Ne.symm hkj⟩,fun i hi=>hQ.av i (List.mem_filter.1 hi).1,hQ.need,hQ.sel,fun i hi=>hQ.other i (List.mem_filter.1 hi).1⟩ ?_ (fun w2 K hK2=>⟨?_⟩) ?_
    ·rw [hff]
     have h3 : ((R.filter fun i=>i != j).filter fun i=>i != k).length < (R.filter fun i=>i != j).length:=List.length_filter_lt_length_iff_exists.2 ⟨k,hk',by simp⟩
     omega
    ·refine ZbI (K:=fun r w3=>r = ZQ ρ d v ∧ w3 = w2) hQ.sel hlo (fun y w3 hy=>?_) (hq w2 _ ⟨rfl,rfl⟩).h
     rw [hd] at hy ⊢
     obtain ⟨e1,rfl⟩:=hy
     have e2 : y = v:=by have:=congrFun e1 d; simp only [XH,Zq0] at this; exact this
     subst e2; exact hK2
    ·rw [hff,← hcm]; exact hK.2
theorem TG.quiet {ρ : Env} {w : World} (n : Nat) (R : List Nat) (j : Nat) {o : Oper} {d : Nat} {v : Value} {R0 : List Nat} {n0 : Nat} (hn : n0 = n + 1) (hR : R0 = R) (ho : ops[j]? = some o) (hd : o.dst = some d) (hb : Zk1 ops p R j = true) (hl : (R.filter fun i=>i != j).length ≤ n)
  (hq : ∀ w K,K (ZQ ρ d v) w → OW P ops.toArray o ρ w K) (h : TG P ops.toArray p C Q n (R.filter fun i=>i != j) (ZQ ρ d v) w) : TG P ops.toArray p C Q n0 R0 ρ w:=by
 subst hn hR; exact TG.quietG ho hd _ _ _ _ (Zox ho hd hb) hl hq h
theorem TG.fin {ρ : Env} {w : World} {n : Nat} {R0 : List Nat} (hR : R0 = []) (h : Q .normal ρ w) : TG P ops.toArray p C Q n R0 ρ w:=by
 subst hR
 cases n with
 | zero=>exact fun _=>h
 | succ n=>exact ⟨fun _=>h,fun j hj=>by cases hj⟩
end
end Go.Civ
