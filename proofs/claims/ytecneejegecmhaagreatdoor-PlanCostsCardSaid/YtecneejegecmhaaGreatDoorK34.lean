/- Lemmas. -/
import Derived.Test.YtecneejegecmhaaGreatDoorK26
import Derived.HandedShaped
import Derived.Maps.OwnSet
import Derived.Shelf.Vars
import Derived.Test.YtecneejegecmhaaGreatDoorRows
import Derived.MakeChecks
set_option linter.unusedVariables false
set_option linter.unusedSimpArgs false
set_option linter.unnecessarySimpa false
namespace Go.Civ
open Go.RowKit
set_option linter.unusedVariables false
def CI : Nat → Cond → Prop
 | 0,_=>True
 | n + 1,c=>Zj c.v.n ∧ ∀ x ∈ c.l,CI n x
theorem Sl.all {α : Type} {E : Enc α} {by_ : Nat} {G : GH} {v : Value} {l : List α} (h : Sl E by_ G v l) {x : α} (hx : x ∈ l) : ∃ cs,E.rep G x cs:=by
 obtain ⟨i,hi⟩:=List.getElem?_of_mem hx
 obtain ⟨p,y,hy,⟨cs,_,hr⟩,_⟩:=h.at i (List.getElem?_eq_some_iff.1 hi).1
 rw [hi] at hy
 obtain rfl:=Option.some.inj hy
 exact ⟨cs,hr⟩
theorem Ztd {G : GH} : ∀ (n : Nat) {c : Cond} {cs : List Value},CndE.rep G c cs → CI n c
 | 0,_,_,_=>trivial
 | n + 1,c,cs,h=>by
  obtain ⟨lv,rfl,_,_,_,_,h5,_,hl⟩:=Yl h
  exact ⟨h5,fun x hx=>by obtain ⟨cs,hr⟩:=Sl.all hl hx; exact Ztd n hr⟩
theorem Zxd {G : GH} (n : Nat) {s : Stp} {cs : List Value} (h : StpE.rep G s cs) : CI n s.q.cond:=by
 cases n with
 | zero=>trivial
 | succ n=>
  obtain ⟨cv,nv,clv,lv,kv,rfl,_,_,_,_,_,_,_,_,h5,_,hl,_⟩:=Q8 h
  exact ⟨h5,fun x hx=>by obtain ⟨cs,hr⟩:=Sl.all hl hx; exact Ztd n hr⟩
theorem Zxe {G : GH} {v : Value} {l : List Stp} (h : Sl StpE 280 G v l) : ∀ s ∈ l,∀ n,CI n s.q.cond:=fun s hs n=>by
 obtain ⟨cs,hr⟩:=Sl.all h hs; exact Zxd n hr
section
variable {n k : Nat} {c x y : Cond} {q : Query} {s : Stp} {dep m : Int} {ks : List Int}
theorem ZfY : (ZN ks x).length ≤ (YL x).length + 2:=by
 unfold ZN; split
 ·simp only [List.length_append,List.length_cons,List.length_nil]; omega
 ·omega
theorem ZyT (h : Zw c = true) : c.l.length = ZG c.kind:=by
 unfold Zw at h
 cases e : ZE c with
 | true=>
  rw [e] at h; simp only [cond_true,Bool.and_eq_true,decide_eq_true_eq] at h
  unfold ZE at e; simp only [Bool.or_eq_true,decide_eq_true_eq] at e
  unfold ZG; rw [if_neg (by omega),if_neg (by omega),if_neg (by omega)]; exact h.1.2
 | false=>
  rw [e] at h
  cases e2 : Yc c with
  | true=>rw [e2] at h; simp only [cond_true,cond_false,Bool.and_eq_true,decide_eq_true_eq] at h; exact h.2
  | false=>rw [e2] at h; simp at h
theorem Z1g {α : Type} {l : List α} (h : l.length = 1) : ∃ x,l = [x]:=by
 match l,h with
 | [x],_=>exact ⟨x,rfl⟩
theorem Z1h {α : Type} {l : List α} (h : l.length = 2) : ∃ x y,l = [x,y]:=by
 match l,h with
 | [x,y],_=>exact ⟨x,y,rfl⟩
theorem ZjV : ∀ (n : Nat) (c : Cond) (dep m : Int),CI n c → QU n c → (Y8 n c dep m).1 = true → ((YL c).length : Int) ≤ 200 * (m - (Y8 n c dep m).2)
 | 0,c,dep,m,_,_,h=>by cases h
 | n + 1,c,dep,m,hi,hw,h=>by
  unfold Y8 at h ⊢
  split at h
  ·rename_i g
   rw [if_pos g]
   have ha:=ZyT hw.1
   have hk:=Zi8 hw (by omega)
   by_cases h4 : c.kind = 4
   ·obtain ⟨x,hx⟩:=Z1g (ha.trans (by rw [h4]; rfl))
    have hx0 : c.l[0]? = some x:=by rw [hx]; rfl
    have hm : x ∈ c.l:=by rw [hx]; simp
    rw [hx] at h ⊢
    unfold YM at h ⊢
    split at h
    ·rename_i g2
     rw [if_pos g2]
     have ih:=ZjV n x (dep + 1) (m - 1) (hi.2 x hm) (hw.2 x hm) g2
     have e:=congrArg List.length (Znt h4 hx0)
     have hb:=@ZfY x [5,6]
     simp only [List.length_append,List.length_cons,List.length_nil] at e
     show _ ≤ 200 * (m - (Y8 n x (dep + 1) (m - 1)).2)
     omega
    ·cases h
   ·by_cases h56 : c.kind = 5 ∨ c.kind = 6
    ·obtain ⟨x,y,hx⟩:=Z1h (ha.trans (by rcases h56 with e | e <;> rw [e] <;> rfl))
     have hx0 : c.l[0]? = some x:=by rw [hx]; rfl
     have hy0 : c.l[1]? = some y:=by rw [hx]; rfl
     have hm : x ∈ c.l:=by rw [hx]; simp
     have hm2 : y ∈ c.l:=by rw [hx]; simp
     rw [hx] at h ⊢
     unfold YM at h ⊢
     split at h
     ·rename_i g2
      rw [if_pos g2]
      unfold YM at h ⊢
      split at h
      ·rename_i g3
       rw [if_pos g3]
       have ih:=ZjV n x (dep + 1) (m - 1) (hi.2 x hm) (hw.2 x hm) g2
       have ih2:=ZjV n y (dep + 1) _ (hi.2 y hm2) (hw.2 y hm2) g3
       show _ ≤ 200 * (m - (Y8 n y (dep + 1) (Y8 n x (dep + 1) (m - 1)).2).2)
       rcases h56 with e5 | e5
       ·have e:=congrArg List.length (Zed e5 hx0 hy0)
        have hb:=@ZfY x [6]; have hb2:=@ZfY y [6,5]
        simp only [List.length_append,List.length_cons,List.length_nil] at e
        omega
       ·have e:=congrArg List.length (ZfL e5 hx0 hy0)
        have hb:=@ZfY x []; have hb2:=@ZfY y [6]
        simp only [List.length_append,List.length_cons,List.length_nil] at e
        omega
      ·cases h
     ·cases h
    ·have hl : c.l = []:=List.eq_nil_of_length_eq_zero (ha.trans (by unfold ZG; rw [if_neg h4,if_neg (by omega),if_neg (by omega)]))
     rw [hl] at h ⊢
     show _ ≤ 200 * (m - (m - 1))
     have : (YL c).length ≤ 200:=by
      by_cases h3 : c.kind = 3
      ·rw [← ZqS h3]; decide
      ·rw [← Zlf h3 h4 (by omega) (by omega)]
       have hp : (if c.kind = 1 then [32,61,32] else [32,60,32] : Str).length = 3:=by split <;> rfl
       have hv : (if c.oth = [] then QK c.v else c.oth).length ≤ 70:=by
        split
        ·rename_i ho; exact ZfR c.v (ZfS hw h3 h4 (by omega) (by omega) ho) hi.1
        ·omega
       simp only [List.length_append]; omega
     omega
  ·cases h
theorem Zu0 : ∀ a ∈ XA m k,a.length ≤ 12:=by
 intro a ha
 unfold XA at ha
 obtain ⟨⟨b,i⟩,hb,he⟩:=List.mem_filterMap.1 ha
 have hm : b ∈ relN:=by
  have:=List.mem_zipIdx_iff_getElem?.1 hb
  have h2:=List.mem_of_getElem? this
  exact List.mem_of_mem_take h2
 have hl : ∀ c ∈ relN,c.length ≤ 12:=by decide
 simp only at he
 split at he
 ·obtain rfl:=Option.some.inj he; exact hl _ hm
 ·cases he
theorem Z1i (hk : 1 ≤ q.kind ∧ q.kind ≤ 10) (ht : q.table.length ≤ 60) (hc : q.cols.length ≤ 20) (hnc : ∀ s ∈ q.cols,s.length ≤ 60) (hnn : ∀ s ∈ q.names,s.length ≤ 60) (h2 : q.kind = 2 → (YL q.cond).length ≤ 90000)
  (h8 : q.kind = 8 → (-62135596800 ≤ q.span.a ∧ q.span.a ≤ 253402300800) ∧ (-62135596800 ≤ q.span.b ∧ q.span.b ≤ 253402300800)) : (Ya q).length ≤ 100000:=by
 have hj : ∀ {s : Str} {l : List Str} (M K : Nat),l.length ≤ K → (∀ a ∈ l,a.length ≤ M) → s.length ≤ 2 → (Z2 s l).length ≤ K * (M + 2):=fun {s l} M K hK hM hs=>
  Nat.le_trans (Zpy M hM) (Nat.mul_le_mul hK (by omega))
 have e : q.kind = 1 ∨ q.kind = 2 ∨ q.kind = 3 ∨ q.kind = 4 ∨ q.kind = 5 ∨ q.kind = 6 ∨ q.kind = 7 ∨ q.kind = 8 ∨ q.kind = 9 ∨ q.kind = 10:=by omega
 rcases e with e | e | e | e | e | e | e | e | e | e
 ·rw [← Zlm e]; simp only [List.length_append,List.length_cons,List.length_nil]; omega
 ·rw [← Zn5 e]; have:=h2 e; simp only [List.length_append,List.length_cons,List.length_nil]; omega
 ·rw [← Zn6 e]; have:=hj (s:=sJ) 60 20 hc hnc (by decide); simp only [List.length_append,List.length_cons,List.length_nil]; omega
 ·rw [← Zn7 e]
  have:=hj (s:=sJ) (l:=Qy q.cols q.names) 124 20 (by unfold Qy; simp only [List.length_map,List.length_zip]; omega) (by
   intro a ha
   unfold Qy at ha
   obtain ⟨⟨u,v⟩,hz,rfl⟩:=List.mem_map.1 ha
   have hu:=hnc u (List.of_mem_zip hz).1
   have hv:=hnn v (List.of_mem_zip hz).2
   simp only [List.length_append,List.length_cons,List.length_nil]; omega) (by decide)
  simp only [List.length_append,List.length_cons,List.length_nil]; omega
 ·rw [← Zrc e]; decide
 ·rw [← Zrd e]; decide
 ·rw [← Zre e]; decide
 ·rw [← Zrf e]
  obtain ⟨ha,hb⟩:=h8 e
  have l1:=Xa _ ha; have l2:=Xa _ hb
  simp only [List.length_append,List.length_cons,List.length_nil]; omega
 ·rw [← Zee e]
  have hcj:=hj (s:=sJ) 60 20 hc hnc (by decide)
  have hg : ∀ (o : Option Str),(∀ a,o = some a → a.length ≤ 60) → (o.getD []).length ≤ 60:=fun o ho=>by
   cases o with
   | none=>simp
   | some a=>exact ho a rfl
  have:=hj (s:=[32]) (l:=Zbw q) 1240 6 (by
   unfold Zbw; simp only [List.length_append,List.length_cons,List.length_nil]; split <;> split <;> simp) (by
   intro a ha
   unfold Zbw at ha
   have hfn:=Zlp q.fn
   have hn0:=hg (q.names[0]?) fun a h=>hnn a (List.mem_of_getElem? h)
   have hn1:=hg (q.names[q.names.length - 1]?) fun a h=>hnn a (List.mem_of_getElem? h)
   simp only [List.mem_append,List.mem_cons,List.not_mem_nil,or_false] at ha
   rcases ha with (((ha | ha) | ha) | ha) | (ha | ha)
   ·rw [ha]; decide
   ·split at ha
    ·simp at ha
    ·rw [List.mem_singleton.1 ha]; omega
   ·rw [ha]; omega
   ·split at ha
    ·rw [List.mem_singleton.1 ha]; omega
    ·simp at ha
   ·rw [ha]; decide
   ·rw [ha]; omega) (by decide)
  omega
 ·rw [← ZjQ e]
  have:=hj (s:=sJ) (l:=XA q.rel 13) 12 13 Zlo Zu0 (by decide)
  simp only [List.length_append,List.length_cons,List.length_nil]; omega
end
end Go.Civ
namespace Go.Civ
open Go.RowKit
set_option linter.unusedVariables false
noncomputable def Zdz (x : Stp) : Bool:=decide (20 < (x.keys.length : Int)) || !(YW (Y7 x.q) x.q 0 120).1
section
variable {n k : Nat} {q : Query} {s : Stp} {dep m : Int} {p : Pln}
theorem Z1j (h : ¬ (s.keys.length : Int) ≤ 20) : true = Zdz s:=by unfold Zdz; rw [decide_eq_true (by omega)]; rfl
theorem Z1k (h : (s.keys.length : Int) ≤ 20) : (!(YW (Y7 s.q) s.q 0 120).1) = Zdz s:=by unfold Zdz; rw [decide_eq_false (by omega)]; rfl
theorem ZpE (h : (YW n q dep m).1 = true) : 1 ≤ m ∧ q.table.length ≤ 60 ∧ q.cols.length ≤ 20 ∧ q.names.length ≤ 20 ∧ (Y8 n q.cond 0 (m - 1)).1 = true ∧ Zib q = false:=by
 cases n with
 | zero=>cases h
 | succ n=>
  unfold YW at h
  split at h
  ·rename_i g
   split at h
   ·rename_i g2
    split at h
    ·cases h
    ·rename_i g3; exact ⟨g.1,g.2.2.1,g.2.2.2.1,g.2.2.2.2,g2,by simpa using g3⟩
   ·cases h
  ·cases h
theorem Zxf (h : X8 n q = true) : Xd n q = true:=by
 unfold X8 at h
 have h1:=of_decide_eq_true h
 cases n with
 | zero=>rw [Y4] at h1; omega
 | succ n=>
  rw [Y4,if_neg (by omega)] at h1
  cases e : Xd (n + 1) q with
  | true=>rfl
  | false=>rw [if_pos e] at h1; omega
theorem Z1l (q : Query) : ∃ n,Y7 q = n + 1:=by
 cases e : Y7 q with
 | zero=>exact (ZaH (q:=q) (show Y7 q ≤ 0 by omega)).elim
 | succ n=>exact ⟨n,rfl⟩
theorem Zte (hn : Qd q.cond n) (h : Xd (Y7 (Ye q)) (Ye q) = true) (hk : q.kind = 2) : QU n q.cond:=by
 rw [ZeR (q:=Ye q) hk] at h
 simp only [Bool.and_eq_true] at h
 have h1 : ZaI (Y7 (Ye q)) q.cond = true:=h.1
 have hcl : Qd q.cond (Y7 (Ye q)):=Zaz (q:=Ye q) (QI (Ye q))
 rw [Zlv (c:=q.cond) hcl hn] at h1
 unfold ZaI at h1
 simp only [Bool.and_eq_true,decide_eq_true_eq] at h1
 exact Zi1 (by decide) (by decide) h1.1
theorem Zxg : TxQ (n + 1) scT:=by
 refine ⟨⟨by decide,fun h=>(by cases h),fun h=>(by cases h),fun h=>(by cases h),fun h=>(by cases h),fun h=>(by cases h),fun s h=>(by cases h),fun s h=>(by cases h),by decide,?_,fun _=>rfl,fun h=>?_,fun h=>?_⟩,fun x h=>(by cases h)⟩
 ·rw [← Zlm (q:=scT) rfl]; decide
 ·rcases h with h | h | h | h <;> cases h
 ·rcases h with h | h | h | h | h <;> cases h
theorem Zxh (hc : ∀ n,CI n s.q.cond) (hl : Zdz s = false) (hr : Qg s = true) : TxS s:=by
 have hv:=(Zif hr).vl
 have hp:=Zxf hv
 have hk:=ZwM hr
 have hn : (YW (Y7 s.q) s.q 0 120).1 = true:=by unfold Zdz at hl; simp only [Bool.or_eq_false_iff,Bool.not_eq_false'] at hl; exact hl.2
 obtain ⟨_,ht,hcl,hnl,hcd,hlo⟩:=ZpE hn
 have hlo2 : ∀ x,x ∈ s.q.cols ++ s.q.names → x.length ≤ 60:=fun x hx=>by
  unfold Zib at hlo
  have:=List.any_eq_false.1 hlo x hx
  simp only [decide_eq_true_eq] at this; omega
 have hnc : ∀ x ∈ s.q.cols,x.length ≤ 60:=fun x hx=>hlo2 x (List.mem_append_left _ hx)
 have hnn : ∀ x ∈ s.q.names,x.length ≤ 60:=fun x hx=>hlo2 x (List.mem_append_right _ hx)
 have h2 : s.q.kind = 2 → (YL s.q.cond).length ≤ 90000:=fun h=>by
  have h1:=ZjV (Y7 s.q) s.q.cond 0 119 (hc _) (Zte (Zaz (QI s.q)) hp h) hcd
  have h3:=(Ze5 (Y7 s.q) s.q.cond 0 119 (by decide) (by decide)).2.2 hcd
  omega
 have h8 : s.q.kind = 8 → (-62135596800 ≤ s.q.span.a ∧ s.q.span.a ≤ 253402300800) ∧ (-62135596800 ≤ s.q.span.b ∧ s.q.span.b ≤ 253402300800):=fun h=>by
  have h9:=hp
  rw [Zcd (q:=Ye s.q) h] at h9
  simp only [Bool.and_eq_true] at h9
  have h9 : ZF s.q.span = true:=h9.1
  unfold ZF at h9
  simp only [Bool.and_eq_true,decide_eq_true_eq] at h9
  omega
 have hb:=Z1i hk ht hcl hnc hnn h2 h8
 obtain ⟨n,hz⟩:=Z1l (Ye s.q)
 have hll : (Ye s.q).l = Zhj s.q.kind:=by unfold Ye; rw [if_pos hk]; rfl
 have hlen : (Ye s.q).l.length = (ZT s.q.kind).toNat:=by rw [hll]; simp [Zhj]
 have hN : TxN (Y7 (Ye s.q)) (Ye s.q):=by
  refine ⟨hk,fun h=>Zte (Zaz (QI (Ye s.q))) hp h,h8,fun h=>?_,fun h=>?_,fun h=>?_,hnc,hnn,hcl,hb,fun h=>?_,fun h=>?_,fun h=>?_⟩
  ·have h9:=hp
   rw [Qo (q:=Ye s.q) h] at h9
   simp only [Bool.and_eq_true,decide_eq_true_eq] at h9
   exact ⟨⟨h9.1.2.1,h9.1.2.2.1⟩,h9.1.2.2.2.1⟩
  ·have h9:=hp
   rw [ZaV (q:=Ye s.q) h] at h9
   simp only [Bool.and_eq_true,decide_eq_true_eq] at h9
   have:=h9.1.2.2.1; omega
  ·have h9:=hp
   rw [Zce (q:=Ye s.q) h] at h9
   simp only [Bool.and_eq_true,decide_eq_true_eq] at h9
   have:=h9.1.1; omega
  ·rw [hlen,← ZnF (u:=s.q.kind) h]; rfl
  ·rw [hlen,← Zdc (u:=s.q.kind) h]; rfl
  ·have h : s.q.kind = 2 ∨ s.q.kind = 3 ∨ s.q.kind = 4 ∨ s.q.kind = 8 ∨ s.q.kind = 9:=h
   rw [hlen,← ZnG (u:=s.q.kind) (by omega) (by omega)]; rfl
 refine ⟨?_,?_⟩
 ·rw [hz] at hN ⊢
  refine ⟨hN,fun x hx=>?_⟩
  have hxs : x = scT:=by rw [hll] at hx; exact (List.mem_replicate.1 hx).2
  have hq : Xx x n:=XN (q:=Ye s.q) (show Y7 (Ye s.q) ≤ n + 1 by omega) hx
  cases n with
  | zero=>exact (ZaH hq).elim
  | succ n=>rw [hxs]; exact Zxg
 ·obtain ⟨c,hc9⟩ : ∃ c,Zl7[(ZT s.q.kind).toNat]? = some c:=⟨_,List.getElem?_eq_getElem (by have:=@Zbq s.q.kind; show _ < 3; omega)⟩
  have hcl : c.length ≤ 20:=by
   have hm:=List.mem_of_getElem? hc9
   have : ∀ c ∈ Zl7,c.length ≤ 20:=by decide
   exact this c hm
  rw [txw hk hc9,List.length_append]; omega
theorem Zu1 (hc : ∀ s ∈ p.steps,∀ n,CI n s.q.cond) (hl : p.steps.any Zdz = false) (hv : XC p = true) : ∀ s ∈ p.steps,TxS s:=fun s hs=>by
 obtain ⟨i,hi⟩:=List.getElem?_of_mem hs
 exact Zxh (hc s hs) (by simpa using List.any_eq_false.1 hl s hs) (ZjT (Zdx hv hi))
theorem Z1m (h : XC p = true) : SCmp.b .eql (tpT p) (Qm p.steps) = true:=by unfold tpT; rw [if_pos h]; simp [SCmp.b]
theorem Z1n (h : XC p = false) : Cmp.b .eql (tpE p) 1 = true:=by rw [← Ztb h]; rfl
end
section
variable {P : Program} {ρ : Env} {w w0 : World} {ops : Array Oper} {K : Env → World → Prop} {X : List Nat} {G0 G : GH} {L : Own}
variable {d : Nat} {ty : TypeId} {pos : String} {af : Array Edge} {g : Option (Nat × Bool)}
def ZlB (P : Program) (t : TypeId) (G : GH) (v : Value) : Prop:=∃ m : Int,∀ w,G.In w → ∀ ty,(Builtin.len_ #[t] ty #[v]).run P w = .ok (.int .i64 m) w
theorem ZlB.mono {t : TypeId} {v : Value} (hle : G.le G0) (h : ZlB P t G v) : ZlB P t G0 v:=by
 obtain ⟨m,h⟩:=h
 exact ⟨m,fun w hw=>h w fun b o hb=>hw b o (hle b o hb)⟩
theorem ZpF {t : TypeId} {x : Operand} {v : Value} (hm : ZlB P t G v) (hS : St w0 X G0 G L w)
  (hw : Region.wanted ⟨some d, .call ⟨.builtin .len,#[x],#[t]⟩,ty,pos,af,g⟩ (Zu ops ρ) = true) (hx : ev ρ x = v)
  (kk : ∀ m,K (ZQ ρ d (.int .i64 m)) w) : OW P ops ⟨some d, .call ⟨.builtin .len,#[x],#[t]⟩,ty,pos,af,g⟩ ρ w K:=by
 obtain ⟨m,h⟩:=hm
 refine WL.val hw ?_ rfl (kk m)
 simp [execOp,resolve,invoke,builtin,hx,h w hS.imm,Result.andThen]
end
end Go.Civ
namespace Go.Civ
open Go.RowKit Go.ChangeShapes Go.Deep Go.WideShapes
open Go.WideElems (rg elemAt)
set_option linter.unusedVariables false
section
variable {H : Type} {enc : TypeId × Value → H} {P : Program} {w W : World}
theorem ZpG {t : TypeId} (h : ∀ N,ZcD (fun d=>SizeOf.sizeOf d ≤ N) enc P w t QryE) : Xl enc P w t QryE:=fun fuel cs d pl ht hl=>h (SizeOf.sizeOf d) _ _ _ _ (Nat.le_refl _) ht hl
theorem ZnJ {α β γ δ ε ζ : Type} {A : Enc α} {B : Enc β} {C : Enc γ} {D : Enc δ} {E : Enc ε} {f : ζ → α × β × γ × δ × ε} {g : α × β × γ × δ × ε → ζ} {t : TypeId} {f0 f1 f2 f3 f4 : Field} (surj : ∀ p,f (g p) = p) (hu : P.underlying t = some (.struct #[f0,f1,f2,f3,f4])) (o0 : f0.offset = 0) (c0 : P.cellsOf f0.type = A.n) (o1 : f1.offset = A.n) (c1 : P.cellsOf f1.type = B.n)
  (o2 : f2.offset = A.n + B.n) (c2 : P.cellsOf f2.type = C.n) (o3 : f3.offset = A.n + B.n + C.n) (c3 : P.cellsOf f3.type = D.n) (o4 : f4.offset = A.n + B.n + C.n + D.n) (c4 : P.cellsOf f4.type = E.n) (ct : P.cellsOf t = A.n + (B.n + (C.n + (D.n + E.n))))
  (hA : Xl enc P w f0.type A) (hB : Xl enc P w f1.type B) (hC : Xl enc P w f2.type C) (hD : Xl enc P w f3.type D) (hE : Xl enc P w f4.type E) :
  Xl enc P w t ((Enc.pair A (Enc.pair B (Enc.pair C (Enc.pair D E)))).via f):=fun fuel cs d pl h hl=>by
 obtain ⟨xs,n,_,hx,hlen,hn,hf⟩:=DataW.trod_struct hu h
 match xs,hn with
 | [y0,y1,y2,y3,y4],_=>
  simp only [Prod.mk.injEq] at hx
  obtain ⟨rfl,_⟩:=hx
  have e : DataW.weights P t (.agg [y0.1,y1.1,y2.1,y3.1,y4.1]) = y0.1.weights P f0.type ++ (y1.1.weights P f1.type ++ (y2.1.weights P f2.type ++ (y3.1.weights P f3.type ++ (y4.1.weights P f4.type ++ [])))):=by
   rw [DataW.weights,hu]; simp [DataW.weightsEach]
  have hl' : ∀ x,x ∈ DataW.weights P t (.agg [y0.1,y1.1,y2.1,y3.1,y4.1]) → x ≤ reachBytes:=hl
  have h0:=by simpa using hf 0 f0 rfl
  have h1:=by simpa using hf 1 f1 rfl
  have h2:=by simpa using hf 2 f2 rfl
  have h3:=by simpa using hf 3 f3 rfl
  have h4:=by simpa using hf 4 f4 rfl
  rw [o0,c0,List.drop_zero] at h0
  rw [o1,c1] at h1
  rw [o2,c2] at h2
  rw [o3,c3] at h3
  rw [o4,c4] at h4
  obtain ⟨x0,r0⟩:=hA _ _ _ _ h0 fun x hx=>hl' x (by rw [e]; simp [hx])
  obtain ⟨x1,r1⟩:=hB _ _ _ _ h1 fun x hx=>hl' x (by rw [e]; simp [hx])
  obtain ⟨x2,r2⟩:=hC _ _ _ _ h2 fun x hx=>hl' x (by rw [e]; simp [hx])
  obtain ⟨x3,r3⟩:=hD _ _ _ _ h3 fun x hx=>hl' x (by rw [e]; simp [hx])
  obtain ⟨x4,r4⟩:=hE _ _ _ _ h4 fun x hx=>hl' x (by rw [e]; simp [hx])
  rw [List.take_of_length_le (by rw [List.length_drop,hlen,ct]; omega)] at r4
  refine ⟨g (x0,x1,x2,x3,x4),?_⟩
  show (Enc.pair A (Enc.pair B (Enc.pair C (Enc.pair D E)))).rep _ (f (g (x0,x1,x2,x3,x4))) _
  rw [surj]
  refine ⟨_,_,(List.take_append_drop A.n cs).symm,r0,(cs.drop A.n).take B.n,(cs.drop A.n).drop B.n,(List.take_append_drop B.n _).symm,r1,((cs.drop A.n).drop B.n).take C.n,((cs.drop A.n).drop B.n).drop C.n,(List.take_append_drop C.n _).symm,?_,
   (((cs.drop A.n).drop B.n).drop C.n).take D.n,(((cs.drop A.n).drop B.n).drop C.n).drop D.n,(List.take_append_drop D.n _).symm,?_,?_⟩
  ·rw [List.drop_drop]; exact r2
  ·rw [List.drop_drop,List.drop_drop,← Nat.add_assoc]; exact r3
  ·rw [List.drop_drop,List.drop_drop,List.drop_drop,← Nat.add_assoc,← Nat.add_assoc]; exact r4
def atF (D : DataW H) (s : Str) : Int:=
 match D.atKey (.string s) (.lit (.int .i64 0)) with
 | .lit (.int .i64 r)=>r
 | _=>0
theorem Zxi {t k e : TypeId} {v : Value} {d : DataW H} {p : List MemPlace} (ht : P.underlying t = some (.map k e)) (hk : P.underlying k = some .string) (he : P.underlying e = some (.int .i64)) (hz : ∀ w,(zeroValue e).run P w = .ok (.int .i64 0) w)
  (hv : ∃ a,v = .map a) (h : DataW.Trod enc P W 0 (fun _=>true) true t v d p) : ∃ f,Zhf P t (GW W) v f ∧ ZlB P t (GW W) v:=by
 obtain ⟨a,rfl⟩:=hv
 obtain ⟨fuel,hf⟩:=h
 have hkey : ∀ s : Str,s.length ≤ reach → keyOf P k (Za s) = some (.string s):=fun s hs=>WideMaps.keyOf_string_mk hk (s:=⟨s.toArray⟩) (by simp [ByteArray.size]; unfold reach at hs; unfold maxLen; omega)
 rcases WideElems.open_map ht hf with ⟨hcs,_⟩ | ⟨b,es,clock,n,rfl,hcs,hb,_,F,_⟩
 ·simp [Value.cells] at hcs
  subst hcs
  exact ⟨fun _=>0,fun w hw s hs=>⟨Maps.look_nil false (Maps.string_keyed hk) ht (hz w) (hkey s hs),(⟨by decide,by decide⟩ : Zj 0)⟩,0,fun w hw ty=>Maps.len_nil ht ty⟩
 ·simp [Value.cells] at hcs
  subst hcs
  have hgw : GW W b = some (.map es clock):=hb
  refine ⟨atF (.map ((es.toList.map (rg P k (elemAt enc P W 0 (fun _=>true) true n e))).foldr DataW.insert [])),fun w hw s hs=>?_,es.size,fun w hw ty=>?_⟩
  ·have hbw:=hw b _ hgw
   rcases WideElems.fit_lookup (w:=w) (WideMaps.string_law hk) ht (hz w) hbw F (hkey s hs) with ⟨hrun,hat⟩ | ⟨v,y,hrun,hR,hat,_⟩
   ·have e0 : atF (.map ((es.toList.map (rg P k (elemAt enc P W 0 (fun _=>true) true n e))).foldr DataW.insert [])) s = 0:=by unfold atF; rw [hat]
    rw [e0]; exact ⟨hrun,by decide,by decide⟩
   ·obtain ⟨r,rfl,rfl,hwf⟩:=WideElems.elemAt_int he hR
    have e0 : atF (.map ((es.toList.map (rg P k (elemAt enc P W 0 (fun _=>true) true n e))).foldr DataW.insert [])) s = r:=by unfold atF; rw [hat]
    rw [e0]; exact ⟨hrun,bounds_i64 hwf⟩
  ·have hbw:=hw b _ hgw
   simp [Builtin.len_,run_underlying ht,MapKept.run_getObj_map hbw,goInt,Result.andThen]
theorem Zj7 {b : Nat} {v : Value} (h : W.cell? ⟨b,0,none⟩ = some v) : Xh (GW W) ⟨b,0,none⟩ [v]:=by
 unfold World.cell? at h
 split at h
 ·rename_i c e fz hb
  refine ⟨rfl,c,e,fz,hb,fun j u hj=>?_⟩
  cases j with
  | zero=>simp at hj h ⊢; rw [h,hj]
  | succ j=>simp at hj
 ·simp at h
theorem ZlC {a : Assume} {C : Checked} {os : Os} {f : FuncId} {fn : Func} {s : ChangeSpec} {conds : List PathCond} {apart fresh handsOn again : Bool} {X : World → Array Value → Prop}
  (hX : ∀ (w w' : World) (args : Array Value),w.heap = w'.heap → X w args → X w' args)
  (own : ownKnob C.prog.godebug = none) (started : os.Started) (noInit : C.prog.inits.idxOf? f = none) (hfn : C.prog.funcs[f]? = some fn)
  (witness : ∃ (w : World) (tape : Tape) (i : Input),w.os = os ∧ (w.forCall tape i).Shaped C.prog ∧ i.vars = [] ∧ Input.okWide C.prog (w.forCall tape i) .any w.heap.size f i ∧
   ((s.pre enc C.prog fn conds apart (w.forCall tape i).memory i.args ∧ X (w.forCall tape i).memory i.args) ∧ sizedMet enc C.prog fn (OpenSpec.ofChange s) apart (w.forCall tape i).memory i.args) ∧ a.holds C.prog (lone (Frame.enter C.prog f i.args .normal) [] (w.forCall tape i)))
  (contract : ∀ (W : World) (base : Nat) (args : Array Value) (ds gs : List (DataW H)) (before : List MemPlace),
   (∀ (j : Nat) t v,fn.params[j]? = some t → args[j]? = some v → Value.okWide C.prog W .any base t v) →
   DataW.Whole enc C.prog fn.params.toList s.vars apart W args.toList ds gs before →
   conds.all (PathCond.test C.prog ⟨fn.params.toList,ds,s.plain.varTypes C.prog,gs⟩) = true →
   (DataW.weightsEach C.prog (fn.params.toList ++ s.plain.varTypes C.prog) (ds ++ gs)).all (· ≤ reachBytes) = true → X W args → W.ShapedOpen C.prog →
   a.holds C.prog (lone (Frame.enter C.prog f args .normal) [] W) →
   Calls C.prog f args W fun e W'=>∃ v,e = .returned v ∧ s.post enc C.prog fn apart fresh handsOn again W args v W') :
  ReturnsInHanded a C os f .any (fun w args=>(s.pre enc C.prog fn conds apart w args ∧ X w args) ∧ sizedMet enc C.prog fn (OpenSpec.ofChange s) apart w args) (s.post enc C.prog fn apart fresh handsOn again):=by
 refine returnsInHanded_of_calls own started noInit witness fun w tape i _ hsh _ hok hpre hholds=>?_
 obtain ⟨_,_,_,fn',hfn',_,_,_,_,hval⟩:=hok
 obtain rfl:=Option.some.inj (hfn'.symm.trans hfn)
 obtain ⟨⟨⟨ds,gs,before,hw,hc⟩,hx⟩,hz⟩:=hpre
 refine (contract (w.forCall tape i) w.heap.size i.args ds gs before hval (DataW.Whole.of_heap (by rfl) hw) hc (hz.weights hw) (hX _ _ _ (by rfl) hx) hsh hholds).mono fun e W' hp=>?_
 obtain ⟨v,rfl,hp⟩:=hp
 exact ChangeSpec.post_blind hp
end
end Go.Civ
set_option linter.unusedVariables false
namespace Go.Civ
open Go.RowKit Go.ChangeShapes Go.Deep Go.Proofs Go.Proofs.YtecneejegecmhaaGreatDoor
section
variable {H : Type} {enc : TypeId × Value → H} {w : World}
theorem ZpI : Xl enc Tryz.prog w 36 SpanE:=ZeL (g:=fun p=>⟨p.1,p.2⟩) (fun _=>rfl) Tryz.underlying36 rfl (by kernel_rfl) rfl (by kernel_rfl) (by kernel_rfl) (Q7 Tryz.underlying3) (Q7 Tryz.underlying3)
theorem ZyU : Xl enc Tryz.prog w 31 ValE:=ZlU (g:=fun p=>⟨p.1,p.2.1,p.2.2⟩) (fun _=>rfl) Tryz.underlying31 rfl (by kernel_rfl) rfl (by kernel_rfl) rfl (by kernel_rfl) (by kernel_rfl) (Q7 Tryz.underlying3) (Q7 Tryz.underlying3) (ZbP Tryz.underlying9)
theorem ZyV : Xl enc Tryz.prog w 54 ColE:=ZeL (g:=fun p=>⟨p.1,p.2⟩) (fun _=>rfl) Tryz.underlying54 rfl (by kernel_rfl) rfl (by kernel_rfl) (by kernel_rfl) (ZbP Tryz.underlying9) (Q7 Tryz.underlying3)
theorem Zxj : Xl enc Tryz.prog w 23 (ColE.slice 24):=Zc7 Tryz.underlying23 (by kernel_rfl) (by decide) (by kernel_rfl) (by decide) ZyV
theorem ZpJ : Xl enc Tryz.prog w 29 (Enc.str.slice 16):=Zc7 Tryz.underlying29 (by kernel_rfl) (by decide) (by kernel_rfl) (by decide) (ZbP Tryz.underlying9)
theorem Zxk : Xl enc Tryz.prog w 115 PairE:=Znh (A:= .int) Tryz.underlying115 (by kernel_rfl) (by kernel_rfl) (Q7 Tryz.underlying3)
theorem Zu2 : Xl enc Tryz.prog w 40 (PairE.slice 16):=Zc7 Tryz.underlying40 (by kernel_rfl) (by decide) (by kernel_rfl) (by decide) Zxk
theorem Zxl : ∀ N,ZcD (fun d=>SizeOf.sizeOf d ≤ N) enc Tryz.prog w 34 (Xy N):=
 Zh9 Tryz.underlying34 ⟨rfl,rfl,rfl,rfl,rfl⟩ Tryz.underlying3 Tryz.underlying9 Tryz.underlying9 ZyU Tryz.underlying32 ⟨by kernel_rfl,by kernel_rfl,by kernel_rfl,by kernel_rfl,by kernel_rfl⟩ (by kernel_rfl) (by kernel_rfl)
theorem Zu3 : ∀ N,ZcD (fun d=>SizeOf.sizeOf d ≤ N) enc Tryz.prog w 39 QryE:=
 ZgI Tryz.underlying39 ⟨rfl,rfl,rfl,rfl,rfl,rfl,rfl,rfl,rfl⟩ Tryz.underlying3 Tryz.underlying9 ZpJ ZpJ (ZoL Zxl) Tryz.underlying3 Tryz.underlying3 ZpI Tryz.underlying37
  ⟨by kernel_rfl,by kernel_rfl,by kernel_rfl,by kernel_rfl,by kernel_rfl,by kernel_rfl,by kernel_rfl,by kernel_rfl,by kernel_rfl⟩ (by kernel_rfl) (by kernel_rfl)
theorem Zxm : Xl enc Tryz.prog w 42 StpE:=ZnJ (g:=fun p=>⟨p.1,p.2.1,p.2.2.1,p.2.2.2.1,p.2.2.2.2⟩) (fun _=>rfl) Tryz.underlying42 rfl (by kernel_rfl) rfl (by kernel_rfl) rfl (by kernel_rfl) rfl (by kernel_rfl) rfl (by kernel_rfl) (by kernel_rfl) (ZpG Zu3) (Q7 Tryz.underlying3) (Q7 Tryz.underlying3) Zu2 ZpI
theorem Zu4 : Xl enc Tryz.prog w 22 (StpE.slice 280):=Zc7 Tryz.underlying22 (by kernel_rfl) (by decide) (by kernel_rfl) (by decide) Zxm
theorem Zxn : Xl enc Tryz.prog w 25 PlnE:=ZeL (g:=fun p=>⟨p.1,p.2⟩) (fun _=>rfl) Tryz.underlying25 rfl (by kernel_rfl) rfl (by kernel_rfl) (by kernel_rfl) Zu4 Zxj
end
theorem Z1o : ownKnob Tryz.prog.godebug = none:=by kernel_rfl
theorem ZlD : laidOutB Tryz.prog = true:=by kernel_rfl
theorem ZyW : Tryz.prog.globalNamed "civiltime/querytext.reserved" = some 2:=by kernel_rfl
theorem Z1p : Tryz.prog.globalNamed "civiltime/plan.all" = some 0:=by kernel_rfl
theorem ZyX : (Tryz.prog.globals[2]?).map (·.type) = some 29:=by kernel_rfl
theorem Z1q : (Tryz.prog.globals[0]?).map (·.type) = some 36:=by kernel_rfl
theorem ZyY (w : World) : (zeroValue 3).run Tryz.prog w = .ok (.int .i64 0) w:=by kernel_rfl
abbrev Zil : List (String × DataW Unit):=Rows.planCostsRow.laid
theorem Zxo {W : World} (h : W.ShapedOpen Tryz.prog) : ∃ m,W.cell? ⟨3,0,none⟩ = some (.int .i64 m):=
 cell_of_shapedOpen_int (zero:=#[.int .i64 0]) (t:=3) h (of_decide_eq_true (by kernel_rfl)) (by kernel_rfl) rfl (by kernel_rfl) (by kernel_rfl) Tryz.underlying3
theorem Zu5 {W : World} (h : laidMetH Tryz.prog Zil W) (hs : W.ShapedOpen Tryz.prog) : Glob (GW W):=by
 rw [MakeChecks.laidMetH_plain _ _ _ (by kernel_rfl)] at h
 obtain ⟨ps,⟨_,_,_,_,_,_,_,_,_,_,⟨_,_,_,_,_,_,_,_,_,_,⟨_,_,_,_,_,_,_,_,_,_,⟨_,_,_,_,_,_,_,_,_,_,⟨g0,t0,cs0,f0,p0,q0,hg0,ht0,hv0,hd0,⟨g1,t1,cs1,f1,p1,q1,hg1,ht1,hv1,hd1,_,_⟩,_⟩,_⟩,_⟩,_⟩,_⟩,_,_⟩:=h
 obtain rfl:=Option.some.inj (ZyW.symm.trans hg0)
 obtain rfl:=Option.some.inj (Z1p.symm.trans hg1)
 obtain rfl:=Option.some.inj (ZyX.symm.trans ht0)
 obtain rfl:=Option.some.inj (Z1q.symm.trans ht1)
 refine ⟨?_,?_,?_⟩
 ·obtain ⟨v,e,hs⟩:=ZoM (L:=resvL) Tryz.underlying29 Tryz.underlying9 (by kernel_rfl) (by decide) (by decide) hd0
  have hc:=ZhM hg0 hv0 (by rw [← Array.length_toList,e]; exact Nat.zero_lt_one)
  rw [e] at hc
  exact ⟨v,hc,hs⟩
 ·obtain ⟨y0,y1,n,hx,hlen,h0,h1⟩:=trod_struct2 Tryz.underlying36 hd1
  have c3 : Tryz.prog.cellsOf 3 = 1:=by kernel_rfl
  have c36 : Tryz.prog.cellsOf 36 = 2:=by kernel_rfl
  obtain ⟨n0,r0,e0,_⟩:=DataW.trod_int Tryz.underlying3 h0
  obtain ⟨n1,r1,e1,_⟩:=DataW.trod_int Tryz.underlying3 h1
  rw [e0,e1] at hx
  simp only [Rows.laid_civiltime_plan_all,Prod.mk.injEq,DataW.agg.injEq,List.cons.injEq,DataW.lit.injEq,Lit.int.injEq,true_and,and_true] at hx
  obtain ⟨⟨x0,x1⟩,_⟩:=hx
  subst x0 x1
  have hc:=ZhM hg1 hv1 (by rw [← Array.length_toList,hlen,c36]; decide)
  have hl : cs1.toList = [.int .i64 (-62135596800), .int .i64 253402300800]:=by
   have h2 : cs1.toList.length = 2:=hlen.trans c36
   match hm : cs1.toList,h2 with
   | [a,b],_=>
    rw [hm] at r0 r1
    simp [c3] at r0 r1
    rw [r0,r1]
  rw [hl] at hc
  exact hc
 ·obtain ⟨m,hm⟩:=Zxo hs
  exact ⟨m,Zj7 hm⟩
end Go.Civ
