/- Lemmas. -/
import Derived.Test.YtcopkjhdncdnmaaGreatDoorP30
namespace Go.Civ
open Go.RowKit
set_option linter.unusedVariables false
section
variable {n : Nat} {q x : Query} {l : List Schema} {ins : List (List Col)} {a b : List Col} {k : Nat}
theorem ZgL : (Qa a).1.length ≤ 20:=by unfold Qa; split <;> simp; omega
theorem Zry {ns : List Str} (h : ns.length ≤ 20) : (Yl a ns).1.length ≤ 20:=Nat.le_trans ZhW h
theorem Zqf (h : a.length ≤ 20) : (QM q a).1.length ≤ 20:=by
 unfold QM; split
 ·split
  ·simp only [ZbO]; exact h
  ·simp
 ·simp
theorem Zrz : (jnT a b).1.length ≤ 20:=by unfold jnT; split; exact ZgL; simp
theorem Zqg : (XF q a).1.length ≤ 20:=by
 unfold XF; split
 ·simp
 ·split
  ·simp
  ·split
   ·simp
   ·split
    ·simp
    ·exact ZgL
theorem Zja {i : Nat} (h : ∀ a ∈ ins,a.length ≤ 20) : ((ins[i]?).getD []).length ≤ 20:=by
 cases e : ins[i]? with
 | none=>simp
 | some a=>exact h a (List.mem_of_getElem? e)
theorem ZoG (h : ∀ s ∈ l,s.cols.length ≤ 8) {nm : Str} : ((YQ l nm).getD noS).cols.length ≤ 20:=by
 cases e : YQ l nm with
 | none=>simp
 | some s=>exact Nat.le_trans (h s (List.mem_of_find?_eq_some e)) (by decide)
theorem Zqh (h : ∀ a ∈ ins,a.length ≤ 20) (hl : ∀ s ∈ l,s.cols.length ≤ 8) (hc : q.cols.length ≤ 20) : (YM n q l ins).1.length ≤ 20:=by
 unfold YM
 split
 ·split
  ·exact ZoG hl
  ·simp
 ·split
  ·split
   ·exact Zja h
   ·simp
  ·split
   ·exact Zry hc
   ·split
    ·exact Zqf (Zja h)
    ·split
     ·exact Zrz
     ·split
      ·split
       ·exact Zja h
       ·simp
      ·split
       ·exact Zqg
       ·split
        ·split
         ·simp
         ·exact ZgL
        ·exact Zja h
theorem ZhY (hl : ∀ s ∈ l,s.cols.length ≤ 8) : ∀ {n : Nat} {q : Query},okQ n q → (Y5 n q l).1.length ≤ 20
 | 0,_,h=>h.elim
 | n + 1,q,⟨h1,h2,h3,h4⟩=>by
  rw [Y5]
  split
  ·refine Zqh (fun a ha=>?_) hl h2
   obtain ⟨x,hx,rfl⟩:=List.mem_map.1 ha
   exact ZhY hl (h4 x hx)
  ·simp
theorem Zn1 (hl : ∀ s ∈ l,s.cols.length ≤ 8) (h : okQ (n + 1) q) : ∀ a ∈ q.l.map (fun x=>(Y5 n x l).1),a.length ≤ 20:=fun a ha=>by
 obtain ⟨x,hx,rfl⟩:=List.mem_map.1 ha
 exact ZhY hl (h.2.2.2 x hx)
theorem Zmc (h : okQ (n + 1) q) : Xc (n + 1) q = true:=h.1
theorem Zjb (h : Xc n q = true) (hk : q.kind = 4) : q.names.length = q.cols.length:=by
 rw [ZaK hk] at h
 simp only [Bool.and_eq_true,decide_eq_true_eq] at h
 omega
theorem Zpx (h : Xc n q = true) (hk : q.kind = 9) : (q.names.length : Int) = if q.fn = 1 then 1 else 2:=by
 rw [XD hk] at h
 simp only [Bool.and_eq_true,decide_eq_true_eq] at h
 exact h.1.2.2.2.1
end
end Go.Civ
namespace Go.Civ
open Go.RowKit
set_option linter.unusedVariables false
def smQ : Nat → Query → Prop
 | 0,_=>True
 | n + 1,q=>q.cols.length ≤ 20 ∧ q.names.length ≤ 20 ∧ ∀ x ∈ q.l,smQ n x
theorem Zkk {f : Query → Int} (h0 : ∀ x,1 ≤ f x) : ∀ {l : List Query} {n : Int} {x : Query},0 ≤ n → x ∈ l → Xg f l n ≤ 60 → f x ≤ 60
 | y :: r,n,x,hn,hx,h=>by
  rw [Xg] at h
  have hy:=h0 y
  have hge : ∀ {l : List Query} {m : Int},m ≤ Xg f l m:=by
   intro l
   induction l with
   | nil=>intro m; exact Int.le_refl _
   | cons z l ih=>
    intro m; rw [Xg]
    split
    ·have h1:=@ih (m + f z); have:=h0 z; omega
    ·exact Int.le_refl _
  by_cases e : n ≤ 60
  ·rw [if_pos e] at h
   rcases List.mem_cons.1 hx with rfl | hx
   ·have:=@hge r (n + f x); omega
   ·exact Zkk h0 (by omega) hx h
  ·rw [if_neg e] at h; omega
theorem Zpy : ∀ {n : Nat} {q : Query} {dep : Int},0 ≤ dep ∧ dep ≤ 13 → Y8 n q dep ≤ 60 → smQ n q → okQ n q
 | 0,q,dep,_,h,_=>by rw [Y8] at h; omega
 | n + 1,q,dep,hd,h,⟨s1,s2,s3⟩=>by
  rw [Y8] at h
  by_cases h1 : 12 < dep
  ·rw [if_pos h1] at h; omega
  ·rw [if_neg h1] at h
   by_cases h2 : Xc (n + 1) q = false
   ·rw [if_pos h2] at h; omega
   ·rw [if_neg h2] at h
    refine ⟨by simpa using h2,s1,s2,fun x hx=>?_⟩
    exact Zpy (dep:=dep + 1) (by omega) (Zkk (fun y=>(Zcl n y (dep + 1) (by omega)).1) (by decide) hx h) (s3 x hx)
def gdA (l : List Schema) (j : Nat) (s : Schema) : Bool:=X3 s && !(YQ (l.take j) s.name).isSome
def QG (l : List Schema) : Bool:=l.zipIdx.all fun p=>gdA l p.2 p.1
def ZP (n : Nat) (q : Query) (l : List Schema) : List Col × Int:=if Qp n q then (if QG l then Y5 n q l else ([],1)) else ([],1)
section
variable {n : Nat} {q : Query} {l : List Schema} {s : Schema} {k : Nat}
theorem Zbb (h : l[k]? = some s) (hs : gdA l k s = false) : QG l = false:=by
 unfold QG
 rw [Bool.eq_false_iff]
 intro e
 rw [List.all_eq_true] at e
 have:=e (s,k) (List.mem_zipIdx_iff_getElem?.2 h)
 rw [this] at hs; cases hs
theorem Zn2 (h : ∀ j,j < k → ∀ s,l[j]? = some s → gdA l j s = true) (hk : l.length ≤ k) : QG l = true:=by
 unfold QG
 rw [List.all_eq_true]
 rintro ⟨s,j⟩ hm
 have hj:=List.mem_zipIdx_iff_getElem?.1 hm
 have:=(List.getElem?_eq_some_iff.1 hj).1
 exact h j (by simp at this ⊢; omega) s hj
theorem ZgM (h : QG l = true) : ∀ s ∈ l,X3 s = true:=fun s hs=>by
 obtain ⟨i,hi⟩:=List.getElem?_of_mem hs
 unfold QG at h
 rw [List.all_eq_true] at h
 have:=h (s,i) (List.mem_zipIdx_iff_getElem?.2 hi)
 unfold gdA at this
 rw [Bool.and_eq_true] at this
 exact this.1
theorem ZoH (h : X3 s = true) : s.cols.length ≤ 8:=by
 unfold X3 Qs at h
 simp only [Bool.and_eq_true,decide_eq_true_eq] at h
 exact h.1.1.1.1.1.2
theorem ZhZ (h : QG l = true) : ∀ s ∈ l,s.cols.length ≤ 8:=fun s hs=>ZoH (ZgM h s hs)
theorem ZoI (h : X3 s = true) : ¬ s.name = []:=fun e=>by
 unfold X3 Qs XU at h
 rw [e] at h
 simp at h
theorem Zgj (h : X3 s = false) : gdA l k s = false:=by unfold gdA; rw [h]; rfl
theorem Zr0 (h : (YQ l s.name).isSome = true) : ((YQ l s.name).getD noS).name = s.name:=by
 cases e : YQ l s.name with
 | none=>rw [e] at h; cases h
 | some x=>have:=List.find?_some e; simpa using this
theorem Zgk (h : ¬ ((YQ (l.take k) s.name).getD noS).name = []) : gdA l k s = false:=by
 unfold gdA
 cases e : YQ (l.take k) s.name with
 | none=>rw [e] at h; exact absurd rfl h
 | some x=>simp
theorem Zmd (h : X3 s = true) (h2 : ((YQ (l.take k) s.name).getD noS).name = []) : gdA l k s = true:=by
 unfold gdA
 rw [h]
 cases e : (YQ (l.take k) s.name).isSome with
 | false=>rfl
 | true=>rw [Zr0 e] at h2; exact absurd h2 (ZoI h)
theorem Zjc (h : Qp n q = false) : [] = (ZP n q l).1 ∧ 1 = (ZP n q l).2:=by unfold ZP; rw [h]; exact ⟨rfl,rfl⟩
theorem ZbK (h : Qp n q = true) (h2 : QG l = false) : [] = (ZP n q l).1 ∧ 1 = (ZP n q l).2:=by unfold ZP; rw [h,h2]; exact ⟨rfl,rfl⟩
theorem Zgl (h : Qp n q = true) (h2 : QG l = true) : Y5 n q l = ZP n q l:=by unfold ZP; rw [h,h2]; rfl
theorem ZfL (h : Qp n q = true) (hs : smQ n q) : okQ n q:=Zpy (by decide) (of_decide_eq_true h) hs
variable {a b cs : List Col} {c x y : Col} {ns : List Str} {t : Str}
theorem Zn3 (h : ns[k]? = some t) (h2 : Zx cs t < 0) : [] = (Yl cs ns).1 ∧ false = Xk cs ns:=by
 have : Xk cs ns = false:=List.all_eq_false.2 ⟨t,List.mem_of_getElem? h,by rw [decide_eq_false (by omega)]; simp⟩
 exact ⟨(Zkc h h2).1,this.symm⟩
theorem Zn4 (h : ∀ j,j < k → ∀ s,ns[j]? = some s → 0 ≤ Zx cs s) (hk : ns.length ≤ k) : (ns.take k).map (Xv cs) = (Yl cs ns).1 ∧ true = Xk cs ns:=by
 have : Xk cs ns = true:=List.all_eq_true.2 fun x hx=>by
  obtain ⟨i,hi⟩:=List.getElem?_of_mem hx
  exact decide_eq_true (h i (Nat.lt_of_lt_of_le (List.getElem?_eq_some_iff.1 hi).1 hk) x hi)
 exact ⟨(ZhU h hk).1,this.symm⟩
theorem ZG (h : Xk cs ns = true) : (Yl cs ns).2 = 0:=by unfold Yl; rw [if_pos h]
theorem Zs1 (h : Xk cs ns = false) : (Yl cs ns).2 = 7:=by unfold Yl; rw [h]; rfl
theorem Zs2 (h : Xk cs ns = true) : (Yl cs ns).1 = ns.map (Xv cs):=by unfold Yl; rw [if_pos h]
theorem Zr1 (h1 : x.name = y.name) (h2 : x.kind = y.kind) : decide (x = y) = true:=by cases x; cases y; simp at h1 h2 ⊢; exact ⟨h1,h2⟩
theorem Zlm (h1 : ¬ x.name = y.name) : decide (x = y) = false:=decide_eq_false fun e=>h1 (by rw [e])
theorem Zln (h1 : ¬ x.kind = y.kind) : decide (x = y) = false:=decide_eq_false fun e=>h1 (by rw [e])
theorem Zme {q : Query} (h : Xk cs q.cols = false) : [] = (XF q cs).1 ∧ 7 = (XF q cs).2:=by
 have h7:=Zs1 h
 have h1:=ZlZ (q:=q) (l:=cs) (by omega)
 exact ⟨h1.1,h7.symm.trans h1.2⟩
end
end Go.Civ
namespace Go.Civ
open Go.RowKit
set_option linter.unusedVariables false
def ND (l : List Col) : Prop:=l.Pairwise fun x y=>¬ x.name = y.name
section
variable {l a b : List Col} {c x : Col} {nm : Str} {k : Nat} {n : Nat} {q : Query} {S : List Schema}
theorem ZaM (h : x ∈ l) (hx : x.name = nm) : 0 ≤ Zx l nm:=by
 have:=ZbM (fun y : Col=>decide (y.name = nm)) l
 have h2 : l.any (fun y=>decide (y.name = nm)) = true:=List.any_eq_true.2 ⟨x,h,decide_eq_true hx⟩
 rw [h2] at this
 exact of_decide_eq_true this
theorem XE (h : 0 ≤ Zx l nm) : (Xv l nm).name = nm ∧ Xv l nm ∈ l:=by
 have h9 : YP (fun y : Col=>decide (y.name = nm)) l ≠ -1:=fun e=>by
  have : Zx l nm = -1:=e
  omega
 obtain ⟨m,hm,y,hy,hp,_⟩:=Zia h9
 have hm2 : Zx l nm = (m : Int):=hm
 have : Xv l nm = y:=ZB h (by rw [hm2]; exact hy)
 rw [this]; exact ⟨of_decide_eq_true hp,List.mem_of_getElem? hy⟩
theorem ZgO : Zbk l = true ↔ ND l:=by
 constructor
 ·intro h
  unfold ND
  rw [List.pairwise_iff_getElem]
  intro i j hi hj hij e
  unfold Zbk at h
  rw [List.all_eq_true] at h
  have hj':=of_decide_eq_true (h (l[j],j) (List.mem_zipIdx_iff_getElem?.2 (List.getElem?_eq_getElem hj)))
  have hi':=of_decide_eq_true (h (l[i],i) (List.mem_zipIdx_iff_getElem?.2 (List.getElem?_eq_getElem hi)))
  simp only at hj' hi'
  rw [← e,hi'] at hj'
  omega
 ·intro h
  refine Zgi (k:=l.length) (fun j hj c hc=>?_) (Nat.le_refl _)
  refine Zf7 hc rfl fun i hi y hy=>decide_eq_false fun e=>?_
  unfold ND at h
  rw [List.pairwise_iff_getElem] at h
  obtain ⟨hi2,rfl⟩:=List.getElem?_eq_some_iff.1 hy
  obtain ⟨hj2,rfl⟩:=List.getElem?_eq_some_iff.1 hc
  exact h i j hi2 hj2 hi e
theorem ZfN (ha : ND a) (hb : ND b) (h : ∀ y ∈ b,Zx a y.name < 0) : ND (a ++ b):=by
 unfold ND at *
 rw [List.pairwise_append]
 refine ⟨ha,hb,fun x hx y hy e=>?_⟩
 have h1:=h y hy
 have h2:=ZaM hx e
 omega
theorem Zn6 (ha : ND a) (hb : ND b) : Zbk (a ++ b) = !(b.any fun c=>decide (0 ≤ Zx a c.name)):=by
 cases e : (b.any fun c=>decide (0 ≤ Zx a c.name)) with
 | false=>
  refine ZgO.2 (ZfN ha hb fun y hy=>?_)
  have:=List.any_eq_false.1 e y hy
  simp at this; omega
 | true=>
  obtain ⟨y,hy,h⟩:=List.any_eq_true.1 e
  have h:=of_decide_eq_true h
  rw [Bool.not_true,Bool.eq_false_iff]
  intro h2
  have h3:=ZgO.1 h2
  unfold ND at h3
  rw [List.pairwise_append] at h3
  have h4:=XE h
  exact h3.2.2 _ h4.2 y hy h4.1
theorem Zh8 (h : ND a) : ND (Qa a).1:=by unfold Qa; split; exact List.Pairwise.nil; exact h
theorem XP : ND []:=List.Pairwise.nil
theorem Zn7 {ns : List Str} (h : X7 ns = true) : ns.Pairwise fun x y=>¬ x = y:=by
 rw [List.pairwise_iff_getElem]
 intro i j hi hj hij e
 unfold X7 at h
 rw [List.all_eq_true] at h
 have hj':=h (ns[j],j) (List.mem_zipIdx_iff_getElem?.2 (List.getElem?_eq_getElem hj))
 unfold qnA at hj'
 simp only [Bool.and_eq_true,Bool.not_eq_true'] at hj'
 have:=ZjL (k:=j) (List.getElem?_eq_getElem hi) hij e
 rw [this] at hj'
 exact absurd hj'.2 (by simp)
theorem Zqi {ns : List Str} (h : Za8 ns = true) : ns.Pairwise fun x y=>¬ x = y:=by
 rw [List.pairwise_iff_getElem]
 intro i j hi hj hij e
 unfold Za8 at h
 rw [List.all_eq_true] at h
 have hj':=h (ns[j],j) (List.mem_zipIdx_iff_getElem?.2 (List.getElem?_eq_getElem hj))
 unfold ZbC at hj'
 simp only [Bool.and_eq_true,Bool.not_eq_true'] at hj'
 have:=ZjL (k:=j) (List.getElem?_eq_getElem hi) hij e
 rw [this] at hj'
 exact absurd hj'.2 (by simp)
theorem Zn8 {s : Schema} (h : X3 s = true) : ND s.cols:=by
 unfold X3 Qs at h
 simp only [Bool.and_eq_true,decide_eq_true_eq] at h
 have:=Zqi h.1.2
 rw [List.pairwise_map] at this
 exact this
theorem Zkl {ns : List Str} (h : X7 ns = true) : ND (Yl a ns).1:=by
 unfold Yl
 split
 ·rename_i hs
  have hp:=Zn7 h
  unfold ND
  rw [List.pairwise_map]
  refine List.Pairwise.imp_of_mem (R:=fun x y=>¬ x = y) (fun {x y} hx hy hne=>?_) hp
  have h1:=(XE (of_decide_eq_true (List.all_eq_true.1 hs x hx))).1
  have h2:=(XE (of_decide_eq_true (List.all_eq_true.1 hs y hy))).1
  rw [h1,h2]; exact hne
 ·exact XP
theorem Zn9 : ND (QM q a).1:=by
 unfold QM
 split
 ·split
  ·rename_i h; exact ZgO.1 h
  ·exact XP
 ·exact XP
theorem Zpz (ha : ND a) (hb : ND b) : ND (jnT a b).1:=by
 unfold jnT
 split
 ·refine Zh8 (ZfN ha (List.Pairwise.filter _ hb) fun y hy=>?_)
  exact of_decide_eq_true (List.mem_filter.1 hy).2
 ·exact XP
theorem ZnA (h : X7 q.cols = true) : ND (XF q a).1:=by
 unfold XF
 split
 ·exact XP
 ·split
  ·exact XP
  ·split
   ·exact XP
   ·split
    ·exact XP
    ·rename_i h3 _
     refine Zh8 (ZfN (Zkl h) (List.pairwise_singleton _ _) fun y hy=>?_)
     rw [List.mem_singleton.1 hy]; simp only; omega
theorem Zbc {ins : List (List Col)} {i : Nat} (h : ∀ a ∈ ins,ND a) : ND ((ins[i]?).getD []):=by
 cases e : ins[i]? with
 | none=>exact XP
 | some a=>exact h a (List.mem_of_getElem? e)
theorem Zgm (h : Xc n q = true) (hk : q.kind = 3 ∨ q.kind = 9) : X7 q.cols = true:=by
 rcases hk with hk | hk
 ·rw [Zd1 hk] at h; simp only [Bool.and_eq_true] at h; exact h.1.2
 ·rw [XD hk] at h; simp only [Bool.and_eq_true] at h; exact h.1.1
theorem Zqj {ins : List (List Col)} {m : Nat} (h : ∀ a ∈ ins,ND a) (hg : QG S = true) (hp : Xc m q = true) : ND (YM n q S ins).1:=by
 unfold YM
 split
 ·split
  ·cases e : YQ S q.table with
   | none=>exact XP
   | some s=>exact Zn8 (ZgM hg s (List.mem_of_find?_eq_some e))
  ·exact XP
 ·split
  ·split
   ·exact Zbc h
   ·exact XP
  ·split
   ·exact Zkl (Zgm hp (.inl ‹_›))
   ·split
    ·exact Zn9
    ·split
     ·exact Zpz (Zbc h) (Zbc h)
     ·split
      ·split
       ·exact Zbc h
       ·exact XP
      ·split
       ·exact ZnA (Zgm hp (.inr ‹_›))
       ·split
        ·split
         ·exact XP
         ·rename_i hn
          refine Zh8 (ZfN (Zbc h) (Zbc h) fun y hy=>?_)
          have:=List.any_eq_false.1 (Bool.eq_false_iff.2 hn) y hy
          simp at this; omega
        ·exact Zbc h
theorem Zlo (hg : QG S = true) : ∀ {n : Nat} {q : Query},okQ n q → ND (Y5 n q S).1
 | 0,_,h=>h.elim
 | n + 1,q,⟨h1,h2,h3,h4⟩=>by
  rw [Y5]
  split
  ·refine Zqj (fun a ha=>?_) hg h1
   obtain ⟨x,hx,rfl⟩:=List.mem_map.1 ha
   exact Zlo hg (h4 x hx)
  ·exact XP
theorem Zr2 (hg : QG S = true) (h : okQ (n + 1) q) : ∀ a ∈ q.l.map (fun x=>(Y5 n x S).1),ND a:=fun a ha=>by
 obtain ⟨x,hx,rfl⟩:=List.mem_map.1 ha
 exact Zlo hg (h.2.2.2 x hx)
end
end Go.Civ
set_option linter.unusedVariables false
set_option linter.unusedSimpArgs false
set_option maxRecDepth 100000
set_option maxHeartbeats 4000000
namespace Go.Civ
open Go.Proofs
theorem Zmf {G : GH} {w : World} (hG : G.In w) (q : Query) (l : List Col) (cq : List Value) (hcq : QryE.rep G q cq) (vl : Value) (hvl : Sl ColE 24 G vl l) (hnn : q.names.length = q.cols.length) : CL Tryz.prog (nat_lit 124) #[.agg cq.toArray,vl] [] w G fun G' _ r=>∃ r0 r1,r = .tuple #[r0,r1] ∧ Sl ColE 24 G' r0 ((QM q l).1) ∧ r1 = U ((QM q l).2):=by
 refine Zo ft [] Tryz.func124 V V ?_
 have hS:=St.start (X:=[]) hG
 obtain ⟨v1,v2,v3,v4,rfl,B1,B2,A1,A2,B3,B4,B5,B6,B7,ZK,A3,hb9,Z9,Z7,Z6,A4⟩:=Ze hcq
 refine ZL [U q.kind,Zb q.table,v1,v2,U q.cond.kind,Zb q.cond.col,Zb q.cond.oth,U q.cond.v.k,U q.cond.v.n,Zb q.cond.v.s,v3,U q.rel,U q.fn,U q.span.a,U q.span.b,v4] _ hS V V V (fun p1 w1 G1 L1 M1 C1 S1=>?_)
 refine XG QT V V V (ZgP S1.imm l _ (hvl.mono L1)) (fun w2 G2 r1 hres1 P1=>?_)
 have S2:=S1.call hres1
 have L2:=hres1.le
 obtain ⟨o1,R1,hf1⟩:=P1
 have S3:=S1.adoptO hres1 hf1
 refine Za S3 (YC.drop 2 (C1.mono L2)) ZU V V V ?_
 have V1:=A1.bound
 have j1:=(L1.trans L2)
 refine Zl (A1.mono j1) Yo V V ?_
 refine LP.go ft [] (fun m ρ1 w1=>∃ (k1 : Nat),∃ (v5 : Value) (o2 : OB),∃ (G3 : GH),m = q.cols.length - k1 ∧ G2.le G3 ∧ St w [] G G3 [o2] w1 ∧ YH ColE 24 48 G3 v5 (Xt l (q.cols.take k1) (q.names.take k1) l) o2 ∧ FR ρ1 [(1,vl),(2,Zu p1),(6,v5),(15,v1),(16,U (q.cols.length : Int)),(17,U (k1 : Int))] ∧ k1 ≤ q.cols.length ∧ ∀ j,j < k1 → ∀ s,q.cols[j]? = some s → 0 ≤ Zx l s) _ ⟨0,r1,o1,G2,V,(G2.le_refl),S3,(YH.cast R1 (by simp [Xt])),(Yt V),(by omega),(by intro j hj; omega)⟩ ?_
 rintro m ρ1 w3 ⟨k1,v5,o2,G3,rfl,L3,S4,R2,F9,f1,f2⟩
 refine F9.set ?_
 clear F9
 refine Z1 (k1 : Int) (q.cols.length : Int) V V V (fun h1=>?_) (fun h1=>?_)
 ·have j2:=(j1.trans L3)
  refine WL.indexAddr (A1.mono j2) k1 (by omega) Yo Zy V V V V (fun p2 x1 U1 E1=>?_)
  obtain ⟨D1,C2,R3⟩:=E1
  obtain ⟨rfl,ZV⟩:=R3
  refine Za S4 C2 Zy V V V ?_
  refine Zw S4 Qm V V V (ZdC S4.imm l x1 _ (hvl.mono j2)) (fun w4 G4 S5 L4=>?_)
  refine Z1 (Zx l x1) 0 V V V (fun h2=>?_) (fun h2=>?_)
  ·exact RT S5 V ⟨_,_,V,(Sl.cast (Sl.nil ColE 24 G4) (by exact (Zpw ‹_› ‹_›).1)),(congrArg (Value.int .i64) (by exact (Zpw ‹_› ‹_›).2))⟩
  refine Za S5 (YC.drop 3 (C1.mono ((L2.trans L3).trans L4))) ZU V V V ?_
  refine WL.indexAddr (A2.mono (j2.trans L4)) k1 (by omega) Yo Zy V V V V (fun p3 x2 U2 E2=>?_)
  obtain ⟨D2,C3,R4⟩:=E2
  obtain ⟨rfl,Ye⟩:=R4
  refine Za S5 C3 Zy V V V ?_
  refine ZdU (R2.mono L4) (((Zx l x1)).toNat) (by (rw [ZbO]; exact Zaz (by omega))) Yx Ym V V V (congrArg (Value.int .i64) (Int.toNat_of_nonneg (by omega)).symm) (fun p4 x3 ec1 U3 R5 ra1=>?_)
  obtain ⟨rfl,Yd,B16⟩:=Yh R5
  refine Ziq (R2.mono L4) ra1 S5 0 V (by (rw [ZbO]; exact Zaz (by omega))) V 0 _ [Zb x2] (Col.mk x2 x3.kind) [Zb x2,U x3.kind] V Zy V (ZN V) V V (Xz (Col.mk x2 x3.kind) Ye B16) V V V (fun o3 w5 R6 S6=>?_)
  refine ZC k1 (by have:=Zm; omega) V V V ?_
  exact BK.mk' _ ⟨k1 + 1,v5,o3,G4,V,(L3.trans L4),S6,(YH.cast R6 (by (exact (Zlk ‹_›).trans (Zi8 ‹_› ‹_›).symm))),(Yt V),(by omega),(by exact Yz ‹_› ‹_› (by omega))⟩ (show q.cols.length - (k1 + 1) < q.cols.length - k1 by omega)
 have hsm:=Zqe (by assumption : ∀ j,j < k1 → ∀ s,q.cols[j]? = some s → 0 ≤ Zx l s) (by omega)
 have hrn:=YH.cast (l':=Xt l q.cols q.names l) R2 (by rw [List.take_of_length_le (by omega),List.take_of_length_le (by omega)])
 obtain ⟨G5,L5,A5,S7⟩:=YH.freeze hrn S4 0 V
 have V2:=A5.bound
 refine Zl A5 Yx V V ?_
 refine LP.go ft [] (fun m ρ1 w1=>∃ (k2 : Nat),∃ (G6 : GH),m = (Xt l q.cols q.names l).length - k2 ∧ G5.le G6 ∧ St w [] G G6 [none] w1 ∧ FR ρ1 [(6,v5),(37,v5),(38,U (((Xt l q.cols q.names l).length : Nat) : Int)),(39,U (k2 : Int))] ∧ k2 ≤ (Xt l q.cols q.names l).length ∧ ∀ j,j < k2 → ∀ (c : Col),(Xt l q.cols q.names l)[j]? = some c → Zx (Xt l q.cols q.names l) c.name = (j : Int)) _ ⟨0,G5,V,(G5.le_refl),S7,(Yt V),(by omega),(by intro j hj; omega)⟩ ?_
 rintro m ρ1 w6 ⟨k2,G6,rfl,L6,S8,F9,f3,f4⟩
 refine F9.set ?_
 clear F9
 refine Z1 (k2 : Int) (((Xt l q.cols q.names l).length : Nat) : Int) V V V (fun h3=>?_) (fun h3=>?_)
 ·refine WL.indexAddr (A5.mono L6) k2 (by omega) Yx Ym V V V V (fun p5 x4 U4 E3=>?_)
  obtain ⟨D3,C4,R7⟩:=E3
  obtain ⟨rfl,B17,Yf⟩:=Yh R7
  refine Zc S8 C4 [Zb x4.name,U x4.kind] Ym V V V V V ?_
  refine WL.alloc S8 Ym V V (fun b1 w7 N1 S9=>?_)
  refine ZY S9 0 [Zb x4.name,U x4.kind] V V Ym V V V V V V (fun w9 S10=>?_)
  obtain ⟨G7,L7,C5,S11⟩:=S10.shutB N1
  refine Za S11 (YC.drop 0 C5) Zy V V V ?_
  refine Zw S11 Qm V V V (ZdC S11.imm (Xt l q.cols q.names l) x4.name _ (A5.mono (L6.trans L7))) (fun w10 G9 S12 L9=>?_)
  refine Z8 (Zx (Xt l q.cols q.names l) x4.name) (k2 : Int) V V V (fun h4=>?_) (fun h4=>?_)
  ·exact RT S12 V ⟨_,_,V,(Sl.cast (Sl.nil ColE 24 G9) (by exact (ZiW hsm (Zkf ‹_› (by omega))).1)),(congrArg (Value.int .i64) (by exact (ZiW hsm (Zkf ‹_› (by omega))).2))⟩
  refine ZC k2 (by have:=Zm; omega) V V V ?_
  exact BK.mk' _ ⟨k2 + 1,G9,V,(L6.trans (L7.trans L9)),S12,(Yt V),(by omega),(by exact Za9 (P:=fun j (c : Col)=>Zx (Xt l q.cols q.names l) c.name = (j : Int)) ‹_› ‹_› (by omega))⟩ (show (Xt l q.cols q.names l).length - (k2 + 1) < (Xt l q.cols q.names l).length - k2 by omega)
 exact RT S8 V ⟨_,_,V,(Sl.cast (A5.mono L6) (by exact (ZiX hsm (Zgi ‹_› (by omega))).1)),(congrArg (Value.int .i64) (by exact (ZiX hsm (Zgi ‹_› (by omega))).2))⟩
theorem Zmg {G : GH} {w : World} (hG : G.In w) (q : Query) (l : List Col) (cq : List Value) (hcq : QryE.rep G q cq) (vl : Value) (hvl : Sl ColE 24 G vl l) (hns : q.cols.length ≤ 1000) (hnm : (q.names.length : Int) = if q.fn = 1 then 1 else 2) : CL Tryz.prog (nat_lit 126) #[.agg cq.toArray,vl] [] w G fun G' _ r=>∃ r0 r1,r = .tuple #[r0,r1] ∧ Sl ColE 24 G' r0 ((XF q l).1) ∧ r1 = U ((XF q l).2):=by
 refine Zo ft [] Tryz.func126 V V ?_
 have N1 : 1 ≤ q.names.length:=by split at hnm <;> omega
 have hsl9:=ZhW (l:=l) (ns:=q.cols)
 have hS:=St.start (X:=[]) hG
 have T1:=Ze hcq
 obtain ⟨v1,v2,v3,v4,rfl,B1,B2,A1,A2,B3,B4,B5,B6,B7,ZK,A3,hb9,Z9,Z7,Z6,A4⟩:=T1
 refine ZL [U q.kind,Zb q.table,v1,v2,U q.cond.kind,Zb q.cond.col,Zb q.cond.oth,U q.cond.v.k,U q.cond.v.n,Zb q.cond.v.s,v3,U q.rel,U q.fn,U q.span.a,U q.span.b,v4] _ hS V V V (fun p1 w1 G1 L1 M1 C1 S1=>?_)
 refine Za S1 (YC.drop 2 C1) ZU V V V ?_
 refine XG Zaq V V V (Zlp S1.imm l q.cols _ (hvl.mono L1) _ (A1.mono L1) ‹_›) (fun w2 G2 r1 hres1 P1=>?_)
 have S2:=S1.call hres1
 have L2:=hres1.le
 obtain ⟨r2,_,rfl,A5,rfl⟩:=P1
 obtain ⟨o1,R1,hf1⟩:=A5
 have S3:=S1.adoptO hres1 hf1
 refine Z8 ((Yl l q.cols).2) 0 V V V (fun h1=>?_) (fun h1=>?_)
 ·exact RT S3 V ⟨_,_,V,(Sl.cast (Sl.nil ColE 24 G2) (by with_reducible exact (ZlZ ‹_›).1)),(congrArg (Value.int .i64) (by with_reducible exact (ZlZ ‹_›).2))⟩
 refine Za S3 (YC.drop 3 (C1.mono L2)) ZU V V V <| Za S3 (YC.drop 3 (C1.mono L2)) ZU V V V ?_
 have V1:=A2.bound
 have j1:=(L1.trans L2)
 refine Zl (A2.mono j1) Yo V V ?_
 refine ZeL q.names.length (by omega) (by have:=Zm; omega) V V V ?_
 refine WL.indexAddr (A2.mono j1) (q.names.length - 1) (by omega) Yo Zy V V V V (fun p2 x1 U1 E1=>?_)
 obtain ⟨D1,C2,R2⟩:=E1
 obtain ⟨rfl,ZV⟩:=R2
 refine Za S3 C2 Zy V V V <| WL.build _ [(0,[Zb x1]),(1,[U 1])] [Zb x1,U 1] Ym V Zo4 V V V V ?_
 refine WL.alloc S3 Ym V V (fun b1 w3 N1 S4=>?_)
 refine ZY S4 0 [Zb x1,U 1] V V Ym V V V V V V (fun w4 S5=>?_)
 refine Za S5 (YC.drop 12 (C1.mono L2)) Z3 V V V ?_
 refine Z8 q.fn 1 V V V (fun h2=>?_) (fun h2=>?_)
 ·refine Za S5 (YC.drop 3 (C1.mono L2)) ZU V V V ?_
  refine WL.indexAddr (A2.mono j1) 0 (by omega) Yo Zy V V V V (fun p3 x2 U2 E2=>?_)
  obtain ⟨D2,C3,R3⟩:=E2
  obtain ⟨rfl,Ye⟩:=R3
  refine Za S5 C3 Zy V V V ?_
  refine Zw S5 Qm V V V (ZdC S5.imm l x2 _ (hvl.mono j1)) (fun w5 G3 S6 L3=>?_)
  refine Z1 (Zx l x2) 0 V V V (fun h3=>?_) (fun h3=>?_)
  ·exact RT S6 V ⟨_,_,V,(Sl.cast (Sl.nil ColE 24 G3) (by with_reducible exact (ZiY ‹_› ‹_› ‹_› (Zr ‹_›)).1)),(congrArg (Value.int .i64) (by with_reducible exact (ZiY ‹_› ‹_› ‹_› (Zr ‹_›)).2))⟩
  refine WL.indexAddr (hvl.mono (j1.trans L3)) (((Zx l x2)).toNat) (by exact Zaz (by omega)) Yx Ym V V V (congrArg (Value.int .i64) (Int.toNat_of_nonneg (by omega)).symm) (fun p4 x3 U3 E3=>?_)
  obtain ⟨D3,C4,R4⟩:=E3
  have T2:=Yh R4
  obtain ⟨rfl,Yd,B16⟩:=T2
  have j2:=(L2.trans L3)
  refine Za S6 (YC.drop 1 C4) Z3 V V V <| Za S6 (YC.drop 12 (C1.mono j2)) Z3 V V V ?_
  refine Z8 q.fn 2 V V V (fun h4=>?_) (fun h4=>?_)
  ·refine WL.store S6 0 _ _ _ 1 _ [U x3.kind] [Zb x1,U x3.kind] _ V V Z3 V (ZN V) V V V V V V (fun w6 S7=>?_)
   refine ZT S7 0 _ _ _ 0 _ V V Zy V V V ?_
   refine XG Qm V V V (ZgQ S7.imm ((Yl l q.cols).1) x1 _ _ (R1.mono L3) (S7.lentAt 1 V)) (fun w7 G4 r4 hres2 P2=>?_)
   have L4:=hres2.le
   obtain ⟨rfl,R5,hf2⟩:=P2
   have S9:=S7.callRow 1 V hres2 (R1.mono L3) R5 hf2
   refine Y9 (Zx ((Yl l q.cols).1) x1) 0 V V V (fun h5=>?_) (fun h5=>?_)
   ·exact RT S9 V ⟨_,_,V,(Sl.cast (Sl.nil ColE 24 G4) (by with_reducible exact (ZbJ ‹_› (by first | exact .inl ‹_› | exact .inr (by rw [Zr ‹_›]; omega)) (by omega) (Z0 ‹_› V)).1)),(congrArg (Value.int .i64) (by with_reducible exact (ZbJ ‹_› (by first | exact .inl ‹_› | exact .inr (by rw [Zr ‹_›]; omega)) (by omega) (Z0 ‹_› V)).2))⟩
   refine Za S9 (YC.drop 12 (C1.mono (j2.trans L4))) Z3 V V V ?_
   refine Zj q.fn 2 V V V (fun h6=>?_) (fun h6=>?_)
   ·omega
   refine Zs S9 0 _ _ _ 0 [Zb x1,U x3.kind] V V V Ym V V V ?_
   refine WL.buildSlice _ [(0,[Zb x1,U x3.kind])] [Zb x1,U x3.kind] S9 YF V V V V (fun z hz=>by match z,hz with | [z0,z1],_=>rfl) (fun b2 w9 N2 S10=>?_)
   refine WL.push (m:=([(Col.mk x1 x3.kind)] : List Col)) YF V V V R5 S10 2 V 0 _ _ _ _ _ V ⟨[Zb x1,U x3.kind],_,V,(Xz (Col.mk x1 x3.kind) ZV B16),V⟩ V (by have:=Zm; simp only [List.length_append,List.length_map,List.length_take,List.length_cons,List.length_nil]; omega) (by have:=Zm; simp only [List.length_append,List.length_map,List.length_take,List.length_cons,List.length_nil]; omega) V V V (fun v5 o2 w10 R6 S11=>?_)
   have S12:=S11.tail
   have T3:=YH.freeze R6 S12 1 V
   obtain ⟨G5,L5,A6,S13⟩:=T3
   refine Zv S13 QU V V V (Zcn S13.imm ((Yl l q.cols).1 ++ [(Col.mk x1 x3.kind)]) _ A6) ?_
   rintro w11 G6 _ ⟨r6,_,rfl,A7,rfl⟩ S14 L6
   exact RT S14 V ⟨_,_,V,(Sl.cast A7 (by with_reducible exact congrArg Prod.fst (YZ ‹_› (by rw [Zr ‹_›]; omega) ‹_› (Z0 ‹_› V) ‹_› ‹_› (by rw [Zr ‹_›,ZB (by omega) ‹_›])))),(congrArg (Value.int .i64) (by with_reducible exact congrArg Prod.snd (YZ ‹_› (by rw [Zr ‹_›]; omega) ‹_› (Z0 ‹_› V) ‹_› ‹_› (by rw [Zr ‹_›,ZB (by omega) ‹_›]))))⟩
  refine ZT S6 0 _ _ _ 0 _ V V Zy V V V ?_
  refine XG Qm V V V (ZgQ S6.imm ((Yl l q.cols).1) x1 _ _ (R1.mono L3) (S6.lentAt 1 V)) (fun w12 G7 r8 hres3 P4=>?_)
  have L7:=hres3.le
  obtain ⟨rfl,R7,hf3⟩:=P4
  have S16:=S6.callRow 1 V hres3 (R1.mono L3) R7 hf3
  refine Y9 (Zx ((Yl l q.cols).1) x1) 0 V V V (fun h7=>?_) (fun h7=>?_)
  ·exact RT S16 V ⟨_,_,V,(Sl.cast (Sl.nil ColE 24 G7) (by with_reducible exact (ZbJ ‹_› (by first | exact .inl ‹_› | exact .inr (by rw [Zr ‹_›]; omega)) (by omega) (Z0 ‹_› V)).1)),(congrArg (Value.int .i64) (by with_reducible exact (ZbJ ‹_› (by first | exact .inl ‹_› | exact .inr (by rw [Zr ‹_›]; omega)) (by omega) (Z0 ‹_› V)).2))⟩
  refine Za S16 (YC.drop 12 (C1.mono (j2.trans L7))) Z3 V V V ?_
  refine Zj q.fn 2 V V V (fun h8=>?_) (fun h8=>?_)
  ·refine Z8 x3.kind 1 V V V (fun h9=>?_) (fun h9=>?_)
   ·exact RT S16 V ⟨_,_,V,(Sl.cast (Sl.nil ColE 24 G7) (by with_reducible exact (ZiZ ‹_› (by rw [Zr ‹_›]; omega) (by omega) (Z0 ‹_› V) ‹_› (by rw [Zr ‹_›,ZB (by omega) ‹_›]; assumption)).1)),(congrArg (Value.int .i64) (by with_reducible exact (ZiZ ‹_› (by rw [Zr ‹_›]; omega) (by omega) (Z0 ‹_› V) ‹_› (by rw [Zr ‹_›,ZB (by omega) ‹_›]; assumption)).2))⟩
   refine Zs S16 0 _ _ _ 0 [Zb x1,U 1] V V V Ym V V V ?_
   refine WL.buildSlice _ [(0,[Zb x1,U 1])] [Zb x1,U 1] S16 YF V V V V (fun z hz=>by match z,hz with | [z0,z1],_=>rfl) (fun b3 w13 N3 S17=>?_)
   refine WL.push (m:=([(Col.mk x1 1)] : List Col)) YF V V V R7 S17 2 V 0 _ _ _ _ _ V ⟨[Zb x1,U 1],_,V,(Xz (Col.mk x1 1) ZV (show ZM 1 from by constructor <;> decide)),V⟩ V (by have:=Zm; simp only [List.length_append,List.length_map,List.length_take,List.length_cons,List.length_nil]; omega) (by have:=Zm; simp only [List.length_append,List.length_map,List.length_take,List.length_cons,List.length_nil]; omega) V V V (fun v6 o3 w14 R8 S18=>?_)
   have S19:=S18.tail
   have T4:=YH.freeze R8 S19 1 V
   obtain ⟨G9,L9,A8,S20⟩:=T4
   refine Zv S20 QU V V V (Zcn S20.imm ((Yl l q.cols).1 ++ [(Col.mk x1 1)]) _ A8) ?_
   rintro w15 G10 _ ⟨r10,_,rfl,A9,rfl⟩ S21 L10
   exact RT S21 V ⟨_,_,V,(Sl.cast A9 (by with_reducible exact congrArg Prod.fst (YY ‹_› (by rw [Zr ‹_›]; omega) ‹_› (Z0 ‹_› V) ‹_› (by rw [Zr ‹_›,ZB (by omega) ‹_›]; assumption)))),(congrArg (Value.int .i64) (by with_reducible exact congrArg Prod.snd (YY ‹_› (by rw [Zr ‹_›]; omega) ‹_› (Z0 ‹_› V) ‹_› (by rw [Zr ‹_›,ZB (by omega) ‹_›]; assumption))))⟩
  omega
 refine ZT S5 0 _ _ _ 0 _ V V Zy V V V ?_
 refine XG Qm V V V (ZgQ S5.imm ((Yl l q.cols).1) x1 _ _ R1 (S5.lentAt 1 V)) (fun w16 G11 r12 hres4 P6=>?_)
 have L11:=hres4.le
 obtain ⟨rfl,R9,hf4⟩:=P6
 have S23:=S5.callRow 1 V hres4 R1 R9 hf4
 refine Y9 (Zx ((Yl l q.cols).1) x1) 0 V V V (fun h10=>?_) (fun h10=>?_)
 ·exact RT S23 V ⟨_,_,V,(Sl.cast (Sl.nil ColE 24 G11) (by with_reducible exact (ZbJ ‹_› (by first | exact .inl ‹_› | exact .inr (by rw [Zr ‹_›]; omega)) (by omega) (Z0 ‹_› V)).1)),(congrArg (Value.int .i64) (by with_reducible exact (ZbJ ‹_› (by first | exact .inl ‹_› | exact .inr (by rw [Zr ‹_›]; omega)) (by omega) (Z0 ‹_› V)).2))⟩
 refine Za S23 (YC.drop 12 (C1.mono (L2.trans L11))) Z3 V V V ?_
 refine Zj q.fn 2 V V V (fun h11=>?_) (fun h11=>?_)
 ·omega
 refine Zs S23 0 _ _ _ 0 [Zb x1,U 1] V V V Ym V V V ?_
 refine WL.buildSlice _ [(0,[Zb x1,U 1])] [Zb x1,U 1] S23 YF V V V V (fun z hz=>by match z,hz with | [z0,z1],_=>rfl) (fun b4 w17 N4 S24=>?_)
 refine WL.push (m:=([(Col.mk x1 1)] : List Col)) YF V V V R9 S24 2 V 0 _ _ _ _ _ V ⟨[Zb x1,U 1],_,V,(Xz (Col.mk x1 1) ZV (show ZM 1 from by constructor <;> decide)),V⟩ V (by have:=Zm; simp only [List.length_append,List.length_map,List.length_take,List.length_cons,List.length_nil]; omega) (by have:=Zm; simp only [List.length_append,List.length_map,List.length_take,List.length_cons,List.length_nil]; omega) V V V (fun v7 o4 w18 R10 S25=>?_)
 have S26:=S25.tail
 have T5:=YH.freeze R10 S26 1 V
 obtain ⟨G12,L12,A10,S27⟩:=T5
 refine Zv S27 QU V V V (Zcn S27.imm ((Yl l q.cols).1 ++ [(Col.mk x1 1)]) _ A10) ?_
 rintro w19 G13 _ ⟨r14,_,rfl,A11,rfl⟩ S28 L13
 exact RT S28 V ⟨_,_,V,(Sl.cast A11 (by with_reducible exact congrArg Prod.fst (YX ‹_› ‹_› ‹_› (Z0 ‹_› V)))),(congrArg (Value.int .i64) (by with_reducible exact congrArg Prod.snd (YX ‹_› ‹_› ‹_› (Z0 ‹_› V))))⟩
end Go.Civ
set_option linter.unusedVariables false
set_option linter.unusedSimpArgs false
set_option maxRecDepth 100000
set_option maxHeartbeats 4000000
namespace Go.Civ
open Go.Proofs
theorem Zi9 {G : GH} {w : World} (hG : G.In w) (l : List Schema) (pf : Schema → Bool) (vl : Value) (hvl : Sl SchemaE 72 G vl l) (fid : Nat) (fcap : Array Value) (hf : FnB Tryz.prog (Is SchemaE) fid fcap G (fun x=>x ∈ l) pf) : CL Tryz.prog (nat_lit 86) #[vl, .func (.func fid) #[] fcap] [] w G fun _ _ r=>r = U (YP pf l):=by
 refine Zo ft [] Tryz.func86 V V ?_
 have hS:=St.start (X:=[]) hG
 have V1:=hvl.bound
 refine Zl hvl Zb3 V V ?_
 refine LP.go ft [] (fun m ρ1 w1=>∃ (k1 : Nat),∃ (G1 : GH),m = l.length - k1 ∧ G.le G1 ∧ St w [] G G1 [] w1 ∧ FR ρ1 [(0,vl),(1, .func (.func fid) #[] fcap),(7,U (l.length : Int)),(8,U (k1 : Int))] ∧ k1 ≤ l.length ∧ ∀ j,j < k1 → ∀ x,l[j]? = some x → pf x = false) _ ⟨0,G,V,(G.le_refl),hS,(Yt V),(by omega),(by intro j hj; omega)⟩ ?_
 rintro m ρ1 w1 ⟨k1,G1,rfl,L1,S1,F9,f1,f2⟩
 refine F9.set ?_
 clear F9
 refine Z1 (k1 : Int) (l.length : Int) V V V (fun h1=>?_) (fun h1=>?_)
 ·refine WL.indexAddr (hvl.mono L1) k1 (by omega) Zb3 Xu V V V V (fun p1 x1 U1 E1=>?_)
  obtain ⟨D1,C1,R1⟩:=E1
  obtain ⟨v1,v2,rfl,B1,A1,B2,A2⟩:=Xb R1
  refine Zc S1 C1 [Zb x1.name,v1,U x1.key,v2] Xu V V V V V ?_
  refine Zw S1 hf.body V V V (hf.call _ _ (.agg #[Zb x1.name,v1,U x1.key,v2]) x1 L1 S1.imm (List.mem_of_getElem? U1) ⟨_,V,(Qu x1 B1 A1 B2 A2)⟩) (fun w2 G2 S2 L2=>?_)
  refine WL.split (fun (h2 : (pf x1) = true)=>?_) (fun (h2 : (pf x1) = false)=>?_)
  ·exact RI S2 V (by exact (Za2 _ ‹_› ‹_› ‹_›).symm)
  refine ZC k1 (by have:=Zm; omega) V V V ?_
  exact BK.mk' _ ⟨k1 + 1,G2,V,(L1.trans L2),S2,(Yt V),(by omega),(by exact Yz ‹_› ‹_› ‹_›)⟩ (show l.length - (k1 + 1) < l.length - k1 by omega)
 exact RI S1 V (by exact (QO ‹_› (by omega)).symm)
theorem ZfO {G : GH} {w : World} (hG : G.In w) (l : List Schema) (pf : Schema → Bool) (vl : Value) (hvl : Sl SchemaE 72 G vl l) (fid : Nat) (fcap : Array Value) (hf : FnB Tryz.prog (Is SchemaE) fid fcap G (fun x=>x ∈ l) pf) : CL Tryz.prog (nat_lit 39) #[vl, .func (.func fid) #[] fcap] [] w G fun _ _ r=>r = .bool (l.any pf):=by
 refine Zo ft [] Tryz.func39 V V ?_
 have hS:=St.start (X:=[]) hG
 refine Zw hS ZaV V V V (Zi9 hS.imm l pf _ hvl fid fcap (hf.up (G.le_refl))) (fun w1 G1 S1 L1=>?_)
 refine YK .geq V .i64 (YP pf l) 0 V V V ?_
 exact RB S1 V (by exact ZbM _ _)
theorem Zqk {G : GH} {w : World} (hG : G.In w) (y : Schema) (nm : List UInt8) (cy : List Value) (hcy : SchemaE.rep G y cy) (pn : Addr) (hpn : YC G pn [Zb nm]) : CL Tryz.prog (nat_lit 120) #[.agg cy.toArray,Zu pn] [] w G fun _ _ r=>r = .bool (decide (y.name = nm)):=by
 refine Zo ft [] Tryz.func120 V V ?_
 have hS:=St.start (X:=[]) hG
 obtain ⟨v1,v2,rfl,B1,A1,B2,A2⟩:=Xb hcy
 refine ZL [Zb y.name,v1,U y.key,v2] _ hS V V V (fun p1 w1 G1 L1 M1 C1 S1=>?_)
 refine Za S1 (YC.drop 0 C1) Zy V V V <| Za S1 (hpn.mono L1) Zy V V V <| Zn .eql V y.name nm V V V ?_
 exact RB S1 V (by simp [SCmp.b])
theorem Zh9 {G : GH} {w : World} (hG : G.In w) (l : List Schema) (nm : List UInt8) (vl : Value) (hvl : Sl SchemaE 72 G vl l) (hnm : nm.length ≤ reach) : CL Tryz.prog (nat_lit 52) #[vl,Zb nm] [] w G fun G' _ r=>∃ r0 r1,r = .tuple #[r0,r1] ∧ Is SchemaE G' r0 ((YQ l nm).getD noS) ∧ r1 = .bool ((YQ l nm).isSome):=by
 refine YA ft [] Tryz.func52 V V ?_
 have hS:=St.start (X:=[]) hG
 refine ZL [Zb nm] _ hS V V V (fun p1 w1 G1 L1 M1 C1 S1=>?_)
 refine WL.alloc S1 Xu V V (fun b1 w2 N1 S2=>?_)
 refine Zw S2 ZaV V V V (Zi9 S2.imm l (fun x8=>decide (x8.name = nm)) _ (hvl.mono L1) 120 #[Zu p1] ⟨ZaH,fun G8 w8 v8 x8 L8 hG8 hon8 hA8=>by obtain ⟨cs_x8,rfl,hr_x8⟩:=hA8; exact Zqk hG8 x8 nm cs_x8 hr_x8 p1 (C1.mono L8)⟩) (fun w3 G2 S3 L2=>?_)
 refine Z1 (YP (fun x8=>decide (x8.name = nm)) l) 0 V V V (fun h1=>?_) (fun h1=>?_)
 ·refine WL.build _ [] [Zb [],Zh,U 0,Zh] Xu V ZqX V V V V ?_
  refine ZY S3 0 [Zb [],Zh,U 0,Zh] V V Xu V V V V V V (fun w4 S4=>?_)
  exact YD [.agg #[Zb [],Zh,U 0,Zh], .bool false] S4 ⟨_,_,_,V,V,S4.loadA 0 _ _ _ 0 [Zb [],Zh,U 0,Zh] V V V Xu V,⟨_,V,V⟩⟩ ⟨_,_,V,(Is.cast ⟨_,V,(Qu (Schema.mk [] [] 0 []) (by simp [reach]) (Sl.nil ColE 24 G2) Yr (Sl.nil ForeignE 40 G2))⟩ (by exact (Znz ‹_›).1)),(congrArg Value.bool (by exact (Znz ‹_›).2))⟩
 have hix:=Zn0 (by assumption : 0 ≤ YP (fun x8=>decide (x8.name = nm)) l)
 refine WL.indexAddr (hvl.mono (L1.trans L2)) (((YP (fun x8=>decide (x8.name = nm)) l)).toNat) (by exact hix.1) Zb3 Xu V V V (congrArg (Value.int .i64) (Int.toNat_of_nonneg (by omega)).symm) (fun p2 x1 U1 E1=>?_)
 obtain ⟨D1,C2,R1⟩:=E1
 obtain ⟨v1,v2,rfl,B1,A1,B2,A2⟩:=Xb R1
 refine Zc S3 C2 [Zb x1.name,v1,U x1.key,v2] Xu V V V V V ?_
 refine ZY S3 0 [Zb x1.name,v1,U x1.key,v2] V V Xu V V (by simp only [ZW,A1.oneC,A2.oneC] <;> rfl) V V V (fun w5 S5=>?_)
 exact YD [.agg #[Zb x1.name,v1,U x1.key,v2], .bool true] S5 ⟨_,_,_,V,V,S5.loadA 0 _ _ _ 0 [Zb x1.name,v1,U x1.key,v2] V V V Xu V,⟨_,V,V⟩⟩ ⟨_,_,V,(Is.cast ⟨_,V,(Qu x1 B1 A1 B2 A2)⟩ (by exact (Zll ‹_› ‹_›).1)),(congrArg Value.bool (by exact (Zll ‹_› ‹_›).2))⟩
end Go.Civ
