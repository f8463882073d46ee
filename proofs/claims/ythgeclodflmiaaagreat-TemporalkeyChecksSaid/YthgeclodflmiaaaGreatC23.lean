/- Lemmas. -/
import Derived.Test.YthgeclodflmiaaaGreatC21
import Derived.Test.YthgeclodflmiaaaGreatC22
import Derived.Test.YthgeclodflmiaaaGreatProg
import Derived.KernelRfl
import Derived.WalkKit
namespace Go.Civ
open Go.RowKit
set_option linter.unusedVariables false
def X1 (a : Int) (s : Span) : Bool:=decide (s.a ≤ a) && decide (a < s.b)
def rrL (l : List HRow) (a x : Int) : VV:=(QW l a x).map HRow.v
theorem ZgS {α : Type} {v : α} {a : Int} : ∀ {l : List Span},Can l → (l.filter (X1 a)).map (fun _=>v) = if YY l a then [v] else []
 | [],_=>rfl
 | s :: l,h=>by
  have ih:=ZgS (v:=v) (a:=a) h.tail
  rw [List.filter_cons]
  have ec : YY (s :: l) a = (X1 a s || YY l a):=rfl
  cases hs : X1 a s with
  | true=>
   have h2 : YY l a = false:=by
    rw [Bool.eq_false_iff]; intro e
    have:=h.above (Qu.1 e)
    unfold X1 at hs; simp at hs; omega
   rw [h2] at ih
   rw [ec,hs,h2,if_pos rfl,List.map_cons,ih]; rfl
  | false=>
   rw [ec,hs,Bool.false_or]
   exact ih
theorem Zij {α β : Type} {f g : α → List β} : ∀ {l : List α},(∀ x ∈ l,f x = g x) → l.flatMap f = l.flatMap g
 | [],_=>rfl
 | x :: l,h=>by rw [List.flatMap_cons,List.flatMap_cons,h x (by simp),Zij fun y hy=>h y (by simp [hy])]
theorem Zln {α β : Type} {p : α → Bool} {f : α → β} : ∀ (l : List α),(l.flatMap fun g=>if p g then [f g] else []) = (l.filter p).map f
 | []=>rfl
 | x :: l=>by
  rw [List.flatMap_cons,Zln l,List.filter_cons]
  cases p x <;> rfl
theorem ZnX {v : List Val} {a x : Int} : ∀ {m : List HRow},(∀ r ∈ m,r.v = v) → (m.filter (Qp a x)).map HRow.v = ((Yy m x).filter (X1 a)).map fun _=>v
 | [],_=>rfl
 | r :: m,h=>by
  have ih:=ZnX (a:=a) (x:=x) (m:=m) fun q hq=>h q (by simp [hq])
  have hv:=h r (by simp)
  have e : Qp a x r = (X1 a r.r.d && YR x r):=rfl
  unfold Yy at ih ⊢
  rw [List.filter_cons,List.filter_cons,e]
  cases h1 : YR x r with
  | true=>
   rw [if_pos rfl,List.map_cons,List.filter_cons,Bool.and_true]
   cases h2 : X1 a r.r.d with
   | true=>rw [if_pos rfl,if_pos rfl,List.map_cons,List.map_cons,ih,hv]
   | false=>exact ih
  | false=>rw [Bool.and_false]; exact ih
theorem ZnY {l : List HRow} (hg : Z5 l) (a x : Int) : rrL (ZZ l) a x = Zaz l a x:=by
 unfold rrL QW Zaz Yo
 rw [ZcM,List.filter_flatMap,List.map_flatMap,List.filter_map,List.map_map]
 have e : (HGrp.v ∘ fun v=>(⟨v,Xy l v⟩ : HGrp)) = id:=rfl
 rw [e,← Zln]
 refine Zij fun v hv=>?_
 rw [ZnX fun r hr=>(ZjX hr).1]
 have e2 : Yy (nvH l v) x = ZI (Xy l v) x:=ZjW (hg.of v) v x
 rw [e2,ZgS (Zbw (hg.of v) x)]
 rfl
end Go.Civ
namespace Go.Civ
open Go.RowKit
set_option linter.unusedVariables false
def ZaR (k : Nat) : VV → Option (List Val)
 | []=>none
 | x :: r=>if r.any (fun y=>decide (y.take k = x.take k)) then some x else ZaR k r
def ZQ (k : Nat) : VV → Option (List Val)
 | x :: y :: r=>if x.take k = y.take k then some x else ZQ k (y :: r)
 | _=>none
theorem Zik {x y : List Val} : ∀ {k : Nat},ZL cmpV x y ≤ 0 → ZL cmpV (x.take k) (y.take k) ≤ 0:=by
 induction x generalizing y with
 | nil=>
  intro k h
  cases y with
  | nil=>simpa using h
  | cons b y=>cases k <;> simp [ZL]
 | cons a x ih=>
  intro k h
  cases k with
  | zero=>simp [ZL]
  | succ k=>
   cases y with
   | nil=>simp [ZL] at h
   | cons b y=>
    simp only [List.take_succ_cons]
    unfold ZL at h ⊢
    split
    ·rename_i q; rw [if_pos q] at h; exact h
    ·rename_i q; rw [if_neg q] at h; exact ih h
theorem ZkM {k : Nat} {x y z : List Val} (h1 : ZL cmpV x y < 0) (h2 : ZL cmpV y z < 0) (h : x.take k = z.take k) : x.take k = y.take k:=by
 have a:=Zik (k:=k) (Int.le_of_lt h1)
 have b:=Zik (k:=k) (Int.le_of_lt h2)
 rw [← h] at b
 rcases Int.lt_or_le (ZL cmpV (x.take k) (y.take k)) 0 with q | q
 ·have:=(ord.swap _ _).1 q; omega
 ·exact (ord.eq _ _).1 (by omega)
theorem ZeW {k : Nat} : ∀ {l : VV},QT l → ZaR k l = ZQ k l
 | [],_=>rfl
 | [x],_=>rfl
 | x :: y :: r,h=>by
  obtain ⟨h1,h2⟩:=List.pairwise_cons.1 h
  have ih:=ZeW (k:=k) h2
  unfold ZaR ZQ
  by_cases e : x.take k = y.take k
  ·rw [if_pos e,if_pos]
   rw [List.any_cons,decide_eq_true e.symm]; rfl
  ·rw [if_neg e,if_neg,ih]
   rw [Bool.not_eq_true,List.any_eq_false]
   intro z hz hq
   have hq:=of_decide_eq_true hq
   rcases List.mem_cons.1 hz with rfl | hz
   ·exact e hq.symm
   ·have h3:=(List.pairwise_cons.1 h2).1 z hz
    exact e (ZkM (h1 y (by simp)) h3 hq.symm)
theorem ZgT {k : Nat} {v : List Val} : ∀ {l : VV},QT l → ZQ k l = some v → v ∈ l ∧ ∃ w ∈ l,w ≠ v ∧ w.take k = v.take k
 | [],_,h=>by cases h
 | [x],_,h=>by cases h
 | x :: y :: r,hi,h=>by
  obtain ⟨h1,h2⟩:=List.pairwise_cons.1 hi
  unfold ZQ at h
  split at h
  ·rename_i e
   obtain rfl:=Option.some.inj h
   refine ⟨by simp,y,by simp,fun q=>?_,e.symm⟩
   have:=h1 y (by simp)
   rw [q,ord.refl] at this; omega
  ·obtain ⟨a,w,b,c,d⟩:=ZgT h2 h
   exact ⟨List.mem_cons_of_mem _ a,w,List.mem_cons_of_mem _ b,c,d⟩
theorem Zm2 {k : Nat} : ∀ {l : VV},QT l → ZQ k l = none → ∀ v ∈ l,∀ w ∈ l,w ≠ v → w.take k ≠ v.take k
 | l,hi,h=>by
  rw [← ZeW hi] at h
  intro v hv w hw hne e
  have key : ∀ {l : VV},ZaR k l = none → l.Pairwise fun x y=>y.take k ≠ x.take k:=by
   intro l
   induction l with
   | nil=>intro _; exact List.Pairwise.nil
   | cons x r ih=>
    intro h
    unfold ZaR at h
    split at h
    ·cases h
    ·rename_i q
     rw [Bool.not_eq_true,List.any_eq_false] at q
     exact List.pairwise_cons.2 ⟨fun y hy e=>q y hy (decide_eq_true e),ih h⟩
  obtain ⟨i,hi1⟩:=List.getElem?_of_mem hv
  obtain ⟨j,hj1⟩:=List.getElem?_of_mem hw
  obtain ⟨i1,rfl⟩:=List.getElem?_eq_some_iff.1 hi1
  obtain ⟨j1,rfl⟩:=List.getElem?_eq_some_iff.1 hj1
  have hp:=List.pairwise_iff_getElem.1 (key h)
  rcases Nat.lt_trichotomy i j with q | q | q
  ·exact hp i j i1 j1 q e
  ·subst q; exact hne rfl
  ·exact hp j i j1 i1 q e.symm
end Go.Civ
namespace Go.Civ
open Go.RowKit
set_option linter.unusedVariables false
structure Pt where
 tx : Int
 vd : Int
 v : List Val
def ovB (k : Nat) (a b : HRow) : Bool:=X1 (max a.r.x.a b.r.x.a) a.r.x && X1 (max a.r.x.a b.r.x.a) b.r.x && X1 (max a.r.d.a b.r.d.a) a.r.d && X1 (max a.r.d.a b.r.d.a) b.r.d && decide (a.v.take k = b.v.take k)
def Zd0 (a b : HRow) : Pt:=⟨max a.r.x.a b.r.x.a,max a.r.d.a b.r.d.a,if Xr b.v a.v < 0 then b.v else a.v⟩
def Zdj (k : Nat) (l : List HRow) (i : Nat) : List Pt:=match l[i]? with
 | some a=>((l.take i).filter (ovB k a)).map (Zd0 a)
 | none=>[]
def Xh (k : Nat) (l : List HRow) : List Pt:=(List.range l.length).flatMap (Zdj k l)
def QM (k : Nat) (l : List HRow) (tx vd : Int) : Option (List Val):=ZQ k (Zaz l vd tx)
def Zdk (a b c d : Int) : Prop:=a < c ∨ (a = c ∧ b < d)
theorem Zh5 {x : Int} {s : Span} : X1 x s = true ↔ s.a ≤ x ∧ x < s.b:=by unfold X1; simp
theorem ZnZ {k : Nat} {a b : HRow} : ovB k a b = true ↔ Qp (max a.r.d.a b.r.d.a) (max a.r.x.a b.r.x.a) a = true ∧ Qp (max a.r.d.a b.r.d.a) (max a.r.x.a b.r.x.a) b = true ∧ a.v.take k = b.v.take k:=by
 unfold ovB
 simp only [Bool.and_eq_true,decide_eq_true_eq,Zh5,Q9]
 constructor
 ·rintro ⟨⟨⟨⟨h1,h2⟩,h3⟩,h4⟩,h5⟩; exact ⟨⟨h3.1,h3.2,h1.1,h1.2⟩,⟨h4.1,h4.2,h2.1,h2.2⟩,h5⟩
 ·rintro ⟨⟨h1,h2,h3,h4⟩,⟨h5,h6,h7,h8⟩,h9⟩; exact ⟨⟨⟨⟨⟨h3,h4⟩,h7,h8⟩,h1,h2⟩,h5,h6⟩,h9⟩
section
variable {k : Nat} {l : List HRow} {tx vd : Int}
theorem Zm3 (hg : Z5 l) (hn : l = ZZ l) (vd tx : Int) : l.Pairwise fun x y=>Qp vd tx x = true → Qp vd tx y = true → x.v ≠ y.v:=by
 have h:=ZnY hg vd tx
 rw [← hn] at h
 have nd : (rrL l vd tx).Nodup:=by rw [h]; exact (Zej hg vd tx).nodup
 unfold rrL QW at nd
 unfold List.Nodup at nd
 rw [List.pairwise_map,List.pairwise_filter] at nd
 exact nd.imp fun {x y} q=>fun h1 h2=>q h1 h2
theorem Zh6 {p : Pt} : p ∈ Xh k l ↔ ∃ (i j : Nat) (a b : HRow),l[i]? = some a ∧ l[j]? = some b ∧ j < i ∧ ovB k a b = true ∧ p = Zd0 a b:=by
 unfold Xh
 rw [List.mem_flatMap]
 constructor
 ·rintro ⟨i,hi,hp⟩
  unfold Zdj at hp
  split at hp
  ·rename_i a ha
   obtain ⟨b,hb,rfl⟩:=List.mem_map.1 hp
   obtain ⟨hb1,hb2⟩:=List.mem_filter.1 hb
   obtain ⟨j,hj⟩:=List.getElem?_of_mem hb1
   rw [List.getElem?_take] at hj
   split at hj
   ·rename_i hji; exact ⟨i,j,a,b,ha,hj,hji,hb2,rfl⟩
   ·cases hj
  ·cases hp
 ·rintro ⟨i,j,a,b,ha,hb,hji,ho,rfl⟩
  refine ⟨i,List.mem_range.2 (List.getElem?_eq_some_iff.1 ha).1,?_⟩
  unfold Zdj
  rw [ha]
  exact List.mem_map.2 ⟨b,List.mem_filter.2 ⟨List.mem_of_getElem? (by rw [List.getElem?_take,if_pos hji]; exact hb),ho⟩,rfl⟩
theorem ZeX (hg : Z5 l) (hn : l = ZZ l) {p : Pt} (hp : p ∈ Xh k l) : QM k l p.tx p.vd ≠ none ∧ (∃ r ∈ l,r.r.x.a = p.tx) ∧ ∃ r ∈ l,r.r.d.a = p.vd:=by
 obtain ⟨i,j,a,b,ha,hb,hji,ho,rfl⟩:=Zh6.1 hp
 obtain ⟨h1,h2,h3⟩:=ZnZ.1 ho
 have ma:=List.mem_of_getElem? ha
 have mb:=List.mem_of_getElem? hb
 refine ⟨fun e=>?_,?_,?_⟩
 ·obtain ⟨i1,ea⟩:=List.getElem?_eq_some_iff.1 ha
  obtain ⟨j1,eb⟩:=List.getElem?_eq_some_iff.1 hb
  have hne:=List.pairwise_iff_getElem.1 (Zm3 hg hn (max a.r.d.a b.r.d.a) (max a.r.x.a b.r.x.a)) j i j1 i1 hji
  rw [ea,eb] at hne
  have hne:=hne h2 h1
  exact Zm2 (Zej hg _ _) e b.v ((QA hg).2 ⟨b,mb,rfl,h2⟩) a.v ((QA hg).2 ⟨a,ma,rfl,h1⟩) (Ne.symm hne) h3
 ·rcases Int.le_total a.r.x.a b.r.x.a with q | q
  ·exact ⟨b,mb,by show b.r.x.a = max a.r.x.a b.r.x.a; omega⟩
  ·exact ⟨a,ma,by show a.r.x.a = max a.r.x.a b.r.x.a; omega⟩
 ·rcases Int.le_total a.r.d.a b.r.d.a with q | q
  ·exact ⟨b,mb,by show b.r.d.a = max a.r.d.a b.r.d.a; omega⟩
  ·exact ⟨a,ma,by show a.r.d.a = max a.r.d.a b.r.d.a; omega⟩
theorem Zil (hg : Z5 l) {v : List Val} (h : QM k l tx vd = some v) : ∃ p ∈ Xh k l,p.tx ≤ tx ∧ p.vd ≤ vd:=by
 obtain ⟨h1,w,h2,h3,h4⟩:=ZgT (Zej hg _ _) h
 obtain ⟨a,ma,ea,ha⟩:=(QA hg).1 h1
 obtain ⟨b,mb,eb,hb⟩:=(QA hg).1 h2
 have go : ∀ (x y : HRow) (i j : Nat),l[i]? = some x → l[j]? = some y → j < i → Qp vd tx x = true → Qp vd tx y = true → x.v.take k = y.v.take k → ∃ p ∈ Xh k l,p.tx ≤ tx ∧ p.vd ≤ vd:=by
  intro x y i j hx hy hji h5 h6 h7
  obtain ⟨a1,a2,a3,a4⟩:=Q9.1 h5
  obtain ⟨b1,b2,b3,b4⟩:=Q9.1 h6
  refine ⟨Zd0 x y,Zh6.2 ⟨i,j,x,y,hx,hy,hji,ZnZ.2 ⟨Q9.2 ?_,Q9.2 ?_,h7⟩,rfl⟩,?_,?_⟩
  ·refine ⟨?_,?_,?_,?_⟩ <;> omega
  ·refine ⟨?_,?_,?_,?_⟩ <;> omega
  ·show max x.r.x.a y.r.x.a ≤ tx; omega
  ·show max x.r.d.a y.r.d.a ≤ vd; omega
 obtain ⟨i,hi⟩:=List.getElem?_of_mem ma
 obtain ⟨j,hj⟩:=List.getElem?_of_mem mb
 rcases Nat.lt_trichotomy j i with q | q | q
 ·exact go a b i j hi hj q ha hb (by rw [ea,eb]; exact h4.symm)
 ·subst q
  rw [hi] at hj
  obtain rfl:=Option.some.inj hj
  exact absurd (ea.symm.trans eb) (Ne.symm h3)
 ·exact go b a j i hj hi q hb ha (by rw [ea,eb]; exact h4)
theorem Zm4 (hg : Z5 l) {m : Pt} (hmin : ∀ q ∈ Xh k l,¬ Zdk q.tx q.vd m.tx m.vd) (h : Zdk tx vd m.tx m.vd) : QM k l tx vd = none:=by
 cases e : QM k l tx vd with
 | none=>rfl
 | some v=>
  obtain ⟨p,hp,h1,h2⟩:=Zil hg e
  refine absurd ?_ (hmin p hp)
  unfold Zdk at h ⊢
  omega
theorem Zoa (hg : Z5 l) (h : Xh k l = []) (tx vd : Int) : QM k l tx vd = none:=by
 cases e : QM k l tx vd with
 | none=>rfl
 | some v=>
  obtain ⟨p,hp,_⟩:=Zil hg e
  rw [h] at hp; cases hp
end
end Go.Civ
set_option linter.unusedVariables false
set_option linter.unusedSimpArgs false
set_option maxRecDepth 100000
set_option maxHeartbeats 4000000
namespace Go.Civ
open Go.Proofs
theorem Zen {G : GH} {w : World} (hG : G.In w) (l : List HRow) (vl : Value) (hvl : Sl HRowE 56 G vl l) (hgood : Z5 l) (hlen : ∀ r ∈ l,r.v.length ≤ 1000) (hl2 : l.length ≤ 2000) : CL Tryz.prog (nat_lit 86) #[vl] [] w G fun G' _ r=>Sl Zbr 48 G' r (Yo l):=by
 refine Zh ft [] Tryz.func86 rfl rfl ?_
 have hkey:=Zmp hvl hgood hlen
 have hS:=St.start (X:=[]) hG
 refine ZkH (P:=Tryz.prog) (nat_lit 9) (nat_lit 3) hS rfl (fun bM1 w1 hM1 hA1 hS1=>?_)
 have bd1:=hvl.bound
 refine Zl hvl Yn rfl rfl ?_
 have hS3:=hS1.pad
 refine LP.go ft [] (fun m ρ1 w1=>∃ (k1 : Nat),∃ (L : List (List Val × Value)),∃ (O : Own),∃ (v1 : Value) (o1 : OB),∃ (G1 : GH),m = l.length - k1 ∧ G.le G1 ∧ St w [] G G1 (o1 :: O) w1 ∧ Yb ZdA 48 136 G1 v1 L o1 ∧ FR ρ1 [(3, .map (some bM1)),(4,v1),(11,vl),(12, .int .i64 (l.length : Int)),(13, .int .i64 (k1 : Int))] ∧ k1 ≤ l.length ∧ HRel (nat_lit 37) G1 (hgroups (l.take k1)) L O ∧ Zeb Tryz.prog (nat_lit 9) (nat_lit 3) w1 bM1 k1 (Q3 (hgroups (l.take k1))) ∧ Apart w G1 (o1 :: O) bM1) _ ⟨0,[],[],(.slice none 0 0),none,G,rfl,(G.le_refl),hS3,(Yb.nil ZdA 48 136 G),⟨rfl,rfl,rfl,rfl,rfl,trivial⟩,(by omega),(by exact HRel.nil),(by exact hM1),(by exact ⟨hA1.new,hA1.gh,fun i p hp=>by cases i <;> simp at hp⟩)⟩ ?_
 rintro m ρ1 w2 ⟨k1,L,O,v1,o1,G1,rfl,hle1,hS2,hr1,hF9,f1,f2,f3,f4⟩
 refine hF9.set ?_
 clear hF9
 have hL9:=HRel.len (by assumption : HRel _ _ (hgroups (l.take k1)) L O)
 have hL8:=ZpC l k1
 have hR1:=hS2.rebase
 refine Zm (k1 : Int) (l.length : Int) rfl rfl rfl (fun h1=>?_) (fun h1=>?_)
 ·refine WL.indexAddr (hvl.mono hle1) k1 (by omega) Yn Zt rfl rfl rfl rfl (fun p1 x1 hx1 he1=>?_)
  obtain ⟨cs1,hc1,hr2⟩:=he1
  obtain ⟨v2,rfl,hs1,hb1,hb2,hb3,hb4⟩:=Z7 hr2
  refine Zd hR1 hc1 [v2, .int .i64 x1.r.d.a, .int .i64 x1.r.d.b, .int .i64 x1.r.x.a, .int .i64 x1.r.x.b] Zt rfl rfl rfl rfl rfl ?_
  refine WL.alloc hR1 Zt rfl rfl (fun b1 w3 hn1 hS4=>?_)
  refine WL.store hS4 0 _ _ _ 0 _ [v2, .int .i64 x1.r.d.a, .int .i64 x1.r.d.b, .int .i64 x1.r.x.a, .int .i64 x1.r.x.b] [v2, .int .i64 x1.r.d.a, .int .i64 x1.r.d.b, .int .i64 x1.r.x.a, .int .i64 x1.r.x.b] _ rfl rfl Zt rfl (Nat.le_of_ble_eq_true rfl) (by simp only [List.all_cons,List.all_nil,hs1.oneC,Bool.true_and] <;> rfl) rfl rfl rfl rfl rfl (fun w4 hS5=>?_)
  obtain ⟨G2,hle2,hc2,hS6⟩:=hS5.shutB hn1
  refine Za hS6 (XL.drop 0 hc2) ZN rfl rfl rfl ?_
  refine Zn hS6 Zus rfl rfl rfl (ZuK hS6.imm x1.v _ (hs1.mono hle2)) (fun w5 G3 hS7 hle3=>?_)
  have hMA1:=f3.keep f4 hS7 hS2.kept.size
  refine Zmn (XY x1.v) hMA1.1 ZqD ul9 ul3 ZjF (by rfl) rfl rfl rfl (fun hN1=>?_) (fun c1 hc3=>?_)
  ·have bd2:=hr1.bound
   refine Qv (hr1.mono (hle2.trans hle3)) Zaj rfl rfl ?_
   have hMA2:=f3.keep f4 hS7 hS2.kept.size
   have hSc1:=hS2.comp hS7
   refine ZiC (XY x1.v) (L.length : Int) hSc1 hMA2.1 hMA2.2 ZqD ul9 ul3 ZjF ⟨by omega,by omega⟩ (by unfold reach; omega) rfl rfl rfl rfl (fun w6 hM2 hS8=>?_)
   have hR2:=hS8.rebase
   refine Za hR2 (XL.drop 0 (hc2.mono hle3)) ZN rfl rfl rfl ?_
   refine WL.build _ [(0,[v2])] [v2, .slice none 0 0] X7 rfl Zub rfl rfl (by show [(0,(v2 : Value).cells.toList)] = _; simp only [(hs1.mono (hle2.trans hle3)).cells1] <;> rfl) rfl ?_
   refine WL.buildSlice _ [(0,[v2, .slice none 0 0])] [v2, .slice none 0 0] hR2 ZqH rfl rfl rfl rfl (fun z hz=>by match z,hz with | [z0,z1],_=>rfl) (fun b2 w7 hn2 hS9=>?_)
   refine WL.push (m:=([(x1.v,(Value.slice none 0 0))] : List (List Val × Value))) ZqH rfl rfl rfl (hr1.mono (hle2.trans hle3)) hS9 1 rfl 0 _ _ _ _ _ rfl ⟨[v2, .slice none 0 0],_,rfl,(ZeB (x1.v,(Value.slice none 0 0)) (hs1.mono (hle2.trans hle3)) rfl),rfl⟩ rfl (by have hreach : reach = 140737488355328:=rfl; simp only [List.length_append,List.length_cons,List.length_nil]; omega) (by have hreach : reach = 140737488355328:=rfl; simp only [List.length_append,List.length_cons,List.length_nil]; omega) rfl rfl rfl (fun v3 o2 w9 hr3 hS10=>?_)
   have hS11:=hS10.tail
   have hR3:=hS11.padEnd
   have hgr1:=(HRel.mono f2 (hle2.trans hle3)).push x1.v
   have hl1:=hgr1.len; simp only [List.length_append,List.length_cons,List.length_nil] at hl1
   have hnew:=Ztm hkey hx1 hN1
   obtain ⟨p2,x2,ec1,hx2,hr4,ra1,ep1⟩:=Yb.atP hr3 L.length (by (simp only [List.length_append,List.length_cons,List.length_nil]; omega))
   obtain ⟨v4,rfl,hs2,ho1⟩:=ZaT hr4
   obtain ⟨p3,x3,ec2,hx3,hr5,ra2,ep2⟩:=Yb.atP hr3 L.length (by (simp only [List.length_append,List.length_cons,List.length_nil]; omega))
   obtain rfl : x2 = x3:=Option.some.inj (hx2.symm.trans hx3)
   obtain ⟨v5,rfl,hs3,ho2⟩:=ZaT hr5
   refine dr [(8,true),(9,false),(12,false)] [(43, .pointer (some p2)),(45,x2.2),(46, .agg #[v2, .int .i64 x1.r.d.a, .int .i64 x1.r.d.b, .int .i64 x1.r.x.a, .int .i64 x1.r.x.b]),(49, .pointer (some p3))] hR3 ⟨fun _=>Zi L.length ep1 Zaj X7 rfl rfl rfl rfl <| nu rfl rfl,fun _ hSw=>ZbU ra1 hSw 0 rfl 1 _ rfl YJ rfl rfl rfl <| nu rfl rfl,fun _ hSw=>Zd hSw (hc2.mono hle3) [v2, .int .i64 x1.r.d.a, .int .i64 x1.r.d.b, .int .i64 x1.r.x.a, .int .i64 x1.r.x.b] Zt rfl rfl rfl rfl rfl <| nu rfl rfl,fun _=>Zi L.length ep2 Zaj X7 rfl rfl rfl rfl <| nu rfl rfl,trivial⟩ (fun w10 hS12=>?_)
   refine WL.buildSlice _ [(0,[v2, .int .i64 x1.r.d.a, .int .i64 x1.r.d.b, .int .i64 x1.r.x.a, .int .i64 x1.r.x.b])] [v2, .int .i64 x1.r.d.a, .int .i64 x1.r.d.b, .int .i64 x1.r.x.a, .int .i64 x1.r.x.b] hS12 YQ rfl rfl rfl rfl (fun z hz=>by match z,hz with | [z0,z1,z2,z3,z4],_=>rfl) (fun b3 w11 hn3 hS13=>?_)
   refine ⟨hS13.tail.down hS12.le (G3.le_refl),?_⟩
   obtain ⟨g9,o9,hg9,ho9,hv9,hu9⟩:=HRel.atL hgr1 hx2
   have hgt9 : g9.t.length ≤ 2000:=by exact Nat.le_trans (ZpD hg9) hl2
   refine WL.push (m:=([x1] : List HRow)) YQ rfl rfl rfl hu9 hS13 (L.length + 2) ho9 0 _ _ _ _ _ rfl ⟨[v2, .int .i64 x1.r.d.a, .int .i64 x1.r.d.b, .int .i64 x1.r.x.a, .int .i64 x1.r.x.b],_,rfl,(Ya x1 (hs1.mono (hle2.trans hle3)) hb1 hb2 hb3 hb4),rfl⟩ rfl (by have hreach : reach = 140737488355328:=rfl; simp only [List.length_append,List.length_cons,List.length_nil]; omega) (by have hreach : reach = 140737488355328:=rfl; simp only [List.length_append,List.length_cons,List.length_nil]; omega) rfl rfl rfl (fun v6 o3 w12 hr6 hS14=>?_)
   have hS15:=hS14.tail
   refine ZcV hr3 ra2 hS15 0 rfl (by (simp only [List.length_append,List.length_cons,List.length_nil]; omega)) rfl 1 _ [v6] (x2.1,v6) [v5,v6] hr6.cells1 YJ rfl (Nat.le_of_ble_eq_true rfl) (by simp only [List.all_cons,List.all_nil,hr6.oneC,Bool.true_and] <;> rfl) rfl (ZeB (x2.1,v6) hs3 hr6.oneC) rfl rfl rfl (fun o4 w13 hr7 hS16=>?_)
   refine Zj k1 (by have hreach : reach = 140737488355328:=rfl; omega) rfl rfl rfl ?_
   have hMA3:=hM2.keep hMA2.2 hS16 hS8.kept.size
   have hSc2 : St w [] G G3 (o4 :: (List.set ((O ++ [none] : Own) : Own) L.length o3)) w13:=hS8.comp hS16
   exact BK.mk' _ ⟨k1 + 1,((L ++ [(x1.v,(Value.slice none 0 0))]).set L.length (x2.1,v6)),(List.set ((O ++ [none] : Own) : Own) L.length o3),v3,o4,G3,rfl,(hle1.trans (hle2.trans hle3)),hSc2,hr7,⟨rfl,rfl,rfl,rfl,rfl,trivial⟩,(by omega),(by rw [hnew]; (rw [← HRel.len (by assumption : HRel _ _ (hgroups (l.take k1)) L O)]; exact HRel.set hgr1 hg9 hv9 hr6)),(by rw [ZrE hnew hN1,← HRel.len (by assumption : HRel _ _ (hgroups (l.take k1)) L O)]; exact hMA3.1),(hMA3.2)⟩ (show l.length - (k1 + 1) < l.length - k1 by omega)
  obtain ⟨i1,rfl,hi1,hg1⟩:=ZpA hkey hx1 hc3
  have hgr2:=HRel.mono f2 (hle2.trans hle3)
  have hl9:=hgr2.len
  obtain ⟨p4,x4,ec3,hx4,hr8,ra3,ep3⟩:=Yb.atP (hr1.mono (hle2.trans hle3)) i1 (by omega)
  obtain ⟨v7,rfl,hs4,ho3⟩:=ZaT hr8
  obtain ⟨p5,x5,ec4,hx5,hr9,ra4,ep4⟩:=Yb.atP (hr1.mono (hle2.trans hle3)) i1 (by omega)
  obtain rfl : x4 = x5:=Option.some.inj (hx4.symm.trans hx5)
  obtain ⟨v9,rfl,hs5,ho4⟩:=ZaT hr9
  refine dr [(8,true),(9,false),(12,false)] [(43, .pointer (some p4)),(45,x4.2),(46, .agg #[v2, .int .i64 x1.r.d.a, .int .i64 x1.r.d.b, .int .i64 x1.r.x.a, .int .i64 x1.r.x.b]),(49, .pointer (some p5))] hS7 ⟨fun _=>Zi i1 ep3 Zaj X7 rfl rfl rfl rfl <| nu rfl rfl,fun _ hSw=>ZbU ra3 hSw 0 rfl 1 _ rfl YJ rfl rfl rfl <| nu rfl rfl,fun _ hSw=>Zd hSw (hc2.mono hle3) [v2, .int .i64 x1.r.d.a, .int .i64 x1.r.d.b, .int .i64 x1.r.x.a, .int .i64 x1.r.x.b] Zt rfl rfl rfl rfl rfl <| nu rfl rfl,fun _=>Zi i1 ep4 Zaj X7 rfl rfl rfl rfl <| nu rfl rfl,trivial⟩ (fun w14 hS17=>?_)
  refine WL.buildSlice _ [(0,[v2, .int .i64 x1.r.d.a, .int .i64 x1.r.d.b, .int .i64 x1.r.x.a, .int .i64 x1.r.x.b])] [v2, .int .i64 x1.r.d.a, .int .i64 x1.r.d.b, .int .i64 x1.r.x.a, .int .i64 x1.r.x.b] hS17 YQ rfl rfl rfl rfl (fun z hz=>by match z,hz with | [z0,z1,z2,z3,z4],_=>rfl) (fun b4 w15 hn4 hS18=>?_)
  refine ⟨hS18.tail.down hS17.le (G3.le_refl),?_⟩
  obtain ⟨g9,o9,hg9,ho9,hv9,hu9⟩:=HRel.atL hgr2 hx4
  have hgt9 : g9.t.length ≤ 2000:=by exact Nat.le_trans (Zlf hg9) hl2
  refine WL.push (m:=([x1] : List HRow)) YQ rfl rfl rfl hu9 hS18 (i1 + 2) ho9 0 _ _ _ _ _ rfl ⟨[v2, .int .i64 x1.r.d.a, .int .i64 x1.r.d.b, .int .i64 x1.r.x.a, .int .i64 x1.r.x.b],_,rfl,(Ya x1 (hs1.mono (hle2.trans hle3)) hb1 hb2 hb3 hb4),rfl⟩ rfl (by have hreach : reach = 140737488355328:=rfl; simp only [List.length_append,List.length_cons,List.length_nil]; omega) (by have hreach : reach = 140737488355328:=rfl; simp only [List.length_append,List.length_cons,List.length_nil]; omega) rfl rfl rfl (fun v10 o5 w16 hr10 hS19=>?_)
  have hS20:=hS19.tail
  refine ZcV (hr1.mono (hle2.trans hle3)) ra4 hS20 0 rfl (by omega) rfl 1 _ [v10] (x4.1,v10) [v9,v10] hr10.cells1 YJ rfl (Nat.le_of_ble_eq_true rfl) (by simp only [List.all_cons,List.all_nil,hr10.oneC,Bool.true_and] <;> rfl) rfl (ZeB (x4.1,v10) hs5 hr10.oneC) rfl rfl rfl (fun o6 w17 hr11 hS21=>?_)
  refine Zj k1 (by have hreach : reach = 140737488355328:=rfl; omega) rfl rfl rfl ?_
  have hMA4:=f3.keep f4 hS21 hS2.kept.size
  have hSc3 : St w [] G G3 (o6 :: (List.set (O : Own) i1 o5)) w17:=hS2.comp hS21
  exact BK.mk' _ ⟨k1 + 1,(L.set i1 (x4.1,v10)),(List.set (O : Own) i1 o5),v1,o6,G3,rfl,(hle1.trans (hle2.trans hle3)),hSc3,hr11,⟨rfl,rfl,rfl,rfl,rfl,trivial⟩,(by omega),(by rw [hg1]; exact HRel.set hgr2 hg9 hv9 hr10),(by rw [Zn1 hg1]; exact Zeb.mono hMA4.1 (by omega)),(hMA4.2)⟩ (show l.length - (k1 + 1) < l.length - k1 by omega)
 obtain ⟨G4,hle4,hS22,hFz⟩:=ZhZ hS2 f2
 have hgs : hgroups (l.take k1) = hgroups l:=by rw [List.take_of_length_le (by omega)]
 rw [hgs] at hFz
 have hrow:=Yb.hgroups (hr1.mono hle4) hFz
 refine Zah Zut rfl rfl rfl (Zsd hS22.imm (hgroups l) _ _ hrow (hS22.lentAt 0 rfl) (Zmq hgood)) (fun w18 G5 r1 hres1 hpost1=>?_)
 have hle5:=hres1.le
 obtain ⟨rfl,l1,o7,hr12,hf1,hq1⟩:=hpost1
 have hS24:=hS22.callRow 0 rfl hres1 hrow hr12 hf1
 obtain ⟨G6,hle6,hs6,hS25⟩:=Yb.freeze hr12 hS24 0 rfl
 exact RT hS25 rfl (Sl.cast hs6 (by exact Zr0 (fun r hr=>(Yd (hgood r hr)).1) hq1.1 hq1.2))
end Go.Civ
