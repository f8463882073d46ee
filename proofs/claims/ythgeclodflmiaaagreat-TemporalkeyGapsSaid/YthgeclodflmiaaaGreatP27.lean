/- Lemmas. -/
import Derived.Test.YthgeclodflmiaaaGreatP26
import Derived.Test.YthgeclodflmiaaaGreatProg
import Derived.KernelRfl
import Derived.WalkKit
namespace Go.Civ
open Go.RowKit
set_option linter.unusedVariables false
def Xf (a : Int) (s : Span) : Bool:=decide (s.a ≤ a) && decide (a < s.b)
def rrL (l : List HRow) (a x : Int) : VV:=(ZeZ l a x).map HRow.v
theorem Zg5 {α : Type} {v : α} {a : Int} : ∀ {l : List Span},Can l → (l.filter (Xf a)).map (fun _=>v) = if Y0 l a then [v] else []
 | [],_=>rfl
 | s :: l,h=>by
  have ih:=Zg5 (v:=v) (a:=a) h.tail
  rw [List.filter_cons]
  have ec : Y0 (s :: l) a = (Xf a s || Y0 l a):=rfl
  cases hs : Xf a s with
  | true=>
   have h2 : Y0 l a = false:=by
    rw [Bool.eq_false_iff]; intro e
    have:=h.above (XL.1 e)
    unfold Xf at hs; simp at hs; omega
   rw [h2] at ih
   rw [ec,hs,h2,if_pos rfl,List.map_cons,ih]; rfl
  | false=>
   rw [ec,hs,Bool.false_or]
   exact ih
theorem ZhG {α β : Type} {f g : α → List β} : ∀ {l : List α},(∀ x ∈ l,f x = g x) → l.flatMap f = l.flatMap g
 | [],_=>rfl
 | x :: l,h=>by rw [List.flatMap_cons,List.flatMap_cons,h x (by simp),ZhG fun y hy=>h y (by simp [hy])]
theorem Zk3 {α β : Type} {p : α → Bool} {f : α → β} : ∀ (l : List α),(l.flatMap fun g=>if p g then [f g] else []) = (l.filter p).map f
 | []=>rfl
 | x :: l=>by
  rw [List.flatMap_cons,Zk3 l,List.filter_cons]
  cases p x <;> rfl
theorem ZmZ {v : List Val} {a x : Int} : ∀ {m : List HRow},(∀ r ∈ m,r.v = v) → (m.filter (Zam a x)).map HRow.v = ((Yf m x).filter (Xf a)).map fun _=>v
 | [],_=>rfl
 | r :: m,h=>by
  have ih:=ZmZ (a:=a) (x:=x) (m:=m) fun q hq=>h q (by simp [hq])
  have hv:=h r (by simp)
  have e : Zam a x r = (Xf a r.r.d && Y6 x r):=rfl
  unfold Yf at ih ⊢
  rw [List.filter_cons,List.filter_cons,e]
  cases h1 : Y6 x r with
  | true=>
   rw [if_pos rfl,List.map_cons,List.filter_cons,Bool.and_true]
   cases h2 : Xf a r.r.d with
   | true=>rw [if_pos rfl,if_pos rfl,List.map_cons,List.map_cons,ih,hv]
   | false=>exact ih
  | false=>rw [Bool.and_false]; exact ih
theorem Zna {l : List HRow} (hg : ZA l) (a x : Int) : rrL (ZO l) a x = QG l a x:=by
 unfold rrL ZeZ QG ZT
 rw [Zcv,List.filter_flatMap,List.map_flatMap,List.filter_map,List.map_map]
 have e : (HGrp.v ∘ fun v=>(⟨v,YI l v⟩ : HGrp)) = id:=rfl
 rw [e,← Zk3]
 refine ZhG fun v hv=>?_
 rw [ZmZ fun r hr=>(Zj2 hr).1]
 have e2 : Yf (nvH l v) x = Z1 (YI l v) x:=Zj1 (hg.of v) v x
 rw [e2,Zg5 (QC (hg.of v) x)]
 rfl
theorem Znb {t : Table} (h : Zm t = true) (x : Int) : (X1 t x).length ≤ 250000:=by
 unfold X1
 split
 ·have h2:=Zde (l:=t.rows) (k:=(ZT t.rows).length) (tx:=x) (ZE h).2.1
  rwa [List.take_length] at h2
 ·exact Nat.zero_le _
end Go.Civ
namespace Go.Civ
open Go.RowKit
set_option linter.unusedVariables false
def Zas (k : Nat) : VV → Option (List Val)
 | []=>none
 | x :: r=>if r.any (fun y=>decide (y.take k = x.take k)) then some x else Zas k r
def Zcw (k : Nat) : VV → Option (List Val)
 | x :: y :: r=>if x.take k = y.take k then some x else Zcw k (y :: r)
 | _=>none
theorem ZhH {x y : List Val} : ∀ {k : Nat},Yi cmpV x y ≤ 0 → Yi cmpV (x.take k) (y.take k) ≤ 0:=by
 induction x generalizing y with
 | nil=>
  intro k h
  cases y with
  | nil=>simpa using h
  | cons b y=>cases k <;> simp [Yi]
 | cons a x ih=>
  intro k h
  cases k with
  | zero=>simp [Yi]
  | succ k=>
   cases y with
   | nil=>simp [Yi] at h
   | cons b y=>
    simp only [List.take_succ_cons]
    unfold Yi at h ⊢
    split
    ·rename_i q; rw [if_pos q] at h; exact h
    ·rename_i q; rw [if_neg q] at h; exact ih h
theorem Zkf {k : Nat} {x y z : List Val} (h1 : Yi cmpV x y < 0) (h2 : Yi cmpV y z < 0) (h : x.take k = z.take k) : x.take k = y.take k:=by
 have a:=ZhH (k:=k) (Int.le_of_lt h1)
 have b:=ZhH (k:=k) (Int.le_of_lt h2)
 rw [← h] at b
 rcases Int.lt_or_le (Yi cmpV (x.take k) (y.take k)) 0 with q | q
 ·have:=(ord.swap _ _).1 q; omega
 ·exact (ord.eq _ _).1 (by omega)
theorem Ze3 {k : Nat} : ∀ {l : VV},ZbM l → Zas k l = Zcw k l
 | [],_=>rfl
 | [x],_=>rfl
 | x :: y :: r,h=>by
  obtain ⟨h1,h2⟩:=List.pairwise_cons.1 h
  have ih:=Ze3 (k:=k) h2
  unfold Zas Zcw
  by_cases e : x.take k = y.take k
  ·rw [if_pos e,if_pos]
   rw [List.any_cons,decide_eq_true e.symm]; rfl
  ·rw [if_neg e,if_neg,ih]
   rw [Bool.not_eq_true,List.any_eq_false]
   intro z hz hq
   have hq:=of_decide_eq_true hq
   rcases List.mem_cons.1 hz with rfl | hz
   ·exact e hq.symm
   ·have h3:=(List.pairwise_cons.1 h2).1 z hz
    exact e (Zkf (h1 y (by simp)) h3 hq.symm)
theorem Zg6 {k : Nat} {v : List Val} : ∀ {l : VV},ZbM l → Zcw k l = some v → v ∈ l ∧ ∃ w ∈ l,w ≠ v ∧ w.take k = v.take k
 | [],_,h=>by cases h
 | [x],_,h=>by cases h
 | x :: y :: r,hi,h=>by
  obtain ⟨h1,h2⟩:=List.pairwise_cons.1 hi
  unfold Zcw at h
  split at h
  ·rename_i e
   obtain rfl:=Option.some.inj h
   refine ⟨by simp,y,by simp,fun q=>?_,e.symm⟩
   have:=h1 y (by simp)
   rw [q,ord.refl] at this; omega
  ·obtain ⟨a,w,b,c,d⟩:=Zg6 h2 h
   exact ⟨List.mem_cons_of_mem _ a,w,List.mem_cons_of_mem _ b,c,d⟩
theorem ZlJ {k : Nat} : ∀ {l : VV},ZbM l → Zcw k l = none → ∀ v ∈ l,∀ w ∈ l,w ≠ v → w.take k ≠ v.take k
 | l,hi,h=>by
  rw [← Ze3 hi] at h
  intro v hv w hw hne e
  have key : ∀ {l : VV},Zas k l = none → l.Pairwise fun x y=>y.take k ≠ x.take k:=by
   intro l
   induction l with
   | nil=>intro _; exact List.Pairwise.nil
   | cons x r ih=>
    intro h
    unfold Zas at h
    split at h
    ·cases h
    ·rename_i q
     rw [Bool.not_eq_true,List.any_eq_false] at q
     exact List.pairwise_cons.2 ⟨fun y hy e=>q y hy (decide_eq_true e),ih h⟩
  obtain ⟨i,hi1⟩:=List.getElem?_of_mem hv
  obtain ⟨j,hj1⟩:=List.getElem?_of_mem hw
  obtain ⟨i1,rfl⟩:=List.getElem?_eq_some_iff.1 hi1
  obtain ⟨j1,rfl⟩:=List.getElem?_eq_some_iff.1 hj1
  have hp:=List.pairwise_iff_getElem.1 (key h)
  rcases Nat.lt_trichotomy i j with q | q | q
  ·exact hp i j i1 j1 q e
  ·subst q; exact hne rfl
  ·exact hp j i j1 i1 q e.symm
end Go.Civ
namespace Go.Civ
open Go.RowKit
set_option linter.unusedVariables false
structure Pt where
 tx : Int
 vd : Int
 v : List Val
def ovB (k : Nat) (a b : HRow) : Bool:=Xf (max a.r.x.a b.r.x.a) a.r.x && Xf (max a.r.x.a b.r.x.a) b.r.x && Xf (max a.r.d.a b.r.d.a) a.r.d && Xf (max a.r.d.a b.r.d.a) b.r.d && decide (a.v.take k = b.v.take k)
def ZdC (a b : HRow) : Pt:=⟨max a.r.x.a b.r.x.a,max a.r.d.a b.r.d.a,if YU b.v a.v < 0 then b.v else a.v⟩
def ZcG (k : Nat) (l : List HRow) (i : Nat) : List Pt:=match l[i]? with
 | some a=>((l.take i).filter (ovB k a)).map (ZdC a)
 | none=>[]
def YX (k : Nat) (l : List HRow) : List Pt:=(List.range l.length).flatMap (ZcG k l)
def Zfa (k : Nat) (l : List HRow) (tx vd : Int) : Option (List Val):=Zcw k (QG l vd tx)
theorem Zhf {x : Int} {s : Span} : Xf x s = true ↔ s.a ≤ x ∧ x < s.b:=by unfold Xf; simp
theorem Zsm {k : Nat} {a b : HRow} : ovB k a b = true ↔ Zam (max a.r.d.a b.r.d.a) (max a.r.x.a b.r.x.a) a = true ∧ Zam (max a.r.d.a b.r.d.a) (max a.r.x.a b.r.x.a) b = true ∧ a.v.take k = b.v.take k:=by
 unfold ovB
 simp only [Bool.and_eq_true,decide_eq_true_eq,Zhf,QD]
 constructor
 ·rintro ⟨⟨⟨⟨h1,h2⟩,h3⟩,h4⟩,h5⟩; exact ⟨⟨h3.1,h3.2,h1.1,h1.2⟩,⟨h4.1,h4.2,h2.1,h2.2⟩,h5⟩
 ·rintro ⟨⟨h1,h2,h3,h4⟩,⟨h5,h6,h7,h8⟩,h9⟩; exact ⟨⟨⟨⟨⟨h3,h4⟩,h7,h8⟩,h1,h2⟩,h5,h6⟩,h9⟩
section
variable {k : Nat} {l : List HRow} {tx vd : Int}
theorem ZlK (hg : ZA l) (hn : l = ZO l) (vd tx : Int) : l.Pairwise fun x y=>Zam vd tx x = true → Zam vd tx y = true → x.v ≠ y.v:=by
 have h:=Zna hg vd tx
 rw [← hn] at h
 have nd : (rrL l vd tx).Nodup:=by rw [h]; exact (ZdB hg vd tx).nodup
 unfold rrL ZeZ at nd
 unfold List.Nodup at nd
 rw [List.pairwise_map,List.pairwise_filter] at nd
 exact nd.imp fun {x y} q=>fun h1 h2=>q h1 h2
theorem Zk4 {p : Pt} : p ∈ YX k l ↔ ∃ (i j : Nat) (a b : HRow),l[i]? = some a ∧ l[j]? = some b ∧ j < i ∧ ovB k a b = true ∧ p = ZdC a b:=by
 unfold YX
 rw [List.mem_flatMap]
 constructor
 ·rintro ⟨i,hi,hp⟩
  unfold ZcG at hp
  split at hp
  ·rename_i a ha
   obtain ⟨b,hb,rfl⟩:=List.mem_map.1 hp
   obtain ⟨hb1,hb2⟩:=List.mem_filter.1 hb
   obtain ⟨j,hj⟩:=List.getElem?_of_mem hb1
   rw [List.getElem?_take] at hj
   split at hj
   ·rename_i hji; exact ⟨i,j,a,b,ha,hj,hji,hb2,rfl⟩
   ·cases hj
  ·cases hp
 ·rintro ⟨i,j,a,b,ha,hb,hji,ho,rfl⟩
  refine ⟨i,List.mem_range.2 (List.getElem?_eq_some_iff.1 ha).1,?_⟩
  unfold ZcG
  rw [ha]
  exact List.mem_map.2 ⟨b,List.mem_filter.2 ⟨List.mem_of_getElem? (by rw [List.getElem?_take,if_pos hji]; exact hb),ho⟩,rfl⟩
theorem Ze4 (hg : ZA l) (hn : l = ZO l) {p : Pt} (hp : p ∈ YX k l) : Zfa k l p.tx p.vd ≠ none ∧ (∃ r ∈ l,r.r.x.a = p.tx) ∧ ∃ r ∈ l,r.r.d.a = p.vd:=by
 obtain ⟨i,j,a,b,ha,hb,hji,ho,rfl⟩:=Zk4.1 hp
 obtain ⟨h1,h2,h3⟩:=Zsm.1 ho
 have ma:=List.mem_of_getElem? ha
 have mb:=List.mem_of_getElem? hb
 refine ⟨fun e=>?_,?_,?_⟩
 ·obtain ⟨i1,ea⟩:=List.getElem?_eq_some_iff.1 ha
  obtain ⟨j1,eb⟩:=List.getElem?_eq_some_iff.1 hb
  have hne:=List.pairwise_iff_getElem.1 (ZlK hg hn (max a.r.d.a b.r.d.a) (max a.r.x.a b.r.x.a)) j i j1 i1 hji
  rw [ea,eb] at hne
  have hne:=hne h2 h1
  exact ZlJ (ZdB hg _ _) e b.v ((Zbs hg).2 ⟨b,mb,rfl,h2⟩) a.v ((Zbs hg).2 ⟨a,ma,rfl,h1⟩) (Ne.symm hne) h3
 ·rcases Int.le_total a.r.x.a b.r.x.a with q | q
  ·exact ⟨b,mb,by show b.r.x.a = max a.r.x.a b.r.x.a; omega⟩
  ·exact ⟨a,ma,by show a.r.x.a = max a.r.x.a b.r.x.a; omega⟩
 ·rcases Int.le_total a.r.d.a b.r.d.a with q | q
  ·exact ⟨b,mb,by show b.r.d.a = max a.r.d.a b.r.d.a; omega⟩
  ·exact ⟨a,ma,by show a.r.d.a = max a.r.d.a b.r.d.a; omega⟩
end
end Go.Civ
set_option linter.unusedVariables false
set_option linter.unusedSimpArgs false
set_option maxRecDepth 100000
set_option maxHeartbeats 4000000
namespace Go.Civ
open Go.Proofs
theorem ZhN {G : GH} {w : World} (hG : G.In w) (x : HGrp) (cx : List Value) (hcx : ZaL.rep G x cx) (hgood : ZA x.t) (hl : x.t.length ≤ 2000) : CL Tryz.prog (nat_lit 128) #[.agg cx.toArray] [] w G fun G' _ r=>Sl HRowE 56 G' r (Zd1 x):=by
 refine Zg ft [] Tryz.func128 rfl rfl ?_
 have hS:=St.start (X:=[]) hG
 obtain ⟨v1,v2,rfl,hs1,hs2⟩:=Q9 hcx
 refine Zu [v1,v2] _ hS rfl rfl rfl (fun p1 w1 G1 hle1 hsp1 hc1 hS1=>?_)
 refine Zb hS1 (Xl.drop 1 hc1) YW rfl rfl rfl ?_
 have bd1:=hs2.bound
 refine Zi (hs2.mono hle1) YB rfl rfl ?_
 have hS3:=hS1.pad
 refine LP.go ft [] (fun m ρ1 w1=>∃ (k1 : Nat),∃ (v3 : Value) (o1 : OB),∃ (G2 : GH),m = x.t.length - k1 ∧ G1.le G2 ∧ St w [] G G2 [o1] w1 ∧ ZS Enc.int 8 3 G2 v3 (ZaR (x.t.take k1)) o1 ∧ FR ρ1 [(1, .pointer (some p1)),(3,v3),(14,v2),(15, .int .i64 (x.t.length : Int)),(16, .int .i64 (k1 : Int))] ∧ k1 ≤ x.t.length) _ ⟨0,(.slice none 0 0),none,G1,rfl,(G1.le_refl),hS3,(ZS.nil Enc.int 8 3 G1),⟨rfl,rfl,rfl,rfl,rfl,trivial⟩,(by omega)⟩ ?_
 rintro m ρ1 w2 ⟨k1,v3,o1,G2,rfl,hle2,hS2,hr1,hF9,f1⟩
 refine hF9.set ?_
 clear hF9
 have hfl:=Zij x.t k1
 refine Zq (k1 : Int) (x.t.length : Int) rfl rfl rfl (fun h1=>?_) (fun h1=>?_)
 ·refine WL.indexAddr (hs2.mono (hle1.trans hle2)) k1 (by omega) YB Zx rfl rfl rfl rfl (fun p2 x1 hx1 he1=>?_)
  obtain ⟨cs1,hc2,hr2⟩:=he1
  obtain ⟨v4,rfl,hs3,hb1,hb2,hb3,hb4⟩:=ZK hr2
  refine Zc hS2 hc2 [v4, .int .i64 x1.r.d.a, .int .i64 x1.r.d.b, .int .i64 x1.r.x.a, .int .i64 x1.r.x.b] Zx rfl rfl rfl rfl rfl ?_
  refine WL.alloc hS2 Zx rfl rfl (fun b1 w3 hn1 hS4=>?_)
  refine WL.store hS4 0 _ _ _ 0 _ [v4, .int .i64 x1.r.d.a, .int .i64 x1.r.d.b, .int .i64 x1.r.x.a, .int .i64 x1.r.x.b] [v4, .int .i64 x1.r.d.a, .int .i64 x1.r.d.b, .int .i64 x1.r.x.a, .int .i64 x1.r.x.b] _ rfl rfl Zx rfl (Nat.le_of_ble_eq_true rfl) (by simp only [List.all_cons,List.all_nil,hs3.oneC,Bool.true_and] <;> rfl) rfl rfl rfl rfl rfl (fun w4 hS5=>?_)
  obtain ⟨G3,hle3,hc3,hS6⟩:=hS5.shutB hn1
  refine Zb hS6 (Xl.drop 0 (Xl.drop 2 (Xl.drop 1 hc3))) Z7 rfl rfl rfl <| Zb hS6 (Xl.drop 1 (Xl.drop 2 (Xl.drop 1 hc3))) Z7 rfl rfl rfl ?_
  refine WL.buildSlice _ [(0,[.int .i64 x1.r.x.a]),(1,[.int .i64 x1.r.x.b])] [.int .i64 x1.r.x.a, .int .i64 x1.r.x.b] hS6 Zdu rfl rfl rfl rfl (fun z hz=>by match z,hz with | [z0,z1],_=>rfl) (fun b2 w5 hn2 hS7=>?_)
  refine WL.push (m:=([x1.r.x.a,x1.r.x.b] : List Int)) Zdu rfl rfl rfl (hr1.mono hle3) hS7 1 rfl 0 _ _ _ _ _ rfl ⟨[.int .i64 x1.r.x.a],_,rfl,⟨rfl,hb3⟩,⟨[.int .i64 x1.r.x.b],_,rfl,⟨rfl,hb4⟩,rfl⟩⟩ rfl (by have hreach : reach = 140737488355328:=rfl; simp only [List.length_cons,List.length_nil]; omega) (by have hreach : reach = 140737488355328:=rfl; simp only [List.length_cons,List.length_nil]; omega) rfl rfl rfl (fun v5 o2 w6 hr3 hS8=>?_)
  have hS9:=hS8.tail
  refine Zk k1 (by have hreach : reach = 140737488355328:=rfl; omega) rfl rfl rfl ?_
  exact BK.mk' _ ⟨k1 + 1,v5,o2,G3,rfl,(hle2.trans hle3),hS9,(ZS.cast hr3 (by (rw [Zl8 ‹_›]))),⟨rfl,rfl,rfl,rfl,rfl,trivial⟩,(by omega)⟩ (show x.t.length - (k1 + 1) < x.t.length - k1 by omega)
 refine QO ZpF rfl rfl rfl (Zk0 hS2.imm (ZaR (x.t.take k1)) _ _ hr1 (hS2.lentAt 0 rfl)) (fun w7 G4 r1 hres1 hpost1=>?_)
 have hle4:=hres1.le
 obtain ⟨rfl,l1,o3,hr4,hf1,hq1⟩:=hpost1
 have hS11:=hS2.callRow 0 rfl hres1 hr1 hr4 hf1
 refine QO ZpG rfl rfl rfl (Zh9 hS11.imm l1 _ _ hr4 (hS11.lentAt 0 rfl)) (fun w9 G5 r2 hres2 hpost2=>?_)
 have hle5:=hres2.le
 obtain ⟨o4,hr5,hf2,hq2⟩:=hpost2
 have hS13:=hS11.callRowR 0 rfl hres2 hr4 hr5 hf2 hq2
 refine WL.alloc hS13 YW rfl rfl (fun b3 w10 hn3 hS14=>?_)
 refine WL.alloc hS14 Zlc rfl rfl (fun b4 w11 hn4 hS15=>?_)
 refine WL.alloc hS15 Z7 rfl rfl (fun b5 w12 hn5 hS16=>?_)
 refine WL.store hS16 0 _ _ _ 0 _ [.int .i64 0] [.int .i64 0] _ rfl rfl Z7 rfl (Nat.le_of_ble_eq_true rfl) rfl rfl rfl rfl rfl rfl (fun w13 hS17=>?_)
 have hS18:=hS17.pad
 have hcut:=ZS.cast (l':=Yc x.t) hr5 (by rw [hq1,Zjt]; exact ZqC (by omega))
 have hcl:=Zh0 x.t
 have hci:=ZmC hgood
 have bd2:=hcut.bound
 refine Qc hcut Zds rfl rfl ?_
 refine LP.go ft [] (fun m ρ1 w1=>∃ (k2 : Nat),∃ (nv : Value),∃ (nw : List Span),∃ (fr : Int),∃ (v6 : Value) (o5 : OB),∃ (G6 : GH),m = (Yc x.t).length - k2 ∧ G5.le G6 ∧ St w [] G G6 [o5,some (b5,3,[.int .i64 fr]),some (b4,71,[nv]),some (b3,26,[v6]),o4] w1 ∧ ZS HRowE 56 37 G6 v6 ((YF x.v (Z1 x.t) ((Yc x.t).take k2)).out) o5 ∧ FR ρ1 [(1, .pointer (some p1)),(6, .pointer (some ⟨b3,0,none⟩)),(7, .pointer (some ⟨b4,0,none⟩)),(8, .pointer (some ⟨b5,0,none⟩)),(9, .func (.func 178) #[] #[.pointer (some ⟨b4,0,none⟩), .pointer (some ⟨b3,0,none⟩), .pointer (some p1), .pointer (some ⟨b5,0,none⟩)]),(37,r2),(38, .int .i64 (((Yc x.t).length : Nat) : Int)),(39, .int .i64 (k2 : Int))] ∧ k2 ≤ (Yc x.t).length ∧ Sl SpanE 16 G6 nv nw ∧ nw = (YF x.v (Z1 x.t) ((Yc x.t).take k2)).now ∧ fr = (YF x.v (Z1 x.t) ((Yc x.t).take k2)).fr ∧ Zy fr) _ ⟨0, .slice none 0 0,[],0,(.slice none 0 0),none,G5,rfl,(G5.le_refl),hS18,(ZS.cast (ZS.nil HRowE 56 37 G5) (by simp [YF])),⟨rfl,rfl,rfl,rfl,rfl,rfl,rfl,rfl,trivial⟩,(by omega),(Sl.nil SpanE 16 G5),(by simp [YF]),(by simp [YF]),(ZN)⟩ ?_
 rintro m ρ1 w14 ⟨k2,nv,nw,fr,v6,o5,G6,rfl,hle6,hS19,hr6,hF9,f2,f3,f4,f5,f6⟩
 refine hF9.set ?_
 clear hF9
 have hnw:=(by assumption : nw = (YF x.v (Z1 x.t) ((Yc x.t).take k2)).now)
 have hfr:=(by assumption : fr = (YF x.v (Z1 x.t) ((Yc x.t).take k2)).fr)
 have hnb:=Zgs (g:=x) hl k2
 have hnl : nw.length ≤ 2000:=by rw [hnw]; exact hnb.2
 refine Zq (k2 : Int) (((Yc x.t).length : Nat) : Int) rfl rfl rfl (fun h2=>?_) (fun h2=>?_)
 ·refine Qe (hcut.mono hle6) k2 (by omega) Zds Z7 rfl rfl rfl rfl (fun p3 x2 ec1 hx2 hr7 ra1=>?_)
  obtain ⟨rfl,hb5⟩:=hr7
  refine ZfU ra1 hS19 4 rfl _ rfl Z7 rfl rfl rfl ?_
  have hc64:=hci _ (List.mem_of_getElem? (by assumption : (Yc x.t)[k2]? = some _))
  refine Zb hS19 (Xl.drop 1 (hc1.mono (((hle2.trans hle4).trans hle5).trans hle6))) YW rfl rfl rfl ?_
  refine Z3 hS19 Zol rfl rfl rfl (ZfA hS19.imm x.t x2 _ (hs2.mono ((((hle1.trans hle2).trans hle4).trans hle5).trans hle6)) hgood hl) (fun w15 G7 r3 hpost3 hS20 hle7=>?_)
  refine ZQ hS20 2 _ _ _ 0 _ rfl rfl Zlc rfl rfl rfl ?_
  refine Zj hS20 Zoj rfl rfl rfl (Zd7 hS20.imm nw (Z1 x.t x2) _ (f3.mono hle7) _ hpost3) (fun w16 G9 hS21 hle9=>?_)
  refine WL.split (fun (h3 : (decide (nw = (Z1 x.t x2))) = true)=>?_) (fun (h3 : (decide (nw = (Z1 x.t x2))) = false)=>?_)
  ·refine Zk k2 (by have hreach : reach = 140737488355328:=rfl; omega) rfl rfl rfl ?_
   exact BK.mk' _ ⟨k2 + 1,nv,nw,fr,v6,o5,G9,rfl,(hle6.trans (hle7.trans hle9)),hS21,(ZS.cast (hr6.mono (hle7.trans hle9)) (by (exact (congrArg NS.out (Zf8 ‹_› (by rw [← hnw]; exact of_decide_eq_true ‹_›))).symm))),⟨rfl,rfl,rfl,rfl,rfl,rfl,rfl,rfl,trivial⟩,(by omega),((f3.mono (hle7.trans hle9))),(by (rw [Zf8 ‹_› (by rw [← hnw]; exact of_decide_eq_true ‹_›)]; exact hnw)),(by (rw [Zf8 ‹_› (by rw [← hnw]; exact of_decide_eq_true ‹_›)]; exact hfr)),‹_›⟩ (show (Yc x.t).length - (k2 + 1) < (Yc x.t).length - k2 by omega)
  have hP1 : St w [] G G9 [some (b4,71,[nv]),some (b3,26,[v6]),some (b5,3,[.int .i64 fr]),o5,o4] w16:=hS21.pick [2,3,1,0,4]
  refine Zcg [.int .i64 x2, .pointer (some ⟨b4,0,none⟩), .pointer (some ⟨b3,0,none⟩), .pointer (some p1), .pointer (some ⟨b5,0,none⟩)] #[.pointer (some ⟨b4,0,none⟩), .pointer (some ⟨b3,0,none⟩), .pointer (some p1), .pointer (some ⟨b5,0,none⟩)] Zti rfl rfl rfl ((ZqH x.v fr x2 ((YF x.v (Z1 x.t) ((Yc x.t).take k2)).out) nw _ _ _ _ _ _ (f3.mono (hle7.trans hle9)) (hr6.mono (hle7.trans hle9)) hP1 _ (hs1.mono ((((((hle1.trans hle2).trans hle4).trans hle5).trans hle6).trans hle7).trans hle9)) _ _ (hc1.mono (((((hle2.trans hle4).trans hle5).trans hle6).trans hle7).trans hle9)) hc64 f6 (by omega)).mono ?_)
  rintro e14 w17 ⟨G10,v7,o6,rfl,hle10,hS22,hr8⟩
  refine ⟨_,rfl,?_⟩
  refine WL.store hS22 0 _ _ _ 0 _ [r3] [r3] _ rfl (hpost3.mono (hle9.trans hle10)).cells1 Zlc rfl (Nat.le_of_ble_eq_true rfl) (by simp only [List.all_cons,List.all_nil,(hpost3.mono (hle9.trans hle10)).oneC,Bool.true_and] <;> rfl) rfl rfl rfl rfl rfl (fun w18 hS23=>?_)
  refine WL.store hS23 2 _ _ _ 0 _ [.int .i64 x2] [.int .i64 x2] _ rfl rfl Z7 rfl (Nat.le_of_ble_eq_true rfl) rfl rfl rfl rfl rfl rfl (fun w19 hS24=>?_)
  refine Zk k2 (by have hreach : reach = 140737488355328:=rfl; omega) rfl rfl rfl ?_
  have hP2 : St w [] G G10 [o6,some (b5,3,[.int .i64 x2]),some (b4,71,[r3]),some (b3,26,[v7]),o4] w19:=hS24.pick [3,2,0,1,4]
  exact BK.mk' _ ⟨k2 + 1,r3,Z1 x.t x2,x2,v7,o6,G10,rfl,(hle6.trans ((hle7.trans hle9).trans hle10)),hP2,(ZS.cast hr8 (by ((rw [Zha ‹_› (by rw [← hnw]; exact of_decide_eq_false ‹_›)]; simp only [hnw,hfr])))),⟨rfl,rfl,rfl,rfl,rfl,rfl,rfl,rfl,trivial⟩,(by omega),((hpost3.mono (hle9.trans hle10))),(by (rw [Zha ‹_› (by rw [← hnw]; exact of_decide_eq_false ‹_›)])),(by (rw [Zha ‹_› (by rw [← hnw]; exact of_decide_eq_false ‹_›)])),‹_›⟩ (show (Yc x.t).length - (k2 + 1) < (Yc x.t).length - k2 by omega)
 refine ZQ hS19 3 _ _ _ 0 _ rfl rfl YW rfl rfl rfl ?_
 obtain ⟨G11,hle11,hs4,hS25⟩:=ZS.freeze hr6 hS19 0 rfl
 exact RT hS25 rfl (Sl.cast hs4 (by exact ZmD (by omega)))
end Go.Civ
