/- Lemmas. -/
import Derived.Test.YthgeclodflmiaaaGreatM12
import Derived.Test.YthgeclodflmiaaaGreatM16
import Derived.Test.YthgeclodflmiaaaGreatM17
import Derived.Test.YthgeclodflmiaaaGreatM19
import Derived.Test.YthgeclodflmiaaaGreatM21
import Derived.Test.YthgeclodflmiaaaGreatProg
import Derived.KernelRfl
import Derived.WalkKit
namespace Go.Civ
open Go.RowKit
set_option linter.unusedVariables false
def UpV (out : VV) (v : List Val) (k : Nat) : Prop:=∀ j,k ≤ j → ∀ u,out[j]? = some u → 0 < ZC cmpV u v
theorem UpV.start {out : VV} {v : List Val} : UpV out v out.length:=fun j hj u hu=>by have:=(List.getElem?_eq_some_iff.1 hu).1; omega
theorem UpV.step {out : VV} {v u : List Val} {k : Nat} (h : UpV out v k) (hu : out[k - 1]? = some u) (h1 : 0 < ZC cmpV u v) : UpV out v (k - 1):=fun j hj w hw=>by
 by_cases e : k ≤ j
 ·exact h j e w hw
 ·obtain rfl : j = k - 1:=by omega
  rw [hu] at hw; obtain rfl:=Option.some.inj hw; exact h1
theorem Zlt {out : VV} {v u : List Val} {k : Nat} (hi : Zaf out) (hu : out[k]? = some u) (h : ZC cmpV u v ≤ 0) : ∀ j,j < k → ∀ w,out[j]? = some w → ZC cmpV w v < 0:=fun j hj w hw=>by
 obtain ⟨k1,rfl⟩:=List.getElem?_eq_some_iff.1 hu
 obtain ⟨j1,rfl⟩:=List.getElem?_eq_some_iff.1 hw
 have h1:=List.pairwise_iff_getElem.1 hi j k j1 k1 hj
 by_cases e : ZC cmpV out[k] v = 0
 ·rw [(ord.eq _ _).1 e] at h1; exact h1
 ·exact ord.trans _ _ _ h1 (by omega)
theorem Zlu {out : VV} {v u : List Val} {k : Nat} (hi : Zaf out) (hk : 0 < k) (hu : out[k - 1]? = some u) (h : ZC cmpV u v = 0) : Zav out v = out:=
 Zmr (Nat.le_of_lt (List.getElem?_eq_some_iff.1 hu).1) (Zlt hi hu (by omega)) hu (by omega) ((ord.eq _ _).1 h)
theorem Zkd {out : VV} {v : List Val} {k : Nat} (hi : Zaf out) (hU : UpV out v k) (hk : k ≤ out.length) (h : k = 0 ∨ ∃ u,out[k - 1]? = some u ∧ ZC cmpV u v < 0) : Zav out v = out.take k ++ [v] ++ out.drop k:=by
 refine Zp8 hk (fun j hj w hw=>?_) (fun w hw=>?_) (fun e=>?_)
 ·rcases h with h | ⟨u,hu,h⟩
  ·omega
  ·by_cases e : j = k - 1
   ·subst e; rw [hu] at hw; obtain rfl:=Option.some.inj hw; exact h
   ·exact Zlt hi hu (by omega) j (by omega) w hw
 ·have:=hU k (Nat.le_refl _) w hw; omega
 ·have:=hU k (Nat.le_refl _) v e; rw [ord.refl] at this; omega
theorem ZeR {out : VV} {v : List Val} {k : Nat} (hi : Zaf out) (hU : UpV out v k) (hk : k ≤ out.length) (h : k = 0) : (([] ++ out.take k) ++ [v]) ++ out.drop k = Zav out v:=by rw [Zkd hi hU hk (.inl h)]; simp
theorem ZnV {out : VV} {v u : List Val} {k : Nat} (hi : Zaf out) (hU : UpV out v k) (hk : k ≤ out.length) (hu : out[k - 1]? = some u) (h1 : ZC cmpV u v ≤ 0) (h2 : ZC cmpV u v ≠ 0) : (([] ++ out.take k) ++ [v]) ++ out.drop k = Zav out v:=by
 rw [Zkd hi hU hk (.inr ⟨u,hu,by omega⟩)]; simp
theorem Zm6 {l : List HRow} {k : Nat} {x : HRow} {v : List Val} {tx : Int} (h : l[k]? = some x) (h1 : x.r.x.a ≤ tx) (h2 : tx < x.r.x.b) (h3 : ZC cmpV x.v v = 0) : Qi (l.take (k + 1)) v tx = Qi (l.take k) v tx ++ [x.r.d]:=by
 rw [List.take_add_one,h]; unfold Qi Y7; simp [h1,h2,(ord.eq _ _).1 h3]
theorem ZeS {l : List HRow} {k : Nat} {x : HRow} {v : List Val} {tx : Int} (h : l[k]? = some x) (h1 : tx < x.r.x.a ∨ x.r.x.b ≤ tx ∨ ZC cmpV x.v v ≠ 0) : Qi (l.take (k + 1)) v tx = Qi (l.take k) v tx:=by
 rw [List.take_add_one,h]; unfold Qi
 have : (Y7 tx x && decide (x.v = v)) = false:=by
  rw [Bool.eq_false_iff]
  intro e
  unfold Y7 at e
  simp only [Bool.and_eq_true,decide_eq_true_eq] at e
  rcases h1 with h1 | h1 | h1
  ·omega
  ·omega
  ·exact h1 ((ord.eq _ _).2 e.2)
 simp [this]
theorem Zhc (l : List HRow) (v : List Val) (tx : Int) : (Qi l v tx).length ≤ l.length:=by unfold Qi; rw [List.length_map]; exact List.length_filter_le _ _
theorem ZhD (l : List HRow) (v : List Val) (tx : Int) (k : Nat) : (Qi (l.take k) v tx).length ≤ l.length:=Nat.le_trans (Zhc _ _ _) (List.length_take_le' _ _)
theorem ZbT {kind : Int} {a b : List Span} : (ZL kind a b).length ≤ 2 * (a.length + b.length):=by
 have h:=ZcU (a ++ b)
 rw [List.length_append] at h
 unfold ZL
 exact Nat.le_trans (ZeB _) (by omega)
theorem Zhd (l : List HRow) (v : List Val) (tx : Int) : (Xt l v tx).length ≤ 2 * l.length:=by
 have h1:=ZbT (kind:=1) (a:=Qi l v tx) (b:=[])
 have h2:=Zhc l v tx
 unfold Xt
 simp only [List.length_nil] at h1; omega
theorem QU {α : Type} {l : List α} {k : Nat} (h : k < l.length) : ∃ x,l[k]? = some x:=⟨_,List.getElem?_eq_getElem h⟩
end Go.Civ
namespace Go.Civ
theorem Zqc {x y : Fact} (h0 : decide (x.v = y.v) = true) (h1 : x.t.a = y.t.a) (h2 : x.t.b = y.t.b) : x = y:=by
 have h0:=of_decide_eq_true h0
 obtain ⟨xv,⟨x1,x2⟩⟩:=x; obtain ⟨yv,⟨y1,y2⟩⟩:=y; simp_all
end Go.Civ
namespace Go.Civ
end Go.Civ
namespace Go.Civ
open Go.RowKit
set_option linter.unusedVariables false
def QC (at_ tx : Int) (r : HRow) : Bool:=decide (r.r.d.a ≤ at_) && decide (at_ < r.r.d.b) && Y7 tx r
def QV (l : List HRow) (at_ tx : Int) : List HRow:=l.filter (QC at_ tx)
def YC (l : List HRow) (at_ tx : Int) : VV:=Z8 (QV l at_ tx)
def Yx (l : List HRow) (tx : Int) (vs : VV) : List Fact:=vs.flatMap fun v=>(Xt l v tx).map (Fact.mk v)
theorem ZnW {l : List HRow} {k : Nat} {x : HRow} {at_ tx : Int} (h : l[k]? = some x) (h1 : x.r.d.a ≤ at_) (h2 : at_ < x.r.d.b) (h3 : x.r.x.a ≤ tx) (h4 : tx < x.r.x.b) : QV (l.take (k + 1)) at_ tx = QV (l.take k) at_ tx ++ [x]:=by
 rw [List.take_add_one,h]; unfold QV QC Y7; simp [h1,h2,h3,h4]
theorem Zeg {l : List HRow} {k : Nat} {x : HRow} {at_ tx : Int} (h : l[k]? = some x) (h1 : at_ < x.r.d.a ∨ x.r.d.b ≤ at_ ∨ tx < x.r.x.a ∨ x.r.x.b ≤ tx) : QV (l.take (k + 1)) at_ tx = QV (l.take k) at_ tx:=by
 rw [List.take_add_one,h]; unfold QV
 have : QC at_ tx x = false:=by
  rw [Bool.eq_false_iff]; unfold QC Y7; simp only [ne_eq,Bool.and_eq_true,decide_eq_true_eq]; omega
 simp [this]
theorem ZnX (l : List HRow) (at_ tx : Int) (k : Nat) : (QV (l.take k) at_ tx).length ≤ l.length:=Nat.le_trans (List.length_filter_le _ _) (List.length_take_le' _ _)
theorem ZnY {l : List HRow} {tx : Int} {vs : VV} {k : Nat} {v : List Val} (h : vs[k]? = some v) : Yx l tx (vs.take (k + 1)) = Yx l tx (vs.take k) ++ (Xt l v tx).map (Fact.mk v):=by rw [List.take_add_one,h]; simp [Yx]
theorem Zke {l : List HRow} {tx : Int} : ∀ vs : VV,(Yx l tx vs).length ≤ vs.length * (2 * l.length)
 | []=>by simp [Yx]
 | v :: vs=>by
  have h1:=Zhd l v tx
  have h2:=Zke (l:=l) (tx:=tx) vs
  simp only [Yx,List.flatMap_cons,List.length_append,List.length_cons,List.length_map] at *
  rw [Nat.add_mul]; omega
theorem Zkf {l : List HRow} {tx : Int} (hl : l.length ≤ 2000) (k : Nat) : (Yx l tx ((Z8 l).take k)).length ≤ 8000000:=by
 have h1:=Zke (l:=l) (tx:=tx) ((Z8 l).take k)
 have h2:=List.length_take_le' k (Z8 l)
 have h3:=ZeD l
 exact Nat.le_trans h1 (Nat.le_trans (Nat.mul_le_mul (show ((Z8 l).take k).length ≤ 2000 by omega) (show 2 * l.length ≤ 4000 by omega)) (by decide))
section
variable {hl : List Val → Bool} {nx : List Val → Option (List Val)} {tx : Int} {d : Span} {l : List HRow} {k : Nat} {r : HRow}
end
end Go.Civ
namespace Go.Civ
open Go.RowKit
set_option linter.unusedVariables false
section
variable {t : Table} {tx : Int} {v : List Val} {d : Span} {rows : List HRow}
end
section
variable {k : Nat} {t : Table} {tx : Int} {c : Cond} {d : Span}
end
section
variable {k : Nat} {t : Table} {tx : Int} {c : Cond} {set : List Val} {mask : List Bool} {d : Span}
end
theorem Zm7 {s : Schema} (h : Yt s = true) : Zo (Z5 s) = true:=by
 unfold Z5; rw [if_pos h]
 unfold Zo; simp only [h]; rfl
theorem Zqd {s : Schema} (h : Yt s = true) : Z5 s = ⟨s,[], -62135596801⟩ ∧ ZbE s = 0:=⟨(ZiS h).1.symm,(ZiS h).2.symm⟩
end Go.Civ
namespace Go.Civ
end Go.Civ
namespace Go.Civ
open Go.RowKit
set_option linter.unusedVariables false
theorem Zaf.unique : ∀ {a b : VV},Zaf a → Zaf b → (∀ x,x ∈ a ↔ x ∈ b) → a = b
 | [],[],_,_,_=>rfl
 | [],y :: b,_,_,h=>absurd ((h y).2 (by simp)) (by simp)
 | x :: a,[],_,_,h=>absurd ((h x).1 (by simp)) (by simp)
 | x :: a,y :: b,ha,hb,h=>by
  obtain ⟨ha1,ha2⟩:=List.pairwise_cons.1 ha
  obtain ⟨hb1,hb2⟩:=List.pairwise_cons.1 hb
  have e : x = y:=by
   rcases List.mem_cons.1 ((h x).1 (by simp)) with e | e
   ·exact e
   ·rcases List.mem_cons.1 ((h y).2 (by simp)) with e' | e'
    ·exact e'.symm
    ·have h1:=hb1 x e
     have h2:=ord.trans _ _ _ h1 (by have:=ha1 y e'; omega)
     rw [ord.refl] at h2; omega
  subst e
  rw [Zaf.unique ha2 hb2 fun z=>?_]
  have hz:=h z
  constructor
  ·intro hm
   rcases List.mem_cons.1 (hz.1 (by simp [hm])) with e | e
   ·subst e; have:=ha1 z hm; rw [ord.refl] at this; omega
   ·exact e
  ·intro hm
   rcases List.mem_cons.1 (hz.2 (by simp [hm])) with e | e
   ·subst e; have:=hb1 z hm; rw [ord.refl] at this; omega
   ·exact e
theorem ZtJ {l : List HRow} (hg : Z2 l) (at_ tx : Int) : Zaw l at_ tx = (Z8 l).filter fun v=>Yu (Xt l v tx) at_:=by
 unfold Zaw ZY
 rw [List.filter_map,List.map_map]
 have e : (HGrp.v ∘ fun v=>(⟨v,YM l v⟩ : HGrp)) = id:=rfl
 rw [e,List.map_id]
 congr 1
 funext v
 simp only [Function.comp,ZbR hg]
theorem Zcv {l : List HRow} (hg : Z2 l) (tx : Int) : Qf l tx = Yx l tx (Z8 l):=by
 unfold Qf ZY Yx
 rw [List.flatMap_map]
 congr 1
 funext v
 simp only [ZbR hg]
theorem Zkg {l : List HRow} (hg : Z2 l) (v : List Val) (at_ tx : Int) : Yu (Xt l v tx) at_ = true ↔ ∃ r ∈ l,r.v = v ∧ QC at_ tx r = true:=by
 rw [ZbR hg,X9]
 unfold ZB
 rw [(XN fun s hs=>Y3 (ZaP (hg.of v).d tx s hs)).cov]
 unfold cover Yn YM QC
 constructor
 ·rintro ⟨s,hs,h1,h2⟩
  obtain ⟨r,hr,rfl⟩:=List.mem_map.1 hs
  rw [List.mem_filter,List.mem_filter] at hr
  exact ⟨r,hr.1.1,by simpa using hr.1.2,by simp [h1,h2,hr.2]⟩
 ·rintro ⟨r,hr,hv,hh⟩
  simp only [Bool.and_eq_true,decide_eq_true_eq] at hh
  exact ⟨r.r.d,List.mem_map.2 ⟨r,List.mem_filter.2 ⟨List.mem_filter.2 ⟨hr,by simpa using hv⟩,hh.2⟩,rfl⟩,hh.1.1,hh.1.2⟩
theorem Zbf {l : List HRow} (hg : Z2 l) (at_ tx : Int) : Zaw l at_ tx = YC l at_ tx:=by
 rw [ZtJ hg]
 refine Zaf.unique ((XZ l).filter _) (XZ _) fun v=>?_
 rw [List.mem_filter,Zkg hg,YC,Qa,Qa]
 unfold QV
 constructor
 ·rintro ⟨_,r,hr,hv,hh⟩; exact ⟨r,List.mem_filter.2 ⟨hr,hh⟩,hv⟩
 ·rintro ⟨r,hr,hv⟩
  rw [List.mem_filter] at hr
  exact ⟨⟨r,hr.1,hv⟩,r,hr.1,hv,hr.2⟩
theorem Zm8 {l : List HRow} (h : l.all Yo = true) : Z2 l:=fun r hr=>List.all_eq_true.1 h r hr
end Go.Civ
namespace Go.Civ
open Go.RowKit
set_option linter.unusedVariables false
section
variable {t : Table} {tx : Int} {v : List Val} {d : Span}
end
theorem ZtK {t : Table} {x : Int} (h1 : Zo t = true) (h2 : ZM x = true) : Qb t x = Yx t.rows x (Z8 t.rows):=by
 unfold Qb; rw [h1,h2]; exact Zcv (ZD h1).1 x
section
variable {t : Table} {a b : Int}
end
end Go.Civ
set_option linter.unusedVariables false
set_option linter.unusedSimpArgs false
set_option maxRecDepth 100000
set_option maxHeartbeats 4000000
namespace Go.Civ
open Go.Proofs
theorem Zon {G : GH} {w : World} (hG : G.In w) (x y : HGrp) (cx : List Value) (hcx : Zbq.rep G x cx) (cy : List Value) (hcy : Zbq.rep G y cy) : CL Tryz.prog (nat_lit 139) #[.agg cx.toArray, .agg cy.toArray] [] w G fun _ _ r=>r = .int .i64 (Xk x.v y.v):=by
 refine Zg ft [] Tryz.func139 rfl rfl ?_
 have hS:=St.start (X:=[]) hG
 obtain ⟨v1,v2,rfl,hs1,hs2⟩:=QS hcx
 obtain ⟨v3,v4,rfl,hs3,hs4⟩:=QS hcy
 refine Zu [v1,v2] _ hS rfl rfl rfl (fun p1 w1 G1 hle1 hsp1 hc1 hS1=>?_)
 refine Zu [v3,v4] _ hS1 rfl rfl rfl (fun p2 w2 G2 hle2 hsp2 hc2 hS2=>?_)
 refine Za hS2 (XV.drop 0 (hc1.mono hle2)) Z9 rfl rfl rfl <| Za hS2 (XV.drop 0 hc2) Z9 rfl rfl rfl ?_
 refine Zm hS2 ZiO rfl rfl rfl (Zfv hS2.imm x.v y.v _ (hs1.mono (hle1.trans hle2)) _ (hs3.mono (hle1.trans hle2))) (fun w3 G3 hS3 hle3=>?_)
 exact RI hS3 rfl (by rfl)
end Go.Civ
set_option linter.unusedVariables false
namespace Go.Civ
open Go.Proofs Go.Shelf Go.RowKit Go.Lib Go.Sort
theorem Zsw {G : GH} {w : World} (hG : G.In w) (l : List HGrp) (vd : Value) (od : OB) (hvd : ZQ Zbq 48 (nat_lit 136) G vd l od) (hod : QP w G od) (hV : ∀ g ∈ l,g.v.all ZE = true) :
  Calls Tryz.prog (nat_lit 138) #[vd, .func (.func 139) #[] #[]] w fun e w'=>∃ r G',e = .returned r ∧ Res (Q9 od) w G w' G' ∧ r = .tuple #[] ∧ ∃ (l' : List HGrp) (o' : OB),ZQ Zbq 48 (nat_lit 136) G' vd l' o' ∧ QP w' G' o' ∧ (l'.Perm l ∧ l'.Pairwise fun x y=>¬ Xk y.v x.v < 0):=
 Zl1 Tryz.sortGr (E:=Zbq) (by decide) Tryz.isAgg136 Tryz.sizeOf136 (fun x y=>Xk x.v y.v) (fun g=>g.v.all ZE = true)
  (fun x hx=>by rw [XL hx hx,ord.refl]; omega)
  (fun x y z hx hy hz p q=>by rw [XL hx hy] at p; rw [XL hy hz] at q; rw [XL hx hz]; exact ord.trans _ _ _ p q)
  (fun x y z hx hy hz p q=>by rw [XL hx hy] at p; rw [XL hy hz] at q; rw [XL hx hz]; exact ord.le_trans q p)
  139 (enters_of Tryz.func139 (by kernel_rfl) rfl) hG (fun W hW x y cx cy hx hy rx ry=>Zon hW x y cx rx cy ry)
  ⟨[],[]⟩ _ (ZdS ⟨[],[]⟩ (Sl.nil _ _ _) (Sl.nil _ _ _)) rfl l hV vd od hvd hod
end Go.Civ
set_option linter.unusedVariables false
set_option linter.unusedSimpArgs false
set_option maxRecDepth 100000
set_option maxHeartbeats 4000000
namespace Go.Civ
open Go.Proofs
theorem Ziw {G : GH} {w : World} (hG : G.In w) (x : HGrp) (cx : List Value) (hcx : Zbq.rep G x cx) (hgood : Z2 x.t) (hl : x.t.length ≤ 2000) : CL Tryz.prog (nat_lit 128) #[.agg cx.toArray] [] w G fun G' _ r=>Sl HRowE 56 G' r (ZdV x):=by
 refine Zg ft [] Tryz.func128 rfl rfl ?_
 have hS:=St.start (X:=[]) hG
 obtain ⟨v1,v2,rfl,hs1,hs2⟩:=QS hcx
 refine Zu [v1,v2] _ hS rfl rfl rfl (fun p1 w1 G1 hle1 hsp1 hc1 hS1=>?_)
 refine Za hS1 (XV.drop 1 hc1) YD rfl rfl rfl ?_
 have bd1:=hs2.bound
 refine Zi (hs2.mono hle1) Yc rfl rfl ?_
 have hS3:=hS1.pad
 refine LP.go ft [] (fun m ρ1 w1=>∃ (k1 : Nat),∃ (v3 : Value) (o1 : OB),∃ (G2 : GH),m = x.t.length - k1 ∧ G1.le G2 ∧ St w [] G G2 [o1] w1 ∧ ZQ Enc.int 8 3 G2 v3 (Zbw (x.t.take k1)) o1 ∧ FR ρ1 [(1, .pointer (some p1)),(3,v3),(14,v2),(15, .int .i64 (x.t.length : Int)),(16, .int .i64 (k1 : Int))] ∧ k1 ≤ x.t.length) _ ⟨0,(.slice none 0 0),none,G1,rfl,(G1.le_refl),hS3,(ZQ.nil Enc.int 8 3 G1),⟨rfl,rfl,rfl,rfl,rfl,trivial⟩,(by omega)⟩ ?_
 rintro m ρ1 w2 ⟨k1,v3,o1,G2,rfl,hle2,hS2,hr1,hF9,f1⟩
 refine hF9.set ?_
 clear hF9
 have hfl:=ZiI x.t k1
 refine Zl (k1 : Int) (x.t.length : Int) rfl rfl rfl (fun h1=>?_) (fun h1=>?_)
 ·refine WL.indexAddr (hs2.mono (hle1.trans hle2)) k1 (by omega) Yc Zr rfl rfl rfl rfl (fun p2 x1 hx1 he1=>?_)
  obtain ⟨cs1,hc2,hr2⟩:=he1
  obtain ⟨v4,rfl,hs3,hb1,hb2,hb3,hb4⟩:=Z0 hr2
  refine Zc hS2 hc2 [v4, .int .i64 x1.r.d.a, .int .i64 x1.r.d.b, .int .i64 x1.r.x.a, .int .i64 x1.r.x.b] Zr rfl rfl rfl rfl rfl ?_
  refine WL.alloc hS2 Zr rfl rfl (fun b1 w3 hn1 hS4=>?_)
  refine WL.store hS4 0 _ _ _ 0 _ [v4, .int .i64 x1.r.d.a, .int .i64 x1.r.d.b, .int .i64 x1.r.x.a, .int .i64 x1.r.x.b] [v4, .int .i64 x1.r.d.a, .int .i64 x1.r.d.b, .int .i64 x1.r.x.a, .int .i64 x1.r.x.b] _ rfl rfl Zr rfl (Nat.le_of_ble_eq_true rfl) (by simp only [List.all_cons,List.all_nil,hs3.oneC,Bool.true_and] <;> rfl) rfl rfl rfl rfl rfl (fun w4 hS5=>?_)
  obtain ⟨G3,hle3,hc3,hS6⟩:=hS5.shutB hn1
  refine Za hS6 (XV.drop 0 (XV.drop 2 (XV.drop 1 hc3))) Zn rfl rfl rfl <| Za hS6 (XV.drop 1 (XV.drop 2 (XV.drop 1 hc3))) Zn rfl rfl rfl ?_
  refine WL.buildSlice _ [(0,[.int .i64 x1.r.x.a]),(1,[.int .i64 x1.r.x.b])] [.int .i64 x1.r.x.a, .int .i64 x1.r.x.b] hS6 ZI rfl rfl rfl rfl (fun z hz=>by match z,hz with | [z0,z1],_=>rfl) (fun b2 w5 hn2 hS7=>?_)
  refine WL.push (m:=([x1.r.x.a,x1.r.x.b] : List Int)) ZI rfl rfl rfl (hr1.mono hle3) hS7 1 rfl 0 _ _ _ _ _ rfl ⟨[.int .i64 x1.r.x.a],_,rfl,⟨rfl,hb3⟩,⟨[.int .i64 x1.r.x.b],_,rfl,⟨rfl,hb4⟩,rfl⟩⟩ rfl (by have hreach : reach = 140737488355328:=rfl; simp only [List.length_cons,List.length_nil]; omega) (by have hreach : reach = 140737488355328:=rfl; simp only [List.length_cons,List.length_nil]; omega) rfl rfl rfl (fun v5 o2 w6 hr3 hS8=>?_)
  have hS9:=hS8.tail
  refine Zj k1 (by have hreach : reach = 140737488355328:=rfl; omega) rfl rfl rfl ?_
  exact BK.mk' _ ⟨k1 + 1,v5,o2,G3,rfl,(hle2.trans hle3),hS9,(ZQ.cast hr3 (by (rw [Zmz ‹_›]))),⟨rfl,rfl,rfl,rfl,rfl,trivial⟩,(by omega)⟩ (show x.t.length - (k1 + 1) < x.t.length - k1 by omega)
 refine QN Zrc rfl rfl rfl (Zlq hS2.imm (Zbw (x.t.take k1)) _ _ hr1 (hS2.lentAt 0 rfl)) (fun w7 G4 r1 hres1 hpost1=>?_)
 have hle4:=hres1.le
 obtain ⟨rfl,l1,o3,hr4,hf1,hq1⟩:=hpost1
 have hS11:=hS2.callRow 0 rfl hres1 hr1 hr4 hf1
 refine QN Zrd rfl rfl rfl (Zij hS11.imm l1 _ _ hr4 (hS11.lentAt 0 rfl)) (fun w9 G5 r2 hres2 hpost2=>?_)
 have hle5:=hres2.le
 obtain ⟨o4,hr5,hf2,hq2⟩:=hpost2
 have hS13:=hS11.callRowR 0 rfl hres2 hr4 hr5 hf2 hq2
 refine WL.alloc hS13 YD rfl rfl (fun b3 w10 hn3 hS14=>?_)
 refine WL.alloc hS14 ZlU rfl rfl (fun b4 w11 hn4 hS15=>?_)
 refine WL.alloc hS15 Zn rfl rfl (fun b5 w12 hn5 hS16=>?_)
 refine WL.store hS16 0 _ _ _ 0 _ [.int .i64 0] [.int .i64 0] _ rfl rfl Zn rfl (Nat.le_of_ble_eq_true rfl) rfl rfl rfl rfl rfl rfl (fun w13 hS17=>?_)
 have hS18:=hS17.pad
 have hcut:=ZQ.cast (l':=Yg x.t) hr5 (by rw [hq1,ZjY]; exact Zsd (by omega))
 have hcl:=Zia x.t
 have hci:=ZnC hgood
 have bd2:=hcut.bound
 refine Xe hcut ZG rfl rfl ?_
 refine LP.go ft [] (fun m ρ1 w1=>∃ (k2 : Nat),∃ (nv : Value),∃ (nw : List Span),∃ (fr : Int),∃ (v6 : Value) (o5 : OB),∃ (G6 : GH),m = (Yg x.t).length - k2 ∧ G5.le G6 ∧ St w [] G G6 [o5,some (b5,3,[.int .i64 fr]),some (b4,71,[nv]),some (b3,26,[v6]),o4] w1 ∧ ZQ HRowE 56 37 G6 v6 ((YQ x.v (ZB x.t) ((Yg x.t).take k2)).out) o5 ∧ FR ρ1 [(1, .pointer (some p1)),(6, .pointer (some ⟨b3,0,none⟩)),(7, .pointer (some ⟨b4,0,none⟩)),(8, .pointer (some ⟨b5,0,none⟩)),(9, .func (.func 178) #[] #[.pointer (some ⟨b4,0,none⟩), .pointer (some ⟨b3,0,none⟩), .pointer (some p1), .pointer (some ⟨b5,0,none⟩)]),(37,r2),(38, .int .i64 (((Yg x.t).length : Nat) : Int)),(39, .int .i64 (k2 : Int))] ∧ k2 ≤ (Yg x.t).length ∧ Sl SpanE 16 G6 nv nw ∧ nw = (YQ x.v (ZB x.t) ((Yg x.t).take k2)).now ∧ fr = (YQ x.v (ZB x.t) ((Yg x.t).take k2)).fr ∧ Zz fr) _ ⟨0, .slice none 0 0,[],0,(.slice none 0 0),none,G5,rfl,(G5.le_refl),hS18,(ZQ.cast (ZQ.nil HRowE 56 37 G5) (by simp [YQ])),⟨rfl,rfl,rfl,rfl,rfl,rfl,rfl,rfl,trivial⟩,(by omega),(Sl.nil SpanE 16 G5),(by simp [YQ]),(by simp [YQ]),(ZO)⟩ ?_
 rintro m ρ1 w14 ⟨k2,nv,nw,fr,v6,o5,G6,rfl,hle6,hS19,hr6,hF9,f2,f3,f4,f5,f6⟩
 refine hF9.set ?_
 clear hF9
 have hnw:=(by assumption : nw = (YQ x.v (ZB x.t) ((Yg x.t).take k2)).now)
 have hfr:=(by assumption : fr = (YQ x.v (ZB x.t) ((Yg x.t).take k2)).fr)
 have hnb:=ZgQ (g:=x) hl k2
 have hnl : nw.length ≤ 2000:=by rw [hnw]; exact hnb.2
 refine Zl (k2 : Int) (((Yg x.t).length : Nat) : Int) rfl rfl rfl (fun h2=>?_) (fun h2=>?_)
 ·refine XR (hcut.mono hle6) k2 (by omega) ZG Zn rfl rfl rfl rfl (fun p3 x2 ec1 hx2 hr7 ra1=>?_)
  obtain ⟨rfl,hb5⟩:=hr7
  refine Zg3 ra1 hS19 4 rfl _ rfl Zn rfl rfl rfl ?_
  have hc64:=hci _ (List.mem_of_getElem? (by assumption : (Yg x.t)[k2]? = some _))
  refine Za hS19 (XV.drop 1 (hc1.mono (((hle2.trans hle4).trans hle5).trans hle6))) YD rfl rfl rfl ?_
  refine Z3 hS19 Zpy rfl rfl rfl (Zgf hS19.imm x.t x2 _ (hs2.mono ((((hle1.trans hle2).trans hle4).trans hle5).trans hle6)) hgood hl) (fun w15 G7 r3 hpost3 hS20 hle7=>?_)
  refine Ya hS20 2 _ _ _ 0 _ rfl rfl ZlU rfl rfl rfl ?_
  refine Zm hS20 Zpw rfl rfl rfl (Zeb hS20.imm nw (ZB x.t x2) _ (f3.mono hle7) _ hpost3) (fun w16 G9 hS21 hle9=>?_)
  refine WL.split (fun (h3 : (decide (nw = (ZB x.t x2))) = true)=>?_) (fun (h3 : (decide (nw = (ZB x.t x2))) = false)=>?_)
  ·refine Zj k2 (by have hreach : reach = 140737488355328:=rfl; omega) rfl rfl rfl ?_
   exact BK.mk' _ ⟨k2 + 1,nv,nw,fr,v6,o5,G9,rfl,(hle6.trans (hle7.trans hle9)),hS21,(ZQ.cast (hr6.mono (hle7.trans hle9)) (by (exact (congrArg NS.out (Zgd ‹_› (by rw [← hnw]; exact of_decide_eq_true ‹_›))).symm))),⟨rfl,rfl,rfl,rfl,rfl,rfl,rfl,rfl,trivial⟩,(by omega),((f3.mono (hle7.trans hle9))),(by (rw [Zgd ‹_› (by rw [← hnw]; exact of_decide_eq_true ‹_›)]; exact hnw)),(by (rw [Zgd ‹_› (by rw [← hnw]; exact of_decide_eq_true ‹_›)]; exact hfr)),‹_›⟩ (show (Yg x.t).length - (k2 + 1) < (Yg x.t).length - k2 by omega)
  have hP1 : St w [] G G9 [some (b4,71,[nv]),some (b3,26,[v6]),some (b5,3,[.int .i64 fr]),o5,o4] w16:=hS21.pick [2,3,1,0,4]
  refine Zcx [.int .i64 x2, .pointer (some ⟨b4,0,none⟩), .pointer (some ⟨b3,0,none⟩), .pointer (some p1), .pointer (some ⟨b5,0,none⟩)] #[.pointer (some ⟨b4,0,none⟩), .pointer (some ⟨b3,0,none⟩), .pointer (some p1), .pointer (some ⟨b5,0,none⟩)] ZuR rfl rfl rfl ((Zsi x.v fr x2 ((YQ x.v (ZB x.t) ((Yg x.t).take k2)).out) nw _ _ _ _ _ _ (f3.mono (hle7.trans hle9)) (hr6.mono (hle7.trans hle9)) hP1 _ (hs1.mono ((((((hle1.trans hle2).trans hle4).trans hle5).trans hle6).trans hle7).trans hle9)) _ _ (hc1.mono (((((hle2.trans hle4).trans hle5).trans hle6).trans hle7).trans hle9)) hc64 f6 (by omega)).mono ?_)
  rintro e14 w17 ⟨G10,v7,o6,rfl,hle10,hS22,hr8⟩
  refine ⟨_,rfl,?_⟩
  refine WL.store hS22 0 _ _ _ 0 _ [r3] [r3] _ rfl (hpost3.mono (hle9.trans hle10)).cells1 ZlU rfl (Nat.le_of_ble_eq_true rfl) (by simp only [List.all_cons,List.all_nil,(hpost3.mono (hle9.trans hle10)).oneC,Bool.true_and] <;> rfl) rfl rfl rfl rfl rfl (fun w18 hS23=>?_)
  refine WL.store hS23 2 _ _ _ 0 _ [.int .i64 x2] [.int .i64 x2] _ rfl rfl Zn rfl (Nat.le_of_ble_eq_true rfl) rfl rfl rfl rfl rfl rfl (fun w19 hS24=>?_)
  refine Zj k2 (by have hreach : reach = 140737488355328:=rfl; omega) rfl rfl rfl ?_
  have hP2 : St w [] G G10 [o6,some (b5,3,[.int .i64 x2]),some (b4,71,[r3]),some (b3,26,[v7]),o4] w19:=hS24.pick [3,2,0,1,4]
  exact BK.mk' _ ⟨k2 + 1,r3,ZB x.t x2,x2,v7,o6,G10,rfl,(hle6.trans ((hle7.trans hle9).trans hle10)),hP2,(ZQ.cast hr8 (by ((rw [Zh9 ‹_› (by rw [← hnw]; exact of_decide_eq_false ‹_›)]; simp only [hnw,hfr])))),⟨rfl,rfl,rfl,rfl,rfl,rfl,rfl,rfl,trivial⟩,(by omega),((hpost3.mono (hle9.trans hle10))),(by (rw [Zh9 ‹_› (by rw [← hnw]; exact of_decide_eq_false ‹_›)])),(by (rw [Zh9 ‹_› (by rw [← hnw]; exact of_decide_eq_false ‹_›)])),‹_›⟩ (show (Yg x.t).length - (k2 + 1) < (Yg x.t).length - k2 by omega)
 refine Ya hS19 3 _ _ _ 0 _ rfl rfl YD rfl rfl rfl ?_
 obtain ⟨G11,hle11,hs4,hS25⟩:=ZQ.freeze hr6 hS19 0 rfl
 exact RT hS25 rfl (Sl.cast hs4 (by exact ZnD (by omega)))
end Go.Civ
set_option linter.unusedVariables false
set_option linter.unusedSimpArgs false
set_option maxRecDepth 100000
set_option maxHeartbeats 4000000
namespace Go.Civ
open Go.Proofs
theorem ZmG {G : GH} {w : World} (hG : G.In w) (x y : Val) (cx : List Value) (hcx : ValE.rep G x cx) (cy : List Value) (hcy : ValE.rep G y cy) : CL Tryz.prog (nat_lit 213) #[.agg cx.toArray, .agg cy.toArray] [] w G fun _ _ r=>r = .int .i64 (cmpV x y):=by
 refine Zg ft [] Tryz.func213 rfl rfl ?_
 have hS:=St.start (X:=[]) hG
 obtain ⟨rfl,hb1,hb2,hb3⟩:=Yr hcx
 obtain ⟨rfl,hb4,hb5,hb6⟩:=Yr hcy
 refine Zu [.int .i64 x.k, .int .i64 x.n,Zd x.s] _ hS rfl rfl rfl (fun p1 w1 G1 hle1 hsp1 hc1 hS1=>?_)
 refine Zu [.int .i64 y.k, .int .i64 y.n,Zd y.s] _ hS1 rfl rfl rfl (fun p2 w2 G2 hle2 hsp2 hc2 hS2=>?_)
 refine Za hS2 (XV.drop 0 (hc1.mono hle2)) Zn rfl rfl rfl <| Za hS2 (XV.drop 0 hc2) Zn rfl rfl rfl ?_
 refine YO x.k y.k rfl rfl rfl (fun h1=>?_) (fun h1=>?_)
 ·refine Za hS2 (XV.drop 0 (hc1.mono hle2)) Zn rfl rfl rfl <| Za hS2 (XV.drop 0 hc2) Zn rfl rfl rfl ?_
  refine Zm hS2 ZdN rfl rfl rfl (Zc9 hS2.imm x.k y.k) (fun w3 G3 hS3 hle3=>?_)
  exact RI hS3 rfl (by exact (Ztr ‹_›).symm)
 refine Za hS2 (XV.drop 1 (hc1.mono hle2)) Zn rfl rfl rfl <| Za hS2 (XV.drop 1 hc2) Zn rfl rfl rfl ?_
 refine YO x.n y.n rfl rfl rfl (fun h2=>?_) (fun h2=>?_)
 ·refine Za hS2 (XV.drop 1 (hc1.mono hle2)) Zn rfl rfl rfl <| Za hS2 (XV.drop 1 hc2) Zn rfl rfl rfl ?_
  refine Zm hS2 ZdN rfl rfl rfl (Zc9 hS2.imm x.n y.n) (fun w4 G4 hS4 hle4=>?_)
  exact RI hS4 rfl (by exact (Zts ‹_› ‹_›).symm)
 refine LP.go ft [] (fun m ρ1 w1=>∃ (k1 : Nat),∃ (G5 : GH),m = x.s.length - k1 ∧ G2.le G5 ∧ St w [] G G5 [] w1 ∧ FR ρ1 [(2, .pointer (some p1)),(3, .pointer (some p2)),(5, .int .i64 (k1 : Int))] ∧ k1 ≤ x.s.length ∧ ∀ j,j < k1 → ∀ c d,x.s[j]? = some c → y.s[j]? = some d → c = d) _ ⟨0,G2,rfl,(G2.le_refl),hS2,⟨rfl,rfl,rfl,trivial⟩,(by omega),(by intro j hj; omega)⟩ ?_
 rintro m ρ1 w5 ⟨k1,G5,rfl,hle5,hS5,hF9,f1,f2⟩
 refine hF9.set ?_
 clear hF9
 refine Za hS5 (XV.drop 2 (hc1.mono (hle2.trans hle5))) Yv rfl rfl rfl <| XY x.s ul9 rfl rfl ?_
 refine Zl (k1 : Int) (x.s.length : Int) rfl rfl rfl (fun h3=>?_) (fun h3=>?_)
 ·refine Za hS5 (XV.drop 2 (hc2.mono hle5)) Yv rfl rfl rfl <| XY y.s ul9 rfl rfl ?_
  refine Zl (k1 : Int) (y.s.length : Int) rfl rfl rfl (fun h4=>?_) (fun h4=>?_)
  ·obtain ⟨c1,hx1⟩ : ∃ c,x.s[k1]? = some c:=⟨_,List.getElem?_eq_getElem (by omega)⟩
   obtain ⟨c2,hx2⟩ : ∃ c,y.s[k1]? = some c:=⟨_,List.getElem?_eq_getElem (by omega)⟩
   rcases Cmp.dec .neq (c1.toNat : Int) (c2.toNat : Int) with ⟨hb7,q1⟩ | ⟨hb7,q1⟩
   ·have h5 : (c1.toNat : Int) ≠ (c2.toNat : Int):=q1
    clear q1
    refine dr [] [(41,Zd x.s),(43, .int .u8 (c1.toNat : Int)),(45,Zd y.s),(47, .int .u8 (c2.toNat : Int)),(48, .bool true)] hS5 ⟨fun _ hSw=>Za hSw (XV.drop 2 (hc1.mono (hle2.trans hle5))) Yv rfl rfl rfl <| nu rfl rfl,fun _=>QE x.s k1 c1 hx1 ul9 rfl rfl rfl <| nu rfl rfl,fun _ hSw=>Za hSw (XV.drop 2 (hc2.mono hle5)) Yv rfl rfl rfl <| nu rfl rfl,fun _=>QE y.s k1 c2 hx2 ul9 rfl rfl rfl <| nu rfl rfl,fun _=>WL.cmpV .neq rfl .u8 (c1.toNat : Int) (c2.toNat : Int) _ hb7 rfl rfl rfl <| nu rfl rfl,trivial⟩ (fun w6 hS6=>?_)
    obtain ⟨c3,hx3⟩ : ∃ c,x.s[k1]? = some c:=⟨_,List.getElem?_eq_getElem (by omega)⟩
    obtain rfl : c1 = c3:=Option.some.inj (hx1.symm.trans hx3)
    obtain ⟨c4,hx4⟩ : ∃ c,y.s[k1]? = some c:=⟨_,List.getElem?_eq_getElem (by omega)⟩
    obtain rfl : c2 = c4:=Option.some.inj (hx2.symm.trans hx4)
    refine dr [(11,false)] [(50,Zd x.s),(52, .int .u8 (c1.toNat : Int)),(53, .int .i64 (c1.toNat : Int)),(55,Zd y.s),(57, .int .u8 (c2.toNat : Int)),(58, .int .i64 (c2.toNat : Int)),(59, .int .i64 (Yk (c1.toNat : Int) (c2.toNat : Int)))] hS6 ⟨fun _ hSw=>Za hSw (XV.drop 2 (hc1.mono (hle2.trans hle5))) Yv rfl rfl rfl <| nu rfl rfl,fun _=>QE x.s k1 c1 hx1 ul9 rfl rfl rfl <| nu rfl rfl,fun _=>Zjm (c1.toNat : Int) ul5 ul3 (ZsH c1) rfl rfl <| nu rfl rfl,fun _ hSw=>Za hSw (XV.drop 2 (hc2.mono hle5)) Yv rfl rfl rfl <| nu rfl rfl,fun _=>QE y.s k1 c2 hx2 ul9 rfl rfl rfl <| nu rfl rfl,fun _=>Zjm (c2.toNat : Int) ul5 ul3 (ZsH c2) rfl rfl <| nu rfl rfl,fun _ hSw=>Z4 hSw ZdN rfl rfl rfl (Zc9 hSw.imm (c1.toNat : Int) (c2.toNat : Int)) rfl,trivial⟩ (fun w7 hS7=>?_)
    exact RI hS7 rfl (by (rw [ZjI ‹_› ‹_›]; first | exact (Zfx ‹_› ‹_› ‹_› ‹_›).symm | exact (ZdR ‹_› (by omega)).symm))
   have h5 : (c1.toNat : Int) = (c2.toNat : Int):=q1
   clear q1
   refine dr [] [(41,Zd x.s),(43, .int .u8 (c1.toNat : Int)),(45,Zd y.s),(47, .int .u8 (c2.toNat : Int)),(48, .bool false)] hS5 ⟨fun _ hSw=>Za hSw (XV.drop 2 (hc1.mono (hle2.trans hle5))) Yv rfl rfl rfl <| nu rfl rfl,fun _=>QE x.s k1 c1 hx1 ul9 rfl rfl rfl <| nu rfl rfl,fun _ hSw=>Za hSw (XV.drop 2 (hc2.mono hle5)) Yv rfl rfl rfl <| nu rfl rfl,fun _=>QE y.s k1 c2 hx2 ul9 rfl rfl rfl <| nu rfl rfl,fun _=>WL.cmpV .neq rfl .u8 (c1.toNat : Int) (c2.toNat : Int) _ hb7 rfl rfl rfl <| nu rfl rfl,trivial⟩ (fun w9 hS8=>?_)
   refine Zj k1 (by have hreach : reach = 140737488355328:=rfl; omega) rfl rfl rfl ?_
   exact BK.mk' _ ⟨k1 + 1,G5,rfl,hle5,hS8,⟨rfl,rfl,rfl,trivial⟩,(by omega),(by exact Qg ‹_› ‹_› ‹_› (Zvc ‹_›))⟩ (show x.s.length - (k1 + 1) < x.s.length - k1 by omega)
  refine Za hS5 (XV.drop 2 (hc1.mono (hle2.trans hle5))) Yv rfl rfl rfl <| XY x.s ul9 rfl rfl <| Za hS5 (XV.drop 2 (hc2.mono hle5)) Yv rfl rfl rfl <| XY y.s ul9 rfl rfl ?_
  refine Zm hS5 ZdN rfl rfl rfl (Zc9 hS5.imm (x.s.length : Int) (y.s.length : Int)) (fun w10 G6 hS9 hle6=>?_)
  exact RI hS9 rfl (by (rw [ZjI ‹_› ‹_›]; first | exact (Zfx ‹_› ‹_› ‹_› ‹_›).symm | exact (ZdR ‹_› (by omega)).symm))
 refine Za hS5 (XV.drop 2 (hc1.mono (hle2.trans hle5))) Yv rfl rfl rfl <| XY x.s ul9 rfl rfl <| Za hS5 (XV.drop 2 (hc2.mono hle5)) Yv rfl rfl rfl <| XY y.s ul9 rfl rfl ?_
 refine Zm hS5 ZdN rfl rfl rfl (Zc9 hS5.imm (x.s.length : Int) (y.s.length : Int)) (fun w11 G7 hS10 hle7=>?_)
 exact RI hS10 rfl (by (rw [ZjI ‹_› ‹_›]; first | exact (Zfx ‹_› ‹_› ‹_› ‹_›).symm | exact (ZdR ‹_› (by omega)).symm))
theorem Zba {G : GH} {w : World} (hG : G.In w) (a b : List Val) (va : Value) (hva : Sl ValE 32 G va a) (vb : Value) (hvb : Sl ValE 32 G vb b) : CL Tryz.prog (nat_lit 179) #[va,vb] [] w G fun _ _ r=>r = .int .i64 (ZC cmpV a b):=by
 refine Zg ft [] Tryz.func179 rfl rfl ?_
 have hS:=St.start (X:=[]) hG
 refine LP.go ft [] (fun m ρ1 w1=>∃ (k1 : Nat),∃ (G1 : GH),m = a.length - k1 ∧ G.le G1 ∧ St w [] G G1 [] w1 ∧ FR ρ1 [(0,va),(1,vb),(5, .int .i64 (k1 : Int))] ∧ k1 ≤ a.length ∧ ∀ j,j < k1 → ∀ x y,a[j]? = some x → b[j]? = some y → cmpV x y = 0) _ ⟨0,G,rfl,(G.le_refl),hS,⟨rfl,rfl,rfl,trivial⟩,(by omega),(by intro j hj; omega)⟩ ?_
 rintro m ρ1 w1 ⟨k1,G1,rfl,hle1,hS1,hF9,f1,f2⟩
 refine hF9.set ?_
 clear hF9
 have bd1:=hva.bound
 refine Zi (hva.mono hle1) Yl rfl rfl ?_
 refine Zl (k1 : Int) (a.length : Int) rfl rfl rfl (fun h1=>?_) (fun h1=>?_)
 ·have bd2:=hvb.bound
  refine Zi (hvb.mono hle1) Yl rfl rfl ?_
  refine Zl (k1 : Int) (b.length : Int) rfl rfl rfl (fun h2=>?_) (fun h2=>?_)
  ·obtain ⟨p1,x1,hx1,he1,ep1⟩:=Sl.at (hva.mono hle1) k1 (by omega)
   obtain ⟨cs1,hc1,hr1⟩:=he1
   obtain ⟨rfl,hb1,hb2,hb3⟩:=Yr hr1
   obtain ⟨p2,x2,hx2,he2,ep2⟩:=Sl.at (hvb.mono hle1) k1 (by omega)
   obtain ⟨cs2,hc2,hr2⟩:=he2
   obtain ⟨rfl,hb4,hb5,hb6⟩:=Yr hr2
   refine dr [(9,false)] [(21, .pointer (some p1)),(22, .agg #[.int .i64 x1.k, .int .i64 x1.n,Zd x1.s]),(25, .pointer (some p2)),(26, .agg #[.int .i64 x2.k, .int .i64 x2.n,Zd x2.s]),(27, .int .i64 (cmpV x1 x2))] hS1 ⟨fun _=>Ze k1 ep1 Yl ZW rfl rfl rfl rfl <| nu rfl rfl,fun _ hSw=>Zc hSw hc1 [.int .i64 x1.k, .int .i64 x1.n,Zd x1.s] ZW rfl rfl rfl rfl rfl <| nu rfl rfl,fun _=>Ze k1 ep2 Yl ZW rfl rfl rfl rfl <| nu rfl rfl,fun _ hSw=>Zc hSw hc2 [.int .i64 x2.k, .int .i64 x2.n,Zd x2.s] ZW rfl rfl rfl rfl rfl <| nu rfl rfl,fun _ hSw=>Z4 hSw Zva rfl rfl rfl (ZmG hSw.imm x1 x2 _ (Qu x1 hb1 hb2 hb3) _ (Qu x2 hb4 hb5 hb6)) rfl,trivial⟩ (fun w2 hS2=>?_)
   refine YO (cmpV x1 x2) 0 rfl rfl rfl (fun h3=>?_) (fun h3=>?_)
   ·exact RI hS2 rfl (by exact (Zhz ‹_› ‹_› ‹_› ‹_›).symm)
   refine Zj k1 (by have hreach : reach = 140737488355328:=rfl; omega) rfl rfl rfl ?_
   exact BK.mk' _ ⟨k1 + 1,G1,rfl,hle1,hS2,⟨rfl,rfl,rfl,trivial⟩,(by omega),(by exact Qg ‹_› ‹_› ‹_› ‹_›)⟩ (show a.length - (k1 + 1) < a.length - k1 by omega)
  have bd3:=hva.bound
  refine Zi (hva.mono hle1) Yl rfl rfl ?_
  have bd4:=hvb.bound
  refine Zi (hvb.mono hle1) Yl rfl rfl ?_
  refine Zm hS1 ZdN rfl rfl rfl (Zc9 hS1.imm (a.length : Int) (b.length : Int)) (fun w3 G2 hS3 hle2=>?_)
  exact RI hS3 rfl (by exact (ZhX ‹_› (by omega)).symm)
 have bd5:=hva.bound
 refine Zi (hva.mono hle1) Yl rfl rfl ?_
 have bd6:=hvb.bound
 refine Zi (hvb.mono hle1) Yl rfl rfl ?_
 refine Zm hS1 ZdN rfl rfl rfl (Zc9 hS1.imm (a.length : Int) (b.length : Int)) (fun w4 G3 hS4 hle3=>?_)
 exact RI hS4 rfl (by exact (ZhX ‹_› (by omega)).symm)
end Go.Civ
