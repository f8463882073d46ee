/- Lemmas. -/
import Derived.Test.YthgeclodflmiaaaGreatP12
import Derived.Test.YthgeclodflmiaaaGreatP16
import Derived.Test.YthgeclodflmiaaaGreatP21
import Derived.Test.YthgeclodflmiaaaGreatP23
import Derived.Test.YthgeclodflmiaaaGreatP26
import Derived.Test.YthgeclodflmiaaaGreatP27
import Derived.Test.YthgeclodflmiaaaGreatP28
import Derived.Test.YthgeclodflmiaaaGreatP29
import Derived.Test.YthgeclodflmiaaaGreatP32
import Derived.Test.YthgeclodflmiaaaGreatP33
import Derived.Test.YthgeclodflmiaaaGreatProg
import Derived.KernelRfl
import Derived.WalkKit
set_option linter.unusedVariables false
namespace Go.Civ
open Go.Proofs Go.Shelf Go.RowKit Go.Lib Go.Sort
theorem ZqT {G : GH} {w : World} (hG : G.In w) (l : List Pt) (vd : Value) (od : OB) (hvd : ZS PtE 40 (nat_lit 105) G vd l od) (hod : QW w G od) (hV : VP l) :
  Calls Tryz.prog (nat_lit 116) #[vd, .func (.func 117) #[] #[]] w fun e w'=>∃ r G',e = .returned r ∧ Res (blk od) w G w' G' ∧ r = .tuple #[] ∧ ∃ (l' : List Pt) (o' : OB),ZS PtE 40 (nat_lit 105) G' vd l' o' ∧ QW w' G' o' ∧ (l'.Perm l ∧ l'.Pairwise fun x y=>¬ XR y x < 0):=
 Zk8 Tryz.sortPt (E:=PtE) (by decide) Tryz.isAgg105 Tryz.sizeOf105 XR (fun p=>p.v.all Z9 = true)
  (fun x hx=>by rw [Qo hx hx,Qu.refl]; omega)
  (fun x y z hx hy hz p q=>by rw [Qo hx hy] at p; rw [Qo hy hz] at q; rw [Qo hx hz]; exact Qu.trans _ _ _ p q)
  (fun x y z hx hy hz p q=>by rw [Qo hx hy] at p; rw [Qo hy hz] at q; rw [Qo hx hz]; exact Qu.le_trans q p)
  117 (enters_of Tryz.func117 (by kernel_rfl) rfl) hG (fun W hW x y cx cy hx hy rx ry=>ZfE hW x y cx rx cy ry)
  Zg8 _ (Xo (v:= .slice none 0 0) Zg8 ZN ZN (Sl.nil _ _ _)) rfl l hV vd od hvd hod
end Go.Civ
namespace Go.Civ
open Go.RowKit
set_option linter.unusedVariables false
def addN (out : VV) (m : List Val) : VV:=if out.any (fun l=>decide (l = m)) then out else out ++ [m]
section
variable {d : Nat} {c : Cond} {ns : List (List UInt8)} {set : List Val} {mask : List Bool} {b : VV}
end
section
variable {t : Table} {tx at_ later past : Int} {d : Span} {u : List Val}
end
end Go.Civ
namespace Go.Civ
theorem Znj (t : Table) (a x : Int) : (Zz t a x).length ≤ t.rows.length:=by
 unfold Zz
 split
 ·unfold QG
  rw [List.length_map]
  exact Nat.le_trans (List.length_filter_le _ _) Zbp
 ·exact Nat.zero_le _
section
variable {t : Table} {tx at_ later past : Int} {d : Span} {v : List Val} {b : VV} {k : Nat} {c : Cond} {ns : List (List UInt8)} {set : List Val} {mask : List Bool} {l : List Val}
end
end Go.Civ
namespace Go.Civ
open Go.RowKit
set_option linter.unusedVariables false
def Zhh (k : Nat) (v u : List Val) : Bool:=decide (u.take k = v.take k)
def ZaW (k : Nat) (v : List Val) (tx : Int) (d : Span) (r : HRow) : List HRow:=
 if r.r.x.b = 253402300800 ∧ Zhh k v r.v = true ∧ Yb 3 [r.r.d] [d] ≠ [r.r.d] then Xd r.v (Yb 3 [r.r.d] [d]) tx 253402300800 ++ [⟨r.v,⟨r.r.d,⟨r.r.x.a,tx⟩⟩⟩] else [r]
def Zcf (k : Nat) (l : List HRow) (tx : Int) (v : List Val) (d : Span) : List HRow:=⟨v,⟨d,⟨tx,253402300800⟩⟩⟩ :: l.flatMap (ZaW k v tx d)
theorem ZhP {p q : Span} (hp : p.a < p.b) (hq : q.a < q.b) : Yb 3 [p] [q] = [p] ↔ ¬ (p.a < q.b ∧ q.a < p.b):=by
 constructor
 ·intro e k
  have h:=Zj9 hp hq (a:=max p.a q.a)
  rw [e,XH] at h
  omega
 ·intro k
  have h:=Za7 (kind:=3) rfl (a:=[p]) (b:=[q]) (by simpa using hp) (by simpa using hq)
  refine Can.unique h.1 ⟨List.pairwise_singleton _ _,fun s hs=>by rw [List.mem_singleton.1 hs]; exact hp⟩ fun x=>?_
  rw [Zj9 hp hq,XH]
  constructor
  ·exact fun z=>z.1
  ·intro z; exact ⟨z,by omega⟩
section
variable {k : Nat} {l : List HRow} {tx : Int} {v u : List Val} {d : Span} {r : HRow} {a y : Int}
end
end Go.Civ
namespace Go.Civ
open Go.RowKit
set_option linter.unusedVariables false
theorem Znk {s : Schema} (h : Yl s = true) : 1 ≤ s.key ∧ s.key ≤ s.cols.length ∧ s.cols.length ≤ 8 ∧ QQ (s.cols.map Col.name) = true:=by
 unfold Yl XB at h
 simp only [Bool.and_eq_true,decide_eq_true_eq] at h
 obtain ⟨⟨⟨⟨⟨⟨_,h2⟩,h3⟩,h4⟩,h5⟩,h6⟩,h7⟩:=h.1
 exact ⟨h4,h5,h3,h7⟩
section
variable {cols : List Col} {v u : List Val}
end
section
variable {s : Schema} {v u : List Val} {k : Nat}
end
theorem Znl {hl : List Val → Bool} {nx : List Val → Option (List Val)} {tx : Int} {d : Span} {t : Table} (hc : ChgOk t tx d nx) (hn : ∀ r ∈ t.rows,∀ v,nx r.v = some v → Yz t.s v = 0) : ∀ q ∈ Zak hl nx tx d t.rows,Yu t.s tx q = true:=fun q hq=>by
 have hp:=Y3 hc.valid
 have hg:=(Zjx (hl:=hl) hc).1 q hq
 obtain ⟨r,hr,h⟩:=List.mem_flatMap.1 hq
 have hro:=hp.2.2.2.2.1 r hr
 obtain ⟨p1,p2,p3,p4⟩:=X4 hro
 have hla:=hc.late
 rcases ZmY h with h | ⟨h1,h2⟩ | ⟨h1,h2⟩
 ·rw [h]; exact Zj8 hro hla
 ·exact Zbr (by rw [h1]; exact p1) hg (by rw [h2]; simp only; omega) (by rw [h2]; simp only; omega)
 ·refine Zbr ?_ hg (by rw [h2]; exact Int.le_refl _) (by rw [h2]; exact .inr rfl)
  rcases h1 with h1 | h1
  ·rw [h1]; exact p1
  ·exact hn r hr _ h1
section
variable {k : Nat} {l : List HRow} {tx : Int} {v u : List Val} {d : Span} {r q : HRow} {a y : Int} {t : Table}
theorem Znm (hr : Yh r = true) (hd : ZC d = true) (h : q ∈ ZaW k v tx d r) : q ∈ ZaP (Zhh k v) (fun _=>none) tx d r:=by
 have hp:=Yp (ZU hr).2.1
 have hq:=Yp hd
 have ds:=ZhP hp hq
 by_cases hc : (Zcs d r && Zhh k v r.v) = true
 ·have hc' : Zcs d r = true ∧ Zhh k v r.v = true:=by simpa using hc
  obtain ⟨t1,t2,t3⟩:=ZhF.1 hc'.1
  unfold ZaW at h
  unfold ZaP
  rw [if_pos ⟨t1,hc'.2,fun e=>ds.1 e ⟨t2,t3⟩⟩] at h
  rw [if_pos hc]
  rcases List.mem_append.1 h with h | h
  ·simp [h]
  ·simp only [List.mem_append]; exact .inl (.inl h)
 ·unfold ZaW at h
  unfold ZaP
  rw [if_neg hc]
  rw [if_neg] at h
  ·exact h
  ·rintro ⟨z1,z2,z3⟩
   refine z3 (ds.2 fun z=>hc ?_)
   rw [z2,ZhF.2 ⟨z1,z.1,z.2⟩]; rfl
theorem ZqZ {rows : List HRow} : Zsi (fun _=>none) rows:=fun r hr v hv=>by cases hv
theorem Zra (H : InsOk t tx v d) : ChgOk t tx d (fun _=>none):=⟨H.valid,H.span,H.inst,H.late,ZqZ⟩
theorem Zrb (H : InsOk t tx v d) : Yu t.s tx ⟨v,⟨d,⟨tx,253402300800⟩⟩⟩ = true:=by
 have hb:=X3 H.inst
 refine Zbr H.row ?_ (Int.le_refl _) (.inr rfl)
 have:=H.span
 unfold Yh
 simp only [(QA H.row).2.1,H.span,Bool.true_and]
 unfold ZC
 simp; omega
theorem ZeD (H : InsOk t tx v d) : ∀ q ∈ Zcf k t.rows tx v d,Yu t.s tx q = true:=fun q hq=>by
 rcases List.mem_cons.1 hq with rfl | hq
 ·exact Zrb H
 ·obtain ⟨r,hr,h⟩:=List.mem_flatMap.1 hq
  exact Znl (hl:=Zhh k v) (Zra H) (fun _ _ _ h=>by cases h) q (List.mem_flatMap.2 ⟨r,hr,Znm ((ZE H.valid).1 r hr) H.span h⟩)
theorem Zph (H : InsOk t tx v d) : ZA (Zcf k t.rows tx v d):=fun q hq=>(X4 (ZeD H q hq)).2.1
theorem Znn (hr : Yh r = true) (hd : ZC d = true) : (ZaW k v tx d r).length ≤ 3:=by
 have hp:=Yp (ZU hr).2.1
 have hq:=Yp hd
 unfold ZaW
 split
 ·rename_i h
  have hov : r.r.d.a < d.b ∧ d.a < r.r.d.b:=by
   refine Classical.byContradiction fun z=>h.2.2 ((ZhP hp hq).2 z)
  have htc:=ZdA (ZU hr).2.1 hd hov.1 hov.2
  have hpl:=Zg2 r.r.d d
  have h2 : (Yb 3 [r.r.d] [d]).length ≤ 2:=by rw [htc]; exact hpl
  have hol : (Xd r.v (Yb 3 [r.r.d] [d]) tx 253402300800).length = (Yb 3 [r.r.d] [d]).length:=by unfold Xd; rw [List.length_map]
  rw [List.length_append,hol,List.length_singleton]; omega
 ·simp
theorem ZkA (hg : ZA l) (hd : ZC d = true) : ∀ n,((l.take n).flatMap (ZaW k v tx d)).length ≤ 3 * n
 | 0=>by simp
 | n + 1=>by
  have ih:=ZkA hg hd n
  rw [List.take_add_one,List.flatMap_append,List.length_append]
  cases e : l[n]? with
  | none=>simp only [Option.toList,List.flatMap_nil,List.length_nil]; omega
  | some r=>
   have:=Znn (k:=k) (v:=v) (tx:=tx) (hg r (List.mem_of_getElem? e)) hd
   simp only [Option.toList,List.flatMap_cons,List.flatMap_nil,List.append_nil]; omega
end
def Xp (t : Table) (tx : Int) (v : List Val) (d : Span) : List HRow:=Zcf t.s.key.toNat t.rows tx v d
def Yo (t : Table) (tx : Int) (v : List Val) (d : Span) : Table:=if YA t then (if Ym t tx v d = 0 then (if Qm (Xp t tx v d) = 0 then ⟨(ZI t tx v d).s,X8 (Xp t tx v d),(ZI t tx v d).last⟩ else noT) else noT) else noT
def ZbO (t : Table) (tx : Int) (v : List Val) (d : Span) : Int:=if YA t then (if Ym t tx v d = 0 then Qm (Xp t tx v d) else Ym t tx v d) else 1
section
variable {t : Table} {tx : Int} {v : List Val} {d : Span}
theorem ZpX (h : YA t = false) : noT = Yo t tx v d ∧ 1 = ZbO t tx v d:=by unfold Yo ZbO; rw [h]; exact ⟨rfl,rfl⟩
theorem ZpY (h : YA t = true) (h1 : Ym t tx v d ≠ 0) : noT = Yo t tx v d ∧ Ym t tx v d = ZbO t tx v d:=by unfold Yo ZbO; rw [h,if_pos rfl,if_pos rfl,if_neg h1,if_neg h1]; exact ⟨rfl,rfl⟩
theorem ZpZ (h : YA t = true) (h1 : Ym t tx v d = 0) (h2 : Qm (Xp t tx v d) ≠ 0) : noT = Yo t tx v d ∧ Qm (Xp t tx v d) = ZbO t tx v d:=by unfold Yo ZbO; rw [h,if_pos rfl,if_pos rfl,if_pos h1,if_pos h1,if_neg h2]; exact ⟨rfl,rfl⟩
theorem ZlN (h : YA t = true) (h1 : Ym t tx v d = 0) (h2 : Qm (Xp t tx v d) = 0) : (⟨(ZI t tx v d).s,X8 (Xp t tx v d),(ZI t tx v d).last⟩ : Table) = Yo t tx v d ∧ 0 = ZbO t tx v d:=by
 unfold Yo ZbO; rw [h,if_pos rfl,if_pos rfl,if_pos h1,if_pos h1,if_pos h2,h2]; exact ⟨rfl,rfl⟩
end
section
variable {t : Table} {tx : Int} {v u : List Val} {d : Span} {a y : Int}
structure MrgP (t : Table) (tx : Int) (v : List Val) (d : Span) : Prop where
 ins : InsOk t tx v d
 e : ZbO t tx v d = 0
 is : Yo t tx v d = ⟨t.s,ZO (Xp t tx v d),tx⟩
 valid : Zm (Yo t tx v d) = true
theorem Zno (hu : YA t = true) (h : Ym t tx v d = 0) (hl : (ZO (Xp t tx v d)).length ≤ 500) (hm : (Xp t tx v d).length ≤ 1000) : MrgP t tx v d:=by
 have H:=Ze2 h
 have hg:=Zph (k:=t.s.key.toNat) H
 have hE : Qm (Xp t tx v d) = 0 ∧ X8 (Xp t tx v d) = ZO (Xp t tx v d):=by
  have:=ZfB (l:=Xp t tx v d) (by omega) (ZoU hg) (by omega)
  exact ⟨this.2,this.1⟩
 have h4:=ZlN hu h hE.1
 have hs : (ZI t tx v d).s = t.s:=by rw [H.new.is]
 have hlast : (ZI t tx v d).last = tx:=by rw [H.new.is]
 have his : Yo t tx v d = ⟨t.s,ZO (Xp t tx v d),tx⟩:=by rw [← h4.1,hs,hlast,hE.2]
 refine ⟨H,h4.2.symm,his,?_⟩
 rw [his]
 exact (ZmX (Y3 H.valid).1 H.inst (ZeD H) hl).valid
end
end Go.Civ
namespace Go.Civ
open Go.RowKit
set_option linter.unusedVariables false
def XT (t : Table) (e : Int) : Table:=if e = 0 then (if (Zr t).isSome then noT else t) else noT
def ZbP (t : Table) (e : Int) : Int:=if e = 0 then (if (Zr t).isSome then 14 else 0) else e
section
variable {t : Table} {e : Int}
theorem Zqa (h : e ≠ 0) : noT = XT t e ∧ e = ZbP t e:=by unfold XT ZbP; rw [if_neg h,if_neg h]; exact ⟨rfl,rfl⟩
theorem Zqb (h : e = 0) (h2 : (Zr t).isSome = true) : noT = XT t e ∧ 14 = ZbP t e:=by unfold XT ZbP; rw [if_pos h,if_pos h,h2]; exact ⟨rfl,rfl⟩
theorem Zqc (h : e = 0) (h2 : (Zr t).isSome = false) : t = XT t e ∧ 0 = ZbP t e:=by unfold XT ZbP; rw [if_pos h,if_pos h,h2]; exact ⟨rfl,rfl⟩
end
def Zw (t : Table) (tx : Int) (v : List Val) (d : Span) : Table:=if YA t then XT (ZI t tx v d) (Ym t tx v d) else noT
def QF (t : Table) (tx : Int) (v : List Val) (d : Span) : Int:=if YA t then ZbP (ZI t tx v d) (Ym t tx v d) else 1
section
variable {t : Table} {tx : Int} {v set : List Val} {d : Span} {k : Nat} {c : Cond} {mask : List Bool}
theorem Znp (h : YA t = false) : noT = Zw t tx v d ∧ 1 = QF t tx v d:=by unfold Zw QF; rw [h]; exact ⟨rfl,rfl⟩
theorem ZgF (h : YA t = true) : XT (ZI t tx v d) (Ym t tx v d) = Zw t tx v d ∧ ZbP (ZI t tx v d) (Ym t tx v d) = QF t tx v d:=by unfold Zw QF; rw [h]; exact ⟨rfl,rfl⟩
theorem Znq (h : Ym t tx v d = 0) : Zm (ZI t tx v d) = true:=(Ze2 h).new.valid
end
theorem Znr {t : Table} (h : Zm t = false) : HRow.mk [] (Rect.mk (Span.mk 0 0) (Span.mk 0 0)) = Z8 t ∧ false = YA t:=by unfold Z8 YA; rw [h]; exact ⟨rfl,rfl⟩
theorem Zns {t : Table} (h : Zm t = true) (h2 : (Zr t).isSome = true) : Yt (some (ZD (Zr t))) = Z8 t ∧ false = YA t:=by
 unfold Z8 YA; rw [h]
 cases e : Zr t with
 | none=>rw [e] at h2; cases h2
 | some p=>exact ⟨rfl,rfl⟩
theorem Znt {t : Table} (h : Zm t = true) (h2 : (Zr t).isSome = false) : HRow.mk [] (Rect.mk (Span.mk 0 0) (Span.mk 0 0)) = Z8 t ∧ true = YA t:=by
 unfold Z8 YA; rw [h]
 cases e : Zr t with
 | none=>exact ⟨rfl,rfl⟩
 | some p=>rw [e] at h2; cases h2
theorem ZgG {t : Table} (hv : Zm t = true) (h : (Zr t).isSome = true) : ZB (ZD (Zr t)).tx = true ∧ ZB (ZD (Zr t)).vd = true:=by
 by_cases e : YX t.s.key.toNat t.rows = []
 ·rw [ZdE e] at h; cases h
 ·have hm:=Zcb (ZgA (k:=t.s.key.toNat) (ZE hv).1) e
  unfold Zr
  rw [Zcc e]
  have h9:=Ze8 hv hm.1
  exact h9
def Zf (nm : List UInt8) : List Val:=[⟨1,1,[]⟩,⟨2,0,nm⟩]
abbrev XX : Schema:=⟨[112,101,111,112,108,101],[⟨[105,100],1⟩,⟨[110,97,109,101],2⟩],1,[]⟩
def peopR : List HRow:=[⟨Zf [97],⟨⟨0,10⟩,⟨5,253402300800⟩⟩⟩]
def Zv : Table:=⟨XX,peopR,5⟩
def peopR2 : List HRow:=[⟨Zf [97],⟨⟨0,10⟩,⟨5,253402300800⟩⟩⟩,⟨Zf [98],⟨⟨5,20⟩,⟨6,253402300800⟩⟩⟩]
def peopR3 : List HRow:=[⟨Zf [97],⟨⟨0,10⟩,⟨5,6⟩⟩⟩,⟨Zf [97],⟨⟨0,5⟩,⟨6,253402300800⟩⟩⟩,⟨Zf [98],⟨⟨5,20⟩,⟨6,253402300800⟩⟩⟩]
theorem Zso : Yl XX = true:=by decide
theorem Zhi : Z2 XX = ⟨XX,[], -62135596801⟩ ∧ Zbq XX = 0:=ZoO Zso
theorem Zqd : Zm ⟨XX,[], -62135596801⟩ = true:=by rw [← Zhi.1]; exact ZlF Zso
theorem Zsp : ZO (Q1 ⟨XX,[], -62135596801⟩ 5 (Zf [97]) ⟨0,10⟩) = peopR:=by rw [Zdb (ZlG (by decide))]; decide
theorem ZkB : ZI ⟨XX,[], -62135596801⟩ 5 (Zf [97]) ⟨0,10⟩ = Zv ∧ Ym ⟨XX,[], -62135596801⟩ 5 (Zf [97]) ⟨0,10⟩ = 0:=by
 have h:=ZaV (t:=⟨XX,[], -62135596801⟩) (tx:=5) (v:=Zf [97]) (d:=⟨0,10⟩) (Zhd Zqd (by decide)) (by decide)
 rw [← h.1,← h.2]; unfold ZJ XO; rw [Zsp]; decide
theorem Zsq : YA ⟨XX,[], -62135596801⟩ = true:=by unfold YA; rw [Zqd]; rfl
theorem Znu : Zr Zv = none:=ZdE (by decide)
theorem ZeE : Zw (Z2 XX) 5 (Zf [97]) ⟨0,10⟩ = Zv ∧ QF (Z2 XX) 5 (Zf [97]) ⟨0,10⟩ = 0:=by
 rw [Zhi.1]
 have h:=ZgF (t:=⟨XX,[], -62135596801⟩) (tx:=5) (v:=Zf [97]) (d:=⟨0,10⟩) Zsq
 rw [← h.1,← h.2,ZkB.1,ZkB.2]
 unfold XT ZbP; rw [Znu]; exact ⟨rfl,rfl⟩
theorem Zqe : Zm Zv = true:=by rw [← Zm4]; decide
theorem Znv : YA Zv = true:=by unfold YA; rw [Zqe,Znu]; rfl
theorem Zsr : ZO (Q1 Zv 6 (Zf [98]) ⟨5,20⟩) = peopR2:=by rw [Zdb (ZlG (by decide))]; decide
theorem ZfG : ZI Zv 6 (Zf [98]) ⟨5,20⟩ = ⟨XX,peopR2,6⟩ ∧ Ym Zv 6 (Zf [98]) ⟨5,20⟩ = 0:=by
 have h:=ZaV (t:=Zv) (tx:=6) (v:=Zf [98]) (d:=⟨5,20⟩) (Zhd Zqe (by decide)) (by decide)
 rw [← h.1,← h.2]; unfold ZJ XO; rw [Zsr]; decide
theorem Zss : (Zr ⟨XX,peopR2,6⟩).isSome = true:=by unfold Zr; rw [Zcc (by decide)]; rfl
theorem Zst : QF Zv 6 (Zf [98]) ⟨5,20⟩ = 14:=by
 have h:=ZgF (t:=Zv) (tx:=6) (v:=Zf [98]) (d:=⟨5,20⟩) Znv
 rw [← h.2,ZfG.1,ZfG.2]
 unfold ZbP; rw [Zss]; rfl
theorem Znw : ZO (Xp Zv 6 (Zf [98]) ⟨5,20⟩) = peopR3:=by unfold Xp; rw [Zdb (ZlG (by decide))]; decide
theorem ZlO : MrgP Zv 6 (Zf [98]) ⟨5,20⟩:=Zno Znv ZfG.2 (by rw [Znw]; decide) (by decide)
theorem Zsu : Yo Zv 6 (Zf [98]) ⟨5,20⟩ = ⟨XX,peopR3,6⟩:=by rw [ZlO.is,Znw]; rfl
theorem ZjI : X1 (Yo Zv 6 (Zf [98]) ⟨5,20⟩) 6 = [⟨Zf [97],⟨0,5⟩⟩,⟨Zf [98],⟨5,20⟩⟩]:=by
 rw [Zsl ZlO.valid (by decide),Zsu]; decide
theorem Zrc : (((X1 (Yo Zv 6 (Zf [98]) ⟨5,20⟩) 6).length : Nat) : Int) = 2:=by rw [ZjI]; rfl
theorem Ztx {x : Fact} (h : (X1 (Yo Zv 6 (Zf [98]) ⟨5,20⟩) 6)[0]? = some x) : x.t = ⟨0,5⟩:=by rw [ZjI] at h; obtain rfl:=Option.some.inj h; rfl
theorem Zty {x : Fact} (h : (X1 (Yo Zv 6 (Zf [98]) ⟨5,20⟩) 6)[1]? = some x) : x.t = ⟨5,20⟩:=by rw [ZjI] at h; obtain rfl:=Option.some.inj h; rfl
end Go.Civ
namespace Go.Civ
open Go.RowKit
set_option linter.unusedVariables false
def QR (K : Nat) (l : List HRow) (tx : Int) (v : List Val) (d : Span) (k : Nat) : List HRow:=⟨v,⟨d,⟨tx,253402300800⟩⟩⟩ :: (l.take k).flatMap (ZaW K v tx d)
section
variable {K k : Nat} {l : List HRow} {tx : Int} {v : List Val} {d : Span} {r : HRow}
theorem ZgH (h : l[k]? = some r) : QR K l tx v d (k + 1) = QR K l tx v d k ++ ZaW K v tx d r:=by
 unfold QR
 rw [List.take_add_one,h]; simp
theorem Zbt (h : l[k]? = some r) (hc : r.r.x.b ≠ 253402300800 ∨ decide (r.v.take K = v.take K) = false ∨ decide (Yb 3 [r.r.d] [d] = [r.r.d]) = true) : QR K l tx v d (k + 1) = QR K l tx v d k ++ [r]:=by
 rw [ZgH h]
 unfold ZaW
 rw [if_neg]
 rintro ⟨z1,z2,z3⟩
 rcases hc with hc | hc | hc
 ·exact hc z1
 ·unfold Zhh at z2; rw [z2] at hc; cases hc
 ·exact z3 (of_decide_eq_true hc)
theorem ZhQ (h : l[k]? = some r) (h1 : r.r.x.b = 253402300800) (h2 : decide (r.v.take K = v.take K) = true) (h3 : decide (Yb 3 [r.r.d] [d] = [r.r.d]) = false) :
  QR K l tx v d (k + 1) = (QR K l tx v d k ++ Xd r.v (Yb 3 [r.r.d] [d]) tx 253402300800) ++ [⟨r.v,⟨r.r.d,⟨r.r.x.a,tx⟩⟩⟩]:=by
 rw [ZgH h,List.append_assoc]
 unfold ZaW
 rw [if_pos ⟨h1,h2,of_decide_eq_false h3⟩]
theorem Znx (h : l.length ≤ k) : QR K l tx v d k = Zcf K l tx v d:=by unfold QR Zcf; rw [List.take_of_length_le h]
theorem Zny (hg : ZA l) (hd : ZC d = true) : (QR K l tx v d k).length ≤ 3 * k + 1:=by
 unfold QR
 rw [List.length_cons]
 have:=ZkA (k:=K) (v:=v) (tx:=tx) hg hd k
 omega
theorem Zpi {r : HRow} (hr : Yh r = true) (hd : ZC d = true) : (Yb 3 [r.r.d] [d]).length ≤ 4:=by
 have h:=Zez (kind:=3) (a:=[r.r.d]) (b:=[d])
 simpa using h
theorem Zpj {α : Type} {l : List α} {x : α} (h : l[k]? = some x) : l.set k x = l:=by
 obtain ⟨h1,h2⟩:=List.getElem?_eq_some_iff.1 h
 rw [← h2]; exact List.set_getElem_self h1
theorem Zpk {t : Table} (H : InsOk t tx v d) : t.s.key ≤ v.length:=by
 have h1:=QA H.row
 have h2:=Znk (Y3 H.valid).1
 omega
theorem Zsv {t : Table} (H : InsOk t tx v d) : ∀ r ∈ Zcf K t.rows tx v d,r.v.length ≤ 1000:=fun r hr=>by
 have h:=ZeD H r hr
 exact Nat.le_trans (QA (X4 h).1).1 (by decide)
end
end Go.Civ
namespace Go.Civ
open Go.RowKit
set_option linter.unusedVariables false
def ZgI (x : HRow) : Bool:=decide (20 < (x.v.length : Int))
def Xq (t : Table) : Bool:=decide ((t.rows.length : Int) ≤ 24) && decide ((t.s.cols.length : Int) ≤ 10) && decide ((t.s.fks.length : Int) ≤ 10) && !t.rows.any ZgI
theorem Zre : Cmp.b .eql (((Zw (Z2 XX) 5 (Zf [97]) ⟨0,10⟩).rows.length : Nat) : Int) 1 = true:=by rw [ZeE.1]; rfl
theorem ZdH {t : Table} (h : Xq t = true) : t.rows.length ≤ 24 ∧ ∀ r ∈ t.rows,r.v.length ≤ 20:=by
 unfold Xq at h
 simp only [Bool.and_eq_true,decide_eq_true_eq,Bool.not_eq_true',List.any_eq_false] at h
 refine ⟨by omega,fun r hr=>?_⟩
 have:=h.2 r hr
 unfold ZgI at this
 simp only [decide_eq_true_eq] at this
 omega
end Go.Civ
set_option linter.unusedVariables false
set_option linter.unusedSimpArgs false
set_option maxRecDepth 100000
set_option maxHeartbeats 4000000
namespace Go.Civ
open Go.Proofs
theorem ZkD {G : GH} {w : World} (hG : G.In w) (x : Int) : CL Tryz.prog (nat_lit 34) #[.int .i64 x] [] w G fun _ _ r=>r = .bool (ZB x):=by
 refine Zg ft [] Tryz.func34 rfl rfl ?_
 have hS:=St.start (X:=[]) hG
 refine XJ x (-62135596800) rfl rfl rfl (fun h1=>?_) (fun h1=>?_)
 ·refine ZY .lss rfl .i64 x 253402300800 rfl rfl rfl ?_
  exact RB hS rfl (by unfold ZB; simp_all [Cmp.b] <;> (first | omega | (intros; omega) | (rw [Bool.eq_iff_iff]; simp <;> omega) | (rw [Bool.eq_iff_iff]; simp_all <;> omega)))
 exact RB hS rfl (by unfold ZB; simp_all [Cmp.b] <;> (omega))
end Go.Civ
namespace Go.Civ
open Go.RowKit
set_option linter.unusedVariables false
section
variable {s t o : Schema} {f : Foreign} {cs : List (List UInt8)} {c nm : List UInt8} {v u : List Val} {k : Nat} {x : Col}
theorem ZeJ {a : Val} (h : cs[k]? = some c) (h1 : v[(Yy (s.cols.map Col.name) c).toNat]? = some a) : YY s (cs.take (k + 1)) v = YY s (cs.take k) v ++ [a]:=by
 unfold YY
 rw [List.take_add_one,h]; simp [ZdL h1]
theorem ZfK (cs : List (List UInt8)) (k : Nat) : (YY s (cs.take k) v).length ≤ cs.length:=by unfold YY; rw [List.length_map]; exact List.length_take_le' _ _
theorem Zs1 {k : Nat} (h : ∀ j,j < k → ∀ x,s.cols[j]? = some x → decide (x.name = nm) = false) (hx : s.cols[k]? = some x) (e : x.name = nm) : (k : Int) = Yy (s.cols.map Col.name) nm:=by
 refine (QU (p:=fun x=>decide (x = nm)) k (l:=s.cols.map Col.name) (x:=x.name) ?_ ?_ ?_).symm
 ·rw [List.getElem?_map,hx]; rfl
 ·exact decide_eq_true e
 ·intro j hj y hy
  rw [List.getElem?_map] at hy
  obtain ⟨z,hz,rfl⟩:=Option.map_eq_some_iff.1 hy
  exact h j hj z hz
theorem Zs2 {k : Nat} (h : ∀ j,j < k → ∀ x,s.cols[j]? = some x → decide (x.name = nm) = false) (hk : s.cols.length ≤ k) : (-1 : Int) = Yy (s.cols.map Col.name) nm:=by
 refine (Q7 (p:=fun x=>decide (x = nm)) (l:=s.cols.map Col.name) (k:=k) (fun j hj y hy=>?_) (by rw [List.length_map]; exact hk)).symm
 rw [List.getElem?_map] at hy
 obtain ⟨z,hz,rfl⟩:=Option.map_eq_some_iff.1 hy
 exact h j hj z hz
theorem Zs3 {fs : List Foreign} {g : Foreign} {ow : Bool} (h : fs[k]? = some g) (h1 : g.table = f.table) (h2 : decide (g.cols = f.cols) = true) : true = (fs.take (k + 1)).any (fun g=>decide (g.table = f.table) && decide (g.cols = f.cols)):=by
 rw [List.take_add_one,h,List.any_append]; simp [h1,of_decide_eq_true h2]
theorem ZnI {fs : List Foreign} {g : Foreign} {ow : Bool} (h : fs[k]? = some g) (h0 : ow = (fs.take k).any (fun g=>decide (g.table = f.table) && decide (g.cols = f.cols))) (h1 : g.table ≠ f.table ∨ decide (g.cols = f.cols) = false) : ow = (fs.take (k + 1)).any (fun g=>decide (g.table = f.table) && decide (g.cols = f.cols)):=by
 rw [List.take_add_one,h,List.any_append,← h0]
 have : (decide (g.table = f.table) && decide (g.cols = f.cols)) = false:=by
  rcases h1 with h1 | h1
  ·rw [decide_eq_false h1]; rfl
  ·rw [h1]; simp
 simp [this]
end
section
variable {t o : Table} {f : Foreign} {x y fr : Int} {k i j : Nat} {v : List Val}
end
section
variable {M : List Val → List Val → Bool} {os fs : List Fact} {k : Nat} {x : Fact}
end
end Go.Civ
namespace Go.Civ
end Go.Civ
namespace Go.Civ
open Go.RowKit
set_option linter.unusedVariables false
theorem tf {b : Bool} {P : Prop} (h : b = true) (k : b = false) : P:=Bool.noConfusion (h.symm.trans k)
section
variable {t o : Table} {f : Foreign} {tx : Int} {v : List Val} {d : Span}
end
end Go.Civ
