/- Lemmas. -/
import Derived.Test.YthgeclodflmiaaaGreatN22
import Derived.Test.YthgeclodflmiaaaGreatN31
import Derived.Test.YthgeclodflmiaaaGreatN33
import Derived.Test.YthgeclodflmiaaaGreatProg
import Derived.KernelRfl
import Derived.WalkKit
namespace Go.Civ
open Go.RowKit
set_option linter.unusedVariables false
theorem Zt2 {s : List UInt8} (h : X5 s = true) : s ≠ []:=by rintro rfl; simp [X5] at h
theorem ZnE {l : List (List UInt8)} (h : Qc l = true) : ∀ s ∈ l,X5 s = true:=fun s hs=>by
 obtain ⟨i,hi⟩:=List.getElem?_of_mem hs
 unfold Qc at h
 rw [List.all_eq_true] at h
 have:=h (s,i) (List.mem_zipIdx_iff_getElem?.2 hi)
 unfold ZaK at this
 simp only [Bool.and_eq_true] at this
 exact this.1
theorem Zd8 {s : Schema} (h : YE s = true) : 1 ≤ s.key ∧ s.key ≤ s.cols.length ∧ s.cols.length ≤ 8 ∧ Qc (s.cols.map Col.name) = true:=by
 unfold YE XX at h
 simp only [Bool.and_eq_true,decide_eq_true_eq] at h
 obtain ⟨⟨⟨⟨⟨⟨_,h2⟩,h3⟩,h4⟩,h5⟩,h6⟩,h7⟩:=h.1
 exact ⟨h4,h5,h3,h7⟩
theorem Zt3 {s : Schema} (h : YE s = true) : s.key.toNat ≤ s.cols.length ∧ ((s.key.toNat : Nat) : Int) = s.key:=by
 obtain ⟨h1,h2,h3,_⟩:=Zd8 h
 omega
section
variable {cols : List Col} {v u : List Val}
theorem Zr3 {d : Nat} {c : Col} {x : Val} {dep : Int} (h1 : dep ≤ 12) (h2 : c.name ≠ []) (h3 : Zy x = true) : Y2 (d + 1) (eqC c x) dep = 1:=by
 have hp : ZD (eqC c x) = true:=by unfold ZD ZR eqC; simp [h2,h3]
 rw [Y2,if_neg (by omega),if_neg (by rw [hp]; simp)]; rfl
theorem Zjb (hn : ∀ c ∈ cols,c.name ≠ []) (hv : v.all Zy = true) : ∀ (k : Nat) (dep : Int),k ≤ cols.length → k ≤ v.length → 1 ≤ dep → dep + k ≤ 12 → Y2 (k + 1) (Qf cols v k) dep = 1 + 2 * (k : Int)
 | 0,dep,_,_,_,hd=>by
  have e : Qf cols v 0 = alwC:=rfl
  rw [e,Y2,if_neg (by omega),if_neg (by decide)]; rfl
 | k + 1,dep,h1,h2,h3,hd=>by
  have hc : cols[k]? = some cols[k]:=List.getElem?_eq_getElem (by omega)
  have hx : v[k]? = some v[k]:=List.getElem?_eq_getElem (by omega)
  have i1:=Zjb hn hv k (dep + 1) (by omega) (by omega) (by omega) (by omega)
  have i2:=Zr3 (d:=k) (c:=cols[k]) (x:=v[k]) (dep:=dep + 1) (by omega) (hn _ (List.getElem_mem _)) (List.all_eq_true.1 hv _ (List.getElem_mem _))
  rw [Zd7 hc hx,Y2,if_neg (by omega),if_neg (by unfold ZD ZR Y4 Zg8; simp [Ye])]
  show YM (fun x=>Y2 (k + 1) x (dep + 1)) [Qf cols v k,eqC cols[k] v[k]] 1 = _
  simp only [YM,i1,i2]
  rw [if_pos (by omega),if_pos (by omega)]
  omega
theorem Zjc (hd : Qc (cols.map Col.name) = true) (hk2 : ∀ (i : Nat) (x : Val) (c : Col),v[i]? = some x → cols[i]? = some c → x.k = c.kind) : ∀ (k : Nat),k ≤ cols.length → k ≤ v.length → YI (k + 1) (Qf cols v k) cols = 0
 | 0,_,_=>by
  have e : Qf cols v 0 = alwC:=rfl
  rw [e,YI,ZjV (by decide) (by decide)]; rfl
 | k + 1,h1,h2=>by
  have hc : cols[k]? = some cols[k]:=List.getElem?_eq_getElem (by omega)
  have hx : v[k]? = some v[k]:=List.getElem?_eq_getElem (by omega)
  have ih:=Zjc hd hk2 k (by omega) (by omega)
  have hf : Yb cols cols[k].name = (k : Int):=Zmg hd hc
  have t1 : Qy (eqC cols[k] v[k]) cols = 0:=by
   rw [ZgX (x:=cols[k]) (.inl rfl) (by show 0 ≤ Yb cols cols[k].name; rw [hf]; omega) rfl (by show cols[(Yb cols cols[k].name).toNat]? = _; rw [hf]; exact hc),if_neg]
   intro q; exact q (hk2 k _ _ hx hc)
  have t2 : YI (k + 1) (eqC cols[k] v[k]) cols = 0:=by rw [YI,t1]; rfl
  have t3 : Qy (Zg8 (Qf cols v k) (eqC cols[k] v[k])) cols = 0:=ZjV (by show (5 : Int) ≠ 1; decide) (by show (5 : Int) ≠ 2; decide)
  rw [Zd7 hc hx,YI,t3,if_neg (by simp)]
  show Za0 (fun x=>YI (k + 1) x cols) [Qf cols v k,eqC cols[k] v[k]] = 0
  simp only [Za0,ih,t2]; rfl
end
section
variable {s : Schema} {v u : List Val} {k : Nat}
theorem Zp1 (hv : YJ s v = 0) (hk : k ≤ s.cols.length) : XW (k + 1) (Qf s.cols v k) s.cols = 0:=by
 have hs:=(Zc8 hv).1
 obtain ⟨_,_,h3,h4⟩:=Zd8 hs
 obtain ⟨_,l2,l3,_⟩:=Qu hv
 have hn : ∀ c ∈ s.cols,c.name ≠ []:=fun c hc=>Zt2 (ZnE h4 _ (List.mem_map.2 ⟨c,hc,rfl⟩))
 have n:=Zjb hn l2 k 1 hk (by omega) (by omega) (by omega)
 have t:=Zjc (v:=v) h4 (fun i x c hx hc=>(of_decide_eq_true (ZkV (f:=fun (c : Col) (x : Val)=>decide (c.kind = x.k)) (Zc8 hv).2.2 hc hx)).symm) k hk (by omega)
 unfold XW
 rw [if_pos (by rw [n]; omega),t]
theorem Zr4 {a b : List Val} : (∀ i,i < k → a[i]? = b[i]?) ↔ a.take k = b.take k:=by
 constructor
 ·intro h
  apply List.ext_getElem?
  intro i
  rw [List.getElem?_take,List.getElem?_take]
  split
  ·exact h i ‹_›
  ·rfl
 ·intro h i hi
  have:=congrArg (fun (l : List Val)=>l[i]?) h
  simpa [List.getElem?_take,hi] using this
theorem Zr5 (hv : YJ s v = 0) (hu : YJ s u = 0) (hk : k ≤ s.cols.length) : X7 (k + 1) (Qf s.cols v k) (s.cols.map Col.name) u = Zad k v u:=by
 have lu:=Qu hu
 have lv:=Qu hv
 obtain ⟨_,_,h3,h4⟩:=Zd8 (Zc8 hu).1
 have e:=ZlS (Zr0 hu)
 rw [(ZhW e.symm (Zhp (by rw [List.length_map]; exact lu.2.2.1.symm) (by rw [List.length_map]; omega) lu.2.1) (Zp1 hv hk)).1]
 unfold Zad
 rw [Bool.eq_iff_iff,decide_eq_true_eq,ZkW h4 lu.2.2.1 k hk (by omega),Zr4]
end
theorem Zjd {hl : List Val → Bool} {nx : List Val → Option (List Val)} {tx : Int} {d : Span} {t : Table} (hc : ChgOk t tx d nx) (hn : ∀ r ∈ t.rows,∀ v,nx r.v = some v → YJ t.s v = 0) : ∀ q ∈ Yz hl nx tx d t.rows,YF t.s tx q = true:=fun q hq=>by
 have hp:=YZ hc.valid
 have hg:=(ZcT (hl:=hl) hc).1 q hq
 obtain ⟨r,hr,h⟩:=List.mem_flatMap.1 hq
 have hro:=hp.2.2.2.2.1 r hr
 obtain ⟨p1,p2,p3,p4⟩:=Xb hro
 have hla:=hc.late
 rcases Zpo h with h | ⟨h1,h2⟩ | ⟨h1,h2⟩
 ·rw [h]; exact ZkM hro hla
 ·exact ZbY (by rw [h1]; exact p1) hg (by rw [h2]; simp only; omega) (by rw [h2]; simp only; omega)
 ·refine ZbY ?_ hg (by rw [h2]; exact Int.le_refl _) (by rw [h2]; exact .inr rfl)
  rcases h1 with h1 | h1
  ·rw [h1]; exact p1
  ·exact hn r hr _ h1
section
variable {k : Nat} {l : List HRow} {tx : Int} {v u : List Val} {d : Span} {r q : HRow} {a y : Int} {t : Table}
theorem Zp2 (hr : Y0 r = true) (hd : ZC d = true) (h : q ∈ QB k v tx d r) : q ∈ Xm (Zad k v) (fun _=>none) tx d r:=by
 have hp:=Yx (ZY hr).2.1
 have hq:=Yx hd
 have ds:=Zf9 hp hq
 by_cases hc : (XY d r && Zad k v r.v) = true
 ·have hc' : XY d r = true ∧ Zad k v r.v = true:=by simpa using hc
  obtain ⟨t1,t2,t3⟩:=QU.1 hc'.1
  unfold QB at h
  unfold Xm
  rw [if_pos ⟨t1,hc'.2,fun e=>ds.1 e ⟨t2,t3⟩⟩] at h
  rw [if_pos hc]
  rcases List.mem_append.1 h with h | h
  ·simp [h]
  ·simp only [List.mem_append]; exact .inl (.inl h)
 ·unfold QB at h
  unfold Xm
  rw [if_neg hc]
  rw [if_neg] at h
  ·exact h
  ·rintro ⟨z1,z2,z3⟩
   refine z3 (ds.2 fun z=>hc ?_)
   rw [z2,QU.2 ⟨z1,z.1,z.2⟩]; rfl
theorem Zt4 {rows : List HRow} : ZuB (fun _=>none) rows:=fun r hr v hv=>by cases hv
theorem Zin (H : InsOk t tx v d) : ChgOk t tx d (fun _=>none):=⟨H.valid,H.span,H.inst,H.late,Zt4⟩
theorem Zmm (H : InsOk t tx v d) : YF t.s tx ⟨v,⟨d,⟨tx,253402300800⟩⟩⟩ = true:=by
 have hb:=Xp H.inst
 refine ZbY H.row ?_ (Int.le_refl _) (.inr rfl)
 have:=H.span
 unfold Y0
 simp only [(Qu H.row).2.1,H.span,Bool.true_and]
 unfold ZC
 simp; omega
theorem Zd9 (H : InsOk t tx v d) : ∀ q ∈ XE k t.rows tx v d,YF t.s tx q = true:=fun q hq=>by
 rcases List.mem_cons.1 hq with rfl | hq
 ·exact Zmm H
 ·obtain ⟨r,hr,h⟩:=List.mem_flatMap.1 hq
  exact Zjd (hl:=Zad k v) (Zin H) (fun _ _ _ h=>by cases h) q (List.mem_flatMap.2 ⟨r,hr,Zp2 ((ZS H.valid).1 r hr) H.span h⟩)
theorem Zbq (H : InsOk t tx v d) : ZA (XE k t.rows tx v d):=fun q hq=>(Xb (Zd9 H q hq)).2.1
theorem Zp3 (hr : Y0 r = true) (hd : ZC d = true) : (QB k v tx d r).length ≤ 3:=by
 have hp:=Yx (ZY hr).2.1
 have hq:=Yx hd
 unfold QB
 split
 ·rename_i h
  have hov : r.r.d.a < d.b ∧ d.a < r.r.d.b:=by
   refine Classical.byContradiction fun z=>h.2.2 ((Zf9 hp hq).2 z)
  have htc:=ZbF (ZY hr).2.1 hd hov.1 hov.2
  have hpl:=ZeD r.r.d d
  have h2 : (Yn 3 [r.r.d] [d]).length ≤ 2:=by rw [htc]; exact hpl
  have hol : (YD r.v (Yn 3 [r.r.d] [d]) tx 253402300800).length = (Yn 3 [r.r.d] [d]).length:=by unfold YD; rw [List.length_map]
  rw [List.length_append,hol,List.length_singleton]; omega
 ·simp
theorem Zio (hg : ZA l) (hd : ZC d = true) : ∀ n,((l.take n).flatMap (QB k v tx d)).length ≤ 3 * n
 | 0=>by simp
 | n + 1=>by
  have ih:=Zio hg hd n
  rw [List.take_add_one,List.flatMap_append,List.length_append]
  cases e : l[n]? with
  | none=>simp only [Option.toList,List.flatMap_nil,List.length_nil]; omega
  | some r=>
   have:=Zp3 (k:=k) (v:=v) (tx:=tx) (hg r (List.mem_of_getElem? e)) hd
   simp only [Option.toList,List.flatMap_cons,List.flatMap_nil,List.append_nil]; omega
theorem ZgE (hg : ZA l) (hd : ZC d = true) : (XE k l tx v d).length ≤ 3 * l.length + 1:=by
 have:=Zio (k:=k) (v:=v) (tx:=tx) hg hd l.length
 rw [List.take_length] at this
 unfold XE
 rw [List.length_cons]; omega
theorem ZdA (H : InsOk t tx v d) (hy : y < 253402300800) : YQ (XE k t.rows tx v d) u a y ↔ (YQ t.rows u a y ∧ (y < tx ∨ ¬ (d.a ≤ a ∧ a < d.b) ∨ Zad k v u = false)) ∨ (v = u ∧ d.a ≤ a ∧ a < d.b ∧ tx ≤ y):=by
 have hok:=YZ H.valid
 have htx:=Xp H.inst
 rw [Zmh (ZS H.valid).1 H.span,Zij]
 have e : (v = u ∧ d.a ≤ a ∧ a < d.b ∧ tx ≤ y ∧ y < 253402300800) ↔ (v = u ∧ d.a ≤ a ∧ a < d.b ∧ tx ≤ y):=⟨fun ⟨a,b,c,e,_⟩=>⟨a,b,c,e⟩,fun ⟨a,b,c,e⟩=>⟨a,b,c,e,hy⟩⟩
 rw [e]
 refine or_congr_left ?_
 rcases Int.lt_or_le y tx with z | z
 ·constructor
  ·rintro ⟨r,hr,h⟩
   obtain ⟨h1,h2⟩:=(ZeJ (hok.2.2.2.2.1 r hr) H.late htx.2 H.span z).1 h
   exact ⟨⟨r,hr,h1,h2⟩, .inl z⟩
  ·rintro ⟨⟨r,hr,h1,h2⟩,_⟩
   exact ⟨r,hr,(ZeJ (hok.2.2.2.2.1 r hr) H.late htx.2 H.span z).2 ⟨h1,h2⟩⟩
 ·constructor
  ·rintro ⟨r,hr,h⟩
   obtain ⟨h1,h2⟩:=(ZiO (hok.2.2.2.2.1 r hr) H.late H.span z hy).1 h
   rcases h2 with ⟨h2,h3⟩ | ⟨_,_,h3⟩
   ·refine ⟨⟨r,hr,h3,h1⟩, .inr ?_⟩
    rw [← h3]; exact h2
   ·cases h3
  ·rintro ⟨⟨r,hr,h1,h2⟩,h3⟩
   refine ⟨r,hr,(ZiO (hok.2.2.2.2.1 r hr) H.late H.span z hy).2 ⟨h2, .inl ⟨?_,h1⟩⟩⟩
   rcases h3 with h3 | h3
   ·omega
   ·rw [h1]; exact h3
end
def Xo (t : Table) (tx : Int) (v : List Val) (d : Span) : List HRow:=XE t.s.key.toNat t.rows tx v d
def Zr (t : Table) (tx : Int) (v : List Val) (d : Span) : Table:=if YA t then (if Yi t tx v d = 0 then (if Q8 (Xo t tx v d) = 0 then ⟨(ZP t tx v d).s,Qe (Xo t tx v d),(ZP t tx v d).last⟩ else noT) else noT) else noT
def Xz (t : Table) (tx : Int) (v : List Val) (d : Span) : Int:=if YA t then (if Yi t tx v d = 0 then Q8 (Xo t tx v d) else Yi t tx v d) else 1
section
variable {t : Table} {tx : Int} {v : List Val} {d : Span}
theorem ZnF (h : YA t = false) : noT = Zr t tx v d ∧ 1 = Xz t tx v d:=by unfold Zr Xz; rw [h]; exact ⟨rfl,rfl⟩
theorem Zj6 (h : YA t = true) (h1 : Yi t tx v d ≠ 0) : noT = Zr t tx v d ∧ Yi t tx v d = Xz t tx v d:=by unfold Zr Xz; rw [h,if_pos rfl,if_pos rfl,if_neg h1,if_neg h1]; exact ⟨rfl,rfl⟩
theorem Zso (h : YA t = true) (h1 : Yi t tx v d = 0) (h2 : Q8 (Xo t tx v d) ≠ 0) : noT = Zr t tx v d ∧ Q8 (Xo t tx v d) = Xz t tx v d:=by unfold Zr Xz; rw [h,if_pos rfl,if_pos rfl,if_pos h1,if_pos h1,if_neg h2]; exact ⟨rfl,rfl⟩
theorem ZnG (h : YA t = true) (h1 : Yi t tx v d = 0) (h2 : Q8 (Xo t tx v d) = 0) : (⟨(ZP t tx v d).s,Qe (Xo t tx v d),(ZP t tx v d).last⟩ : Table) = Zr t tx v d ∧ 0 = Xz t tx v d:=by
 unfold Zr Xz; rw [h,if_pos rfl,if_pos rfl,if_pos h1,if_pos h1,if_pos h2,h2]; exact ⟨rfl,rfl⟩
end
def ZeQ (t : Table) (tx : Int) (v : List Val) (d : Span) : List HRow:=
 Zj4 (Zaf (Yz (X7 (t.s.key.toNat + 1) (Qf t.s.cols v t.s.key.toNat) (t.s.cols.map Col.name)) (rnx false [] []) tx d t.rows)) tx v d
section
variable {t : Table} {tx : Int} {v u : List Val} {d : Span} {a y : Int}
structure MrgP (t : Table) (tx : Int) (v : List Val) (d : Span) : Prop where
 ins : InsOk t tx v d
 e : Xz t tx v d = 0
 is : Zr t tx v d = ⟨t.s,Z5 (Xo t tx v d),tx⟩
 valid : Z3 (Zr t tx v d) = true
theorem Zr6 (H : InsOk t tx v d) (k : Nat) (u : List Val) (x : Int) (hx : x < tx) : Z4 (YG (XE k t.rows tx v d) u) x = Z4 (YG t.rows u) x:=by
 have hb:=Xp H.inst
 refine Zfy (Zbq H) (ZS H.valid).1 fun a=>?_
 rw [ZdA H (by omega)]
 constructor
 ·rintro (h | h)
  ·exact h.1
  ·omega
 ·intro h; exact .inl ⟨h, .inl hx⟩
theorem ZhJ (H : InsOk t tx v d) (k : Nat) : (Z5 (XE k t.rows tx v d)).length ≤ 4 * t.rows.length + 1:=by
 have hg:=ZS H.valid
 have h1:=Zja (tx:=tx) (Zbq (k:=k) H) hg.1 hg.2.2.2 (fun u x hx=>Zr6 H k u x hx) (fun r hr=>(Xb (Zii (Zd9 H) r hr)).2.2.1)
 have h2:=ZgE (k:=k) (v:=v) (tx:=tx) hg.1 H.span
 omega
theorem ZfA (hu : YA t = true) (h : Yi t tx v d = 0) (hl : (Z5 (Xo t tx v d)).length ≤ 500) (hm : (Xo t tx v d).length ≤ 1000) : MrgP t tx v d:=by
 have H:=QT h
 have hg:=Zbq (k:=t.s.key.toNat) H
 have hE : Q8 (Xo t tx v d) = 0 ∧ Qe (Xo t tx v d) = Z5 (Xo t tx v d):=by
  have:=Zg1 (l:=Xo t tx v d) (by omega) (Zrj hg) (by omega)
  exact ⟨this.2,this.1⟩
 have h4:=ZnG hu h hE.1
 have hs : (ZP t tx v d).s = t.s:=by rw [H.new.is]
 have hlast : (ZP t tx v d).last = tx:=by rw [H.new.is]
 have his : Zr t tx v d = ⟨t.s,Z5 (Xo t tx v d),tx⟩:=by rw [← h4.1,hs,hlast,hE.2]
 refine ⟨H,h4.2.symm,his,?_⟩
 rw [his]
 exact (Zpm (YZ H.valid).1 H.inst (Zd9 H) hl).valid
def ZvS (t : Table) : Prop:=∀ a y u w,YQ t.rows u a y → YQ t.rows w a y → u.take t.s.key.toNat = w.take t.s.key.toNat → u = w
theorem Zlf (hv : Z3 t = true) : YA t = true ↔ ZvS t:=by
 obtain ⟨hg,_,_,hn⟩:=ZS hv
 have key : YA t = true ↔ Xc t.s.key.toNat t.rows = []:=by
  unfold YA Zt
  rw [hv,Bool.true_and,Option.isNone_iff_eq_none]
  by_cases e : Xc t.s.key.toNat t.rows = []
  ·rw [Zc7 e]; simp [e]
  ·rw [ZbG e]; simp [e]
 rw [key]
 constructor
 ·intro e a y u w hu hw hk
  refine Classical.byContradiction fun hne=>?_
  exact ZhA (Zbo hg a y) (ZiS (k:=t.s.key.toNat) hg e y a) u ((QI hg).2 hu) w ((QI hg).2 hw) (Ne.symm hne) hk.symm
 ·intro hN
  refine Classical.byContradiction fun hne=>?_
  obtain ⟨p,hp⟩:=List.exists_mem_of_ne_nil _ hne
  obtain ⟨v,hv⟩:=Option.ne_none_iff_exists'.1 (Zd4 hg hn hp).1
  obtain ⟨h1,w,h2,h3,h4⟩:=ZeK (Zbo hg _ _) hv
  exact h3 (hN _ _ _ _ ((QI hg).1 h2) ((QI hg).1 h1) h4)
theorem ZcY (M : MrgP t tx v d) (hy : y < 253402300800) : YQ (Zr t tx v d).rows u a y ↔ (YQ t.rows u a y ∧ (y < tx ∨ ¬ (d.a ≤ a ∧ a < d.b) ∨ Zad t.s.key.toNat v u = false)) ∨ (v = u ∧ d.a ≤ a ∧ a < d.b ∧ tx ≤ y):=by
 rw [M.is]
 show YQ (Z5 (XE t.s.key.toNat t.rows tx v d)) u a y ↔ _
 rw [Zg5 (Zbq M.ins)]
 exact ZdA M.ins hy
theorem Zlg (hu : YA t = true) (M : MrgP t tx v d) : YA (Zr t tx v d) = true:=by
 rw [Zlf M.valid]
 have hN:=(Zlf M.ins.valid).1 hu
 have hs : (Zr t tx v d).s = t.s:=by rw [M.is]
 intro a y p q hp hq hk
 rw [hs] at hk
 have hy : y < 253402300800:=Zco (ZS M.valid).1 hp
 rcases (ZcY M hy).1 hp with ⟨p1,p2⟩ | ⟨p1,p2,p3,p4⟩ <;> rcases (ZcY M hy).1 hq with ⟨q1,q2⟩ | ⟨q1,q2,q3,q4⟩
 ·exact hN a y p q p1 q1 hk
 ·exfalso
  subst q1
  rcases p2 with p2 | p2 | p2
  ·omega
  ·exact p2 ⟨q2,q3⟩
  ·unfold Zad at p2; exact of_decide_eq_false p2 hk
 ·exfalso
  subst p1
  rcases q2 with q2 | q2 | q2
  ·omega
  ·exact q2 ⟨p2,p3⟩
  ·unfold Zad at q2; exact of_decide_eq_false q2 hk.symm
 ·rw [← p1,← q1]
theorem Zp4 (hu : YA t = true) (M : MrgP t tx v d) (h300 : (Zr t tx v d).rows.length ≤ 300) : Xz (Zr t tx v d) (tx + 1) v d = 2 ∨ (Xz (Zr t tx v d) (tx + 1) v d = 0 ∧ (Zr (Zr t tx v d) (tx + 1) v d).rows = (Zr t tx v d).rows):=by
 have hu2:=Zlg hu M
 have hs : (Zr t tx v d).s = t.s:=by rw [M.is]
 have hla : (Zr t tx v d).last = tx:=by rw [M.is]
 have ho:=ZfP M.valid M.ins.span
 by_cases hi : Yu (tx + 1) = true
 ·right
  have e0 : Qb [YJ (Zr t tx v d).s v,XK (Zr t tx v d) (tx + 1)] = 0:=by
   rw [Zea]; unfold or2; rw [hs,M.ins.row,if_neg (fun k=>k rfl)]; exact (ZoX hi (by rw [hla]; omega)).symm
  have hg:=ZS M.valid
  have h3:=Zbj (t:=Zr t tx v d) (tx:=tx + 1) (v:=v) (d:=d) ho e0
  have hgi:=ZcS M.valid M.ins.span e0
  have key1 : Z5 (Qd (Zr t tx v d) (tx + 1) v d) = (Zr t tx v d).rows:=by
   rw [ZeI hgi.1 hg.1 fun u a y=>?_,← hg.2.2.2]
   constructor
   ·intro k
    have hy:=Zco hgi.1 k
    rcases (Zma hy).1 k with k | ⟨k1,k2,k3,k4⟩
    ·exact k
    ·exact (ZcY M hy).2 (.inr ⟨k1,k2,k3,by omega⟩)
   ·intro k; exact (Zma (Zco hg.1 k)).2 (.inl k)
  have hE : Yi (Zr t tx v d) (tx + 1) v d = 0:=by
   rw [← h3.2]; unfold Qi; rw [key1,if_pos (by omega)]
  have H:=QT hE
  have key2 : Z5 (Xo (Zr t tx v d) (tx + 1) v d) = (Zr t tx v d).rows:=by
   unfold Xo
   rw [ZeI (Zbq H) hg.1 fun u a y=>?_,← hg.2.2.2]
   constructor
   ·intro k
    have hy:=Zco (Zbq H) k
    rcases (ZdA H hy).1 k with k | ⟨k1,k2,k3,k4⟩
    ·exact k.1
    ·exact (ZcY M hy).2 (.inr ⟨k1,k2,k3,by omega⟩)
   ·intro k
    have hy:=Zco hg.1 k
    refine (ZdA H hy).2 ?_
    by_cases c1 : y < tx + 1
    ·exact .inl ⟨k, .inl c1⟩
    ·by_cases c2 : d.a ≤ a ∧ a < d.b
     ·cases c3 : Zad (Zr t tx v d).s.key.toNat v u with
      | false=>exact .inl ⟨k, .inr (.inr rfl)⟩
      | true=>
       rw [hs] at c3
       rcases (ZcY M hy).1 k with ⟨_,q⟩ | ⟨q,_⟩
       ·rcases q with q | q | q
        ·omega
        ·exact absurd c2 q
        ·rw [c3] at q; cases q
       ·exact .inr ⟨q,c2.1,c2.2,by omega⟩
     ·exact .inl ⟨k, .inr (.inl c2)⟩
  have hm:=ZgE (k:=(Zr t tx v d).s.key.toNat) (v:=v) (tx:=tx + 1) hg.1 M.ins.span
  have M2:=ZfA hu2 hE (by rw [key2]; omega) (by unfold Xo; omega)
  refine ⟨M2.e,?_⟩
  rw [M2.is]; exact key2
 ·left
  have e0 : Qb [YJ (Zr t tx v d).s v,XK (Zr t tx v d) (tx + 1)] ≠ 0 ∧ Qb [YJ (Zr t tx v d).s v,XK (Zr t tx v d) (tx + 1)] = 2:=by
   rw [Zea]; unfold or2; rw [hs,M.ins.row,if_neg (fun k=>k rfl),← ZoW (by simpa using hi)]; exact ⟨by decide,rfl⟩
  have h2:=Zj2 (t:=Zr t tx v d) (tx:=tx + 1) (v:=v) (d:=d) ho e0.1
  rw [← (Zj6 hu2 (by rw [← h2.2]; exact e0.1)).2,← h2.2,e0.2]
theorem Zt5 (M : MrgP t tx v d) : (Zr t tx v d).rows = ZeQ t tx v d:=by
 rw [M.is]
 have hg:=ZS M.ins.valid
 have hk:=Zt3 (YZ M.ins.valid).1
 have hc:=Zin M.ins
 unfold ZeQ Xo
 have hrn : rnx false [] [] = fun _=>none:=by funext x; rfl
 rw [hrn]
 have hcr:=(ZcT (hl:=X7 (t.s.key.toNat + 1) (Qf t.s.cols v t.s.key.toNat) (t.s.cols.map Col.name)) hc).1
 refine ZuG hg.1 M.ins.span (Zbq M.ins) hcr ?_ fun r hr=>?_
 ·intro q hq
  rcases List.mem_append.1 hq with hq | hq
  ·rw [← ZaJ hcr] at hq; exact ZaA hcr q hq
  ·rw [List.mem_singleton.1 hq]; exact (Xb (Zmm M.ins)).2.1
 ·exact Zr5 M.ins.row (Xb ((YZ M.ins.valid).2.2.2.2.1 r hr)).1 hk.1
end
end Go.Civ
namespace Go.Civ
open Go.RowKit
set_option linter.unusedVariables false
def Qw (t : Table) (e : Int) : Table:=if e = 0 then (if (Zt t).isSome then noT else t) else noT
def Zcx (t : Table) (e : Int) : Int:=if e = 0 then (if (Zt t).isSome then 14 else 0) else e
section
variable {t : Table} {e : Int}
theorem Zsp (h : e ≠ 0) : noT = Qw t e ∧ e = Zcx t e:=by unfold Qw Zcx; rw [if_neg h,if_neg h]; exact ⟨rfl,rfl⟩
theorem Zsq (h : e = 0) (h2 : (Zt t).isSome = true) : noT = Qw t e ∧ 14 = Zcx t e:=by unfold Qw Zcx; rw [if_pos h,if_pos h,h2]; exact ⟨rfl,rfl⟩
theorem Zsr (h : e = 0) (h2 : (Zt t).isSome = false) : t = Qw t e ∧ 0 = Zcx t e:=by unfold Qw Zcx; rw [if_pos h,if_pos h,h2]; exact ⟨rfl,rfl⟩
end
def Z0 (t : Table) (tx : Int) (v : List Val) (d : Span) : Table:=if YA t then Qw (ZP t tx v d) (Yi t tx v d) else noT
def Zae (t : Table) (tx : Int) (v : List Val) (d : Span) : Int:=if YA t then Zcx (ZP t tx v d) (Yi t tx v d) else 1
section
variable {t : Table} {tx : Int} {v set : List Val} {d : Span} {k : Nat} {c : Cond} {mask : List Bool}
theorem Zp5 (h : YA t = false) : noT = Z0 t tx v d ∧ 1 = Zae t tx v d:=by unfold Z0 Zae; rw [h]; exact ⟨rfl,rfl⟩
theorem ZhK (h : YA t = true) : Qw (ZP t tx v d) (Yi t tx v d) = Z0 t tx v d ∧ Zcx (ZP t tx v d) (Yi t tx v d) = Zae t tx v d:=by unfold Z0 Zae; rw [h]; exact ⟨rfl,rfl⟩
theorem Zp6 (h : Yi t tx v d = 0) : Z3 (ZP t tx v d) = true:=(QT h).new.valid
end
theorem Zp7 {t : Table} (h : Z3 t = false) : HRow.mk [] (Rect.mk (Span.mk 0 0) (Span.mk 0 0)) = Xx t ∧ false = YA t:=by unfold Xx YA; rw [h]; exact ⟨rfl,rfl⟩
theorem Zp8 {t : Table} (h : Z3 t = true) (h2 : (Zt t).isSome = true) : Yv (some (Yr (Zt t))) = Xx t ∧ false = YA t:=by
 unfold Xx YA; rw [h]
 cases e : Zt t with
 | none=>rw [e] at h2; cases h2
 | some p=>exact ⟨rfl,rfl⟩
theorem Zp9 {t : Table} (h : Z3 t = true) (h2 : (Zt t).isSome = false) : HRow.mk [] (Rect.mk (Span.mk 0 0) (Span.mk 0 0)) = Xx t ∧ true = YA t:=by
 unfold Xx YA; rw [h]
 cases e : Zt t with
 | none=>exact ⟨rfl,rfl⟩
 | some p=>rw [e] at h2; cases h2
theorem ZhL {t : Table} (hv : Z3 t = true) (h : (Zt t).isSome = true) : Yu (Yr (Zt t)).tx = true ∧ Yu (Yr (Zt t)).vd = true:=by
 by_cases e : Xc t.s.key.toNat t.rows = []
 ·rw [ZhG e] at h; cases h
 ·have hm:=ZeM (ZhE (k:=t.s.key.toNat) (ZS hv).1) e
  unfold Zt
  rw [ZbG e]
  have h9:=ZiU hv hm.1
  exact h9
def Zg (nm : List UInt8) : List Val:=[⟨1,1,[]⟩,⟨2,0,nm⟩]
abbrev Qx : Schema:=⟨[112,101,111,112,108,101],[⟨[105,100],1⟩,⟨[110,97,109,101],2⟩],1,[]⟩
def peopR : List HRow:=[⟨Zg [97],⟨⟨0,10⟩,⟨5,253402300800⟩⟩⟩]
def Zz : Table:=⟨Qx,peopR,5⟩
def peopR2 : List HRow:=[⟨Zg [97],⟨⟨0,10⟩,⟨5,253402300800⟩⟩⟩,⟨Zg [98],⟨⟨5,20⟩,⟨6,253402300800⟩⟩⟩]
def peopR3 : List HRow:=[⟨Zg [97],⟨⟨0,10⟩,⟨5,6⟩⟩⟩,⟨Zg [97],⟨⟨0,5⟩,⟨6,253402300800⟩⟩⟩,⟨Zg [98],⟨⟨5,20⟩,⟨6,253402300800⟩⟩⟩]
theorem ZuH : YE Qx = true:=by decide
theorem Zip : Z9 Qx = ⟨Qx,[], -62135596801⟩ ∧ ZbV Qx = 0:=Zrg ZuH
theorem Zss : Z3 ⟨Qx,[], -62135596801⟩ = true:=by rw [← Zip.1]; exact Znz ZuH
theorem ZuI : Z5 (Qd ⟨Qx,[], -62135596801⟩ 5 (Zg [97]) ⟨0,10⟩) = peopR:=by rw [ZaJ (Zn0 (by decide))]; decide
theorem Zmn : ZP ⟨Qx,[], -62135596801⟩ 5 (Zg [97]) ⟨0,10⟩ = Zz ∧ Yi ⟨Qx,[], -62135596801⟩ 5 (Zg [97]) ⟨0,10⟩ = 0:=by
 have h:=Zbj (t:=⟨Qx,[], -62135596801⟩) (tx:=5) (v:=Zg [97]) (d:=⟨0,10⟩) (ZfP Zss (by decide)) (by decide)
 rw [← h.1,← h.2]; unfold ZV Qi; rw [ZuI]; decide
theorem ZuJ : YA ⟨Qx,[], -62135596801⟩ = true:=by unfold YA; rw [Zss]; rfl
theorem ZpA : Zt Zz = none:=ZhG (by decide)
theorem ZfB : Z0 (Z9 Qx) 5 (Zg [97]) ⟨0,10⟩ = Zz ∧ Zae (Z9 Qx) 5 (Zg [97]) ⟨0,10⟩ = 0:=by
 rw [Zip.1]
 have h:=ZhK (t:=⟨Qx,[], -62135596801⟩) (tx:=5) (v:=Zg [97]) (d:=⟨0,10⟩) ZuJ
 rw [← h.1,← h.2,Zmn.1,Zmn.2]
 unfold Qw Zcx; rw [ZpA]; exact ⟨rfl,rfl⟩
theorem Zst : Z3 Zz = true:=by rw [← Zo7]; decide
theorem ZpB : YA Zz = true:=by unfold YA; rw [Zst,ZpA]; rfl
theorem ZuK : Z5 (Qd Zz 6 (Zg [98]) ⟨5,20⟩) = peopR2:=by rw [ZaJ (Zn0 (by decide))]; decide
theorem ZgF : ZP Zz 6 (Zg [98]) ⟨5,20⟩ = ⟨Qx,peopR2,6⟩ ∧ Yi Zz 6 (Zg [98]) ⟨5,20⟩ = 0:=by
 have h:=Zbj (t:=Zz) (tx:=6) (v:=Zg [98]) (d:=⟨5,20⟩) (ZfP Zst (by decide)) (by decide)
 rw [← h.1,← h.2]; unfold ZV Qi; rw [ZuK]; decide
theorem ZuL : (Zt ⟨Qx,peopR2,6⟩).isSome = true:=by unfold Zt; rw [ZbG (by decide)]; rfl
theorem ZuM : Zae Zz 6 (Zg [98]) ⟨5,20⟩ = 14:=by
 have h:=ZhK (t:=Zz) (tx:=6) (v:=Zg [98]) (d:=⟨5,20⟩) ZpB
 rw [← h.2,ZgF.1,ZgF.2]
 unfold Zcx; rw [ZuL]; rfl
theorem ZpC : Z5 (Xo Zz 6 (Zg [98]) ⟨5,20⟩) = peopR3:=by unfold Xo; rw [ZaJ (Zn0 (by decide))]; decide
theorem ZnH : MrgP Zz 6 (Zg [98]) ⟨5,20⟩:=ZfA ZpB ZgF.2 (by rw [ZpC]; decide) (by decide)
theorem ZuN : Zr Zz 6 (Zg [98]) ⟨5,20⟩ = ⟨Qx,peopR3,6⟩:=by rw [ZnH.is,ZpC]; rfl
theorem Zlh : atH (Zr Zz 6 (Zg [98]) ⟨5,20⟩) 6 = [⟨Zg [97],⟨0,5⟩⟩,⟨Zg [98],⟨5,20⟩⟩]:=by
 rw [ZuD ZnH.valid (by decide),ZuN]; decide
theorem Zt6 : (((atH (Zr Zz 6 (Zg [98]) ⟨5,20⟩) 6).length : Nat) : Int) = 2:=by rw [Zlh]; rfl
theorem ZvT {x : Fact} (h : (atH (Zr Zz 6 (Zg [98]) ⟨5,20⟩) 6)[0]? = some x) : x.t = ⟨0,5⟩:=by rw [Zlh] at h; obtain rfl:=Option.some.inj h; rfl
theorem ZvU {x : Fact} (h : (atH (Zr Zz 6 (Zg [98]) ⟨5,20⟩) 6)[1]? = some x) : x.t = ⟨5,20⟩:=by rw [Zlh] at h; obtain rfl:=Option.some.inj h; rfl
end Go.Civ
set_option linter.unusedVariables false
set_option linter.unusedSimpArgs false
set_option maxRecDepth 100000
set_option maxHeartbeats 4000000
namespace Go.Civ
open Go.Proofs
theorem Zln {G : GH} {w : World} (hG : G.In w) (a b : List HRow) (va : Value) (hva : Sl HRowE 56 G va a) (vb : Value) (hvb : Sl HRowE 56 G vb b) : CL Tryz.prog (nat_lit 21) #[va,vb] [] w G fun _ _ r=>r = .bool (decide (a = b)):=by
 refine Zf ft [7] Tryz.func21 rfl rfl ?_
 have hS:=St.start (X:=[]) hG
 have bd1:=hva.bound
 refine Zj hva Yl rfl rfl ?_
 have bd2:=hvb.bound
 refine Zj hvb Yl rfl rfl ?_
 refine Yy (a.length : Int) (b.length : Int) rfl rfl rfl (fun h1=>?_) (fun h1=>?_)
 ·exact RB hS rfl (by rw [← Xy]; first | exact (XB (by omega)).symm | exact (XV (f:=fun (x y : HRow)=>decide (x = y)) ‹_› ‹_› (decide_eq_false (by rintro rfl; first | exact absurd rfl ‹_› | simp_all))).symm | exact (XM (by omega) ‹_› (by omega)).symm)
 refine LP.go ft [7] (fun m ρ1 w1=>∃ (k1 : Nat),∃ (G1 : GH),m = a.length - k1 ∧ G.le G1 ∧ St w [] G G1 [] w1 ∧ FR ρ1 [(0,va),(1,vb),(5, .int .i64 (k1 : Int))] ∧ k1 ≤ a.length ∧ ∀ j,j < k1 → ∀ x y,a[j]? = some x → b[j]? = some y → decide (x = y) = true) _ ⟨0,G,rfl,(G.le_refl),hS,⟨rfl,rfl,rfl,trivial⟩,(by omega),(by intro j hj; omega)⟩ ?_
 rintro m ρ1 w1 ⟨k1,G1,rfl,hle1,hS1,hF9,f1,f2⟩
 refine hF9.set ?_
 clear hF9
 have bd3:=hva.bound
 refine Zj (hva.mono hle1) Yl rfl rfl ?_
 refine Zo (k1 : Int) (a.length : Int) rfl rfl rfl (fun h2=>?_) (fun h2=>?_)
 ·refine JN.go ft [7] (fun ρ1 w1=>∃ (x9 : HRow),∃ (y9 : HRow),∃ (q6 : Addr),∃ (q7 : Addr),∃ (u6 : Value),∃ (u7 : Value),∃ (G2 : GH),G1.le G2 ∧ St w [] G G2 [] w1 ∧ FR ρ1 [(0,va),(1,vb),(5, .int .i64 (k1 : Int)),(6, .pointer (some q6)),(7, .pointer (some q7))] ∧ a[k1]? = some x9 ∧ b[k1]? = some y9 ∧ XZ G2 q6 [u6, .int .i64 x9.r.d.a, .int .i64 x9.r.d.b, .int .i64 x9.r.x.a, .int .i64 x9.r.x.b] ∧ Sl ValE 32 G2 u6 x9.v ∧ XZ G2 q7 [u7, .int .i64 y9.r.d.a, .int .i64 y9.r.d.b, .int .i64 y9.r.x.a, .int .i64 y9.r.x.b] ∧ Sl ValE 32 G2 u7 y9.v) ?_ ?_
  ·obtain ⟨p1,x1,hx1,he1,ep1⟩:=Sl.at (hva.mono hle1) k1 (by omega)
   obtain ⟨cs1,hc1,hr1⟩:=he1
   obtain ⟨v1,rfl,hs1,hb1,hb2,hb3,hb4⟩:=Z8 hr1
   obtain ⟨p2,x2,hx2,he2,ep2⟩:=Sl.at (hvb.mono hle1) k1 (by omega)
   obtain ⟨cs2,hc2,hr2⟩:=he2
   obtain ⟨v2,rfl,hs2,hb5,hb6,hb7,hb8⟩:=Z8 hr2
   refine drT [8,9,10,11] [(21, .pointer (some p1)),(22, .agg #[v1, .int .i64 x1.r.d.a, .int .i64 x1.r.d.b, .int .i64 x1.r.x.a, .int .i64 x1.r.x.b]),(25, .pointer (some p2)),(26, .agg #[v2, .int .i64 x2.r.d.a, .int .i64 x2.r.d.b, .int .i64 x2.r.x.a, .int .i64 x2.r.x.b])] hS1 ⟨fun _=>Zh k1 ep1 Yl Zs rfl rfl rfl rfl <| nu rfl rfl,fun _ hSw=>Zd hSw hc1 [v1, .int .i64 x1.r.d.a, .int .i64 x1.r.d.b, .int .i64 x1.r.x.a, .int .i64 x1.r.x.b] Zs rfl rfl rfl rfl rfl <| nu rfl rfl,fun _=>Zh k1 ep2 Yl Zs rfl rfl rfl rfl <| nu rfl rfl,fun _ hSw=>Zd hSw hc2 [v2, .int .i64 x2.r.d.a, .int .i64 x2.r.d.b, .int .i64 x2.r.x.a, .int .i64 x2.r.x.b] Zs rfl rfl rfl rfl rfl <| nu rfl rfl,trivial⟩ (fun w3 hS3=>?_)
   refine TG.fork 3 [8,9,10,11] [8,9] rfl rfl (by decide) (by decide) (TA.cons rfl ?_ (TA.cons rfl ?_ TA.nil))
   ·refine WL.alloc hS3 Zs rfl rfl (fun b1 w4 hn1 hS4=>?_)
    refine ⟨fun _=>hS4.tail.down hS3.le (G1.le_refl),?_⟩
    refine TG.fork 2 [9,10,11] [9] rfl rfl (by decide) (by decide) (TA.cons rfl ?_ TA.nil)
    refine WL.alloc hS4 Zs rfl rfl (fun b2 w5 hn2 hS5=>?_)
    refine ⟨fun _=>hS5.tail.tail.down hS3.le (G1.le_refl),?_⟩
    refine TG.fork 1 [10,11] [10] rfl rfl (by decide) (by decide) (TA.cons rfl ?_ TA.nil)
    refine WL.store hS5 1 _ _ _ 0 _ [v1, .int .i64 x1.r.d.a, .int .i64 x1.r.d.b, .int .i64 x1.r.x.a, .int .i64 x1.r.x.b] [v1, .int .i64 x1.r.d.a, .int .i64 x1.r.d.b, .int .i64 x1.r.x.a, .int .i64 x1.r.x.b] _ rfl rfl Zs rfl (Nat.le_of_ble_eq_true rfl) (by simp only [List.all_cons,List.all_nil,hs1.oneC,Bool.true_and] <;> rfl) rfl rfl rfl rfl rfl (fun w6 hS6=>?_)
    obtain ⟨G3,hle3,hc3,hS7⟩:=hS6.sealAt 1 rfl hn1
    refine ⟨fun _=>hS7.tail.tail.down hS3.le hle3,?_⟩
    refine TG.fork 0 [11] [11] rfl rfl (by decide) (by decide) (TA.cons rfl ?_ TA.nil)
    refine WL.store hS7 0 _ _ _ 0 _ [v2, .int .i64 x2.r.d.a, .int .i64 x2.r.d.b, .int .i64 x2.r.x.a, .int .i64 x2.r.x.b] [v2, .int .i64 x2.r.d.a, .int .i64 x2.r.d.b, .int .i64 x2.r.x.a, .int .i64 x2.r.x.b] _ rfl rfl Zs rfl (Nat.le_of_ble_eq_true rfl) (by simp only [List.all_cons,List.all_nil,(hs2.mono hle3).oneC,Bool.true_and] <;> rfl) rfl rfl rfl rfl rfl (fun w7 hS8=>?_)
    obtain ⟨G4,hle4,hc4,hS9⟩:=hS8.shutB hn2
    refine ⟨fun h=>absurd h (by decide),?_⟩
    refine TG.fin rfl ?_
    have hS10:=hS9.tail
    exact ⟨x1,x2,(⟨b1,0,none⟩ : Addr),(⟨b2,0,none⟩ : Addr),v1,v2,G4,(hle3.trans hle4),hS10,⟨rfl,rfl,rfl,rfl,rfl,trivial⟩,(hx1),(hx2),((hc3.mono hle4)),((hs1.mono (hle3.trans hle4))),(hc4),((hs2.mono (hle3.trans hle4)))⟩
   refine WL.alloc hS3 Zs rfl rfl (fun b3 w9 hn3 hS11=>?_)
   refine ⟨fun _=>hS11.tail.down hS3.le (G1.le_refl),?_⟩
   refine TG.fork 2 [8,10,11] [8] rfl rfl (by decide) (by decide) (TA.cons rfl ?_ TA.nil)
   refine WL.alloc hS11 Zs rfl rfl (fun b4 w10 hn4 hS12=>?_)
   refine ⟨fun _=>hS12.tail.tail.down hS3.le (G1.le_refl),?_⟩
   refine TG.fork 1 [10,11] [10] rfl rfl (by decide) (by decide) (TA.cons rfl ?_ TA.nil)
   refine WL.store hS12 0 _ _ _ 0 _ [v1, .int .i64 x1.r.d.a, .int .i64 x1.r.d.b, .int .i64 x1.r.x.a, .int .i64 x1.r.x.b] [v1, .int .i64 x1.r.d.a, .int .i64 x1.r.d.b, .int .i64 x1.r.x.a, .int .i64 x1.r.x.b] _ rfl rfl Zs rfl (Nat.le_of_ble_eq_true rfl) (by simp only [List.all_cons,List.all_nil,hs1.oneC,Bool.true_and] <;> rfl) rfl rfl rfl rfl rfl (fun w11 hS13=>?_)
   obtain ⟨G5,hle5,hc5,hS14⟩:=hS13.shutB hn4
   refine ⟨fun _=>hS14.tail.down hS3.le hle5,?_⟩
   refine TG.fork 0 [11] [11] rfl rfl (by decide) (by decide) (TA.cons rfl ?_ TA.nil)
   refine WL.store hS14 0 _ _ _ 0 _ [v2, .int .i64 x2.r.d.a, .int .i64 x2.r.d.b, .int .i64 x2.r.x.a, .int .i64 x2.r.x.b] [v2, .int .i64 x2.r.d.a, .int .i64 x2.r.d.b, .int .i64 x2.r.x.a, .int .i64 x2.r.x.b] _ rfl rfl Zs rfl (Nat.le_of_ble_eq_true rfl) (by simp only [List.all_cons,List.all_nil,(hs2.mono hle5).oneC,Bool.true_and] <;> rfl) rfl rfl rfl rfl rfl (fun w12 hS15=>?_)
   obtain ⟨G6,hle6,hc6,hS16⟩:=hS15.shutB hn3
   refine ⟨fun h=>absurd h (by decide),?_⟩
   refine TG.fin rfl ?_
   exact ⟨x1,x2,(⟨b4,0,none⟩ : Addr),(⟨b3,0,none⟩ : Addr),v1,v2,G6,(hle5.trans hle6),hS16,⟨rfl,rfl,rfl,rfl,rfl,trivial⟩,(hx1),(hx2),((hc5.mono hle6)),((hs1.mono (hle5.trans hle6))),(hc6),((hs2.mono (hle5.trans hle6)))⟩
  rintro ρ1 w2 ⟨x9,y9,q6,q7,u6,u7,G2,hle2,hS2,hF9,f3,f4,f5,f6,f7,f8⟩
  refine hF9.set ?_
  refine Za hS2 (XZ.drop 0 f5) ZK rfl rfl rfl <| Za hS2 (XZ.drop 0 f7) ZK rfl rfl rfl ?_
  refine Zn hS2 Zuc rfl rfl rfl (Zol hS2.imm x9.v y9.v _ f6 _ f8) (fun w13 G7 hS17 hle7=>?_)
  refine WL.split (fun (h3 : (decide (x9.v = y9.v)) = true)=>?_) (fun (h3 : (decide (x9.v = y9.v)) = false)=>?_)
  ·refine Za hS17 (XZ.drop 0 (XZ.drop 0 (XZ.drop 1 (f5.mono hle7)))) Zl rfl rfl rfl <| Za hS17 (XZ.drop 0 (XZ.drop 0 (XZ.drop 1 (f7.mono hle7)))) Zl rfl rfl rfl ?_
   refine Yy x9.r.d.a y9.r.d.a rfl rfl rfl (fun h4=>?_) (fun h4=>?_)
   ·exact RB hS17 rfl (by rw [← Xy]; first | exact (XB (by omega)).symm | exact (XV (f:=fun (x y : HRow)=>decide (x = y)) ‹_› ‹_› (decide_eq_false (by rintro rfl; first | exact absurd rfl ‹_› | simp_all))).symm | exact (XM (by omega) ‹_› (by omega)).symm)
   refine Za hS17 (XZ.drop 1 (XZ.drop 0 (XZ.drop 1 (f5.mono hle7)))) Zl rfl rfl rfl <| Za hS17 (XZ.drop 1 (XZ.drop 0 (XZ.drop 1 (f7.mono hle7)))) Zl rfl rfl rfl ?_
   refine Yy x9.r.d.b y9.r.d.b rfl rfl rfl (fun h5=>?_) (fun h5=>?_)
   ·exact RB hS17 rfl (by rw [← Xy]; first | exact (XB (by omega)).symm | exact (XV (f:=fun (x y : HRow)=>decide (x = y)) ‹_› ‹_› (decide_eq_false (by rintro rfl; first | exact absurd rfl ‹_› | simp_all))).symm | exact (XM (by omega) ‹_› (by omega)).symm)
   refine Za hS17 (XZ.drop 0 (XZ.drop 2 (XZ.drop 1 (f5.mono hle7)))) Zl rfl rfl rfl <| Za hS17 (XZ.drop 0 (XZ.drop 2 (XZ.drop 1 (f7.mono hle7)))) Zl rfl rfl rfl ?_
   refine Yy x9.r.x.a y9.r.x.a rfl rfl rfl (fun h6=>?_) (fun h6=>?_)
   ·exact RB hS17 rfl (by rw [← Xy]; first | exact (XB (by omega)).symm | exact (XV (f:=fun (x y : HRow)=>decide (x = y)) ‹_› ‹_› (decide_eq_false (by rintro rfl; first | exact absurd rfl ‹_› | simp_all))).symm | exact (XM (by omega) ‹_› (by omega)).symm)
   refine Za hS17 (XZ.drop 1 (XZ.drop 2 (XZ.drop 1 (f5.mono hle7)))) Zl rfl rfl rfl <| Za hS17 (XZ.drop 1 (XZ.drop 2 (XZ.drop 1 (f7.mono hle7)))) Zl rfl rfl rfl ?_
   refine Yy x9.r.x.b y9.r.x.b rfl rfl rfl (fun h7=>?_) (fun h7=>?_)
   ·exact RB hS17 rfl (by rw [← Xy]; first | exact (XB (by omega)).symm | exact (XV (f:=fun (x y : HRow)=>decide (x = y)) ‹_› ‹_› (decide_eq_false (by rintro rfl; first | exact absurd rfl ‹_› | simp_all))).symm | exact (XM (by omega) ‹_› (by omega)).symm)
   refine Zk k1 (by have hreach : reach = 140737488355328:=rfl; omega) rfl rfl rfl ?_
   exact BK.mk' _ ⟨k1 + 1,G7,rfl,(hle1.trans (hle2.trans hle7)),hS17,⟨rfl,rfl,rfl,trivial⟩,(by omega),(by exact QF ‹_› ‹_› ‹_› (decide_eq_true (Zre ‹_› ‹_› ‹_› ‹_› ‹_›)))⟩ (show a.length - (k1 + 1) < a.length - k1 by omega)
  exact RB hS17 rfl (by rw [← Xy]; first | exact (XB (by omega)).symm | exact (XV (f:=fun (x y : HRow)=>decide (x = y)) ‹_› ‹_› (decide_eq_false (by rintro rfl; first | exact absurd rfl ‹_› | simp_all))).symm | exact (XM (by omega) ‹_› (by omega)).symm)
 exact RB hS1 rfl (by rw [← Xy]; first | exact (XB (by omega)).symm | exact (XV (f:=fun (x y : HRow)=>decide (x = y)) ‹_› ‹_› (decide_eq_false (by rintro rfl; first | exact absurd rfl ‹_› | simp_all))).symm | exact (XM (by omega) ‹_› (by omega)).symm)
end Go.Civ
namespace Go.Civ
open Go.RowKit
set_option linter.unusedVariables false
theorem ZtB {out : List Int} {x u : Int} {k : Nat} (h : out[k]? = some u) (h1 : x < u) : ∀ w,out[k]? = some w → x < w:=fun w hw=>by rw [h] at hw; obtain rfl:=Option.some.inj hw; exact h1
theorem ZrD {l : VV} {k K : Nat} {x y : List Val} (h : ∀ i,i < k → ∀ x y,l[i]? = some x → l[i + 1]? = some y → decide (x.take K = y.take K) = false) (hx : l[k]? = some x) (hy : l[k + 1]? = some y) (hxy : decide (x.take K = y.take K) = false) :
  ∀ i,i < k + 1 → ∀ x y,l[i]? = some x → l[i + 1]? = some y → decide (x.take K = y.take K) = false:=fun i hi a b ha hb=>by
 by_cases e : i = k
 ·subst e
  rw [hx] at ha; rw [hy] at hb
  obtain rfl:=Option.some.inj ha
  obtain rfl:=Option.some.inj hb
  exact hxy
 ·exact h i (by omega) a b ha hb
theorem Zmp {l : VV} {j K : Nat} {v w : List Val} (h1 : ∀ i,i < j → ∀ x y,l[i]? = some x → l[i + 1]? = some y → decide (x.take K = y.take K) = false) (h2 : l[j]? = some v) (h3 : l[j + 1]? = some w) (h4 : decide (v.take K = w.take K) = true) :
  v = (ZT K l).getD [] ∧ true = (ZT K l).isSome:=by rw [Zlc h1 h2 h3 h4]; exact ⟨rfl,rfl⟩
theorem Zmq {l : VV} {j K : Nat} (h1 : ∀ i,i < j → ∀ x y,l[i]? = some x → l[i + 1]? = some y → decide (x.take K = y.take K) = false) (h2 : l.length ≤ j + 1) :
  [] = (ZT K l).getD [] ∧ false = (ZT K l).isSome:=by rw [Zld h1 h2]; exact ⟨rfl,rfl⟩
theorem ZnL {x : Int} (h1 : -62135596800 ≤ x) (h2 : x ≤ 253402300800) : Zv x ∧ x ≤ 253402300800:=⟨by constructor <;> omega,h2⟩
section
variable {l o : List HRow} {k : Nat} {x fr : Int}
theorem Zmr (hg : ZA l) {r : HRow} (hr : r ∈ l) : (Zv r.r.d.a ∧ r.r.d.a ≤ 253402300800) ∧ (Zv r.r.d.b ∧ r.r.d.b ≤ 253402300800) ∧ (Zv r.r.x.a ∧ r.r.x.a ≤ 253402300800) ∧ (Zv r.r.x.b ∧ r.r.x.b ≤ 253402300800):=by
 have h:=(ZY (hg r hr)).2
 unfold ZC at h
 simp at h
 exact ⟨ZnL (by omega) (by omega),ZnL (by omega) (by omega),ZnL (by omega) (by omega),ZnL (by omega) (by omega)⟩
theorem ZuP (hg : ZA l) (h : (Yc (l.map (fun (r : HRow)=>r.r.x.a)))[k]? = some x) : Zv x ∧ x ≤ 253402300800:=by
 obtain ⟨r,hr,rfl⟩:=List.mem_map.1 (ZeP.1 (List.mem_of_getElem? h))
 exact (Zmr hg hr).2.2.1
theorem ZuQ (hg : ZA l) (h : (Yc (l.map (fun (r : HRow)=>r.r.d.a)))[k]? = some x) : Zv x ∧ x ≤ 253402300800:=by
 obtain ⟨r,hr,rfl⟩:=List.mem_map.1 (ZeP.1 (List.mem_of_getElem? h))
 exact (Zmr hg hr).1
end
section
variable {t : Table} {x y : Int} {k : Nat}
theorem ZpJ (hv : Z3 t = true) (y x : Int) : ∀ v ∈ Y3 t.rows y x,t.s.key ≤ v.length:=fun v h=>by
 rw [← Zd0 (ZS hv).1,QI (ZS hv).1] at h
 obtain ⟨r,hr,rfl,_⟩:=h
 exact ZfU hv r hr
theorem ZlC {K : Nat} {l : VV} {x y : Int} (h : (ZT K l).isSome = false) : ((ZT K l).map fun v=>Pt.mk x y v) = none:=by
 cases e : ZT K l with
 | none=>rfl
 | some v=>rw [e] at h; cases h
theorem ZpK {K : Nat} {l : List HRow} {ys : List Int} {j : Nat} (h : ∀ i,i < j → ∀ y,ys[i]? = some y → ((ZT K (Y3 l y x)).map fun v=>Pt.mk x y v) = none) (hj : ys.length ≤ j) : Zeb K l ys x = none:=Zle h hj
theorem Zms {i j : Nat} (h1 : ∀ i',i' < i → ∀ x,(Yc (t.rows.map (fun (r : HRow)=>r.r.x.a)))[i']? = some x → Zeb t.s.key.toNat t.rows (Yc (t.rows.map (fun (r : HRow)=>r.r.d.a))) x = none) (hx : (Yc (t.rows.map (fun (r : HRow)=>r.r.x.a)))[i]? = some x)
  (h2 : ∀ i',i' < j → ∀ y,(Yc (t.rows.map (fun (r : HRow)=>r.r.d.a)))[i']? = some y → ((ZT t.s.key.toNat (Y3 t.rows y x)).map fun v=>Pt.mk x y v) = none) (hy : (Yc (t.rows.map (fun (r : HRow)=>r.r.d.a)))[j]? = some y)
  (h : (ZT t.s.key.toNat (Y3 t.rows y x)).isSome = true) : Yv (some (Pt.mk x y ((ZT t.s.key.toNat (Y3 t.rows y x)).getD []))) = Yv (YN t) ∧ true = (YN t).isSome:=by
 cases e : ZT t.s.key.toNat (Y3 t.rows y x) with
 | none=>rw [e] at h; cases h
 | some v=>
  have hG : Zeb t.s.key.toNat t.rows (Yc (t.rows.map (fun (r : HRow)=>r.r.d.a))) x = some ⟨x,y,v⟩:=ZgD h2 hy (by rw [e]; rfl)
  have : YN t = some ⟨x,y,v⟩:=ZgD h1 hx hG
  rw [this]; exact ⟨rfl,rfl⟩
theorem Zmt {i : Nat} (h1 : ∀ i',i' < i → ∀ x,(Yc (t.rows.map (fun (r : HRow)=>r.r.x.a)))[i']? = some x → Zeb t.s.key.toNat t.rows (Yc (t.rows.map (fun (r : HRow)=>r.r.d.a))) x = none) (hi : (Yc (t.rows.map (fun (r : HRow)=>r.r.x.a))).length ≤ i) :
  HRow.mk [] (Rect.mk (Span.mk 0 0) (Span.mk 0 0)) = Yv (YN t) ∧ false = (YN t).isSome:=by
 have : YN t = none:=Zle h1 hi
 rw [this]; exact ⟨rfl,rfl⟩
end
end Go.Civ
