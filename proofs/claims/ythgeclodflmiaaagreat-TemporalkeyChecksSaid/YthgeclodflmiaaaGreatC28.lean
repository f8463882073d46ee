/- Lemmas. -/
import Derived.Test.YthgeclodflmiaaaGreatC13
import Derived.Test.YthgeclodflmiaaaGreatC21
import Derived.Test.YthgeclodflmiaaaGreatC23
import Derived.Test.YthgeclodflmiaaaGreatC24
import Derived.Test.YthgeclodflmiaaaGreatC26
import Derived.Test.YthgeclodflmiaaaGreatC27
import Derived.Test.YthgeclodflmiaaaGreatProg
import Derived.KernelRfl
import Derived.WalkKit
namespace Go.Civ
open Go.RowKit
set_option linter.unusedVariables false
def Zh8 (k : Nat) (v u : List Val) : Bool:=decide (u.take k = v.take k)
def Zb1 (k : Nat) (v : List Val) (tx : Int) (d : Span) (r : HRow) : List HRow:=
 if r.r.x.b = 253402300800 ∧ Zh8 k v r.v = true ∧ Yr 3 [r.r.d] [d] ≠ [r.r.d] then Xz r.v (Yr 3 [r.r.d] [d]) tx 253402300800 ++ [⟨r.v,⟨r.r.d,⟨r.r.x.a,tx⟩⟩⟩] else [r]
def Zc2 (k : Nat) (l : List HRow) (tx : Int) (v : List Val) (d : Span) : List HRow:=⟨v,⟨d,⟨tx,253402300800⟩⟩⟩ :: l.flatMap (Zb1 k v tx d)
theorem Ziu {p q : Span} (hp : p.a < p.b) (hq : q.a < q.b) : Yr 3 [p] [q] = [p] ↔ ¬ (p.a < q.b ∧ q.a < p.b):=by
 constructor
 ·intro e k
  have h:=Zke hp hq (a:=max p.a q.a)
  rw [e,Qc] at h
  omega
 ·intro k
  have h:=Zbg (kind:=3) rfl (a:=[p]) (b:=[q]) (by simpa using hp) (by simpa using hq)
  refine Can.unique h.1 ⟨List.pairwise_singleton _ _,fun s hs=>by rw [List.mem_singleton.1 hs]; exact hp⟩ fun x=>?_
  rw [Zke hp hq,Qc]
  constructor
  ·exact fun z=>z.1
  ·intro z; exact ⟨z,by omega⟩
section
variable {k : Nat} {l : List HRow} {tx : Int} {v u : List Val} {d : Span} {r : HRow} {a y : Int}
end
end Go.Civ
namespace Go.Civ
open Go.RowKit
set_option linter.unusedVariables false
theorem Zoj {s : Schema} (h : Yu s = true) : 1 ≤ s.key ∧ s.key ≤ s.cols.length ∧ s.cols.length ≤ 8 ∧ Zal (s.cols.map Col.name) = true:=by
 unfold Yu XQ at h
 simp only [Bool.and_eq_true,decide_eq_true_eq] at h
 obtain ⟨⟨⟨⟨⟨⟨_,h2⟩,h3⟩,h4⟩,h5⟩,h6⟩,h7⟩:=h.1
 exact ⟨h4,h5,h3,h7⟩
section
variable {cols : List Col} {v u : List Val}
end
section
variable {s : Schema} {v u : List Val} {k : Nat}
end
theorem Zok {hl : List Val → Bool} {nx : List Val → Option (List Val)} {tx : Int} {d : Span} {t : Table} (hc : ChgOk t tx d nx) (hn : ∀ r ∈ t.rows,∀ v,nx r.v = some v → Xg t.s v = 0) : ∀ q ∈ ZaE hl nx tx d t.rows,YI t.s tx q = true:=fun q hq=>by
 have hp:=XS hc.valid
 have hg:=(ZjS (hl:=hl) hc).1 q hq
 obtain ⟨r,hr,h⟩:=List.mem_flatMap.1 hq
 have hro:=hp.2.2.2.2.1 r hr
 obtain ⟨p1,p2,p3,p4⟩:=Qe hro
 have hla:=hc.late
 rcases ZnW h with h | ⟨h1,h2⟩ | ⟨h1,h2⟩
 ·rw [h]; exact Zkd hro hla
 ·exact ZbJ (by rw [h1]; exact p1) hg (by rw [h2]; simp only; omega) (by rw [h2]; simp only; omega)
 ·refine ZbJ ?_ hg (by rw [h2]; exact Int.le_refl _) (by rw [h2]; exact .inr rfl)
  rcases h1 with h1 | h1
  ·rw [h1]; exact p1
  ·exact hn r hr _ h1
section
variable {k : Nat} {l : List HRow} {tx : Int} {v u : List Val} {d : Span} {r q : HRow} {a y : Int} {t : Table}
theorem Zol (hr : Y1 r = true) (hd : ZM d = true) (h : q ∈ Zb1 k v tx d r) : q ∈ Zbt (Zh8 k v) (fun _=>none) tx d r:=by
 have hp:=YB (Yd hr).2.1
 have hq:=YB hd
 have ds:=Ziu hp hq
 by_cases hc : (ZcJ d r && Zh8 k v r.v) = true
 ·have hc' : ZcJ d r = true ∧ Zh8 k v r.v = true:=by simpa using hc
  obtain ⟨t1,t2,t3⟩:=Zii.1 hc'.1
  unfold Zb1 at h
  unfold Zbt
  rw [if_pos ⟨t1,hc'.2,fun e=>ds.1 e ⟨t2,t3⟩⟩] at h
  rw [if_pos hc]
  rcases List.mem_append.1 h with h | h
  ·simp [h]
  ·simp only [List.mem_append]; exact .inl (.inl h)
 ·unfold Zb1 at h
  unfold Zbt
  rw [if_neg hc]
  rw [if_neg] at h
  ·exact h
  ·rintro ⟨z1,z2,z3⟩
   refine z3 (ds.2 fun z=>hc ?_)
   rw [z2,Zii.2 ⟨z1,z.1,z.2⟩]; rfl
theorem Zsf {rows : List HRow} : Ztx (fun _=>none) rows:=fun r hr v hv=>by cases hv
theorem Zsg (H : InsOk t tx v d) : ChgOk t tx d (fun _=>none):=⟨H.valid,H.span,H.inst,H.late,Zsf⟩
theorem Zsh (H : InsOk t tx v d) : YI t.s tx ⟨v,⟨d,⟨tx,253402300800⟩⟩⟩ = true:=by
 have hb:=Qd H.inst
 refine ZbJ H.row ?_ (Int.le_refl _) (.inr rfl)
 have:=H.span
 unfold Y1
 simp only [(Zbd H.row).2.1,H.span,Bool.true_and]
 unfold ZM
 simp; omega
theorem Zff (H : InsOk t tx v d) : ∀ q ∈ Zc2 k t.rows tx v d,YI t.s tx q = true:=fun q hq=>by
 rcases List.mem_cons.1 hq with rfl | hq
 ·exact Zsh H
 ·obtain ⟨r,hr,h⟩:=List.mem_flatMap.1 hq
  exact Zok (hl:=Zh8 k v) (Zsg H) (fun _ _ _ h=>by cases h) q (List.mem_flatMap.2 ⟨r,hr,Zol ((ZW H.valid).1 r hr) H.span h⟩)
theorem Zql (H : InsOk t tx v d) : Z5 (Zc2 k t.rows tx v d):=fun q hq=>(Qe (Zff H q hq)).2.1
theorem Zom (hr : Y1 r = true) (hd : ZM d = true) : (Zb1 k v tx d r).length ≤ 3:=by
 have hp:=YB (Yd hr).2.1
 have hq:=YB hd
 unfold Zb1
 split
 ·rename_i h
  have hov : r.r.d.a < d.b ∧ d.a < r.r.d.b:=by
   refine Classical.byContradiction fun z=>h.2.2 ((Ziu hp hq).2 z)
  have htc:=Zeh (Yd hr).2.1 hd hov.1 hov.2
  have hpl:=ZgP r.r.d d
  have h2 : (Yr 3 [r.r.d] [d]).length ≤ 2:=by rw [htc]; exact hpl
  have hol : (Xz r.v (Yr 3 [r.r.d] [d]) tx 253402300800).length = (Yr 3 [r.r.d] [d]).length:=by unfold Xz; rw [List.length_map]
  rw [List.length_append,hol,List.length_singleton]; omega
 ·simp
theorem Zlt (hg : Z5 l) (hd : ZM d = true) : ∀ n,((l.take n).flatMap (Zb1 k v tx d)).length ≤ 3 * n
 | 0=>by simp
 | n + 1=>by
  have ih:=Zlt hg hd n
  rw [List.take_add_one,List.flatMap_append,List.length_append]
  cases e : l[n]? with
  | none=>simp only [Option.toList,List.flatMap_nil,List.length_nil]; omega
  | some r=>
   have:=Zom (k:=k) (v:=v) (tx:=tx) (hg r (List.mem_of_getElem? e)) hd
   simp only [Option.toList,List.flatMap_cons,List.flatMap_nil,List.append_nil]; omega
end
def XB (t : Table) (tx : Int) (v : List Val) (d : Span) : List HRow:=Zc2 t.s.key.toNat t.rows tx v d
def Y9 (t : Table) (tx : Int) (v : List Val) (d : Span) : Table:=if Xt t then (if Y6 t tx v d = 0 then (if Q4 (XB t tx v d) = 0 then ⟨(ZR t tx v d).s,XU (XB t tx v d),(ZR t tx v d).last⟩ else noT) else noT) else noT
def Zci (t : Table) (tx : Int) (v : List Val) (d : Span) : Int:=if Xt t then (if Y6 t tx v d = 0 then Q4 (XB t tx v d) else Y6 t tx v d) else 1
section
variable {t : Table} {tx : Int} {v : List Val} {d : Span}
theorem Zre (h : Xt t = false) : noT = Y9 t tx v d ∧ 1 = Zci t tx v d:=by unfold Y9 Zci; rw [h]; exact ⟨rfl,rfl⟩
theorem Zrf (h : Xt t = true) (h1 : Y6 t tx v d ≠ 0) : noT = Y9 t tx v d ∧ Y6 t tx v d = Zci t tx v d:=by unfold Y9 Zci; rw [h,if_pos rfl,if_pos rfl,if_neg h1,if_neg h1]; exact ⟨rfl,rfl⟩
theorem Zrg (h : Xt t = true) (h1 : Y6 t tx v d = 0) (h2 : Q4 (XB t tx v d) ≠ 0) : noT = Y9 t tx v d ∧ Q4 (XB t tx v d) = Zci t tx v d:=by unfold Y9 Zci; rw [h,if_pos rfl,if_pos rfl,if_pos h1,if_pos h1,if_neg h2]; exact ⟨rfl,rfl⟩
theorem ZmA (h : Xt t = true) (h1 : Y6 t tx v d = 0) (h2 : Q4 (XB t tx v d) = 0) : (⟨(ZR t tx v d).s,XU (XB t tx v d),(ZR t tx v d).last⟩ : Table) = Y9 t tx v d ∧ 0 = Zci t tx v d:=by
 unfold Y9 Zci; rw [h,if_pos rfl,if_pos rfl,if_pos h1,if_pos h1,if_pos h2,h2]; exact ⟨rfl,rfl⟩
end
section
variable {t : Table} {tx : Int} {v u : List Val} {d : Span} {a y : Int}
structure MrgP (t : Table) (tx : Int) (v : List Val) (d : Span) : Prop where
 ins : InsOk t tx v d
 e : Zci t tx v d = 0
 is : Y9 t tx v d = ⟨t.s,ZZ (XB t tx v d),tx⟩
 valid : Zy (Y9 t tx v d) = true
theorem Zon (hu : Xt t = true) (h : Y6 t tx v d = 0) (hl : (ZZ (XB t tx v d)).length ≤ 500) (hm : (XB t tx v d).length ≤ 1000) : MrgP t tx v d:=by
 have H:=ZeV h
 have hg:=Zql (k:=t.s.key.toNat) H
 have hE : Q4 (XB t tx v d) = 0 ∧ XU (XB t tx v d) = ZZ (XB t tx v d):=by
  have:=ZfX (l:=XB t tx v d) (by omega) (ZpX hg) (by omega)
  exact ⟨this.2,this.1⟩
 have h4:=ZmA hu h hE.1
 have hs : (ZR t tx v d).s = t.s:=by rw [H.new.is]
 have hlast : (ZR t tx v d).last = tx:=by rw [H.new.is]
 have his : Y9 t tx v d = ⟨t.s,ZZ (XB t tx v d),tx⟩:=by rw [← h4.1,hs,hlast,hE.2]
 refine ⟨H,h4.2.symm,his,?_⟩
 rw [his]
 exact (ZnU (XS H.valid).1 H.inst (Zff H) hl).valid
end
end Go.Civ
namespace Go.Civ
open Go.RowKit
open Go.Lib (compact)
set_option linter.unusedVariables false
structure Link where
 t : Table
 o : Table
 f : Foreign
def Zhf : Enc Link:=(Enc.pair TableE (Enc.pair TableE ForeignE)).via fun x=>(x.t,x.o,x.f)
section
variable {G : GH} {cs : List Value}
theorem Zew {x : Link} (h : Zhf.rep G x cs) : ∃ v u r v' u' r' c,cs = [Zc x.t.s.name,v, .int .i64 x.t.s.key,u,r, .int .i64 x.t.last,Zc x.o.s.name,v', .int .i64 x.o.s.key,u',r', .int .i64 x.o.last,c,Zc x.f.table] ∧
  x.t.s.name.length ≤ reach ∧ Sl ColE 24 G v x.t.s.cols ∧ Z1 x.t.s.key ∧ Sl ForeignE 40 G u x.t.s.fks ∧ Sl HRowE 56 G r x.t.rows ∧ Z1 x.t.last ∧
  x.o.s.name.length ≤ reach ∧ Sl ColE 24 G v' x.o.s.cols ∧ Z1 x.o.s.key ∧ Sl ForeignE 40 G u' x.o.s.fks ∧ Sl HRowE 56 G r' x.o.rows ∧ Z1 x.o.last ∧ Sl Enc.str 16 G c x.f.cols ∧ x.f.table.length ≤ reach:=by
 obtain ⟨c1,c2,rfl,h1,c3,c4,rfl,h2,h3⟩:=h
 obtain ⟨v,u,r,rfl,a1,a2,a3,a4,a5,a6⟩:=Z0 h1
 obtain ⟨v',u',r',rfl,b1,b2,b3,b4,b5,b6⟩:=Z0 h2
 obtain ⟨c,rfl,d1,d2⟩:=XC h3
 exact ⟨v,u,r,v',u',r',c,rfl,a1,a2,a3,a4,a5,a6,b1,b2,b3,b4,b5,b6,d1,d2⟩
theorem ZcS (x : Link) {v u r v' u' r' c : Value} (a1 : x.t.s.name.length ≤ reach) (a2 : Sl ColE 24 G v x.t.s.cols) (a3 : Z1 x.t.s.key) (a4 : Sl ForeignE 40 G u x.t.s.fks) (a5 : Sl HRowE 56 G r x.t.rows) (a6 : Z1 x.t.last)
  (b1 : x.o.s.name.length ≤ reach) (b2 : Sl ColE 24 G v' x.o.s.cols) (b3 : Z1 x.o.s.key) (b4 : Sl ForeignE 40 G u' x.o.s.fks) (b5 : Sl HRowE 56 G r' x.o.rows) (b6 : Z1 x.o.last) (d1 : Sl Enc.str 16 G c x.f.cols) (d2 : x.f.table.length ≤ reach) :
  Zhf.rep G x [Zc x.t.s.name,v, .int .i64 x.t.s.key,u,r, .int .i64 x.t.last,Zc x.o.s.name,v', .int .i64 x.o.s.key,u',r', .int .i64 x.o.last,c,Zc x.f.table]:=
 ⟨_,_,rfl,Zs x.t a1 a2 a3 a4 a5 a6,_,_,rfl,Zs x.o b1 b2 b3 b4 b5 b6,ZaU x.f d1 d2⟩
end
theorem Zgh {s : Schema} (h : Yu s = true) : 1 ≤ s.key ∧ s.key ≤ s.cols.length:=by
 unfold Yu XQ at h
 simp only [Bool.and_eq_true,decide_eq_true_eq] at h
 obtain ⟨⟨⟨⟨⟨⟨_,h2⟩,h3⟩,h4⟩,h5⟩,h6⟩,h7⟩:=h.1
 exact ⟨h4,h5⟩
structure LinkOk (x : Link) : Prop where
 t : Zy x.t = true
 o : Zy x.o = true
 cols : ∀ c ∈ x.f.cols,0 ≤ Xf (x.t.s.cols.map Col.name) c
 key : (x.f.cols.length : Int) = x.o.s.key
abbrev lM (x : Link) : List Val → List Val → Bool:=mtB x.t.s x.f.cols
def Za5 (x : Link) (fr : Int) : Option Pt:=Zd3 (lM x) x.o.rows x.t.rows fr
theorem ZdG {t o : Table} {f : Foreign} (h1 : Zy t = true) (h2 : Zy o = true) (h3 : Zeu t.s o.s f = true) : LinkOk ⟨t,o,f⟩:=by
 have hf:=Zo0 (XS h1).1 h3
 exact ⟨h1,h2,hf.1,hf.2⟩
section
variable {x : Link} {v : List Val} {r : HRow}
theorem LinkOk.len (h : LinkOk x) (hr : r ∈ x.t.rows) : x.t.s.cols.length ≤ r.v.length:=by
 have:=Zae h.t hr
 have h4:=this.2.2.2.1
 omega
theorem LinkOk.olen (h : LinkOk x) (hr : r ∈ x.o.rows) : x.f.cols.length ≤ r.v.length:=by
 have h1:=Zae h.o hr
 have h2:=Zgh (XS h.o).1
 have h3:=h.key
 have h4:=h1.2.2.2.1
 omega
end
section
variable {M : List Val → List Val → Bool} {l t : List HRow} {v : List Val} {x tx fr : Int} {r o : HRow} {k : Nat} {ts : List Int}
theorem Zqw (h : l[k]? = some o) (h1 : X1 tx o.r.x = true) (h2 : M v o.v = true) : Za4 M (l.take (k + 1)) v tx = Za4 M (l.take k) v tx ++ [o.r.d]:=by
 have h3 : YR tx o = true:=h1
 rw [List.take_add_one,h]; unfold Za4; simp [h3,h2]
theorem Zlx (h : l[k]? = some o) (h1 : X1 tx o.r.x = false ∨ M v o.v = false) : Za4 M (l.take (k + 1)) v tx = Za4 M (l.take k) v tx:=by
 have h3 : (YR tx o && M v o.v) = false:=by
  have e : YR tx o = X1 tx o.r.x:=rfl
  rw [e]; rcases h1 with h1 | h1 <;> rw [h1] <;> simp
 rw [List.take_add_one,h]; unfold Za4; simp [h3]
theorem Zqx (l : List HRow) (v : List Val) (tx : Int) : (Za4 M l v tx).length ≤ l.length:=by unfold Za4; rw [List.length_map]; exact List.length_filter_le _ _
theorem Zkz (l : List HRow) (v : List Val) (tx : Int) (k : Nat) : (Za4 M (l.take k) v tx).length ≤ l.length:=Nat.le_trans (Zqx _ _ _) (List.length_take_le' _ _)
theorem Zo2 (h : l[k]? = some o) (h1 : Y2 r fr < o.r.x.b) (h2 : M r.v o.v = true) : Xd M (l.take (k + 1)) r fr = Xd M (l.take k) r fr ++ [o.r.x.b]:=by
 rw [List.take_add_one,h]; unfold Xd; simp [h1,h2]
theorem Zk0 (h : l[k]? = some o) (h1 : o.r.x.b ≤ Y2 r fr ∨ M r.v o.v = false) : Xd M (l.take (k + 1)) r fr = Xd M (l.take k) r fr:=by
 have h3 : (decide (Y2 r fr < o.r.x.b) && M r.v o.v) = false:=by
  rcases h1 with h1 | h1
  ·rw [decide_eq_false (by omega)]; rfl
  ·rw [h1]; simp
 rw [List.take_add_one,h]; unfold Xd; simp [h3]
theorem Zo3 (l : List HRow) (k : Nat) : (Xd M (l.take k) r fr).length ≤ l.length:=by
 unfold Xd; rw [List.length_map]; exact Nat.le_trans (List.length_filter_le _ _) (List.length_take_le' _ _)
theorem ZhC {α : Type} {l : List α} {a : α} (h : l[k]? = some a) : l.drop k = a :: l.drop (k + 1):=by
 obtain ⟨h1,h2⟩:=List.getElem?_eq_some_iff.1 h
 rw [List.drop_eq_getElem_cons h1,h2]
theorem Zqy (h : ts[k]? = some x) (h1 : X1 x r.r.x = false) : XW M l r (ts.drop k) = none:=by rw [ZhC h]; unfold XW; rw [if_neg (by rw [h1]; simp)]
theorem Zqz {s : Span} (h : ts[k]? = some x) (h1 : X1 x r.r.x = true) (h2 : (XV M l r.v r.r.d x)[0]? = some s) : XW M l r (ts.drop k) = some ⟨x,s.a,r.v⟩:=by
 rw [ZhC h]
 unfold XW
 rw [if_pos h1]
 cases e : XV M l r.v r.r.d x with
 | nil=>rw [e] at h2; cases h2
 | cons a q=>rw [e] at h2; obtain rfl:=Option.some.inj h2; rfl
theorem Zo4 (h : ts[k]? = some x) (h1 : X1 x r.r.x = true) (h2 : ((XV M l r.v r.r.d x).length : Int) ≤ 0) : XW M l r (ts.drop k) = XW M l r (ts.drop (k + 1)):=by
 have e : XV M l r.v r.r.d x = []:=List.length_eq_zero_iff.1 (by omega)
 rw [ZhC h]
 show (if X1 x r.r.x then (match XV M l r.v r.r.d x with | s :: _=>some ⟨x,s.a,r.v⟩ | []=>XW M l r (ts.drop (k + 1))) else none) = _
 rw [if_pos h1,e]
theorem Zq0 (h : ts.length ≤ k) : XW M l r (ts.drop k) = none:=by rw [List.drop_eq_nil_of_le h]; rfl
theorem Zhg (h : t[k]? = some r) (h1 : XW M l r (Zes M l r fr) = none) : Y3 M l (t.take (k + 1)) fr = Y3 M l (t.take k) fr:=by
 rw [List.take_add_one,h]; unfold Y3; simp [List.filterMap_append,h1]
theorem ZmH {p : Pt} (h : t[k]? = some r) (h1 : XW M l r (Zes M l r fr) = some p) : Y3 M l (t.take (k + 1)) fr = Y3 M l (t.take k) fr ++ [p]:=by
 rw [List.take_add_one,h]; unfold Y3; simp [List.filterMap_append,h1]
theorem Zo5 (t : List HRow) (k : Nat) : (Y3 M l (t.take k) fr).length ≤ t.length:=by
 unfold Y3; exact Nat.le_trans (List.length_filterMap_le _ _) (List.length_take_le' _ _)
theorem Zrm (h : ((Y3 M l (t.take k) fr).length : Int) = 0) (hk : t.length ≤ k) : Pt.mk 0 0 [] = ZY (Zd3 M l t fr) ∧ false = (Zd3 M l t fr).isSome:=by
 rw [List.take_of_length_le hk] at h
 rw [Ziz (List.length_eq_zero_iff.1 (by omega))]; exact ⟨rfl,rfl⟩
theorem Zrn (h : ((Y3 M l (t.take k) fr).length : Int) ≠ 0) (hk : t.length ≤ k) : Xm (Y3 M l (t.take k) fr) = ZY (Zd3 M l t fr) ∧ true = (Zd3 M l t fr).isSome:=by
 rw [List.take_of_length_le hk] at h ⊢
 rw [Zi0 (fun e=>h (by rw [e]; rfl))]; exact ⟨rfl,rfl⟩
end
end Go.Civ
namespace Go.Civ
open Go.RowKit
open Go.Lib (compact)
section
variable {M : List Val → List Val → Bool} {l : List HRow} {r : HRow} {fr : Int}
theorem Zo6 : (compact (XO (Y2 r fr :: Xd M l r fr))).length ≤ l.length + 1:=by
 have h1:=Zf7 (XO (Y2 r fr :: Xd M l r fr))
 have h2 : (Xd M l r fr).length ≤ l.length:=by unfold Xd; rw [List.length_map]; exact List.length_filter_le _ _
 have h3:=(ZdT (Y2 r fr :: Xd M l r fr)).length_eq
 simp only [List.length_cons] at h3
 omega
theorem ZtD {α : Type} {l : List α} (h : ((l.length : Nat) : Int) ≠ 0) : l ≠ []:=fun e=>h (by rw [e]; rfl)
theorem Zq1 {q : List Pt} {x : Pt} (h : q[0]? = some x) : x = Xm (q.take 1):=by
 cases q with
 | nil=>cases h
 | cons a r=>obtain rfl:=Option.some.inj h; rfl
theorem Zi1 {q : List Pt} {x : Pt} {k : Nat} (h : q[k]? = some x) (hk : 1 ≤ k) : Xm (q.take (k + 1)) = QX (Xm (q.take k)) x:=by
 cases q with
 | nil=>cases h
 | cons a r=>exact Zob h hk
end
end Go.Civ
namespace Go.Civ
open Go.RowKit
set_option linter.unusedVariables false
abbrev Zk1 (t o : Table) (f : Foreign) : Option Pt:=Za5 ⟨t,o,f⟩ (-62135596800)
section
variable {t o : Table} {f : Foreign} {tx fr : Int}
section
variable {M : List Val → List Val → Bool} {l : List HRow} {fs : List Fact} {k : Nat} {x : Fact}
end
end
def rM (t o : Schema) (cs : List (List UInt8)) (v u : List Val) : Bool:=decide (u.take o.key.toNat = Zb4 t cs v)
theorem ZuR {t o : Schema} {cs : List (List UInt8)} (h : (cs.length : Int) = o.key) : rM t o cs = mtB t cs:=by
 funext v u
 unfold rM mtB
 rw [show o.key.toNat = cs.length by omega]
def YS (t o : Table) (f : Foreign) (fr : Int) : Option Pt:=Zqt (rM t.s o.s f.cols) o.rows t.rows fr
section
variable {t o : Table} {f : Foreign} {tx fr : Int}
theorem Zsn {x : Link} (hk : LinkOk x) : YS x.t x.o x.f fr = Za5 x fr:=by
 unfold YS Za5
 rw [ZuR hk.key]; exact Zt9 (ZW hk.o).1 (ZW hk.t).1
end
end Go.Civ
