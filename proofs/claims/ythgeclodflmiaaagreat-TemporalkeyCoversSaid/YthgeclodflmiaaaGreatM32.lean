/- Lemmas. -/
import Derived.Test.YthgeclodflmiaaaGreatM13
import Derived.Test.YthgeclodflmiaaaGreatM22
import Derived.Test.YthgeclodflmiaaaGreatM24
import Derived.Test.YthgeclodflmiaaaGreatM26
import Derived.Test.YthgeclodflmiaaaGreatM28
import Derived.Test.YthgeclodflmiaaaGreatM31
import Derived.Test.YthgeclodflmiaaaGreatProg
import Derived.KernelRfl
import Derived.WalkKit
namespace Go.Civ
open Go.RowKit
set_option linter.unusedVariables false
def addN (out : VV) (m : List Val) : VV:=if out.any (fun l=>decide (l = m)) then out else out ++ [m]
section
variable {d : Nat} {c : Cond} {ns : List (List UInt8)} {set : List Val} {mask : List Bool} {b : VV}
end
section
variable {t : Table} {tx at_ later past : Int} {d : Span} {u : List Val}
end
end Go.Civ
namespace Go.Civ
section
variable {t : Table} {tx at_ later past : Int} {d : Span} {v : List Val} {b : VV} {k : Nat} {c : Cond} {ns : List (List UInt8)} {set : List Val} {mask : List Bool} {l : List Val}
end
end Go.Civ
namespace Go.Civ
open Go.RowKit
set_option linter.unusedVariables false
def ZhG (k : Nat) (v u : List Val) : Bool:=decide (u.take k = v.take k)
def Zb1 (k : Nat) (v : List Val) (tx : Int) (d : Span) (r : HRow) : List HRow:=
 if r.r.x.b = 253402300800 ∧ ZhG k v r.v = true ∧ ZL 3 [r.r.d] [d] ≠ [r.r.d] then Xx r.v (ZL 3 [r.r.d] [d]) tx 253402300800 ++ [⟨r.v,⟨r.r.d,⟨r.r.x.a,tx⟩⟩⟩] else [r]
def Zcw (k : Nat) (l : List HRow) (tx : Int) (v : List Val) (d : Span) : List HRow:=⟨v,⟨d,⟨tx,253402300800⟩⟩⟩ :: l.flatMap (Zb1 k v tx d)
theorem Ziy {p q : Span} (hp : p.a < p.b) (hq : q.a < q.b) : ZL 3 [p] [q] = [p] ↔ ¬ (p.a < q.b ∧ q.a < p.b):=by
 constructor
 ·intro e k
  have h:=Zkp hp hq (a:=max p.a q.a)
  rw [e,XB] at h
  omega
 ·intro k
  have h:=QL (kind:=3) rfl (a:=[p]) (b:=[q]) (by simpa using hp) (by simpa using hq)
  refine Can.unique h.1 ⟨List.pairwise_singleton _ _,fun s hs=>by rw [List.mem_singleton.1 hs]; exact hp⟩ fun x=>?_
  rw [Zkp hp hq,XB]
  constructor
  ·exact fun z=>z.1
  ·intro z; exact ⟨z,by omega⟩
section
variable {k : Nat} {l : List HRow} {tx : Int} {v u : List Val} {d : Span} {r : HRow} {a y : Int}
end
theorem Zl3 (w : List Val) : ∀ {vs : VV},vs.Nodup → (vs.map fun v=>if w = v then 1 else 0).sum ≤ 1
 | [],_=>Nat.zero_le _
 | v :: vs,h=>by
  obtain ⟨h1,h2⟩:=List.nodup_cons.1 h
  have ih:=Zl3 w h2
  rw [List.map_cons,List.sum_cons]
  by_cases e : w = v
  ·have z : ∀ {us : VV},w ∉ us → (us.map fun v=>if w = v then 1 else 0).sum = 0:=by
    intro us
    induction us with
    | nil=>intro _; rfl
    | cons x us ih=>intro h; rw [List.map_cons,List.sum_cons,if_neg (fun q=>h (by simp [q])),ih (fun q=>h (by simp [q]))]
   rw [if_pos e,z (by rw [e]; exact h1)]
   exact Nat.le_refl _
  ·rw [if_neg e]; omega
theorem Zl4 {vs : VV} (h : vs.Nodup) : ∀ (l : List HRow),(vs.map fun v=>(YM l v).length).sum ≤ l.length
 | []=>by
  have : ∀ {us : VV},(us.map fun v=>(YM [] v).length).sum = 0:=by
   intro us
   induction us with
   | nil=>rfl
   | cons x us ih=>rw [List.map_cons,List.sum_cons,ih]; rfl
  rw [this]; exact Nat.le_refl _
 | r :: l=>by
  have ih:=Zl4 h l
  have e : ∀ v,(YM (r :: l) v).length = (YM l v).length + if r.v = v then 1 else 0:=fun v=>by
   unfold YM
   rw [List.filter_cons]
   by_cases q : r.v = v <;> simp [q]
  have s : ∀ {us : VV},(us.map fun v=>(YM (r :: l) v).length).sum = (us.map fun v=>(YM l v).length).sum + (us.map fun v=>if r.v = v then 1 else 0).sum:=by
   intro us
   induction us with
   | nil=>rfl
   | cons x us ih=>rw [List.map_cons,List.sum_cons,List.map_cons,List.sum_cons,List.map_cons,List.sum_cons,ih,e]; omega
  have:=Zl3 r.v h
  rw [s,List.length_cons]; omega
end Go.Civ
namespace Go.Civ
open Go.RowKit
set_option linter.unusedVariables false
theorem Zoq {s : Schema} (h : Yt s = true) : 1 ≤ s.key ∧ s.key ≤ s.cols.length ∧ s.cols.length ≤ 8 ∧ Zaj (s.cols.map Col.name) = true:=by
 unfold Yt XO at h
 simp only [Bool.and_eq_true,decide_eq_true_eq] at h
 obtain ⟨⟨⟨⟨⟨⟨_,h2⟩,h3⟩,h4⟩,h5⟩,h6⟩,h7⟩:=h.1
 exact ⟨h4,h5,h3,h7⟩
section
variable {cols : List Col} {v u : List Val}
end
section
variable {s : Schema} {v u : List Val} {k : Nat}
end
theorem Zor {hl : List Val → Bool} {nx : List Val → Option (List Val)} {tx : Int} {d : Span} {t : Table} (hc : ChgOk t tx d nx) (hn : ∀ r ∈ t.rows,∀ v,nx r.v = some v → YU t.s v = 0) : ∀ q ∈ Za6 hl nx tx d t.rows,YA t.s tx q = true:=fun q hq=>by
 have hp:=Yz hc.valid
 have hg:=(Zkb (hl:=hl) hc).1 q hq
 obtain ⟨r,hr,h⟩:=List.mem_flatMap.1 hq
 have hro:=hp.2.2.2.2.1 r hr
 obtain ⟨p1,p2,p3,p4⟩:=Qd hro
 have hla:=hc.late
 rcases Zoe h with h | ⟨h1,h2⟩ | ⟨h1,h2⟩
 ·rw [h]; exact Zko hro hla
 ·exact ZbF (by rw [h1]; exact p1) hg (by rw [h2]; simp only; omega) (by rw [h2]; simp only; omega)
 ·refine ZbF ?_ hg (by rw [h2]; exact Int.le_refl _) (by rw [h2]; exact .inr rfl)
  rcases h1 with h1 | h1
  ·rw [h1]; exact p1
  ·exact hn r hr _ h1
section
variable {k : Nat} {l : List HRow} {tx : Int} {v u : List Val} {d : Span} {r q : HRow} {a y : Int} {t : Table}
theorem Zos (hr : Yo r = true) (hd : ZF d = true) (h : q ∈ Zb1 k v tx d r) : q ∈ Zbu (ZhG k v) (fun _=>none) tx d r:=by
 have hp:=Y3 (ZS hr).2.1
 have hq:=Y3 hd
 have ds:=Ziy hp hq
 by_cases hc : (ZcC d r && ZhG k v r.v) = true
 ·have hc' : ZcC d r = true ∧ ZhG k v r.v = true:=by simpa using hc
  obtain ⟨t1,t2,t3⟩:=Zin.1 hc'.1
  unfold Zb1 at h
  unfold Zbu
  rw [if_pos ⟨t1,hc'.2,fun e=>ds.1 e ⟨t2,t3⟩⟩] at h
  rw [if_pos hc]
  rcases List.mem_append.1 h with h | h
  ·simp [h]
  ·simp only [List.mem_append]; exact .inl (.inl h)
 ·unfold Zb1 at h
  unfold Zbu
  rw [if_neg hc]
  rw [if_neg] at h
  ·exact h
  ·rintro ⟨z1,z2,z3⟩
   refine z3 (ds.2 fun z=>hc ?_)
   rw [z2,Zin.2 ⟨z1,z.1,z.2⟩]; rfl
theorem Zsx {rows : List HRow} : ZtI (fun _=>none) rows:=fun r hr v hv=>by cases hv
theorem Zsy (H : InsOk t tx v d) : ChgOk t tx d (fun _=>none):=⟨H.valid,H.span,H.inst,H.late,Zsx⟩
theorem Zsz (H : InsOk t tx v d) : YA t.s tx ⟨v,⟨d,⟨tx,253402300800⟩⟩⟩ = true:=by
 have hb:=Qc H.inst
 refine ZbF H.row ?_ (Int.le_refl _) (.inr rfl)
 have:=H.span
 unfold Yo
 simp only [(ZaY H.row).2.1,H.span,Bool.true_and]
 unfold ZF
 simp; omega
theorem Zfg (H : InsOk t tx v d) : ∀ q ∈ Zcw k t.rows tx v d,YA t.s tx q = true:=fun q hq=>by
 rcases List.mem_cons.1 hq with rfl | hq
 ·exact Zsz H
 ·obtain ⟨r,hr,h⟩:=List.mem_flatMap.1 hq
  exact Zor (hl:=ZhG k v) (Zsy H) (fun _ _ _ h=>by cases h) q (List.mem_flatMap.2 ⟨r,hr,Zos ((ZD H.valid).1 r hr) H.span h⟩)
theorem Zqw (H : InsOk t tx v d) : Z2 (Zcw k t.rows tx v d):=fun q hq=>(Qd (Zfg H q hq)).2.1
theorem Zot (hr : Yo r = true) (hd : ZF d = true) : (Zb1 k v tx d r).length ≤ 3:=by
 have hp:=Y3 (ZS hr).2.1
 have hq:=Y3 hd
 unfold Zb1
 split
 ·rename_i h
  have hov : r.r.d.a < d.b ∧ d.a < r.r.d.b:=by
   refine Classical.byContradiction fun z=>h.2.2 ((Ziy hp hq).2 z)
  have htc:=Zef (ZS hr).2.1 hd hov.1 hov.2
  have hpl:=Zha r.r.d d
  have h2 : (ZL 3 [r.r.d] [d]).length ≤ 2:=by rw [htc]; exact hpl
  have hol : (Xx r.v (ZL 3 [r.r.d] [d]) tx 253402300800).length = (ZL 3 [r.r.d] [d]).length:=by unfold Xx; rw [List.length_map]
  rw [List.length_append,hol,List.length_singleton]; omega
 ·simp
theorem Zl6 (hg : Z2 l) (hd : ZF d = true) : ∀ n,((l.take n).flatMap (Zb1 k v tx d)).length ≤ 3 * n
 | 0=>by simp
 | n + 1=>by
  have ih:=Zl6 hg hd n
  rw [List.take_add_one,List.flatMap_append,List.length_append]
  cases e : l[n]? with
  | none=>simp only [Option.toList,List.flatMap_nil,List.length_nil]; omega
  | some r=>
   have:=Zot (k:=k) (v:=v) (tx:=tx) (hg r (List.mem_of_getElem? e)) hd
   simp only [Option.toList,List.flatMap_cons,List.flatMap_nil,List.append_nil]; omega
end
def X8 (t : Table) (tx : Int) (v : List Val) (d : Span) : List HRow:=Zcw t.s.key.toNat t.rows tx v d
def Y0 (t : Table) (tx : Int) (v : List Val) (d : Span) : Table:=if Xo t then (if Yw t tx v d = 0 then (if Q1 (X8 t tx v d) = 0 then ⟨(ZN t tx v d).s,XT (X8 t tx v d),(ZN t tx v d).last⟩ else noT) else noT) else noT
def Zcd (t : Table) (tx : Int) (v : List Val) (d : Span) : Int:=if Xo t then (if Yw t tx v d = 0 then Q1 (X8 t tx v d) else Yw t tx v d) else 1
section
variable {t : Table} {tx : Int} {v : List Val} {d : Span}
theorem Zrv (h : Xo t = false) : noT = Y0 t tx v d ∧ 1 = Zcd t tx v d:=by unfold Y0 Zcd; rw [h]; exact ⟨rfl,rfl⟩
theorem Zrw (h : Xo t = true) (h1 : Yw t tx v d ≠ 0) : noT = Y0 t tx v d ∧ Yw t tx v d = Zcd t tx v d:=by unfold Y0 Zcd; rw [h,if_pos rfl,if_pos rfl,if_neg h1,if_neg h1]; exact ⟨rfl,rfl⟩
theorem Zrx (h : Xo t = true) (h1 : Yw t tx v d = 0) (h2 : Q1 (X8 t tx v d) ≠ 0) : noT = Y0 t tx v d ∧ Q1 (X8 t tx v d) = Zcd t tx v d:=by unfold Y0 Zcd; rw [h,if_pos rfl,if_pos rfl,if_pos h1,if_pos h1,if_neg h2]; exact ⟨rfl,rfl⟩
theorem ZmH (h : Xo t = true) (h1 : Yw t tx v d = 0) (h2 : Q1 (X8 t tx v d) = 0) : (⟨(ZN t tx v d).s,XT (X8 t tx v d),(ZN t tx v d).last⟩ : Table) = Y0 t tx v d ∧ 0 = Zcd t tx v d:=by
 unfold Y0 Zcd; rw [h,if_pos rfl,if_pos rfl,if_pos h1,if_pos h1,if_pos h2,h2]; exact ⟨rfl,rfl⟩
end
section
variable {t : Table} {tx : Int} {v u : List Val} {d : Span} {a y : Int}
structure MrgP (t : Table) (tx : Int) (v : List Val) (d : Span) : Prop where
 ins : InsOk t tx v d
 e : Zcd t tx v d = 0
 is : Y0 t tx v d = ⟨t.s,ZT (X8 t tx v d),tx⟩
 valid : Zo (Y0 t tx v d) = true
theorem Zou (hu : Xo t = true) (h : Yw t tx v d = 0) (hl : (ZT (X8 t tx v d)).length ≤ 500) (hm : (X8 t tx v d).length ≤ 1000) : MrgP t tx v d:=by
 have H:=ZeV h
 have hg:=Zqw (k:=t.s.key.toNat) H
 have hE : Q1 (X8 t tx v d) = 0 ∧ XT (X8 t tx v d) = ZT (X8 t tx v d):=by
  have:=Zgg (l:=X8 t tx v d) (by omega) (Zqj hg) (by omega)
  exact ⟨this.2,this.1⟩
 have h4:=ZmH hu h hE.1
 have hs : (ZN t tx v d).s = t.s:=by rw [H.new.is]
 have hlast : (ZN t tx v d).last = tx:=by rw [H.new.is]
 have his : Y0 t tx v d = ⟨t.s,ZT (X8 t tx v d),tx⟩:=by rw [← h4.1,hs,hlast,hE.2]
 refine ⟨H,h4.2.symm,his,?_⟩
 rw [his]
 exact (Zoc (Yz H.valid).1 H.inst (Zfg H) hl).valid
end
end Go.Civ
namespace Go.Civ
open Go.RowKit
set_option linter.unusedVariables false
def Qn (t : Table) (e : Int) : Table:=if e = 0 then (if (Zw t).isSome then noT else t) else noT
def Zce (t : Table) (e : Int) : Int:=if e = 0 then (if (Zw t).isSome then 14 else 0) else e
section
variable {t : Table} {e : Int}
theorem Zry (h : e ≠ 0) : noT = Qn t e ∧ e = Zce t e:=by unfold Qn Zce; rw [if_neg h,if_neg h]; exact ⟨rfl,rfl⟩
theorem Zrz (h : e = 0) (h2 : (Zw t).isSome = true) : noT = Qn t e ∧ 14 = Zce t e:=by unfold Qn Zce; rw [if_pos h,if_pos h,h2]; exact ⟨rfl,rfl⟩
theorem Zr0 (h : e = 0) (h2 : (Zw t).isSome = false) : t = Qn t e ∧ 0 = Zce t e:=by unfold Qn Zce; rw [if_pos h,if_pos h,h2]; exact ⟨rfl,rfl⟩
end
def Zy (t : Table) (tx : Int) (v : List Val) (d : Span) : Table:=if Xo t then Qn (ZN t tx v d) (Yw t tx v d) else noT
def QZ (t : Table) (tx : Int) (v : List Val) (d : Span) : Int:=if Xo t then Zce (ZN t tx v d) (Yw t tx v d) else 1
section
variable {t : Table} {tx : Int} {v set : List Val} {d : Span} {k : Nat} {c : Cond} {mask : List Bool}
theorem Zov (h : Xo t = false) : noT = Zy t tx v d ∧ 1 = QZ t tx v d:=by unfold Zy QZ; rw [h]; exact ⟨rfl,rfl⟩
theorem Zhp (h : Xo t = true) : Qn (ZN t tx v d) (Yw t tx v d) = Zy t tx v d ∧ Zce (ZN t tx v d) (Yw t tx v d) = QZ t tx v d:=by unfold Zy QZ; rw [h]; exact ⟨rfl,rfl⟩
theorem Zow (h : Yw t tx v d = 0) : Zo (ZN t tx v d) = true:=(ZeV h).new.valid
end
theorem Zox {t : Table} (h : Zo t = false) : HRow.mk [] (Rect.mk (Span.mk 0 0) (Span.mk 0 0)) = QY t ∧ false = Xo t:=by unfold QY Xo; rw [h]; exact ⟨rfl,rfl⟩
theorem Zoy {t : Table} (h : Zo t = true) (h2 : (Zw t).isSome = true) : ZJ (some (ZK (Zw t))) = QY t ∧ false = Xo t:=by
 unfold QY Xo; rw [h]
 cases e : Zw t with
 | none=>rw [e] at h2; cases h2
 | some p=>exact ⟨rfl,rfl⟩
theorem Zoz {t : Table} (h : Zo t = true) (h2 : (Zw t).isSome = false) : HRow.mk [] (Rect.mk (Span.mk 0 0) (Span.mk 0 0)) = QY t ∧ true = Xo t:=by
 unfold QY Xo; rw [h]
 cases e : Zw t with
 | none=>exact ⟨rfl,rfl⟩
 | some p=>rw [e] at h2; cases h2
theorem Zhq {t : Table} (hv : Zo t = true) (h : (Zw t).isSome = true) : ZM (ZK (Zw t)).tx = true ∧ ZM (ZK (Zw t)).vd = true:=by
 by_cases e : Xz t.s.key.toNat t.rows = []
 ·rw [Zhm e] at h; cases h
 ·have hm:=Zcq (Zkq (k:=t.s.key.toNat) (ZD hv).1) e
  unfold Zw
  rw [Zej e]
  have h9:=Zir hv hm.1
  exact h9
def Zh (nm : List UInt8) : List Val:=[⟨1,1,[]⟩,⟨2,0,nm⟩]
abbrev Qq : Schema:=⟨[112,101,111,112,108,101],[⟨[105,100],1⟩,⟨[110,97,109,101],2⟩],1,[]⟩
def peopR : List HRow:=[⟨Zh [97],⟨⟨0,10⟩,⟨5,253402300800⟩⟩⟩]
def Zx : Table:=⟨Qq,peopR,5⟩
def peopR2 : List HRow:=[⟨Zh [97],⟨⟨0,10⟩,⟨5,253402300800⟩⟩⟩,⟨Zh [98],⟨⟨5,20⟩,⟨6,253402300800⟩⟩⟩]
def peopR3 : List HRow:=[⟨Zh [97],⟨⟨0,10⟩,⟨5,6⟩⟩⟩,⟨Zh [97],⟨⟨0,5⟩,⟨6,253402300800⟩⟩⟩,⟨Zh [98],⟨⟨5,20⟩,⟨6,253402300800⟩⟩⟩]
theorem ZtO : Yt Qq = true:=by decide
theorem ZhH : Z5 Qq = ⟨Qq,[], -62135596801⟩ ∧ ZbE Qq = 0:=Zqd ZtO
theorem Zr1 : Zo ⟨Qq,[], -62135596801⟩ = true:=by rw [← ZhH.1]; exact Zm7 ZtO
theorem ZtP : ZT (QJ ⟨Qq,[], -62135596801⟩ 5 (Zh [97]) ⟨0,10⟩) = peopR:=by rw [Zd2 (Zm8 (by decide))]; decide
theorem Zl7 : ZN ⟨Qq,[], -62135596801⟩ 5 (Zh [97]) ⟨0,10⟩ = Zx ∧ Yw ⟨Qq,[], -62135596801⟩ 5 (Zh [97]) ⟨0,10⟩ = 0:=by
 have h:=Zb0 (t:=⟨Qq,[], -62135596801⟩) (tx:=5) (v:=Zh [97]) (d:=⟨0,10⟩) (ZhC Zr1 (by decide)) (by decide)
 rw [← h.1,← h.2]; unfold ZP Qk; rw [ZtP]; decide
theorem ZtQ : Xo ⟨Qq,[], -62135596801⟩ = true:=by unfold Xo; rw [Zr1]; rfl
theorem Zo0 : Zw Zx = none:=Zhm (by decide)
theorem Zfh : Zy (Z5 Qq) 5 (Zh [97]) ⟨0,10⟩ = Zx ∧ QZ (Z5 Qq) 5 (Zh [97]) ⟨0,10⟩ = 0:=by
 rw [ZhH.1]
 have h:=Zhp (t:=⟨Qq,[], -62135596801⟩) (tx:=5) (v:=Zh [97]) (d:=⟨0,10⟩) ZtQ
 rw [← h.1,← h.2,Zl7.1,Zl7.2]
 unfold Qn Zce; rw [Zo0]; exact ⟨rfl,rfl⟩
theorem Zr2 : Zo Zx = true:=by rw [← Zn4]; decide
theorem Zo1 : Xo Zx = true:=by unfold Xo; rw [Zr2,Zo0]; rfl
theorem ZtR : ZT (QJ Zx 6 (Zh [98]) ⟨5,20⟩) = peopR2:=by rw [Zd2 (Zm8 (by decide))]; decide
theorem Zgr : ZN Zx 6 (Zh [98]) ⟨5,20⟩ = ⟨Qq,peopR2,6⟩ ∧ Yw Zx 6 (Zh [98]) ⟨5,20⟩ = 0:=by
 have h:=Zb0 (t:=Zx) (tx:=6) (v:=Zh [98]) (d:=⟨5,20⟩) (ZhC Zr2 (by decide)) (by decide)
 rw [← h.1,← h.2]; unfold ZP Qk; rw [ZtR]; decide
theorem ZtS : (Zw ⟨Qq,peopR2,6⟩).isSome = true:=by unfold Zw; rw [Zej (by decide)]; rfl
theorem ZtT : QZ Zx 6 (Zh [98]) ⟨5,20⟩ = 14:=by
 have h:=Zhp (t:=Zx) (tx:=6) (v:=Zh [98]) (d:=⟨5,20⟩) Zo1
 rw [← h.2,Zgr.1,Zgr.2]
 unfold Zce; rw [ZtS]; rfl
theorem Zo2 : ZT (X8 Zx 6 (Zh [98]) ⟨5,20⟩) = peopR3:=by unfold X8; rw [Zd2 (Zm8 (by decide))]; decide
theorem ZmI : MrgP Zx 6 (Zh [98]) ⟨5,20⟩:=Zou Zo1 Zgr.2 (by rw [Zo2]; decide) (by decide)
theorem ZtU : Y0 Zx 6 (Zh [98]) ⟨5,20⟩ = ⟨Qq,peopR3,6⟩:=by rw [ZmI.is,Zo2]; rfl
theorem Zk1 : Qb (Y0 Zx 6 (Zh [98]) ⟨5,20⟩) 6 = [⟨Zh [97],⟨0,5⟩⟩,⟨Zh [98],⟨5,20⟩⟩]:=by
 rw [ZtK ZmI.valid (by decide),ZtU]; decide
theorem Zs0 : (((Qb (Y0 Zx 6 (Zh [98]) ⟨5,20⟩) 6).length : Nat) : Int) = 2:=by rw [Zk1]; rfl
theorem Zvi {x : Fact} (h : (Qb (Y0 Zx 6 (Zh [98]) ⟨5,20⟩) 6)[0]? = some x) : x.t = ⟨0,5⟩:=by rw [Zk1] at h; obtain rfl:=Option.some.inj h; rfl
theorem Zvj {x : Fact} (h : (Qb (Y0 Zx 6 (Zh [98]) ⟨5,20⟩) 6)[1]? = some x) : x.t = ⟨5,20⟩:=by rw [Zk1] at h; obtain rfl:=Option.some.inj h; rfl
end Go.Civ
namespace Go.Civ
open Go.RowKit
set_option linter.unusedVariables false
def Zak (K : Nat) (l : List HRow) (tx : Int) (v : List Val) (d : Span) (k : Nat) : List HRow:=⟨v,⟨d,⟨tx,253402300800⟩⟩⟩ :: (l.take k).flatMap (Zb1 K v tx d)
section
variable {K k : Nat} {l : List HRow} {tx : Int} {v : List Val} {d : Span} {r : HRow}
theorem Zhr (h : l[k]? = some r) : Zak K l tx v d (k + 1) = Zak K l tx v d k ++ Zb1 K v tx d r:=by
 unfold Zak
 rw [List.take_add_one,h]; simp
theorem ZbG (h : l[k]? = some r) (hc : r.r.x.b ≠ 253402300800 ∨ decide (r.v.take K = v.take K) = false ∨ decide (ZL 3 [r.r.d] [d] = [r.r.d]) = true) : Zak K l tx v d (k + 1) = Zak K l tx v d k ++ [r]:=by
 rw [Zhr h]
 unfold Zb1
 rw [if_neg]
 rintro ⟨z1,z2,z3⟩
 rcases hc with hc | hc | hc
 ·exact hc z1
 ·unfold ZhG at z2; rw [z2] at hc; cases hc
 ·exact z3 (of_decide_eq_true hc)
theorem Ziz (h : l[k]? = some r) (h1 : r.r.x.b = 253402300800) (h2 : decide (r.v.take K = v.take K) = true) (h3 : decide (ZL 3 [r.r.d] [d] = [r.r.d]) = false) :
  Zak K l tx v d (k + 1) = (Zak K l tx v d k ++ Xx r.v (ZL 3 [r.r.d] [d]) tx 253402300800) ++ [⟨r.v,⟨r.r.d,⟨r.r.x.a,tx⟩⟩⟩]:=by
 rw [Zhr h,List.append_assoc]
 unfold Zb1
 rw [if_pos ⟨h1,h2,of_decide_eq_false h3⟩]
theorem Zo3 (h : l.length ≤ k) : Zak K l tx v d k = Zcw K l tx v d:=by unfold Zak Zcw; rw [List.take_of_length_le h]
theorem Zo4 (hg : Z2 l) (hd : ZF d = true) : (Zak K l tx v d k).length ≤ 3 * k + 1:=by
 unfold Zak
 rw [List.length_cons]
 have:=Zl6 (k:=K) (v:=v) (tx:=tx) hg hd k
 omega
theorem Zqy {r : HRow} (hr : Yo r = true) (hd : ZF d = true) : (ZL 3 [r.r.d] [d]).length ≤ 4:=by
 have h:=ZbT (kind:=3) (a:=[r.r.d]) (b:=[d])
 simpa using h
theorem Zqz {α : Type} {l : List α} {x : α} (h : l[k]? = some x) : l.set k x = l:=by
 obtain ⟨h1,h2⟩:=List.getElem?_eq_some_iff.1 h
 rw [← h2]; exact List.set_getElem_self h1
theorem Zq0 {t : Table} (H : InsOk t tx v d) : t.s.key ≤ v.length:=by
 have h1:=ZaY H.row
 have h2:=Zoq (Yz H.valid).1
 omega
theorem ZtV {t : Table} (H : InsOk t tx v d) : ∀ r ∈ Zcw K t.rows tx v d,r.v.length ≤ 1000:=fun r hr=>by
 have h:=Zfg H r hr
 exact Nat.le_trans (ZaY (Qd h).1).1 (by decide)
end
end Go.Civ
namespace Go.Civ
open Go.RowKit
set_option linter.unusedVariables false
def Zk2 (x : HRow) : Bool:=decide (20 < (x.v.length : Int))
def Zb3 (t : Table) : Bool:=decide ((t.rows.length : Int) ≤ 24) && decide ((t.s.cols.length : Int) ≤ 10) && decide ((t.s.fks.length : Int) ≤ 10) && !t.rows.any Zk2
theorem Zs2 : Cmp.b .eql (((Zy (Z5 Qq) 5 (Zh [97]) ⟨0,10⟩).rows.length : Nat) : Int) 1 = true:=by rw [Zfh.1]; rfl
end Go.Civ
set_option linter.unusedVariables false
set_option linter.unusedSimpArgs false
set_option maxRecDepth 100000
set_option maxHeartbeats 4000000
namespace Go.Civ
open Go.Proofs
theorem Zs3 {G : GH} {w : World} (hG : G.In w) (x : Int) : CL Tryz.prog (nat_lit 34) #[.int .i64 x] [] w G fun _ _ r=>r = .bool (ZM x):=by
 refine Zg ft [] Tryz.func34 rfl rfl ?_
 have hS:=St.start (X:=[]) hG
 refine XE x (-62135596800) rfl rfl rfl (fun h1=>?_) (fun h1=>?_)
 ·refine ZZ .lss rfl .i64 x 253402300800 rfl rfl rfl ?_
  exact RB hS rfl (by unfold ZM; simp_all [Cmp.b] <;> (first | omega | (intros; omega) | (rw [Bool.eq_iff_iff]; simp <;> omega) | (rw [Bool.eq_iff_iff]; simp_all <;> omega)))
 exact RB hS rfl (by unfold ZM; simp_all [Cmp.b] <;> (omega))
theorem Zq3 {G : GH} {w : World} (hG : G.In w) (a b : List Fact) (va : Value) (hva : Sl Xj 40 G va a) (vb : Value) (hvb : Sl Xj 40 G vb b) : CL Tryz.prog (nat_lit 35) #[va,vb] [] w G fun _ _ r=>r = .bool (decide (a = b)):=by
 refine Zg ft [] Tryz.func35 rfl rfl ?_
 have hS:=St.start (X:=[]) hG
 have bd1:=hva.bound
 refine Zi hva YS rfl rfl ?_
 have bd2:=hvb.bound
 refine Zi hvb YS rfl rfl ?_
 refine YO (a.length : Int) (b.length : Int) rfl rfl rfl (fun h1=>?_) (fun h1=>?_)
 ·exact RB hS rfl (by rw [← Xp]; first | exact (XF (by omega)).symm | exact (Qh (f:=fun (x y : Fact)=>decide (x = y)) ‹_› ‹_› (decide_eq_false (by rintro rfl; first | exact absurd rfl ‹_› | simp_all))).symm | exact (XS (by omega) ‹_› (by omega)).symm)
 refine LP.go ft [] (fun m ρ1 w1=>∃ (k1 : Nat),∃ (G1 : GH),m = a.length - k1 ∧ G.le G1 ∧ St w [] G G1 [] w1 ∧ FR ρ1 [(0,va),(1,vb),(5, .int .i64 (k1 : Int))] ∧ k1 ≤ a.length ∧ ∀ j,j < k1 → ∀ x y,a[j]? = some x → b[j]? = some y → decide (x = y) = true) _ ⟨0,G,rfl,(G.le_refl),hS,⟨rfl,rfl,rfl,trivial⟩,(by omega),(by intro j hj; omega)⟩ ?_
 rintro m ρ1 w1 ⟨k1,G1,rfl,hle1,hS1,hF9,f1,f2⟩
 refine hF9.set ?_
 clear hF9
 have bd3:=hva.bound
 refine Zi (hva.mono hle1) YS rfl rfl ?_
 refine Zl (k1 : Int) (a.length : Int) rfl rfl rfl (fun h2=>?_) (fun h2=>?_)
 ·obtain ⟨p1,x1,hx1,he1,ep1⟩:=Sl.at (hva.mono hle1) k1 (by omega)
  obtain ⟨cs1,hc1,hr1⟩:=he1
  obtain ⟨v1,rfl,hs1,hb1,hb2⟩:=YY hr1
  obtain ⟨p2,x2,hx2,he2,ep2⟩:=Sl.at (hvb.mono hle1) k1 (by omega)
  obtain ⟨cs2,hc2,hr2⟩:=he2
  obtain ⟨v2,rfl,hs2,hb3,hb4⟩:=YY hr2
  rcases Bool.eq_false_or_eq_true (decide (x1.v = x2.v)) with h3 | h3
  ·obtain ⟨p3,x3,hx3,he3,ep3⟩:=Sl.at (hva.mono hle1) k1 (by omega)
   obtain rfl : x1 = x3:=Option.some.inj (hx1.symm.trans hx3)
   obtain ⟨cs3,hc3,hr3⟩:=he3
   obtain ⟨v3,rfl,hs3,hb5,hb6⟩:=YY hr3
   obtain ⟨p4,x4,hx4,he4,ep4⟩:=Sl.at (hvb.mono hle1) k1 (by omega)
   obtain rfl : x2 = x4:=Option.some.inj (hx2.symm.trans hx4)
   obtain ⟨cs4,hc4,hr4⟩:=he4
   obtain ⟨v4,rfl,hs4,hb7,hb8⟩:=YY hr4
   rcases Cmp.dec .neq x1.t.a x2.t.a with ⟨hb9,q1⟩ | ⟨hb9,q1⟩
   ·have h4 : x1.t.a ≠ x2.t.a:=q1
    clear q1
    refine dr [] [(19, .pointer (some p1)),(21,v1),(24, .pointer (some p2)),(26,v2),(27, .bool true),(32, .pointer (some p3)),(35, .int .i64 x1.t.a),(38, .pointer (some p4)),(41, .int .i64 x2.t.a),(42, .bool true)] hS1 ⟨fun _=>Ze k1 ep1 YS Xl rfl rfl rfl rfl <| nu rfl rfl,fun _ hSw=>Za hSw (XV.drop 0 hc1) Z9 rfl rfl rfl <| nu rfl rfl,fun _=>Ze k1 ep2 YS Xl rfl rfl rfl rfl <| nu rfl rfl,fun _ hSw=>Za hSw (XV.drop 0 hc2) Z9 rfl rfl rfl <| nu rfl rfl,fun _ hSw=>Z4 hSw Zh0 rfl rfl rfl (Zdz hSw.imm x1.v x2.v _ hs1 _ hs2) (congrArg Value.bool h3.symm),fun _=>Ze k1 ep3 YS Xl rfl rfl rfl rfl <| nu rfl rfl,fun _ hSw=>Za hSw (XV.drop 0 (XV.drop 1 hc3)) Zn rfl rfl rfl <| nu rfl rfl,fun _=>Ze k1 ep4 YS Xl rfl rfl rfl rfl <| nu rfl rfl,fun _ hSw=>Za hSw (XV.drop 0 (XV.drop 1 hc4)) Zn rfl rfl rfl <| nu rfl rfl,fun _=>WL.cmpV .neq rfl .i64 x1.t.a x2.t.a _ hb9 rfl rfl rfl <| nu rfl rfl,trivial⟩ (fun w2 hS2=>?_)
    exact RB hS2 rfl (by rw [← Xp]; first | exact (XF (by omega)).symm | exact (Qh (f:=fun (x y : Fact)=>decide (x = y)) ‹_› ‹_› (decide_eq_false (by rintro rfl; first | exact absurd rfl ‹_› | simp_all))).symm | exact (XS (by omega) ‹_› (by omega)).symm)
   have h4 : x1.t.a = x2.t.a:=q1
   clear q1
   obtain ⟨p5,x5,hx5,he5,ep5⟩:=Sl.at (hva.mono hle1) k1 (by omega)
   obtain rfl : x1 = x5:=Option.some.inj (hx1.symm.trans hx5)
   obtain ⟨cs5,hc5,hr5⟩:=he5
   obtain ⟨v5,rfl,hs5,hb10,Y4⟩:=YY hr5
   obtain ⟨p6,x6,hx6,he6,ep6⟩:=Sl.at (hvb.mono hle1) k1 (by omega)
   obtain rfl : x2 = x6:=Option.some.inj (hx2.symm.trans hx6)
   obtain ⟨cs6,hc6,hr6⟩:=he6
   obtain ⟨v6,rfl,hs6,Xf,YT⟩:=YY hr6
   rcases Cmp.dec .neq x1.t.b x2.t.b with ⟨Xm,q2⟩ | ⟨Xm,q2⟩
   ·have h5 : x1.t.b ≠ x2.t.b:=q2
    clear q2
    refine dr [] [(19, .pointer (some p1)),(21,v1),(24, .pointer (some p2)),(26,v2),(27, .bool true),(32, .pointer (some p3)),(35, .int .i64 x1.t.a),(38, .pointer (some p4)),(41, .int .i64 x2.t.a),(42, .bool false),(47, .pointer (some p5)),(50, .int .i64 x1.t.b),(53, .pointer (some p6)),(56, .int .i64 x2.t.b),(57, .bool true)] hS1 ⟨fun _=>Ze k1 ep1 YS Xl rfl rfl rfl rfl <| nu rfl rfl,fun _ hSw=>Za hSw (XV.drop 0 hc1) Z9 rfl rfl rfl <| nu rfl rfl,fun _=>Ze k1 ep2 YS Xl rfl rfl rfl rfl <| nu rfl rfl,fun _ hSw=>Za hSw (XV.drop 0 hc2) Z9 rfl rfl rfl <| nu rfl rfl,fun _ hSw=>Z4 hSw Zh0 rfl rfl rfl (Zdz hSw.imm x1.v x2.v _ hs1 _ hs2) (congrArg Value.bool h3.symm),fun _=>Ze k1 ep3 YS Xl rfl rfl rfl rfl <| nu rfl rfl,fun _ hSw=>Za hSw (XV.drop 0 (XV.drop 1 hc3)) Zn rfl rfl rfl <| nu rfl rfl,fun _=>Ze k1 ep4 YS Xl rfl rfl rfl rfl <| nu rfl rfl,fun _ hSw=>Za hSw (XV.drop 0 (XV.drop 1 hc4)) Zn rfl rfl rfl <| nu rfl rfl,fun _=>WL.cmpV .neq rfl .i64 x1.t.a x2.t.a _ hb9 rfl rfl rfl <| nu rfl rfl,fun _=>Ze k1 ep5 YS Xl rfl rfl rfl rfl <| nu rfl rfl,fun _ hSw=>Za hSw (XV.drop 1 (XV.drop 1 hc5)) Zn rfl rfl rfl <| nu rfl rfl,fun _=>Ze k1 ep6 YS Xl rfl rfl rfl rfl <| nu rfl rfl,fun _ hSw=>Za hSw (XV.drop 1 (XV.drop 1 hc6)) Zn rfl rfl rfl <| nu rfl rfl,fun _=>WL.cmpV .neq rfl .i64 x1.t.b x2.t.b _ Xm rfl rfl rfl <| nu rfl rfl,trivial⟩ (fun w3 hS3=>?_)
    exact RB hS3 rfl (by rw [← Xp]; first | exact (XF (by omega)).symm | exact (Qh (f:=fun (x y : Fact)=>decide (x = y)) ‹_› ‹_› (decide_eq_false (by rintro rfl; first | exact absurd rfl ‹_› | simp_all))).symm | exact (XS (by omega) ‹_› (by omega)).symm)
   have h5 : x1.t.b = x2.t.b:=q2
   clear q2
   refine dr [] [(19, .pointer (some p1)),(21,v1),(24, .pointer (some p2)),(26,v2),(27, .bool true),(32, .pointer (some p3)),(35, .int .i64 x1.t.a),(38, .pointer (some p4)),(41, .int .i64 x2.t.a),(42, .bool false),(47, .pointer (some p5)),(50, .int .i64 x1.t.b),(53, .pointer (some p6)),(56, .int .i64 x2.t.b),(57, .bool false)] hS1 ⟨fun _=>Ze k1 ep1 YS Xl rfl rfl rfl rfl <| nu rfl rfl,fun _ hSw=>Za hSw (XV.drop 0 hc1) Z9 rfl rfl rfl <| nu rfl rfl,fun _=>Ze k1 ep2 YS Xl rfl rfl rfl rfl <| nu rfl rfl,fun _ hSw=>Za hSw (XV.drop 0 hc2) Z9 rfl rfl rfl <| nu rfl rfl,fun _ hSw=>Z4 hSw Zh0 rfl rfl rfl (Zdz hSw.imm x1.v x2.v _ hs1 _ hs2) (congrArg Value.bool h3.symm),fun _=>Ze k1 ep3 YS Xl rfl rfl rfl rfl <| nu rfl rfl,fun _ hSw=>Za hSw (XV.drop 0 (XV.drop 1 hc3)) Zn rfl rfl rfl <| nu rfl rfl,fun _=>Ze k1 ep4 YS Xl rfl rfl rfl rfl <| nu rfl rfl,fun _ hSw=>Za hSw (XV.drop 0 (XV.drop 1 hc4)) Zn rfl rfl rfl <| nu rfl rfl,fun _=>WL.cmpV .neq rfl .i64 x1.t.a x2.t.a _ hb9 rfl rfl rfl <| nu rfl rfl,fun _=>Ze k1 ep5 YS Xl rfl rfl rfl rfl <| nu rfl rfl,fun _ hSw=>Za hSw (XV.drop 1 (XV.drop 1 hc5)) Zn rfl rfl rfl <| nu rfl rfl,fun _=>Ze k1 ep6 YS Xl rfl rfl rfl rfl <| nu rfl rfl,fun _ hSw=>Za hSw (XV.drop 1 (XV.drop 1 hc6)) Zn rfl rfl rfl <| nu rfl rfl,fun _=>WL.cmpV .neq rfl .i64 x1.t.b x2.t.b _ Xm rfl rfl rfl <| nu rfl rfl,trivial⟩ (fun w4 hS4=>?_)
   refine Zj k1 (by have hreach : reach = 140737488355328:=rfl; omega) rfl rfl rfl ?_
   exact BK.mk' _ ⟨k1 + 1,G1,rfl,hle1,hS4,⟨rfl,rfl,rfl,trivial⟩,(by omega),(by exact Qg ‹_› ‹_› ‹_› (decide_eq_true (Zqc ‹_› ‹_› ‹_›)))⟩ (show a.length - (k1 + 1) < a.length - k1 by omega)
  refine dr [] [(19, .pointer (some p1)),(21,v1),(24, .pointer (some p2)),(26,v2),(27, .bool false)] hS1 ⟨fun _=>Ze k1 ep1 YS Xl rfl rfl rfl rfl <| nu rfl rfl,fun _ hSw=>Za hSw (XV.drop 0 hc1) Z9 rfl rfl rfl <| nu rfl rfl,fun _=>Ze k1 ep2 YS Xl rfl rfl rfl rfl <| nu rfl rfl,fun _ hSw=>Za hSw (XV.drop 0 hc2) Z9 rfl rfl rfl <| nu rfl rfl,fun _ hSw=>Z4 hSw Zh0 rfl rfl rfl (Zdz hSw.imm x1.v x2.v _ hs1 _ hs2) (congrArg Value.bool h3.symm),trivial⟩ (fun w5 hS5=>?_)
  exact RB hS5 rfl (by rw [← Xp]; first | exact (XF (by omega)).symm | exact (Qh (f:=fun (x y : Fact)=>decide (x = y)) ‹_› ‹_› (decide_eq_false (by rintro rfl; first | exact absurd rfl ‹_› | simp_all))).symm | exact (XS (by omega) ‹_› (by omega)).symm)
 exact RB hS1 rfl (by rw [← Xp]; first | exact (XF (by omega)).symm | exact (Qh (f:=fun (x y : Fact)=>decide (x = y)) ‹_› ‹_› (decide_eq_false (by rintro rfl; first | exact absurd rfl ‹_› | simp_all))).symm | exact (XS (by omega) ‹_› (by omega)).symm)
end Go.Civ
namespace Go.Civ
open Go.RowKit
set_option linter.unusedVariables false
theorem Zs8 {out : List Int} {x u : Int} {k : Nat} (h : out[k]? = some u) (h1 : x < u) : ∀ w,out[k]? = some w → x < w:=fun w hw=>by rw [h] at hw; obtain rfl:=Option.some.inj hw; exact h1
theorem ZmP {x : Int} (h1 : -62135596800 ≤ x) (h2 : x ≤ 253402300800) : Zz x ∧ x ≤ 253402300800:=⟨by constructor <;> omega,h2⟩
section
variable {l o : List HRow} {k : Nat} {x fr : Int}
theorem Zf8 (hg : Z2 l) {r : HRow} (hr : r ∈ l) : (Zz r.r.d.a ∧ r.r.d.a ≤ 253402300800) ∧ (Zz r.r.d.b ∧ r.r.d.b ≤ 253402300800) ∧ (Zz r.r.x.a ∧ r.r.x.a ≤ 253402300800) ∧ (Zz r.r.x.b ∧ r.r.x.b ≤ 253402300800):=by
 have h:=(ZS (hg r hr)).2
 unfold ZF at h
 simp at h
 exact ⟨ZmP (by omega) (by omega),ZmP (by omega) (by omega),ZmP (by omega) (by omega),ZmP (by omega) (by omega)⟩
end
section
variable {t : Table} {x y : Int} {k : Nat}
theorem ZoT (hv : Zo t = true) (y x : Int) : ∀ v ∈ YC t.rows y x,t.s.key ≤ v.length:=fun v h=>by
 rw [← Zbf (ZD hv).1,Zay (ZD hv).1] at h
 obtain ⟨r,hr,rfl,_⟩:=h
 exact Zf5 hv r hr
end
end Go.Civ
namespace Go.Civ
open Go.RowKit
set_option linter.unusedVariables false
section
variable {s t o : Schema} {f : Foreign} {cs : List (List UInt8)} {c nm : List UInt8} {v u : List Val} {k : Nat} {x : Col}
theorem ZoV {a : Val} (h : cs[k]? = some c) (h1 : v[(YL (s.cols.map Col.name) c).toNat]? = some a) : Zaz s (cs.take (k + 1)) v = Zaz s (cs.take k) v ++ [a]:=by
 unfold Zaz
 rw [List.take_add_one,h]; simp [Zes h1]
theorem ZqI (cs : List (List UInt8)) (k : Nat) : (Zaz s (cs.take k) v).length ≤ cs.length:=by unfold Zaz; rw [List.length_map]; exact List.length_take_le' _ _
theorem Zug {k : Nat} (h : ∀ j,j < k → ∀ x,s.cols[j]? = some x → decide (x.name = nm) = false) (hx : s.cols[k]? = some x) (e : x.name = nm) : (k : Int) = YL (s.cols.map Col.name) nm:=by
 refine (Zbb (p:=fun x=>decide (x = nm)) k (l:=s.cols.map Col.name) (x:=x.name) ?_ ?_ ?_).symm
 ·rw [List.getElem?_map,hx]; rfl
 ·exact decide_eq_true e
 ·intro j hj y hy
  rw [List.getElem?_map] at hy
  obtain ⟨z,hz,rfl⟩:=Option.map_eq_some_iff.1 hy
  exact h j hj z hz
theorem Zuh {k : Nat} (h : ∀ j,j < k → ∀ x,s.cols[j]? = some x → decide (x.name = nm) = false) (hk : s.cols.length ≤ k) : (-1 : Int) = YL (s.cols.map Col.name) nm:=by
 refine (Za1 (p:=fun x=>decide (x = nm)) (l:=s.cols.map Col.name) (k:=k) (fun j hj y hy=>?_) (by rw [List.length_map]; exact hk)).symm
 rw [List.getElem?_map] at hy
 obtain ⟨z,hz,rfl⟩:=Option.map_eq_some_iff.1 hy
 exact h j hj z hz
theorem Zui {fs : List Foreign} {g : Foreign} {ow : Bool} (h : fs[k]? = some g) (h1 : g.table = f.table) (h2 : decide (g.cols = f.cols) = true) : true = (fs.take (k + 1)).any (fun g=>decide (g.table = f.table) && decide (g.cols = f.cols)):=by
 rw [List.take_add_one,h,List.any_append]; simp [h1,of_decide_eq_true h2]
theorem ZoW {fs : List Foreign} {g : Foreign} {ow : Bool} (h : fs[k]? = some g) (h0 : ow = (fs.take k).any (fun g=>decide (g.table = f.table) && decide (g.cols = f.cols))) (h1 : g.table ≠ f.table ∨ decide (g.cols = f.cols) = false) : ow = (fs.take (k + 1)).any (fun g=>decide (g.table = f.table) && decide (g.cols = f.cols)):=by
 rw [List.take_add_one,h,List.any_append,← h0]
 have : (decide (g.table = f.table) && decide (g.cols = f.cols)) = false:=by
  rcases h1 with h1 | h1
  ·rw [decide_eq_false h1]; rfl
  ·rw [h1]; simp
 simp [this]
theorem ZqJ {α : Type} {p : α → Bool} {l : List α} {x : α} (h : l[k]? = some x) (hx : p x = true) : true = l.any p:=(List.any_eq_true.2 ⟨x,List.mem_of_getElem? h,hx⟩).symm
end
theorem ZkG {α : Type} {p : α → Bool} {x : α} : ∀ {l : List α} {k : Nat},(∀ j,j < k → ∀ y,l[j]? = some y → p y = false) → l[k]? = some x → p x = true → l.find? p = some x
 | [],k,_,h,_=>by cases h
 | a :: l,0,_,h,hx=>by obtain rfl:=Option.some.inj h; rw [List.find?_cons,hx]
 | a :: l,k + 1,h1,h,hx=>by
  rw [List.find?_cons,h1 0 (by omega) a rfl]
  exact ZkG (k:=k) (fun j hj y hy=>h1 (j + 1) (by omega) y (by simpa using hy)) (by simpa using h) hx
theorem ZqK {α : Type} {p : α → Bool} {l : List α} {k : Nat} (h : ∀ j,j < k → ∀ y,l[j]? = some y → p y = false) (hk : l.length ≤ k) : l.find? p = none:=by
 rw [List.find?_eq_none]
 intro x hx
 obtain ⟨i,hi⟩:=List.getElem?_of_mem hx
 obtain ⟨hlt,_⟩:=List.getElem?_eq_some_iff.1 hi
 rw [h i (by omega) x hi]; simp
section
variable {t o : Table} {f : Foreign} {x y fr : Int} {k i j : Nat} {v : List Val}
theorem Zhx {s : Schema} (h : Yt s = true) : s.key ≤ 8:=by
 have h1:=ZcK h
 unfold Yt XO at h
 simp only [Bool.and_eq_true,decide_eq_true_eq] at h
 omega
abbrev gXS (t o : Table) (fr : Int) : List Int:=Y5 ((fr :: t.rows.map (fun (r : HRow)=>r.r.x.a)) ++ o.rows.map (fun (r : HRow)=>r.r.x.b))
abbrev gYS (t o : Table) : List Int:=Y5 ((t.rows.map (fun (r : HRow)=>r.r.d.a)) ++ o.rows.map (fun (r : HRow)=>r.r.d.b))
abbrev gM (t o : Table) (f : Foreign) : List Val → List Val → Bool:=rM t.s o.s f.cols
theorem Zuj (ht : Z2 t.rows) (ho : Z2 o.rows) (hf : Zz fr ∧ fr ≤ 253402300800) (h : (gXS t o fr)[k]? = some x) : Zz x ∧ x ≤ 253402300800:=by
 have h1:=ZcH.1 (List.mem_of_getElem? h)
 rcases List.mem_append.1 h1 with h2 | h2
 ·rcases List.mem_cons.1 h2 with e | h2
  ·rw [e]; exact hf
  ·obtain ⟨r,hr,rfl⟩:=List.mem_map.1 h2; exact (Zf8 ht hr).2.2.1
 ·obtain ⟨r,hr,rfl⟩:=List.mem_map.1 h2; exact (Zf8 ho hr).2.2.2
theorem Zuk (ht : Z2 t.rows) (ho : Z2 o.rows) (h : (gYS t o)[k]? = some x) : Zz x ∧ x ≤ 253402300800:=by
 have h1:=ZcH.1 (List.mem_of_getElem? h)
 rcases List.mem_append.1 h1 with h2 | h2
 ·obtain ⟨r,hr,rfl⟩:=List.mem_map.1 h2; exact (Zf8 ht hr).1
 ·obtain ⟨r,hr,rfl⟩:=List.mem_map.1 h2; exact (Zf8 ho hr).2.1
theorem ZoX (h : x < fr ∨ 253402300800 ≤ x) : ZaC (gM t o f) o.rows t.rows fr (gYS t o) x = none:=by unfold ZaC; rw [if_pos h]
theorem Zul (h1 : fr ≤ x) (h2 : x < 253402300800) (h : ∀ i,i < j → ∀ y,(gYS t o)[i]? = some y → ((Zal (gM t o f) o.rows t.rows x y).map fun v=>Pt.mk x y v) = none) (hj : (gYS t o).length ≤ j) : ZaC (gM t o f) o.rows t.rows fr (gYS t o) x = none:=by
 unfold ZaC; rw [if_neg (by omega)]; exact Zk0 h hj
theorem Zs9 (h : ∀ i,i < k → ∀ v,(YC t.rows y x)[i]? = some v → (!(YC o.rows y x).any (gM t o f v)) = false) (hk : (YC t.rows y x).length ≤ k) : ((Zal (gM t o f) o.rows t.rows x y).map fun v=>Pt.mk x y v) = none:=by
 have : Zal (gM t o f) o.rows t.rows x y = none:=ZqK h hk
 rw [this]; rfl
theorem ZoY (h1 : ∀ i',i' < i → ∀ x,(gXS t o fr)[i']? = some x → ZaC (gM t o f) o.rows t.rows fr (gYS t o) x = none) (hx : (gXS t o fr)[i]? = some x) (g1 : fr ≤ x) (g2 : x < 253402300800)
  (h2 : ∀ i',i' < j → ∀ y,(gYS t o)[i']? = some y → ((Zal (gM t o f) o.rows t.rows x y).map fun v=>Pt.mk x y v) = none) (hy : (gYS t o)[j]? = some y)
  (h3 : ∀ i',i' < k → ∀ v,(YC t.rows y x)[i']? = some v → (!(YC o.rows y x).any (gM t o f v)) = false) (hv : (YC t.rows y x)[k]? = some v) (h4 : (YC o.rows y x).any (gM t o f v) = false) :
  ZJ (some (Pt.mk x y v)) = ZJ (YH t o f fr) ∧ true = (YH t o f fr).isSome:=by
 have hV : Zal (gM t o f) o.rows t.rows x y = some v:=ZkG h3 hv (by rw [h4]; rfl)
 have hG : ZaC (gM t o f) o.rows t.rows fr (gYS t o) x = some ⟨x,y,v⟩:=by
  unfold ZaC; rw [if_neg (by omega)]
  exact Zgq h2 hy (by rw [hV]; rfl)
 have : YH t o f fr = some ⟨x,y,v⟩:=Zgq h1 hx hG
 rw [this]; exact ⟨rfl,rfl⟩
theorem ZoZ (h1 : ∀ i',i' < i → ∀ x,(gXS t o fr)[i']? = some x → ZaC (gM t o f) o.rows t.rows fr (gYS t o) x = none) (hi : (gXS t o fr).length ≤ i) :
  HRow.mk [] (Rect.mk (Span.mk 0 0) (Span.mk 0 0)) = ZJ (YH t o f fr) ∧ false = (YH t o f fr).isSome:=by
 have : YH t o f fr = none:=Zk0 h1 hi
 rw [this]; exact ⟨rfl,rfl⟩
theorem Zpa (hv : Zo t = true) (y x : Int) : ∀ v ∈ YC t.rows y x,t.s.cols.length ≤ v.length:=fun v h=>by
 rw [← Zbf (ZD hv).1,Zay (ZD hv).1] at h
 obtain ⟨r,hr,rfl,_⟩:=h
 have:=(Q5 hv hr).2.2.2.1
 omega
end
section
variable {M : List Val → List Val → Bool} {os fs : List Fact} {k : Nat} {x : Fact}
theorem ZmQ (h : fs[k]? = some x) : ZaV M os (fs.take (k + 1)) = ZaV M os (fs.take k) ++ (ZL 3 [x.t] (Yq M os x.v)).map (Fact.mk x.v):=by
 rw [List.take_add_one,h]; simp [ZaV]
theorem ZfP : ∀ {A B : List Int},A.Pairwise (· < ·) → B.Pairwise (· < ·) → (∀ x ∈ A,x ∈ B) → A.length ≤ B.length
 | [],B,_,_,_=>Nat.zero_le _
 | x :: A,B,hA,hB,h=>by
  obtain ⟨h1,h2⟩:=List.pairwise_cons.1 hA
  obtain ⟨B1,B2,rfl⟩:=List.append_of_mem (h x (by simp))
  obtain ⟨g1,g2,g3⟩:=List.pairwise_append.1 hB
  have ih:=ZfP (B:=B2) h2 (List.pairwise_cons.1 g2).2 fun y hy=>by
   have hxy:=h1 y hy
   rcases List.mem_append.1 (h y (by simp [hy])) with q | q
   ·have:=g3 y q x (by simp); omega
   ·rcases List.mem_cons.1 q with q | q
    ·omega
    ·exact q
  simp only [List.length_append,List.length_cons]; omega
theorem ZsA {l : List Span} (h : Can l) : (l.map Span.a).Pairwise (· < ·):=by
 rw [List.pairwise_map,List.pairwise_iff_getElem]
 intro i j hi hj hij
 have h1:=Zd5 h (i:=i) (j:=j) (List.getElem?_eq_getElem hi) (List.getElem?_eq_getElem hj) hij
 have h2:=h.pos _ (List.getElem_mem hi)
 omega
theorem Zev {v : List Val} (hp : ∀ f ∈ os,f.t.a < f.t.b) : (Yq M os v).length ≤ os.length:=by
 obtain ⟨hc,hcov⟩:=Zep (M:=M) (v:=v) _ os rfl hp
 have h1:=ZfP (A:=(Yq M os v).map Span.a) (B:=Y5 (os.map fun f=>f.t.a)) (ZsA hc) (Zgo _) fun x hx=>by
  obtain ⟨s,hs,rfl⟩:=List.mem_map.1 hx
  have hsp:=hc.pos s hs
  obtain ⟨f,hf,hm,f1,f2⟩:=(hcov s.a).1 ⟨s,hs,Int.le_refl _,hsp⟩
  rw [ZcH,List.mem_map]
  by_cases e : f.t.a = s.a
  ·exact ⟨f,hf,e⟩
  ·exfalso
   obtain ⟨s2,hs2,q1,q2⟩:=(hcov (s.a - 1)).2 ⟨f,hf,hm,by omega,by omega⟩
   obtain ⟨i,hi⟩:=List.getElem?_of_mem hs
   obtain ⟨j,hj⟩:=List.getElem?_of_mem hs2
   rcases Nat.lt_trichotomy i j with q | q | q
   ·have:=Zd5 hc hi hj q; omega
   ·subst q; rw [hi] at hj; obtain rfl:=Option.some.inj hj; omega
   ·have:=Zd5 hc hj hi q; omega
 have h2:=Zem (os.map fun f=>f.t.a)
 rw [List.length_map] at h1 h2
 omega
theorem Zi7 (l : List HRow) (tx : Int) : (Qf l tx).length ≤ l.length:=by
 have e : (Qf l tx).length = ((Z8 l).map fun v=>(ZB (YM l v) tx).length).sum:=by
  unfold Qf ZY
  generalize Z8 l = vs
  induction vs with
  | nil=>rfl
  | cons v vs ih=>rw [List.map_cons,List.flatMap_cons,List.length_append,ih,List.map_cons,List.sum_cons,List.length_map]
 rw [e]
 refine Nat.le_trans ?_ (Zl4 (XZ l).nodup l)
 generalize Z8 l = vs
 induction vs with
 | nil=>exact Nat.le_refl _
 | cons v vs ih=>
  have:=Zbr (YM l v) tx
  rw [List.map_cons,List.sum_cons,List.map_cons,List.sum_cons]; omega
theorem Zi8 (hp : ∀ f ∈ os,f.t.a < f.t.b) (ho : os.length ≤ 500) : ∀ fs : List Fact,(ZaV M os fs).length ≤ fs.length * 1002
 | []=>by simp [ZaV]
 | f :: fs=>by
  have h1:=ZbT (kind:=3) (a:=[f.t]) (b:=Yq M os f.v)
  have h2:=Zev (M:=M) (v:=f.v) hp
  have h3:=Zi8 hp ho fs
  simp only [List.length_cons,List.length_nil] at h1
  simp only [ZaV,List.flatMap_cons,List.length_append,List.length_cons,List.length_map] at *
  rw [Nat.add_mul]; omega
theorem ZiK (hp : ∀ f ∈ os,f.t.a < f.t.b) (ho : os.length ≤ 500) (hf : fs.length ≤ 500) (k : Nat) : (ZaV M os (fs.take k)).length ≤ 501000:=by
 have h1:=Zi8 (M:=M) hp ho (fs.take k)
 have h2:=List.length_take_le' k fs
 exact Nat.le_trans h1 (Nat.le_trans (Nat.mul_le_mul_right 1002 (show (fs.take k).length ≤ 500 by omega)) (by decide))
theorem ZmR {v : List Val} (h : os[k]? = some x) (h1 : M v x.v = true) : Yq M (os.take (k + 1)) v = ZL 1 (Yq M (os.take k) v) [x.t]:=by rw [ZfN h,if_pos h1]
theorem Zpb {v : List Val} (h : os[k]? = some x) (h1 : M v x.v = false) : Yq M (os.take (k + 1)) v = Yq M (os.take k) v:=by rw [ZfN h,if_neg (by rw [h1]; simp)]
end
end Go.Civ
namespace Go.Civ
theorem ZkH {t : Table} {tx : Int} {x : Fact} (hv : Zo t = true) (h : x ∈ Yx t.rows tx (Z8 t.rows)) : t.s.cols.length ≤ x.v.length:=by
 obtain ⟨v,hvm,h⟩:=List.mem_flatMap.1 h
 obtain ⟨s,hs,rfl⟩:=List.mem_map.1 h
 obtain ⟨r,hr,rfl⟩:=Qa.1 hvm
 have:=(Q5 hv hr).2.2.2.1
 show t.s.cols.length ≤ r.v.length
 omega
end Go.Civ
namespace Go.Civ
open Go.RowKit
set_option linter.unusedVariables false
theorem tf {b : Bool} {P : Prop} (h : b = true) (k : b = false) : P:=Bool.noConfusion (h.symm.trans k)
section
variable {t o : Table} {f : Foreign} {tx : Int} {v : List Val} {d : Span}
theorem ZsC (h1 : Zo t = true) (h2 : Zo o = true) (h3 : Xd t.s o.s f = true) : (QK t o f == (YH t o f (-62135596800)).isSome) = false:=by
 rw [(ZkF h1 h2 h3).1]; cases (YH t o f (-62135596800)).isSome <;> rfl
end
end Go.Civ
