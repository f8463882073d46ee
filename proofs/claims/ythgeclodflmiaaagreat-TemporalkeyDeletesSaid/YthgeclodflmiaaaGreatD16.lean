/- Lemmas. -/
import Derived.Test.YthgeclodflmiaaaGreatD11
import Derived.Test.YthgeclodflmiaaaGreatD15
import Derived.Lib.Bytealg
namespace Go.Civ
open Go.RowKit
set_option linter.unusedVariables false
def ZbI (c : Int) : Bool:=(decide (65 ≤ c) && decide (c ≤ 90)) || (decide (97 ≤ c) && decide (c ≤ 122))
def Zgp (c : Int) : Bool:=decide (48 ≤ c) && decide (c ≤ 57)
def ixM (c : Int) : Int:=Go.Lib.indexByte [95,47,43,45] c.toNat.toUInt8
def ZbX (c : UInt8) : Bool:=ZbI (c.toNat : Int) || Zgp (c.toNat : Int) || decide (0 ≤ ixM (c.toNat : Int))
def Qu (s : List UInt8) : Bool:=decide (1 ≤ s.length) && decide (s.length ≤ 30) && ZbI ((s.headD 0).toNat : Int) && s.all ZbX
theorem ZsT {s : List UInt8} {k : Nat} {c : UInt8} (h : s[k]? = some c) (hc : ZbX c = false) : Qu s = false:=by
 unfold Qu; rw [ZfV h hc]; simp
theorem Zi5 {s : List UInt8} {c : UInt8} (h : s[0]? = some c) : s.headD 0 = c:=by
 cases s with
 | nil=>simp at h
 | cons x s=>simp at h; simpa using h
theorem Zv6 {c : UInt8} (h : ZbI (c.toNat : Int) = true) : ZbX c = true:=by unfold ZbX; rw [h]; rfl
theorem Zv7 {c : UInt8} (h : Zgp (c.toNat : Int) = true) : ZbX c = true:=by unfold ZbX; rw [h]; simp
theorem Zv8 {c : UInt8} (h : 0 ≤ Go.Lib.indexByte [95,47,43,45] (c.toNat : Int).toNat.toUInt8) : ZbX c = true:=by unfold ZbX ixM; rw [decide_eq_true h]; simp
theorem ZsU {c : UInt8} (h1 : ZbI (c.toNat : Int) = false) (h2 : Zgp (c.toNat : Int) = false) (h3 : Go.Lib.indexByte [95,47,43,45] (c.toNat : Int).toNat.toUInt8 < 0) : ZbX c = false:=by
 unfold ZbX ixM; rw [h1,h2,decide_eq_false (by omega)]; rfl
theorem Zkc {s : List UInt8} (h : (s.length : Int) < 1 ∨ 30 < (s.length : Int)) : Qu s = false:=by
 unfold Qu
 rcases h with h | h
 ·rw [decide_eq_false (show ¬ 1 ≤ s.length by omega)]; simp
 ·rw [decide_eq_false (show ¬ s.length ≤ 30 by omega)]; simp
theorem Zqs {s : List UInt8} {c : UInt8} (h : s[0]? = some c) (hc : ZbI (c.toNat : Int) = false) : Qu s = false:=by
 unfold Qu; rw [Zi5 h,hc]; simp
theorem Zqt {s : List UInt8} {c : UInt8} (h1 : 1 ≤ (s.length : Int)) (h2 : (s.length : Int) ≤ 30) (h : s[0]? = some c) (hc : ZbI (c.toNat : Int) = true) (ha : s.all ZbX = true) : Qu s = true:=by
 unfold Qu; rw [Zi5 h,hc,ha,decide_eq_true (show 1 ≤ s.length by omega),decide_eq_true (show s.length ≤ 30 by omega)]; rfl
def Zcz (l : List (List UInt8)) (j : Nat) (s : List UInt8) : Bool:=Qu s && !(l.take j).any fun x=>decide (x = s)
def Zbg (l : List (List UInt8)) : Bool:=l.zipIdx.all fun p=>Zcz l p.2 p.1
theorem Zqu {l : List (List UInt8)} {j : Nat} {s : List UInt8} (h1 : Qu s = true) (h2 : ((l.take j).any fun x=>decide (x = s)) = false) : Zcz l j s = true:=by unfold Zcz; rw [h1,h2]; rfl
theorem Zqv {l : List (List UInt8)} {j : Nat} {s : List UInt8} (h1 : Qu s = false) : Zcz l j s = false:=by unfold Zcz; rw [h1]; rfl
theorem Zqw {l : List (List UInt8)} {j : Nat} {s : List UInt8} (h2 : ((l.take j).any fun x=>decide (x = s)) = true) : Zcz l j s = false:=by unfold Zcz; rw [h2]; simp
theorem Zfw {α : Type} {P : Nat → α → Prop} {l : List α} {k : Nat} {y : α} (h : ∀ j,j < k → ∀ x,l[j]? = some x → P j x) (hk : l[k]? = some y) (hy : P k y) : ∀ j,j < k + 1 → ∀ x,l[j]? = some x → P j x:=fun j hj x hx=>by
 by_cases e : j = k
 ·subst e; rw [hk] at hx; obtain rfl:=Option.some.inj hx; exact hy
 ·exact h j (by omega) x hx
theorem Zmm {l : List (List UInt8)} {k : Nat} {s : List UInt8} (h : l[k]? = some s) (hs : Zcz l k s = false) : Zbg l = false:=by
 unfold Zbg
 rw [Bool.eq_false_iff]
 intro e
 rw [List.all_eq_true] at e
 have:=e (s,k) (List.mem_zipIdx_iff_getElem?.2 h)
 rw [this] at hs; cases hs
theorem Zqx {l : List (List UInt8)} {k : Nat} (h : ∀ j,j < k → ∀ s,l[j]? = some s → Zcz l j s = true) (hk : l.length ≤ k) : Zbg l = true:=by
 unfold Zbg
 rw [List.all_eq_true]
 rintro ⟨s,j⟩ hm
 have hj:=List.mem_zipIdx_iff_getElem?.1 hm
 have:=(List.getElem?_eq_some_iff.1 hj).1
 exact h j (by simp at this ⊢; omega) s hj
def Xw (l : List (List UInt8)) (nm : List UInt8) : Int:=Qi (fun x=>decide (x = nm)) l
theorem Zv9 {l : List (List UInt8)} {nm : List UInt8} : decide (0 ≤ Xw l nm) = l.any fun x=>decide (x = nm):=ZcH _ _
def Zfx (c : Col) : Bool:=decide (1 ≤ c.kind) && decide (c.kind ≤ 4)
def fkB (s : Schema) (f : Foreign) : Bool:=Qu f.table && decide (1 ≤ f.cols.length) && decide (f.cols.length ≤ 8) && Zbg f.cols && f.cols.all fun c=>decide (0 ≤ Xw (s.cols.map Col.name) c)
def Qx (s : Schema) : Bool:=Qu s.name && decide (1 ≤ s.cols.length) && decide (s.cols.length ≤ 8) && decide (1 ≤ s.key) && decide (s.key ≤ s.cols.length) && decide (s.fks.length ≤ 8) && Zbg (s.cols.map Col.name)
def YB (s : Schema) : Bool:=Qx s && (s.cols.all Zfx && s.fks.all (fkB s))
theorem Zqy {c : Col} (h1 : 1 ≤ c.kind) (h2 : c.kind ≤ 4) : Zfx c = true:=by unfold Zfx; simp [h1,h2]
theorem ZvA {s : Schema} {f : Foreign} (h1 : Qu f.table = true) (h2 : 1 ≤ (f.cols.length : Int)) (h3 : (f.cols.length : Int) ≤ 8) (h4 : Zbg f.cols = true) (h5 : (f.cols.all fun c=>decide (0 ≤ Xw (s.cols.map Col.name) c)) = true) : fkB s f = true:=by
 unfold fkB; rw [h1,h4,h5,decide_eq_true (show 1 ≤ f.cols.length by omega),decide_eq_true (show f.cols.length ≤ 8 by omega)]; rfl
theorem Qy {s : Schema} {f : Foreign} (h1 : Qu f.table = false) : fkB s f = false:=by unfold fkB; rw [h1]; rfl
theorem Qz {s : Schema} {f : Foreign} (h : (f.cols.length : Int) < 1 ∨ 8 < (f.cols.length : Int)) : fkB s f = false:=by
 unfold fkB
 rcases h with h | h
 ·rw [decide_eq_false (show ¬ 1 ≤ f.cols.length by omega)]; simp
 ·rw [decide_eq_false (show ¬ f.cols.length ≤ 8 by omega)]; simp
theorem Q0 {s : Schema} {f : Foreign} (h1 : Zbg f.cols = false) : fkB s f = false:=by unfold fkB; rw [h1]; simp
theorem Q1 {s : Schema} {f : Foreign} {k : Nat} {c : List UInt8} (h : f.cols[k]? = some c) (hc : Xw (s.cols.map Col.name) c < 0) : fkB s f = false:=by
 unfold fkB; rw [ZfV (p:=fun c=>decide (0 ≤ Xw (s.cols.map Col.name) c)) h (decide_eq_false (by omega))]; simp
theorem XZ {s : Schema} (h1 : Qx s = true) (h2 : s.cols.all Zfx = true) (h3 : s.fks.all (fkB s) = true) : YB s = true:=by unfold YB; rw [h1,h2,h3]; rfl
theorem XJ {s : Schema} {k : Nat} {c : Col} (h : s.cols[k]? = some c) (hc : c.kind < 1 ∨ 4 < c.kind) : YB s = false:=by
 unfold YB; rw [ZfV (p:=Zfx) h (by unfold Zfx; rcases hc with hc | hc <;> simp <;> omega)]; simp
theorem ZD {s : Schema} {k : Nat} {f : Foreign} (h : s.fks[k]? = some f) (hc : fkB s f = false) : YB s = false:=by
 unfold YB; rw [ZfV (p:=fkB s) h hc]; simp
theorem QW {s : Schema} (h : Qx s = false) : YB s = false:=by unfold YB; rw [h]; rfl
def X3 (s : Schema) (v : List Val) : Int:=if YB s && v.all Z4 then (if eqF (fun (c : Col) (x : Val)=>decide (c.kind = x.k)) s.cols v then 0 else 13) else 1
theorem ZsV (s : Schema) (v : List Val) : Z0 (X3 s v):=by unfold X3; split <;> (try split) <;> constructor <;> decide
theorem Zxw {s : Schema} {v : List Val} (h : YB s = false) : X3 s v = 1:=by unfold X3; rw [h]; rfl
theorem ZdD {v : List Val} {b : Bool} (h : (v.any fun x=>!Z4 x) = b) : v.all Z4 = !b:=by rw [← Zn7,h]
theorem Zxx {s : Schema} {v : List Val} (h : (v.any fun x=>!Z4 x) = true) : X3 s v = 1:=by unfold X3; rw [ZdD h]; simp
theorem ZvB {s : Schema} {v : List Val} (h1 : YB s = true) (h2 : (v.any fun x=>!Z4 x) = false) (h3 : eqF (fun (c : Col) (x : Val)=>decide (c.kind = x.k)) s.cols v = false) : X3 s v = 13:=by
 unfold X3; rw [ZdD h2,h1,h3]; rfl
theorem Zxy {s : Schema} {v : List Val} (h1 : YB s = true) (h2 : (v.any fun x=>!Z4 x) = false) (h3 : eqF (fun (c : Col) (x : Val)=>decide (c.kind = x.k)) s.cols v = true) : X3 s v = 0:=by
 unfold X3; rw [ZdD h2,h1,h3]; rfl
theorem Zi6 {α β : Type} {f : α → β → Bool} : ∀ {a : List α} {b : List β},eqF f a b = true → a.length = b.length
 | [],[],_=>rfl
 | [],_ :: _,h=>by simp [eqF] at h
 | _ :: _,[],h=>by simp [eqF] at h
 | x :: a,y :: b,h=>by simp [eqF] at h; simp [Zi6 (f:=f) (a:=a) (b:=b) h.2]
theorem Zca {s : Schema} {v : List Val} (h : X3 s v = 0) : v.length ≤ 8 ∧ v.all Z4 = true ∧ v.length = s.cols.length ∧ YB s = true:=by
 unfold X3 at h
 split at h
 ·rename_i h1
  split at h
  ·rename_i h2
   simp only [Bool.and_eq_true] at h1
   have h3:=Zi6 h2
   have h4:=h1.1
   unfold YB Qx at h4
   simp only [Bool.and_eq_true,decide_eq_true_eq] at h4
   exact ⟨by omega,h1.2,h3.symm,h1.1⟩
  ·cases h
 ·cases h
def Xc (s : Schema) (last : Int) (r : HRow) : Bool:=decide (X3 s r.v = 0) && YA r && decide (r.r.x.a ≤ last) && (decide (r.r.x.b ≤ last) || decide (r.r.x.b = 253402300800))
def Zu (t : Table) : Bool:=YB t.s && decide (-62135596801 ≤ t.last) && decide (t.last < 253402300800) && decide (t.rows.length ≤ 500) && t.rows.all (Xc t.s t.last) && decide (t.rows = Yd t.rows)
def Y1 (x : Int) : Bool:=decide (-62135596800 ≤ x) && decide (x < 253402300800)
def ZeS (last : Int) (r : HRow) : Bool:=YA r && decide (r.r.x.a ≤ last) && (decide (r.r.x.b ≤ last) || decide (r.r.x.b = 253402300800))
def Zqz (l : List HRow) (last : Int) : Bool:=decide (-62135596801 ≤ last) && decide (last < 253402300800) && decide (l.length ≤ 500) && l.all (ZeS last) && decide (Zmh l = l)
def ZnH (t : Table) : Bool:=YB t.s && Zqz t.rows t.last && t.rows.all fun r=>decide (X3 t.s r.v = 0)
theorem ZY {t : Table} (h : Zu t = true) : Z8 t.rows ∧ t.rows.length ≤ 500 ∧ (∀ r ∈ t.rows,r.v.length ≤ 8) ∧ t.rows = Yd t.rows:=by
 unfold Zu at h
 simp only [Bool.and_eq_true,decide_eq_true_eq,List.all_eq_true] at h
 refine ⟨fun r hr=>?_,h.1.1.2,fun r hr=>?_,h.2⟩
 ·have:=h.1.2 r hr
  unfold Xc at this; simp only [Bool.and_eq_true,decide_eq_true_eq] at this; exact this.1.1.2
 ·have:=h.1.2 r hr
  unfold Xc at this; simp only [Bool.and_eq_true,decide_eq_true_eq] at this; exact (Zca this.1.1.1).1
theorem Zq0 (t : Table) : ZnH t = Zu t:=by
 rw [Bool.eq_iff_iff]
 unfold ZnH Zu Zqz
 simp only [Bool.and_eq_true,decide_eq_true_eq,List.all_eq_true]
 have e : ∀ r,Xc t.s t.last r = true ↔ (X3 t.s r.v = 0 ∧ ZeS t.last r = true):=fun r=>by
  unfold Xc ZeS; simp only [Bool.and_eq_true,decide_eq_true_eq]; constructor
  ·rintro ⟨⟨⟨a,b⟩,c⟩,d⟩; exact ⟨a,⟨b,c⟩,d⟩
  ·rintro ⟨a,⟨b,c⟩,d⟩; exact ⟨⟨⟨a,b⟩,c⟩,d⟩
 have g : (∀ r ∈ t.rows,ZeS t.last r = true) → Z8 t.rows:=fun h r hr=>by
  have:=h r hr; unfold ZeS at this; simp only [Bool.and_eq_true] at this; exact this.1.1
 constructor
 ·rintro ⟨⟨h1,⟨⟨⟨h2,h3⟩,h4⟩,h5⟩,h6⟩,h7⟩
  exact ⟨⟨⟨⟨⟨h1,h2⟩,h3⟩,h4⟩,fun r hr=>(e r).2 ⟨h7 r hr,h5 r hr⟩⟩,by rw [ZeO (g h5)]; exact h6.symm⟩
 ·rintro ⟨⟨⟨⟨⟨h1,h2⟩,h3⟩,h4⟩,h5⟩,h6⟩
  have h5' : ∀ r ∈ t.rows,ZeS t.last r = true:=fun r hr=>((e r).1 (h5 r hr)).2
  exact ⟨⟨h1,⟨⟨⟨h2,h3⟩,h4⟩,h5'⟩,by rw [← ZeO (g h5')]; exact h6.symm⟩,fun r hr=>((e r).1 (h5 r hr)).1⟩
abbrev Qs : Table:=⟨⟨[],[],0,[]⟩,[],0⟩
def ZQ (t : Table) (tx : Int) (l : List HRow) : Table:=if (Yd l).length ≤ 500 then ⟨t.s,Yd l,tx⟩ else Qs
def XT (l : List HRow) : Int:=if (Yd l).length ≤ 500 then 0 else 5
def Xk (t : Table) (tx : Int) : Int:=if Y1 tx then (if tx ≤ t.last then 6 else 0) else 2
def or2 (a b : Int) : Int:=if a ≠ 0 then a else b
abbrev Za7 (t : Table) (tx : Int) (v : List Val) (d : Span) : List HRow:=t.rows ++ [⟨v,⟨d,⟨tx,253402300800⟩⟩⟩]
def Qh (t : Table) (d : Span) : Bool:=Zu t && ZN d
def ZdS (t : Table) (tx : Int) (v : List Val) (d : Span) : Int:=if Qh t d then or2 (X3 t.s v) (Xk t tx) else 1
def Yt (t : Table) (tx : Int) (v : List Val) (d : Span) : Table:=if ZdS t tx v d = 0 then ZQ t tx (Za7 t tx v d) else Qs
def YS (t : Table) (tx : Int) (v : List Val) (d : Span) : Int:=if ZdS t tx v d = 0 then XT (Za7 t tx v d) else ZdS t tx v d
def Zc0 (d : Span) (r : HRow) : Bool:=decide (r.r.x.b = 253402300800) && decide (r.r.d.a < d.b) && decide (d.a < r.r.d.b)
def Zle (r d : Span) : Span:=⟨max r.a d.a,min r.b d.b⟩
def Zdc (nx : Option (List Val)) (r d : Span) (tx : Int) : List HRow:=match nx with
 | some v=>[⟨v,⟨Zle r d,⟨tx,253402300800⟩⟩⟩]
 | none=>[]
def ZaN (hl : List Val → Bool) (nx : List Val → Option (List Val)) (tx : Int) (d : Span) (r : HRow) : List HRow:=
 if Zc0 d r && hl r.v then [⟨r.v,⟨r.r.d,⟨r.r.x.a,tx⟩⟩⟩] ++ X1 r.v (Yh 3 [r.r.d] [d]) tx 253402300800 ++ Zdc (nx r.v) r.r.d d tx else [r]
def Ys (hl : List Val → Bool) (nx : List Val → Option (List Val)) (tx : Int) (d : Span) (l : List HRow) : List HRow:=l.flatMap (ZaN hl nx tx d)
theorem QX {hl : List Val → Bool} {nx : List Val → Option (List Val)} {tx : Int} {d : Span} {l : List HRow} {k : Nat} {r : HRow} (h : l[k]? = some r) :
  Ys hl nx tx d (l.take (k + 1)) = Ys hl nx tx d (l.take k) ++ ZaN hl nx tx d r:=by
 rw [List.take_add_one,h]; simp [Ys]
theorem ZbQ {hl : List Val → Bool} {nx : List Val → Option (List Val)} {tx : Int} {d : Span} {l : List HRow} {k : Nat} (h : l.length ≤ k) : Ys hl nx tx d (l.take k) = Ys hl nx tx d l:=by rw [List.take_of_length_le h]
theorem Zfy {hl : List Val → Bool} {nx : List Val → Option (List Val)} {tx : Int} {d : Span} {r : HRow} (h : r.r.x.b ≠ 253402300800 ∨ hl r.v = false ∨ d.b ≤ r.r.d.a ∨ r.r.d.b ≤ d.a) : ZaN hl nx tx d r = [r]:=by
 unfold ZaN
 rw [if_neg]
 unfold Zc0
 simp only [Bool.and_eq_true,decide_eq_true_eq]
 rintro ⟨⟨⟨h1,h2⟩,h3⟩,h4⟩
 rcases h with h | h | h | h
 ·exact h h1
 ·rw [h] at h4; cases h4
 ·omega
 ·omega
theorem Zke {hl : List Val → Bool} {nx : List Val → Option (List Val)} {tx : Int} {d : Span} {r : HRow} (h1 : r.r.x.b = 253402300800) (h2 : hl r.v = true) (h3 : r.r.d.a < d.b) (h4 : d.a < r.r.d.b) :
  ZaN hl nx tx d r = [⟨r.v,⟨r.r.d,⟨r.r.x.a,tx⟩⟩⟩] ++ X1 r.v (Yh 3 [r.r.d] [d]) tx 253402300800 ++ Zdc (nx r.v) r.r.d d tx:=by
 unfold ZaN
 rw [if_pos]
 unfold Zc0
 simp only [Bool.and_eq_true,decide_eq_true_eq]
 exact ⟨⟨⟨h1,h3⟩,h4⟩,h2⟩
def nms (t : Table) : List (List UInt8):=t.s.cols.map Col.name
def ZdT (d : Nat) (t : Table) (tx : Int) (c : Cond) (p : Span) : Int:=if Qh t p then or2 (YE d c t.s.cols) (Xk t tx) else 1
abbrev ZeT (d : Nat) (t : Table) (tx : Int) (c : Cond) (p : Span) : List HRow:=Ys (X6 d c (nms t)) (fun _=>none) tx p t.rows
def ZM (d : Nat) (t : Table) (tx : Int) (c : Cond) (p : Span) : Table:=if ZdT d t tx c p = 0 then ZQ t tx (ZeT d t tx c p) else Qs
def Zar (d : Nat) (t : Table) (tx : Int) (c : Cond) (p : Span) : Int:=if ZdT d t tx c p = 0 then XT (ZeT d t tx c p) else ZdT d t tx c p
def ZuK : List Val → List Val → List Bool → List Val
 | x :: v,y :: s,m :: k=>(if m then y else x) :: ZuK v s k
 | v,_,_=>v
def okM (cols : List Col) (set : List Val) (mask : List Bool) (j : Nat) : Bool:=match mask[j]?,set[j]?,cols[j]? with
 | some m,some x,some c=>!m || (Z4 x && decide (x.k = c.kind))
 | _,_,_=>true
def Z0c (cols : List Col) (set : List Val) (mask : List Bool) : Bool:=(List.range mask.length).all (okM cols set mask)
def Zmn (d : Nat) (t : Table) (tx : Int) (c : Cond) (set : List Val) (mask : List Bool) (p : Span) : Int:=
 if Qh t p then (if YE d c t.s.cols ≠ 0 then YE d c t.s.cols else if set.length ≠ t.s.cols.length ∨ mask.length ≠ t.s.cols.length then 1 else if Z0c t.s.cols set mask then Xk t tx else 13) else 1
abbrev ZnI (d : Nat) (t : Table) (tx : Int) (c : Cond) (set : List Val) (mask : List Bool) (p : Span) : List HRow:=Ys (X6 d c (nms t)) (fun v=>some (ZuK v set mask)) tx p t.rows
def Z0d (d : Nat) (t : Table) (tx : Int) (c : Cond) (set : List Val) (mask : List Bool) (p : Span) : Table:=if Zmn d t tx c set mask p = 0 then ZQ t tx (ZnI d t tx c set mask p) else Qs
def Z0e (d : Nat) (t : Table) (tx : Int) (c : Cond) (set : List Val) (mask : List Bool) (p : Span) : Int:=if Zmn d t tx c set mask p = 0 then XT (ZnI d t tx c set mask p) else Zmn d t tx c set mask p
def Zbq (l : List HRow) (at_ tx : Int) : List (List Val):=((Yx l).filter fun g=>Xx (ZH g.t tx) at_).map HGrp.v
def YO (t : Table) (at_ tx : Int) : List (List Val):=if Zu t && Y1 at_ && Y1 tx then Zbq t.rows at_ tx else []
def Zju (l : List HRow) (tx : Int) : List Fact:=(Yx l).flatMap fun g=>(ZH g.t tx).map (Fact.mk g.v)
def atH (t : Table) (tx : Int) : List Fact:=if Zu t && Y1 tx then Zju t.rows tx else []
end Go.Civ
namespace Go.Civ
open Go.RowKit
set_option linter.unusedVariables false
section
variable {P : Program} {Q : Exit → Env → World → Prop} {ρ : Env} {w : World} {ops : Array Oper} {rest : List Oper} {K : Env → World → Prop}
variable {d : Nat} {ty : TypeId} {pos : String} {af : Array Edge} {g : Option (Nat × Bool)} {G : GH}
theorem ZnM {t ty' : TypeId} {x y : Operand} (a b : Nat) (hb : 0 < b) (ha : a ≤ 4 * reach)
  (hw : Region.wanted ⟨some d, .binOp .quo t x y ty',ty,pos,af,g⟩ (Zv ops ρ) = true) (hx : ev ρ x = .int .i64 (a : Int)) (hy : ev ρ y = .int .i64 (b : Int))
  (kk : K (ZB ρ d (.int .i64 ((a / b : Nat) : Int))) w) : OW P ops ⟨some d, .binOp .quo t x y ty',ty,pos,af,g⟩ ρ w K:=by
 have h1 : a / b ≤ a:=Nat.div_le_self a b
 have e1 : Int.tdiv (a : Int) (b : Int) = ((a / b : Nat) : Int):=by rw [Int.tdiv_eq_ediv_of_nonneg (by omega)]; simp
 generalize a / b = q at h1 e1 kk
 refine WL.val hw ?_ rfl kk
 have hI : Z0 (q : Int):=by clear e1; exact ⟨by omega,by unfold reach at ha; omega⟩
 simp [execOp,hx,hy,binOp,ZbV,Op.intDiv,show b ≠ 0 by omega,e1,ZeH hI,Result.andThen]
theorem Qd {t ty' : TypeId} {x y : Operand} (a b : Nat) (hb : 0 < b) (ha : a ≤ 4 * reach)
  (hw : Region.wanted ⟨some d, .binOp .rem t x y ty',ty,pos,af,g⟩ (Zv ops ρ) = true) (hx : ev ρ x = .int .i64 (a : Int)) (hy : ev ρ y = .int .i64 (b : Int))
  (kk : K (ZB ρ d (.int .i64 ((a % b : Nat) : Int))) w) : OW P ops ⟨some d, .binOp .rem t x y ty',ty,pos,af,g⟩ ρ w K:=by
 have e1 : Int.tmod (a : Int) (b : Int) = ((a % b : Nat) : Int):=by rw [Int.tmod_eq_emod_of_nonneg (by omega)]; simp
 generalize a % b = q at e1 kk
 refine WL.val hw ?_ rfl kk
 simp [execOp,hx,hy,binOp,ZbV,Op.intDiv,show b ≠ 0 by omega,e1,Result.andThen]
end
theorem ZvJ {l : List Span} (h : Can l) {k : Nat} {x y : Span} (hx : l[k - 1]? = some x) (hy : l[k]? = some y) (hk : 0 < k) (hge : x.b ≥ y.a) : False:=by
 obtain ⟨h1,rfl⟩:=List.getElem?_eq_some_iff.1 hx
 obtain ⟨h2,rfl⟩:=List.getElem?_eq_some_iff.1 hy
 have:=List.pairwise_iff_getElem.1 h.apart (k - 1) k h1 h2 (by omega)
 omega
def Zd (l : List Span) (n : Nat) : Int:=if n = 2 * l.length then 8796093022208 else match l[n / 2]? with | some s=>if n % 2 = 0 then s.a else s.b | none=>0
theorem Zep {l : List Span} {n : Nat} (h : n = 2 * l.length) : Zd l n = 8796093022208:=by unfold Zd; rw [if_pos h]
theorem ZvK {l : List Span} {n : Nat} {s : Span} (h : n ≠ 2 * l.length) (hs : l[n / 2]? = some s) (h0 : n % 2 = 0) : Zd l n = s.a:=by unfold Zd; rw [if_neg h,hs]; simp [h0]
theorem ZvL {l : List Span} {n : Nat} {s : Span} (h : n ≠ 2 * l.length) (hs : l[n / 2]? = some s) (h0 : n % 2 ≠ 0) : Zd l n = s.b:=by unfold Zd; rw [if_neg h,hs]; simp [h0]
structure Behind (l : List Span) (n : Nat) (T : Int) : Prop where
 le : n ≤ 2 * l.length
 lo : ∀ (j : Nat) s,l[j]? = some s → (2 * j < n → s.a ≤ T) ∧ (2 * j + 1 < n → s.b ≤ T)
 hi : ∀ (j : Nat) s,l[j]? = some s → (n ≤ 2 * j → T < s.a) ∧ (n ≤ 2 * j + 1 → T < s.b)
theorem Behind.start {l : List Span} {T : Int} (h : ∀ s ∈ l,T < s.a ∧ T < s.b) : Behind l 0 T:=
 ⟨by omega,fun j s hs=>⟨fun h=>by omega,fun h=>by omega⟩,fun j s hs=>⟨fun _=>(h s (List.mem_of_getElem? hs)).1,fun _=>(h s (List.mem_of_getElem? hs)).2⟩⟩
theorem Behind.cover {l : List Span} {n : Nat} {T : Int} (h : Behind l n T) : cover l T ↔ n % 2 = 1:=by
 constructor
 ·rintro ⟨s,hs,h1,h2⟩
  obtain ⟨j,hj,rfl⟩:=List.mem_iff_getElem.1 hs
  have e:=List.getElem?_eq_getElem hj
  have a1:=(h.hi j _ e).1
  have a2:=(h.lo j _ e).2
  have b1 : ¬ n ≤ 2 * j:=fun q=>by have:=a1 q; omega
  have b2 : ¬ 2 * j + 1 < n:=fun q=>by have:=a2 q; omega
  omega
 ·intro hn
  have hl:=h.le
  have hj : n / 2 < l.length:=by omega
  have e:=List.getElem?_eq_getElem hj
  exact ⟨_,List.getElem_mem hj,(h.lo _ _ e).1 (by omega),(h.hi _ _ e).2 (by omega)⟩
theorem Zd6 {l : List Span} {n : Nat} (h : n < 2 * l.length) : ∃ s,l[n / 2]? = some s ∧ Zd l n = if n % 2 = 0 then s.a else s.b:=by
 have hj : n / 2 < l.length:=by omega
 refine ⟨_,List.getElem?_eq_getElem hj,?_⟩
 unfold Zd; rw [if_neg (by omega),List.getElem?_eq_getElem hj]
theorem Zmq {l : List Span} {n : Nat} (h : n < 2 * l.length) (hv : ∀ s ∈ l,s.a < 8796093022208 ∧ s.b < 8796093022208) : Zd l n < 8796093022208:=by
 obtain ⟨s,hs,e⟩:=Zd6 h
 have:=hv s (List.mem_of_getElem? hs)
 rw [e]; split <;> omega
theorem Behind.gt {l : List Span} {n : Nat} {T : Int} (h : Behind l n T) (hT : T < 8796093022208) : T < Zd l n:=by
 by_cases hn : n = 2 * l.length
 ·rw [Zep hn]; exact hT
 ·have hl:=h.le
  obtain ⟨s,hs,e⟩:=Zd6 (l:=l) (n:=n) (by omega)
  rw [e]
  have:=h.hi _ _ hs
  split
  ·exact this.1 (by omega)
  ·exact this.2 (by omega)
theorem Zki {l : List Span} {n : Nat} (hC : Can l) (hn : n < 2 * l.length) (j : Nat) (s : Span) (hs : l[j]? = some s) : (n ≤ 2 * j → Zd l n ≤ s.a) ∧ (n ≤ 2 * j + 1 → Zd l n ≤ s.b) ∧ (n < 2 * j → Zd l n < s.a) ∧ (n < 2 * j + 1 → Zd l n < s.b):=by
 obtain ⟨s0,h0,e⟩:=Zd6 hn
 have p0:=hC.pos s0 (List.mem_of_getElem? h0)
 have p1:=hC.pos s (List.mem_of_getElem? hs)
 have ap : n / 2 < j → s0.b < s.a:=fun hlt=>by
  obtain ⟨q1,rfl⟩:=List.getElem?_eq_some_iff.1 h0
  obtain ⟨q2,rfl⟩:=List.getElem?_eq_some_iff.1 hs
  exact List.pairwise_iff_getElem.1 hC.apart _ _ q1 q2 hlt
 have eq : n / 2 = j → s0 = s:=fun he=>by rw [he] at h0; exact Option.some.inj (h0.symm.trans hs)
 rw [e]
 by_cases hj : n / 2 = j
 ·have:=eq hj; subst this
  refine ⟨fun q=>?_,fun q=>?_,fun q=>?_,fun q=>?_⟩ <;> split <;> omega
 ·refine ⟨fun q=>?_,fun q=>?_,fun q=>?_,fun q=>?_⟩ <;> (have:=ap (by omega); split <;> omega)
theorem Behind.up {l : List Span} {n : Nat} {T T' : Int} (h : Behind l n T) (hC : Can l) (hT : T ≤ T') (hlt : T' < Zd l n ∨ n = 2 * l.length) : Behind l n T':=by
 refine ⟨h.le,fun j s hs=>⟨fun q=>Int.le_trans ((h.lo j s hs).1 q) hT,fun q=>Int.le_trans ((h.lo j s hs).2 q) hT⟩,fun j s hs=>?_⟩
 have hj:=(List.getElem?_eq_some_iff.1 hs).1
 by_cases hn : n = 2 * l.length
 ·exact ⟨fun q=>by omega,fun q=>by omega⟩
 ·have hl:=h.le
  have hm:=Zki hC (n:=n) (by omega) j s hs
  have hlt' : T' < Zd l n:=by rcases hlt with h1 | h1 <;> omega
  exact ⟨fun q=>by have:=hm.1 q; omega,fun q=>by have:=hm.2.1 q; omega⟩
theorem Behind.step {l : List Span} {n : Nat} {T T' : Int} (h : Behind l n T) (hC : Can l) (hT : T ≤ T') (hn : n < 2 * l.length) (he : Zd l n = T') : Behind l (n + 1) T':=by
 refine ⟨by omega,fun j s hs=>?_,fun j s hs=>?_⟩
 ·obtain ⟨s0,h0,e⟩:=Zd6 hn
  have eq : n / 2 = j → s0 = s:=fun he=>by rw [he] at h0; exact Option.some.inj (h0.symm.trans hs)
  constructor
  ·intro q
   by_cases hq : 2 * j < n
   ·exact Int.le_trans ((h.lo j s hs).1 hq) hT
   ·have:=eq (by omega); subst this
    rw [if_pos (by omega)] at e; omega
  ·intro q
   by_cases hq : 2 * j + 1 < n
   ·exact Int.le_trans ((h.lo j s hs).2 hq) hT
   ·have:=eq (by omega); subst this
    rw [if_neg (by omega)] at e; omega
 ·have hm:=Zki hC hn j s hs
  exact ⟨fun q=>by have:=hm.2.2.1 (by omega); omega,fun q=>by have:=hm.2.2.2 (by omega); omega⟩
def Zc1 (i k : Nat) : Bool:=decide (((i % 2 : Nat) : Int) = 1) && !decide (((k % 2 : Nat) : Int) = 1)
structure Sweep (a b : List Span) (i k : Nat) (ins : Bool) (fr : Int) (out : List Span) (T : Int) : Prop where
 ba : Behind a i T
 bb : Behind b k T
 st : ins = Zc1 i k
 can : Can out
 top : ∀ s ∈ out,s.b ≤ fr ∧ (ins = true → s.b < fr)
 frT : fr ≤ T ∨ (ins = false ∧ out = [])
 cov : ∀ x,x < T → ((cover out x ∨ (ins = true ∧ fr ≤ x)) ↔ (cover a x ∧ ¬ cover b x))
 len : 2 * out.length + (if ins then 1 else 0) ≤ i + k
 tb : T < 8796093022208
 bds : -8796093022208 ≤ T ∧ -8796093022208 ≤ fr ∧ fr ≤ 8796093022208
theorem Sweep.start {a b : List Span} (ha : ∀ s ∈ a,XD s = true) (hb : ∀ s ∈ b,XD s = true) : Sweep a b 0 0 false 0 [] (-8796093022208):=by
 have sv : ∀ s : Span,XD s = true → -8796093022208 < s.a ∧ -8796093022208 < s.b:=fun s hs=>by
  unfold XD ZbW at hs; simp at hs; omega
 refine ⟨Behind.start fun s hs=>sv s (ha s hs),Behind.start fun s hs=>sv s (hb s hs),rfl,⟨List.Pairwise.nil,by simp⟩,by simp, .inr ⟨rfl,rfl⟩,fun x hx=>?_,by simp,by decide,by decide⟩
 constructor
 ·rintro (⟨_,h,_⟩ | h)
  ·simp at h
  ·simp at h
 ·rintro ⟨⟨s,hs,h1,h2⟩,_⟩
  have:=sv s (ha s hs); omega
structure Adv (l : List Span) (i i' : Nat) (t : Int) : Prop where
 ok : (Zd l i = t ∧ i' = i + 1) ∨ (Zd l i ≠ t ∧ i' = i)
theorem Adv.yes {l : List Span} {i : Nat} {t : Int} (h : Zd l i = t) : Adv l i (i + 1) t:=⟨.inl ⟨h,rfl⟩⟩
theorem Adv.no {l : List Span} {i : Nat} {t : Int} (h : Zd l i ≠ t) : Adv l i i t:=⟨.inr ⟨h,rfl⟩⟩
structure Next (a b : List Span) (i k i' k' : Nat) (ins : Bool) (fr : Int) (out : List Span) (T t : Int) : Prop where
 ba : Behind a i' t
 bb : Behind b k' t
 lt : T < t
 tb : t < 8796093022208
 adv : i + k < i' + k'
 cov : ∀ x,x < t → ((cover out x ∨ (ins = true ∧ fr ≤ x)) ↔ (cover a x ∧ ¬ cover b x))
theorem Sweep.next {a b : List Span} {i k i' k' : Nat} {ins : Bool} {fr : Int} {out : List Span} {T t : Int} (h : Sweep a b i k ins fr out T)
  (hCa : Can a) (hCb : Can b) (ha : ∀ s ∈ a,XD s = true) (hb : ∀ s ∈ b,XD s = true)
  (ht : t = min (Zd a i) (Zd b k)) (hg : i < 2 * a.length ∨ k < 2 * b.length) (hi : Adv a i i' t) (hk : Adv b k k' t) : Next a b i k i' k' ins fr out T t:=by
 have sv : ∀ s : Span,XD s = true → s.a < 8796093022208 ∧ s.b < 8796093022208:=fun s hs=>by
  unfold XD ZbW at hs; simp at hs; omega
 have la:=h.ba.le; have lb:=h.bb.le
 have ga:=h.ba.gt h.tb; have gb:=h.bb.gt h.tb
 have hla : ∀ n,n < 2 * a.length → Zd a n < 8796093022208:=fun n hn=>Zmq hn fun s hs=>sv s (ha s hs)
 have hlb : ∀ n,n < 2 * b.length → Zd b n < 8796093022208:=fun n hn=>Zmq hn fun s hs=>sv s (hb s hs)
 have tb : t < 8796093022208:=by
  rcases hg with q | q
  ·have:=hla i q; omega
  ·have:=hlb k q; omega
 have hlt : T < t:=by omega
 have na : Zd a i = t → i < 2 * a.length:=fun q=>by
  rcases Nat.lt_or_ge i (2 * a.length) with c | c
  ·exact c
  ·have:=Zep (l:=a) (n:=i) (by omega); omega
 have nb : Zd b k = t → k < 2 * b.length:=fun q=>by
  rcases Nat.lt_or_ge k (2 * b.length) with c | c
  ·exact c
  ·have:=Zep (l:=b) (n:=k) (by omega); omega
 refine ⟨?_,?_,hlt,tb,?_,fun x hx=>?_⟩
 ·rcases hi.ok with ⟨q,rfl⟩ | ⟨q,rfl⟩
  ·exact h.ba.step hCa (by omega) (na q) q
  ·exact h.ba.up hCa (by omega) (.inl (by omega))
 ·rcases hk.ok with ⟨q,rfl⟩ | ⟨q,rfl⟩
  ·exact h.bb.step hCb (by omega) (nb q) q
  ·exact h.bb.up hCb (by omega) (.inl (by omega))
 ·rcases hi.ok with ⟨q,rfl⟩ | ⟨q,rfl⟩ <;> rcases hk.ok with ⟨q',rfl⟩ | ⟨q',rfl⟩ <;> omega
 ·rcases Int.lt_or_le x T with hxT | hxT
  ·exact h.cov x hxT
  ·have c1:=(h.ba.up hCa hxT (.inl (by omega))).cover
   have c2:=(h.bb.up hCb hxT (.inl (by omega))).cover
   have hst:=h.st
   rw [c1,c2]
   constructor
   ·rintro (⟨s,hs,h1,h2⟩ | ⟨q,_⟩)
    ·have:=(h.top s hs).1
     rcases h.frT with q | ⟨_,q⟩
     ·omega
     ·rw [q] at hs; simp at hs
    ·rw [q] at hst; unfold Zc1 at hst; simp at hst; omega
   ·intro q
    right
    have e : ins = true:=by rw [hst]; unfold Zc1; simp; omega
    refine ⟨e,?_⟩
    rcases h.frT with q' | ⟨q',_⟩
    ·omega
    ·rw [e] at q'; cases q'
theorem Sweep.keep {a b : List Span} {i k i' k' : Nat} {ins : Bool} {fr : Int} {out : List Span} {T t : Int} (h : Sweep a b i k ins fr out T) (hn : Next a b i k i' k' ins fr out T t) {v : Bool} (hv : Zc1 i' k' = v) (he : (v == ins) = true) : Sweep a b i' k' ins fr out t:=
 ⟨hn.ba,hn.bb,(hv.trans (eq_of_beq he)).symm,h.can,h.top,by rcases h.frT with q | q; exact .inl (by have:=hn.lt; omega); exact .inr q,hn.cov,by have:=h.len; have:=hn.adv; omega,hn.tb,by have:=h.bds; have:=hn.lt; omega⟩
theorem Sweep.open {a b : List Span} {i k i' k' : Nat} {fr : Int} {out : List Span} {T t : Int} (h : Sweep a b i k false fr out T) (hn : Next a b i k i' k' false fr out T t) (he : Zc1 i' k' = true) : Sweep a b i' k' true t out t:=by
 have tp : ∀ s ∈ out,s.b < t:=fun s hs=>by
  have:=(h.top s hs).1
  rcases h.frT with q | ⟨_,q⟩
  ·have:=hn.lt; omega
  ·rw [q] at hs; simp at hs
 refine ⟨hn.ba,hn.bb,he.symm,h.can,fun s hs=>⟨by have:=tp s hs; omega,fun _=>tp s hs⟩, .inl (by omega),fun x hx=>?_,by have:=h.len; have:=hn.adv; simp at this ⊢; simp at *; omega,hn.tb,by have:=h.bds; have:=hn.lt; have:=hn.tb; omega⟩
 rw [← hn.cov x hx]
 constructor
 ·rintro (q | ⟨_,q⟩)
  ·exact .inl q
  ·omega
 ·rintro (q | ⟨q,_⟩)
  ·exact .inl q
  ·cases q
theorem Sweep.push {a b : List Span} {i k i' k' : Nat} {fr : Int} {out : List Span} {T t : Int} (h : Sweep a b i k true fr out T) (hn : Next a b i k i' k' true fr out T t) (he : Zc1 i' k' = false) : Sweep a b i' k' false t (out ++ [⟨fr,t⟩]) t:=by
 have hfr : fr ≤ T:=by
  rcases h.frT with q | ⟨q,_⟩
  ·exact q
  ·cases q
 have hlt:=hn.lt
 refine ⟨hn.ba,hn.bb,he.symm,⟨List.pairwise_append.2 ⟨h.can.apart,List.pairwise_singleton _ _,fun s hs q hq=>?_⟩,fun s hs=>?_⟩,fun s hs=>⟨?_,fun q=>by cases q⟩, .inl (by omega),fun x hx=>?_,?_,hn.tb,by have:=h.bds; have:=hn.tb; omega⟩
 ·simp at hq; subst hq; exact (h.top s hs).2 rfl
 ·rcases List.mem_append.1 hs with q | q
  ·exact h.can.pos s q
  ·simp at q; subst q; show fr < t; omega
 ·rcases List.mem_append.1 hs with q | q
  ·have:=(h.top s q).1; omega
  ·simp at q; subst q; show t ≤ t; omega
 ·rw [← hn.cov x hx]
  constructor
  ·rintro (⟨s,hs,h1,h2⟩ | ⟨q,_⟩)
   ·rcases List.mem_append.1 hs with q | q
    ·exact .inl ⟨s,q,h1,h2⟩
    ·simp at q; subst q; exact .inr ⟨rfl,h1⟩
   ·cases q
  ·rintro (⟨s,hs,h1,h2⟩ | ⟨_,q⟩)
   ·exact .inl ⟨s,List.mem_append_left _ hs,h1,h2⟩
   ·exact .inl ⟨⟨fr,t⟩,by simp,q,hx⟩
 ·have:=h.len; have:=hn.adv; simp at *; omega
theorem Sweep.flip {a b : List Span} {i k i' k' : Nat} {fr : Int} {out : List Span} {T t : Int} {ins v : Bool} (h : Sweep a b i k ins fr out T) (hn : Next a b i k i' k' ins fr out T t) (hv : Zc1 i' k' = v) (he : (v == ins) = false) (hi : ins = true) : Sweep a b i' k' v t (out ++ [⟨fr,t⟩]) t:=by
 subst hi
 have e : v = false:=by cases q : v with | false=>rfl | true=>rw [q] at he; cases he
 rw [e] at hv ⊢; exact h.push hn hv
theorem Sweep.flop {a b : List Span} {i k i' k' : Nat} {fr : Int} {out : List Span} {T t : Int} {ins v : Bool} (h : Sweep a b i k ins fr out T) (hn : Next a b i k i' k' ins fr out T t) (hv : Zc1 i' k' = v) (he : (v == ins) = false) (hi : ins = false) : Sweep a b i' k' v t out t:=by
 subst hi
 have e : v = true:=by cases q : v with | true=>rfl | false=>rw [q] at he; cases he
 rw [e] at hv ⊢; exact h.open hn hv
theorem Sweep.done {a b : List Span} {i k : Nat} {ins : Bool} {fr : Int} {out : List Span} {T : Int} (h : Sweep a b i k ins fr out T) (hCa : Can a) (hCb : Can b)
  (hi : ¬ (i < 2 * a.length)) (hk : ¬ (k < 2 * b.length)) : out = Yh 3 a b ∧ out.length ≤ a.length + b.length:=by
 have la:=h.ba.le; have lb:=h.bb.le
 have ei : i = 2 * a.length:=by omega
 have ek : k = 2 * b.length:=by omega
 have hst : ins = false:=by rw [h.st]; unfold Zc1; simp; omega
 obtain ⟨h1,h2⟩:=Zcf (kind:=3) (a:=a) (b:=b) rfl hCa.pos hCb.pos
 refine ⟨Can.unique h.can h1 fun x=>?_,by have:=h.len; omega⟩
 rw [h2 x]
 have key : (cover a x ∧ ¬ cover b x) ↔ Zab 3 (Xx a x) (Xx b x) = true:=by
  rw [← Zaf,← Zaf]
  simp [Zab]
 rw [← key]
 rcases Int.lt_or_le x T with q | q
 ·rw [← h.cov x q,hst]; simp
 ·have c1:=(h.ba.up hCa q (.inr ei)).cover
  constructor
  ·rintro ⟨s,hs,u1,u2⟩
   have:=(h.top s hs).1
   rcases h.frT with q' | ⟨_,q'⟩
   ·omega
   ·rw [q'] at hs; simp at hs
  ·rintro ⟨u1,_⟩
   have:=c1.1 u1; omega
def ZuL (gs : List Group) (v : List Val) : Prop:=∀ (p q : Nat) (x y : Group),p < q → gs[p]? = some x → gs[q]? = some y → XL y.v v < 0 → XL x.v v < 0
def Zx9 (gs : List Group) (v : List Val) (i : Nat) : Prop:=∀ (j : Nat),j < i → ∀ (u : Group),gs[j]? = some u → XL u.v v < 0
def ZuM (gs : List Group) (v : List Val) (i : Nat) : Prop:=∀ (j : Nat),i ≤ j → ∀ (u : Group),gs[j]? = some u → ¬ XL u.v v < 0
theorem Zx9.zero {gs : List Group} {v : List Val} : Zx9 gs v 0:=fun j hj=>by omega
theorem ZuM.all {gs : List Group} {v : List Val} : ZuM gs v gs.length:=fun j hj u hu=>by have:=(List.getElem?_eq_some_iff.1 hu).1; omega
theorem Zx9.step {gs : List Group} {v : List Val} {h : Nat} {x : Group} (hs : ZuL gs v) (hx : gs[h]? = some x) (hc : XL x.v v < 0) : Zx9 gs v (h + 1):=fun j hj u hu=>by
 by_cases e : j = h
 ·subst e; rw [hx] at hu; cases hu; exact hc
 ·exact hs j h u x (by omega) hu hx hc
theorem ZuM.step {gs : List Group} {v : List Val} {h : Nat} {x : Group} (hs : ZuL gs v) (hx : gs[h]? = some x) (hc : 0 ≤ XL x.v v) : ZuM gs v h:=fun j hj u hu k=>by
 by_cases e : j = h
 ·subst e; rw [hx] at hu; cases hu; omega
 ·have:=hs h j x u (by omega) hx hu k; omega
theorem ZiA {l : List Span} (h : ∀ s ∈ l,ZN s = true) : ∀ s ∈ Zai l,ZN s = true:=fun s hs=>by
 have hc:=Q7 fun x hx=>YG (h x hx)
 have hp:=hc.can.pos s hs
 obtain ⟨p,hp1,p1,p2⟩:=(hc.cov s.a).1 ⟨s,hs,by omega,hp⟩
 obtain ⟨q,hq1,q1,q2⟩:=(hc.cov (s.b - 1)).1 ⟨s,hs,by omega,by omega⟩
 have b1:=h p hp1
 have b2:=h q hq1
 unfold ZN at b1 b2 ⊢
 simp at b1 b2 ⊢
 omega
end Go.Civ
