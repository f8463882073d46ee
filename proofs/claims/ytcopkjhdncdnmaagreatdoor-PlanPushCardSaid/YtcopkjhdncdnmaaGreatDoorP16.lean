/- Lemmas. -/
import Derived.Test.YtcopkjhdncdnmaaGreatDoorP15
set_option linter.unusedSimpArgs false
namespace Go.Civ
open Go.RowKit
set_option linter.unusedVariables false
structure HGrp where
 v : List Val
 t : List HRow
def Zsi (tx : Int) (r : HRow) : Bool:=decide (r.r.x.a ≤ tx) && decide (tx < r.r.x.b)
def ZqK (l : List HRow) (tx : Int) : List Span:=(l.filter (Zsi tx)).map fun r=>r.r.d
def ZqL (l : List HRow) (tx : Int) : List Span:=Zsg (ZqK l tx)
def Zht (r : HRow) : Bool:=r.v.all Y1 && Yj r.r.d && Yj r.r.x
def Zsj (l : List HRow) : Prop:=∀ r ∈ l,Zht r = true
def ofV (l : List HRow) (v : List Val) : List HRow:=l.filter fun r=>decide (r.v = v)
def Zsk (l : List HRow) : VV:=l.foldl (fun out r=>Zta out r.v) []
def Ztb (l : List HRow) : List HGrp:=(Zsk l).map fun v=>⟨v,ofV l v⟩
theorem ZkF {r : HRow} (h : Zht r = true) : r.v.all Y1 = true ∧ Yj r.r.d = true ∧ Yj r.r.x = true:=by
 unfold Zht at h; simp only [Bool.and_eq_true] at h; exact ⟨h.1.1,h.1.2,h.2⟩
def Zov (out : List HGrp) (i : Nat) (r : HRow) : List HGrp:=match out[i]? with
 | some g=>out.set i ⟨g.v,g.t ++ [r]⟩
 | none=>out
theorem ZpJ {out : List HGrp} {i : Nat} {g : HGrp} (r : HRow) (h : out[i]? = some g) : Zov out i r = out.set i ⟨g.v,g.t ++ [r]⟩:=by unfold Zov; rw [h]
structure NS where
 out : List HRow
 now : List Span
 fr : Int
def Ztc (v : List Val) (now : List Span) (a b : Int) : List HRow:=now.map fun s=>⟨v,⟨s,⟨a,b⟩⟩⟩
def Zsl (v : List Val) (f : Int → List Span) (s : NS) (c : Int) : NS:=if s.now = f c then s else ⟨s.out ++ Ztc v s.now s.fr c,f c,c⟩
def Ztd (v : List Val) (f : Int → List Span) (cs : List Int) : NS:=cs.foldl (Zsl v f) ⟨[],[],0⟩
def Zsm (l : List HRow) : List Int:=QR (l.map fun r=>r.r.x)
def Zsn (g : HGrp) : List HRow:=(Ztd g.v (ZqL g.t) (Zsm g.t)).out
def ZlM (l : List HRow) : List HRow:=(Ztb l).flatMap Zsn
theorem Zsj.d {l : List HRow} (h : Zsj l) : ∀ r ∈ l,Yj r.r.d = true:=fun r hr=>(ZkF (h r hr)).2.1
end Go.Civ
namespace Go.Civ
open Go.RowKit
set_option linter.unusedVariables false
section
variable {P : Program} {Q : Exit → Env → World → Prop} {ρ : Env} {w : World} {ops : Array Oper} {rest : List Oper} {K : Env → World → Prop}
variable {d : Nat} {ty : TypeId} {pos : String} {af : Array Edge} {g : Option (Nat × Bool)} {G : GH}
end
section
variable {α : Type} {pf : α → α → Int} {l L M : List α}
def LoF (l : List α) (i lo : Nat) (p : α → Prop) : Prop:=i = lo ∨ ∃ y,l[i - 1]? = some y ∧ p y
def HiF (l : List α) (j hi : Nat) (p : α → Prop) : Prop:=j = hi ∨ ∃ y,l[j]? = some y ∧ p y
def C1F (pf : α → α → Int) (l : List α) (s lo n : Nat) : Prop:=s = lo ∨ ∃ u v,l[s - 1]? = some u ∧ l[n - s]? = some v ∧ ¬ pf v u < 0
def C2F (pf : α → α → Int) (l : List α) (r hi n : Nat) : Prop:=r = hi ∨ ∃ u v,l[r]? = some u ∧ l[n - r - 1]? = some v ∧ pf v u < 0
theorem LoF.start {i lo : Nat} {p : α → Prop} (h : i = lo) : LoF l i lo p:= .inl h
theorem HiF.start {i lo : Nat} {p : α → Prop} (h : i = lo) : HiF l i lo p:= .inl h
theorem C1F.start {s n : Nat} : C1F pf l s s n:= .inl rfl
theorem C2F.start {s n : Nat} : C2F pf l s s n:= .inl rfl
theorem LoF.step {h lo : Nat} {y : α} {p : α → Prop} (hy : l[h]? = some y) (hp : p y) : LoF l (h + 1) lo p:= .inr ⟨y,hy,hp⟩
theorem HiF.step {h hi : Nat} {y : α} {p : α → Prop} (hy : l[h]? = some y) (hp : p y) : HiF l h hi p:= .inr ⟨y,hy,hp⟩
theorem C1F.step {c n lo : Nat} {u v : α} (hu : l[c]? = some u) (hv : l[n - 1 - c]? = some v) (h : 0 ≤ pf v u) : C1F pf l (c + 1) lo n:=
 .inr ⟨u,v,hu,by rw [show n - (c + 1) = n - 1 - c by omega]; exact hv,by omega⟩
theorem C2F.step {c n hi : Nat} {u v : α} (hu : l[c]? = some u) (hv : l[n - 1 - c]? = some v) (h : pf v u < 0) : C2F pf l c hi n:=
 .inr ⟨u,v,hu,by rw [show n - c - 1 = n - 1 - c by omega]; exact hv,h⟩
inductive Blks (pf : α → α → Int) (L : List α) (bs n : Nat) : Nat → Prop
 | fin {a : Nat} : n ≤ a → Blks pf L bs n a
 | step {a : Nat} : Asc pf L a (min (a + bs) n) → Blks pf L bs n (a + bs) → Blks pf L bs n a
inductive Done (pf : α → α → Int) (L : List α) (bs : Nat) : Nat → Prop
 | zero : Done pf L bs 0
 | snoc {a : Nat} : Done pf L bs a → Asc pf L a (a + bs) → Done pf L bs (a + bs)
variable {bs n a : Nat}
theorem Blks.frame (h : Blks pf L bs n a) (k : ∀ p,a ≤ p → M[p]? = L[p]?) : Blks pf M bs n a:=by
 induction h with
 | fin h=>exact .fin h
 | step h1 h2 ih=>exact .step (h1.frame fun p hp _=>k p hp) (ih fun p hp=>k p (by omega))
theorem Done.frame (h : Done pf L bs a) (k : ∀ p,p < a → M[p]? = L[p]?) : Done pf M bs a:=by
 induction h with
 | zero=>exact .zero
 | snoc h1 h2 ih=>exact .snoc (ih fun p hp=>k p (by omega)) (h2.frame fun p _ hp=>k p hp)
theorem Done.blks (h : Done pf L bs a) (ha : a ≤ n) (k : Blks pf L bs n a) : Blks pf L bs n 0:=by
 induction h with
 | zero=>exact k
 | snoc h1 h2 ih=>exact ih (by omega) (.step (by rw [Nat.min_eq_left ha]; exact h2) k)
theorem Blks.head (h : Blks pf L bs n a) (ha : a < n) : Asc pf L a (min (a + bs) n) ∧ Blks pf L bs n (a + bs):=by
 cases h with
 | fin h=>omega
 | step h1 h2=>exact ⟨h1,h2⟩
theorem Blks.last (h : Asc pf L a n) (ha : n ≤ a + bs) : Blks pf L bs n a:= .step (by rw [Nat.min_eq_right ha]; exact h) (.fin ha)
theorem Blks.rest (h : Blks pf L bs n a) (h2 : a + bs < n) (h3 : n < a + 2 * bs) : Asc pf L a (a + bs) ∧ Asc pf L (a + bs) n:=by
 obtain ⟨k1,k2⟩:=h.head (by omega)
 obtain ⟨k3,_⟩:=k2.head h2
 rw [Nat.min_eq_left (by omega)] at k1
 rw [Nat.min_eq_right (by omega)] at k3
 exact ⟨k1,k3⟩
theorem Blks.one (h : Blks pf L bs n a) (h2 : n ≤ a + bs) : Asc pf L a n:=by
 rcases Nat.lt_or_ge a n with k | k
 ·have:=(h.head k).1
  rwa [Nat.min_eq_right h2] at this
 ·exact Asc.empty (by omega)
theorem Done.ins (h : Done pf L bs a) (k : Ins pf L M a (a + bs) (a + bs)) : Done pf M bs (a + bs):= .snoc (h.frame fun p hp=>k.frame p (by omega)) k.asc
theorem Done.last (h : Done pf L bs a) (k : Ins pf L M a n n) (ha : a ≤ n) (hn : n ≤ a + bs) : Blks pf M bs n 0:=(h.frame (M:=M) fun p hp=>k.frame p (by omega)).blks ha (.last k.asc hn)
end
end Go.Civ
namespace Go.Civ
open Go.RowKit
set_option linter.unusedVariables false
section
variable {P : Program} {Q : Exit → Env → World → Prop} {ρ : Env} {w : World} {ops : Array Oper} {rest : List Oper} {K : Env → World → Prop}
variable {d : Nat} {ty : TypeId} {pos : String} {af : Array Edge} {g : Option (Nat × Bool)} {G : GH}
end
theorem Zee {α : Type} {l : List (List α)} {k : Nat} {x : List α} (h : l[k]? = some x) : (l.take (k + 1)).flatten = (l.take k).flatten ++ x:=by
 rw [List.take_add_one,h]; simp
theorem Zgb {α : Type} (l : List (List α)) (k : Nat) : (l.take k).flatten.length ≤ l.flatten.length:=by
 have : l.flatten = (l.take k).flatten ++ (l.drop k).flatten:=by rw [← List.flatten_append,List.take_append_drop]
 rw [this,List.length_append]; omega
theorem Zox {α : Type} {l : List (List α)} {k : Nat} (h : l.length ≤ k) : (l.take k).flatten = l.flatten:=by rw [List.take_of_length_le h]
theorem ZeN {b : Bool} (h : (!b) = false) : b = true:=by cases b with | true=>rfl | false=>cases h
theorem XK.cast {w : World} {G : GH} {b e : Nat} {cs cs' : List Value} (h : XK w G (some (b,e,cs))) (k : cs = cs') : XK w G (some (b,e,cs')):=k ▸ h
end Go.Civ
