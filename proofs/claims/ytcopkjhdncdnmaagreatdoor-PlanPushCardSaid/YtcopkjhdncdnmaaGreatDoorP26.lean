/- Lemmas. -/
import Derived.Test.YtcopkjhdncdnmaaGreatDoorP25
set_option linter.unusedSimpArgs false
namespace Go.Civ
open Go.RowKit
open Go.Lib (compact)
set_option linter.unusedVariables false
structure Link where
 t : Table
 o : Table
 f : Foreign
section
variable {G : GH} {cs : List Value}
end
theorem ZoF {s : Schema} (h : X3 s = true) : 1 ≤ s.key ∧ s.key ≤ s.cols.length:=by
 unfold X3 Qs at h
 simp only [Bool.and_eq_true,decide_eq_true_eq] at h
 obtain ⟨⟨⟨⟨⟨⟨_,h2⟩,h3⟩,h4⟩,h5⟩,h6⟩,h7⟩:=h.1
 exact ⟨h4,h5⟩
structure LinkOk (x : Link) : Prop where
 t : ZeO x.t = true
 o : ZeO x.o = true
 cols : ∀ c ∈ x.f.cols,0 ≤ YT (x.t.s.cols.map Col.name) c
 key : (x.f.cols.length : Int) = x.o.s.key
section
variable {x : Link} {v : List Val} {r : HRow}
theorem LinkOk.len (h : LinkOk x) (hr : r ∈ x.t.rows) : x.t.s.cols.length ≤ r.v.length:=by
 have:=Zg3 h.t hr
 have h4:=this.2.2.2.1
 omega
theorem LinkOk.olen (h : LinkOk x) (hr : r ∈ x.o.rows) : x.f.cols.length ≤ r.v.length:=by
 have h1:=Zg3 h.o hr
 have h2:=ZoF (Zkg h.o).1
 have h3:=h.key
 have h4:=h1.2.2.2.1
 omega
end
section
variable {M : List Val → List Val → Bool} {l t : List HRow} {v : List Val} {x tx fr : Int} {r o : HRow} {k : Nat} {ts : List Int}
end
end Go.Civ
namespace Go.Civ
open Go.RowKit
open Go.Lib (compact)
section
variable {M : List Val → List Val → Bool} {l : List HRow} {r : HRow} {fr : Int}
end
end Go.Civ
namespace Go.Civ
open Go.RowKit
set_option linter.unusedVariables false
section
variable {s t o : Schema} {f : Foreign} {cs : List (List UInt8)} {c nm : List UInt8} {v u : List Val} {k : Nat} {x : Col}
end
theorem Zkh {α : Type} {p : α → Bool} {x : α} : ∀ {l : List α} {k : Nat},(∀ j,j < k → ∀ y,l[j]? = some y → p y = false) → l[k]? = some x → p x = true → l.find? p = some x
 | [],k,_,h,_=>by cases h
 | a :: l,0,_,h,hx=>by obtain rfl:=Option.some.inj h; rw [List.find?_cons,hx]
 | a :: l,k + 1,h1,h,hx=>by
  rw [List.find?_cons,h1 0 (by omega) a rfl]
  exact Zkh (k:=k) (fun j hj y hy=>h1 (j + 1) (by omega) y (by simpa using hy)) (by simpa using h) hx
section
variable {t o : Table} {f : Foreign} {x y fr : Int} {k i j : Nat} {v : List Val}
end
section
variable {M : List Val → List Val → Bool} {os fs : List Fact} {k : Nat} {x : Fact}
end
end Go.Civ
namespace Go.Civ
end Go.Civ
namespace Go.Civ
open Go.RowKit
set_option linter.unusedVariables false
abbrev noS : Schema:=⟨[],[],0,[]⟩
def YQ (l : List Schema) (nm : List UInt8) : Option Schema:=l.find? fun s=>decide (s.name = nm)
section
variable {α β : Type} {f : α → Option β} {l : List α} {k : Nat} {x : α} {r : β}
end
section
variable {l : List Schema} {s x t : Schema} {f : Foreign} {nm : List UInt8} {k j : Nat}
theorem Znz (h : YP (fun x=>decide (x.name = nm)) l < 0) : noS = (YQ l nm).getD noS ∧ false = (YQ l nm).isSome:=by
 have : YQ l nm = none:=by
  unfold YQ
  unfold YP at h
  split at h
  ·omega
  ·rename_i e
   rw [List.findIdx?_eq_none_iff] at e
   rw [List.find?_eq_none]
   intro y hy; rw [e y hy]; simp
 rw [this]; exact ⟨rfl,rfl⟩
theorem Zn0 {α : Type} {p : α → Bool} {l : List α} (h : 0 ≤ YP p l) : (YP p l).toNat < l.length ∧ ∀ x,l[(YP p l).toNat]? = some x → l.find? p = some x:=by
 unfold YP at h ⊢
 split at h
 ·rename_i i hi
  obtain ⟨h1,h2,h3⟩:=List.findIdx?_eq_some_iff_getElem.1 hi
  rw [show ((i : Nat) : Int).toNat = i by omega]
  refine ⟨h1,fun x hx=>?_⟩
  refine Zkh (k:=i) (fun j hj y hy=>?_) hx ?_
  ·obtain ⟨q1,q2⟩:=List.getElem?_eq_some_iff.1 hy
   rw [← q2]; simpa using h3 j hj
  ·obtain ⟨q1,q2⟩:=List.getElem?_eq_some_iff.1 hx
   rw [← q2]; exact h2
 ·omega
theorem Zll (h : 0 ≤ YP (fun x=>decide (x.name = nm)) l) (hx : l[(YP (fun x=>decide (x.name = nm)) l).toNat]? = some x) : x = (YQ l nm).getD noS ∧ true = (YQ l nm).isSome:=by
 have : YQ l nm = some x:=(Zn0 h).2 x hx
 rw [this]; exact ⟨rfl,rfl⟩
end
section
variable {l : List Table} {t o x : Table} {f : Foreign} {nm : List UInt8} {k i j : Nat} {r : List UInt8 × Int}
end
end Go.Civ
namespace Go.Civ
open Go.RowKit
set_option linter.unusedVariables false
section
variable {α : Type} (pf : α → Bool)
variable {pf} {l : List α} {n k : Nat}
theorem Zia (h : YP pf l ≠ -1) : ∃ m : Nat,YP pf l = (m : Int) ∧ ∃ y,l[m]? = some y ∧ pf y = true ∧ ∀ j,j < m → ∀ x,l[j]? = some x → pf x = false:=by
 unfold YP at h ⊢
 cases e : l.findIdx? pf with
 | none=>rw [e] at h; exact absurd rfl h
 | some m=>
  rw [List.findIdx?_eq_some_iff_getElem] at e
  obtain ⟨hl,h1,h2⟩:=e
  refine ⟨m,rfl,l[m],List.getElem?_eq_getElem hl,h1,fun j hj x hx=>?_⟩
  obtain ⟨_,rfl⟩:=List.getElem?_eq_some_iff.1 hx
  simpa using h2 j hj
end
end Go.Civ
