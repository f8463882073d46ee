/- Lemmas. -/
import Derived.Test.YtcopkjhdncdnmaaGreatDoorP16
import Derived.Lib.Bytealg
set_option linter.unusedSimpArgs false
namespace Go.Civ
open Go.RowKit
set_option linter.unusedVariables false
def Xh (c : Int) : Bool:=(decide (65 ≤ c) && decide (c ≤ 90)) || (decide (97 ≤ c) && decide (c ≤ 122))
def Zab (c : Int) : Bool:=decide (48 ≤ c) && decide (c ≤ 57)
def ixM (c : Int) : Int:=Go.Lib.indexByte [95,47,43,45] c.toNat.toUInt8
def ZbB (c : UInt8) : Bool:=Xh (c.toNat : Int) || Zab (c.toNat : Int) || decide (0 ≤ ixM (c.toNat : Int))
def XU (s : List UInt8) : Bool:=decide (1 ≤ s.length) && decide (s.length ≤ 30) && Xh ((s.headD 0).toNat : Int) && s.all ZbB
theorem Zoy {s : List UInt8} {k : Nat} {c : UInt8} (h : s[k]? = some c) (hc : ZbB c = false) : XU s = false:=by
 unfold XU; rw [ZeM h hc]; simp
theorem ZbZ {s : List UInt8} {c : UInt8} (h : s[0]? = some c) : s.headD 0 = c:=by
 cases s with
 | nil=>simp at h
 | cons x s=>simp at h; simpa using h
theorem ZpL {c : UInt8} (h : Xh (c.toNat : Int) = true) : ZbB c = true:=by unfold ZbB; rw [h]; rfl
theorem ZpM {c : UInt8} (h : Zab (c.toNat : Int) = true) : ZbB c = true:=by unfold ZbB; rw [h]; simp
theorem ZpN {c : UInt8} (h : 0 ≤ Go.Lib.indexByte [95,47,43,45] (c.toNat : Int).toNat.toUInt8) : ZbB c = true:=by unfold ZbB ixM; rw [decide_eq_true h]; simp
theorem Zoz {c : UInt8} (h1 : Xh (c.toNat : Int) = false) (h2 : Zab (c.toNat : Int) = false) (h3 : Go.Lib.indexByte [95,47,43,45] (c.toNat : Int).toNat.toUInt8 < 0) : ZbB c = false:=by
 unfold ZbB ixM; rw [h1,h2,decide_eq_false (by omega)]; rfl
theorem Ziw {s : List UInt8} (h : (s.length : Int) < 1 ∨ 30 < (s.length : Int)) : XU s = false:=by
 unfold XU
 rcases h with h | h
 ·rw [decide_eq_false (show ¬ 1 ≤ s.length by omega)]; simp
 ·rw [decide_eq_false (show ¬ s.length ≤ 30 by omega)]; simp
theorem ZmU {s : List UInt8} {c : UInt8} (h : s[0]? = some c) (hc : Xh (c.toNat : Int) = false) : XU s = false:=by
 unfold XU; rw [ZbZ h,hc]; simp
theorem ZmV {s : List UInt8} {c : UInt8} (h1 : 1 ≤ (s.length : Int)) (h2 : (s.length : Int) ≤ 30) (h : s[0]? = some c) (hc : Xh (c.toNat : Int) = true) (ha : s.all ZbB = true) : XU s = true:=by
 unfold XU; rw [ZbZ h,hc,ha,decide_eq_true (show 1 ≤ s.length by omega),decide_eq_true (show s.length ≤ 30 by omega)]; rfl
def ZbC (l : List (List UInt8)) (j : Nat) (s : List UInt8) : Bool:=XU s && !(l.take j).any fun x=>decide (x = s)
def Za8 (l : List (List UInt8)) : Bool:=l.zipIdx.all fun p=>ZbC l p.2 p.1
theorem ZmW {l : List (List UInt8)} {j : Nat} {s : List UInt8} (h1 : XU s = true) (h2 : ((l.take j).any fun x=>decide (x = s)) = false) : ZbC l j s = true:=by unfold ZbC; rw [h1,h2]; rfl
theorem ZmX {l : List (List UInt8)} {j : Nat} {s : List UInt8} (h1 : XU s = false) : ZbC l j s = false:=by unfold ZbC; rw [h1]; rfl
theorem ZmY {l : List (List UInt8)} {j : Nat} {s : List UInt8} (h2 : ((l.take j).any fun x=>decide (x = s)) = true) : ZbC l j s = false:=by unfold ZbC; rw [h2]; simp
theorem Za9 {α : Type} {P : Nat → α → Prop} {l : List α} {k : Nat} {y : α} (h : ∀ j,j < k → ∀ x,l[j]? = some x → P j x) (hk : l[k]? = some y) (hy : P k y) : ∀ j,j < k + 1 → ∀ x,l[j]? = some x → P j x:=fun j hj x hx=>by
 by_cases e : j = k
 ·subst e; rw [hk] at hx; obtain rfl:=Option.some.inj hx; exact hy
 ·exact h j (by omega) x hx
theorem ZjA {l : List (List UInt8)} {k : Nat} {s : List UInt8} (h : l[k]? = some s) (hs : ZbC l k s = false) : Za8 l = false:=by
 unfold Za8
 rw [Bool.eq_false_iff]
 intro e
 rw [List.all_eq_true] at e
 have:=e (s,k) (List.mem_zipIdx_iff_getElem?.2 h)
 rw [this] at hs; cases hs
theorem ZmZ {l : List (List UInt8)} {k : Nat} (h : ∀ j,j < k → ∀ s,l[j]? = some s → ZbC l j s = true) (hk : l.length ≤ k) : Za8 l = true:=by
 unfold Za8
 rw [List.all_eq_true]
 rintro ⟨s,j⟩ hm
 have hj:=List.mem_zipIdx_iff_getElem?.1 hm
 have:=(List.getElem?_eq_some_iff.1 hj).1
 exact h j (by simp at this ⊢; omega) s hj
def YT (l : List (List UInt8)) (nm : List UInt8) : Int:=YP (fun x=>decide (x = nm)) l
theorem Zla {l : List (List UInt8)} {nm : List UInt8} : decide (0 ≤ YT l nm) = l.any fun x=>decide (x = nm):=ZbM _ _
def Zff (c : Col) : Bool:=decide (1 ≤ c.kind) && decide (c.kind ≤ 4)
def fkB (s : Schema) (f : Foreign) : Bool:=XU f.table && decide (1 ≤ f.cols.length) && decide (f.cols.length ≤ 8) && Za8 f.cols && f.cols.all fun c=>decide (0 ≤ YT (s.cols.map Col.name) c)
def Qs (s : Schema) : Bool:=XU s.name && decide (1 ≤ s.cols.length) && decide (s.cols.length ≤ 8) && decide (1 ≤ s.key) && decide (s.key ≤ s.cols.length) && decide (s.fks.length ≤ 8) && Za8 (s.cols.map Col.name)
def X3 (s : Schema) : Bool:=Qs s && (s.cols.all Zff && s.fks.all (fkB s))
theorem Zna {c : Col} (h1 : 1 ≤ c.kind) (h2 : c.kind ≤ 4) : Zff c = true:=by unfold Zff; simp [h1,h2]
theorem ZpO {s : Schema} {f : Foreign} (h1 : XU f.table = true) (h2 : 1 ≤ (f.cols.length : Int)) (h3 : (f.cols.length : Int) ≤ 8) (h4 : Za8 f.cols = true) (h5 : (f.cols.all fun c=>decide (0 ≤ YT (s.cols.map Col.name) c)) = true) : fkB s f = true:=by
 unfold fkB; rw [h1,h4,h5,decide_eq_true (show 1 ≤ f.cols.length by omega),decide_eq_true (show f.cols.length ≤ 8 by omega)]; rfl
theorem Qf {s : Schema} {f : Foreign} (h1 : XU f.table = false) : fkB s f = false:=by unfold fkB; rw [h1]; rfl
theorem Qg {s : Schema} {f : Foreign} (h : (f.cols.length : Int) < 1 ∨ 8 < (f.cols.length : Int)) : fkB s f = false:=by
 unfold fkB
 rcases h with h | h
 ·rw [decide_eq_false (show ¬ 1 ≤ f.cols.length by omega)]; simp
 ·rw [decide_eq_false (show ¬ f.cols.length ≤ 8 by omega)]; simp
theorem Qh {s : Schema} {f : Foreign} (h1 : Za8 f.cols = false) : fkB s f = false:=by unfold fkB; rw [h1]; simp
theorem Qi {s : Schema} {f : Foreign} {k : Nat} {c : List UInt8} (h : f.cols[k]? = some c) (hc : YT (s.cols.map Col.name) c < 0) : fkB s f = false:=by
 unfold fkB; rw [ZeM (p:=fun c=>decide (0 ≤ YT (s.cols.map Col.name) c)) h (decide_eq_false (by omega))]; simp
theorem XL {s : Schema} (h1 : Qs s = true) (h2 : s.cols.all Zff = true) (h3 : s.fks.all (fkB s) = true) : X3 s = true:=by unfold X3; rw [h1,h2,h3]; rfl
theorem X9 {s : Schema} {k : Nat} {c : Col} (h : s.cols[k]? = some c) (hc : c.kind < 1 ∨ 4 < c.kind) : X3 s = false:=by
 unfold X3; rw [ZeM (p:=Zff) h (by unfold Zff; rcases hc with hc | hc <;> simp <;> omega)]; simp
theorem Yi {s : Schema} {k : Nat} {f : Foreign} (h : s.fks[k]? = some f) (hc : fkB s f = false) : X3 s = false:=by
 unfold X3; rw [ZeM (p:=fkB s) h hc]; simp
theorem Q4 {s : Schema} (h : Qs s = false) : X3 s = false:=by unfold X3; rw [h]; rfl
def Zo0 (s : Schema) (v : List Val) : Int:=if X3 s && v.all Y1 then (if eqF (fun (c : Col) (x : Val)=>decide (c.kind = x.k)) s.cols v then 0 else 13) else 1
theorem Zhu {α β : Type} {f : α → β → Bool} : ∀ {a : List α} {b : List β},eqF f a b = true → a.length = b.length
 | [],[],_=>rfl
 | [],_ :: _,h=>by simp [eqF] at h
 | _ :: _,[],h=>by simp [eqF] at h
 | x :: a,y :: b,h=>by simp [eqF] at h; simp [Zhu (f:=f) (a:=a) (b:=b) h.2]
theorem Zo1 {s : Schema} {v : List Val} (h : Zo0 s v = 0) : v.length ≤ 8 ∧ v.all Y1 = true ∧ v.length = s.cols.length ∧ X3 s = true:=by
 unfold Zo0 at h
 split at h
 ·rename_i h1
  split at h
  ·rename_i h2
   simp only [Bool.and_eq_true] at h1
   have h3:=Zhu h2
   have h4:=h1.1
   unfold X3 Qs at h4
   simp only [Bool.and_eq_true,decide_eq_true_eq] at h4
   exact ⟨by omega,h1.2,h3.symm,h1.1⟩
  ·cases h
 ·cases h
def ZiQ (s : Schema) (last : Int) (r : HRow) : Bool:=decide (Zo0 s r.v = 0) && Zht r && decide (r.r.x.a ≤ last) && (decide (r.r.x.b ≤ last) || decide (r.r.x.b = 253402300800))
def ZeO (t : Table) : Bool:=X3 t.s && decide (-62135596801 ≤ t.last) && decide (t.last < 253402300800) && decide (t.rows.length ≤ 500) && t.rows.all (ZiQ t.s t.last) && decide (t.rows = ZlM t.rows)
end Go.Civ
