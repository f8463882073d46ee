/- Lemmas: Civ52. -/
import Derived.Test.YtjjkgobhlfmhhaaGreatR13
import Derived.Test.YtjjkgobhlfmhhaaGreatR16
import Derived.Test.YtjjkgobhlfmhhaaGreatR19
import Derived.Lib.Bytealg
namespace Go.Civ
open Go.RowKit
set_option linter.unusedVariables false

def ltrI (c : Int) : Bool := (decide (65 ≤ c) && decide (c ≤ 90)) || (decide (97 ≤ c) && decide (c ≤ 122))
def digI (c : Int) : Bool := decide (48 ≤ c) && decide (c ≤ 57)
def ixM (c : Int) : Int := Go.Lib.indexByte [95, 47, 43, 45] c.toNat.toUInt8
def nameC (c : UInt8) : Bool := ltrI (c.toNat : Int) || digI (c.toNat : Int) || decide (0 ≤ ixM (c.toNat : Int))
def nameB (s : List UInt8) : Bool := decide (1 ≤ s.length) && decide (s.length ≤ 30) && ltrI ((s.headD 0).toNat : Int) && s.all nameC
theorem nameB_no {s : List UInt8} {k : Nat} {c : UInt8} (h : s[k]? = some c) (hc : nameC c = false) : nameB s = false := by
  unfold nameB; rw [all_no h hc]; simp
theorem nameB_head {s : List UInt8} {c : UInt8} (h : s[0]? = some c) : s.headD 0 = c := by
  cases s with
  | nil => simp at h
  | cons x s => simp at h; simpa using h
theorem nameC_1 {c : UInt8} (h : ltrI (c.toNat : Int) = true) : nameC c = true := by unfold nameC; rw [h]; rfl
theorem nameC_2 {c : UInt8} (h : digI (c.toNat : Int) = true) : nameC c = true := by unfold nameC; rw [h]; simp
theorem nameC_3 {c : UInt8} (h : 0 ≤ Go.Lib.indexByte [95, 47, 43, 45] (c.toNat : Int).toNat.toUInt8) : nameC c = true := by unfold nameC ixM; rw [decide_eq_true h]; simp
theorem nameC_no {c : UInt8} (h1 : ltrI (c.toNat : Int) = false) (h2 : digI (c.toNat : Int) = false) (h3 : Go.Lib.indexByte [95, 47, 43, 45] (c.toNat : Int).toNat.toUInt8 < 0) : nameC c = false := by
  unfold nameC ixM; rw [h1, h2, decide_eq_false (by omega)]; rfl
theorem nameB_len {s : List UInt8} (h : (s.length : Int) < 1 ∨ 30 < (s.length : Int)) : nameB s = false := by
  unfold nameB
  rcases h with h | h
  · rw [decide_eq_false (show ¬ 1 ≤ s.length by omega)]; simp
  · rw [decide_eq_false (show ¬ s.length ≤ 30 by omega)]; simp
theorem nameB_let {s : List UInt8} {c : UInt8} (h : s[0]? = some c) (hc : ltrI (c.toNat : Int) = false) : nameB s = false := by
  unfold nameB; rw [nameB_head h, hc]; simp
theorem nameB_yes {s : List UInt8} {c : UInt8} (h1 : 1 ≤ (s.length : Int)) (h2 : (s.length : Int) ≤ 30) (h : s[0]? = some c) (hc : ltrI (c.toNat : Int) = true) (ha : s.all nameC = true) : nameB s = true := by
  unfold nameB; rw [nameB_head h, hc, ha, decide_eq_true (show 1 ≤ s.length by omega), decide_eq_true (show s.length ≤ 30 by omega)]; rfl
def distA (l : List (List UInt8)) (j : Nat) (s : List UInt8) : Bool := nameB s && !(l.take j).any fun x => decide (x = s)
def distB (l : List (List UInt8)) : Bool := l.zipIdx.all fun p => distA l p.2 p.1
theorem distA_yes {l : List (List UInt8)} {j : Nat} {s : List UInt8} (h1 : nameB s = true) (h2 : ((l.take j).any fun x => decide (x = s)) = false) : distA l j s = true := by unfold distA; rw [h1, h2]; rfl
theorem distA_no1 {l : List (List UInt8)} {j : Nat} {s : List UInt8} (h1 : nameB s = false) : distA l j s = false := by unfold distA; rw [h1]; rfl
theorem distA_no2 {l : List (List UInt8)} {j : Nat} {s : List UInt8} (h2 : ((l.take j).any fun x => decide (x = s)) = true) : distA l j s = false := by unfold distA; rw [h2]; simp
theorem lt_stepJ {α : Type} {P : Nat → α → Prop} {l : List α} {k : Nat} {y : α} (h : ∀ j, j < k → ∀ x, l[j]? = some x → P j x) (hk : l[k]? = some y) (hy : P k y) : ∀ j, j < k + 1 → ∀ x, l[j]? = some x → P j x := fun j hj x hx => by
  by_cases e : j = k
  · subst e; rw [hk] at hx; obtain rfl := Option.some.inj hx; exact hy
  · exact h j (by omega) x hx
theorem distB_no {l : List (List UInt8)} {k : Nat} {s : List UInt8} (h : l[k]? = some s) (hs : distA l k s = false) : distB l = false := by
  unfold distB
  rw [Bool.eq_false_iff]
  intro e
  rw [List.all_eq_true] at e
  have := e (s, k) (List.mem_zipIdx_iff_getElem?.2 h)
  rw [this] at hs; cases hs
theorem distB_yes {l : List (List UInt8)} {k : Nat} (h : ∀ j, j < k → ∀ s, l[j]? = some s → distA l j s = true) (hk : l.length ≤ k) : distB l = true := by
  unfold distB
  rw [List.all_eq_true]
  rintro ⟨s, j⟩ hm
  have hj := List.mem_zipIdx_iff_getElem?.1 hm
  have := (List.getElem?_eq_some_iff.1 hj).1
  exact h j (by simp at this ⊢; omega) s hj
def ixS (l : List (List UInt8)) (nm : List UInt8) : Int := idxF (fun x => decide (x = nm)) l
theorem ixS_any {l : List (List UInt8)} {nm : List UInt8} : decide (0 ≤ ixS l nm) = l.any fun x => decide (x = nm) := idxF_any _ _
def kindB (c : Col) : Bool := decide (1 ≤ c.kind) && decide (c.kind ≤ 4)
def fkB (s : Schema) (f : Foreign) : Bool := nameB f.table && decide (1 ≤ f.cols.length) && decide (f.cols.length ≤ 8) && distB f.cols && f.cols.all fun c => decide (0 ≤ ixS (s.cols.map Col.name) c)
def schA (s : Schema) : Bool := nameB s.name && decide (1 ≤ s.cols.length) && decide (s.cols.length ≤ 8) && decide (1 ≤ s.key) && decide (s.key ≤ s.cols.length) && decide (s.fks.length ≤ 8) && distB (s.cols.map Col.name)
def schB (s : Schema) : Bool := schA s && (s.cols.all kindB && s.fks.all (fkB s))
theorem kindB_yes {c : Col} (h1 : 1 ≤ c.kind) (h2 : c.kind ≤ 4) : kindB c = true := by unfold kindB; simp [h1, h2]
theorem fkB_yes {s : Schema} {f : Foreign} (h1 : nameB f.table = true) (h2 : 1 ≤ (f.cols.length : Int)) (h3 : (f.cols.length : Int) ≤ 8) (h4 : distB f.cols = true) (h5 : (f.cols.all fun c => decide (0 ≤ ixS (s.cols.map Col.name) c)) = true) : fkB s f = true := by
  unfold fkB; rw [h1, h4, h5, decide_eq_true (show 1 ≤ f.cols.length by omega), decide_eq_true (show f.cols.length ≤ 8 by omega)]; rfl
theorem fkB_no1 {s : Schema} {f : Foreign} (h1 : nameB f.table = false) : fkB s f = false := by unfold fkB; rw [h1]; rfl
theorem fkB_no2 {s : Schema} {f : Foreign} (h : (f.cols.length : Int) < 1 ∨ 8 < (f.cols.length : Int)) : fkB s f = false := by
  unfold fkB
  rcases h with h | h
  · rw [decide_eq_false (show ¬ 1 ≤ f.cols.length by omega)]; simp
  · rw [decide_eq_false (show ¬ f.cols.length ≤ 8 by omega)]; simp
theorem fkB_no3 {s : Schema} {f : Foreign} (h1 : distB f.cols = false) : fkB s f = false := by unfold fkB; rw [h1]; simp
theorem fkB_no4 {s : Schema} {f : Foreign} {k : Nat} {c : List UInt8} (h : f.cols[k]? = some c) (hc : ixS (s.cols.map Col.name) c < 0) : fkB s f = false := by
  unfold fkB; rw [all_no (p := fun c => decide (0 ≤ ixS (s.cols.map Col.name) c)) h (decide_eq_false (by omega))]; simp
theorem schB_yes {s : Schema} (h1 : schA s = true) (h2 : s.cols.all kindB = true) (h3 : s.fks.all (fkB s) = true) : schB s = true := by unfold schB; rw [h1, h2, h3]; rfl
theorem schB_kind {s : Schema} {k : Nat} {c : Col} (h : s.cols[k]? = some c) (hc : c.kind < 1 ∨ 4 < c.kind) : schB s = false := by
  unfold schB; rw [all_no (p := kindB) h (by unfold kindB; rcases hc with hc | hc <;> simp <;> omega)]; simp
theorem schB_fk {s : Schema} {k : Nat} {f : Foreign} (h : s.fks[k]? = some f) (hc : fkB s f = false) : schB s = false := by
  unfold schB; rw [all_no (p := fkB s) h hc]; simp
theorem schB_a {s : Schema} (h : schA s = false) : schB s = false := by unfold schB; rw [h]; rfl
def rowE (s : Schema) (v : List Val) : Int := if schB s && v.all valB then (if eqF (fun (c : Col) (x : Val) => decide (c.kind = x.k)) s.cols v then 0 else 13) else 1
theorem I64_rowE (s : Schema) (v : List Val) : I64 (rowE s v) := by unfold rowE; split <;> (try split) <;> constructor <;> decide
theorem rowE_1 {s : Schema} {v : List Val} (h : schB s = false) : rowE s v = 1 := by unfold rowE; rw [h]; rfl
theorem any_all {v : List Val} {b : Bool} (h : (v.any fun x => !valB x) = b) : v.all valB = !b := by rw [← any_not, h]
theorem rowE_2 {s : Schema} {v : List Val} (h : (v.any fun x => !valB x) = true) : rowE s v = 1 := by unfold rowE; rw [any_all h]; simp
theorem rowE_13 {s : Schema} {v : List Val} (h1 : schB s = true) (h2 : (v.any fun x => !valB x) = false) (h3 : eqF (fun (c : Col) (x : Val) => decide (c.kind = x.k)) s.cols v = false) : rowE s v = 13 := by
  unfold rowE; rw [any_all h2, h1, h3]; rfl
theorem rowE_0 {s : Schema} {v : List Val} (h1 : schB s = true) (h2 : (v.any fun x => !valB x) = false) (h3 : eqF (fun (c : Col) (x : Val) => decide (c.kind = x.k)) s.cols v = true) : rowE s v = 0 := by
  unfold rowE; rw [any_all h2, h1, h3]; rfl
theorem eqF_length {α β : Type} {f : α → β → Bool} : ∀ {a : List α} {b : List β}, eqF f a b = true → a.length = b.length
  | [], [], _ => rfl
  | [], _ :: _, h => by simp [eqF] at h
  | _ :: _, [], h => by simp [eqF] at h
  | x :: a, y :: b, h => by simp [eqF] at h; simp [eqF_length (f := f) (a := a) (b := b) h.2]
theorem rowE_len {s : Schema} {v : List Val} (h : rowE s v = 0) : v.length ≤ 8 ∧ v.all valB = true ∧ v.length = s.cols.length ∧ schB s = true := by
  unfold rowE at h
  split at h
  · rename_i h1
    split at h
    · rename_i h2
      simp only [Bool.and_eq_true] at h1
      have h3 := eqF_length h2
      have h4 := h1.1
      unfold schB schA at h4
      simp only [Bool.and_eq_true, decide_eq_true_eq] at h4
      exact ⟨by omega, h1.2, h3.symm, h1.1⟩
    · cases h
  · cases h

def rowOk (s : Schema) (last : Int) (r : HRow) : Bool := decide (rowE s r.v = 0) && goodB r && decide (r.r.x.a ≤ last) && (decide (r.r.x.b ≤ last) || decide (r.r.x.b = 253402300800))
def validT (t : Table) : Bool := schB t.s && decide (-62135596801 ≤ t.last) && decide (t.last < 253402300800) && decide (t.rows.length ≤ 500) && t.rows.all (rowOk t.s t.last) && decide (t.rows = normH t.rows)
def instB (x : Int) : Bool := decide (-62135596800 ≤ x) && decide (x < 253402300800)
def rrowOk (last : Int) (r : HRow) : Bool := goodB r && decide (r.r.x.a ≤ last) && (decide (r.r.x.b ≤ last) || decide (r.r.x.b = 253402300800))
def rrowsB (l : List HRow) (last : Int) : Bool := decide (-62135596801 ≤ last) && decide (last < 253402300800) && decide (l.length ≤ 500) && l.all (rrowOk last) && decide (rnormH l = l)
def lvalidB (t : Table) : Bool := schB t.s && rrowsB t.rows t.last && t.rows.all fun r => decide (rowE t.s r.v = 0)
theorem validT_good {t : Table} (h : validT t = true) : GoodH t.rows ∧ t.rows.length ≤ 500 ∧ (∀ r ∈ t.rows, r.v.length ≤ 8) ∧ t.rows = normH t.rows := by
  unfold validT at h
  simp only [Bool.and_eq_true, decide_eq_true_eq, List.all_eq_true] at h
  refine ⟨fun r hr => ?_, h.1.1.2, fun r hr => ?_, h.2⟩
  · have := h.1.2 r hr
    unfold rowOk at this; simp only [Bool.and_eq_true, decide_eq_true_eq] at this; exact this.1.1.2
  · have := h.1.2 r hr
    unfold rowOk at this; simp only [Bool.and_eq_true, decide_eq_true_eq] at this; exact (rowE_len this.1.1.1).1
theorem lvalid_eq (t : Table) : lvalidB t = validT t := by
  rw [Bool.eq_iff_iff]
  unfold lvalidB validT rrowsB
  simp only [Bool.and_eq_true, decide_eq_true_eq, List.all_eq_true]
  have e : ∀ r, rowOk t.s t.last r = true ↔ (rowE t.s r.v = 0 ∧ rrowOk t.last r = true) := fun r => by
    unfold rowOk rrowOk; simp only [Bool.and_eq_true, decide_eq_true_eq]; constructor
    · rintro ⟨⟨⟨a, b⟩, c⟩, d⟩; exact ⟨a, ⟨b, c⟩, d⟩
    · rintro ⟨a, ⟨b, c⟩, d⟩; exact ⟨⟨⟨a, b⟩, c⟩, d⟩
  have g : (∀ r ∈ t.rows, rrowOk t.last r = true) → GoodH t.rows := fun h r hr => by
    have := h r hr; unfold rrowOk at this; simp only [Bool.and_eq_true] at this; exact this.1.1
  constructor
  · rintro ⟨⟨h1, ⟨⟨⟨h2, h3⟩, h4⟩, h5⟩, h6⟩, h7⟩
    exact ⟨⟨⟨⟨⟨h1, h2⟩, h3⟩, h4⟩, fun r hr => (e r).2 ⟨h7 r hr, h5 r hr⟩⟩, by rw [norm_eq (g h5)]; exact h6.symm⟩
  · rintro ⟨⟨⟨⟨⟨h1, h2⟩, h3⟩, h4⟩, h5⟩, h6⟩
    have h5' : ∀ r ∈ t.rows, rrowOk t.last r = true := fun r hr => ((e r).1 (h5 r hr)).2
    exact ⟨⟨h1, ⟨⟨⟨h2, h3⟩, h4⟩, h5'⟩, by rw [← norm_eq (g h5')]; exact h6.symm⟩, fun r hr => ((e r).1 (h5 r hr)).1⟩

abbrev noT : Table := ⟨⟨[], [], 0, []⟩, [], 0⟩
def doneT (t : Table) (tx : Int) (l : List HRow) : Table := if (normH l).length ≤ 500 then ⟨t.s, normH l, tx⟩ else noT
def doneTE (l : List HRow) : Int := if (normH l).length ≤ 500 then 0 else 5
def timE (t : Table) (tx : Int) : Int := if instB tx then (if tx ≤ t.last then 6 else 0) else 2
def or2 (a b : Int) : Int := if a ≠ 0 then a else b
abbrev insRows (t : Table) (tx : Int) (v : List Val) (d : Span) : List HRow := t.rows ++ [⟨v, ⟨d, ⟨tx, 253402300800⟩⟩⟩]
def insOk (t : Table) (d : Span) : Bool := validT t && spanB d
def insErr (t : Table) (tx : Int) (v : List Val) (d : Span) : Int := if insOk t d then or2 (rowE t.s v) (timE t tx) else 1
def insT (t : Table) (tx : Int) (v : List Val) (d : Span) : Table := if insErr t tx v d = 0 then doneT t tx (insRows t tx v d) else noT
def insE_ (t : Table) (tx : Int) (v : List Val) (d : Span) : Int := if insErr t tx v d = 0 then doneTE (insRows t tx v d) else insErr t tx v d
def touchB (d : Span) (r : HRow) : Bool := decide (r.r.x.b = 253402300800) && decide (r.r.d.a < d.b) && decide (d.a < r.r.d.b)
def partS (r d : Span) : Span := ⟨max r.a d.a, min r.b d.b⟩
def lastN (nx : Option (List Val)) (r d : Span) (tx : Int) : List HRow := match nx with
  | some v => [⟨v, ⟨partS r d, ⟨tx, 253402300800⟩⟩⟩]
  | none => []
def chgOf (hl : List Val → Bool) (nx : List Val → Option (List Val)) (tx : Int) (d : Span) (r : HRow) : List HRow :=
  if touchB d r && hl r.v then [⟨r.v, ⟨r.r.d, ⟨r.r.x.a, tx⟩⟩⟩] ++ outN r.v (combR 3 [r.r.d] [d]) tx 253402300800 ++ lastN (nx r.v) r.r.d d tx else [r]
def chgRows (hl : List Val → Bool) (nx : List Val → Option (List Val)) (tx : Int) (d : Span) (l : List HRow) : List HRow := l.flatMap (chgOf hl nx tx d)
theorem chgRows_take {hl : List Val → Bool} {nx : List Val → Option (List Val)} {tx : Int} {d : Span} {l : List HRow} {k : Nat} {r : HRow} (h : l[k]? = some r) :
    chgRows hl nx tx d (l.take (k + 1)) = chgRows hl nx tx d (l.take k) ++ chgOf hl nx tx d r := by
  rw [List.take_add_one, h]; simp [chgRows]
theorem chgRows_all {hl : List Val → Bool} {nx : List Val → Option (List Val)} {tx : Int} {d : Span} {l : List HRow} {k : Nat} (h : l.length ≤ k) : chgRows hl nx tx d (l.take k) = chgRows hl nx tx d l := by rw [List.take_of_length_le h]
theorem chgOf_no {hl : List Val → Bool} {nx : List Val → Option (List Val)} {tx : Int} {d : Span} {r : HRow} (h : r.r.x.b ≠ 253402300800 ∨ hl r.v = false ∨ d.b ≤ r.r.d.a ∨ r.r.d.b ≤ d.a) : chgOf hl nx tx d r = [r] := by
  unfold chgOf
  rw [if_neg]
  unfold touchB
  simp only [Bool.and_eq_true, decide_eq_true_eq]
  rintro ⟨⟨⟨h1, h2⟩, h3⟩, h4⟩
  rcases h with h | h | h | h
  · exact h h1
  · rw [h] at h4; cases h4
  · omega
  · omega
theorem chgOf_yes {hl : List Val → Bool} {nx : List Val → Option (List Val)} {tx : Int} {d : Span} {r : HRow} (h1 : r.r.x.b = 253402300800) (h2 : hl r.v = true) (h3 : r.r.d.a < d.b) (h4 : d.a < r.r.d.b) :
    chgOf hl nx tx d r = [⟨r.v, ⟨r.r.d, ⟨r.r.x.a, tx⟩⟩⟩] ++ outN r.v (combR 3 [r.r.d] [d]) tx 253402300800 ++ lastN (nx r.v) r.r.d d tx := by
  unfold chgOf
  rw [if_pos]
  unfold touchB
  simp only [Bool.and_eq_true, decide_eq_true_eq]
  exact ⟨⟨⟨h1, h3⟩, h4⟩, h2⟩
def nms (t : Table) : List (List UInt8) := t.s.cols.map Col.name
def delErr (d : Nat) (t : Table) (tx : Int) (c : Cond) (p : Span) : Int := if insOk t p then or2 (checkF d c t.s.cols) (timE t tx) else 1
abbrev delRows (d : Nat) (t : Table) (tx : Int) (c : Cond) (p : Span) : List HRow := chgRows (hldB d c (nms t)) (fun _ => none) tx p t.rows
def delT (d : Nat) (t : Table) (tx : Int) (c : Cond) (p : Span) : Table := if delErr d t tx c p = 0 then doneT t tx (delRows d t tx c p) else noT
def delE (d : Nat) (t : Table) (tx : Int) (c : Cond) (p : Span) : Int := if delErr d t tx c p = 0 then doneTE (delRows d t tx c p) else delErr d t tx c p
def snapOf (l : List HRow) (at_ tx : Int) : List (List Val) := ((grpH l).filter fun g => inR (timesH g.t tx) at_).map HGrp.v
def snapH (t : Table) (at_ tx : Int) : List (List Val) := if validT t && instB at_ && instB tx then snapOf t.rows at_ tx else []
def chgsOf (l : List HRow) (a b : Int) : List HRow := (grpH l).flatMap fun g => outN g.v (combR 3 (timesH g.t a) (timesH g.t b)) a b ++ outN g.v (combR 3 (timesH g.t b) (timesH g.t a)) b 253402300800
def chgsErr (t : Table) (a b : Int) : Int := if validT t then (if instB a && instB b && decide (a < b) then (if (chgsOf t.rows a b).length ≤ 1000 then 0 else 5) else 2) else 1
def chgsH (t : Table) (a b : Int) : List HRow := if chgsErr t a b = 0 then chgsOf t.rows a b else []
end Go.Civ
