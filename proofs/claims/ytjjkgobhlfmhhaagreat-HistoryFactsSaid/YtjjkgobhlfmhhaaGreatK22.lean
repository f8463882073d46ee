/- Lemmas: Civ52, Civ55. -/
import Derived.Test.YtjjkgobhlfmhhaaGreatK09
import Derived.Test.YtjjkgobhlfmhhaaGreatK12
import Derived.Test.YtjjkgobhlfmhhaaGreatK17
import Derived.Test.YtjjkgobhlfmhhaaGreatK20
import Derived.Test.YtjjkgobhlfmhhaaGreatK21
import Derived.Lib.Bytealg
namespace Go.Civ
open Go.RowKit
set_option linter.unusedVariables false

def ltrI (c : Int) : Bool := (decide (65 ≤ c) && decide (c ≤ 90)) || (decide (97 ≤ c) && decide (c ≤ 122))
def digI (c : Int) : Bool := decide (48 ≤ c) && decide (c ≤ 57)
def ixM (c : Int) : Int := Go.Lib.indexByte [95, 47, 43, 45] c.toNat.toUInt8
def nameC (c : UInt8) : Bool := ltrI (c.toNat : Int) || digI (c.toNat : Int) || decide (0 ≤ ixM (c.toNat : Int))
def nameB (s : List UInt8) : Bool := decide (1 ≤ s.length) && decide (s.length ≤ 30) && ltrI ((s.headD 0).toNat : Int) && s.all nameC
theorem nameB_no {s : List UInt8} {k : Nat} {c : UInt8} (h : s[k]? = some c) (hc : nameC c = false) : nameB s = false := by
  unfold nameB; rw [all_no h hc]; simp
theorem nameB_head {s : List UInt8} {c : UInt8} (h : s[0]? = some c) : s.headD 0 = c := by
  cases s with
  | nil => simp at h
  | cons x s => simp at h; simpa using h
theorem nameC_1 {c : UInt8} (h : ltrI (c.toNat : Int) = true) : nameC c = true := by unfold nameC; rw [h]; rfl
theorem nameC_2 {c : UInt8} (h : digI (c.toNat : Int) = true) : nameC c = true := by unfold nameC; rw [h]; simp
theorem nameC_3 {c : UInt8} (h : 0 ≤ Go.Lib.indexByte [95, 47, 43, 45] (c.toNat : Int).toNat.toUInt8) : nameC c = true := by unfold nameC ixM; rw [decide_eq_true h]; simp
theorem nameC_no {c : UInt8} (h1 : ltrI (c.toNat : Int) = false) (h2 : digI (c.toNat : Int) = false) (h3 : Go.Lib.indexByte [95, 47, 43, 45] (c.toNat : Int).toNat.toUInt8 < 0) : nameC c = false := by
  unfold nameC ixM; rw [h1, h2, decide_eq_false (by omega)]; rfl
theorem nameB_len {s : List UInt8} (h : (s.length : Int) < 1 ∨ 30 < (s.length : Int)) : nameB s = false := by
  unfold nameB
  rcases h with h | h
  · rw [decide_eq_false (show ¬ 1 ≤ s.length by omega)]; simp
  · rw [decide_eq_false (show ¬ s.length ≤ 30 by omega)]; simp
theorem nameB_let {s : List UInt8} {c : UInt8} (h : s[0]? = some c) (hc : ltrI (c.toNat : Int) = false) : nameB s = false := by
  unfold nameB; rw [nameB_head h, hc]; simp
theorem nameB_yes {s : List UInt8} {c : UInt8} (h1 : 1 ≤ (s.length : Int)) (h2 : (s.length : Int) ≤ 30) (h : s[0]? = some c) (hc : ltrI (c.toNat : Int) = true) (ha : s.all nameC = true) : nameB s = true := by
  unfold nameB; rw [nameB_head h, hc, ha, decide_eq_true (show 1 ≤ s.length by omega), decide_eq_true (show s.length ≤ 30 by omega)]; rfl
def distA (l : List (List UInt8)) (j : Nat) (s : List UInt8) : Bool := nameB s && !(l.take j).any fun x => decide (x = s)
def distB (l : List (List UInt8)) : Bool := l.zipIdx.all fun p => distA l p.2 p.1
theorem distA_yes {l : List (List UInt8)} {j : Nat} {s : List UInt8} (h1 : nameB s = true) (h2 : ((l.take j).any fun x => decide (x = s)) = false) : distA l j s = true := by unfold distA; rw [h1, h2]; rfl
theorem distA_no1 {l : List (List UInt8)} {j : Nat} {s : List UInt8} (h1 : nameB s = false) : distA l j s = false := by unfold distA; rw [h1]; rfl
theorem distA_no2 {l : List (List UInt8)} {j : Nat} {s : List UInt8} (h2 : ((l.take j).any fun x => decide (x = s)) = true) : distA l j s = false := by unfold distA; rw [h2]; simp
theorem lt_stepJ {α : Type} {P : Nat → α → Prop} {l : List α} {k : Nat} {y : α} (h : ∀ j, j < k → ∀ x, l[j]? = some x → P j x) (hk : l[k]? = some y) (hy : P k y) : ∀ j, j < k + 1 → ∀ x, l[j]? = some x → P j x := fun j hj x hx => by
  by_cases e : j = k
  · subst e; rw [hk] at hx; obtain rfl := Option.some.inj hx; exact hy
  · exact h j (by omega) x hx
theorem distB_no {l : List (List UInt8)} {k : Nat} {s : List UInt8} (h : l[k]? = some s) (hs : distA l k s = false) : distB l = false := by
  unfold distB
  rw [Bool.eq_false_iff]
  intro e
  rw [List.all_eq_true] at e
  have := e (s, k) (List.mem_zipIdx_iff_getElem?.2 h)
  rw [this] at hs; cases hs
theorem distB_yes {l : List (List UInt8)} {k : Nat} (h : ∀ j, j < k → ∀ s, l[j]? = some s → distA l j s = true) (hk : l.length ≤ k) : distB l = true := by
  unfold distB
  rw [List.all_eq_true]
  rintro ⟨s, j⟩ hm
  have hj := List.mem_zipIdx_iff_getElem?.1 hm
  have := (List.getElem?_eq_some_iff.1 hj).1
  exact h j (by simp at this ⊢; omega) s hj
def ixS (l : List (List UInt8)) (nm : List UInt8) : Int := idxF (fun x => decide (x = nm)) l
theorem ixS_any {l : List (List UInt8)} {nm : List UInt8} : decide (0 ≤ ixS l nm) = l.any fun x => decide (x = nm) := idxF_any _ _
def kindB (c : Col) : Bool := decide (1 ≤ c.kind) && decide (c.kind ≤ 4)
def fkB (s : Schema) (f : Foreign) : Bool := nameB f.table && decide (1 ≤ f.cols.length) && decide (f.cols.length ≤ 8) && distB f.cols && f.cols.all fun c => decide (0 ≤ ixS (s.cols.map Col.name) c)
def schA (s : Schema) : Bool := nameB s.name && decide (1 ≤ s.cols.length) && decide (s.cols.length ≤ 8) && decide (1 ≤ s.key) && decide (s.key ≤ s.cols.length) && decide (s.fks.length ≤ 8) && distB (s.cols.map Col.name)
def schB (s : Schema) : Bool := schA s && (s.cols.all kindB && s.fks.all (fkB s))
theorem kindB_yes {c : Col} (h1 : 1 ≤ c.kind) (h2 : c.kind ≤ 4) : kindB c = true := by unfold kindB; simp [h1, h2]
theorem fkB_yes {s : Schema} {f : Foreign} (h1 : nameB f.table = true) (h2 : 1 ≤ (f.cols.length : Int)) (h3 : (f.cols.length : Int) ≤ 8) (h4 : distB f.cols = true) (h5 : (f.cols.all fun c => decide (0 ≤ ixS (s.cols.map Col.name) c)) = true) : fkB s f = true := by
  unfold fkB; rw [h1, h4, h5, decide_eq_true (show 1 ≤ f.cols.length by omega), decide_eq_true (show f.cols.length ≤ 8 by omega)]; rfl
theorem fkB_no1 {s : Schema} {f : Foreign} (h1 : nameB f.table = false) : fkB s f = false := by unfold fkB; rw [h1]; rfl
theorem fkB_no2 {s : Schema} {f : Foreign} (h : (f.cols.length : Int) < 1 ∨ 8 < (f.cols.length : Int)) : fkB s f = false := by
  unfold fkB
  rcases h with h | h
  · rw [decide_eq_false (show ¬ 1 ≤ f.cols.length by omega)]; simp
  · rw [decide_eq_false (show ¬ f.cols.length ≤ 8 by omega)]; simp
theorem fkB_no3 {s : Schema} {f : Foreign} (h1 : distB f.cols = false) : fkB s f = false := by unfold fkB; rw [h1]; simp
theorem fkB_no4 {s : Schema} {f : Foreign} {k : Nat} {c : List UInt8} (h : f.cols[k]? = some c) (hc : ixS (s.cols.map Col.name) c < 0) : fkB s f = false := by
  unfold fkB; rw [all_no (p := fun c => decide (0 ≤ ixS (s.cols.map Col.name) c)) h (decide_eq_false (by omega))]; simp
theorem schB_yes {s : Schema} (h1 : schA s = true) (h2 : s.cols.all kindB = true) (h3 : s.fks.all (fkB s) = true) : schB s = true := by unfold schB; rw [h1, h2, h3]; rfl
theorem schB_kind {s : Schema} {k : Nat} {c : Col} (h : s.cols[k]? = some c) (hc : c.kind < 1 ∨ 4 < c.kind) : schB s = false := by
  unfold schB; rw [all_no (p := kindB) h (by unfold kindB; rcases hc with hc | hc <;> simp <;> omega)]; simp
theorem schB_fk {s : Schema} {k : Nat} {f : Foreign} (h : s.fks[k]? = some f) (hc : fkB s f = false) : schB s = false := by
  unfold schB; rw [all_no (p := fkB s) h hc]; simp
theorem schB_a {s : Schema} (h : schA s = false) : schB s = false := by unfold schB; rw [h]; rfl
def rowE (s : Schema) (v : List Val) : Int := if schB s && v.all valB then (if eqF (fun (c : Col) (x : Val) => decide (c.kind = x.k)) s.cols v then 0 else 13) else 1
theorem I64_rowE (s : Schema) (v : List Val) : I64 (rowE s v) := by unfold rowE; split <;> (try split) <;> constructor <;> decide
theorem rowE_1 {s : Schema} {v : List Val} (h : schB s = false) : rowE s v = 1 := by unfold rowE; rw [h]; rfl
theorem any_all {v : List Val} {b : Bool} (h : (v.any fun x => !valB x) = b) : v.all valB = !b := by rw [← any_not, h]
theorem rowE_2 {s : Schema} {v : List Val} (h : (v.any fun x => !valB x) = true) : rowE s v = 1 := by unfold rowE; rw [any_all h]; simp
theorem rowE_13 {s : Schema} {v : List Val} (h1 : schB s = true) (h2 : (v.any fun x => !valB x) = false) (h3 : eqF (fun (c : Col) (x : Val) => decide (c.kind = x.k)) s.cols v = false) : rowE s v = 13 := by
  unfold rowE; rw [any_all h2, h1, h3]; rfl
theorem rowE_0 {s : Schema} {v : List Val} (h1 : schB s = true) (h2 : (v.any fun x => !valB x) = false) (h3 : eqF (fun (c : Col) (x : Val) => decide (c.kind = x.k)) s.cols v = true) : rowE s v = 0 := by
  unfold rowE; rw [any_all h2, h1, h3]; rfl
theorem eqF_length {α β : Type} {f : α → β → Bool} : ∀ {a : List α} {b : List β}, eqF f a b = true → a.length = b.length
  | [], [], _ => rfl
  | [], _ :: _, h => by simp [eqF] at h
  | _ :: _, [], h => by simp [eqF] at h
  | x :: a, y :: b, h => by simp [eqF] at h; simp [eqF_length (f := f) (a := a) (b := b) h.2]
theorem rowE_len {s : Schema} {v : List Val} (h : rowE s v = 0) : v.length ≤ 8 ∧ v.all valB = true ∧ v.length = s.cols.length ∧ schB s = true := by
  unfold rowE at h
  split at h
  · rename_i h1
    split at h
    · rename_i h2
      simp only [Bool.and_eq_true] at h1
      have h3 := eqF_length h2
      have h4 := h1.1
      unfold schB schA at h4
      simp only [Bool.and_eq_true, decide_eq_true_eq] at h4
      exact ⟨by omega, h1.2, h3.symm, h1.1⟩
    · cases h
  · cases h

def rowOk (s : Schema) (last : Int) (r : HRow) : Bool := decide (rowE s r.v = 0) && goodB r && decide (r.r.x.a ≤ last) && (decide (r.r.x.b ≤ last) || decide (r.r.x.b = 253402300800))
def validT (t : Table) : Bool := schB t.s && decide (-62135596801 ≤ t.last) && decide (t.last < 253402300800) && decide (t.rows.length ≤ 500) && t.rows.all (rowOk t.s t.last) && decide (t.rows = normH t.rows)
def instB (x : Int) : Bool := decide (-62135596800 ≤ x) && decide (x < 253402300800)
def rrowOk (last : Int) (r : HRow) : Bool := goodB r && decide (r.r.x.a ≤ last) && (decide (r.r.x.b ≤ last) || decide (r.r.x.b = 253402300800))
def rrowsB (l : List HRow) (last : Int) : Bool := decide (-62135596801 ≤ last) && decide (last < 253402300800) && decide (l.length ≤ 500) && l.all (rrowOk last) && decide (rnormH l = l)
def lvalidB (t : Table) : Bool := schB t.s && rrowsB t.rows t.last && t.rows.all fun r => decide (rowE t.s r.v = 0)
theorem validT_good {t : Table} (h : validT t = true) : GoodH t.rows ∧ t.rows.length ≤ 500 ∧ (∀ r ∈ t.rows, r.v.length ≤ 8) ∧ t.rows = normH t.rows := by
  unfold validT at h
  simp only [Bool.and_eq_true, decide_eq_true_eq, List.all_eq_true] at h
  refine ⟨fun r hr => ?_, h.1.1.2, fun r hr => ?_, h.2⟩
  · have := h.1.2 r hr
    unfold rowOk at this; simp only [Bool.and_eq_true, decide_eq_true_eq] at this; exact this.1.1.2
  · have := h.1.2 r hr
    unfold rowOk at this; simp only [Bool.and_eq_true, decide_eq_true_eq] at this; exact (rowE_len this.1.1.1).1
theorem lvalid_eq (t : Table) : lvalidB t = validT t := by
  rw [Bool.eq_iff_iff]
  unfold lvalidB validT rrowsB
  simp only [Bool.and_eq_true, decide_eq_true_eq, List.all_eq_true]
  have e : ∀ r, rowOk t.s t.last r = true ↔ (rowE t.s r.v = 0 ∧ rrowOk t.last r = true) := fun r => by
    unfold rowOk rrowOk; simp only [Bool.and_eq_true, decide_eq_true_eq]; constructor
    · rintro ⟨⟨⟨a, b⟩, c⟩, d⟩; exact ⟨a, ⟨b, c⟩, d⟩
    · rintro ⟨a, ⟨b, c⟩, d⟩; exact ⟨⟨⟨a, b⟩, c⟩, d⟩
  have g : (∀ r ∈ t.rows, rrowOk t.last r = true) → GoodH t.rows := fun h r hr => by
    have := h r hr; unfold rrowOk at this; simp only [Bool.and_eq_true] at this; exact this.1.1
  constructor
  · rintro ⟨⟨h1, ⟨⟨⟨h2, h3⟩, h4⟩, h5⟩, h6⟩, h7⟩
    exact ⟨⟨⟨⟨⟨h1, h2⟩, h3⟩, h4⟩, fun r hr => (e r).2 ⟨h7 r hr, h5 r hr⟩⟩, by rw [norm_eq (g h5)]; exact h6.symm⟩
  · rintro ⟨⟨⟨⟨⟨h1, h2⟩, h3⟩, h4⟩, h5⟩, h6⟩
    have h5' : ∀ r ∈ t.rows, rrowOk t.last r = true := fun r hr => ((e r).1 (h5 r hr)).2
    exact ⟨⟨h1, ⟨⟨⟨h2, h3⟩, h4⟩, h5'⟩, by rw [← norm_eq (g h5')]; exact h6.symm⟩, fun r hr => ((e r).1 (h5 r hr)).1⟩

abbrev noT : Table := ⟨⟨[], [], 0, []⟩, [], 0⟩
def doneT (t : Table) (tx : Int) (l : List HRow) : Table := if (normH l).length ≤ 500 then ⟨t.s, normH l, tx⟩ else noT
def doneTE (l : List HRow) : Int := if (normH l).length ≤ 500 then 0 else 5
def timE (t : Table) (tx : Int) : Int := if instB tx then (if tx ≤ t.last then 6 else 0) else 2
def or2 (a b : Int) : Int := if a ≠ 0 then a else b
abbrev insRows (t : Table) (tx : Int) (v : List Val) (d : Span) : List HRow := t.rows ++ [⟨v, ⟨d, ⟨tx, 253402300800⟩⟩⟩]
def insOk (t : Table) (d : Span) : Bool := validT t && spanB d
def insErr (t : Table) (tx : Int) (v : List Val) (d : Span) : Int := if insOk t d then or2 (rowE t.s v) (timE t tx) else 1
def insT (t : Table) (tx : Int) (v : List Val) (d : Span) : Table := if insErr t tx v d = 0 then doneT t tx (insRows t tx v d) else noT
def insE_ (t : Table) (tx : Int) (v : List Val) (d : Span) : Int := if insErr t tx v d = 0 then doneTE (insRows t tx v d) else insErr t tx v d
def touchB (d : Span) (r : HRow) : Bool := decide (r.r.x.b = 253402300800) && decide (r.r.d.a < d.b) && decide (d.a < r.r.d.b)
def partS (r d : Span) : Span := ⟨max r.a d.a, min r.b d.b⟩
def lastN (nx : Option (List Val)) (r d : Span) (tx : Int) : List HRow := match nx with
  | some v => [⟨v, ⟨partS r d, ⟨tx, 253402300800⟩⟩⟩]
  | none => []
def chgOf (hl : List Val → Bool) (nx : List Val → Option (List Val)) (tx : Int) (d : Span) (r : HRow) : List HRow :=
  if touchB d r && hl r.v then [⟨r.v, ⟨r.r.d, ⟨r.r.x.a, tx⟩⟩⟩] ++ outN r.v (combR 3 [r.r.d] [d]) tx 253402300800 ++ lastN (nx r.v) r.r.d d tx else [r]
def chgRows (hl : List Val → Bool) (nx : List Val → Option (List Val)) (tx : Int) (d : Span) (l : List HRow) : List HRow := l.flatMap (chgOf hl nx tx d)
theorem chgRows_take {hl : List Val → Bool} {nx : List Val → Option (List Val)} {tx : Int} {d : Span} {l : List HRow} {k : Nat} {r : HRow} (h : l[k]? = some r) :
    chgRows hl nx tx d (l.take (k + 1)) = chgRows hl nx tx d (l.take k) ++ chgOf hl nx tx d r := by
  rw [List.take_add_one, h]; simp [chgRows]
theorem chgRows_all {hl : List Val → Bool} {nx : List Val → Option (List Val)} {tx : Int} {d : Span} {l : List HRow} {k : Nat} (h : l.length ≤ k) : chgRows hl nx tx d (l.take k) = chgRows hl nx tx d l := by rw [List.take_of_length_le h]
theorem chgOf_no {hl : List Val → Bool} {nx : List Val → Option (List Val)} {tx : Int} {d : Span} {r : HRow} (h : r.r.x.b ≠ 253402300800 ∨ hl r.v = false ∨ d.b ≤ r.r.d.a ∨ r.r.d.b ≤ d.a) : chgOf hl nx tx d r = [r] := by
  unfold chgOf
  rw [if_neg]
  unfold touchB
  simp only [Bool.and_eq_true, decide_eq_true_eq]
  rintro ⟨⟨⟨h1, h2⟩, h3⟩, h4⟩
  rcases h with h | h | h | h
  · exact h h1
  · rw [h] at h4; cases h4
  · omega
  · omega
theorem chgOf_yes {hl : List Val → Bool} {nx : List Val → Option (List Val)} {tx : Int} {d : Span} {r : HRow} (h1 : r.r.x.b = 253402300800) (h2 : hl r.v = true) (h3 : r.r.d.a < d.b) (h4 : d.a < r.r.d.b) :
    chgOf hl nx tx d r = [⟨r.v, ⟨r.r.d, ⟨r.r.x.a, tx⟩⟩⟩] ++ outN r.v (combR 3 [r.r.d] [d]) tx 253402300800 ++ lastN (nx r.v) r.r.d d tx := by
  unfold chgOf
  rw [if_pos]
  unfold touchB
  simp only [Bool.and_eq_true, decide_eq_true_eq]
  exact ⟨⟨⟨h1, h3⟩, h4⟩, h2⟩
def nms (t : Table) : List (List UInt8) := t.s.cols.map Col.name
def delErr (d : Nat) (t : Table) (tx : Int) (c : Cond) (p : Span) : Int := if insOk t p then or2 (checkF d c t.s.cols) (timE t tx) else 1
abbrev delRows (d : Nat) (t : Table) (tx : Int) (c : Cond) (p : Span) : List HRow := chgRows (hldB d c (nms t)) (fun _ => none) tx p t.rows
def delT (d : Nat) (t : Table) (tx : Int) (c : Cond) (p : Span) : Table := if delErr d t tx c p = 0 then doneT t tx (delRows d t tx c p) else noT
def delE (d : Nat) (t : Table) (tx : Int) (c : Cond) (p : Span) : Int := if delErr d t tx c p = 0 then doneTE (delRows d t tx c p) else delErr d t tx c p
def maskV : List Val → List Val → List Bool → List Val
  | x :: v, y :: s, m :: k => (if m then y else x) :: maskV v s k
  | v, _, _ => v
def okM (cols : List Col) (set : List Val) (mask : List Bool) (j : Nat) : Bool := match mask[j]?, set[j]?, cols[j]? with
  | some m, some x, some c => !m || (valB x && decide (x.k = c.kind))
  | _, _, _ => true
def typM (cols : List Col) (set : List Val) (mask : List Bool) : Bool := (List.range mask.length).all (okM cols set mask)
def updErr (d : Nat) (t : Table) (tx : Int) (c : Cond) (set : List Val) (mask : List Bool) (p : Span) : Int :=
  if insOk t p then (if checkF d c t.s.cols ≠ 0 then checkF d c t.s.cols else if set.length ≠ t.s.cols.length ∨ mask.length ≠ t.s.cols.length then 1 else if typM t.s.cols set mask then timE t tx else 13) else 1
abbrev updRows (d : Nat) (t : Table) (tx : Int) (c : Cond) (set : List Val) (mask : List Bool) (p : Span) : List HRow := chgRows (hldB d c (nms t)) (fun v => some (maskV v set mask)) tx p t.rows
def updT (d : Nat) (t : Table) (tx : Int) (c : Cond) (set : List Val) (mask : List Bool) (p : Span) : Table := if updErr d t tx c set mask p = 0 then doneT t tx (updRows d t tx c set mask p) else noT
def updE (d : Nat) (t : Table) (tx : Int) (c : Cond) (set : List Val) (mask : List Bool) (p : Span) : Int := if updErr d t tx c set mask p = 0 then doneTE (updRows d t tx c set mask p) else updErr d t tx c set mask p

def snapOf (l : List HRow) (at_ tx : Int) : List (List Val) := ((grpH l).filter fun g => inR (timesH g.t tx) at_).map HGrp.v
def snapH (t : Table) (at_ tx : Int) : List (List Val) := if validT t && instB at_ && instB tx then snapOf t.rows at_ tx else []
def factsOf (l : List HRow) (tx : Int) : List Fact := (grpH l).flatMap fun g => (timesH g.t tx).map (Fact.mk g.v)
def atH (t : Table) (tx : Int) : List Fact := if validT t && instB tx then factsOf t.rows tx else []
def hasH (t : Table) (v : List Val) (at_ tx : Int) : Bool := (snapH t at_ tx).any fun l => decide (l = v)
def chgsOf (l : List HRow) (a b : Int) : List HRow := (grpH l).flatMap fun g => outN g.v (combR 3 (timesH g.t a) (timesH g.t b)) a b ++ outN g.v (combR 3 (timesH g.t b) (timesH g.t a)) b 253402300800
def chgsErr (t : Table) (a b : Int) : Int := if validT t then (if instB a && instB b && decide (a < b) then (if (chgsOf t.rows a b).length ≤ 1000 then 0 else 5) else 2) else 1
def chgsH (t : Table) (a b : Int) : List HRow := if chgsErr t a b = 0 then chgsOf t.rows a b else []
end Go.Civ
namespace Go.Civ
open Go.RowKit
open Go.Lib (compact)
set_option linter.unusedVariables false

theorem St.pick {w0 w : World} {X : List Nat} {G0 G : GH} {L : Own} (h : St w0 X G0 G L w) (is : List Nat) (hnd : is.Nodup := by decide) : St w0 X G0 G (is.map fun i => (L[i]?).getD none) w := by
  refine h.reindex _ (fun j => is.getD j 0) (fun j p hp => ?_) (fun j k hj hk he => ?_)
  · rw [List.getElem?_map] at hp
    cases hi : is[j]? with
    | none => rw [hi] at hp; cases hp
    | some i =>
      rw [hi] at hp
      simp only [Option.map_some, Option.some.injEq] at hp
      rw [List.getD_eq_getElem?_getD, hi]
      simp only [Option.getD_some]
      cases hl : L[i]? with
      | none => rw [hl] at hp; cases hp
      | some q => rw [hl] at hp; simp only [Option.getD_some] at hp; rw [hp]
  · rw [List.length_map] at hj hk
    rw [List.getD_eq_getElem?_getD, List.getD_eq_getElem?_getD, List.getElem?_eq_getElem hj, List.getElem?_eq_getElem hk] at he
    simp only [Option.getD_some] at he
    exact (List.getElem?_inj hj hnd).1 (by rw [List.getElem?_eq_getElem hj, List.getElem?_eq_getElem hk, he])

def flatX (l : List HRow) : List Int := l.flatMap fun r => [r.r.x.a, r.r.x.b]
theorem flatX_take {l : List HRow} {k : Nat} {x : HRow} (h : l[k]? = some x) : flatX (l.take (k + 1)) = flatX (l.take k) ++ [x.r.x.a, x.r.x.b] := by
  rw [List.take_add_one, h]; simp [flatX]
theorem flatX_len : ∀ (l : List HRow), (flatX l).length = 2 * l.length
  | [] => rfl
  | r :: l => by have := flatX_len l; simp only [flatX, List.flatMap_cons, List.length_append, List.length_cons, List.length_nil] at *; omega
theorem flatX_takeLen (l : List HRow) (k : Nat) : (flatX (l.take k)).length ≤ 2 * l.length := by rw [flatX_len]; have := List.length_take_le' k l; omega
theorem flatX_mem {l : List HRow} {y : Int} : y ∈ flatX l ↔ ∃ r ∈ l, y = r.r.x.a ∨ y = r.r.x.b := by simp [flatX]
theorem cuts_eq {l : List HRow} {k : Nat} (hk : l.length ≤ k) : compact (sortZ (flatX (l.take k))) = cutsL l := by
  rw [List.take_of_length_le hk]
  refine inc_unique (compact_inv (sortZ_asc _)).inc (cutsL_inc l) fun x => ?_
  rw [compact_mem (sortZ_asc _), (sortZ_perm _).mem_iff, flatX_mem, cutsL_mem]
theorem cutsL_i64 {l : List HRow} (h : GoodH l) : ∀ c ∈ cutsL l, I64 c := fun c hc => by
  obtain ⟨r, hr, h1⟩ := cutsL_mem.1 hc
  have := (goodB_parts (h r hr)).2.2
  unfold spanB at this
  simp at this
  rcases h1 with rfl | rfl <;> constructor <;> omega

theorem outN_take {v : List Val} {now : List Span} {a b : Int} {k : Nat} {s : Span} (h : now[k]? = some s) : outN v (now.take (k + 1)) a b = outN v (now.take k) a b ++ [⟨v, ⟨s, ⟨a, b⟩⟩⟩] := by
  unfold outN; rw [List.take_add_one, h]; simp
theorem outN_len (v : List Val) (now : List Span) (a b : Int) : (outN v now a b).length = now.length := by unfold outN; rw [List.length_map]
theorem outN_all {v : List Val} {now : List Span} {a b : Int} {k : Nat} (h : now.length ≤ k) : outN v (now.take k) a b = outN v now a b := by rw [List.take_of_length_le h]
theorem runN_len {v : List Val} {f : Int → List Span} {m : Nat} (hf : ∀ c, (f c).length ≤ m) : ∀ (n : Nat) (cs : List Int), cs.length = n → (runN v f cs).out.length ≤ n * m ∧ (runN v f cs).now.length ≤ m
  | 0, cs, h => by obtain rfl := List.length_eq_zero_iff.1 h; exact ⟨by simp [runN], by simp [runN]⟩
  | n + 1, cs, h => by
    obtain ⟨ds, c, rfl⟩ : ∃ ds c, cs = ds ++ [c] := ⟨cs.dropLast, cs.getLast (by intro e; simp [e] at h), (List.dropLast_concat_getLast _).symm⟩
    obtain ⟨h1, h2⟩ := runN_len hf n ds (by simpa using h)
    have e : runN v f (ds ++ [c]) = nstep v f (runN v f ds) c := by simp [runN, List.foldl_append]
    rw [e]
    unfold nstep
    split
    · exact ⟨Nat.le_trans h1 (Nat.mul_le_mul_right _ (Nat.le_succ n)), h2⟩
    · refine ⟨?_, hf c⟩
      simp only [List.length_append, outN_len]
      rw [Nat.add_mul, Nat.one_mul]; omega
theorem runN_bound {v : List Val} {f : Int → List Span} {m : Nat} (hf : ∀ c, (f c).length ≤ m) (cs : List Int) (k : Nat) : (runN v f (cs.take k)).out.length ≤ cs.length * m ∧ (runN v f (cs.take k)).now.length ≤ m := by
  have h := runN_len (v := v) hf _ (cs.take k) rfl
  exact ⟨Nat.le_trans h.1 (Nat.mul_le_mul_right _ (List.length_take_le' _ _)), h.2⟩
theorem norm_bound {g : HGrp} (hl : g.t.length ≤ 2000) (k : Nat) : (runN g.v (timesH g.t) ((cutsL g.t).take k)).out.length ≤ 8000000 ∧ (runN g.v (timesH g.t) ((cutsL g.t).take k)).now.length ≤ 2000 := by
  have h := runN_bound (v := g.v) (f := timesH g.t) (m := 2000) (fun c => Nat.le_trans (timesH_len _ _) hl) (cutsL g.t) k
  have h2 := cutsL_len g.t
  exact ⟨Nat.le_trans h.1 (Nat.le_trans (Nat.mul_le_mul_right 2000 (show (cutsL g.t).length ≤ 4000 by omega)) (by decide)), h.2⟩
theorem normG_len {g : HGrp} (hl : g.t.length ≤ 2000) : (normG g).length ≤ 8000000 := by
  have := (norm_bound hl (cutsL g.t).length).1
  rwa [List.take_length] at this
theorem normG_all {g : HGrp} {k : Nat} (h : (cutsL g.t).length ≤ k) : (runN g.v (timesH g.t) ((cutsL g.t).take k)).out = normG g := by rw [List.take_of_length_le h]; rfl
theorem run_same {v : List Val} {f : Int → List Span} {cs : List Int} {k : Nat} {c : Int} (h : cs[k]? = some c) (hn : (runN v f (cs.take k)).now = f c) : runN v f (cs.take (k + 1)) = runN v f (cs.take k) := by rw [runN_take h, nstep_same hn]
theorem run_new {v : List Val} {f : Int → List Span} {cs : List Int} {k : Nat} {c : Int} (h : cs[k]? = some c) (hn : (runN v f (cs.take k)).now ≠ f c) : runN v f (cs.take (k + 1)) = ⟨(runN v f (cs.take k)).out ++ outN v (runN v f (cs.take k)).now (runN v f (cs.take k)).fr c, f c, c⟩ := by rw [runN_take h, nstep_new hn]
def normP (gs : List HGrp) : List HRow := gs.flatMap normG
theorem normP_take {gs : List HGrp} {k : Nat} {g : HGrp} (h : gs[k]? = some g) : normP (gs.take (k + 1)) = normP (gs.take k) ++ normG g := by rw [List.take_add_one, h]; simp [normP]
theorem normP_len {gs : List HGrp} (h : ∀ g ∈ gs, g.t.length ≤ 2000) : (normP gs).length ≤ gs.length * 8000000 := by
  induction gs with
  | nil => simp [normP]
  | cons g gs ih =>
    have h1 := normG_len (h g (by simp))
    have h2 := ih fun x hx => h x (by simp [hx])
    simp only [normP, List.flatMap_cons, List.length_append, List.length_cons] at *
    rw [Nat.add_mul]; omega
theorem normP_takeLen {gs : List HGrp} {k : Nat} (h : ∀ g ∈ gs, g.t.length ≤ 2000) (hg : gs.length ≤ 2000) : (normP (gs.take k)).length ≤ 16000000000 := by
  have h1 := normP_len (gs := gs.take k) fun g hg => h g (List.mem_of_mem_take hg)
  have h2 := List.length_take_le' k gs
  exact Nat.le_trans h1 (Nat.le_trans (Nat.mul_le_mul_right 8000000 (show (gs.take k).length ≤ 2000 by omega)) (by decide))
theorem grpH_t {l : List HRow} : ∀ g ∈ grpH l, g.t.length ≤ l.length := fun g hg => by
  unfold grpH at hg
  obtain ⟨v, _, rfl⟩ := List.mem_map.1 hg
  exact List.length_filter_le _ _
theorem grpH_len {l : List HRow} : (grpH l).length ≤ l.length := by unfold grpH; rw [List.length_map]; exact valsH_len l
theorem grpH_good {l : List HRow} (h : GoodH l) : ∀ g ∈ grpH l, GoodH g.t := fun g hg => by
  unfold grpH at hg
  obtain ⟨v, _, rfl⟩ := List.mem_map.1 hg
  exact h.of v
theorem grpH_ok {l : List HRow} (h : GoodH l) (hl : l.length ≤ 2000) {k : Nat} {g : HGrp} (hg : (grpH l)[k]? = some g) : GoodH g.t ∧ g.t.length ≤ 2000 :=
  ⟨grpH_good h g (List.mem_of_getElem? hg), Nat.le_trans (grpH_t g (List.mem_of_getElem? hg)) hl⟩
theorem timesH_can {l : List HRow} (h : GoodH l) (tx : Int) : Can (timesH l tx) := (canon_inv fun s hs => spanB_pos (spansH_good h.d tx s hs)).can
theorem timesH_good {l : List HRow} (h : GoodH l) (tx : Int) : ∀ s ∈ timesH l tx, spanB s = true := canon_good (spansH_good h.d tx)
theorem timesH_V {l : List HRow} (h : GoodH l) (tx : Int) : ∀ s ∈ timesH l tx, spanV s = true := fun s hs => spanB_V (timesH_good h tx s hs)

theorem any_not_V {l : List Span} (h : ∀ s ∈ l, spanB s = true) : (l.any fun x => !spanV x) = false := by
  rw [List.any_eq_false]; intro s hs; rw [spanB_V (h s hs)]; simp
theorem cmp_low {b x : Int} (h : (if b ≤ x then (-1 : Int) else 1) < 0) : b ≤ x := by split at h <;> omega
theorem cmp_high {b x : Int} (h : 0 ≤ (if b ≤ x then (-1 : Int) else 1)) : x < b := by split at h <;> omega
theorem cmp_zero {b x : Int} (h : (if b ≤ x then (-1 : Int) else 1) = 0) : False := by split at h <;> omega
theorem cmp_zeroB {b x : Int} : Cmp.b .eql (if b ≤ x then (-1 : Int) else 1) 0 = false := decide_eq_false fun h => cmp_zero h
def posS (l : List Span) (x : Int) : Nat := (l.takeWhile fun s => decide (s.b ≤ x)).length
def LowS (l : List Span) (x : Int) (i : Nat) : Prop := ∀ j, j < i → ∀ s, l[j]? = some s → s.b ≤ x
def HighS (l : List Span) (x : Int) (j : Nat) : Prop := ∀ m, j ≤ m → ∀ s, l[m]? = some s → x < s.b
theorem can_lt {l : List Span} (h : Can l) {i j : Nat} {s t : Span} (hi : l[i]? = some s) (hj : l[j]? = some t) (hij : i < j) : s.b < t.a ∧ t.a < t.b := by
  have hp := h.apart
  rw [List.pairwise_iff_getElem] at hp
  obtain ⟨hi1, rfl⟩ := List.getElem?_eq_some_iff.1 hi
  obtain ⟨hj1, rfl⟩ := List.getElem?_eq_some_iff.1 hj
  exact ⟨hp i j hi1 hj1 hij, h.pos _ (List.getElem_mem hj1)⟩
theorem LowS.zero {l : List Span} {x : Int} : LowS l x 0 := fun j hj => by omega
theorem HighS.all {l : List Span} {x : Int} : HighS l x l.length := fun m hm s hs => by have := (List.getElem?_eq_some_iff.1 hs).1; omega
theorem LowS.step {l : List Span} {x : Int} {h : Nat} {s : Span} (hc : Can l) (hs : l[h]? = some s) (hx : s.b ≤ x) : LowS l x (h + 1) := fun j hj t ht => by
  rcases Nat.lt_or_ge j h with k | k
  · have := can_lt hc ht hs k; omega
  · obtain rfl : j = h := by omega
    rw [ht] at hs; obtain rfl := Option.some.inj hs; exact hx
theorem HighS.step {l : List Span} {x : Int} {h : Nat} {s : Span} (hc : Can l) (hs : l[h]? = some s) (hx : x < s.b) : HighS l x h := fun m hm t ht => by
  rcases Nat.lt_or_ge h m with k | k
  · have := can_lt hc hs ht k; omega
  · obtain rfl : h = m := by omega
    rw [ht] at hs; obtain rfl := Option.some.inj hs; exact hx
theorem takeWhile_len {α : Type} {p : α → Bool} : ∀ {l : List α} {i : Nat}, i ≤ l.length → (∀ j, j < i → ∀ s, l[j]? = some s → p s = true) → (∀ s, l[i]? = some s → p s = false) → (l.takeWhile p).length = i
  | [], i, hi, _, _ => by simp at hi; simp [hi]
  | x :: l, 0, _, _, h => by rw [List.takeWhile_cons, h x rfl]; rfl
  | x :: l, i + 1, hi, h1, h2 => by
    rw [List.takeWhile_cons, h1 0 (by omega) x rfl]
    simp only [if_true, List.length_cons]
    rw [takeWhile_len (i := i) (by simpa using hi) (fun j hj s hs => h1 (j + 1) (by omega) s (by simpa using hs)) (fun s hs => h2 s (by simpa using hs))]
theorem posS_of {l : List Span} {x : Int} {i j : Nat} (h1 : LowS l x i) (h2 : HighS l x j) (hij : i = j) (hi : i ≤ l.length) : posS l x = i := by
  subst hij
  exact takeWhile_len hi (fun j hj s hs => decide_eq_true (h1 j hj s hs)) (fun s hs => decide_eq_false (by have := h2 i (Nat.le_refl _) s hs; omega))
theorem posS_parts {l : List Span} {x : Int} : posS l x ≤ l.length ∧ (∀ j, j < posS l x → ∀ s, l[j]? = some s → s.b ≤ x) ∧ ∀ s, l[posS l x]? = some s → x < s.b := by
  unfold posS
  induction l with
  | nil => simp
  | cons y l ih =>
    rw [List.takeWhile_cons]
    cases hy : decide (y.b ≤ x) with
    | false => simp only [Bool.false_eq_true, if_false, List.length_nil]; exact ⟨Nat.zero_le _, fun j hj => by omega, fun s hs => by simp at hs; subst hs; simpa using hy⟩
    | true =>
      simp only [if_true, List.length_cons]
      refine ⟨by omega, fun j hj s hs => ?_, fun s hs => ih.2.2 s (by simpa using hs)⟩
      cases j with
      | zero => simp at hs; subst hs; simpa using hy
      | succ j => exact ih.2.1 j (by omega) s (by simpa using hs)
theorem has_yes {l : List Span} {x : Int} {s : Span} (h : Can l) (hs : l[posS l x]? = some s) (hx : s.a ≤ x) : inR l x = true := by
  unfold inR
  rw [List.any_eq_true]
  exact ⟨s, List.mem_of_getElem? hs, by simp; exact ⟨hx, posS_parts.2.2 s hs⟩⟩
theorem has_no {l : List Span} {x : Int} (h : Can l) (hs : ∀ s, l[posS l x]? = some s → x < s.a) : inR l x = false := by
  rw [Bool.eq_false_iff]
  intro e
  unfold inR at e
  rw [List.any_eq_true] at e
  obtain ⟨s, hm, h1⟩ := e
  simp at h1
  obtain ⟨j, hj⟩ := List.getElem?_of_mem hm
  rcases Nat.lt_trichotomy j (posS l x) with k | k | k
  · have := posS_parts.2.1 j k s hj; omega
  · subst k; have := hs s hj; omega
  · have hlt := (List.getElem?_eq_some_iff.1 hj).1
    obtain ⟨t, ht⟩ : ∃ t, l[posS l x]? = some t := ⟨_, List.getElem?_eq_getElem (by omega)⟩
    have h2 := can_lt h ht hj k
    have h3 := posS_parts.2.2 t ht
    omega
theorem has_at {l : List Span} {x : Int} {s : Span} (h : Can l) (hs : l[posS l x]? = some s) : Cmp.b .leq s.a x = inR l x := by
  by_cases k : s.a ≤ x
  · rw [has_yes h hs k]; exact decide_eq_true k
  · rw [has_no h fun t ht => by rw [hs] at ht; obtain rfl := Option.some.inj ht; omega]; exact decide_eq_false k
end Go.Civ
