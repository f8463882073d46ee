/- Lemmas: Civ25, Civ71. -/
import Derived.Test.YtjjkgobhlfmhhaaGreatQ03
import Derived.Test.YtjjkgobhlfmhhaaGreatQ04
import Derived.Test.YtjjkgobhlfmhhaaGreatQ08
namespace Go.Civ
set_option linter.unusedVariables false

def rotIx (a m b p : Nat) : Nat := if a ≤ p ∧ p < a + (b - m) then p + (m - a) else if a + (b - m) ≤ p ∧ p < b then p - (b - m) else p
def swpIx (a b n p : Nat) : Nat := if a ≤ p ∧ p < a + n then p - a + b else if b ≤ p ∧ p < b + n then p - b + a else p
section
variable {α : Type}
structure Moved (l L : List α) (f : Nat → Nat) : Prop where
  perm : L.Perm l
  map : ∀ p, p < l.length → L[p]? = l[f p]?
variable {l L M : List α} {f g : Nat → Nat}
theorem Moved.len (h : Moved l L f) : L.length = l.length := h.perm.length_eq
theorem Moved.refl (hf : ∀ p, p < l.length → f p = p) : Moved l l f := ⟨List.Perm.refl _, fun p hp => by rw [hf p hp]⟩
theorem Moved.swap (h : Moved l L f) {i j : Nat} {x y : α} (hi : L[i]? = some x) (hj : L[j]? = some y) (hij : i ≠ j) (hg : ∀ p, p < l.length → g p = if p = i then f j else if p = j then f i else f p) : Moved l ((L.set i y).set j x) g := by
  have hil : i < L.length := (List.getElem?_eq_some_iff.1 hi).1
  have hjl : j < L.length := (List.getElem?_eq_some_iff.1 hj).1
  have hl := h.len
  refine ⟨(swap_perm hij hi hj).trans h.perm, fun p hp => ?_⟩
  rw [hg p hp, List.getElem?_set]
  by_cases h1 : j = p
  · subst h1
    rw [if_pos rfl, if_pos (by simpa using hjl), if_neg (Ne.symm hij), if_pos rfl, ← hi]
    exact h.map i (by omega)
  · rw [if_neg h1, List.getElem?_set]
    by_cases h2 : i = p
    · subst h2
      rw [if_pos rfl, if_pos hil, if_pos rfl, ← hj]
      exact h.map j (by omega)
    · rw [if_neg h2, if_neg (Ne.symm h2), if_neg (Ne.symm h1)]; exact h.map p hp

structure RotInv (l M : List α) (a m b i j : Nat) : Prop where
  perm : M.Perm l
  map : ∀ p, p < l.length → M[rotIx (m - i) m (m + j) p]? = l[rotIx a m b p]?
theorem RotInv.start {a m b : Nat} (h1 : a ≤ m) (h2 : m ≤ b) : RotInv l l a m b (m - a) (b - m) := by
  refine ⟨List.Perm.refl _, fun p hp => ?_⟩
  rw [show m - (m - a) = a by omega, show m + (b - m) = b by omega]
theorem RotInv.len {a m b i j : Nat} (h : RotInv l M a m b i j) : M.length = l.length := h.perm.length_eq
theorem RotInv.left {a m b i j : Nat} (h : RotInv l M a m b i j) (k : Moved M L (swpIx (m - i) m j)) (hij : j < i) (hi : i ≤ m) (hj : m + j ≤ l.length) : RotInv l L a m b (i - j) j := by
  refine ⟨k.perm.trans h.perm, fun p hp => ?_⟩
  have hl := h.len
  rw [k.map _ (by rw [hl]; unfold rotIx; split <;> (try split) <;> omega), ← h.map p hp]
  congr 1
  unfold swpIx rotIx
  repeat' split
  all_goals omega
theorem RotInv.right {a m b i j : Nat} (h : RotInv l M a m b i j) (k : Moved M L (swpIx (m - i) (m + j - i) i)) (hij : i < j) (hi : i ≤ m) (hj : m + j ≤ l.length) : RotInv l L a m b i (j - i) := by
  refine ⟨k.perm.trans h.perm, fun p hp => ?_⟩
  have hl := h.len
  rw [k.map _ (by rw [hl]; unfold rotIx; split <;> (try split) <;> omega), ← h.map p hp]
  congr 1
  unfold swpIx rotIx
  repeat' split
  all_goals omega
theorem RotInv.done {a m b i j : Nat} (h : RotInv l M a m b i j) (k : Moved M L (swpIx (m - i) m i)) (hij : i = j) (hi : i ≤ m) (hj : m + j ≤ l.length) : Moved l L (rotIx a m b) := by
  subst hij
  refine ⟨k.perm.trans h.perm, fun p hp => ?_⟩
  have hl := h.len
  rw [k.map p (by omega), ← h.map p hp]
  congr 1
  unfold swpIx rotIx
  repeat' split
  all_goals omega
variable {pf : α → α → Int}
def OrdA (pf : α → α → Int) (l : List α) : Prop := ∀ x ∈ l, ∀ y ∈ l, pf x y < 0 → ¬ pf y x < 0
def OrdT (pf : α → α → Int) (l : List α) : Prop := ∀ x ∈ l, ∀ y ∈ l, ∀ z ∈ l, ¬ pf y x < 0 → ¬ pf z y < 0 → ¬ pf z x < 0
def Cross (pf : α → α → Int) (M : List α) (a mid b : Nat) : Prop := ∀ p q u v, a ≤ p → p < mid → mid ≤ q → q < b → M[p]? = some u → M[q]? = some v → ¬ pf v u < 0
structure Halves (pf : α → α → Int) (l M : List α) (a s mid e b : Nat) : Prop where
  perm : M.Perm l
  frame : ∀ p, p < a ∨ b ≤ p → M[p]? = l[p]?
  s1 : Asc pf M a s
  s2 : Asc pf M s mid
  s3 : Asc pf M mid e
  s4 : Asc pf M e b
  cross : Cross pf M a mid b
theorem Ins.from_ {a b i p : Nat} {x : α} (h : Ins pf l L a b i) (hab : a ≤ b) (h1 : a ≤ p) (h2 : p < b) (hx : L[p]? = some x) : ∃ q, a ≤ q ∧ q < b ∧ l[q]? = some x := by
  have hl := h.len
  have e1 : L.take a = l.take a := by
    apply List.ext_getElem?; intro k
    rw [List.getElem?_take, List.getElem?_take]
    split
    · exact h.frame k (by omega)
    · rfl
  have e2 : L.drop b = l.drop b := by
    apply List.ext_getElem?; intro k
    rw [List.getElem?_drop, List.getElem?_drop]; exact h.frame _ (by omega)
  have dec : ∀ t : List α, t = t.take a ++ ((t.drop a).take (b - a) ++ t.drop b) := fun t => by
    rw [show t.drop b = (t.drop a).drop (b - a) by rw [List.drop_drop]; congr 1; omega, List.take_append_drop, List.take_append_drop]
  have hp := h.perm
  rw [dec L, dec l, e1, e2, List.perm_append_left_iff, List.perm_append_right_iff] at hp
  have hm : x ∈ (L.drop a).take (b - a) := by
    refine List.mem_of_getElem? (i := p - a) ?_
    rw [List.getElem?_take, if_pos (by omega), List.getElem?_drop, show a + (p - a) = p by omega]; exact hx
  obtain ⟨k, hk⟩ := List.getElem?_of_mem (hp.mem_iff.1 hm)
  rw [List.getElem?_take] at hk
  split at hk
  · rw [List.getElem?_drop] at hk; exact ⟨a + k, by omega, by omega, hk⟩
  · cases hk
theorem Asc.empty {a b : Nat} (h : b ≤ a + 1) : Asc pf l a b := fun p q x y h1 h2 h3 => by omega
theorem Halves.done {a s mid e b : Nat} {M1 M2 : List α} (h : Halves pf l M a s mid e b) (h1 : Ins pf M M1 a mid mid) (h2 : Ins pf M1 M2 mid b b) (ha : a ≤ mid) (hb : mid ≤ b) : Ins pf l M2 a b b := by
  refine ⟨h2.perm.trans (h1.perm.trans h.perm), fun p hp => ?_, fun p q u v k1 k2 k3 hu hv => ?_⟩
  · rw [h2.frame p (by omega), h1.frame p (by omega)]; exact h.frame p hp
  · rcases Nat.lt_or_ge q mid with c | c
    · rw [h2.frame p (by omega)] at hu; rw [h2.frame q (by omega)] at hv
      exact h1.asc p q u v k1 k2 c hu hv
    · rcases Nat.lt_or_ge p mid with d | d
      · rw [h2.frame p (by omega)] at hu
        obtain ⟨p', a1, a2, a3⟩ := h1.from_ ha k1 d hu
        obtain ⟨q', b1, b2, b3⟩ := h2.from_ hb c k3 hv
        rw [h1.frame q' (by omega)] at b3
        exact h.cross p' q' u v a1 a2 b1 b2 a3 b3
      · exact h2.asc p q u v d k2 k3 hu hv
theorem Ins.same {a b : Nat} (h : Asc pf l a b) : Ins pf l l a b b := ⟨List.Perm.refl _, fun _ _ => rfl, h⟩
theorem Asc.frame {a b : Nat} (h : Asc pf l a b) (k : ∀ p, a ≤ p → p < b → L[p]? = l[p]?) : Asc pf L a b := fun p q x y h1 h2 h3 hx hy => by
  rw [k p h1 (by omega)] at hx; rw [k q (by omega) h3] at hy
  exact h p q x y h1 h2 h3 hx hy
theorem OrdA.perm (h : OrdA pf l) (k : L.Perm l) : OrdA pf L := fun x hx y hy => h x (k.mem_iff.1 hx) y (k.mem_iff.1 hy)
theorem OrdT.perm (h : OrdT pf l) (k : L.Perm l) : OrdT pf L := fun x hx y hy z hz => h x (k.mem_iff.1 hx) y (k.mem_iff.1 hy) z (k.mem_iff.1 hz)
end
end Go.Civ
namespace Go.Civ
open Go.RowKit
set_option linter.unusedVariables false
def TGI (P : Program) (ops : Array Oper) (p : Plan) (C I : World → Prop) (Q : Exit → Env → World → Prop) : Nat → List Nat → Env → World → Prop
  | 0, R, ρ, w => R = [] → Q .normal ρ w
  | n + 1, R, ρ, w => (R = [] → Q .normal ρ w) ∧ ∀ j ∈ R, (∀ i ∈ R, waits p.M j i = false) → match ops[j]? with
    | some o => oW P ops o ρ w fun ρ' w' => (needC p j = true → C w') ∧ I w' ∧ TGI P ops p C I Q n (R.filter fun i => i != j) ρ' w'
    | none => False
section
variable {P : Program} {N : Nat} {ops : List Oper} {p : Plan} {C I : World → Prop} {Q : Exit → Env → World → Prop} {ρH : Env}
theorem TGI.toTG : ∀ (n : Nat) (R : List Nat) (ρ : Env) (w : World), TGI P ops.toArray p C I Q n R ρ w → TG P ops.toArray p C Q n R ρ w
  | 0, R, ρ, w, h => h
  | n + 1, R, ρ, w, h => ⟨h.1, fun j hj hw => by
    have h2 := h.2 j hj hw
    simp only [List.getElem?_toArray] at h2 ⊢
    cases ho : ops[j]? with
    | none => rw [ho] at h2; exact h2
    | some o =>
      rw [ho] at h2
      exact oW.mono (fun ρ' w' k => ⟨k.1, TGI.toTG n _ _ _ k.2.2⟩) h2⟩
abbrev ANI (I : World → Prop) (K : Env → World → Prop) : Env → World → Prop := fun ρ w => I w ∧ K ρ w
def TAI (P : Program) (ops : List Oper) (p : Plan) (C I : World → Prop) (Q : Exit → Env → World → Prop) (n : Nat) (R : List Nat) (ρ : Env) (w : World) : List Nat → Prop
  | [] => True
  | j :: r => (match ops[j]? with
    | some o => OW P ops.toArray o ρ w (AN (needC p j) C (ANI I (TGI P ops.toArray p C I Q n (R.filter fun i => i != j))))
    | none => False) ∧ TAI P ops p C I Q n R ρ w r
theorem TAI.nil {n : Nat} {R : List Nat} {ρ : Env} {w : World} : TAI P ops p C I Q n R ρ w [] := trivial
theorem TAI.cons {n j : Nat} {R r : List Nat} {ρ : Env} {w : World} {o : Oper} (ho : ops[j]? = some o)
    (h : OW P ops.toArray o ρ w (AN (needC p j) C (ANI I (TGI P ops.toArray p C I Q n (R.filter fun i => i != j))))) (hr : TAI P ops p C I Q n R ρ w r) : TAI P ops p C I Q n R ρ w (j :: r) := by
  simp only [TAI, ho]; exact ⟨h, hr⟩
theorem TAI.get {n : Nat} {R : List Nat} {ρ : Env} {w : World} : ∀ {l : List Nat}, TAI P ops p C I Q n R ρ w l → ∀ j ∈ l, match ops.toArray[j]? with
    | some o => oW P ops.toArray o ρ w fun ρ' w' => (needC p j = true → C w') ∧ I w' ∧ TGI P ops.toArray p C I Q n (R.filter fun i => i != j) ρ' w'
    | none => False
  | [], _, j, hj => by cases hj
  | a :: l, h, j, hj => by
    rcases List.mem_cons.1 hj with rfl | hj
    · have h1 := h.1
      rw [List.getElem?_toArray]
      cases ho : ops[j]? with
      | none => rw [ho] at h1; exact h1
      | some o => rw [ho] at h1; exact h1.h
    · exact TAI.get h.2 j hj
theorem TGI.fork {ρ : Env} {w : World} (n : Nat) (R av : List Nat) {R0 : List Nat} {n0 : Nat} (hn : n0 = n + 1) (hR : R0 = R) (hav : (R.filter fun j => R.all fun i => !waits p.M j i) = av) (hne : R ≠ [])
    (h : TAI P ops p C I Q n R ρ w av) : TGI P ops.toArray p C I Q n0 R0 ρ w := by
  subst hn hR
  refine ⟨fun z => absurd z hne, fun j hj hw => h.get j ?_⟩
  rw [← hav, List.mem_filter, List.all_eq_true]
  exact ⟨hj, fun i hi => by rw [hw i hi]; rfl⟩
theorem TGI.quietG {j : Nat} {o : Oper} {d : Nat} {v : Value} (ho : ops[j]? = some o) (hd : o.dst = some d) : ∀ (n : Nat) (R : List Nat) (ρ : Env) (w : World), I w → Quiet ops p R j o d → (R.filter fun i => i != j).length ≤ n →
    (∀ w, I w → ∀ K, K (upd ρ d v) w → OW P ops.toArray o ρ w K) → TGI P ops.toArray p C I Q n (R.filter fun i => i != j) (upd ρ d v) w → TGI P ops.toArray p C I Q (n + 1) R ρ w := by
  intro n
  induction n with
  | zero =>
    intro R ρ w hI hQ hn hq h
    refine ⟨fun e => (by rw [e] at hQ; exact absurd hQ.mem (by simp)), fun k hk hav => ?_⟩
    by_cases hkj : k = j
    · subst hkj
      simp only [List.getElem?_toArray, ho]
      exact (hq w hI _ ⟨fun e => (by rw [hQ.need] at e; cases e), hI, h⟩).h
    · have : k ∈ R.filter fun i => i != j := List.mem_filter.2 ⟨hk, by simpa using hkj⟩
      have e0 := List.eq_nil_of_length_eq_zero (Nat.le_zero.1 hn)
      rw [e0] at this; cases this
  | succ n ih =>
    intro R ρ w hI hQ hn hq h
    refine ⟨fun e => (by rw [e] at hQ; exact absurd hQ.mem (by simp)), fun k hk hav => ?_⟩
    by_cases hkj : k = j
    · subst hkj
      simp only [List.getElem?_toArray, ho]
      exact (hq w hI _ ⟨fun e => (by rw [hQ.need] at e; cases e), hI, h⟩).h
    · have hk' : k ∈ R.filter fun i => i != j := List.mem_filter.2 ⟨hk, by simpa using hkj⟩
      have h2 := h.2 k hk' fun i hi => hav i (List.mem_filter.1 hi).1
      simp only [List.getElem?_toArray] at h2 ⊢
      cases hok : ops[k]? with
      | none => rw [hok] at h2; exact h2
      | some q =>
        rw [hok] at h2
        simp only at h2 ⊢
        obtain ⟨q1, q2, q3, q4⟩ := hQ.other k hk hkj q hok
        have hdl : ¬ d ∈ q.looksAt ops.toArray := fun hl => by rw [hav j hQ.mem] at q2; cases q2 hl
        refine oW_congr q4 (fun t ht => upd_other (ρ := ρ) (v := v) (show t ≠ d from fun e => hdl (by rw [← e]; exact ht))) (fun x w' hK => ⟨hK.1, hK.2.1, ?_⟩) h2
        have hcm : updO (upd ρ d v) q.dst x = upd (updO ρ q.dst x) d v := by
          cases hqd : q.dst with
          | none => rfl
          | some t => exact upd_comm fun e => q1 (by rw [hqd, e])
        have hlo : ∀ t, t ∈ o.looksAt ops.toArray → ρ t = updO ρ q.dst x t := fun t ht => by
          cases hqd : q.dst with
          | none => rfl
          | some t' => exact (upd_other (ρ := ρ) (v := x) (show t ≠ t' from fun e => q3 t' hqd (by rw [← e]; exact ht))).symm
        have hff : (R.filter fun i => i != k).filter (fun i => i != j) = (R.filter fun i => i != j).filter fun i => i != k := by
          rw [List.filter_filter, List.filter_filter]; congr 1; funext i; exact Bool.and_comm _ _
        refine ih _ _ w' hK.2.1 ⟨List.mem_filter.2 ⟨hQ.mem, by simpa using Ne.symm hkj⟩, fun i hi => hQ.av i (List.mem_filter.1 hi).1, hQ.need, hQ.sel, fun i hi => hQ.other i (List.mem_filter.1 hi).1⟩ ?_ (fun w2 hI2 K hK2 => ⟨?_⟩) ?_
        · rw [hff]
          have h3 : ((R.filter fun i => i != j).filter fun i => i != k).length < (R.filter fun i => i != j).length := List.length_filter_lt_length_iff_exists.2 ⟨k, hk', by simp⟩
          omega
        · refine oW_congr (K := fun r w3 => r = upd ρ d v ∧ w3 = w2) hQ.sel hlo (fun y w3 hy => ?_) (hq w2 hI2 _ ⟨rfl, rfl⟩).h
          rw [hd] at hy ⊢
          obtain ⟨e1, rfl⟩ := hy
          have e2 : y = v := by have := congrFun e1 d; simp only [updO, upd_here] at this; exact this
          subst e2; exact hK2
        · rw [hff, ← hcm]; exact hK.2.2
theorem TGI.quiet {ρ : Env} {w : World} (n : Nat) (R : List Nat) (j : Nat) {o : Oper} {d : Nat} {v : Value} {R0 : List Nat} {n0 : Nat} (hn : n0 = n + 1) (hR : R0 = R) (ho : ops[j]? = some o) (hd : o.dst = some d) (hb : quietB ops p R j = true) (hl : (R.filter fun i => i != j).length ≤ n) (hI : I w)
    (hq : ∀ w, I w → ∀ K, K (upd ρ d v) w → OW P ops.toArray o ρ w K) (h : TGI P ops.toArray p C I Q n (R.filter fun i => i != j) (upd ρ d v) w) : TGI P ops.toArray p C I Q n0 R0 ρ w := by
  subst hn hR; exact TGI.quietG ho hd _ _ _ _ hI (quietB_ok ho hd hb) hl hq h
theorem TGI.fin {ρ : Env} {w : World} {n : Nat} {R0 : List Nat} (hR : R0 = []) (h : Q .normal ρ w) : TGI P ops.toArray p C I Q n R0 ρ w := by
  subst hR
  cases n with
  | zero => exact fun _ => h
  | succ n => exact ⟨fun _ => h, fun j hj => by cases hj⟩
theorem GH.In.down {G G' : GH} {w : World} (h : G'.In w) (k : G.le G') : G.In w := fun b o e => h b o (k b o e)
end
end Go.Civ
