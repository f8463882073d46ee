/- Lemmas: Civ55. -/
import Derived.Test.YtjjkgobhlfmhhaaGreatR11
import Derived.Test.YtjjkgobhlfmhhaaGreatR17
import Derived.Test.YtjjkgobhlfmhhaaGreatR20
import Derived.Test.YtjjkgobhlfmhhaaGreatR22
namespace Go.Civ
open Go.RowKit
open Go.Lib (compact)
set_option linter.unusedVariables false

theorem St.pick {w0 w : World} {X : List Nat} {G0 G : GH} {L : Own} (h : St w0 X G0 G L w) (is : List Nat) (hnd : is.Nodup := by decide) : St w0 X G0 G (is.map fun i => (L[i]?).getD none) w := by
  refine h.reindex _ (fun j => is.getD j 0) (fun j p hp => ?_) (fun j k hj hk he => ?_)
  · rw [List.getElem?_map] at hp
    cases hi : is[j]? with
    | none => rw [hi] at hp; cases hp
    | some i =>
      rw [hi] at hp
      simp only [Option.map_some, Option.some.injEq] at hp
      rw [List.getD_eq_getElem?_getD, hi]
      simp only [Option.getD_some]
      cases hl : L[i]? with
      | none => rw [hl] at hp; cases hp
      | some q => rw [hl] at hp; simp only [Option.getD_some] at hp; rw [hp]
  · rw [List.length_map] at hj hk
    rw [List.getD_eq_getElem?_getD, List.getD_eq_getElem?_getD, List.getElem?_eq_getElem hj, List.getElem?_eq_getElem hk] at he
    simp only [Option.getD_some] at he
    exact (List.getElem?_inj hj hnd).1 (by rw [List.getElem?_eq_getElem hj, List.getElem?_eq_getElem hk, he])

def flatX (l : List HRow) : List Int := l.flatMap fun r => [r.r.x.a, r.r.x.b]
theorem flatX_take {l : List HRow} {k : Nat} {x : HRow} (h : l[k]? = some x) : flatX (l.take (k + 1)) = flatX (l.take k) ++ [x.r.x.a, x.r.x.b] := by
  rw [List.take_add_one, h]; simp [flatX]
theorem flatX_len : ∀ (l : List HRow), (flatX l).length = 2 * l.length
  | [] => rfl
  | r :: l => by have := flatX_len l; simp only [flatX, List.flatMap_cons, List.length_append, List.length_cons, List.length_nil] at *; omega
theorem flatX_takeLen (l : List HRow) (k : Nat) : (flatX (l.take k)).length ≤ 2 * l.length := by rw [flatX_len]; have := List.length_take_le' k l; omega
theorem flatX_mem {l : List HRow} {y : Int} : y ∈ flatX l ↔ ∃ r ∈ l, y = r.r.x.a ∨ y = r.r.x.b := by simp [flatX]
theorem cuts_eq {l : List HRow} {k : Nat} (hk : l.length ≤ k) : compact (sortZ (flatX (l.take k))) = cutsL l := by
  rw [List.take_of_length_le hk]
  refine inc_unique (compact_inv (sortZ_asc _)).inc (cutsL_inc l) fun x => ?_
  rw [compact_mem (sortZ_asc _), (sortZ_perm _).mem_iff, flatX_mem, cutsL_mem]
theorem cutsL_i64 {l : List HRow} (h : GoodH l) : ∀ c ∈ cutsL l, I64 c := fun c hc => by
  obtain ⟨r, hr, h1⟩ := cutsL_mem.1 hc
  have := (goodB_parts (h r hr)).2.2
  unfold spanB at this
  simp at this
  rcases h1 with rfl | rfl <;> constructor <;> omega

theorem outN_take {v : List Val} {now : List Span} {a b : Int} {k : Nat} {s : Span} (h : now[k]? = some s) : outN v (now.take (k + 1)) a b = outN v (now.take k) a b ++ [⟨v, ⟨s, ⟨a, b⟩⟩⟩] := by
  unfold outN; rw [List.take_add_one, h]; simp
theorem outN_len (v : List Val) (now : List Span) (a b : Int) : (outN v now a b).length = now.length := by unfold outN; rw [List.length_map]
theorem outN_all {v : List Val} {now : List Span} {a b : Int} {k : Nat} (h : now.length ≤ k) : outN v (now.take k) a b = outN v now a b := by rw [List.take_of_length_le h]
theorem runN_len {v : List Val} {f : Int → List Span} {m : Nat} (hf : ∀ c, (f c).length ≤ m) : ∀ (n : Nat) (cs : List Int), cs.length = n → (runN v f cs).out.length ≤ n * m ∧ (runN v f cs).now.length ≤ m
  | 0, cs, h => by obtain rfl := List.length_eq_zero_iff.1 h; exact ⟨by simp [runN], by simp [runN]⟩
  | n + 1, cs, h => by
    obtain ⟨ds, c, rfl⟩ : ∃ ds c, cs = ds ++ [c] := ⟨cs.dropLast, cs.getLast (by intro e; simp [e] at h), (List.dropLast_concat_getLast _).symm⟩
    obtain ⟨h1, h2⟩ := runN_len hf n ds (by simpa using h)
    have e : runN v f (ds ++ [c]) = nstep v f (runN v f ds) c := by simp [runN, List.foldl_append]
    rw [e]
    unfold nstep
    split
    · exact ⟨Nat.le_trans h1 (Nat.mul_le_mul_right _ (Nat.le_succ n)), h2⟩
    · refine ⟨?_, hf c⟩
      simp only [List.length_append, outN_len]
      rw [Nat.add_mul, Nat.one_mul]; omega
theorem runN_bound {v : List Val} {f : Int → List Span} {m : Nat} (hf : ∀ c, (f c).length ≤ m) (cs : List Int) (k : Nat) : (runN v f (cs.take k)).out.length ≤ cs.length * m ∧ (runN v f (cs.take k)).now.length ≤ m := by
  have h := runN_len (v := v) hf _ (cs.take k) rfl
  exact ⟨Nat.le_trans h.1 (Nat.mul_le_mul_right _ (List.length_take_le' _ _)), h.2⟩
theorem norm_bound {g : HGrp} (hl : g.t.length ≤ 2000) (k : Nat) : (runN g.v (timesH g.t) ((cutsL g.t).take k)).out.length ≤ 8000000 ∧ (runN g.v (timesH g.t) ((cutsL g.t).take k)).now.length ≤ 2000 := by
  have h := runN_bound (v := g.v) (f := timesH g.t) (m := 2000) (fun c => Nat.le_trans (timesH_len _ _) hl) (cutsL g.t) k
  have h2 := cutsL_len g.t
  exact ⟨Nat.le_trans h.1 (Nat.le_trans (Nat.mul_le_mul_right 2000 (show (cutsL g.t).length ≤ 4000 by omega)) (by decide)), h.2⟩
theorem normG_len {g : HGrp} (hl : g.t.length ≤ 2000) : (normG g).length ≤ 8000000 := by
  have := (norm_bound hl (cutsL g.t).length).1
  rwa [List.take_length] at this
theorem normG_all {g : HGrp} {k : Nat} (h : (cutsL g.t).length ≤ k) : (runN g.v (timesH g.t) ((cutsL g.t).take k)).out = normG g := by rw [List.take_of_length_le h]; rfl
theorem run_same {v : List Val} {f : Int → List Span} {cs : List Int} {k : Nat} {c : Int} (h : cs[k]? = some c) (hn : (runN v f (cs.take k)).now = f c) : runN v f (cs.take (k + 1)) = runN v f (cs.take k) := by rw [runN_take h, nstep_same hn]
theorem run_new {v : List Val} {f : Int → List Span} {cs : List Int} {k : Nat} {c : Int} (h : cs[k]? = some c) (hn : (runN v f (cs.take k)).now ≠ f c) : runN v f (cs.take (k + 1)) = ⟨(runN v f (cs.take k)).out ++ outN v (runN v f (cs.take k)).now (runN v f (cs.take k)).fr c, f c, c⟩ := by rw [runN_take h, nstep_new hn]
def normP (gs : List HGrp) : List HRow := gs.flatMap normG
theorem normP_take {gs : List HGrp} {k : Nat} {g : HGrp} (h : gs[k]? = some g) : normP (gs.take (k + 1)) = normP (gs.take k) ++ normG g := by rw [List.take_add_one, h]; simp [normP]
theorem normP_len {gs : List HGrp} (h : ∀ g ∈ gs, g.t.length ≤ 2000) : (normP gs).length ≤ gs.length * 8000000 := by
  induction gs with
  | nil => simp [normP]
  | cons g gs ih =>
    have h1 := normG_len (h g (by simp))
    have h2 := ih fun x hx => h x (by simp [hx])
    simp only [normP, List.flatMap_cons, List.length_append, List.length_cons] at *
    rw [Nat.add_mul]; omega
theorem normP_takeLen {gs : List HGrp} {k : Nat} (h : ∀ g ∈ gs, g.t.length ≤ 2000) (hg : gs.length ≤ 2000) : (normP (gs.take k)).length ≤ 16000000000 := by
  have h1 := normP_len (gs := gs.take k) fun g hg => h g (List.mem_of_mem_take hg)
  have h2 := List.length_take_le' k gs
  exact Nat.le_trans h1 (Nat.le_trans (Nat.mul_le_mul_right 8000000 (show (gs.take k).length ≤ 2000 by omega)) (by decide))
theorem grpH_t {l : List HRow} : ∀ g ∈ grpH l, g.t.length ≤ l.length := fun g hg => by
  unfold grpH at hg
  obtain ⟨v, _, rfl⟩ := List.mem_map.1 hg
  exact List.length_filter_le _ _
theorem grpH_len {l : List HRow} : (grpH l).length ≤ l.length := by unfold grpH; rw [List.length_map]; exact valsH_len l
theorem grpH_good {l : List HRow} (h : GoodH l) : ∀ g ∈ grpH l, GoodH g.t := fun g hg => by
  unfold grpH at hg
  obtain ⟨v, _, rfl⟩ := List.mem_map.1 hg
  exact h.of v
theorem grpH_ok {l : List HRow} (h : GoodH l) (hl : l.length ≤ 2000) {k : Nat} {g : HGrp} (hg : (grpH l)[k]? = some g) : GoodH g.t ∧ g.t.length ≤ 2000 :=
  ⟨grpH_good h g (List.mem_of_getElem? hg), Nat.le_trans (grpH_t g (List.mem_of_getElem? hg)) hl⟩
theorem timesH_can {l : List HRow} (h : GoodH l) (tx : Int) : Can (timesH l tx) := (canon_inv fun s hs => spanB_pos (spansH_good h.d tx s hs)).can
theorem timesH_good {l : List HRow} (h : GoodH l) (tx : Int) : ∀ s ∈ timesH l tx, spanB s = true := canon_good (spansH_good h.d tx)
theorem timesH_V {l : List HRow} (h : GoodH l) (tx : Int) : ∀ s ∈ timesH l tx, spanV s = true := fun s hs => spanB_V (timesH_good h tx s hs)

theorem any_not_V {l : List Span} (h : ∀ s ∈ l, spanB s = true) : (l.any fun x => !spanV x) = false := by
  rw [List.any_eq_false]; intro s hs; rw [spanB_V (h s hs)]; simp
theorem cmp_low {b x : Int} (h : (if b ≤ x then (-1 : Int) else 1) < 0) : b ≤ x := by split at h <;> omega
theorem cmp_high {b x : Int} (h : 0 ≤ (if b ≤ x then (-1 : Int) else 1)) : x < b := by split at h <;> omega
theorem cmp_zero {b x : Int} (h : (if b ≤ x then (-1 : Int) else 1) = 0) : False := by split at h <;> omega
theorem cmp_zeroB {b x : Int} : Cmp.b .eql (if b ≤ x then (-1 : Int) else 1) 0 = false := decide_eq_false fun h => cmp_zero h
def posS (l : List Span) (x : Int) : Nat := (l.takeWhile fun s => decide (s.b ≤ x)).length
def LowS (l : List Span) (x : Int) (i : Nat) : Prop := ∀ j, j < i → ∀ s, l[j]? = some s → s.b ≤ x
def HighS (l : List Span) (x : Int) (j : Nat) : Prop := ∀ m, j ≤ m → ∀ s, l[m]? = some s → x < s.b
theorem can_lt {l : List Span} (h : Can l) {i j : Nat} {s t : Span} (hi : l[i]? = some s) (hj : l[j]? = some t) (hij : i < j) : s.b < t.a ∧ t.a < t.b := by
  have hp := h.apart
  rw [List.pairwise_iff_getElem] at hp
  obtain ⟨hi1, rfl⟩ := List.getElem?_eq_some_iff.1 hi
  obtain ⟨hj1, rfl⟩ := List.getElem?_eq_some_iff.1 hj
  exact ⟨hp i j hi1 hj1 hij, h.pos _ (List.getElem_mem hj1)⟩
theorem LowS.zero {l : List Span} {x : Int} : LowS l x 0 := fun j hj => by omega
theorem HighS.all {l : List Span} {x : Int} : HighS l x l.length := fun m hm s hs => by have := (List.getElem?_eq_some_iff.1 hs).1; omega
theorem LowS.step {l : List Span} {x : Int} {h : Nat} {s : Span} (hc : Can l) (hs : l[h]? = some s) (hx : s.b ≤ x) : LowS l x (h + 1) := fun j hj t ht => by
  rcases Nat.lt_or_ge j h with k | k
  · have := can_lt hc ht hs k; omega
  · obtain rfl : j = h := by omega
    rw [ht] at hs; obtain rfl := Option.some.inj hs; exact hx
theorem HighS.step {l : List Span} {x : Int} {h : Nat} {s : Span} (hc : Can l) (hs : l[h]? = some s) (hx : x < s.b) : HighS l x h := fun m hm t ht => by
  rcases Nat.lt_or_ge h m with k | k
  · have := can_lt hc hs ht k; omega
  · obtain rfl : h = m := by omega
    rw [ht] at hs; obtain rfl := Option.some.inj hs; exact hx
theorem takeWhile_len {α : Type} {p : α → Bool} : ∀ {l : List α} {i : Nat}, i ≤ l.length → (∀ j, j < i → ∀ s, l[j]? = some s → p s = true) → (∀ s, l[i]? = some s → p s = false) → (l.takeWhile p).length = i
  | [], i, hi, _, _ => by simp at hi; simp [hi]
  | x :: l, 0, _, _, h => by rw [List.takeWhile_cons, h x rfl]; rfl
  | x :: l, i + 1, hi, h1, h2 => by
    rw [List.takeWhile_cons, h1 0 (by omega) x rfl]
    simp only [if_true, List.length_cons]
    rw [takeWhile_len (i := i) (by simpa using hi) (fun j hj s hs => h1 (j + 1) (by omega) s (by simpa using hs)) (fun s hs => h2 s (by simpa using hs))]
theorem posS_of {l : List Span} {x : Int} {i j : Nat} (h1 : LowS l x i) (h2 : HighS l x j) (hij : i = j) (hi : i ≤ l.length) : posS l x = i := by
  subst hij
  exact takeWhile_len hi (fun j hj s hs => decide_eq_true (h1 j hj s hs)) (fun s hs => decide_eq_false (by have := h2 i (Nat.le_refl _) s hs; omega))
theorem posS_parts {l : List Span} {x : Int} : posS l x ≤ l.length ∧ (∀ j, j < posS l x → ∀ s, l[j]? = some s → s.b ≤ x) ∧ ∀ s, l[posS l x]? = some s → x < s.b := by
  unfold posS
  induction l with
  | nil => simp
  | cons y l ih =>
    rw [List.takeWhile_cons]
    cases hy : decide (y.b ≤ x) with
    | false => simp only [Bool.false_eq_true, if_false, List.length_nil]; exact ⟨Nat.zero_le _, fun j hj => by omega, fun s hs => by simp at hs; subst hs; simpa using hy⟩
    | true =>
      simp only [if_true, List.length_cons]
      refine ⟨by omega, fun j hj s hs => ?_, fun s hs => ih.2.2 s (by simpa using hs)⟩
      cases j with
      | zero => simp at hs; subst hs; simpa using hy
      | succ j => exact ih.2.1 j (by omega) s (by simpa using hs)
theorem has_yes {l : List Span} {x : Int} {s : Span} (h : Can l) (hs : l[posS l x]? = some s) (hx : s.a ≤ x) : inR l x = true := by
  unfold inR
  rw [List.any_eq_true]
  exact ⟨s, List.mem_of_getElem? hs, by simp; exact ⟨hx, posS_parts.2.2 s hs⟩⟩
theorem has_no {l : List Span} {x : Int} (h : Can l) (hs : ∀ s, l[posS l x]? = some s → x < s.a) : inR l x = false := by
  rw [Bool.eq_false_iff]
  intro e
  unfold inR at e
  rw [List.any_eq_true] at e
  obtain ⟨s, hm, h1⟩ := e
  simp at h1
  obtain ⟨j, hj⟩ := List.getElem?_of_mem hm
  rcases Nat.lt_trichotomy j (posS l x) with k | k | k
  · have := posS_parts.2.1 j k s hj; omega
  · subst k; have := hs s hj; omega
  · have hlt := (List.getElem?_eq_some_iff.1 hj).1
    obtain ⟨t, ht⟩ : ∃ t, l[posS l x]? = some t := ⟨_, List.getElem?_eq_getElem (by omega)⟩
    have h2 := can_lt h ht hj k
    have h3 := posS_parts.2.2 t ht
    omega
theorem has_at {l : List Span} {x : Int} {s : Span} (h : Can l) (hs : l[posS l x]? = some s) : Cmp.b .leq s.a x = inR l x := by
  by_cases k : s.a ≤ x
  · rw [has_yes h hs k]; exact decide_eq_true k
  · rw [has_no h fun t ht => by rw [hs] at ht; obtain rfl := Option.some.inj ht; omega]; exact decide_eq_false k
end Go.Civ
