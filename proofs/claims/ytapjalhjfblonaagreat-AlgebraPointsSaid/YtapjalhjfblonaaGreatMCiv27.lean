/- Shifts and masks; relations of spans; pairs that are related. -/
import Derived.Test.YtapjalhjfblonaaGreatMCiv26
import Derived.Test.YtapjalhjfblonaaGreatMCiv24
namespace Go.Civ
open Go.RowKit
set_option linter.unusedVariables false

section
variable {P : Program} {Q : Exit → Env → World → Prop} {ρ : Env} {w : World} {ops : Array Oper} {rest : List Oper} {K : Env → World → Prop}
variable {d : Nat} {ty : TypeId} {pos : String} {af : Array Edge} {g : Option (Nat × Bool)} {G : GH}
theorem WL.shrI {t ty' : TypeId} {x y : Operand} {k : IntKind} (n r : Int) (h0 : 0 ≤ r) (h1 : r ≤ 64)
    (hw : Region.wanted ⟨some d, .binOp .shr t x y ty', ty, pos, af, g⟩ (yieldE ops ρ) = true) (hx : ev ρ x = .int .i64 n) (hy : ev ρ y = .int k r)
    (kk : K (upd ρ d (.int .i64 (n / 2 ^ r.toNat))) w) : OW P ops ⟨some d, .binOp .shr t x y ty', ty, pos, af, g⟩ ρ w K := by
  refine WL.val hw ?_ rfl kk
  have e : (Op.shift .shr .i64 n k r) = pure (.int .i64 (n / 2 ^ r.toNat)) := shift_shr .i64 k n r h0 (by simpa [IntKind.bits] using h1)
  simp [execOp, hx, hy, binOp, eqGuard, e]
theorem WL.andI {t ty' : TypeId} {x y : Operand} (a b : Int)
    (hw : Region.wanted ⟨some d, .binOp .and t x y ty', ty, pos, af, g⟩ (yieldE ops ρ) = true) (hx : ev ρ x = .int .i64 a) (hy : ev ρ y = .int .i64 b)
    (kk : K (upd ρ d (.int .i64 (Go.bits .and .i64 a b))) w) : OW P ops ⟨some d, .binOp .and t x y ty', ty, pos, af, g⟩ ρ w K := by
  refine WL.val hw ?_ rfl kk
  simp [execOp, hx, hy, binOp, eqGuard, intBits_and]
theorem WL.toUI {t t' : TypeId} {x : Operand} (n : Int) {k : IntKind} (hs : P.underlying t = some (.int k)) (h : P.underlying t' = some (.int .u64)) (h0 : 0 ≤ n) (h1 : n ≤ 9223372036854775807)
    (hw : Region.wanted ⟨some d, .convert t t' x, ty, pos, af, g⟩ (yieldE ops ρ) = true) (hx : ev ρ x = .int .i64 n)
    (kk : K (upd ρ d (.int .u64 n)) w) : OW P ops ⟨some d, .convert t t' x, ty, pos, af, g⟩ ρ w K := by
  refine WL.val hw ?_ rfl kk
  simp [execOp, hx, convert, underlying_run hs, underlying_run h, Conv.intToInt, Result.andThen, wrap_u h0 h1]
end
def relS (a b : Span) : Int :=
  if !(spanV a && spanV b) then -1
  else if a.b < b.a then 0 else if a.b = b.a then 1 else if b.b < a.a then 12 else if b.b = a.a then 11
  else if a.a < b.a then (if a.b < b.b then 2 else if a.b = b.b then 7 else 8)
  else if a.a = b.a then (if a.b < b.b then 3 else if a.b = b.b then 6 else 9)
  else (if a.b < b.b then 4 else if a.b = b.b then 5 else 10)
theorem I64_relS (a b : Span) : I64 (relS a b) := by unfold relS; repeat' split
                                                     all_goals (constructor <;> decide)
theorem relS_range {a b : Span} (ha : spanV a = true) (hb : spanV b = true) : 0 ≤ relS a b ∧ relS a b ≤ 12 := by
  unfold relS; rw [ha, hb]; simp only [Bool.and_self, Bool.not_true, Bool.false_eq_true, if_false]
  repeat' split
  all_goals omega
theorem relS_no {a b : Span} (h : spanV a = false ∨ spanV b = false) : relS a b = -1 := by
  unfold relS; rw [if_pos]; rcases h with h | h <;> simp [h]
theorem relS_yes {a b : Span} (ha : spanV a = true) (hb : spanV b = true) : relS a b = if a.b < b.a then 0 else if a.b = b.a then 1 else if b.b < a.a then 12 else if b.b = a.a then 11
  else if a.a < b.a then (if a.b < b.b then 2 else if a.b = b.b then 7 else 8)
  else if a.a = b.a then (if a.b < b.b then 3 else if a.b = b.b then 6 else 9)
  else (if a.b < b.b then 4 else if a.b = b.b then 5 else 10) := by
  unfold relS; rw [if_neg]; simp [ha, hb]
theorem spanV_pos {a : Span} (h : spanV a = true) : a.a < a.b := by unfold spanV at h; simp at h; omega
theorem relS_lo {a b : Span} (ha : spanV a = true) (hb : spanV b = true) (h : sgn a.b b.a ≤ 0) : sgn a.b b.a + 1 = relS a b := by
  have h1 := spanV_pos ha
  have h2 := spanV_pos hb
  rw [relS_yes ha hb]; unfold sgn at *; repeat' split
  all_goals (repeat' split at h) <;> omega
theorem relS_hi {a b : Span} (ha : spanV a = true) (hb : spanV b = true) (k : 0 < sgn a.b b.a) (h : 0 ≤ sgn a.a b.b) : 11 + sgn a.a b.b = relS a b := by
  have h1 := spanV_pos ha
  have h2 := spanV_pos hb
  rw [relS_yes ha hb]
  have e1 : b.a < a.b := by unfold sgn at k; repeat' split at k
                            all_goals omega
  have e2 : b.b ≤ a.a := by unfold sgn at h; repeat' split at h
                            all_goals omega
  unfold sgn
  repeat' split
  all_goals omega
theorem sgn3 (x y : Int) : (x < y ∧ sgn x y = -1) ∨ (x = y ∧ sgn x y = 0) ∨ (y < x ∧ sgn x y = 1) := by
  unfold sgn; repeat' split
  all_goals omega
theorem relS_mid {a b : Span} {r : Int} (ha : spanV a = true) (hb : spanV b = true) (k : 0 < sgn a.b b.a) (h : sgn a.a b.b < 0)
    (hr : r = if a.a < b.a then (if a.b < b.b then 2 else if a.b = b.b then 7 else 8) else if a.a = b.a then (if a.b < b.b then 3 else if a.b = b.b then 6 else 9) else (if a.b < b.b then 4 else if a.b = b.b then 5 else 10)) : r = relS a b := by
  rw [relS_yes ha hb, hr]
  have e1 : b.a < a.b := by unfold sgn at k; repeat' split at k
                            all_goals omega
  have e2 : a.a < b.b := by unfold sgn at h; repeat' split at h
                            all_goals omega
  symm
  rw [if_neg (by omega), if_neg (by omega), if_neg (by omega), if_neg (by omega)]
def isSetB (s : Int) : Bool := decide (0 ≤ s) && decide (s ≤ 8191)
def bitB (s r : Int) : Bool := decide (Go.bits .and .i64 (s / 2 ^ r.toNat) 1 = 1)
def holdsB (s : Int) (a b : Span) : Bool := isSetB s && spanV a && spanV b && bitB s (relS a b)
def relG (s : Int) (f : Fact) (y : List Fact) : List Fact := y.flatMap fun g => if holdsB s f.t g.t then [⟨f.v ++ g.v, f.t⟩] else []
def relF (s : Int) (x y : List Fact) : List Fact := x.flatMap fun f => relG s f y
theorem relG_yes {s : Int} {f g : Fact} {y : List Fact} {k : Nat} (h : y[k]? = some g) (hh : holdsB s f.t g.t = true) : relG s f (y.take (k + 1)) = relG s f (y.take k) ++ [⟨f.v ++ g.v, f.t⟩] := by
  unfold relG; rw [List.take_add_one, h]; simp [hh]
theorem relG_no {s : Int} {f g : Fact} {y : List Fact} {k : Nat} (h : y[k]? = some g) (hh : holdsB s f.t g.t = false) : relG s f (y.take (k + 1)) = relG s f (y.take k) := by
  unfold relG; rw [List.take_add_one, h]; simp [hh]
theorem relG_all {s : Int} {f : Fact} {y : List Fact} {k : Nat} (h : y.length ≤ k) : relG s f (y.take k) = relG s f y := by rw [List.take_of_length_le h]
theorem relF_take {s : Int} {f : Fact} {x y : List Fact} {k : Nat} (h : x[k]? = some f) : relF s (x.take (k + 1)) y = relF s (x.take k) y ++ relG s f y := by
  unfold relF; rw [List.take_add_one, h]; simp
theorem relF_all {s : Int} {x y : List Fact} {k : Nat} (h : x.length ≤ k) : relF s (x.take k) y = relF s x y := by rw [List.take_of_length_le h]
theorem relG_len (s : Int) (f : Fact) (y : List Fact) : (relG s f y).length ≤ y.length := by
  unfold relG
  induction y with
  | nil => simp
  | cons g y ih => rw [List.flatMap_cons, List.length_append, List.length_cons]; split <;> simp only [List.length_cons, List.length_nil] <;> omega
theorem relF_len (s : Int) (x y : List Fact) : (relF s x y).length ≤ x.length * y.length := by
  unfold relF
  induction x with
  | nil => simp
  | cons f x ih => rw [List.flatMap_cons, List.length_append, List.length_cons, Nat.add_mul]; have := relG_len s f y; omega
theorem relF_mem {s : Int} {x y : List Fact} {h : Fact} (hh : h ∈ relF s x y) : ∃ f ∈ x, ∃ g ∈ y, h = ⟨f.v ++ g.v, f.t⟩ := by
  unfold relF relG at hh
  simp only [List.mem_flatMap] at hh
  obtain ⟨f, hf, g, hg, hh⟩ := hh
  split at hh
  · exact ⟨f, hf, g, hg, List.mem_singleton.1 hh⟩
  · simp at hh
theorem relF_good {s : Int} {x y : List Fact} (hx : Good x) (hy : Good y) : Good (relF s x y) := fun h hh => by
  obtain ⟨f, hf, g, hg, rfl⟩ := relF_mem hh
  refine ⟨?_, (hx f hf).2⟩
  rw [List.all_append, (hx f hf).1, (hy g hg).1]; rfl
def wideB (x y : List Fact) : Bool := decide (0 < x.length) && decide (0 < y.length) && decide (8 < (headV x).length + (headV y).length)
def relOk (a b : List Fact) (s : Int) : Bool := validB a && validB b && isSetB s
def relL (a b : List Fact) (s : Int) : List Fact := if relOk a b s && !wideB (normL a) (normL b) then finL (relF s (normL a) (normL b)) else []
def relE (a b : List Fact) (s : Int) : Int := if !relOk a b s then 1 else if wideB (normL a) (normL b) then 5 else finE (relF s (normL a) (normL b))
theorem rel_1 {a b : List Fact} {s : Int} (h : relOk a b s = false) : relL a b s = [] ∧ relE a b s = 1 := by unfold relL relE; rw [h]; exact ⟨rfl, rfl⟩
theorem rel_2 {a b : List Fact} {s : Int} (h : relOk a b s = true) (k : wideB (normL a) (normL b) = true) : relL a b s = [] ∧ relE a b s = 5 := by unfold relL relE; rw [h, k]; exact ⟨rfl, rfl⟩
theorem rel_3 {a b : List Fact} {s : Int} (h : relOk a b s = true) (k : wideB (normL a) (normL b) = false) : relL a b s = finL (relF s (normL a) (normL b)) ∧ relE a b s = finE (relF s (normL a) (normL b)) := by unfold relL relE; rw [h, k]; exact ⟨rfl, rfl⟩
theorem relOk_no {a b : List Fact} {s : Int} (h : validB a = false ∨ validB b = false ∨ s < 0 ∨ 8191 < s) : relOk a b s = false := by
  unfold relOk isSetB
  rcases h with h | h | h | h
  · rw [h]; rfl
  · rw [h]; simp
  · rw [decide_eq_false (by omega : ¬ 0 ≤ s)]; simp
  · rw [decide_eq_false (by omega : ¬ s ≤ 8191)]; simp
theorem relOk_yes {a b : List Fact} {s : Int} (ha : validB a = true) (hb : validB b = true) (h0 : 0 ≤ s) (h1 : s ≤ 8191) : relOk a b s = true := by
  unfold relOk isSetB; rw [ha, hb, decide_eq_true h0, decide_eq_true h1]; rfl
theorem wide_yes {x y : List Fact} {f g : Fact} (hx : x[0]? = some f) (hy : y[0]? = some g) (h : 8 < f.v.length + g.v.length) : wideB x y = true := by
  unfold wideB
  have h1 := (List.getElem?_eq_some_iff.1 hx).1
  have h2 := (List.getElem?_eq_some_iff.1 hy).1
  rw [headV_of hx, headV_of hy, decide_eq_true h1, decide_eq_true h2, decide_eq_true h]; rfl
theorem wide_no {x y : List Fact} {f g : Fact} (hx : x[0]? = some f) (hy : y[0]? = some g) (h : f.v.length + g.v.length ≤ 8) : wideB x y = false := by
  unfold wideB
  rw [headV_of hx, headV_of hy, decide_eq_false (by omega : ¬ 8 < f.v.length + g.v.length)]; simp
theorem wide_nil {x y : List Fact} (h : x.length = 0 ∨ y.length = 0) : wideB x y = false := by
  unfold wideB
  rcases h with h | h
  · rw [decide_eq_false (by omega : ¬ 0 < x.length)]; simp
  · rw [decide_eq_false (by omega : ¬ 0 < y.length)]; simp

/-! ### The reference's -/
def doneL (l : List Fact) : List Fact := if 1000 < (rnf l).length then [] else rnf l
def doneE (l : List Fact) : Int := if 1000 < (rnf l).length then 5 else 0
theorem head_nf {l : List Fact} (h : validB l = true) (hl : l.length ≤ 1000) : (normL l).length = 0 ∧ l.length = 0 ∨ 0 < (normL l).length ∧ 0 < l.length ∧ headV (normL l) = headV (normL l) ∧ (headV (normL l)).length = (headV l).length := by
  rw [(norm_valid h hl).1]
  cases hnf : nf l with
  | nil =>
    left
    refine ⟨rfl, ?_⟩
    cases l with
    | nil => rfl
    | cons f r =>
      exfalso
      have hB := (good_of_valid h f (by simp)).2
      have hp := spanB_pos hB
      obtain ⟨g, hg, _⟩ := (nf_cover (good_of_valid h) (v := f.v) (t := f.t.a)).2 ⟨f, by simp, rfl, by omega, hp⟩
      rw [hnf] at hg; simp at hg
  | cons g r =>
    right
    obtain ⟨k, hk, e⟩ := nf_vals (good_of_valid h) (f := g) (by rw [hnf]; simp)
    refine ⟨by simp, List.length_pos_of_mem hk, rfl, ?_⟩
    show g.v.length = _
    rw [← e]; exact (valid_len h hk).1
theorem wide_norm {a b : List Fact} (ha : validB a = true) (hb : validB b = true) (la : a.length ≤ 1000) (lb : b.length ≤ 1000) : wideB (normL a) (normL b) = wideB a b := by
  unfold wideB
  rcases head_nf ha la with ⟨h1, h2⟩ | ⟨h1, h2, _, h3⟩ <;> rcases head_nf hb lb with ⟨k1, k2⟩ | ⟨k1, k2, _, k3⟩
  · rw [h1, h2]; rfl
  · rw [h1, h2]; rfl
  · rw [k1, k2]; simp
  · rw [h3, k3, decide_eq_true h1, decide_eq_true h2, decide_eq_true k1, decide_eq_true k2]
def rrelL (a b : List Fact) (s : Int) : List Fact := if relOk a b s && !wideB a b then doneL (relF s (rnf a) (rnf b)) else []
def rrelE (a b : List Fact) (s : Int) : Int := if !relOk a b s then 1 else if wideB a b then 5 else doneE (relF s (rnf a) (rnf b))
theorem fin_done {l : List Fact} (h : Good l) (hw : ∀ f ∈ l, f.v.length ≤ 8) : finL l = doneL l ∧ finE l = doneE l := by
  unfold finL finE doneL doneE fitB
  rw [rnf_nf h]
  have hd : decide ((nf l).length = 0) = true ∨ decide (((nf l).head?.elim [] Fact.v).length ≤ 8) = true := by
    cases hnf : nf l with
    | nil => exact .inl rfl
    | cons g r =>
      obtain ⟨k, hk, e⟩ := nf_vals h (f := g) (by rw [hnf]; simp)
      refine .inr (decide_eq_true ?_)
      show g.v.length ≤ 8
      rw [← e]; exact hw k hk
  by_cases k : 1000 < (nf l).length
  · rw [if_pos k, if_pos k, decide_eq_false (by omega : ¬ (nf l).length ≤ 1000)]; exact ⟨rfl, rfl⟩
  · rw [if_neg k, if_neg k, decide_eq_true (by omega : (nf l).length ≤ 1000), Bool.true_and]
    have : (decide ((nf l).length = 0) || decide (((nf l).head?.elim [] Fact.v).length ≤ 8)) = true := by
      rcases hd with q | q <;> rw [q] <;> simp
    rw [this]; exact ⟨rfl, rfl⟩
theorem rel_eq {a b : List Fact} {s : Int} (la : a.length ≤ 1000) (lb : b.length ≤ 1000) : relL a b s = rrelL a b s ∧ relE a b s = rrelE a b s := by
  unfold relL relE rrelL rrelE
  cases hk : relOk a b s with
  | false => exact ⟨rfl, rfl⟩
  | true =>
    unfold relOk at hk
    simp only [Bool.and_eq_true] at hk
    obtain ⟨⟨ha, hb⟩, _⟩ := hk
    rw [wide_norm ha hb la lb]
    cases hw : wideB a b with
    | true => exact ⟨rfl, rfl⟩
    | false =>
      simp only [Bool.not_true, Bool.not_false, Bool.and_self, if_true, Bool.false_eq_true, if_false]
      have na := norm_valid ha la
      have nb := norm_valid hb lb
      rw [← rnf_nf (good_of_valid ha)] at na
      rw [← rnf_nf (good_of_valid hb)] at nb
      rw [na.1, nb.1]
      refine fin_done (relF_good (by rw [← na.1]; exact normL_good) (by rw [← nb.1]; exact normL_good)) fun h hh => ?_
      obtain ⟨f, hf, g, hg, rfl⟩ := relF_mem hh
      rw [rnf_nf (good_of_valid ha)] at hf
      rw [rnf_nf (good_of_valid hb)] at hg
      obtain ⟨f', hf', e1⟩ := nf_vals (good_of_valid ha) hf
      obtain ⟨g', hg', e2⟩ := nf_vals (good_of_valid hb) hg
      have w1 := valid_len ha hf'
      have w2 := valid_len hb hg'
      unfold wideB at hw
      rw [decide_eq_true (List.length_pos_of_mem hf'), decide_eq_true (List.length_pos_of_mem hg')] at hw
      simp at hw
      simp only [List.length_append, ← e1, ← e2]; omega
theorem rrel_1 {a b : List Fact} {s : Int} (h : relOk a b s = false) : rrelL a b s = [] ∧ rrelE a b s = 1 := by unfold rrelL rrelE; rw [h]; exact ⟨rfl, rfl⟩
theorem rrel_2 {a b : List Fact} {s : Int} (h : relOk a b s = true) (k : wideB a b = true) : rrelL a b s = [] ∧ rrelE a b s = 5 := by unfold rrelL rrelE; rw [h, k]; exact ⟨rfl, rfl⟩
theorem rrel_3 {a b : List Fact} {s : Int} (h : relOk a b s = true) (k : wideB a b = false) : rrelL a b s = doneL (relF s (rnf a) (rnf b)) ∧ rrelE a b s = doneE (relF s (rnf a) (rnf b)) := by unfold rrelL rrelE; rw [h, k]; exact ⟨rfl, rfl⟩
theorem holds_bit {s : Int} {a b : Span} (hs : isSetB s = true) (ha : spanV a = true) (hb : spanV b = true) : holdsB s a b = bitB s (relS a b) := by unfold holdsB; rw [hs, ha, hb]; rfl
theorem holds_1 {s : Int} {a b : Span} (h : isSetB s = false ∨ spanV a = false ∨ spanV b = false) : holdsB s a b = false := by
  unfold holdsB; rcases h with h | h | h <;> rw [h] <;> simp
theorem rnf_span {l : List Fact} {f : Fact} {k : Nat} (hg : Good l) (h : (rnf l)[k]? = some f) : spanV f.t = true := by
  rw [rnf_nf hg] at h
  exact spanB_V (nf_good hg f (List.mem_of_getElem? h)).2
theorem rnf_vlen {l : List Fact} {f : Fact} {k : Nat} (hv : validB l = true) (h : (rnf l)[k]? = some f) : f.v.length = (headV l).length ∧ (headV l).length ≤ 8 := by
  rw [rnf_nf (good_of_valid hv)] at h
  obtain ⟨q, hq, e⟩ := nf_vals (good_of_valid hv) (List.mem_of_getElem? h)
  rw [← e]; exact valid_len hv hq
theorem flat_take {α : Type} {l : List (List α)} {k : Nat} {x : List α} (h : l[k]? = some x) : (l.take (k + 1)).flatten = (l.take k).flatten ++ x := by
  rw [List.take_add_one, h]; simp
theorem flat_le {α : Type} (l : List (List α)) (k : Nat) : (l.take k).flatten.length ≤ l.flatten.length := by
  have : l.flatten = (l.take k).flatten ++ (l.drop k).flatten := by rw [← List.flatten_append, List.take_append_drop]
  rw [this, List.length_append]; omega
theorem flat_all {α : Type} {l : List (List α)} {k : Nat} (h : l.length ≤ k) : (l.take k).flatten = l.flatten := by rw [List.take_of_length_le h]
/-! used in several laws -/
theorem valid_wide {l : List Fact} (h : validB l = true) : ∀ f ∈ l, f.v.length ≤ 8 := fun f hf => by have := valid_len h hf; omega
theorem kinds_map : ∀ {a b : List Val}, kindsB a b = true ↔ a.map Val.k = b.map Val.k
  | [], [] => by simp [kindsB, eqF]
  | [], _ :: _ => by simp [kindsB, eqF]
  | _ :: _, [] => by simp [kindsB, eqF]
  | x :: a, y :: b => by
    have := kinds_map (a := a) (b := b)
    unfold kindsB at this ⊢
    simp only [eqF, Bool.and_eq_true, decide_eq_true_eq, List.map_cons, List.cons.injEq, this]
theorem fact_kinds {l : List Fact} (h : validB l = true) {f : Fact} (hf : f ∈ l) : f.v.map Val.k = (headV l).map Val.k := by
  unfold validB at h
  simp only [Bool.and_eq_true, List.all_eq_true] at h
  have := h.2 f hf
  unfold factB at this
  simp only [Bool.and_eq_true] at this
  refine kinds_map.1 ?_
  unfold headV
  simp_all
theorem headV_mem {l : List Fact} (h : 0 < l.length) : ∃ f ∈ l, headV l = f.v := by
  cases l with
  | nil => simp at h
  | cons f r => exact ⟨f, by simp, rfl⟩
theorem not_ft {b : Bool} (h : (!b) = false) : b = true := by cases b with | true => rfl | false => cases h
theorem Lent.cast {w : World} {G : GH} {b e : Nat} {cs cs' : List Value} (h : Lent w G (some (b, e, cs))) (k : cs = cs') : Lent w G (some (b, e, cs')) := k ▸ h

end Go.Civ
