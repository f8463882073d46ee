/- Lemmas: Op, Civ19, Civ24, Sr, Shelf4, Si. -/
import Derived.Test.YtjjkgobhlfmhhaaGreatK03
import Derived.Test.YtjjkgobhlfmhhaaGreatK12
import Derived.Test.YtjjkgobhlfmhhaaGreatK13
import Derived.Test.YtjjkgobhlfmhhaaGreatK15
import Derived.Test.YtjjkgobhlfmhhaaGreatRows
import Derived.Shelf.Sort.Plain
import Derived.Shelf.Small.Strs
import Derived.Ground.NamesProg
import Derived.Test.YtjjkgobhlfmhhaaGreatProg
set_option linter.unusedVariables false
namespace Go.Civ
open Go.Proofs
section
variable {H : Type} {enc : TypeId × Value → H} {w : World}
theorem opSpan : Opens enc Tryz.prog w 38 SpanE := opens_pair (g := fun p => ⟨p.1, p.2⟩) (fun _ => rfl) Tryz.underlying38 rfl (by kernel_rfl) rfl (by kernel_rfl) (by kernel_rfl) (opens_int Tryz.underlying3) (opens_int Tryz.underlying3)
theorem opVal : Opens enc Tryz.prog w 48 ValE := opens_three (g := fun p => ⟨p.1, p.2.1, p.2.2⟩) (fun _ => rfl) Tryz.underlying48 rfl (by kernel_rfl) rfl (by kernel_rfl) rfl (by kernel_rfl) (by kernel_rfl) (opens_int Tryz.underlying3) (opens_int Tryz.underlying3) (opens_str Tryz.underlying9)
theorem opVals : Opens enc Tryz.prog w 36 (ValE.slice 32) := opens_slice Tryz.underlying36 (by kernel_rfl) (by decide) (by kernel_rfl) (by decide) opVal
theorem opRect : Opens enc Tryz.prog w 62 RectE := opens_pair (g := fun p => ⟨p.1, p.2⟩) (fun _ => rfl) Tryz.underlying62 rfl (by kernel_rfl) rfl (by kernel_rfl) (by kernel_rfl) opSpan opSpan
theorem opRow : Opens enc Tryz.prog w 64 HRowE := opens_pair (g := fun p => ⟨p.1, p.2⟩) (fun _ => rfl) Tryz.underlying64 rfl (by kernel_rfl) rfl (by kernel_rfl) (by kernel_rfl) opVals opRect
theorem opRows : Opens enc Tryz.prog w 26 (HRowE.slice 56) := opens_slice Tryz.underlying26 (by kernel_rfl) (by decide) (by kernel_rfl) (by decide) opRow
theorem opCol : Opens enc Tryz.prog w 86 ColE := opens_pair (g := fun p => ⟨p.1, p.2⟩) (fun _ => rfl) Tryz.underlying86 rfl (by kernel_rfl) rfl (by kernel_rfl) (by kernel_rfl) (opens_str Tryz.underlying9) (opens_int Tryz.underlying3)
theorem opCols : Opens enc Tryz.prog w 22 (ColE.slice 24) := opens_slice Tryz.underlying22 (by kernel_rfl) (by decide) (by kernel_rfl) (by decide) opCol
theorem opStrs : Opens enc Tryz.prog w 89 (Enc.str.slice 16) := opens_slice Tryz.underlying89 (by kernel_rfl) (by decide) (by kernel_rfl) (by decide) (opens_str Tryz.underlying9)
theorem opForeign : Opens enc Tryz.prog w 108 ForeignE := opens_pair (g := fun p => ⟨p.1, p.2⟩) (fun _ => rfl) Tryz.underlying108 rfl (by kernel_rfl) rfl (by kernel_rfl) (by kernel_rfl) opStrs (opens_str Tryz.underlying9)
theorem opForeigns : Opens enc Tryz.prog w 23 (ForeignE.slice 40) := opens_slice Tryz.underlying23 (by kernel_rfl) (by decide) (by kernel_rfl) (by decide) opForeign
theorem opSchema : Opens enc Tryz.prog w 25 SchemaE := opens_four (g := fun p => ⟨p.1, p.2.1, p.2.2.1, p.2.2.2⟩) (fun _ => rfl) Tryz.underlying25 rfl (by kernel_rfl) rfl (by kernel_rfl) rfl (by kernel_rfl) rfl (by kernel_rfl) (by kernel_rfl) (opens_str Tryz.underlying9) opCols (opens_int Tryz.underlying3) opForeigns
theorem opTable : Opens enc Tryz.prog w 28 TableE := opens_three (g := fun p => ⟨p.1, p.2.1, p.2.2⟩) (fun _ => rfl) Tryz.underlying28 rfl (by kernel_rfl) rfl (by kernel_rfl) rfl (by kernel_rfl) (by kernel_rfl) opSchema opRows (opens_int Tryz.underlying3)
theorem opBools : Opens enc Tryz.prog w 83 (Enc.bool.slice 1) := opens_slice Tryz.underlying83 (by kernel_rfl) (by decide) (by kernel_rfl) (by decide) (opens_bool Tryz.underlying4)
theorem opCond : ∀ N, OpensP (fun d => SizeOf.sizeOf d ≤ N) enc Tryz.prog w 51 (CondE N) :=
  opens_cond Tryz.underlying51 ⟨rfl, rfl, rfl, rfl, rfl⟩ Tryz.underlying3 Tryz.underlying9 Tryz.underlying9 opVal Tryz.underlying49 ⟨by kernel_rfl, by kernel_rfl, by kernel_rfl, by kernel_rfl, by kernel_rfl⟩ (by kernel_rfl) (by kernel_rfl)
end
theorem ownT : ownKnob Tryz.prog.godebug = none := by kernel_rfl
theorem laidOutT : laidOutB Tryz.prog = true := by kernel_rfl
end Go.Civ
namespace Go.Civ
set_option linter.unusedVariables false

theorem cmpS_cons (x y : UInt8) (a b : List UInt8) : cmpS (x :: a) (y :: b) = if x = y then cmpS a b else sgn (x.toNat : Int) (y.toNat : Int) := by
  unfold cmpS
  by_cases e : x = y
  · subst e
    rw [if_pos rfl]
    simp [Op.bytesLess]
  · rw [if_neg e]
    have hn : x.toNat ≠ y.toNat := fun q => e (UInt8.toNat_inj.1 q)
    simp only [Op.bytesLess, List.cons.injEq, e, false_and, if_false]
    have hbe : (x == y) = false := by simpa using e
    rw [hbe]
    simp only [Bool.false_and, Bool.or_false, decide_eq_true_eq]
    unfold sgn
    by_cases k : x < y
    · rw [if_pos k, if_pos (by rw [UInt8.lt_iff_toNat_lt] at k; omega)]
    · rw [if_neg k, if_neg (by rw [UInt8.lt_iff_toNat_lt] at k; omega), if_pos (by rw [UInt8.lt_iff_toNat_lt] at k; omega)]
theorem cmpS_at : ∀ {a b : List UInt8} {k : Nat} {x y : UInt8}, (∀ j, j < k → ∀ c d, a[j]? = some c → b[j]? = some d → c = d) → a[k]? = some x → b[k]? = some y → (x.toNat : Int) ≠ (y.toNat : Int) → cmpS a b = sgn (x.toNat : Int) (y.toNat : Int)
  | c :: a, d :: b, 0, x, y, _, h1, h2, h => by
    simp at h1 h2; subst h1 h2
    rw [cmpS_cons, if_neg fun e => h (by rw [e])]
  | c :: a, d :: b, k + 1, x, y, h0, h1, h2, h => by
    have e := h0 0 (by omega) c d rfl rfl
    rw [cmpS_cons, if_pos e]
    exact cmpS_at (k := k) (fun j hj c d hc hd => h0 (j + 1) (by omega) c d (by simpa using hc) (by simpa using hd)) (by simpa using h1) (by simpa using h2) h
  | [], _, _, _, _, _, h1, _, _ => by simp at h1
  | _ :: _, [], _, _, _, _, _, h2, _ => by simp at h2
theorem cmpS_end : ∀ {a b : List UInt8} {k : Nat}, (∀ j, j < k → ∀ c d, a[j]? = some c → b[j]? = some d → c = d) → (a.length ≤ k ∨ b.length ≤ k) → cmpS a b = sgn (a.length : Int) (b.length : Int)
  | [], [], _, _, _ => by simp [cmpS, Op.bytesLess, sgn]
  | [], _ :: _, _, _, _ => by unfold sgn; rw [if_pos (by simp only [List.length_nil, List.length_cons]; omega)]; simp [cmpS, Op.bytesLess]
  | _ :: _, [], _, _, _ => by unfold sgn; rw [if_neg (by simp only [List.length_nil, List.length_cons]; omega), if_pos (by simp only [List.length_nil, List.length_cons]; omega)]; simp [cmpS, Op.bytesLess]
  | c :: a, d :: b, k, h0, h => by
    have hk : 0 < k := by simp at h; omega
    have e := h0 0 hk c d rfl rfl
    rw [cmpS_cons, if_pos e, cmpS_end (k := k - 1) (fun j hj c d hc hd => h0 (j + 1) (by omega) c d (by simpa using hc) (by simpa using hd)) (by simp at h; omega)]
    unfold sgn; simp only [List.length_cons]
    split <;> split <;> (try split) <;> (try split) <;> omega
theorem sgn_ne {a b : Int} (h : a ≠ b) : sgn a b ≠ 0 := fun e => h ((sgn_ord.eq a b).1 e)
theorem cmpV_k {x y : Val} (h : x.k ≠ y.k) : cmpV x y = sgn x.k y.k := by unfold cmpV; rw [if_pos (sgn_ne h)]
theorem cmpV_n {x y : Val} (h : x.k = y.k) (h2 : x.n ≠ y.n) : cmpV x y = sgn x.n y.n := by
  unfold cmpV; rw [if_neg (by rw [h, sgn_ord.refl]; simp), if_pos (sgn_ne h2)]
theorem cmpV_s {x y : Val} (h : x.k = y.k) (h2 : x.n = y.n) : cmpV x y = cmpS x.s y.s := by
  unfold cmpV; rw [if_neg (by rw [h, sgn_ord.refl]; simp), if_neg (by rw [h2, sgn_ord.refl]; simp)]
theorem cmpL_end' {α β : Type} {f : α → β → Int} {a : List α} {b : List β} {k : Nat} (h : ∀ j, j < k → ∀ x y, a[j]? = some x → b[j]? = some y → f x y = 0) (hk : a.length ≤ k ∨ b.length ≤ k) : cmpL f a b = sgn (a.length : Int) (b.length : Int) :=
  cmpL_end fun j x y hx hy => h j (by have := (List.getElem?_eq_some_iff.1 hx).1; have := (List.getElem?_eq_some_iff.1 hy).1; omega) x y hx hy

abbrev VV := List (List Val)
def posV : VV → List Val → Nat
  | [], _ => 0
  | u :: r, v => if cmpL cmpV u v < 0 then posV r v + 1 else 0
theorem posV_at : ∀ {out : VV} {v : List Val} {k : Nat}, k ≤ out.length → (∀ j, j < k → ∀ u, out[j]? = some u → cmpL cmpV u v < 0) → (∀ u, out[k]? = some u → ¬ cmpL cmpV u v < 0) → posV out v = k
  | [], v, k, hk, _, _ => by simp at hk; simp [posV, hk]
  | u :: r, v, 0, _, _, h => by simp only [posV]; rw [if_neg (h u rfl)]
  | u :: r, v, k + 1, hk, h0, h => by
    simp only [posV]; rw [if_pos (h0 0 (by omega) u rfl), posV_at (k := k) (by simpa using hk) (fun j hj u hu => h0 (j + 1) (by omega) u (by simpa using hu)) (fun u hu => h u (by simpa using hu))]
theorem posV_is : ∀ (out : VV) (v : List Val), posV out v ≤ out.length ∧ (∀ j, j < posV out v → ∀ u, out[j]? = some u → cmpL cmpV u v < 0) ∧ (∀ u, out[posV out v]? = some u → ¬ cmpL cmpV u v < 0)
  | [], v => ⟨by simp [posV], fun j hj => by simp [posV] at hj, fun u hu => by simp at hu⟩
  | u :: r, v => by
    obtain ⟨h1, h2, h3⟩ := posV_is r v
    simp only [posV]
    split
    · rename_i hu
      refine ⟨by simpa using h1, fun j hj w hw => ?_, fun w hw => h3 w (by simpa using hw)⟩
      cases j with
      | zero => simp at hw; subst hw; exact hu
      | succ j => exact h2 j (by omega) w (by simpa using hw)
    · rename_i hu
      exact ⟨by omega, fun j hj => absurd hj (by omega), fun w hw => by simp at hw; subst hw; exact hu⟩
def insV (out : VV) (v : List Val) : VV := if out[posV out v]? = some v then out else out.take (posV out v) ++ [v] ++ out.drop (posV out v)
theorem insV_len (out : VV) (v : List Val) : (insV out v).length ≤ out.length + 1 := by
  unfold insV; split
  · omega
  · have := (posV_is out v).1; simp; omega
theorem insV_mem {out : VV} {v u : List Val} : u ∈ insV out v ↔ u ∈ out ∨ u = v := by
  unfold insV
  split
  · rename_i h
    constructor
    · exact .inl
    · rintro (h1 | rfl)
      · exact h1
      · exact List.mem_of_getElem? h
  · rw [List.mem_append, List.mem_append, List.mem_singleton]
    constructor
    · rintro ((h | h) | h)
      · exact .inl (List.mem_of_mem_take h)
      · exact .inr h
      · exact .inl (List.mem_of_mem_drop h)
    · rintro (h | h)
      · rw [← List.take_append_drop (posV out v) out] at h
        rcases List.mem_append.1 h with k | k
        · exact .inl (.inl k)
        · exact .inr k
      · exact .inl (.inr h)
def IncV (l : VV) : Prop := l.Pairwise fun x y => cmpL cmpV x y < 0
theorem insV_inc {out : VV} {v : List Val} (h : IncV out) : IncV (insV out v) := by
  unfold insV
  split
  · exact h
  · rename_i hne
    obtain ⟨hp1, hp2, hp3⟩ := posV_is out v
    generalize posV out v = i at *
    have low : ∀ u ∈ out.take i, cmpL cmpV u v < 0 := fun u hu => by
      obtain ⟨j, hj, rfl⟩ := List.getElem_of_mem hu
      simp only [List.length_take] at hj
      rw [List.getElem_take]
      exact hp2 j (by omega) _ (List.getElem?_eq_getElem (by omega))
    have up : ∀ u ∈ out.drop i, cmpL cmpV v u < 0 := fun u hu => by
      obtain ⟨j, hj, rfl⟩ := List.getElem_of_mem hu
      simp only [List.length_drop] at hj
      rw [List.getElem_drop]
      have h0 := hp3 out[i] (List.getElem?_eq_getElem (by omega))
      have hn : out[i] ≠ v := fun e => hne (by rw [List.getElem?_eq_getElem (by omega), e])
      have h1 : cmpL cmpV v out[i] < 0 := by
        rcases Int.lt_or_le (cmpL cmpV v out[i]) 0 with k | k
        · exact k
        · exfalso
          by_cases e : cmpL cmpV v out[i] = 0
          · exact hn ((ord.eq _ _).1 e).symm
          · exact h0 ((ord.swap _ _).2 (by omega))
      by_cases e : j = 0
      · subst e; simpa using h1
      · exact ord.trans _ _ _ h1 (List.pairwise_iff_getElem.1 h i (i + j) (by omega) (by omega) (by omega))
    unfold IncV
    rw [List.pairwise_append, List.pairwise_append]
    refine ⟨⟨List.Pairwise.sublist (List.take_sublist _ _) h, by simp, fun y hy z hz => ?_⟩, List.Pairwise.sublist (List.drop_sublist _ _) h, fun y hy z hz => ?_⟩
    · rw [List.mem_singleton.1 hz]; exact low y hy
    · rcases List.mem_append.1 hy with hy | hy
      · exact ord.trans _ _ _ (low y hy) (up z hz)
      · rw [List.mem_singleton.1 hy]; exact up z hz
theorem vals_found {out : VV} {v : List Val} {k : Nat} (hk : k ≤ out.length) (h0 : ∀ j, j < k → ∀ u, out[j]? = some u → cmpL cmpV u v < 0) {u : List Val} (h1 : out[k]? = some u) (h2 : ¬ cmpL cmpV u v < 0) (h3 : u = v) : insV out v = out := by
  subst h3
  unfold insV
  rw [posV_at hk h0 (fun w hw => by rw [h1] at hw; obtain rfl := Option.some.inj hw; exact h2), if_pos h1]
theorem vals_put {out : VV} {v : List Val} {k : Nat} (hk : k ≤ out.length) (h0 : ∀ j, j < k → ∀ u, out[j]? = some u → cmpL cmpV u v < 0) (h2 : ∀ u, out[k]? = some u → ¬ cmpL cmpV u v < 0) (h3 : out[k]? ≠ some v) : insV out v = out.take k ++ [v] ++ out.drop k := by
  unfold insV
  rw [posV_at hk h0 h2, if_neg h3]
structure Shift (out M : VV) (j : Nat) : Prop where
  len : M.length = out.length + 1
  low : ∀ i, i < j → M[i]? = out[i]?
  high : ∀ i, j < i → i ≤ out.length → M[i]? = out[i - 1]?
theorem Shift.start {out : VV} {u : List Val} : Shift out (out ++ [u]) out.length :=
  ⟨by simp, fun i hi => List.getElem?_append_left hi, fun i h1 h2 => by omega⟩
theorem Shift.step {out M : VV} {j : Nat} {x : List Val} (h : Shift out M j) (hj : 0 < j) (hx : M[j - 1]? = some x) : Shift out (M.set j x) (j - 1) := by
  have hjl : j - 1 < M.length := (List.getElem?_eq_some_iff.1 hx).1
  refine ⟨by rw [List.length_set]; exact h.len, fun i hi => ?_, fun i h1 h2 => ?_⟩
  · rw [List.getElem?_set, if_neg (by omega)]; exact h.low i (by omega)
  · rw [List.getElem?_set]
    by_cases e : j = i
    · subst e
      rw [if_pos rfl]
      split
      · rw [← hx]; exact h.low _ (by omega)
      · have := h.len; omega
    · rw [if_neg e]; exact h.high i (by omega) h2
theorem Shift.done {out M : VV} {k : Nat} {v : List Val} (h : Shift out M k) (hk : k ≤ out.length) : M.set k v = out.take k ++ [v] ++ out.drop k := by
  apply List.ext_getElem?
  intro i
  have hl := h.len
  rw [List.getElem?_set, List.append_assoc, List.getElem?_append, List.length_take, Nat.min_eq_left hk]
  by_cases e : k = i
  · subst e
    rw [if_pos rfl, if_pos (by omega), if_neg (by omega)]; simp
  · rw [if_neg e]
    by_cases q : i < k
    · rw [if_pos q, List.getElem?_take, if_pos q]; exact h.low i q
    · rw [if_neg q, List.getElem?_append, if_neg (by simp; omega), List.getElem?_drop]
      rcases Nat.lt_or_ge out.length i with r | r
      · rw [List.getElem?_eq_none (by omega), List.getElem?_eq_none (by simp; omega)]
      · rw [h.high i (by omega) r]; congr 1; simp; omega

theorem spanB_V {s : Span} (h : spanB s = true) : spanV s = true := by
  have hp := spanB_pos h
  unfold spanB at h
  simp only [Bool.and_eq_true, decide_eq_true_eq] at h
  rw [spanV_B s h.1.1 h.2]; exact decide_eq_true hp
theorem u8_eq {c d : UInt8} (h : (c.toNat : Int) = (d.toNat : Int)) : c = d := UInt8.toNat_inj.1 (by omega)
end Go.Civ
set_option linter.unusedVariables false
namespace Go.Civ
open Go.Proofs Go.Shelf Go.RowKit Go.Lib Go.Sort

theorem flatInt {G : GH} : ∀ (l : List Int), (∀ x ∈ l, I64 x) → Flat Enc.int G l (l.map (Value.int .i64))
  | [], _ => rfl
  | x :: l, h => ⟨[.int .i64 x], l.map (Value.int .i64), rfl, ⟨rfl, h x (by simp)⟩, flatInt l fun y hy => h y (by simp [hy])⟩
theorem flatInt_cells {G : GH} : ∀ (l : List Int) (xs : List Value), Flat Enc.int G l xs → xs = l.map (Value.int .i64) ∧ ∀ x ∈ l, I64 x
  | [], xs, h => ⟨h, by simp⟩
  | x :: l, xs, ⟨c, r, h1, h2, h3⟩ => by
    obtain ⟨rfl, hb⟩ := h2
    obtain ⟨rfl, h4⟩ := flatInt_cells l r h3
    refine ⟨h1, fun y hy => ?_⟩
    rcases List.mem_cons.1 hy with rfl | hy
    · exact hb
    · exact h4 y hy
def sortI (l : List Int) : List Int := l.mergeSort fun x y => decide (x ≤ y)

set_option maxHeartbeats 1000000 in
theorem c_SortI {G : GH} {w : World} (hG : G.In w) (l : List Int) (vd : Value) (od : OB) (hvd : Row Enc.int 8 (nat_lit 3) G vd l od) (hod : Lent w G od) :
    Calls Tryz.prog (nat_lit 159) #[vd] w fun e w' => ∃ r G', e = .returned r ∧ Res (blk od) w G w' G' ∧ r = .tuple #[] ∧ ∃ (l' : List Int) (o' : OB), Row Enc.int 8 (nat_lit 3) G' vd l' o' ∧ Lent w' G' o' ∧ l' = sortI l := by
  rcases hvd with ⟨rfl, rfl, rfl⟩ | ⟨b, cs, cap, xs, rfl, rfl, h3, h4, h5, h6, h7, h8, h9⟩
  · exact (Any.slices_Sort_int_none Tryz.laysSort none 0 w).mono fun e w' ⟨he, hw⟩ => by
      subst hw
      exact ⟨_, G, he, Res.refl hG, rfl, [], none, .inl ⟨rfl, rfl, rfl⟩, fun p hp => (by cases hp), by simp [sortI]⟩
  · obtain ⟨hb1, hb2⟩ := hod _ rfl
    obtain ⟨rfl, hI⟩ := flatInt_cells l xs h6
    have hE : Enc.int.n = 1 := rfl
    rw [hE, Nat.mul_one] at h5 h7
    have hcell : ∀ t, t < l.length → cs[t]? = some (.int .i64 l[t]!) := fun t ht => by
      have := congrArg (·[t]?) h7
      simp only [List.getElem?_take, if_pos ht, List.getElem?_map] at this
      rw [this, List.getElem?_eq_getElem ht, getElem!_pos l t ht]; rfl
    have hH : Holds (Value.int .i64) w b 0 l.toArray := fun t ht => by
      have ht' : t < l.length := by simpa using ht
      refine ⟨?_, ?_⟩
      · rw [Nat.zero_add]
        simp only [World.cell?, hb1, objOf]
        have := hcell t ht'
        rw [getElem!_pos l t ht'] at this
        rw [getElem!_pos l.toArray t ht]
        simpa using this
      · simp [World.frozen?, hb1, objOf]
    have hcon := Any.slices_Sort_int Tryz.laysSort b 0 cap l w hH (Array.getElem?_eq_some_iff.1 hb1).1 (by unfold reach at h9; omega)
    refine hcon.mono fun e w' ⟨he, n, os, hw⟩ => ?_
    have hperm : (sortI l).Perm l := List.mergeSort_perm _ _
    have hlen : (sortI l).length = l.length := hperm.length_eq
    have hbl : b < w.heap.size := (Array.getElem?_eq_some_iff.1 hb1).1
    obtain ⟨cs', hcs'⟩ : ∃ cs' : List Value, cs' = (putCells (Value.int .i64) 0 (sortI l).toArray cs.toArray).toList := ⟨_, rfl⟩
    have hget : ∀ k, w'.heap[k]? = if k < w.heap.size then (if b = k then some (.cells cs'.toArray (nat_lit 3) (0, 0)) else w.heap[k]?) else os[k - w.heap.size]? := fun k => by
      subst hw
      have hah : (Go.Sort.ahead w n).heap = w.heap := rfl
      simp only [putRow, mapBlock, grow, hah]
      rw [Array.getElem?_append]
      simp only [Array.size_modify]
      by_cases hk : k < w.heap.size
      · rw [if_pos hk, if_pos hk, Array.getElem?_modify]
        by_cases hkb : b = k
        · subst hkb
          rw [if_pos rfl, if_pos rfl, hb1]
          simp [objOf, onCells, hcs', sortI]
        · rw [if_neg hkb, if_neg hkb]
      · rw [if_neg hk, if_neg hk]
    have hres : Res [b] w G w' G := by
      refine ⟨?_, G.le_refl, fun _ _ => rfl, fun k o hk => ?_⟩
      · refine ⟨by subst hw; rfl, by subst hw; rfl, by subst hw; rfl, by subst hw; exact Nat.le_add_right _ _, ?_, fun k hk hkb => ?_⟩
        · subst hw
          have hah : (Go.Sort.ahead w n).heap = w.heap := rfl
          simp [putRow, mapBlock, grow]
          try simp [hah]
        · rw [hget, if_pos hk, if_neg (by simpa [eq_comm] using hkb)]
      · have hk1 := hG.lt hk
        have hkb : b ≠ k := fun e => by subst e; simp only at hb2; rw [hb2] at hk; cases hk
        rw [hget, if_pos hk1, if_neg hkb]; exact hG k o hk
    have hI' : ∀ x ∈ sortI l, I64 x := fun x hx => hI x (hperm.mem_iff.1 hx)
    refine ⟨_, G, he, hres, rfl, sortI l, some (b, nat_lit 3, cs'), .inr ⟨b, cs', cap, (sortI l).map (Value.int .i64), rfl, by rw [hlen], by rw [hlen]; exact h3, h4, ?_, flatInt _ hI', ?_, by rw [hlen]; exact h8, by rw [hlen]; exact h9⟩, fun p hp => ?_, rfl⟩
    · subst hcs'; rw [hE]; simpa [putCells] using h5
    · rw [hE, Nat.mul_one]
      apply List.ext_getElem?
      intro t
      rw [List.getElem?_take]
      by_cases ht : t < (sortI l).length
      · have htc : t < cs.length := by omega
        rw [if_pos ht, hcs']
        simp only [putCells, Array.getElem?_toList, Array.getElem?_mapIdx]
        simp only [List.getElem?_toArray]
        rw [List.getElem?_eq_getElem htc, List.getElem?_map, List.getElem?_eq_getElem ht]
        simp [ht]
      · rw [if_neg ht, List.getElem?_eq_none]
        simp; omega
    · obtain rfl := Option.some.inj hp
      exact ⟨by rw [hget, if_pos hbl, if_pos rfl]; rfl, hb2⟩
end Go.Civ
namespace Go.Proofs
open Go.Shelf
def Tryz.ixByte_ren : Go.Shelf.Ren := ⟨fun | 137 => 123 | 217 => 163 | 266 => 192 | n => n, fun | 9 => 9 | 5 => 5 | 3 => 3 | n => n, fun | n => n⟩
theorem Tryz.ixByte : Go.Proofs.Lays.n137 Tryz.prog Tryz.ixByte_ren := {
  mixed := by kernel_rfl
  f137 := Tryz.func123.trans (congrArg some (by kernel_rfl))
  f217 := Tryz.func163.trans (congrArg some (by kernel_rfl))
  f266 := Tryz.func192.trans (congrArg some (by kernel_rfl))
  t3 := Tryz.underlying3
  a3 := Tryz.isAgg3
  z3 := Tryz.sizeOf3
  v3 := Tryz.zeroValue3
  t5 := Tryz.underlying5
  a5 := Tryz.isAgg5
  z5 := Tryz.sizeOf5
  v5 := Tryz.zeroValue5
  t9 := Tryz.underlying9
  a9 := Tryz.isAgg9
  z9 := Tryz.sizeOf9
  v9 := Tryz.zeroValue9 }
end Go.Proofs
set_option linter.unusedVariables false
namespace Go.Civ
open Go.Proofs Go.Shelf Go.RowKit
theorem c_IndexByte {G : GH} {w : World} (hG : G.In w) (s : List UInt8) (c : Int) : Calls Tryz.prog (nat_lit 123) #[strV s, .int .u8 c] w fun e w' => ∃ r G', e = .returned r ∧ Res [] w G w' G' ∧ r = .int .i64 (Lib.indexByte s c.toNat.toUInt8) := by
  refine (Any.strings_IndexByte Tryz.ixByte ⟨s.toArray⟩ c w).mono ?_
  rintro e w' ⟨rfl, rfl⟩
  exact ⟨_, G, rfl, Res.refl hG, rfl⟩
end Go.Civ
