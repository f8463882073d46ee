/- Groups that are being made: the last group's times are still written. -/
import Derived.Test.YtapjalhjfblonaaGreatCiv14
namespace Go.Civ
open Go.RowKit
set_option linter.unusedVariables false

def GroupW : Enc (List Val × Value) where
  n := 2
  rep G x cs := ∃ v, cs = [v, x.2] ∧ Sl ValE 32 G v x.1 ∧ x.2.oneCell' = true
  len := by rintro G x cs ⟨v, rfl, _⟩; rfl
  mono := by rintro G G' x cs hle ⟨v, rfl, h, k⟩; exact ⟨v, rfl, h.mono hle, k⟩
  one := by
    rintro G x cs ⟨v, rfl, h, k⟩ c hc
    simp at hc
    rcases hc with rfl | rfl
    · exact h.oneC
    · exact k
theorem GroupW_open {G : GH} {x : List Val × Value} {cs : List Value} (h : GroupW.rep G x cs) : ∃ v, cs = [v, x.2] ∧ Sl ValE 32 G v x.1 ∧ x.2.oneCell' = true := h
theorem GroupW_mk {G : GH} (x : List Val × Value) {v : Value} (h1 : Sl ValE 32 G v x.1) (h2 : x.2.oneCell' = true) : GroupW.rep G x [v, x.2] := ⟨v, rfl, h1, h2⟩

structure GRel (G : GH) (gs : List Group) (L : List (List Val × Value)) (u : Value) (T : List Span) : Prop where
  len : L.length = gs.length
  val : ∀ (i : Nat) g, gs[i]? = some g → ∃ p, L[i]? = some p ∧ p.1 = g.v ∧ (i + 1 < gs.length → Sl SpanE 16 G p.2 g.t)
  last : ∀ g, gs[gs.length - 1]? = some g → (∃ p, L[gs.length - 1]? = some p ∧ p.2 = u) ∧ T = g.t
section
variable {G G' : GH} {gs : List Group} {L : List (List Val × Value)} {u : Value} {T : List Span} {f : Fact} {x : List Val × Value}
theorem GRel.mono (h : GRel G gs L u T) (k : G.le G') : GRel G' gs L u T :=
  ⟨h.len, fun i g hg => let ⟨p, h1, h2, h3⟩ := h.val i g hg; ⟨p, h1, h2, fun q => (h3 q).mono k⟩, h.last⟩
theorem GRel.nil : GRel G [] [] u T := ⟨rfl, fun i g h => by simp at h, fun g h => by simp at h⟩
theorem GRel.at (h : GRel G gs L u T) (hx : L[L.length - 1]? = some x) : ∃ g, gs[gs.length - 1]? = some g ∧ x.1 = g.v ∧ x.2 = u ∧ T = g.t := by
  have hl : L.length - 1 < L.length := (List.getElem?_eq_some_iff.1 hx).1
  rw [h.len] at hx hl
  obtain ⟨g, hg⟩ : ∃ g, gs[gs.length - 1]? = some g := ⟨_, List.getElem?_eq_getElem hl⟩
  obtain ⟨p, h1, h2, _⟩ := h.val _ g hg
  obtain ⟨⟨p', h3, h4⟩, h5⟩ := h.last g hg
  rw [hx] at h1 h3
  obtain rfl := Option.some.inj h1
  obtain rfl := Option.some.inj h3
  exact ⟨g, hg, h2, h4, h5⟩
theorem gstep_join {g : Group} (hg : gs[gs.length - 1]? = some g) (ho : ordV g.v f.v = 0) : gstep gs f = gs.set (gs.length - 1) ⟨g.v, g.t ++ [f.t]⟩ := by
  unfold gstep; rw [hg]; simp [ho]
theorem gstep_new (h : gs.length = 0 ∨ ∃ g, gs[gs.length - 1]? = some g ∧ ordV g.v f.v ≠ 0) : gstep gs f = gs ++ [⟨f.v, [f.t]⟩] := by
  rcases h with h | ⟨g, hg, ho⟩
  · obtain rfl := List.length_eq_zero_iff.1 h; rfl
  · unfold gstep; rw [hg]; simp [ho]
theorem GRel.join {v2 : Value} (h : GRel G gs L u T) (hx : L[L.length - 1]? = some x) (ho : ordV x.1 f.v = 0) : GRel G (gstep gs f) (L.set (L.length - 1) (x.1, v2)) v2 (T ++ [f.t]) := by
  obtain ⟨g, hg, h1, h2, rfl⟩ := h.at hx
  have hl : gs.length - 1 < gs.length := (List.getElem?_eq_some_iff.1 hg).1
  rw [gstep_join hg (by rw [← h1]; exact ho)]
  refine ⟨by simp [h.len], fun i g' hg' => ?_, fun g' hg' => ?_⟩
  · rw [List.getElem?_set] at hg'
    rw [List.length_set]
    by_cases hi : gs.length - 1 = i
    · rw [if_pos hi, if_pos (by omega)] at hg'
      obtain rfl := Option.some.inj hg'
      refine ⟨(x.1, v2), ?_, h1, fun q => by omega⟩
      rw [List.getElem?_set, if_pos (by rw [h.len]; exact hi), if_pos (by rw [h.len]; omega)]
    · rw [if_neg hi] at hg'
      obtain ⟨p, k1, k2, k3⟩ := h.val i g' hg'
      exact ⟨p, by rw [List.getElem?_set, if_neg (by rw [h.len]; exact hi)]; exact k1, k2, k3⟩
  · rw [List.length_set, List.getElem?_set, if_pos rfl, if_pos hl] at hg'
    obtain rfl := Option.some.inj hg'
    refine ⟨⟨(x.1, v2), ?_, rfl⟩, rfl⟩
    rw [List.length_set, List.getElem?_set, if_pos (by rw [h.len]), if_pos (by rw [h.len]; omega)]
theorem GRel.done (h : GRel G gs L u T) (hf : Sl SpanE 16 G u T) : ∀ (i : Nat) g, gs[i]? = some g → ∃ p, L[i]? = some p ∧ p.1 = g.v ∧ Sl SpanE 16 G p.2 g.t := fun i g hg => by
  obtain ⟨p, h1, h2, h3⟩ := h.val i g hg
  refine ⟨p, h1, h2, ?_⟩
  have hi : i < gs.length := (List.getElem?_eq_some_iff.1 hg).1
  by_cases hq : i + 1 < gs.length
  · exact h3 hq
  · have e : i = gs.length - 1 := by omega
    subst e
    obtain ⟨⟨p', k1, k2⟩, k3⟩ := h.last g hg
    rw [h1] at k1; obtain rfl := Option.some.inj k1
    rw [k2, ← k3]; exact hf
theorem GRel.push {u' : Value} (h : GRel G gs L u T) (hf : Sl SpanE 16 G u T) (hc : L.length = 0 ∨ ∃ x, L[L.length - 1]? = some x ∧ ordV x.1 f.v ≠ 0) : GRel G (gstep gs f) (L ++ [(f.v, u')]) u' [f.t] := by
  have hc' : gs.length = 0 ∨ ∃ g, gs[gs.length - 1]? = some g ∧ ordV g.v f.v ≠ 0 := by
    rcases hc with hc | ⟨x, hx, ho⟩
    · exact .inl (by rw [← h.len]; exact hc)
    · obtain ⟨g, hg, h1, _⟩ := h.at hx
      exact .inr ⟨g, hg, by rw [← h1]; exact ho⟩
  rw [gstep_new hc']
  have hd := h.done hf
  refine ⟨by simp [h.len], fun i g hg => ?_, fun g hg => ?_⟩
  · rw [List.getElem?_append] at hg
    split at hg
    · rename_i hi
      obtain ⟨p, k1, k2, k3⟩ := hd i g hg
      exact ⟨p, by rw [List.getElem?_append, if_pos (by rw [h.len]; exact hi)]; exact k1, k2, fun _ => k3⟩
    · rename_i hi
      have hi2 : i - gs.length < [(⟨f.v, [f.t]⟩ : Group)].length := (List.getElem?_eq_some_iff.1 hg).1
      have e : i = gs.length := by simp at hi2; omega
      subst e
      simp at hg; subst hg
      exact ⟨(f.v, u'), by rw [← h.len]; simp, rfl, fun q => by simp at q⟩
  · simp at hg; subst hg
    exact ⟨⟨(f.v, u'), by simp [← h.len], rfl⟩, rfl⟩
theorem flat_groups {G : GH} : ∀ {L : List (List Val × Value)} {gs : List Group} {xs : List Value}, L.length = gs.length → (∀ (i : Nat) g, gs[i]? = some g → ∃ p, L[i]? = some p ∧ p.1 = g.v ∧ Sl SpanE 16 G p.2 g.t) → Flat GroupW G L xs → Flat GroupE G gs xs
  | [], [], _, _, _, h => h
  | [], _ :: _, _, h, _, _ => by simp at h
  | _ :: _, [], _, h, _, _ => by simp at h
  | p :: L, g :: gs, xs, hl, h, ⟨c, r, h1, ⟨v, h2, h3, h4⟩, h5⟩ => by
    obtain ⟨p', k1, k2, k3⟩ := h 0 g rfl
    simp at k1; subst k1
    refine ⟨c, r, h1, ?_, flat_groups (by simpa using hl) (fun i g hg => ?_) h5⟩
    · subst h2; exact GroupE_mk g (by rw [← k2]; exact h3) k3
    · obtain ⟨p', q1, q2⟩ := h (i + 1) g (by simpa using hg)
      exact ⟨p', by simpa using q1, q2⟩
theorem Row.groups {e : TypeId} {v : Value} {o : OB} (hr : Row GroupW 48 e G v L o) (hl : L.length = gs.length) (h : ∀ (i : Nat) g, gs[i]? = some g → ∃ p, L[i]? = some p ∧ p.1 = g.v ∧ Sl SpanE 16 G p.2 g.t) : Row GroupE 48 e G v gs o := by
  rcases hr with ⟨h1, h2, rfl⟩ | ⟨b, cs, cap, xs, h1, h2, h3, h4, h5, h6, h7, h8, h9⟩
  · refine .inl ⟨h1, h2, List.length_eq_zero_iff.1 (by simpa using hl.symm)⟩
  · exact .inr ⟨b, cs, cap, xs, h1, by rw [← hl]; exact h2, by rw [← hl]; exact h3, h4, h5, flat_groups hl h h6, by rw [← hl]; exact h7, by rw [← hl]; exact h8, by rw [← hl]; exact h9⟩
/-- A literal, as a row. -/
theorem Row.ofNew {α : Type} {E : Enc α} {by_ : Nat} {e : TypeId} {b : Nat} {cs : List Value} {l : List α} {n : Nat} (hf : Flat E G l cs) (hn : n = l.length) (h1 : n * by_ ≤ reach) (h2 : n ≤ reach) : Row E by_ e G (.slice (some ⟨b, 0, none⟩) n n) l (some (b, e, cs)) := by
  subst hn
  exact .inr ⟨b, cs, l.length, cs, rfl, rfl, Nat.le_refl _, by unfold reach at h2; unfold maxLen; omega, hf.len, hf, List.take_of_length_le (by rw [hf.len]; exact Nat.le_refl _), h1, h2⟩
end
theorem gstep_len (out : List Group) (f : Fact) : (gstep out f).length ≤ out.length + 1 := by
  unfold gstep; split
  · simp
  · split <;> simp
theorem groupL_len (l : List Fact) : (groupL l).length ≤ l.length := by
  have : ∀ (l : List Fact) (out : List Group), (l.foldl gstep out).length ≤ out.length + l.length := by
    intro l
    induction l with
    | nil => simp
    | cons x l ih => intro out; have := ih (gstep out x); have := gstep_len out x; simp; omega
  have := this l []; simpa [groupL] using this
/-- What the sort leaves, grouped. -/
theorem grp_of {l s : List Fact} (hg : Good l) (hp : s.Perm l) (hs : AscV s) : cgroups (groupL s) = grp l := by
  have hm := sortF_asc l
  exact cgroups_unique (groupL_inv _ s rfl (fun f hf => (hg f (hp.mem_iff.1 hf)).1) hs) (groupL_inv _ _ rfl (fun f hf => (hg f ((sortF_perm l).mem_iff.1 hf)).1) hm) (hp.trans (sortF_perm l).symm) (hg.perm hp)
/-- What the stable sort's contract says is ascending. -/
theorem ins_asc {l s : List Fact} {pf : Fact → Fact → Int} (hg : Good l) (h : Ins pf l s 0 l.length l.length) (hpf : ∀ x y, pf x y = ordV x.v y.v) : AscV s := by
  refine ascV_of (hg.perm h.perm) ?_
  rw [List.pairwise_iff_getElem]
  intro i j hi hj hij
  have := h.asc i j s[i] s[j] (Nat.zero_le _) hij (by rw [← h.perm.length_eq]; exact hj) (List.getElem?_eq_getElem hi) (List.getElem?_eq_getElem hj)
  rwa [hpf] at this
theorem ordV_A {l : List Fact} (hg : Good l) : ∀ x ∈ l, ∀ y ∈ l, ordV x.v y.v < 0 → ¬ ordV y.v x.v < 0 := fun x hx y hy h => by
  rw [ordV_valid (hg x hx).1 (hg y hy).1] at h; rw [ordV_valid (hg y hy).1 (hg x hx).1]; exact ord.asym h
theorem ordV_T {l : List Fact} (hg : Good l) : ∀ x ∈ l, ∀ y ∈ l, ∀ z ∈ l, ¬ ordV y.v x.v < 0 → ¬ ordV z.v y.v < 0 → ¬ ordV z.v x.v < 0 := fun x hx y hy z hz => by
  rw [ordV_valid (hg y hy).1 (hg x hx).1, ordV_valid (hg z hz).1 (hg y hy).1, ordV_valid (hg z hz).1 (hg x hx).1]; exact ord.le_trans
def cg (g : Group) : Group := ⟨g.v, canon g.t⟩
def cgs (gs : List Group) (k : Nat) : List Group := (gs.take k).map cg ++ gs.drop k
theorem cgs_zero (gs : List Group) : cgs gs 0 = gs := by simp [cgs]
theorem cgs_len (gs : List Group) (k : Nat) : (cgs gs k).length = gs.length := by simp [cgs]; omega
theorem cgs_at {gs : List Group} {k : Nat} {x : Group} (h : (cgs gs k)[k]? = some x) : gs[k]? = some x := by
  have hk : k < gs.length := by have := (List.getElem?_eq_some_iff.1 h).1; rwa [cgs_len] at this
  have e : ((gs.take k).map cg).length = k := by simp; omega
  unfold cgs at h
  rw [List.getElem?_append_right (by omega), e] at h
  simpa using h
theorem cgs_step {gs : List Group} {k : Nat} {x : Group} (h : (cgs gs k)[k]? = some x) : (cgs gs k).set k ⟨x.v, canon x.t⟩ = cgs gs (k + 1) := by
  have hg := cgs_at h
  have hk : k < gs.length := (List.getElem?_eq_some_iff.1 hg).1
  have e : ((gs.take k).map cg).length = k := by simp; omega
  unfold cgs
  rw [List.set_append_right _ _ (by omega), e, Nat.sub_self, List.drop_eq_getElem_cons hk, List.set_cons_zero, List.take_add_one, hg]
  rw [List.getElem?_eq_getElem hk] at hg
  simp [cg]
theorem cgs_all {gs : List Group} {k : Nat} (h : gs.length ≤ k) : cgs gs k = cgroups gs := by
  unfold cgs cgroups
  rw [List.take_of_length_le h, List.drop_eq_nil_of_le h]; simp [cg]
theorem groupL_times {l s : List Fact} (hg : Good l) (hp : s.Perm l) (hs : AscV s) : ∀ g ∈ groupL s, ∀ t ∈ g.t, spanB t = true := fun g h t ht => by
  have hi := groupL_inv _ s rfl (fun f hf => (hg f (hp.mem_iff.1 hf)).1) hs
  rw [hi.times g h] at ht
  obtain ⟨f, hf, rfl⟩ := List.mem_map.1 ht
  exact (hg f (hp.mem_iff.1 (List.mem_filter.1 hf).1)).2
end Go.Civ
