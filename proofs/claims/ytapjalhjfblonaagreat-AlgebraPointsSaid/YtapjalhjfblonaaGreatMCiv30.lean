/- The laws of sets, by what holds when. -/
import Derived.Test.YtapjalhjfblonaaGreatMCiv29
namespace Go.Civ
open Go.RowKit
set_option linter.unusedVariables false

def VK (K : List Int) (l : List Fact) : Prop := ∀ f ∈ l, spanB f.t = true ∧ f.v.length ≤ 8 ∧ f.v.map Val.k = K ∧ f.v.all valB = true
theorem VK.good {K : List Int} {l : List Fact} (h : VK K l) : Good l := fun f hf => ⟨(h f hf).2.2.2, (h f hf).1⟩
theorem vk_of {l : List Fact} (h : validB l = true) : VK ((headV l).map Val.k) l := fun f hf => by
  have hg := good_of_valid h f hf
  have hl := valid_len h hf
  exact ⟨hg.2, by omega, fact_kinds h hf, hg.1⟩
theorem VK.valid {K : List Int} {l : List Fact} (h : VK K l) (hn : l.length ≤ 1000) : validB l = true := by
  unfold validB
  simp only [Bool.and_eq_true, List.all_eq_true, decide_eq_true_eq]
  refine ⟨hn, fun f hf => ?_⟩
  obtain ⟨f0, hf0, e0⟩ := headV_mem (List.length_pos_of_mem hf)
  have q5 : kindsB f.v (headV l) = true := kinds_map.2 (by rw [e0, (h f hf).2.2.1, (h f0 hf0).2.2.1])
  unfold headV at q5
  obtain ⟨h1, h2, h3, h4⟩ := h f hf
  unfold factB
  rw [h1, decide_eq_true h2, q5, h4]; rfl
theorem VK.nf {K : List Int} {l : List Fact} (h : VK K l) : VK K (nf l) := fun f hf => by
  obtain ⟨k, hk, e⟩ := nf_vals h.good hf
  have := h k hk
  rw [e] at this
  exact ⟨(nf_good h.good f hf).2, this.2.1, this.2.2.1, this.2.2.2⟩
theorem vk_pair {a b : List Fact} (h : pairE a b = 0) : ∃ K, VK K a ∧ VK K b := by
  obtain ⟨ha, hb⟩ := pairE_valid h
  by_cases qa : 0 < a.length
  · by_cases qb : 0 < b.length
    · unfold pairE at h
      rw [ha, hb, decide_eq_true qa, decide_eq_true qb] at h
      have hk : kindsB (headV a) (headV b) = true := by
        cases q : kindsB (headV a) (headV b) with
        | true => rfl
        | false => rw [q] at h; simp at h
      refine ⟨_, vk_of ha, ?_⟩
      rw [kinds_map.1 hk]; exact vk_of hb
    · have : b = [] := List.length_eq_zero_iff.1 (by omega)
      subst this
      exact ⟨_, vk_of ha, fun f hf => by simp at hf⟩
  · have : a = [] := List.length_eq_zero_iff.1 (by omega)
    subst this
    exact ⟨_, fun f hf => by simp at hf, vk_of hb⟩
/-- What holds when. -/
def CV (l : List Fact) (v : List Val) (t : Int) : Prop := cover (timesOf l v) t
def inD (s : Span) (t : Int) : Prop := s.a ≤ t ∧ t < s.b
theorem cv_iff {l : List Fact} {v : List Val} {t : Int} : CV l v t ↔ ∃ f ∈ l, f.v = v ∧ inD f.t t := cover_times
/-- A normal form that is valid. -/
structure NR (l : List Fact) : Prop where
  valid : validB l = true
  nf : nf l = l
theorem NR.ext {l l' : List Fact} (h : NR l) (h' : NR l') (hc : ∀ v t, CV l v t ↔ CV l' v t) : l = l' := by
  have g := good_of_valid h.valid
  have g' := good_of_valid h'.valid
  rw [← h.nf, ← h'.nf]
  refine nf_congr g g' (fun v => ?_) hc
  constructor
  · rintro ⟨f, hf, rfl⟩
    have hp := spanB_pos (g f hf).2
    obtain ⟨k, hk, e, _⟩ := cv_iff.1 ((hc f.v f.t.a).1 (cv_iff.2 ⟨f, hf, rfl, by omega, hp⟩))
    exact ⟨k, hk, e⟩
  · rintro ⟨f, hf, rfl⟩
    have hp := spanB_pos (g' f hf).2
    obtain ⟨k, hk, e, _⟩ := cv_iff.1 ((hc f.v f.t.a).2 (cv_iff.2 ⟨f, hf, rfl, by omega, hp⟩))
    exact ⟨k, hk, e⟩
theorem NR.equal {l : List Fact} (h : NR l) : equalB l l = true := by
  unfold equalB; rw [(norm_valid h.valid (valid_le h.valid)).2]; simp
theorem cv_nf {l : List Fact} (h : Good l) {v : List Val} {t : Int} : CV (nf l) v t ↔ CV l v t := by unfold CV; rw [times_nf h, (canT h v).cov]
theorem fin_R {K : List Int} {l : List Fact} (h : VK K l) (he : finE l = 0) : NR (finL l) ∧ ∀ v t, CV (finL l) v t ↔ CV l v t := by
  unfold finE at he
  by_cases q : fitB (nf l) = true
  · have e : finL l = nf l := by unfold finL; rw [if_pos q]
    rw [e]
    refine ⟨⟨h.nf.valid ?_, nf_nf h.good⟩, fun v t => cv_nf h.good⟩
    unfold fitB at q
    simp only [Bool.and_eq_true, decide_eq_true_eq] at q
    exact q.1
  · rw [if_neg q] at he; omega
theorem union_R {a b : List Fact} (h : unionE a b = 0) : NR (unionL a b) ∧ ∀ v t, CV (unionL a b) v t ↔ CV a v t ∨ CV b v t := by
  unfold unionE at h
  by_cases q : pairE a b = 0
  · rw [if_pos q] at h
    obtain ⟨K, ha, hb⟩ := vk_pair q
    have hk : VK K (a ++ b) := fun f hf => by
      rcases List.mem_append.1 hf with k | k
      · exact ha f k
      · exact hb f k
    have := fin_R hk h
    have e : unionL a b = finL (a ++ b) := by unfold unionL; rw [if_pos q]
    rw [e]
    refine ⟨this.1, fun v t => ?_⟩
    rw [this.2, cv_iff, cv_iff, cv_iff]
    simp only [List.mem_append]
    constructor
    · rintro ⟨f, k | k, r⟩
      · exact .inl ⟨f, k, r⟩
      · exact .inr ⟨f, k, r⟩
    · rintro (⟨f, k, r⟩ | ⟨f, k, r⟩)
      · exact ⟨f, .inl k, r⟩
      · exact ⟨f, .inr k, r⟩
  · rw [if_neg q] at h; exact absurd h q
theorem cv_rex {a b : List Fact} (ha : Good a) (hb : Good b) {v : List Val} {t : Int} : CV (rexF a b) v t ↔ CV a v t ∧ ¬ CV b v t := by
  have e : rexF a b = runsF (vals a) fun v => combR 3 (canon (timesOf a v)) (canon (timesOf b v)) := rfl
  unfold CV
  rw [e, timesOf_runs (vals_inv _ a rfl).1]
  have c1 := canT ha v
  have c2 := canT hb v
  by_cases hv : v ∈ vals a
  · rw [if_pos hv, (combR_inv (kind := 3) rfl c1.can.pos c2.can.pos).2, ← c1.cov, ← c2.cov, ← inR_iff, ← inR_iff]
    generalize inR (canon (timesOf a v)) t = p
    generalize inR (canon (timesOf b v)) t = q
    cases p <;> cases q <;> simp [keepB]
  · rw [if_neg hv]
    constructor
    · rintro ⟨s, hs, _⟩; simp at hs
    · rintro ⟨⟨s, hs, _⟩, _⟩
      unfold timesOf at hs
      obtain ⟨f, hf, _⟩ := List.mem_map.1 hs
      obtain ⟨h1, h2⟩ := List.mem_filter.1 hf
      exact absurd (((vals_inv _ a rfl).2.1 v).2 ⟨f, h1, of_decide_eq_true h2⟩) hv
theorem exc_R {a b : List Fact} (h : excE a b = 0) : NR (excL a b) ∧ ∀ v t, CV (excL a b) v t ↔ CV a v t ∧ ¬ CV b v t := by
  unfold excE at h
  by_cases q : pairE a b = 0
  · rw [if_pos q] at h
    by_cases f : fitB (listedL (exG a b)) = true
    · obtain ⟨K, ha, hb⟩ := vk_pair q
      have e : excL a b = rexF a b := by unfold excL; rw [if_pos ⟨q, f⟩, exF_is ha.good hb.good]
      rw [exF_is ha.good hb.good] at f
      have hg := rexF_good ha.good hb.good
      have hk : VK K (rexF a b) := fun g hgm => by
        have hs := hg g hgm
        unfold rexF at hgm
        obtain ⟨v, hv, r⟩ := List.mem_flatMap.1 hgm
        obtain ⟨s, hs2, rfl⟩ := List.mem_map.1 r
        obtain ⟨k, hk, rfl⟩ := ((vals_inv _ a rfl).2.1 v).1 hv
        exact ⟨hs.2, (ha k hk).2⟩
      rw [e]
      refine ⟨⟨hk.valid ?_, by rw [← rnf_nf hg]; exact rnf_rexF ha.good hb.good⟩, fun v t => cv_rex ha.good hb.good⟩
      unfold fitB at f
      simp only [Bool.and_eq_true, decide_eq_true_eq] at f
      exact f.1
    · rw [if_neg f] at h; omega
  · rw [if_neg q] at h; exact absurd h q
theorem dur_R {l : List Fact} {s : Span} (h : durE l s = 0) : NR (durL l s) ∧ ∀ v t, CV (durL l s) v t ↔ CV l v t ∧ inD s t := by
  unfold durE at h
  by_cases q : (validB l && spanB s) = true
  · rw [if_pos q] at h
    have e : durL l s = finL (duringF l s) := by unfold durL; rw [if_pos q]
    simp only [Bool.and_eq_true] at q
    have hv := vk_of q.1
    have hgd := duringF_good (s := s) hv.good
    have hk : VK ((headV l).map Val.k) (duringF l s) := fun f hf => by
      have hs := hgd f hf
      obtain ⟨g, hg, _, rfl⟩ := duringF_mem hf
      exact ⟨hs.2, (hv g hg).2⟩
    have := fin_R hk h
    rw [e]
    refine ⟨this.1, fun v t => ?_⟩
    rw [this.2, cv_iff, cv_iff]
    constructor
    · rintro ⟨f, hf, h0, h1, h2⟩
      obtain ⟨g, hg, hm, rfl⟩ := duringF_mem hf
      unfold meetS at h1 h2
      rw [hm] at h1 h2
      simp only [if_true] at h1 h2
      exact ⟨⟨g, hg, h0, by omega, by omega⟩, by omega, by omega⟩
    · rintro ⟨⟨f, hf, h0, h1, h2⟩, h3, h4⟩
      have hm : meetB f.t s = true := by
        unfold meetB
        rw [spanB_V (hv f hf).1, spanB_V q.2, decide_eq_true (by omega)]; rfl
      refine ⟨⟨f.v, meetS f.t s⟩, ?_, h0, ?_, ?_⟩
      · unfold duringF
        exact List.mem_flatMap.2 ⟨f, hf, by rw [hm]; simp⟩
      · show (meetS f.t s).a ≤ t
        unfold meetS; rw [hm]; simp only [if_true]; omega
      · show t < (meetS f.t s).b
        unfold meetS; rw [hm]; simp only [if_true]; omega
  · rw [if_neg q] at h; omega

/-! a pair of lists, in cells -/
def FFE : Enc (List Fact × List Fact) := Enc.pair (FactE.slice 40) (FactE.slice 40)
theorem FFE_open {G : GH} {cs : List Value} {x : List Fact × List Fact} (h : FFE.rep G x cs) : ∃ v t, cs = [v, t] ∧ Sl FactE 40 G v x.1 ∧ Sl FactE 40 G t x.2 := by
  obtain ⟨c1, c2, rfl, ⟨v, rfl, h1⟩, t, rfl, h2⟩ := h
  exact ⟨v, t, rfl, h1, h2⟩
theorem FFE_mk {G : GH} (x : List Fact × List Fact) {v t : Value} (h1 : Sl FactE 40 G v x.1) (h2 : Sl FactE 40 G t x.2) : FFE.rep G x [v, t] := ⟨[v], [t], rfl, ⟨v, rfl, h1⟩, t, rfl, h2⟩
/-! the seven laws -/
def lawsL (a b c : List Fact) (s : Span) : List (List Fact × List Fact) :=
  [(unionL a b, unionL b a), (unionL (unionL a b) c, unionL a (unionL b c)), (excL (excL a b) c, excL a (unionL b c)), (excL (unionL a b) c, unionL (excL a c) (excL b c)),
   (unionL (excL a b) (excL a (excL a b)), unionL a a), (durL (unionL a b) s, unionL (durL a s) (durL b s)), (durL (excL a b) s, excL (durL a s) (durL b s))]
def lawsE (a b c : List Fact) (s : Span) : List Int :=
  [unionE a b, unionE b a, unionE a b, unionE (unionL a b) c, unionE b c, unionE a (unionL b c), excE a b, excE (excL a b) c, unionE b c, excE a (unionL b c),
   unionE a b, excE (unionL a b) c, excE a c, excE b c, unionE (excL a c) (excL b c), excE a b, excE a b, excE a (excL a b), unionE (excL a b) (excL a (excL a b)), unionE a a,
   unionE a b, durE (unionL a b) s, durE a s, durE b s, unionE (durL a s) (durL b s), excE a b, durE (excL a b) s, durE a s, durE b s, excE (durL a s) (durL b s)]
def okL (l : List Int) : Bool := l.foldl (fun x e => x && decide (e = 0)) true
theorem okL_foldl {l : List Int} : ∀ {x : Bool}, l.foldl (fun x e => x && decide (e = 0)) x = true → x = true ∧ ∀ e ∈ l, e = 0 := by
  induction l with
  | nil => intro x h; exact ⟨h, fun e he => by simp at he⟩
  | cons y l ih =>
    intro x h
    obtain ⟨h1, h2⟩ := ih h
    simp only [Bool.and_eq_true, decide_eq_true_eq] at h1
    exact ⟨h1.1, fun e he => by rcases List.mem_cons.1 he with rfl | he; exact h1.2; exact h2 e he⟩
theorem pair_R {x y : List Fact} (hx : NR x) (hy : NR y) (hc : ∀ v t, CV x v t ↔ CV y v t) : x = y ∧ equalB x y = true := by
  obtain rfl := hx.ext hy hc
  exact ⟨rfl, hx.equal⟩
theorem laws_all {a b c : List Fact} {s : Span} (h : okL (lawsE a b c s) = true) : ∀ x ∈ lawsL a b c s, x.1 = x.2 ∧ equalB x.1 x.2 = true := by
  have hz := (okL_foldl h).2
  have z : ∀ e, e ∈ lawsE a b c s → e = 0 := hz
  have ab := union_R (z (unionE a b) (by simp [lawsE]))
  have ba := union_R (z (unionE b a) (by simp [lawsE]))
  have abc := union_R (z (unionE (unionL a b) c) (by simp [lawsE]))
  have bc := union_R (z (unionE b c) (by simp [lawsE]))
  have abc2 := union_R (z (unionE a (unionL b c)) (by simp [lawsE]))
  have mab := exc_R (z (excE a b) (by simp [lawsE]))
  have mabc := exc_R (z (excE (excL a b) c) (by simp [lawsE]))
  have mabc2 := exc_R (z (excE a (unionL b c)) (by simp [lawsE]))
  have uabc := exc_R (z (excE (unionL a b) c) (by simp [lawsE]))
  have mac := exc_R (z (excE a c) (by simp [lawsE]))
  have mbc := exc_R (z (excE b c) (by simp [lawsE]))
  have umm := union_R (z (unionE (excL a c) (excL b c)) (by simp [lawsE]))
  have mam := exc_R (z (excE a (excL a b)) (by simp [lawsE]))
  have umam := union_R (z (unionE (excL a b) (excL a (excL a b))) (by simp [lawsE]))
  have aa := union_R (z (unionE a a) (by simp [lawsE]))
  have dab := dur_R (z (durE (unionL a b) s) (by simp [lawsE]))
  have da := dur_R (z (durE a s) (by simp [lawsE]))
  have db := dur_R (z (durE b s) (by simp [lawsE]))
  have udd := union_R (z (unionE (durL a s) (durL b s)) (by simp [lawsE]))
  have dm := dur_R (z (durE (excL a b) s) (by simp [lawsE]))
  have mdd := exc_R (z (excE (durL a s) (durL b s)) (by simp [lawsE]))
  intro x hx
  simp only [lawsL, List.mem_cons, List.not_mem_nil, or_false] at hx
  rcases hx with rfl | rfl | rfl | rfl | rfl | rfl | rfl
  · exact pair_R ab.1 ba.1 fun v t => by rw [ab.2, ba.2]; exact Or.comm
  · exact pair_R abc.1 abc2.1 fun v t => by rw [abc.2, abc2.2, ab.2, bc.2]; exact or_assoc
  · exact pair_R mabc.1 mabc2.1 fun v t => by rw [mabc.2, mabc2.2, mab.2, bc.2, not_or]; exact and_assoc
  · exact pair_R uabc.1 umm.1 fun v t => by rw [uabc.2, umm.2, ab.2, mac.2, mbc.2]; exact or_and_right
  · exact pair_R umam.1 aa.1 fun v t => by
      rw [umam.2, aa.2, mam.2, mab.2]
      by_cases h1 : CV a v t <;> by_cases h2 : CV b v t <;> simp [h1, h2]
  · exact pair_R dab.1 udd.1 fun v t => by rw [dab.2, udd.2, da.2, db.2, ab.2]; exact or_and_right
  · exact pair_R dm.1 mdd.1 fun v t => by
      rw [dm.2, mdd.2, da.2, db.2, mab.2]
      by_cases h1 : CV a v t <;> by_cases h2 : CV b v t <;> by_cases h3 : inD s t <;> simp [h1, h2, h3]
end Go.Civ
