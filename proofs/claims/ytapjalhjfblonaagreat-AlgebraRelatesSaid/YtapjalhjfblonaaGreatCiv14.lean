/- The order of values, and groups of facts. -/
import Derived.Test.YtapjalhjfblonaaGreatCiv13
namespace Go.Civ
set_option linter.unusedVariables false

/-- A comparison that is a total order. -/
structure TOrd {α : Type} (c : α → α → Int) : Prop where
  eq : ∀ x y, c x y = 0 ↔ x = y
  swap : ∀ x y, c x y < 0 ↔ 0 < c y x
  trans : ∀ x y z, c x y < 0 → c y z < 0 → c x z < 0
theorem TOrd.refl {α : Type} {c : α → α → Int} (h : TOrd c) (x : α) : c x x = 0 := (h.eq x x).2 rfl
theorem TOrd.asym {α : Type} {c : α → α → Int} (h : TOrd c) {x y : α} (k : c x y < 0) : ¬ c y x < 0 := by have := (h.swap x y).1 k; omega
theorem TOrd.le_trans {α : Type} {c : α → α → Int} (h : TOrd c) {x y z : α} (h1 : ¬ c y x < 0) (h2 : ¬ c z y < 0) : ¬ c z x < 0 := fun k => by
  -- z < x; x ≤ y; y ≤ z
  by_cases e : c x y = 0
  · obtain rfl := (h.eq x y).1 e; exact h2 k
  · have hxy : c x y < 0 := by
      rcases Int.lt_or_le (c x y) 0 with q | q
      · exact q
      · exact absurd ((h.swap y x).2 (by omega)) h1
    exact h2 (h.trans z x y k hxy)
theorem sgn_ord : TOrd sgn where
  eq x y := by unfold sgn; split <;> (try split) <;> omega
  swap x y := by unfold sgn; repeat' split
                 all_goals omega
  trans x y z := by unfold sgn; repeat' split
                    all_goals omega
theorem bl_irrefl : ∀ a : List UInt8, Op.bytesLess a a = false
  | [] => rfl
  | x :: a => by simp [Op.bytesLess, bl_irrefl a]
theorem bl_total : ∀ a b : List UInt8, Op.bytesLess a b = false → a = b ∨ Op.bytesLess b a = true
  | [], [], _ => .inl rfl
  | [], _ :: _, h => by simp [Op.bytesLess] at h
  | _ :: _, [], _ => .inr rfl
  | x :: a, y :: b, h => by
    simp only [Op.bytesLess, Bool.or_eq_false_iff, Bool.and_eq_false_iff, decide_eq_false_iff_not] at h
    by_cases e : x = y
    · subst e
      rcases bl_total a b (by simpa using h.2) with rfl | k
      · exact .inl rfl
      · exact .inr (by simp [Op.bytesLess, k])
    · refine .inr ?_
      have : y < x := by
        have h1 := h.1
        rw [UInt8.lt_iff_toNat_lt] at h1 ⊢
        have : x.toNat ≠ y.toNat := fun q => e (UInt8.toNat_inj.1 q)
        omega
      simp [Op.bytesLess, this]
theorem bl_trans : ∀ a b c : List UInt8, Op.bytesLess a b = true → Op.bytesLess b c = true → Op.bytesLess a c = true
  | _, [], _, h, _ => by cases ‹List UInt8› <;> simp [Op.bytesLess] at h
  | _, _ :: _, [], _, h => by simp [Op.bytesLess] at h
  | [], _ :: _, _ :: _, _, _ => rfl
  | x :: a, y :: b, z :: c, h1, h2 => by
    simp only [Op.bytesLess, Bool.or_eq_true, Bool.and_eq_true, decide_eq_true_eq, beq_iff_eq] at h1 h2 ⊢
    rcases h1 with h1 | ⟨rfl, h1⟩ <;> rcases h2 with h2 | ⟨rfl, h2⟩
    · left; rw [UInt8.lt_iff_toNat_lt] at *; omega
    · exact .inl h1
    · exact .inl h2
    · exact .inr ⟨rfl, bl_trans a b c h1 h2⟩
theorem bl_asym {a b : List UInt8} (h : Op.bytesLess a b = true) : Op.bytesLess b a = false := by
  cases k : Op.bytesLess b a with
  | false => rfl
  | true => have := bl_trans a b a h k; rw [bl_irrefl] at this; cases this
theorem cmpS_lt {a b : List UInt8} : cmpS a b < 0 ↔ Op.bytesLess a b = true := by
  unfold cmpS; split
  · simp [*]
  · split
    · rename_i h; subst h; simp [bl_irrefl]
    · simp [*]
theorem cmpS_ord : TOrd cmpS where
  eq x y := by
    unfold cmpS; split
    · rename_i h; simp; rintro rfl; rw [bl_irrefl] at h; cases h
    · split <;> simp [*]
  swap x y := by
    rw [cmpS_lt]
    constructor
    · intro h
      unfold cmpS
      rw [bl_asym h, if_neg (by simp), if_neg]
      · decide
      · rintro rfl; rw [bl_irrefl] at h; cases h
    · unfold cmpS
      intro h
      cases k : Op.bytesLess x y with
      | true => rfl
      | false =>
        rcases bl_total x y k with rfl | q
        · rw [bl_irrefl] at h; simp at h
        · rw [q] at h; simp at h
  trans x y z h1 h2 := by rw [cmpS_lt] at *; exact bl_trans x y z h1 h2
/-- One comparison, and then another. -/
theorem TOrd.lex {α β γ : Type} {f : γ → α} {g : γ → β} {c : α → α → Int} {d : β → β → Int} (hc : TOrd c) (hd : TOrd d) (inj : ∀ x y, f x = f y → g x = g y → x = y) :
    TOrd fun x y => if c (f x) (f y) ≠ 0 then c (f x) (f y) else d (g x) (g y) where
  eq x y := by
    by_cases h : c (f x) (f y) = 0
    · simp only [h]; simp only [ne_eq, not_true, if_false]
      rw [hd.eq]
      exact ⟨fun k => inj x y ((hc.eq _ _).1 h) k, fun k => by rw [k]⟩
    · simp only [ne_eq, h, not_false_iff, if_true, false_iff]
      rintro rfl; exact h (hc.refl _)
  swap x y := by
    by_cases h : c (f x) (f y) = 0
    · have h' : c (f y) (f x) = 0 := (hc.eq _ _).2 ((hc.eq _ _).1 h).symm
      simp only [h, h']; simp only [ne_eq, not_true, if_false]; exact hd.swap _ _
    · have h' : c (f y) (f x) ≠ 0 := fun k => h ((hc.eq _ _).2 ((hc.eq _ _).1 k).symm)
      simp only [ne_eq, h, h', not_false_iff, if_true]; exact hc.swap _ _
  trans x y z := by
    by_cases h1 : c (f x) (f y) = 0
    · have e1 := (hc.eq _ _).1 h1
      simp only [h1]; simp only [ne_eq, not_true, if_false, e1]
      by_cases h2 : c (f y) (f z) = 0
      · simp only [h2]; simp only [not_true, if_false]; exact hd.trans _ _ _
      · simp only [h2, not_false_iff, if_true]; exact fun _ k => k
    · by_cases h2 : c (f y) (f z) = 0
      · have e2 := (hc.eq _ _).1 h2
        simp only [ne_eq, h1, h2, not_false_iff, if_true]; simp only [not_true, if_false, ← e2, h1, not_false_iff, if_true]
        exact fun k _ => k
      · simp only [ne_eq, h1, h2, not_false_iff, if_true]
        intro k1 k2
        have k3 := hc.trans _ _ _ k1 k2
        rw [if_pos (by omega)]; exact k3
def cmpNS (x y : Int × List UInt8) : Int := if sgn x.1 y.1 ≠ 0 then sgn x.1 y.1 else cmpS x.2 y.2
theorem cmpNS_ord : TOrd cmpNS := TOrd.lex (f := Prod.fst) (g := Prod.snd) sgn_ord cmpS_ord fun x y h1 h2 => Prod.ext h1 h2
theorem cmpV_ord : TOrd cmpV :=
  TOrd.lex (f := Val.k) (g := fun x : Val => (x.n, x.s)) sgn_ord cmpNS_ord fun x y h1 h2 => by
    cases x; cases y; simp at h1 h2; simp [h1, h2]
theorem cmpL_ord {α : Type} {c : α → α → Int} (h : TOrd c) : TOrd (cmpL c) where
  eq x y := by
    induction x generalizing y with
    | nil => cases y <;> simp [cmpL]
    | cons a x ih =>
      cases y with
      | nil => simp [cmpL]
      | cons b y =>
        simp only [cmpL]
        by_cases e : c a b = 0
        · obtain rfl := (h.eq a b).1 e
          simp only [e]; simp only [ne_eq, not_true, if_false, List.cons.injEq, true_and]; exact ih y
        · simp only [ne_eq, e, not_false_iff, if_true, List.cons.injEq, false_iff]
          rintro ⟨rfl, _⟩; exact e (h.refl _)
  swap x y := by
    induction x generalizing y with
    | nil => cases y <;> simp [cmpL]
    | cons a x ih =>
      cases y with
      | nil => simp [cmpL]
      | cons b y =>
        simp only [cmpL]
        by_cases e : c a b = 0
        · obtain rfl := (h.eq a b).1 e
          simp only [e]; simp only [ne_eq, not_true, if_false]; exact ih y
        · have e' : c b a ≠ 0 := fun k => e ((h.eq _ _).2 ((h.eq _ _).1 k).symm)
          simp only [ne_eq, e, e', not_false_iff, if_true]; exact h.swap a b
  trans x y z := by
    induction x generalizing y z with
    | nil => cases y <;> cases z <;> simp [cmpL]
    | cons a x ih =>
      cases y with
      | nil => simp [cmpL]
      | cons b y =>
        cases z with
        | nil => simp [cmpL]
        | cons d z =>
          simp only [cmpL]
          by_cases e1 : c a b = 0
          · obtain rfl := (h.eq a b).1 e1
            simp only [e1]; simp only [ne_eq, not_true, if_false]
            by_cases e2 : c a d = 0
            · simp only [e2]; simp only [not_true, if_false]; exact ih y z
            · simp only [e2, not_false_iff, if_true]; exact fun _ k => k
          · by_cases e2 : c b d = 0
            · obtain rfl := (h.eq b d).1 e2
              simp only [ne_eq, e1, not_false_iff, if_true]; exact fun k _ => k
            · simp only [ne_eq, e1, e2, not_false_iff, if_true]
              intro k1 k2
              have k3 := h.trans _ _ _ k1 k2
              rw [if_pos (by omega)]; exact k3
theorem ord : TOrd (cmpL cmpV) := cmpL_ord cmpV_ord
theorem ordV_valid {a b : List Val} (ha : a.all valB = true) (hb : b.all valB = true) : ordV a b = cmpL cmpV a b := by unfold ordV; simp [ha, hb]

/-! ### Groups -/
def gstep (out : List Group) (f : Fact) : List Group :=
  match out[out.length - 1]? with
  | none => out ++ [⟨f.v, [f.t]⟩]
  | some g => if ordV g.v f.v = 0 then out.set (out.length - 1) ⟨g.v, g.t ++ [f.t]⟩ else out ++ [⟨f.v, [f.t]⟩]
def groupL (l : List Fact) : List Group := l.foldl gstep []
def sortF (l : List Fact) : List Fact := l.mergeSort fun x y => decide (cmpL cmpV x.v y.v ≤ 0)
def cgroups (l : List Group) : List Group := l.map fun g => ⟨g.v, canon g.t⟩
def listedL (l : List Group) : List Fact := l.flatMap fun g => g.t.map fun s => ⟨g.v, s⟩
/-- The groups of facts, with canonical times. -/
def grp (l : List Fact) : List Group := cgroups (groupL (sortF l))
/-- The normal form of facts. -/
def nf (l : List Fact) : List Fact := listedL (grp l)
def Good (l : List Fact) : Prop := ∀ f ∈ l, f.v.all valB = true ∧ spanB f.t = true

theorem gstep_last (out : List Group) (g : Group) (f : Fact) : gstep (out ++ [g]) f = if ordV g.v f.v = 0 then out ++ [⟨g.v, g.t ++ [f.t]⟩] else out ++ [g] ++ [⟨f.v, [f.t]⟩] := by
  unfold gstep
  have e : (out ++ [g]).length - 1 = out.length := by simp
  rw [e, List.getElem?_append_right (Nat.le_refl _)]
  simp only [Nat.sub_self, List.getElem?_cons_zero]
  split
  · rw [List.set_append_right _ _ (Nat.le_refl _)]; simp
  · rfl
theorem groupL_snoc (l : List Fact) (f : Fact) : groupL (l ++ [f]) = gstep (groupL l) f := by simp [groupL, List.foldl_append]
theorem groupL_take {l : List Fact} {k : Nat} {f : Fact} (h : l[k]? = some f) : groupL (l.take (k + 1)) = gstep (groupL (l.take k)) f := by
  rw [List.take_add_one, h]; exact groupL_snoc _ _
/-- What groups of facts are. -/
structure GInv (l : List Fact) (out : List Group) : Prop where
  inc : out.Pairwise fun g h => cmpL cmpV g.v h.v < 0
  times : ∀ g ∈ out, g.t = (l.filter fun f => decide (f.v = g.v)).map Fact.t
  mem : ∀ v, (∃ g ∈ out, g.v = v) ↔ ∃ f ∈ l, f.v = v
def AscV (l : List Fact) : Prop := l.Pairwise fun x y => ¬ cmpL cmpV y.v x.v < 0
theorem groupL_inv : ∀ (n : Nat) (l : List Fact), l.length = n → (∀ f ∈ l, f.v.all valB = true) → AscV l → GInv l (groupL l)
  | 0, l, hn, _, _ => by
    obtain rfl := List.length_eq_zero_iff.1 hn
    exact ⟨List.Pairwise.nil, by simp [groupL], by simp [groupL]⟩
  | n + 1, l, hn, hv, hs => by
    obtain ⟨p, x, rfl⟩ : ∃ p x, l = p ++ [x] := by
      rcases List.eq_nil_or_concat l with rfl | ⟨p, x, h⟩
      · simp at hn
      · exact ⟨p, x, by simpa using h⟩
    have hs' := List.pairwise_append.1 hs
    have ih := groupL_inv n p (by simpa using hn) (fun f hf => hv f (by simp [hf])) hs'.1
    have hx : x.v.all valB = true := hv x (by simp)
    rw [groupL_snoc]
    rcases List.eq_nil_or_concat (groupL p) with h0 | ⟨o, q, h0⟩
    · rw [h0] at ih ⊢
      have hp : p = [] := by
        rcases p with _ | ⟨f, p⟩
        · rfl
        · obtain ⟨g, hg, _⟩ := (ih.mem f.v).2 ⟨f, by simp, rfl⟩; simp at hg
      subst hp
      exact ⟨by simp [gstep], by simp [gstep], by simp [gstep]⟩
    · have h0 : groupL p = o ++ [q] := by simpa using h0
      rw [h0] at ih ⊢
      have hap := List.pairwise_append.1 ih.inc
      obtain ⟨fq, hfq, eq⟩ := (ih.mem q.v).1 ⟨q, by simp, rfl⟩
      have hqv : q.v.all valB = true := by rw [← eq]; exact hv fq (by simp [hfq])
      have hqx : ¬ cmpL cmpV x.v q.v < 0 := by rw [← eq]; exact hs'.2.2 fq hfq x (by simp)
      rw [gstep_last, ordV_valid hqv hx]
      -- no group ahead of the last one has x's values
      have hne : ∀ g ∈ o, g.v ≠ x.v := fun g hg e => by
        have := hap.2.2 g hg q (by simp)
        rw [e] at this; exact hqx this
      split
      · rename_i hj
        have hj : q.v = x.v := (ord.eq _ _).1 hj
        refine ⟨List.pairwise_append.2 ⟨hap.1, by simp, fun u hu v hv => ?_⟩, fun g hg => ?_, fun v => ?_⟩
        · obtain rfl := List.mem_singleton.1 hv
          exact hap.2.2 u hu q (by simp)
        · rcases List.mem_append.1 hg with hg | hg
          · rw [List.filter_append, ih.times g (by simp [hg])]
            simp [Ne.symm (hne g hg)]
          · obtain rfl := List.mem_singleton.1 hg
            simp only
            rw [List.filter_append, ih.times q (by simp)]
            simp [hj]
        · constructor
          · rintro ⟨g, hg, rfl⟩
            rcases List.mem_append.1 hg with hg | hg
            · obtain ⟨f, hf, e⟩ := (ih.mem g.v).1 ⟨g, by simp [hg], rfl⟩
              exact ⟨f, by simp [hf], e⟩
            · obtain rfl := List.mem_singleton.1 hg
              exact ⟨x, by simp, hj.symm⟩
          · rintro ⟨f, hf, rfl⟩
            rcases List.mem_append.1 hf with hf | hf
            · obtain ⟨g, hg, e⟩ := (ih.mem f.v).2 ⟨f, hf, rfl⟩
              rcases List.mem_append.1 hg with hg | hg
              · exact ⟨g, by simp [hg], e⟩
              · obtain rfl := List.mem_singleton.1 hg
                exact ⟨_, List.mem_append.2 (.inr (List.mem_singleton.2 rfl)), e⟩
            · obtain rfl := List.mem_singleton.1 hf
              exact ⟨_, List.mem_append.2 (.inr (List.mem_singleton.2 rfl)), hj⟩
      · rename_i hj
        have hlt : cmpL cmpV q.v x.v < 0 := by
          rcases Int.lt_or_le (cmpL cmpV q.v x.v) 0 with k | k
          · exact k
          · exact absurd ((ord.swap _ _).2 (by omega)) hqx
        have hqne : q.v ≠ x.v := fun e => hj ((ord.eq _ _).2 e)
        refine ⟨List.pairwise_append.2 ⟨ih.inc, by simp, fun u hu v hv => ?_⟩, fun g hg => ?_, fun v => ?_⟩
        · obtain rfl := List.mem_singleton.1 hv
          rcases List.mem_append.1 hu with hu | hu
          · exact ord.trans _ _ _ (hap.2.2 u hu q (by simp)) hlt
          · obtain rfl := List.mem_singleton.1 hu; exact hlt
        · rcases List.mem_append.1 hg with hg | hg
          · rw [List.filter_append, ih.times g hg]
            have : g.v ≠ x.v := by
              rcases List.mem_append.1 hg with hg | hg
              · exact hne g hg
              · obtain rfl := List.mem_singleton.1 hg; exact hqne
            simp [Ne.symm this]
          · obtain rfl := List.mem_singleton.1 hg
            simp only
            have : p.filter (fun f => decide (f.v = x.v)) = [] := by
              rw [List.filter_eq_nil_iff]
              intro f hf e
              simp only [decide_eq_true_eq] at e
              obtain ⟨g, hg, eg⟩ := (ih.mem f.v).2 ⟨f, hf, rfl⟩
              rcases List.mem_append.1 hg with hg | hg
              · exact hne g hg (eg.trans e)
              · obtain rfl := List.mem_singleton.1 hg; exact hqne (eg.trans e)
            rw [List.filter_append, this]; simp
        · constructor
          · rintro ⟨g, hg, rfl⟩
            rcases List.mem_append.1 hg with hg | hg
            · obtain ⟨f, hf, e⟩ := (ih.mem g.v).1 ⟨g, hg, rfl⟩
              exact ⟨f, by simp [hf], e⟩
            · obtain rfl := List.mem_singleton.1 hg
              exact ⟨x, by simp, rfl⟩
          · rintro ⟨f, hf, rfl⟩
            rcases List.mem_append.1 hf with hf | hf
            · obtain ⟨g, hg, e⟩ := (ih.mem f.v).2 ⟨f, hf, rfl⟩
              exact ⟨g, List.mem_append.2 (.inl hg), e⟩
            · obtain rfl := List.mem_singleton.1 hf
              exact ⟨_, List.mem_append.2 (.inr (List.mem_singleton.2 rfl)), rfl⟩
theorem strict_unique {α : Type} {c : α → α → Int} (h : TOrd c) : ∀ {a b : List α}, a.Pairwise (fun x y => c x y < 0) → b.Pairwise (fun x y => c x y < 0) → (∀ x, x ∈ a ↔ x ∈ b) → a = b
  | [], [], _, _, _ => rfl
  | [], y :: b, _, _, k => by have := (k y).2 (by simp); simp at this
  | x :: a, [], _, _, k => by have := (k x).1 (by simp); simp at this
  | x :: a, y :: b, ha, hb, k => by
    have ha' := List.pairwise_cons.1 ha
    have hb' := List.pairwise_cons.1 hb
    have e : x = y := by
      rcases List.mem_cons.1 ((k x).1 (by simp)) with e | h1
      · exact e
      · rcases List.mem_cons.1 ((k y).2 (by simp)) with e | h2
        · exact e.symm
        · exact absurd (hb'.1 x h1) (h.asym (ha'.1 y h2))
    subst e
    rw [strict_unique h ha'.2 hb'.2 fun z => ?_]
    constructor
    · intro hz
      rcases List.mem_cons.1 ((k z).1 (by simp [hz])) with e | h1
      · subst e; have := ha'.1 z hz; rw [h.refl] at this; omega
      · exact h1
    · intro hz
      rcases List.mem_cons.1 ((k z).2 (by simp [hz])) with e | h1
      · subst e; have := hb'.1 z hz; rw [h.refl] at this; omega
      · exact h1
theorem GInv.vals {l l' : List Fact} {o o' : List Group} (h : GInv l o) (h' : GInv l' o') (hp : l.Perm l') : o.map Group.v = o'.map Group.v := by
  refine strict_unique ord (List.pairwise_map.2 h.inc) (List.pairwise_map.2 h'.inc) fun v => ?_
  simp only [List.mem_map]
  rw [h.mem, h'.mem]
  simp only [hp.mem_iff]
/-- Whatever the order of the facts with the same values, the canonical groups are the same. -/
theorem cgroups_unique {l l' : List Fact} {o o' : List Group} (h : GInv l o) (h' : GInv l' o') (hp : l.Perm l') (hg : Good l) : cgroups o = cgroups o' := by
  have hv := h.vals h' hp
  have hl : o.length = o'.length := by have := congrArg List.length hv; simpa using this
  unfold cgroups
  apply List.ext_getElem (by simp [hl])
  intro i h1 h2
  simp only [List.getElem_map]
  have hi : i < o.length := by simpa using h1
  have hi' : i < o'.length := by simpa using h2
  have ev : o[i].v = o'[i].v := by
    have := congrArg (·[i]?) hv
    simp only [List.getElem?_map, List.getElem?_eq_getElem hi, List.getElem?_eq_getElem hi', Option.map_some] at this
    exact Option.some.inj this
  have ht := h.times o[i] (List.getElem_mem hi)
  have ht' := h'.times o'[i] (List.getElem_mem hi')
  have hpt : o[i].t.Perm o'[i].t := by rw [ht, ht', ev]; exact (hp.filter _).map _
  rw [ev, canon_perm hpt fun s hs => ?_]
  rw [ht] at hs
  obtain ⟨f, hf, rfl⟩ := List.mem_map.1 hs
  exact spanB_pos (hg f (List.mem_filter.1 hf).1).2
theorem sortF_perm (l : List Fact) : (sortF l).Perm l := List.mergeSort_perm _ _
theorem Good.perm {l l' : List Fact} (h : Good l) (hp : l'.Perm l) : Good l' := fun f hf => h f (hp.mem_iff.1 hf)
theorem ascV_of {l : List Fact} (hg : Good l) (h : l.Pairwise fun x y => ¬ ordV y.v x.v < 0) : AscV l := by
  refine List.Pairwise.imp_of_mem (fun {x y} hx hy k => ?_) h
  rwa [ordV_valid (hg y hy).1 (hg x hx).1] at k
theorem sortF_asc (l : List Fact) : AscV (sortF l) := by
  have := List.pairwise_mergeSort (le := fun (x y : Fact) => decide (cmpL cmpV x.v y.v ≤ 0)) (fun a b c h1 h2 => ?_) (fun a b => ?_) l
  · refine this.imp fun {a b} h k => ?_
    have h' : cmpL cmpV a.v b.v ≤ 0 := by simpa using h
    have := (ord.swap b.v a.v).1 k
    omega
  · simp only [decide_eq_true_eq] at *
    have q1 : ¬ cmpL cmpV b.v a.v < 0 := fun k => by have := (ord.swap _ _).1 k; omega
    have q2 : ¬ cmpL cmpV c.v b.v < 0 := fun k => by have := (ord.swap _ _).1 k; omega
    have q3 := ord.le_trans q1 q2
    rcases Int.lt_or_le 0 (cmpL cmpV a.v c.v) with k | k
    · exact absurd ((ord.swap _ _).2 k) q3
    · exact k
  · simp only [Bool.or_eq_true, decide_eq_true_eq]
    rcases Int.lt_or_le 0 (cmpL cmpV a.v b.v) with k | k
    · right; have := (ord.swap b.v a.v).2 k; omega
    · exact .inl k
end Go.Civ
