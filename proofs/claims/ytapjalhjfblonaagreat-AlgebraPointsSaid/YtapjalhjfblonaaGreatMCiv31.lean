/- Joined snapshots: as many as there are pairs that fit. -/
import Derived.Test.YtapjalhjfblonaaGreatMCiv30
namespace Go.Civ
open Go.RowKit
set_option linter.unusedVariables false

def fitP (x : List Val) (z : Val) (k : Nat) (p : Int × Int) : Bool := !decide (p.2 = (k : Int)) || (decide (0 ≤ p.1) && decide (p.1 < (x.length : Int)) && decide (x[p.1.toNat]? = some z))
def fitK (on : List (Int × Int)) (x : List Val) (z : Val) (k : Nat) : Bool := on.all (fitP x z k)
def fitsV (on : List (Int × Int)) (x y : List Val) : Bool := y.zipIdx.all fun q => fitK on x q.1 q.2
def pairG (on : List (Int × Int)) (x : List Val) (Y : List (List Val)) : Nat := (Y.filter (fitsV on x)).length
def pairN (on : List (Int × Int)) (X Y : List (List Val)) : Nat := (X.map fun x => pairG on x Y).sum
section
variable {on : List (Int × Int)} {x : List Val} {z u : Val} {k j : Nat} {p : Int × Int}
theorem fitP_ne (h : p.2 ≠ (k : Int)) : fitP x z k p = true := by unfold fitP; rw [decide_eq_false h]; rfl
theorem fitP_lo (h : p.1 < 0) (he : p.2 = (k : Int)) : fitP x z k p = false := by unfold fitP; rw [decide_eq_true he, decide_eq_false (by omega : ¬ 0 ≤ p.1)]; rfl
theorem fitP_hi (h : (x.length : Int) ≤ p.1) (he : p.2 = (k : Int)) : fitP x z k p = false := by unfold fitP; rw [decide_eq_true he, decide_eq_false (by omega : ¬ p.1 < (x.length : Int))]; simp
theorem fitP_yes (h0 : 0 ≤ p.1) (h1 : p.1 < (x.length : Int)) (hu : x[p.1.toNat]? = some u) (e : u = z) : fitP x z k p = true := by
  unfold fitP; rw [decide_eq_true h0, decide_eq_true h1, decide_eq_true (p := x[p.1.toNat]? = some z) (by rw [hu, e])]; simp
theorem fitP_no (he : p.2 = (k : Int)) (hu : x[p.1.toNat]? = some u) (e : u ≠ z) : fitP x z k p = false := by
  unfold fitP; rw [decide_eq_true he, decide_eq_false (p := x[p.1.toNat]? = some z) (by rw [hu]; exact fun q => e (Option.some.inj q))]; simp
theorem fitP_dec (h0 : 0 ≤ p.1) (h1 : p.1 < (x.length : Int)) (hu : x[p.1.toNat]? = some u) (he : p.2 = (k : Int)) : fitP x z k p = decide (u = z) := by
  by_cases e : u = z
  · rw [fitP_yes h0 h1 hu e, decide_eq_true e]
  · rw [fitP_no he hu e, decide_eq_false e]
theorem fiS {fi fi2 r : Bool} (h : on[j]? = some p) (hf : fi2 = (fi && (on.take j).all (fitP x z k))) (hr : r = (fi2 && fitP x z k p)) : r = (fi && (on.take (j + 1)).all (fitP x z k)) := by
  rw [hr, hf, List.take_add_one, h]; simp [Bool.and_assoc]
theorem frS {fr r : Bool} (h : on[j]? = some p) (hf : fr = !(on.take j).any fun p => decide (p.2 = (k : Int))) (hr : r = (fr && !decide (p.2 = (k : Int)))) : r = !(on.take (j + 1)).any fun p => decide (p.2 = (k : Int)) := by
  rw [hr, hf, List.take_add_one, h]; simp
theorem frS_no {fr : Bool} (h : on[j]? = some p) (hf : fr = !(on.take j).any fun p => decide (p.2 = (k : Int))) (he : p.2 ≠ (k : Int)) : fr = !(on.take (j + 1)).any fun p => decide (p.2 = (k : Int)) :=
  frS h hf (by simp [he])
theorem frS_yes {fr : Bool} (h : on[j]? = some p) (hf : fr = !(on.take j).any fun p => decide (p.2 = (k : Int))) (he : p.2 = (k : Int)) : false = !(on.take (j + 1)).any fun p => decide (p.2 = (k : Int)) :=
  frS h hf (by simp [he])
theorem fr_onB {fr : Bool} (hf : fr = !(on.take j).any fun p => decide (p.2 = (k : Int))) (hj : on.length ≤ j) : onB on k = !fr := by
  rw [hf, List.take_of_length_le hj]; unfold onB; simp
theorem fitsV_take {y : List Val} (h : y[k]? = some z) : fitsV on x (y.take (k + 1)) = (fitsV on x (y.take k) && on.all (fitP x z k)) := by
  have hl : (y.take k).length = k := by rw [List.length_take]; have := (List.getElem?_eq_some_iff.1 h).1; omega
  unfold fitsV
  rw [List.take_add_one, h, Option.toList_some, List.zipIdx_append, List.all_append, hl]
  simp [fitK]
theorem fiV {y : List Val} {fi fi2 : Bool} (h : y[k]? = some z) (hf : fi = fitsV on x (y.take k)) (hf2 : fi2 = (fi && (on.take j).all (fitP x z k))) (hj : on.length ≤ j) : fi2 = fitsV on x (y.take (k + 1)) := by
  rw [fitsV_take h, ← hf, hf2, List.take_of_length_le hj]
theorem fitsV_all {y : List Val} {fi : Bool} (hf : fi = fitsV on x (y.take k)) (hk : y.length ≤ k) : fitsV on x y = fi := by rw [hf, List.take_of_length_le hk]
theorem restV_step {y : List Val} {fr : Bool} (h : y[k]? = some z) (hf : fr = !(on.take j).any fun p => decide (p.2 = (k : Int))) (hj : on.length ≤ j) : restV on (y.take (k + 1)) = restV on (y.take k) ++ if fr then [z] else [] := by
  rw [restV_take h, fr_onB hf hj]; cases fr <;> simp
theorem pairG_take {Y : List (List Val)} {y : List Val} (h : Y[k]? = some y) : pairG on x (Y.take (k + 1)) = pairG on x (Y.take k) + if fitsV on x y then 1 else 0 := by
  unfold pairG; rw [List.take_add_one, h, Option.toList_some, List.filter_append, List.length_append]
  cases e : fitsV on x y <;> simp [e]
theorem pairN_take {X Y : List (List Val)} (h : X[k]? = some x) : pairN on (X.take (k + 1)) Y = pairN on (X.take k) Y + pairG on x Y := by
  unfold pairN; rw [List.take_add_one, h]; simp
theorem pairG_full {Y : List (List Val)} (h : Y.length ≤ k) : pairG on x (Y.take k) = pairG on x Y := by rw [List.take_of_length_le h]
theorem pairN_full {X Y : List (List Val)} (h : X.length ≤ k) : pairN on (X.take k) Y = pairN on X Y := by rw [List.take_of_length_le h]
theorem pairN_step {X Y : List (List Val)} {n k2 : Nat} (hx : X[k]? = some x) (hk : Y.length ≤ k2) (h : n = pairN on (X.take k) Y + pairG on x (Y.take k2)) : n = pairN on (X.take (k + 1)) Y := by
  rw [pairN_take hx, h, pairG_full hk]
theorem restV_stepT {y : List Val} {fr : Bool} (h : y[k]? = some z) (hf : fr = !(on.take j).any fun p => decide (p.2 = (k : Int))) (hj : on.length ≤ j) (ht : fr = true) : x ++ restV on (y.take (k + 1)) = x ++ restV on (y.take k) ++ [z] := by
  rw [restV_step h hf hj, ht]; simp
theorem restV_stepF {y : List Val} {fr : Bool} (h : y[k]? = some z) (hf : fr = !(on.take j).any fun p => decide (p.2 = (k : Int))) (hj : on.length ≤ j) (ht : fr = false) : x ++ restV on (y.take (k + 1)) = x ++ restV on (y.take k) := by
  rw [restV_step h hf hj, ht]; simp
theorem pairG_le (Y : List (List Val)) : pairG on x Y ≤ Y.length := List.length_filter_le _ _
theorem pairN_le (Y : List (List Val)) : ∀ (X : List (List Val)), pairN on X Y ≤ X.length * Y.length
  | [] => by simp [pairN]
  | x :: X => by
    have h1 := pairN_le Y X
    have h2 := pairG_le (on := on) (x := x) Y
    have e : pairN on (x :: X) Y = pairG on x Y + pairN on X Y := by simp [pairN]
    rw [e, List.length_cons, Nat.add_mul]; omega
theorem pair_bd {X Y : List (List Val)} {k2 : Nat} (hX : X.length ≤ 20) (hY : Y.length ≤ 20) : pairN on (X.take k) Y + pairG on x (Y.take k2) ≤ 420 := by
  have h1 := pairN_le (on := on) Y (X.take k)
  have h2 := pairG_le (on := on) (x := x) (Y.take k2)
  have h3 := List.length_take_le' k X
  have h4 := List.length_take_le' k2 Y
  have h5 := Nat.mul_le_mul (Nat.le_trans h3 hX) hY
  omega
end

/-! lists of one kind, of any width -/
def VW (K : List Int) (l : List Fact) : Prop := ∀ f ∈ l, spanB f.t = true ∧ f.v.map Val.k = K ∧ f.v.all valB = true
theorem VW.good {K : List Int} {l : List Fact} (h : VW K l) : Good l := fun f hf => ⟨(h f hf).2.2, (h f hf).1⟩
theorem VW.vk {K : List Int} {l : List Fact} (h : VW K l) (hf : fitB (nf l) = true) : VK K l := fun f hm => by
  refine ⟨(h f hm).1, ?_, (h f hm).2⟩
  obtain ⟨g, hg, e⟩ := (mem_nf h.good f.v).2 ⟨f, hm, rfl⟩
  obtain ⟨f0, hf0, e0⟩ := headV_mem (List.length_pos_of_mem hg)
  obtain ⟨k0, hk0, e1⟩ := nf_vals h.good hf0
  have l0 : f0.v.length = K.length := by rw [← e1, ← (h k0 hk0).2.1, List.length_map]
  have l1 : f.v.length = K.length := by rw [← (h f hm).2.1, List.length_map]
  unfold fitB at hf
  simp only [Bool.and_eq_true, Bool.or_eq_true, decide_eq_true_eq] at hf
  have := List.length_pos_of_mem hg
  have h8 : (headV (nf l)).length ≤ 8 := by unfold headV; rcases hf.2 with q | q <;> omega
  rw [e0] at h8; omega
theorem fin_W {K : List Int} {l : List Fact} (h : VW K l) (he : finE l = 0) : NR (finL l) ∧ ∀ v t, CV (finL l) v t ↔ CV l v t := by
  have hf : fitB (nf l) = true := by
    unfold finE at he
    cases q : fitB (nf l) with
    | true => rfl
    | false => rw [q] at he; simp at he
  exact fin_R (h.vk hf) he
theorem restV_map (on : List (Int × Int)) (v : List Val) : (restV on v).map Val.k = (((v.map Val.k).zipIdx.filter fun q => !onB on q.2).map Prod.fst) := by
  unfold restV
  rw [List.zipIdx_map, List.filter_map, List.map_map, List.map_map]
  congr 1
theorem at_iff {l : List Fact} (h : validB l = true) {v : List Val} {t : Int} : v ∈ atL l t ↔ CV l v t := by
  rw [atL_mem, (norm_valid h (valid_le h)).1, nf_cover (good_of_valid h), cv_iff]; rfl
theorem at_nodup {l : List Fact} (h : validB l = true) {t : Int} : (atL l t).Nodup :=
  (atL_inc h (valid_le h)).imp fun {a b} k e => by subst e; rw [ord.refl] at k; omega
theorem nr_nil : NR [] := ⟨rfl, by simp [nf, grp, cgroups, groupL, sortF, listedL]⟩

/-! a pair that fits is determined by what it makes -/
def restF (on : List (Int × Int)) (n : Nat) (v : List Val) : List Val := ((v.zipIdx n).filter fun q => !onB on q.2).map Prod.fst
theorem restF_inj {on : List (Int × Int)} : ∀ {n : Nat} {v v' : List Val}, v.length = v'.length → (∀ k z z', v[k]? = some z → v'[k]? = some z' → onB on (n + k) = true → z = z') → restF on n v = restF on n v' → v = v'
  | _, [], [], _, _, _ => rfl
  | _, [], _ :: _, h, _, _ => by simp at h
  | _, _ :: _, [], h, _, _ => by simp at h
  | n, z :: v, z' :: v', hl, hb, he => by
    have step : ∀ (u : Val) (w : List Val), restF on n (u :: w) = (if onB on n then [] else [u]) ++ restF on (n + 1) w := fun u w => by
      unfold restF; rw [List.zipIdx_cons, List.filter_cons]; cases e : onB on n <;> simp
    rw [step, step] at he
    have ih : restF on (n + 1) v = restF on (n + 1) v' → v = v' := restF_inj (by simpa using hl) fun k a b ha hb' ho => hb (k + 1) a b (by simpa using ha) (by simpa using hb') (by rw [show n + (k + 1) = n + 1 + k by omega]; exact ho)
    cases e : onB on n with
    | true =>
      rw [e] at he
      simp only [if_true, List.nil_append] at he
      rw [ih he, hb 0 z z' (by simp) (by simp) (by simpa using e)]
    | false =>
      rw [e] at he
      simp at he
      rw [he.1, ih he.2]
section
variable {on : List (Int × Int)} {a b : List Fact} {t : Int}
theorem fitsV_iff {x y : List Val} : fitsV on x y = true ↔ ∀ (k : Nat) (z : Val), y[k]? = some z → ∀ p ∈ on, p.2 = (k : Int) → 0 ≤ p.1 ∧ p.1 < (x.length : Int) ∧ x[p.1.toNat]? = some z := by
  unfold fitsV fitK
  simp only [List.all_eq_true]
  constructor
  · intro h k z hz p hp he
    have := h (z, k) (List.mem_zipIdx_iff_getElem?.2 hz) p hp
    unfold fitP at this
    simp [he] at this
    exact ⟨this.1.1, this.1.2, this.2⟩
  · intro h q hq p hp
    have hz := List.mem_zipIdx_iff_getElem?.1 hq
    unfold fitP
    by_cases he : p.2 = (q.2 : Int)
    · obtain ⟨h1, h2, h3⟩ := h q.2 q.1 hz p hp he
      rw [decide_eq_true h1, decide_eq_true h2, decide_eq_true h3]; simp
    · rw [decide_eq_false he]; rfl
theorem cmpC_eq {x y : Val} (hx : valB x = true) (hy : valB y = true) : cmpC x y = 0 ↔ x = y := by unfold cmpC; rw [hx, hy]; exact cmpV_ord.eq x y
theorem fits_ne {x y : List Val} (hx : x.all valB = true) (hy : y.all valB = true) (hok : on.all (okP x.length y.length) = true) : on.any (joinNe x y) = !fitsV on x y := by
  have hiff : fitsV on x y = true ↔ on.any (joinNe x y) = false := by
    rw [fitsV_iff, List.any_eq_false]
    rw [List.all_eq_true] at hok hx hy
    constructor
    · intro h p hp
      have ho := okP_iff.1 (hok p hp)
      obtain ⟨w, hw⟩ : ∃ w, y[p.2.toNat]? = some w := ⟨_, List.getElem?_eq_getElem (by omega)⟩
      obtain ⟨_, _, h3⟩ := h p.2.toNat w hw p hp (by omega)
      rw [joinNe_at h3 hw]
      simp [(cmpC_eq (hx _ (List.mem_of_getElem? h3)) (hy _ (List.mem_of_getElem? hw))).2 rfl]
    · intro h k z hz p hp he
      have ho := okP_iff.1 (hok p hp)
      obtain ⟨w, hw⟩ : ∃ w, x[p.1.toNat]? = some w := ⟨_, List.getElem?_eq_getElem (by omega)⟩
      have hk : p.2.toNat = k := by omega
      have := h p hp
      rw [joinNe_at hw (by rw [hk]; exact hz)] at this
      have e : cmpC w z = 0 := by simpa using this
      rw [(cmpC_eq (hx _ (List.mem_of_getElem? hw)) (hy _ (List.mem_of_getElem? hz))).1 e] at hw
      exact ⟨ho.1, ho.2.1, hw⟩
  cases q : fitsV on x y with
  | true => rw [hiff.1 q]; rfl
  | false =>
    cases r : on.any (joinNe x y) with
    | true => rfl
    | false => rw [hiff.2 r] at q; cases q
def pairsL (on : List (Int × Int)) (X Y : List (List Val)) : List (List Val) := X.flatMap fun x => (Y.filter (fitsV on x)).map fun y => x ++ restV on y
theorem pairsL_len (X Y : List (List Val)) : (pairsL on X Y).length = pairN on X Y := by
  unfold pairsL pairN pairG; rw [List.length_flatMap]; simp
theorem pairs_nodup {X Y : List (List Val)} {m n : Nat} (hX : X.Nodup) (hY : Y.Nodup) (hm : ∀ x ∈ X, x.length = m) (hn : ∀ y ∈ Y, y.length = n) : (pairsL on X Y).Nodup := by
  unfold pairsL List.Nodup
  rw [List.pairwise_flatMap]
  refine ⟨fun x hx => ?_, hX.imp_of_mem fun {x x'} hx hx' hne => ?_⟩
  · rw [List.pairwise_map]
    refine List.Pairwise.imp_of_mem (fun {y y'} hy hy' hne e => hne ?_) (List.Pairwise.filter _ hY)
    obtain ⟨h1, f1⟩ := List.mem_filter.1 hy
    obtain ⟨h2, f2⟩ := List.mem_filter.1 hy'
    have er := List.append_cancel_left e
    refine restF_inj (on := on) (n := 0) ((hn y h1).trans (hn y' h2).symm) (fun k z z' hz hz' ho => ?_) er
    rw [Nat.zero_add] at ho
    unfold onB at ho
    obtain ⟨p, hp, q⟩ := List.any_eq_true.1 ho
    have e2 : p.2 = (k : Int) := of_decide_eq_true q
    have g1 := (fitsV_iff.1 f1 k z hz p hp e2).2.2
    have g2 := (fitsV_iff.1 f2 k z' hz' p hp e2).2.2
    exact Option.some.inj (g1.symm.trans g2)
  · intro u hu u' hu' e
    obtain ⟨y, _, rfl⟩ := List.mem_map.1 hu
    obtain ⟨y', _, rfl⟩ := List.mem_map.1 hu'
    exact hne (List.append_inj_left e ((hm x hx).trans (hm x' hx').symm))
/-- The law: what the join's snapshot is. -/
theorem join_now (ha : validB a = true) (hb : validB b = true) (he : joinE a b on = 0) : (∀ v, v ∈ atL (joinL a b on) t ↔ v ∈ pairsL on (atL a t) (atL b t)) ∧ (atL (joinL a b on) t).length = pairN on (atL a t) (atL b t) := by
  have key : NR (joinL a b on) ∧ ∀ v, v ∈ atL (joinL a b on) t ↔ v ∈ pairsL on (atL a t) (atL b t) := by
    by_cases h0 : a.length = 0 ∨ b.length = 0
    · have e := (join_empty (on := on) ha hb h0).1
      rw [e]
      refine ⟨nr_nil, fun v => ?_⟩
      rw [at_iff nr_nil.valid, cv_iff]
      constructor
      · rintro ⟨f, hf, _⟩; simp at hf
      · intro h
        unfold pairsL at h
        obtain ⟨x, hx, h2⟩ := List.mem_flatMap.1 h
        obtain ⟨y, hy, _⟩ := List.mem_map.1 h2
        have hy := (List.mem_filter.1 hy).1
        rcases h0 with q | q
        · rw [List.length_eq_zero_iff.1 q, at_iff rfl, cv_iff] at hx; obtain ⟨f, hf, _⟩ := hx; simp at hf
        · rw [List.length_eq_zero_iff.1 q, at_iff rfl, cv_iff] at hy; obtain ⟨f, hf, _⟩ := hy; simp at hf
    · have hok : joinOk a b on = true ∧ finE (joinF on (normL a) (normL b)) = 0 ∧ on.all (okP (headV a).length (headV b).length) = true := by
        unfold joinE at he
        unfold joinOk
        rw [ha, hb] at he ⊢
        simp only [Bool.and_true, Bool.not_true, Bool.false_eq_true, if_false] at he
        rw [if_neg h0] at he
        cases q1 : on.all (okP (headV a).length (headV b).length) with
        | false => rw [q1] at he; simp at he
        | true =>
          cases q2 : on.all (kindP (headV a) (headV b)) with
          | false => rw [q1, q2] at he; simp at he
          | true =>
            rw [q1, q2] at he
            simp only [Bool.not_true, Bool.false_eq_true, if_false] at he
            by_cases q3 : 8 < (headV a).length + ((headV b).length - onN on (headV b).length)
            · rw [if_pos q3] at he; omega
            · rw [if_neg q3] at he
              refine ⟨?_, he, rfl⟩
              rw [decide_eq_true (by omega : 0 < a.length), decide_eq_true (by omega : 0 < b.length), decide_eq_true (by omega : (headV a).length + ((headV b).length - onN on (headV b).length) ≤ 8)]; rfl
      obtain ⟨h1, h2, h3⟩ := hok
      have e : joinL a b on = finL (joinF on (normL a) (normL b)) := by unfold joinL; rw [if_pos h1]
      rw [(norm_valid ha (valid_le ha)).1, (norm_valid hb (valid_le hb)).1] at e h2
      have ka := (vk_of ha).nf
      have kb := (vk_of hb).nf
      have hlen : ∀ {l : List Fact}, validB l = true → ∀ f ∈ nf l, f.v.length = (headV l).length := fun {l} hv f hf => by
        have := ((vk_of hv).nf f hf).2.2.1
        rw [← List.length_map (f := Val.k), this, List.length_map]
      have hmem : ∀ g, g ∈ joinF on (nf a) (nf b) ↔ ∃ x ∈ nf a, ∃ y ∈ nf b, meetB x.t y.t = true ∧ fitsV on x.v y.v = true ∧ g = ⟨x.v ++ restV on y.v, meetS x.t y.t⟩ := fun g => by
        unfold joinF joinG
        simp only [List.mem_flatMap]
        constructor
        · rintro ⟨x, hx, y, hy, hg⟩
          split at hg
          · rename_i hc
            simp only [Bool.and_eq_true] at hc
            rw [fits_ne (ka x hx).2.2.2 (kb y hy).2.2.2 (by rw [hlen ha x hx, hlen hb y hy]; exact h3), Bool.not_not] at hc
            exact ⟨x, hx, y, hy, hc.1, hc.2, List.mem_singleton.1 hg⟩
          · simp at hg
        · rintro ⟨x, hx, y, hy, m1, m2, rfl⟩
          refine ⟨x, hx, y, hy, ?_⟩
          rw [fits_ne (ka x hx).2.2.2 (kb y hy).2.2.2 (by rw [hlen ha x hx, hlen hb y hy]; exact h3), Bool.not_not, m1, m2]; simp
      have hw : VW ((headV a).map Val.k ++ ((((headV b).map Val.k).zipIdx.filter fun q => !onB on q.2).map Prod.fst)) (joinF on (nf a) (nf b)) := fun g hg => by
        have hgd := joinF_good (on := on) ka.good kb.good g hg
        obtain ⟨x, hx, y, hy, _, _, rfl⟩ := (hmem g).1 hg
        refine ⟨hgd.2, ?_, hgd.1⟩
        rw [List.map_append, (ka x hx).2.2.1, restV_map, (kb y hy).2.2.1]
      have hfin := fin_W hw h2
      rw [e]
      refine ⟨hfin.1, fun v => ?_⟩
      rw [at_iff hfin.1.valid, hfin.2, cv_iff]
      unfold pairsL
      simp only [List.mem_flatMap, List.mem_map, List.mem_filter]
      constructor
      · rintro ⟨g, hg, rfl, i1, i2⟩
        obtain ⟨x, hx, y, hy, m1, m2, rfl⟩ := (hmem g).1 hg
        unfold meetS at i1 i2
        rw [m1] at i1 i2
        simp only [if_true] at i1 i2
        refine ⟨x.v, (at_iff ha).2 ((cv_nf (good_of_valid ha)).1 (cv_iff.2 ⟨x, hx, rfl, by omega, by omega⟩)), y.v, ⟨(at_iff hb).2 ((cv_nf (good_of_valid hb)).1 (cv_iff.2 ⟨y, hy, rfl, by omega, by omega⟩)), m2⟩, rfl⟩
      · rintro ⟨xv, hx, yv, ⟨hy, m2⟩, rfl⟩
        obtain ⟨x, hx1, rfl, a1, a2⟩ := cv_iff.1 ((cv_nf (good_of_valid ha)).2 ((at_iff ha).1 hx))
        obtain ⟨y, hy1, rfl, b1, b2⟩ := cv_iff.1 ((cv_nf (good_of_valid hb)).2 ((at_iff hb).1 hy))
        have hm : meetB x.t y.t = true := by
          unfold meetB
          rw [spanB_V (ka x hx1).1, spanB_V (kb y hy1).1, decide_eq_true (by omega)]; rfl
        refine ⟨_, (hmem _).2 ⟨x, hx1, y, hy1, hm, m2, rfl⟩, rfl, ?_, ?_⟩
        · show (meetS x.t y.t).a ≤ t
          unfold meetS; rw [hm]; simp only [if_true]; omega
        · show t < (meetS x.t y.t).b
          unfold meetS; rw [hm]; simp only [if_true]; omega
  refine ⟨key.2, ?_⟩
  rw [← pairsL_len]
  refine (List.perm_ext_iff_of_nodup (at_nodup key.1.valid) (pairs_nodup (m := (headV a).length) (n := (headV b).length) (at_nodup ha) (at_nodup hb) (fun x hx => ?_) (fun y hy => ?_))).2 key.2 |>.length_eq
  · obtain ⟨f, hf, rfl, _⟩ := cv_iff.1 ((at_iff ha).1 hx)
    exact (valid_len ha hf).1
  · obtain ⟨f, hf, rfl, _⟩ := cv_iff.1 ((at_iff hb).1 hy)
    exact (valid_len hb hf).1
theorem at_len9 {l : List Fact} (h : l.length ≤ 20) : (atL l t).length ≤ 20 := by
  unfold atL atN
  rw [List.length_map]
  exact Nat.le_trans (List.length_filter_le _ _) (Nat.le_trans (normL_len l) h)
theorem at_vlen9 {l : List Fact} (h : validB l = true) {k : Nat} {x : List Val} (hx : (atL l t)[k]? = some x) : x.length ≤ 8 := by
  obtain ⟨f, hf, rfl, _⟩ := cv_iff.1 ((at_iff h).1 (List.mem_of_getElem? hx))
  have := valid_len h hf
  omega
theorem pairs_has (ha : validB a = true) (hb : validB b = true) (he : joinE a b on = 0) {x y : List Val} {i j : Nat} (hx : (atL a t)[i]? = some x) (hy : (atL b t)[j]? = some y) (hf : fitsV on x y = true) :
    ((atL (joinL a b on) t).any fun q => decide (q = x ++ restV on y)) = true := by
  rw [List.any_eq_true]
  refine ⟨_, ((join_now ha hb he).1 (x ++ restV on y)).2 ?_, decide_eq_true rfl⟩
  unfold pairsL
  exact List.mem_flatMap.2 ⟨x, List.mem_of_getElem? hx, List.mem_map.2 ⟨y, List.mem_filter.2 ⟨List.mem_of_getElem? hy, hf⟩, rfl⟩⟩
theorem join_err (he : joinE a b on ≠ 0) : (joinL a b on).length = 0 := by
  unfold joinL
  by_cases h : joinOk a b on = true
  · rw [if_pos h]
    unfold joinOk at h
    simp only [Bool.and_eq_true, decide_eq_true_eq] at h
    obtain ⟨⟨⟨⟨⟨⟨h1, h2⟩, h3⟩, h4⟩, h5⟩, h6⟩, h7⟩ := h
    have := (join_go h1 h2 (by omega) (by omega) h5 h6 h7).2
    rw [this] at he
    unfold finE at he
    unfold finL
    by_cases q : fitB (nf (joinF on (normL a) (normL b))) = true
    · rw [if_pos q] at he; exact absurd rfl he
    · rw [if_neg q]; rfl
  · rw [if_neg h]; rfl
end
end Go.Civ
