/- Lemmas: Civ54. -/
import Derived.Test.YtjjkgobhlfmhhaaGreatR08
import Derived.Test.YtjjkgobhlfmhhaaGreatR19
import Derived.Test.YtjjkgobhlfmhhaaGreatR21
namespace Go.Civ
open Go.RowKit
set_option linter.unusedVariables false

structure KeyOk (v : List Val) : Prop where
  len : v.length ≤ 1000
  ok : v.all valB = true
  i64 : ∀ x ∈ v, I64 x.n
def mapOf (out : List HGrp) (s : List UInt8) : Option Int := ((out.map HGrp.v).findIdx? fun v => decide (keyE v = s)).map Int.ofNat
theorem findIdx_congr {α : Type} {p q : α → Bool} : ∀ {l : List α}, (∀ x ∈ l, p x = q x) → l.findIdx? p = l.findIdx? q
  | [], _ => rfl
  | x :: l, h => by rw [List.findIdx?_cons, List.findIdx?_cons, h x (by simp), findIdx_congr fun y hy => h y (by simp [hy])]
theorem idxG_map {out : List HGrp} {v : List Val} : idxG out v = (out.map HGrp.v).findIdx? fun u => decide (u = v) := by
  unfold idxG; rw [List.findIdx?_map]; rfl
theorem mapOf_key {out : List HGrp} {v : List Val} (ho : ∀ g ∈ out, KeyOk g.v) (hv : KeyOk v) : mapOf out (keyE v) = (idxG out v).map Int.ofNat := by
  unfold mapOf
  rw [idxG_map]
  congr 1
  refine findIdx_congr fun u hu => ?_
  obtain ⟨g, hg, rfl⟩ := List.mem_map.1 hu
  have k := ho g hg
  exact decide_eq_decide.2 ⟨fun e => keyE_inj k.len hv.len k.ok hv.ok k.i64 hv.i64 e, fun e => by rw [e]⟩
theorem mapOf_addG {out : List HGrp} {i : Nat} {r : HRow} : mapOf (addG out i r) = mapOf out := by
  funext s; unfold mapOf; rw [addG_vals]
theorem mapOf_snoc {out : List HGrp} {v : List Val} {t : List HRow} (h : mapOf out (keyE v) = none) : mapOf (out ++ [⟨v, t⟩]) = fun s => if s = keyE v then some (out.length : Int) else mapOf out s := by
  funext s
  unfold mapOf at *
  rw [List.map_append, List.findIdx?_append]
  split
  · rename_i e
    subst e
    rw [Option.map_eq_none_iff] at h
    rw [h]
    simp
  · rename_i e
    cases hf : (out.map HGrp.v).findIdx? fun u => decide (keyE u = s) with
    | some i => simp
    | none => simp [Ne.symm e]
theorem keyOk_groups {l : List HRow} (h : ∀ r ∈ l, KeyOk r.v) : ∀ g ∈ hgroups l, KeyOk g.v := fun g hg => by
  obtain ⟨r, hr, e⟩ := ((hgroups_is l).mem g.v).1 (List.mem_map.2 ⟨g, hg, rfl⟩)
  rw [← e]; exact h r hr
theorem keyOk_take {l : List HRow} (h : ∀ r ∈ l, KeyOk r.v) (k : Nat) : ∀ g ∈ hgroups (l.take k), KeyOk g.v := keyOk_groups fun r hr => h r (List.mem_of_mem_take hr)
theorem Sl.i64 {G : GH} {v : Value} {l : List Val} (h : Sl ValE 32 G v l) : ∀ x ∈ l, I64 x.n := fun x hx => by
  obtain ⟨i, hi⟩ := List.getElem?_of_mem hx
  obtain ⟨a, cap, _, _, _, _, h4⟩ := h
  obtain ⟨p, _, _, cs, _, hr⟩ := h4 i x hi
  exact (ValE_open hr).2.2.1
theorem keyOk_mk {G : GH} {v : Value} {r : HRow} (h : Sl ValE 32 G v r.v) (hg : goodB r = true) (hl : r.v.length ≤ 1000) : KeyOk r.v := ⟨hl, (goodB_parts hg).1, h.i64⟩
theorem keyOk_rows {G : GH} {vl : Value} {l : List HRow} (h : Sl HRowE 56 G vl l) (hg : GoodH l) (hl : ∀ r ∈ l, r.v.length ≤ 1000) : ∀ r ∈ l, KeyOk r.v := fun r hr => by
  obtain ⟨i, hi⟩ := List.getElem?_of_mem hr
  obtain ⟨a, cap, _, _, _, _, h4⟩ := h
  obtain ⟨p, _, _, cs, _, hrep⟩ := h4 i r hi
  obtain ⟨v, _, hs, _⟩ := HRowE_open hrep
  exact keyOk_mk hs (hg r hr) (hl r hr)
theorem hg_found {l : List HRow} {k : Nat} {r : HRow} {c : Int} (h : ∀ r ∈ l, KeyOk r.v) (hk : l[k]? = some r) (hc : mapOf (hgroups (l.take k)) (keyE r.v) = some c) :
    ∃ i : Nat, c = (i : Int) ∧ i < (hgroups (l.take k)).length ∧ hgroups (l.take (k + 1)) = addG (hgroups (l.take k)) i r := by
  rw [mapOf_key (keyOk_take h k) (h r (List.mem_of_getElem? hk)), Option.map_eq_some_iff] at hc
  obtain ⟨i, hi, rfl⟩ := hc
  obtain ⟨g, hg, _⟩ := idxG_some hi
  refine ⟨i, rfl, (List.getElem?_eq_some_iff.1 hg).1, ?_⟩
  rw [hgroups_take hk]; unfold hstep; rw [hi]
theorem addG_new (out : List HGrp) (v : List Val) (r : HRow) : addG (out ++ [⟨v, []⟩]) out.length r = out ++ [⟨v, [r]⟩] := by
  rw [addG_at (g := ⟨v, []⟩) r (by simp)]
  rw [List.set_append_right _ _ (Nat.le_refl _)]; simp
theorem hg_new {l : List HRow} {k : Nat} {r : HRow} (h : ∀ r ∈ l, KeyOk r.v) (hk : l[k]? = some r) (hc : mapOf (hgroups (l.take k)) (keyE r.v) = none) :
    hgroups (l.take (k + 1)) = addG (hgroups (l.take k) ++ [⟨r.v, []⟩]) (hgroups (l.take k)).length r := by
  rw [mapOf_key (keyOk_take h k) (h r (List.mem_of_getElem? hk)), Option.map_eq_none_iff] at hc
  rw [hgroups_take hk, addG_new]; unfold hstep; rw [hc]
theorem map_found {l : List HRow} {k i : Nat} {r : HRow} (h : hgroups (l.take (k + 1)) = addG (hgroups (l.take k)) i r) : mapOf (hgroups (l.take (k + 1))) = mapOf (hgroups (l.take k)) := by rw [h, mapOf_addG]
theorem map_new {l : List HRow} {k : Nat} {r : HRow} (h : hgroups (l.take (k + 1)) = addG (hgroups (l.take k) ++ [⟨r.v, []⟩]) (hgroups (l.take k)).length r) (hc : mapOf (hgroups (l.take k)) (keyE r.v) = none) :
    mapOf (hgroups (l.take (k + 1))) = fun s => if s = keyE r.v then some (((hgroups (l.take k)).length : Nat) : Int) else mapOf (hgroups (l.take k)) s := by
  rw [h, mapOf_addG, mapOf_snoc hc]

structure HRel (e : TypeId) (G : GH) (gs : List HGrp) (L : List (List Val × Value)) (O : Own) : Prop where
  len : L.length = gs.length
  olen : O.length = gs.length
  at_ : ∀ (i : Nat) g, gs[i]? = some g → ∃ p o, L[i]? = some p ∧ O[i]? = some o ∧ p.1 = g.v ∧ Row HRowE 56 e G p.2 g.t o
section
variable {e : TypeId} {G G' : GH} {gs : List HGrp} {L : List (List Val × Value)} {O : Own}
theorem HRel.nil : HRel e G [] [] [] := ⟨rfl, rfl, fun i g h => by simp at h⟩
theorem HRel.mono (h : HRel e G gs L O) (k : G.le G') : HRel e G' gs L O := ⟨h.len, h.olen, fun i g hg => by
  obtain ⟨p, o, h1, h2, h3, h4⟩ := h.at_ i g hg
  exact ⟨p, o, h1, h2, h3, h4.mono k⟩⟩
theorem HRel.atL (h : HRel e G gs L O) {i : Nat} {p : List Val × Value} (hp : L[i]? = some p) : ∃ g o, gs[i]? = some g ∧ O[i]? = some o ∧ p.1 = g.v ∧ Row HRowE 56 e G p.2 g.t o := by
  have hl := (List.getElem?_eq_some_iff.1 hp).1
  rw [h.len] at hl
  obtain ⟨q, o, h1, h2, h3, h4⟩ := h.at_ i gs[i] (List.getElem?_eq_getElem hl)
  rw [hp] at h1
  obtain rfl := Option.some.inj h1
  exact ⟨_, o, List.getElem?_eq_getElem hl, h2, h3, h4⟩
theorem HRel.push (h : HRel e G gs L O) (v : List Val) : HRel e G (gs ++ [⟨v, []⟩]) (L ++ [(v, .slice none 0 0)]) (O ++ [none]) := by
  refine ⟨by simp [h.len], by simp [h.olen], fun i g hg => ?_⟩
  rw [List.getElem?_append] at hg
  split at hg
  · rename_i hi
    obtain ⟨p, o, h1, h2, h3, h4⟩ := h.at_ i g hg
    exact ⟨p, o, by rw [List.getElem?_append_left (by rw [h.len]; exact hi)]; exact h1, by rw [List.getElem?_append_left (by rw [h.olen]; exact hi)]; exact h2, h3, h4⟩
  · rename_i hi
    obtain rfl : i = gs.length := by
      have := (List.getElem?_eq_some_iff.1 hg).1
      simp only [List.length_singleton] at this; omega
    simp at hg
    subst hg
    exact ⟨(v, .slice none 0 0), none, by rw [← h.len]; simp, by rw [← h.olen]; simp, rfl, Row.nil _ _ _ _⟩
theorem HRel.set (h : HRel e G gs L O) {i : Nat} {g : HGrp} (hg : gs[i]? = some g) {r : HRow} {p1 : List Val} {v2 : Value} {o2 : OB} (hp : p1 = g.v) (hr : Row HRowE 56 e G v2 (g.t ++ [r]) o2) : HRel e G (addG gs i r) (L.set i (p1, v2)) (O.set i o2) := by
  subst hp
  have hi := (List.getElem?_eq_some_iff.1 hg).1
  rw [addG_at r hg]
  refine ⟨by simp [h.len], by simp [h.olen], fun j q hq => ?_⟩
  rw [List.getElem?_set] at hq
  split at hq
  · rename_i hj; subst hj
    obtain rfl : _ = q := by first | (rw [if_pos hi] at hq; exact Option.some.inj hq) | exact Option.some.inj hq
    exact ⟨(g.v, v2), o2, by rw [List.getElem?_set_self (by rw [h.len]; exact hi)], by rw [List.getElem?_set_self (by rw [h.olen]; exact hi)], rfl, hr⟩
  · rename_i hj
    obtain ⟨p, o, h1, h2, h3, h4⟩ := h.at_ j q hq
    exact ⟨p, o, by rw [List.getElem?_set_ne hj]; exact h1, by rw [List.getElem?_set_ne hj]; exact h2, h3, h4⟩
variable {w0 w : World} {X : List Nat} {G0 : GH}
theorem St.padEnd {L : Own} (h : St w0 X G0 G L w) : St w0 X G0 G (L ++ [none]) w := by
  have look : ∀ (j : Nat) p, (L ++ [none])[j]? = some (some p) → L[j]? = some (some p) := fun j p hp => by
    rw [List.getElem?_append] at hp
    split at hp
    · exact hp
    · rw [List.getElem?_singleton] at hp; split at hp <;> cases hp
  exact ⟨h.kept, h.le, h.new, h.imm, fun j p hp => h.own j p (look j p hp), fun j p hp => h.sep j p (look j p hp), fun j k p q hp hq he => h.nd j k p q (look j p hp) (look k q hq) he⟩
theorem St.dropAt1 {L : Own} {a b : OB} (h : St w0 X G0 G (a :: b :: L) w) : St w0 X G0 G (a :: L) w := by
  refine h.reindex _ (fun j => if j = 0 then 0 else j + 1) (fun j p hp => ?_) (fun j k _ _ he => ?_)
  · cases j with
    | zero => simpa using hp
    | succ j => simpa using hp
  · split at he <;> split at he <;> omega
def HSl (G : GH) (gs : List HGrp) (L : List (List Val × Value)) : Prop := L.length = gs.length ∧ ∀ (i : Nat) g, gs[i]? = some g → ∃ p, L[i]? = some p ∧ p.1 = g.v ∧ Sl HRowE 56 G p.2 g.t
theorem freezeAll : ∀ {O : Own} {G : GH} {gs : List HGrp} {L : List (List Val × Value)} {ro : OB}, St w0 [] G0 G (ro :: O) w → HRel e G gs L O → ∃ G', G.le G' ∧ St w0 [] G0 G' [ro] w ∧ HSl G' gs L
  | [], G, gs, L, ro, hS, h => by
    have e1 : gs = [] := List.eq_nil_of_length_eq_zero h.olen.symm
    subst e1
    exact ⟨G, G.le_refl, hS, h.len, fun i g hg => by simp at hg⟩
  | o :: O, G, [], L, ro, hS, h => by have := h.olen; simp at this
  | o :: O, G, g :: gs, [], ro, hS, h => by have := h.len; simp at this
  | o :: O, G, g :: gs, p :: L, ro, hS, h => by
    obtain ⟨p', o', h1, h2, h3, h4⟩ := h.at_ 0 g rfl
    obtain rfl : p = p' := by simpa using h1
    obtain rfl : o = o' := by simpa using h2
    obtain ⟨G1, k1, k2, k3⟩ := Row.freeze h4 hS 1 rfl
    have hrest : HRel e G1 gs L O := ⟨by simpa using h.len, by simpa using h.olen, fun i q hq => by
      obtain ⟨p2, o2, j1, j2, j3, j4⟩ := h.at_ (i + 1) q (by simpa using hq)
      exact ⟨p2, o2, by simpa using j1, by simpa using j2, j3, j4.mono k1⟩⟩
    obtain ⟨G2, m1, m2, m3, m4⟩ := freezeAll (St.dropAt1 k3) hrest
    refine ⟨G2, k1.trans m1, m2, by simp [m3], fun i q hq => ?_⟩
    cases i with
    | zero => simp at hq; subst hq; exact ⟨p, rfl, h3, k2.mono m1⟩
    | succ i => simpa using m4 i q (by simpa using hq)
theorem flat_hgroups {G : GH} : ∀ {L : List (List Val × Value)} {gs : List HGrp} {xs : List Value}, L.length = gs.length → (∀ (i : Nat) g, gs[i]? = some g → ∃ p, L[i]? = some p ∧ p.1 = g.v ∧ Sl HRowE 56 G p.2 g.t) → Flat GroupW G L xs → Flat HGrpE G gs xs
  | [], [], xs, _, _, h => h
  | [], g :: gs, xs, hl, _, _ => by simp at hl
  | p :: L, [], xs, hl, _, _ => by simp at hl
  | p :: L, g :: gs, xs, hl, h, ⟨c, r, h1, h2, h3⟩ => by
    obtain ⟨p', k1, k2, k3⟩ := h 0 g rfl
    obtain rfl : p = p' := by simpa using k1
    obtain ⟨v, rfl, hv, _⟩ := GroupW_open h2
    refine ⟨_, r, h1, HGrpE_mk g (k2 ▸ hv) k3, flat_hgroups (by simpa using hl) (fun i q hq => ?_) h3⟩
    simpa using h (i + 1) q (by simpa using hq)
theorem Row.hgroups {e : TypeId} {v : Value} {o : OB} {G : GH} {gs : List HGrp} {L : List (List Val × Value)} (hr : Row GroupW 48 e G v L o) (h : HSl G gs L) : Row HGrpE 48 e G v gs o := by
  obtain ⟨hl, h⟩ := h
  rcases hr with ⟨rfl, rfl, rfl⟩ | ⟨b, cs, cap, xs, rfl, rfl, h3, h4, h5, h6, h7, h8, h9⟩
  · have : gs = [] := List.eq_nil_of_length_eq_zero hl.symm
    subst this
    exact .inl ⟨rfl, rfl, rfl⟩
  · refine .inr ⟨b, cs, cap, xs, rfl, by rw [hl], by rw [← hl]; exact h3, h4, h5, flat_hgroups hl h h6, ?_, by rw [← hl]; exact h8, by rw [← hl]; exact h9⟩
    rw [← hl]; exact h7
end
theorem SMap.mono {P : Program} {Kt E : TypeId} {w : World} {b n n' : Nat} {f : List UInt8 → Option Int} (h : SMap P Kt E w b n f) (hn : n ≤ n') : SMap P Kt E w b n' f := by
  obtain ⟨D, h1, h2, h3⟩ := h
  exact ⟨D, h1, h2.mono hn, h3⟩
theorem hgrp_len (l : List HRow) (k : Nat) : (hgroups (l.take k)).length ≤ l.length := by
  have h1 := hgroups_len l k
  rcases Nat.lt_or_ge k l.length with h | h
  · omega
  · have h2 := hgroups_len l l.length
    rw [List.take_of_length_le h]; rwa [List.take_length] at h2
end Go.Civ
namespace Go.Civ
theorem hgrp_valid {l : List HRow} (h : GoodH l) : ∀ g ∈ hgroups l, g.v.all valB = true := fun g hg => by
  obtain ⟨r, hr, e⟩ := ((hgroups_is l).mem g.v).1 (List.mem_map.2 ⟨g, hg, rfl⟩)
  rw [← e]; exact (goodB_parts (h r hr)).1
end Go.Civ
namespace Go.Civ
theorem hg_tlen {l : List HRow} {k i : Nat} {g : HGrp} (h : (hgroups (l.take k))[i]? = some g) : g.t.length ≤ l.length := by
  rw [(hgroups_is (l.take k)).rows g (List.mem_of_getElem? h)]
  unfold ofV
  exact Nat.le_trans (List.length_filter_le _ _) (List.length_take_le' _ _)
theorem hg_tlen' {l : List HRow} {k i : Nat} {g : HGrp} {v : List Val} (h : (hgroups (l.take k) ++ [⟨v, []⟩])[i]? = some g) : g.t.length ≤ l.length := by
  rw [List.getElem?_append] at h
  split at h
  · exact hg_tlen h
  · rw [List.getElem?_singleton] at h
    split at h
    · obtain rfl := Option.some.inj h; exact Nat.zero_le _
    · cases h
end Go.Civ
