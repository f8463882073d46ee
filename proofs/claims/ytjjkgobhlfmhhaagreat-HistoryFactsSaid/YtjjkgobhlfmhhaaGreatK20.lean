/- Lemmas: Civ27, Civ38, Civ54, Wd, We, Sp, Shelf2. -/
import Derived.Test.YtjjkgobhlfmhhaaGreatK07
import Derived.Test.YtjjkgobhlfmhhaaGreatK09
import Derived.Test.YtjjkgobhlfmhhaaGreatK11
import Derived.Test.YtjjkgobhlfmhhaaGreatK12
import Derived.Test.YtjjkgobhlfmhhaaGreatK16
import Derived.Test.YtjjkgobhlfmhhaaGreatK17
import Derived.Test.YtjjkgobhlfmhhaaGreatK18
import Derived.Test.YtjjkgobhlfmhhaaGreatK19
import Derived.Test.YtjjkgobhlfmhhaaGreatProg
import Derived.KernelRfl
import Derived.WalkKit
import Derived.Shelf.Slices.CompactI
import Derived.Ground.Names2Prog
namespace Go.Civ
open Go.RowKit
set_option linter.unusedVariables false

section
variable {P : Program} {Q : Exit → Env → World → Prop} {ρ : Env} {w : World} {ops : Array Oper} {rest : List Oper} {K : Env → World → Prop}
variable {d : Nat} {ty : TypeId} {pos : String} {af : Array Edge} {g : Option (Nat × Bool)} {G : GH}
end
theorem not_ft {b : Bool} (h : (!b) = false) : b = true := by cases b with | true => rfl | false => cases h
theorem Lent.cast {w : World} {G : GH} {b e : Nat} {cs cs' : List Value} (h : Lent w G (some (b, e, cs))) (k : cs = cs') : Lent w G (some (b, e, cs')) := k ▸ h

end Go.Civ
namespace Go.Civ
open Go.RowKit
set_option linter.unusedVariables false

def colsN (ns : List (List UInt8)) (l : List Val) (k : Nat) : List Col := ((ns.zip l).take k).map fun p => ⟨p.1, p.2.k⟩
def colsOf (ns : List (List UInt8)) (l : List Val) : List Col := (ns.zip l).map fun p => ⟨p.1, p.2.k⟩
theorem colsN_step {ns : List (List UInt8)} {l : List Val} {k : Nat} {n : List UInt8} {v : Val} (h1 : ns[k]? = some n) (h2 : l[k]? = some v) : colsN ns l (k + 1) = colsN ns l k ++ [⟨n, v.k⟩] := by
  unfold colsN
  have e : (ns.zip l)[k]? = some (n, v) := List.getElem?_zip_eq_some.2 ⟨h1, h2⟩
  rw [List.take_add_one, e]; simp
theorem colsN_len (ns : List (List UInt8)) (l : List Val) (k : Nat) : (colsN ns l k).length ≤ k := by unfold colsN; rw [List.length_map]; exact List.length_take_le _ _
theorem colsN_all {ns : List (List UInt8)} {l : List Val} {k : Nat} (h : ns.length ≤ k) : colsN ns l k = colsOf ns l := by
  unfold colsN colsOf; rw [List.take_of_length_le (by rw [List.length_zip]; omega)]
theorem colsOf_len {ns : List (List UInt8)} {l : List Val} (h : ns.length = l.length) : (colsOf ns l).length = l.length := by unfold colsOf; rw [List.length_map, List.length_zip]; omega
def hldG (ns : List (List UInt8)) (l : List Val) : Bool := decide (ns.length = l.length) && decide (ns.length ≤ 100) && l.all valB
def hldE (d : Nat) (c : Cond) (ns : List (List UInt8)) (l : List Val) : Int := bif hldG ns l then checkF d c (colsOf ns l) else 1
def hldB (d : Nat) (c : Cond) (ns : List (List UInt8)) (l : List Val) : Bool := bif hldG ns l then (bif decide (checkF d c (colsOf ns l) = 0) then meanF d c (colsOf ns l) l else false) else false
section
variable {d : Nat} {c : Cond} {ns : List (List UInt8)} {l : List Val}
theorem hld_no (h : ns.length ≠ l.length ∨ 100 < ns.length ∨ l.all valB = false) : hldB d c ns l = false ∧ hldE d c ns l = 1 := by
  have : hldG ns l = false := by
    unfold hldG
    rcases h with h | h | h
    · rw [decide_eq_false h]; rfl
    · rw [decide_eq_false (by omega : ¬ ns.length ≤ 100)]; simp
    · rw [h]; simp
  unfold hldB hldE; rw [this]; exact ⟨rfl, rfl⟩
theorem hld_g (h1 : ns.length = l.length) (h2 : ns.length ≤ 100) (h3 : l.all valB = true) : hldG ns l = true := by unfold hldG; rw [decide_eq_true h1, decide_eq_true h2, h3]; rfl
theorem hld_err (hg : hldG ns l = true) (h : checkF d c (colsOf ns l) ≠ 0) : hldB d c ns l = false ∧ hldE d c ns l = checkF d c (colsOf ns l) := by
  unfold hldB hldE; rw [hg, decide_eq_false h]; exact ⟨rfl, rfl⟩
theorem hld_ok (hg : hldG ns l = true) (h : checkF d c (colsOf ns l) = 0) : hldB d c ns l = meanF d c (colsOf ns l) l ∧ hldE d c ns l = 0 := by
  unfold hldB hldE; rw [hg, decide_eq_true h, h]; exact ⟨rfl, rfl⟩
theorem hld_err' {cols : List Col} (hc : cols = colsOf ns l) (hg : hldG ns l = true) (h : checkF d c cols ≠ 0) : hldB d c ns l = false ∧ hldE d c ns l = checkF d c cols := by subst hc; exact hld_err hg h
theorem hld_ok' {cols : List Col} (hc : cols = colsOf ns l) (hg : hldG ns l = true) (h : checkF d c cols = 0) : hldB d c ns l = meanF d c cols l ∧ hldE d c ns l = 0 := by subst hc; exact hld_ok hg h
theorem check_well {cs : List Col} (h : checkF d c cs = 0) : wellF d c ∧ typedF d c cs = 0 := by
  unfold checkF at h
  by_cases g : nodesF d c 1 ≤ 60
  · rw [if_pos g] at h; exact ⟨well_of (by omega) (by omega) g, h⟩
  · rw [if_neg g] at h; omega
end
section
variable {d : Nat} {c : Cond} {cs : List Col} {l : List Fact} {k : Nat} {f : Fact}
end
section
variable {d : Nat} {c : Cond} {cs : List Col} {l : List Fact}
end
end Go.Civ

namespace Go.Civ
set_option linter.unusedVariables false
end Go.Civ

namespace Go.Civ
set_option linter.unusedVariables false
section
variable {l : List Fact} {ps : List Int} {k j : Nat} {f : Fact} {i : Int}
end
end Go.Civ
namespace Go.Civ
open Go.RowKit
set_option linter.unusedVariables false

structure KeyOk (v : List Val) : Prop where
  len : v.length ≤ 1000
  ok : v.all valB = true
  i64 : ∀ x ∈ v, I64 x.n
def mapOf (out : List HGrp) (s : List UInt8) : Option Int := ((out.map HGrp.v).findIdx? fun v => decide (keyE v = s)).map Int.ofNat
theorem findIdx_congr {α : Type} {p q : α → Bool} : ∀ {l : List α}, (∀ x ∈ l, p x = q x) → l.findIdx? p = l.findIdx? q
  | [], _ => rfl
  | x :: l, h => by rw [List.findIdx?_cons, List.findIdx?_cons, h x (by simp), findIdx_congr fun y hy => h y (by simp [hy])]
theorem idxG_map {out : List HGrp} {v : List Val} : idxG out v = (out.map HGrp.v).findIdx? fun u => decide (u = v) := by
  unfold idxG; rw [List.findIdx?_map]; rfl
theorem mapOf_key {out : List HGrp} {v : List Val} (ho : ∀ g ∈ out, KeyOk g.v) (hv : KeyOk v) : mapOf out (keyE v) = (idxG out v).map Int.ofNat := by
  unfold mapOf
  rw [idxG_map]
  congr 1
  refine findIdx_congr fun u hu => ?_
  obtain ⟨g, hg, rfl⟩ := List.mem_map.1 hu
  have k := ho g hg
  exact decide_eq_decide.2 ⟨fun e => keyE_inj k.len hv.len k.ok hv.ok k.i64 hv.i64 e, fun e => by rw [e]⟩
theorem mapOf_addG {out : List HGrp} {i : Nat} {r : HRow} : mapOf (addG out i r) = mapOf out := by
  funext s; unfold mapOf; rw [addG_vals]
theorem mapOf_snoc {out : List HGrp} {v : List Val} {t : List HRow} (h : mapOf out (keyE v) = none) : mapOf (out ++ [⟨v, t⟩]) = fun s => if s = keyE v then some (out.length : Int) else mapOf out s := by
  funext s
  unfold mapOf at *
  rw [List.map_append, List.findIdx?_append]
  split
  · rename_i e
    subst e
    rw [Option.map_eq_none_iff] at h
    rw [h]
    simp
  · rename_i e
    cases hf : (out.map HGrp.v).findIdx? fun u => decide (keyE u = s) with
    | some i => simp
    | none => simp [Ne.symm e]
theorem keyOk_groups {l : List HRow} (h : ∀ r ∈ l, KeyOk r.v) : ∀ g ∈ hgroups l, KeyOk g.v := fun g hg => by
  obtain ⟨r, hr, e⟩ := ((hgroups_is l).mem g.v).1 (List.mem_map.2 ⟨g, hg, rfl⟩)
  rw [← e]; exact h r hr
theorem keyOk_take {l : List HRow} (h : ∀ r ∈ l, KeyOk r.v) (k : Nat) : ∀ g ∈ hgroups (l.take k), KeyOk g.v := keyOk_groups fun r hr => h r (List.mem_of_mem_take hr)
theorem Sl.i64 {G : GH} {v : Value} {l : List Val} (h : Sl ValE 32 G v l) : ∀ x ∈ l, I64 x.n := fun x hx => by
  obtain ⟨i, hi⟩ := List.getElem?_of_mem hx
  obtain ⟨a, cap, _, _, _, _, h4⟩ := h
  obtain ⟨p, _, _, cs, _, hr⟩ := h4 i x hi
  exact (ValE_open hr).2.2.1
theorem keyOk_mk {G : GH} {v : Value} {r : HRow} (h : Sl ValE 32 G v r.v) (hg : goodB r = true) (hl : r.v.length ≤ 1000) : KeyOk r.v := ⟨hl, (goodB_parts hg).1, h.i64⟩
theorem keyOk_rows {G : GH} {vl : Value} {l : List HRow} (h : Sl HRowE 56 G vl l) (hg : GoodH l) (hl : ∀ r ∈ l, r.v.length ≤ 1000) : ∀ r ∈ l, KeyOk r.v := fun r hr => by
  obtain ⟨i, hi⟩ := List.getElem?_of_mem hr
  obtain ⟨a, cap, _, _, _, _, h4⟩ := h
  obtain ⟨p, _, _, cs, _, hrep⟩ := h4 i r hi
  obtain ⟨v, _, hs, _⟩ := HRowE_open hrep
  exact keyOk_mk hs (hg r hr) (hl r hr)
theorem hg_found {l : List HRow} {k : Nat} {r : HRow} {c : Int} (h : ∀ r ∈ l, KeyOk r.v) (hk : l[k]? = some r) (hc : mapOf (hgroups (l.take k)) (keyE r.v) = some c) :
    ∃ i : Nat, c = (i : Int) ∧ i < (hgroups (l.take k)).length ∧ hgroups (l.take (k + 1)) = addG (hgroups (l.take k)) i r := by
  rw [mapOf_key (keyOk_take h k) (h r (List.mem_of_getElem? hk)), Option.map_eq_some_iff] at hc
  obtain ⟨i, hi, rfl⟩ := hc
  obtain ⟨g, hg, _⟩ := idxG_some hi
  refine ⟨i, rfl, (List.getElem?_eq_some_iff.1 hg).1, ?_⟩
  rw [hgroups_take hk]; unfold hstep; rw [hi]
theorem addG_new (out : List HGrp) (v : List Val) (r : HRow) : addG (out ++ [⟨v, []⟩]) out.length r = out ++ [⟨v, [r]⟩] := by
  rw [addG_at (g := ⟨v, []⟩) r (by simp)]
  rw [List.set_append_right _ _ (Nat.le_refl _)]; simp
theorem hg_new {l : List HRow} {k : Nat} {r : HRow} (h : ∀ r ∈ l, KeyOk r.v) (hk : l[k]? = some r) (hc : mapOf (hgroups (l.take k)) (keyE r.v) = none) :
    hgroups (l.take (k + 1)) = addG (hgroups (l.take k) ++ [⟨r.v, []⟩]) (hgroups (l.take k)).length r := by
  rw [mapOf_key (keyOk_take h k) (h r (List.mem_of_getElem? hk)), Option.map_eq_none_iff] at hc
  rw [hgroups_take hk, addG_new]; unfold hstep; rw [hc]
theorem map_found {l : List HRow} {k i : Nat} {r : HRow} (h : hgroups (l.take (k + 1)) = addG (hgroups (l.take k)) i r) : mapOf (hgroups (l.take (k + 1))) = mapOf (hgroups (l.take k)) := by rw [h, mapOf_addG]
theorem map_new {l : List HRow} {k : Nat} {r : HRow} (h : hgroups (l.take (k + 1)) = addG (hgroups (l.take k) ++ [⟨r.v, []⟩]) (hgroups (l.take k)).length r) (hc : mapOf (hgroups (l.take k)) (keyE r.v) = none) :
    mapOf (hgroups (l.take (k + 1))) = fun s => if s = keyE r.v then some (((hgroups (l.take k)).length : Nat) : Int) else mapOf (hgroups (l.take k)) s := by
  rw [h, mapOf_addG, mapOf_snoc hc]

structure HRel (e : TypeId) (G : GH) (gs : List HGrp) (L : List (List Val × Value)) (O : Own) : Prop where
  len : L.length = gs.length
  olen : O.length = gs.length
  at_ : ∀ (i : Nat) g, gs[i]? = some g → ∃ p o, L[i]? = some p ∧ O[i]? = some o ∧ p.1 = g.v ∧ Row HRowE 56 e G p.2 g.t o
section
variable {e : TypeId} {G G' : GH} {gs : List HGrp} {L : List (List Val × Value)} {O : Own}
theorem HRel.nil : HRel e G [] [] [] := ⟨rfl, rfl, fun i g h => by simp at h⟩
theorem HRel.mono (h : HRel e G gs L O) (k : G.le G') : HRel e G' gs L O := ⟨h.len, h.olen, fun i g hg => by
  obtain ⟨p, o, h1, h2, h3, h4⟩ := h.at_ i g hg
  exact ⟨p, o, h1, h2, h3, h4.mono k⟩⟩
theorem HRel.atL (h : HRel e G gs L O) {i : Nat} {p : List Val × Value} (hp : L[i]? = some p) : ∃ g o, gs[i]? = some g ∧ O[i]? = some o ∧ p.1 = g.v ∧ Row HRowE 56 e G p.2 g.t o := by
  have hl := (List.getElem?_eq_some_iff.1 hp).1
  rw [h.len] at hl
  obtain ⟨q, o, h1, h2, h3, h4⟩ := h.at_ i gs[i] (List.getElem?_eq_getElem hl)
  rw [hp] at h1
  obtain rfl := Option.some.inj h1
  exact ⟨_, o, List.getElem?_eq_getElem hl, h2, h3, h4⟩
theorem HRel.push (h : HRel e G gs L O) (v : List Val) : HRel e G (gs ++ [⟨v, []⟩]) (L ++ [(v, .slice none 0 0)]) (O ++ [none]) := by
  refine ⟨by simp [h.len], by simp [h.olen], fun i g hg => ?_⟩
  rw [List.getElem?_append] at hg
  split at hg
  · rename_i hi
    obtain ⟨p, o, h1, h2, h3, h4⟩ := h.at_ i g hg
    exact ⟨p, o, by rw [List.getElem?_append_left (by rw [h.len]; exact hi)]; exact h1, by rw [List.getElem?_append_left (by rw [h.olen]; exact hi)]; exact h2, h3, h4⟩
  · rename_i hi
    obtain rfl : i = gs.length := by
      have := (List.getElem?_eq_some_iff.1 hg).1
      simp only [List.length_singleton] at this; omega
    simp at hg
    subst hg
    exact ⟨(v, .slice none 0 0), none, by rw [← h.len]; simp, by rw [← h.olen]; simp, rfl, Row.nil _ _ _ _⟩
theorem HRel.set (h : HRel e G gs L O) {i : Nat} {g : HGrp} (hg : gs[i]? = some g) {r : HRow} {p1 : List Val} {v2 : Value} {o2 : OB} (hp : p1 = g.v) (hr : Row HRowE 56 e G v2 (g.t ++ [r]) o2) : HRel e G (addG gs i r) (L.set i (p1, v2)) (O.set i o2) := by
  subst hp
  have hi := (List.getElem?_eq_some_iff.1 hg).1
  rw [addG_at r hg]
  refine ⟨by simp [h.len], by simp [h.olen], fun j q hq => ?_⟩
  rw [List.getElem?_set] at hq
  split at hq
  · rename_i hj; subst hj
    obtain rfl : _ = q := by first | (rw [if_pos hi] at hq; exact Option.some.inj hq) | exact Option.some.inj hq
    exact ⟨(g.v, v2), o2, by rw [List.getElem?_set_self (by rw [h.len]; exact hi)], by rw [List.getElem?_set_self (by rw [h.olen]; exact hi)], rfl, hr⟩
  · rename_i hj
    obtain ⟨p, o, h1, h2, h3, h4⟩ := h.at_ j q hq
    exact ⟨p, o, by rw [List.getElem?_set_ne hj]; exact h1, by rw [List.getElem?_set_ne hj]; exact h2, h3, h4⟩
variable {w0 w : World} {X : List Nat} {G0 : GH}
theorem St.padEnd {L : Own} (h : St w0 X G0 G L w) : St w0 X G0 G (L ++ [none]) w := by
  have look : ∀ (j : Nat) p, (L ++ [none])[j]? = some (some p) → L[j]? = some (some p) := fun j p hp => by
    rw [List.getElem?_append] at hp
    split at hp
    · exact hp
    · rw [List.getElem?_singleton] at hp; split at hp <;> cases hp
  exact ⟨h.kept, h.le, h.new, h.imm, fun j p hp => h.own j p (look j p hp), fun j p hp => h.sep j p (look j p hp), fun j k p q hp hq he => h.nd j k p q (look j p hp) (look k q hq) he⟩
theorem St.dropAt1 {L : Own} {a b : OB} (h : St w0 X G0 G (a :: b :: L) w) : St w0 X G0 G (a :: L) w := by
  refine h.reindex _ (fun j => if j = 0 then 0 else j + 1) (fun j p hp => ?_) (fun j k _ _ he => ?_)
  · cases j with
    | zero => simpa using hp
    | succ j => simpa using hp
  · split at he <;> split at he <;> omega
def HSl (G : GH) (gs : List HGrp) (L : List (List Val × Value)) : Prop := L.length = gs.length ∧ ∀ (i : Nat) g, gs[i]? = some g → ∃ p, L[i]? = some p ∧ p.1 = g.v ∧ Sl HRowE 56 G p.2 g.t
theorem freezeAll : ∀ {O : Own} {G : GH} {gs : List HGrp} {L : List (List Val × Value)} {ro : OB}, St w0 [] G0 G (ro :: O) w → HRel e G gs L O → ∃ G', G.le G' ∧ St w0 [] G0 G' [ro] w ∧ HSl G' gs L
  | [], G, gs, L, ro, hS, h => by
    have e1 : gs = [] := List.eq_nil_of_length_eq_zero h.olen.symm
    subst e1
    exact ⟨G, G.le_refl, hS, h.len, fun i g hg => by simp at hg⟩
  | o :: O, G, [], L, ro, hS, h => by have := h.olen; simp at this
  | o :: O, G, g :: gs, [], ro, hS, h => by have := h.len; simp at this
  | o :: O, G, g :: gs, p :: L, ro, hS, h => by
    obtain ⟨p', o', h1, h2, h3, h4⟩ := h.at_ 0 g rfl
    obtain rfl : p = p' := by simpa using h1
    obtain rfl : o = o' := by simpa using h2
    obtain ⟨G1, k1, k2, k3⟩ := Row.freeze h4 hS 1 rfl
    have hrest : HRel e G1 gs L O := ⟨by simpa using h.len, by simpa using h.olen, fun i q hq => by
      obtain ⟨p2, o2, j1, j2, j3, j4⟩ := h.at_ (i + 1) q (by simpa using hq)
      exact ⟨p2, o2, by simpa using j1, by simpa using j2, j3, j4.mono k1⟩⟩
    obtain ⟨G2, m1, m2, m3, m4⟩ := freezeAll (St.dropAt1 k3) hrest
    refine ⟨G2, k1.trans m1, m2, by simp [m3], fun i q hq => ?_⟩
    cases i with
    | zero => simp at hq; subst hq; exact ⟨p, rfl, h3, k2.mono m1⟩
    | succ i => simpa using m4 i q (by simpa using hq)
theorem flat_hgroups {G : GH} : ∀ {L : List (List Val × Value)} {gs : List HGrp} {xs : List Value}, L.length = gs.length → (∀ (i : Nat) g, gs[i]? = some g → ∃ p, L[i]? = some p ∧ p.1 = g.v ∧ Sl HRowE 56 G p.2 g.t) → Flat GroupW G L xs → Flat HGrpE G gs xs
  | [], [], xs, _, _, h => h
  | [], g :: gs, xs, hl, _, _ => by simp at hl
  | p :: L, [], xs, hl, _, _ => by simp at hl
  | p :: L, g :: gs, xs, hl, h, ⟨c, r, h1, h2, h3⟩ => by
    obtain ⟨p', k1, k2, k3⟩ := h 0 g rfl
    obtain rfl : p = p' := by simpa using k1
    obtain ⟨v, rfl, hv, _⟩ := GroupW_open h2
    refine ⟨_, r, h1, HGrpE_mk g (k2 ▸ hv) k3, flat_hgroups (by simpa using hl) (fun i q hq => ?_) h3⟩
    simpa using h (i + 1) q (by simpa using hq)
theorem Row.hgroups {e : TypeId} {v : Value} {o : OB} {G : GH} {gs : List HGrp} {L : List (List Val × Value)} (hr : Row GroupW 48 e G v L o) (h : HSl G gs L) : Row HGrpE 48 e G v gs o := by
  obtain ⟨hl, h⟩ := h
  rcases hr with ⟨rfl, rfl, rfl⟩ | ⟨b, cs, cap, xs, rfl, rfl, h3, h4, h5, h6, h7, h8, h9⟩
  · have : gs = [] := List.eq_nil_of_length_eq_zero hl.symm
    subst this
    exact .inl ⟨rfl, rfl, rfl⟩
  · refine .inr ⟨b, cs, cap, xs, rfl, by rw [hl], by rw [← hl]; exact h3, h4, h5, flat_hgroups hl h h6, ?_, by rw [← hl]; exact h8, by rw [← hl]; exact h9⟩
    rw [← hl]; exact h7
end
theorem SMap.mono {P : Program} {Kt E : TypeId} {w : World} {b n n' : Nat} {f : List UInt8 → Option Int} (h : SMap P Kt E w b n f) (hn : n ≤ n') : SMap P Kt E w b n' f := by
  obtain ⟨D, h1, h2, h3⟩ := h
  exact ⟨D, h1, h2.mono hn, h3⟩
theorem hgrp_len (l : List HRow) (k : Nat) : (hgroups (l.take k)).length ≤ l.length := by
  have h1 := hgroups_len l k
  rcases Nat.lt_or_ge k l.length with h | h
  · omega
  · have h2 := hgroups_len l l.length
    rw [List.take_of_length_le h]; rwa [List.take_length] at h2
end Go.Civ
namespace Go.Civ
theorem hgrp_valid {l : List HRow} (h : GoodH l) : ∀ g ∈ hgroups l, g.v.all valB = true := fun g hg => by
  obtain ⟨r, hr, e⟩ := ((hgroups_is l).mem g.v).1 (List.mem_map.2 ⟨g, hg, rfl⟩)
  rw [← e]; exact (goodB_parts (h r hr)).1
end Go.Civ
namespace Go.Civ
theorem hg_tlen {l : List HRow} {k i : Nat} {g : HGrp} (h : (hgroups (l.take k))[i]? = some g) : g.t.length ≤ l.length := by
  rw [(hgroups_is (l.take k)).rows g (List.mem_of_getElem? h)]
  unfold ofV
  exact Nat.le_trans (List.length_filter_le _ _) (List.length_take_le' _ _)
theorem hg_tlen' {l : List HRow} {k i : Nat} {g : HGrp} {v : List Val} (h : (hgroups (l.take k) ++ [⟨v, []⟩])[i]? = some g) : g.t.length ≤ l.length := by
  rw [List.getElem?_append] at h
  split at h
  · exact hg_tlen h
  · rw [List.getElem?_singleton] at h
    split at h
    · obtain rfl := Option.some.inj h; exact Nat.zero_le _
    · cases h
end Go.Civ
set_option linter.unusedVariables false
set_option linter.unusedSimpArgs false
set_option maxRecDepth 100000
set_option maxHeartbeats 4000000
namespace Go.Civ
open Go.Proofs
theorem c_Encode {G : GH} {w : World} (hG : G.In w) (l : List Val) (vl : Value) (hvl : Sl ValE 32 G vl l) : CL Tryz.prog (nat_lit 169) #[vl] [] w G fun G' _ r=>∃ r0 r1,r = .tuple #[r0,r1] ∧ Sl Enc.u8 1 G' r0 (keyE l) ∧ r1 = .int .i64 (encE l):=by
 refine calls_of_go ft [] Tryz.func169 rfl rfl ?_
 have hS:=St.start (X:=[]) hG
 have bd1:=hvl.bound
 refine WL.lenSl hvl ul36 rfl rfl ?_
 refine WL.gtrS (l.length : Int) 1000 rfl rfl rfl (fun h1=>?_) (fun h1=>?_)
 ·exact RT hS rfl ⟨_,_,rfl,(Sl.cast (Sl.nil Enc.u8 1 G) (by exact (keyE_no1 (by omega)).symm)),(congrArg (Value.int .i64) (by exact (encE_5 (by omega)).symm))⟩
 refine WL.cV hS hb113 rfl rfl rfl (c_all hS.imm l _ hvl) (fun w1 G1 hS1 hle1=>?_)
 refine WL.split (fun (h2 : (l.all valB) = true)=>?_) (fun (h2 : (l.all valB) = false)=>?_)
 ·have hbl:=(by assumption : Sl ValE 32 G _ l).bound
  have bd2:=hvl.bound
  refine WL.lenSl (hvl.mono hle1) ul36 rfl rfl ?_
  refine WL.mulN 9 l.length (by have hreach : reach = 140737488355328:=rfl; omega) rfl rfl rfl ?_
  refine WL.makeRow (E:=Enc.u8) (by_:=1) sl199 rfl rfl (9 * l.length) (by have hreach : reach = 140737488355328:=rfl; omega) (by have hreach : reach = 140737488355328:=rfl; omega) hS1 rfl rfl rfl (fun v1 o1 w2 hr1 hS2=>?_)
  have bd3:=hvl.bound
  refine WL.lenSl (hvl.mono hle1) ul36 rfl rfl ?_
  refine LP.go ft [] (fun m ρ1 w1=>∃ (k1 : Nat),∃ (v2 : Value) (o2 : OB),∃ (G2 : GH),m = l.length - k1 ∧ G1.le G2 ∧ St w [] G G2 [o2] w1 ∧ Row Enc.u8 1 5 G2 v2 (encL (l.take k1)) o2 ∧ FR ρ1 [(4,v2),(19,vl),(20, .int .i64 (l.length : Int)),(21, .int .i64 (k1 : Int))] ∧ k1 ≤ l.length) _ ⟨0,v1,o1,G1,rfl,(G1.le_refl),hS2,(Row.cast hr1 (by rfl)),⟨rfl,rfl,rfl,rfl,trivial⟩,(by omega)⟩ ?_
  rintro m ρ1 w3 ⟨k1,v2,o2,G2,rfl,hle2,hS3,hr2,hF9,f1⟩
  refine hF9.set ?_
  clear hF9
  refine WL.lssS (k1 : Int) (l.length : Int) rfl rfl rfl (fun h3=>?_) (fun h3=>?_)
  ·refine WL.indexAddr (hvl.mono (hle1.trans hle2)) k1 (by omega) ul36 ti48 rfl rfl rfl rfl (fun p1 x1 hx1 he1=>?_)
   obtain ⟨cs1,hc1,hr3⟩:=he1
   obtain ⟨rfl,hb1,hb2,hb3⟩:=ValE_open hr3
   refine WL.loadGAt hS3 hc1 [.int .i64 x1.k, .int .i64 x1.n,strV x1.s] ti48 rfl rfl rfl rfl rfl ?_
   refine WL.alloc hS3 ti48 rfl rfl (fun b1 w4 hn1 hS4=>?_)
   refine WL.store hS4 0 _ _ _ 0 _ [.int .i64 x1.k, .int .i64 x1.n,strV x1.s] [.int .i64 x1.k, .int .i64 x1.n,strV x1.s] _ rfl rfl ti48 rfl (Nat.le_of_ble_eq_true rfl) rfl rfl rfl rfl rfl rfl (fun w5 hS5=>?_)
   obtain ⟨G3,hle3,hc2,hS6⟩:=hS5.shutB hn1
   have hvx:=all_at (by assumption : l.all valB = true) (by assumption : l[k1]? = some _)
   obtain ⟨hvk,hvb,hvt⟩:=valB_u8 hvx
   have hel:=encT_len (k:=k1) (by assumption : l.all valB = true) (by assumption)
   refine WL.loadG1 hS6 (Cells.drop 0 hc2) ti3 rfl rfl rfl ?_
   refine WL.toU8 x1.k (by assumption) ul3 ul5 rfl rfl ?_
   refine WL.buildSlice _ [(0,[.int .u8 ((UInt8.ofNat x1.k.toNat).toNat : Int)])] [.int .u8 ((UInt8.ofNat x1.k.toNat).toNat : Int)] hS6 sl199 rfl rfl rfl rfl (fun z hz=>by match z,hz with | [z0],_=>rfl) (fun b2 w6 hn2 hS7=>?_)
   refine WL.push (m:=([(UInt8.ofNat x1.k.toNat)] : List UInt8)) sl199 rfl rfl rfl (hr2.mono hle3) hS7 1 rfl 0 _ _ _ _ _ rfl ⟨[.int .u8 ((UInt8.ofNat x1.k.toNat).toNat : Int)],_,rfl,rfl,rfl⟩ rfl (by have hreach : reach = 140737488355328:=rfl; (simp only [List.length_append,List.length_cons,List.length_nil]; omega)) (by have hreach : reach = 140737488355328:=rfl; (simp only [List.length_append,List.length_cons,List.length_nil]; omega)) rfl rfl rfl (fun v3 o3 w7 hr4 hS8=>?_)
   have hS9:=hS8.tail
   refine WL.loadG1 hS9 (Cells.drop 0 hc2) ti3 rfl rfl rfl ?_
   refine WL.eqlS x1.k 2 rfl rfl rfl (fun h4=>?_) (fun h4=>?_)
   ·refine WL.loadG1 hS9 (Cells.drop 2 hc2) ti9 rfl rfl rfl ?_
    refine WL.pushStr sl199 ul9 rfl rfl rfl hr4 hS9 0 rfl (by simp) (by have hreach : reach = 140737488355328:=rfl; (simp only [List.length_append,List.length_cons,List.length_nil]; omega)) rfl rfl rfl (fun v4 o4 w9 hr5 hS10=>?_)
    refine WL.buildSlice _ [(0,[.int .u8 0])] [.int .u8 0] hS10 sl199 rfl rfl rfl rfl (fun z hz=>by match z,hz with | [z0],_=>rfl) (fun b3 w10 hn3 hS11=>?_)
    refine WL.push (m:=([(0 : UInt8)] : List UInt8)) sl199 rfl rfl rfl hr5 hS11 1 rfl 0 _ _ _ _ _ rfl ⟨[.int .u8 0],_,rfl,rfl,rfl⟩ rfl (by have hreach : reach = 140737488355328:=rfl; (simp only [List.length_append,List.length_cons,List.length_nil]; omega)) (by have hreach : reach = 140737488355328:=rfl; (simp only [List.length_append,List.length_cons,List.length_nil]; omega)) rfl rfl rfl (fun v5 o5 w11 hr6 hS12=>?_)
    have hS13:=hS12.tail
    refine WL.incr k1 (by have hreach : reach = 140737488355328:=rfl; omega) rfl rfl rfl ?_
    exact BK.mk' _ ⟨k1 + 1,v5,o5,G3,rfl,(hle2.trans hle3),hS13,(Row.cast hr6 (by (rw [encL_take (by assumption)]; (rw [encV_text (by assumption)]; simp only [List.append_assoc])))),⟨rfl,rfl,rfl,rfl,trivial⟩,(by omega)⟩ (show l.length - (k1 + 1) < l.length - k1 by omega)
   refine WL.eqlS x1.k 3 rfl rfl rfl (fun h5=>?_) (fun h5=>?_)
   ·refine WL.loadG1 hS9 (Cells.drop 1 hc2) ti3 rfl rfl rfl ?_
    refine WL.toU8 x1.n (by exact hvb (by assumption)) ul3 ul5 rfl rfl ?_
    refine WL.buildSlice _ [(0,[.int .u8 ((UInt8.ofNat x1.n.toNat).toNat : Int)])] [.int .u8 ((UInt8.ofNat x1.n.toNat).toNat : Int)] hS9 sl199 rfl rfl rfl rfl (fun z hz=>by match z,hz with | [z0],_=>rfl) (fun b4 w12 hn4 hS14=>?_)
    refine WL.push (m:=([(UInt8.ofNat x1.n.toNat)] : List UInt8)) sl199 rfl rfl rfl hr4 hS14 1 rfl 0 _ _ _ _ _ rfl ⟨[.int .u8 ((UInt8.ofNat x1.n.toNat).toNat : Int)],_,rfl,rfl,rfl⟩ rfl (by have hreach : reach = 140737488355328:=rfl; (simp only [List.length_append,List.length_cons,List.length_nil]; omega)) (by have hreach : reach = 140737488355328:=rfl; (simp only [List.length_append,List.length_cons,List.length_nil]; omega)) rfl rfl rfl (fun v6 o6 w13 hr7 hS15=>?_)
    have hS16:=hS15.tail
    refine WL.incr k1 (by have hreach : reach = 140737488355328:=rfl; omega) rfl rfl rfl ?_
    exact BK.mk' _ ⟨k1 + 1,v6,o6,G3,rfl,(hle2.trans hle3),hS16,(Row.cast hr7 (by (rw [encL_take (by assumption)]; (rw [encV_bool (by assumption)]; simp only [List.append_assoc])))),⟨rfl,rfl,rfl,rfl,trivial⟩,(by omega)⟩ (show l.length - (k1 + 1) < l.length - k1 by omega)
   refine WL.loadG1 hS9 (Cells.drop 1 hc2) ti3 rfl rfl rfl <| WL.toU64m x1.n ul3 ul189 rfl rfl <| WL.xorU x1.n hb2 rfl rfl rfl ?_
   refine LP.go ft [] (fun m ρ1 w1=>∃ (j : Nat),∃ (i : Int),∃ (v7 : Value) (o7 : OB),∃ (G4 : GH),m = (8 - j) ∧ G3.le G4 ∧ St w [] G G4 [o7] w1 ∧ Row Enc.u8 1 5 G4 v7 ((encL (l.take k1) ++ [UInt8.ofNat x1.k.toNat]) ++ encP x1.n j) o7 ∧ FR ρ1 [(4,v7),(7, .int .u64 ((u63 x1.n : Nat) : Int)),(8, .int .i64 i),(19,vl),(20, .int .i64 (l.length : Int)),(21, .int .i64 (k1 : Int))] ∧ j ≤ 8 ∧ i = 56 - 8 * (j : Int)) _ ⟨0,56,v3,o3,G3,rfl,(G3.le_refl),hS9,(Row.cast hr4 (by simp [encP])),⟨rfl,rfl,rfl,rfl,rfl,rfl,trivial⟩,(by omega),(by omega)⟩ ?_
   rintro m ρ1 w14 ⟨j,i,v7,o7,G4,rfl,hle4,hS17,hr8,hF9,f2,f3⟩
   refine hF9.set ?_
   clear hF9
   have hpl:=@encP_len x1.n j
   refine WL.geqS i 0 rfl rfl rfl (fun h6=>?_) (fun h6=>?_)
   ·refine WL.shrU (u63 x1.n) i (by omega) (by omega) rfl rfl rfl ?_
    refine WL.toU8 ((((u63 x1.n) / 2 ^ i.toNat) : Nat) : Int) (by exact Int.natCast_nonneg _) ul189 ul5 rfl rfl ?_
    refine WL.buildSlice _ [(0,[.int .u8 ((UInt8.ofNat ((((u63 x1.n) / 2 ^ i.toNat) : Nat) : Int).toNat).toNat : Int)])] [.int .u8 ((UInt8.ofNat ((((u63 x1.n) / 2 ^ i.toNat) : Nat) : Int).toNat).toNat : Int)] hS17 sl199 rfl rfl rfl rfl (fun z hz=>by match z,hz with | [z0],_=>rfl) (fun b5 w15 hn5 hS18=>?_)
    refine WL.push (m:=([(UInt8.ofNat ((((u63 x1.n) / 2 ^ i.toNat) : Nat) : Int).toNat)] : List UInt8)) sl199 rfl rfl rfl hr8 hS18 1 rfl 0 _ _ _ _ _ rfl ⟨[.int .u8 ((UInt8.ofNat ((((u63 x1.n) / 2 ^ i.toNat) : Nat) : Int).toNat).toNat : Int)],_,rfl,rfl,rfl⟩ rfl (by have hreach : reach = 140737488355328:=rfl; (simp only [List.length_append,List.length_cons,List.length_nil]; omega)) (by have hreach : reach = 140737488355328:=rfl; (simp only [List.length_append,List.length_cons,List.length_nil]; omega)) rfl rfl rfl (fun v9 o8 w16 hr9 hS19=>?_)
    have hS20:=hS19.tail
    have hi1 : I64 (i - 8):=by constructor <;> omega
    refine WL.ar .sub rfl i 8 rfl rfl rfl hi1 ?_
    exact BK.mk' _ ⟨j + 1,(i - 8),v9,o8,G4,rfl,hle4,hS20,(Row.cast hr9 (by (rw [encP_step (by assumption) (by assumption)]; simp only [List.append_assoc]))),⟨rfl,rfl,rfl,rfl,rfl,rfl,trivial⟩,(by omega),(by omega)⟩ (show (8 - (j + 1)) < (8 - j) by omega)
   refine WL.incr k1 (by have hreach : reach = 140737488355328:=rfl; omega) rfl rfl rfl ?_
   exact BK.mk' _ ⟨k1 + 1,v7,o7,G4,rfl,(hle2.trans (hle3.trans hle4)),hS17,(Row.cast hr8 (by (rw [encL_take (by assumption)]; (rw [encV_num (by assumption) (by assumption),encP_all (by omega)]; simp only [List.append_assoc])))),⟨rfl,rfl,rfl,rfl,trivial⟩,(by omega)⟩ (show l.length - (k1 + 1) < l.length - k1 by omega)
  obtain ⟨G5,hle5,hs1,hS21⟩:=Row.freeze hr2 hS3 0 rfl
  exact RT hS21 rfl ⟨_,_,rfl,(Sl.cast hs1 (by (rw [List.take_of_length_le (by omega)]; exact (keyE_yes (by omega) (by assumption)).symm))),(congrArg (Value.int .i64) (by exact (encE_0 (by omega) (by assumption)).symm))⟩
 exact RT hS1 rfl ⟨_,_,rfl,(Sl.cast (Sl.nil Enc.u8 1 G1) (by exact (keyE_no2 (by assumption)).symm)),(congrArg (Value.int .i64) (by exact (encE_1 (by omega) (by assumption)).symm))⟩
theorem c_key {G : GH} {w : World} (hG : G.In w) (l : List Val) (vl : Value) (hvl : Sl ValE 32 G vl l) : CL Tryz.prog (nat_lit 130) #[vl] [] w G fun _ _ r=>r = strV (keyE l):=by
 refine calls_of_go ft [] Tryz.func130 rfl rfl ?_
 have hS:=St.start (X:=[]) hG
 refine WL.cA hS hb169 rfl rfl rfl (c_Encode hS.imm l _ hvl) ?_
 rintro w1 G1 _ ⟨r2,_,rfl,hs1,rfl⟩ hS1 hle1
 refine WL.bytesStr hs1 hS1 ul199 ul5 ul9 rfl rfl ?_
 exact RT hS1 rfl (congrArg strV (by rfl))
end Go.Civ
set_option linter.unusedVariables false
set_option linter.unusedSimpArgs false
set_option maxRecDepth 100000
set_option maxHeartbeats 4000000
namespace Go.Civ
open Go.Proofs
theorem c_groups1 {G : GH} {w : World} (hG : G.In w) (x y : HGrp) (cx : List Value) (hcx : HGrpE.rep G x cx) (cy : List Value) (hcy : HGrpE.rep G y cy) : CL Tryz.prog (nat_lit 132) #[.agg cx.toArray, .agg cy.toArray] [] w G fun _ _ r=>r = .int .i64 (ordV x.v y.v):=by
 refine calls_of_go ft [] Tryz.func132 rfl rfl ?_
 have hS:=St.start (X:=[]) hG
 obtain ⟨v1,v2,rfl,hs1,hs2⟩:=HGrpE_open hcx
 obtain ⟨v3,v4,rfl,hs3,hs4⟩:=HGrpE_open hcy
 refine WL.boxG [v1,v2] _ hS rfl rfl rfl (fun p1 w1 G1 hle1 hsp1 hc1 hS1=>?_)
 refine WL.boxG [v3,v4] _ hS1 rfl rfl rfl (fun p2 w2 G2 hle2 hsp2 hc2 hS2=>?_)
 refine WL.loadG1 hS2 (Cells.drop 0 (hc1.mono hle2)) ti36 rfl rfl rfl <| WL.loadG1 hS2 (Cells.drop 0 hc2) ti36 rfl rfl rfl ?_
 refine WL.cV hS2 hb58 rfl rfl rfl (c_Order hS2.imm x.v y.v _ (hs1.mono (hle1.trans hle2)) _ (hs3.mono (hle1.trans hle2))) (fun w3 G3 hS3 hle3=>?_)
 exact RI hS3 rfl (by rfl)
end Go.Civ
set_option linter.unusedVariables false
namespace Go.Civ
open Go.Proofs Go.Shelf Go.RowKit Go.Lib Go.Sort
theorem c_SortG {G : GH} {w : World} (hG : G.In w) (l : List HGrp) (vd : Value) (od : OB) (hvd : Row HGrpE 48 (nat_lit 128) G vd l od) (hod : Lent w G od) (hV : ∀ g ∈ l, g.v.all valB = true) :
    Calls Tryz.prog (nat_lit 131) #[vd, .func (.func 132) #[] #[]] w fun e w' => ∃ r G', e = .returned r ∧ Res (blk od) w G w' G' ∧ r = .tuple #[] ∧ ∃ (l' : List HGrp) (o' : OB), Row HGrpE 48 (nat_lit 128) G' vd l' o' ∧ Lent w' G' o' ∧ (l'.Perm l ∧ l'.Pairwise fun x y => ¬ ordV y.v x.v < 0) :=
  sortRow Tryz.sortGr (E := HGrpE) (by decide) Tryz.isAgg128 Tryz.sizeOf128 (fun x y => ordV x.v y.v) (fun g => g.v.all valB = true)
    (fun x hx => by rw [ordV_valid hx hx, ord.refl]; omega)
    (fun x y z hx hy hz p q => by rw [ordV_valid hx hy] at p; rw [ordV_valid hy hz] at q; rw [ordV_valid hx hz]; exact ord.trans _ _ _ p q)
    (fun x y z hx hy hz p q => by rw [ordV_valid hx hy] at p; rw [ordV_valid hy hz] at q; rw [ordV_valid hx hz]; exact ord.le_trans q p)
    132 (enters_of Tryz.func132 (by kernel_rfl) rfl) hG (fun W hW x y cx cy hx hy rx ry => c_groups1 hW x y cx rx cy ry)
    ⟨[], []⟩ _ (HGrpE_mk ⟨[], []⟩ (Sl.nil _ _ _) (Sl.nil _ _ _)) rfl l hV vd od hvd hod
end Go.Civ
namespace Go.Proofs
open Go.Shelf
def Tryz.laysCompact_ren : Go.Shelf.Ren := ⟨fun | 20 => 160 | n => n, fun | 22 => 135 | 3 => 3 | 4 => 4 | 0 => 0 | n => n, fun | n => n⟩
theorem Tryz.laysCompact : Go.Proofs.Lays2.n20 Tryz.prog Tryz.laysCompact_ren := {
  mixed := by kernel_rfl
  f20 := Tryz.func160.trans (congrArg some (by kernel_rfl))
  t0 := Tryz.underlying0
  a0 := Tryz.isAgg0
  z0 := Tryz.sizeOf0
  v0 := Tryz.zeroValue0
  t3 := Tryz.underlying3
  a3 := Tryz.isAgg3
  z3 := Tryz.sizeOf3
  v3 := Tryz.zeroValue3
  t4 := Tryz.underlying4
  a4 := Tryz.isAgg4
  z4 := Tryz.sizeOf4
  v4 := Tryz.zeroValue4
  t22 := Tryz.underlying135
  a22 := Tryz.isAgg135
  z22 := Tryz.sizeOf135
  v22 := Tryz.zeroValue135
  i3 := by kernel_rfl }
end Go.Proofs
