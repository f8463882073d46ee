/- Lemmas: Civ51, Civ52. -/
import Derived.Test.YtjjkgobhlfmhhaaGreatU09
import Derived.Test.YtjjkgobhlfmhhaaGreatU10
import Derived.Test.YtjjkgobhlfmhhaaGreatU15
import Derived.Lib.Bytealg
namespace Go.Civ
open Go.RowKit
set_option linter.unusedVariables false

structure HGrp where
  v : List Val
  t : List HRow
def HGrpE : Enc HGrp := (Enc.pair (ValE.slice 32) (HRowE.slice 56)).via fun x => (x.v, x.t)
theorem HGrpE_open {G : GH} {x : HGrp} {cs : List Value} (h : HGrpE.rep G x cs) : ∃ v u, cs = [v, u] ∧ Sl ValE 32 G v x.v ∧ Sl HRowE 56 G u x.t := by
  obtain ⟨c1, c2, rfl, ⟨v, rfl, h1⟩, u, rfl, h2⟩ := h
  exact ⟨v, u, rfl, h1, h2⟩
theorem HGrpE_mk {G : GH} (x : HGrp) {v u : Value} (h1 : Sl ValE 32 G v x.v) (h2 : Sl HRowE 56 G u x.t) : HGrpE.rep G x [v, u] := ⟨[v], [u], rfl, ⟨v, rfl, h1⟩, u, rfl, h2⟩

def liveB (tx : Int) (r : HRow) : Bool := decide (r.r.x.a ≤ tx) && decide (tx < r.r.x.b)
def spansH (l : List HRow) (tx : Int) : List Span := (l.filter (liveB tx)).map fun r => r.r.d
def timesH (l : List HRow) (tx : Int) : List Span := canon (spansH l tx)
def goodB (r : HRow) : Bool := r.v.all valB && spanB r.r.d && spanB r.r.x
def GoodH (l : List HRow) : Prop := ∀ r ∈ l, goodB r = true
def ofV (l : List HRow) (v : List Val) : List HRow := l.filter fun r => decide (r.v = v)
def valsH (l : List HRow) : VV := l.foldl (fun out r => insV out r.v) []
def grpH (l : List HRow) : List HGrp := (valsH l).map fun v => ⟨v, ofV l v⟩
theorem goodB_parts {r : HRow} (h : goodB r = true) : r.v.all valB = true ∧ spanB r.r.d = true ∧ spanB r.r.x = true := by
  unfold goodB at h; simp only [Bool.and_eq_true] at h; exact ⟨h.1.1, h.1.2, h.2⟩
theorem spansH_take {l : List HRow} {k : Nat} {x : HRow} {tx : Int} (h : l[k]? = some x) : spansH (l.take (k + 1)) tx = spansH (l.take k) tx ++ if liveB tx x then [x.r.d] else [] := by
  rw [List.take_add_one, h]; unfold spansH; rw [List.filter_append, List.map_append]; congr 1
  simp only [Option.toList]; cases hb : liveB tx x <;> simp [hb]
theorem spansH_len (l : List HRow) (tx : Int) : (spansH l tx).length ≤ l.length := by
  unfold spansH; rw [List.length_map]; exact List.length_filter_le _ _
theorem spansH_takeLen (l : List HRow) (tx : Int) (k : Nat) : (spansH (l.take k) tx).length ≤ l.length := Nat.le_trans (spansH_len _ _) (List.length_take_le' _ _)
theorem spansH_good {l : List HRow} (h : ∀ r ∈ l, spanB r.r.d = true) (tx : Int) : ∀ s ∈ spansH l tx, spanB s = true := fun s hs => by
  obtain ⟨r, hr, rfl⟩ := List.mem_map.1 hs
  exact h r (List.mem_filter.1 hr).1
theorem timesH_len (l : List HRow) (tx : Int) : (timesH l tx).length ≤ l.length := Nat.le_trans canon_len (spansH_len _ _)

theorem valsH_snoc (l : List HRow) (r : HRow) : valsH (l ++ [r]) = insV (valsH l) r.v := by simp [valsH, List.foldl_append]
theorem valsH_take {l : List HRow} {k : Nat} {r : HRow} (h : l[k]? = some r) : valsH (l.take (k + 1)) = insV (valsH (l.take k)) r.v := by
  rw [List.take_add_one, h]; exact valsH_snoc _ _
theorem valsH_inv : ∀ (n : Nat) (l : List HRow), l.length = n → IncV (valsH l) ∧ (∀ v, v ∈ valsH l ↔ ∃ r ∈ l, r.v = v) ∧ (valsH l).length ≤ l.length
  | 0, l, h => by
    obtain rfl := List.length_eq_zero_iff.1 h
    exact ⟨List.Pairwise.nil, fun v => by simp [valsH], Nat.le_refl _⟩
  | n + 1, l, h => by
    obtain ⟨m, r, rfl⟩ : ∃ m r, l = m ++ [r] := ⟨l.dropLast, l.getLast (by intro e; simp [e] at h), (List.dropLast_concat_getLast _).symm⟩
    obtain ⟨h1, h2, h3⟩ := valsH_inv n m (by simpa using h)
    rw [valsH_snoc]
    refine ⟨insV_inc h1, fun v => ?_, ?_⟩
    · rw [insV_mem, h2]
      constructor
      · rintro (⟨x, hx, rfl⟩ | rfl)
        · exact ⟨x, by simp [hx], rfl⟩
        · exact ⟨r, by simp, rfl⟩
      · rintro ⟨x, hx, rfl⟩
        rcases List.mem_append.1 hx with hx | hx
        · exact .inl ⟨x, hx, rfl⟩
        · rw [List.mem_singleton.1 hx]; exact .inr rfl
    · have := insV_len (valsH m) r.v; rw [List.length_append]; simp only [List.length_singleton]; omega
theorem valsH_inc (l : List HRow) : IncV (valsH l) := (valsH_inv _ l rfl).1
theorem valsH_mem {l : List HRow} {v : List Val} : v ∈ valsH l ↔ ∃ r ∈ l, r.v = v := (valsH_inv _ l rfl).2.1 v
theorem valsH_len (l : List HRow) : (valsH l).length ≤ l.length := (valsH_inv _ l rfl).2.2
theorem valsH_takeLen (l : List HRow) (k : Nat) : (valsH (l.take k)).length ≤ l.length := Nat.le_trans (valsH_len _) (List.length_take_le' _ _)
def idxG (out : List HGrp) (v : List Val) : Option Nat := out.findIdx? fun g => decide (g.v = v)
def addG (out : List HGrp) (i : Nat) (r : HRow) : List HGrp := match out[i]? with
  | some g => out.set i ⟨g.v, g.t ++ [r]⟩
  | none => out
def hstep (out : List HGrp) (r : HRow) : List HGrp := match idxG out r.v with
  | some i => addG out i r
  | none => out ++ [⟨r.v, [r]⟩]
def hgroups (l : List HRow) : List HGrp := l.foldl hstep []
structure HInv (l : List HRow) (out : List HGrp) : Prop where
  nd : (out.map HGrp.v).Nodup
  rows : ∀ g ∈ out, g.t = ofV l g.v
  mem : ∀ v, v ∈ out.map HGrp.v ↔ ∃ r ∈ l, r.v = v
theorem hgroups_snoc (l : List HRow) (r : HRow) : hgroups (l ++ [r]) = hstep (hgroups l) r := by simp [hgroups, List.foldl_append]
theorem hgroups_take {l : List HRow} {k : Nat} {r : HRow} (h : l[k]? = some r) : hgroups (l.take (k + 1)) = hstep (hgroups (l.take k)) r := by
  rw [List.take_add_one, h]; exact hgroups_snoc _ _
theorem idxG_some {out : List HGrp} {v : List Val} {i : Nat} (h : idxG out v = some i) : ∃ g, out[i]? = some g ∧ g.v = v := by
  unfold idxG at h
  rw [List.findIdx?_eq_some_iff_getElem] at h
  obtain ⟨hl, h1, _⟩ := h
  exact ⟨out[i], List.getElem?_eq_getElem hl, by simpa using h1⟩
theorem idxG_none {out : List HGrp} {v : List Val} (h : idxG out v = none) : v ∉ out.map HGrp.v := by
  unfold idxG at h
  rw [List.findIdx?_eq_none_iff] at h
  intro hv
  obtain ⟨g, hg, rfl⟩ := List.mem_map.1 hv
  simpa using h g hg
theorem addG_at {out : List HGrp} {i : Nat} {g : HGrp} (r : HRow) (h : out[i]? = some g) : addG out i r = out.set i ⟨g.v, g.t ++ [r]⟩ := by unfold addG; rw [h]
theorem addG_vals {out : List HGrp} {i : Nat} {r : HRow} : (addG out i r).map HGrp.v = out.map HGrp.v := by
  unfold addG
  split
  · rename_i g hg
    rw [List.map_set]
    apply List.ext_getElem?
    intro j
    rw [List.getElem?_set]
    split
    · rename_i hj; subst hj
      rw [List.getElem?_map, hg, List.length_map]
      rw [if_pos (List.getElem?_eq_some_iff.1 hg).1]; rfl
    · rfl
  · rfl
theorem ofV_snoc (l : List HRow) (r : HRow) (v : List Val) : ofV (l ++ [r]) v = ofV l v ++ if r.v = v then [r] else [] := by
  unfold ofV; rw [List.filter_append]; congr 1
  by_cases h : r.v = v <;> simp [h]
theorem hgroups_inv : ∀ (n : Nat) (l : List HRow), l.length = n → HInv l (hgroups l)
  | 0, l, h => by
    obtain rfl := List.length_eq_zero_iff.1 h
    exact ⟨by simp [hgroups], fun g hg => by simp [hgroups] at hg, fun v => by simp [hgroups]⟩
  | n + 1, l, h => by
    obtain ⟨m, r, rfl⟩ : ∃ m r, l = m ++ [r] := ⟨l.dropLast, l.getLast (by intro e; simp [e] at h), (List.dropLast_concat_getLast _).symm⟩
    obtain ⟨h1, h2, h3⟩ := hgroups_inv n m (by simpa using h)
    rw [hgroups_snoc]
    unfold hstep
    cases hi : idxG (hgroups m) r.v with
    | some i =>
      obtain ⟨g, hg, hgv⟩ := idxG_some hi
      simp only
      refine ⟨by rw [addG_vals]; exact h1, fun x hx => ?_, fun v => ?_⟩
      · rw [addG_at r hg] at hx
        obtain ⟨j, hj⟩ := List.getElem?_of_mem hx
        rw [List.getElem?_set] at hj
        split at hj
        · rename_i hij; subst hij
          split at hj
          · obtain rfl := Option.some.inj hj
            simp only
            rw [ofV_snoc, if_pos hgv.symm, h2 g (List.mem_of_getElem? hg)]
          · cases hj
        · rename_i hij
          rw [ofV_snoc, if_neg, h2 x (List.mem_of_getElem? hj), List.append_nil]
          intro e
          have a1 : (hgroups m |>.map HGrp.v)[i]? = some r.v := by rw [List.getElem?_map, hg]; simp [hgv]
          have a2 : (hgroups m |>.map HGrp.v)[j]? = some r.v := by rw [List.getElem?_map, hj]; simp [e]
          have b1 := (List.getElem?_eq_some_iff.1 a1).1
          exact hij ((List.getElem?_inj b1 h1).1 (a1.trans a2.symm))
      · rw [addG_vals, h3]
        constructor
        · rintro ⟨x, hx, rfl⟩; exact ⟨x, by simp [hx], rfl⟩
        · rintro ⟨x, hx, rfl⟩
          rcases List.mem_append.1 hx with hx | hx
          · exact ⟨x, hx, rfl⟩
          · rw [List.mem_singleton.1 hx, ← h3, ← hgv]; exact List.mem_map.2 ⟨g, List.mem_of_getElem? hg, rfl⟩
    | none =>
      have hn := idxG_none hi
      simp only
      refine ⟨?_, fun x hx => ?_, fun v => ?_⟩
      · rw [List.map_append, List.nodup_append]
        refine ⟨h1, by simp, fun a ha b hb => ?_⟩
        simp at hb; subst hb
        exact fun e => hn (e ▸ ha)
      · rcases List.mem_append.1 hx with hx | hx
        · rw [ofV_snoc, if_neg, h2 x hx, List.append_nil]
          exact fun e => hn (e ▸ List.mem_map.2 ⟨x, hx, rfl⟩)
        · rw [List.mem_singleton.1 hx]
          simp only
          rw [ofV_snoc, if_pos rfl]
          have : ofV m r.v = [] := by
            unfold ofV
            rw [List.filter_eq_nil_iff]
            intro y hy
            simp only [decide_eq_true_eq]
            exact fun e => hn ((h3 _).2 ⟨y, hy, e⟩)
          rw [this]; rfl
      · rw [List.map_append, List.mem_append, h3]
        constructor
        · rintro (⟨x, hx, rfl⟩ | hv)
          · exact ⟨x, by simp [hx], rfl⟩
          · simp at hv; subst hv; exact ⟨r, by simp, rfl⟩
        · rintro ⟨x, hx, rfl⟩
          rcases List.mem_append.1 hx with hx | hx
          · exact .inl ⟨x, hx, rfl⟩
          · rw [List.mem_singleton.1 hx]; exact .inr (by simp)
theorem hgroups_is (l : List HRow) : HInv l (hgroups l) := hgroups_inv _ l rfl
theorem hstep_len (out : List HGrp) (r : HRow) : (hstep out r).length ≤ out.length + 1 := by
  unfold hstep
  cases idxG out r.v with
  | none => simp
  | some i => simp only; unfold addG; split <;> simp
theorem hgroups_len (l : List HRow) : ∀ k, (hgroups (l.take k)).length ≤ k
  | 0 => by simp [hgroups]
  | k + 1 => by
    have h := hgroups_len l k
    cases e : l[k]? with
    | none => rw [List.take_add_one, e]; simpa using Nat.le_succ_of_le h
    | some r => rw [hgroups_take e]; exact Nat.le_trans (hstep_len _ _) (by omega)
theorem grpH_of {l : List HRow} {s : List HGrp} (hg : ∀ r ∈ l, r.v.all valB = true) (hp : s.Perm (hgroups l)) (hs : s.Pairwise fun x y => ¬ ordV y.v x.v < 0) : s = grpH l := by
  have I := hgroups_is l
  have hv : ∀ g ∈ s, g.v.all valB = true := fun g h => by
    obtain ⟨r, hr, e⟩ := (I.mem g.v).1 (List.mem_map.2 ⟨g, hp.mem_iff.1 h, rfl⟩)
    rw [← e]; exact hg r hr
  have nd : (s.map HGrp.v).Nodup := (hp.map HGrp.v).nodup_iff.2 I.nd
  have e1 : s.map HGrp.v = valsH l := by
    refine strict_unique ord ?_ (valsH_inc l) fun v => ?_
    · rw [List.pairwise_map]
      have nd2 : s.Pairwise fun x y => x.v ≠ y.v := by
        unfold List.Nodup at nd; rw [List.pairwise_map] at nd; exact nd
      refine List.Pairwise.imp_of_mem ?_ (List.Pairwise.and hs nd2)
      intro x y hx hy h
      rw [ordV_valid (hv y hy) (hv x hx)] at h
      rcases Int.lt_or_le (cmpL cmpV x.v y.v) 0 with k | k
      · exact k
      · exfalso
        by_cases e : cmpL cmpV x.v y.v = 0
        · exact h.2 ((ord.eq _ _).1 e)
        · exact h.1 ((ord.swap _ _).2 (by omega))
    · rw [(hp.map HGrp.v).mem_iff, I.mem, valsH_mem]
  unfold grpH
  rw [← e1, List.map_map]
  symm
  have : ∀ g ∈ s, ((fun v => (⟨v, ofV l v⟩ : HGrp)) ∘ HGrp.v) g = g := fun g h => by
    have := I.rows g (hp.mem_iff.1 h)
    simp only [Function.comp]
    rw [← this]
  rw [List.map_congr_left this, List.map_id']

structure NS where
  out : List HRow
  now : List Span
  fr : Int
def outN (v : List Val) (now : List Span) (a b : Int) : List HRow := now.map fun s => ⟨v, ⟨s, ⟨a, b⟩⟩⟩
def nstep (v : List Val) (f : Int → List Span) (s : NS) (c : Int) : NS := if s.now = f c then s else ⟨s.out ++ outN v s.now s.fr c, f c, c⟩
def runN (v : List Val) (f : Int → List Span) (cs : List Int) : NS := cs.foldl (nstep v f) ⟨[], [], 0⟩
def cutsL (l : List HRow) : List Int := endsR (l.map fun r => r.r.x)
def normG (g : HGrp) : List HRow := (runN g.v (timesH g.t) (cutsL g.t)).out
def normH (l : List HRow) : List HRow := (grpH l).flatMap normG
def spansV (l : List HRow) (v : List Val) (tx : Int) : List Span := (l.filter fun r => liveB tx r && decide (r.v = v)).map fun r => r.r.d
def rtimesH (l : List HRow) (v : List Val) (tx : Int) : List Span := combR 1 (spansV l v tx) []
def rnormH (l : List HRow) : List HRow := (valsH l).flatMap fun v => (runN v (rtimesH l v) (cutsL l)).out

theorem runN_take {v : List Val} {f : Int → List Span} {cs : List Int} {k : Nat} {c : Int} (h : cs[k]? = some c) : runN v f (cs.take (k + 1)) = nstep v f (runN v f (cs.take k)) c := by
  rw [List.take_add_one, h]; simp [runN, List.foldl_append]
theorem nstep_same {v : List Val} {f : Int → List Span} {s : NS} {c : Int} (h : s.now = f c) : nstep v f s c = s := by unfold nstep; rw [if_pos h]
theorem nstep_new {v : List Val} {f : Int → List Span} {s : NS} {c : Int} (h : s.now ≠ f c) : nstep v f s c = ⟨s.out ++ outN v s.now s.fr c, f c, c⟩ := by unfold nstep; rw [if_neg h]

theorem spansV_eq (l : List HRow) (v : List Val) (tx : Int) : spansV l v tx = spansH (ofV l v) tx := by
  unfold spansV spansH ofV; rw [List.filter_filter]
theorem GoodH.d {l : List HRow} (h : GoodH l) : ∀ r ∈ l, spanB r.r.d = true := fun r hr => (goodB_parts (h r hr)).2.1
theorem GoodH.of {l : List HRow} (h : GoodH l) (v : List Val) : GoodH (ofV l v) := fun r hr => h r (List.mem_filter.1 hr).1
theorem rtimes_eq {l : List HRow} (h : GoodH l) (v : List Val) (tx : Int) : rtimesH l v tx = timesH (ofV l v) tx := by
  unfold rtimesH timesH
  rw [spansV_eq]
  exact combR_union fun s hs => spanB_pos (spansH_good (h.of v).d tx s hs)

theorem runN_go {v : List Val} {f : Int → List Span} : ∀ (E C : List Int) (s : NS), E.Pairwise (· < ·) → C.Pairwise (· < ·) → (∀ c ∈ C, c ∈ E) →
    (∀ e ∈ E, (∀ c ∈ C, e < c) → f e = s.now) → (∀ c ∈ C, ∀ e ∈ E, c ≤ e → (∀ c' ∈ C, c < c' → e < c') → f e = f c) → E.foldl (nstep v f) s = C.foldl (nstep v f) s
  | [], [], s, _, _, _, _, _ => rfl
  | [], c :: C, s, _, _, h, _, _ => absurd (h c (by simp)) (by simp)
  | e :: E, C, s, hE, hC, hs, h0, hc => by
    obtain ⟨hE1, hE2⟩ := List.pairwise_cons.1 hE
    rw [List.foldl_cons]
    by_cases he : e ∈ C
    · cases C with
      | nil => cases he
      | cons c C =>
        obtain ⟨hC1, hC2⟩ := List.pairwise_cons.1 hC
        have ec : e = c := by
          rcases List.mem_cons.1 he with h | h
          · exact h
          · have a := hC1 e h
            rcases List.mem_cons.1 (hs c (by simp)) with h' | h'
            · exact h'.symm
            · have := hE1 c h'; omega
        subst ec
        rw [List.foldl_cons]
        refine runN_go E C _ hE2 hC2 (fun c hcC => ?_) (fun x hx hxC => ?_) (fun c hcC x hx hle hno => ?_)
        · rcases List.mem_cons.1 (hs c (by simp [hcC])) with h' | h'
          · have := hC1 c hcC; omega
          · exact h'
        · have hxe := hE1 x hx
          have e1 : f x = f e := hc e (by simp) x (by simp [hx]) (by omega) (fun c' hc' hlt => by
            rcases List.mem_cons.1 hc' with h' | h'
            · omega
            · exact hxC c' h')
          rw [e1]
          unfold nstep
          split
          · rename_i hn; exact hn.symm
          · rfl
        · exact hc c (by simp [hcC]) x (by simp [hx]) hle (fun c' hc' hlt => by
            rcases List.mem_cons.1 hc' with h' | h'
            · subst h'; have := hC1 c hcC; omega
            · exact hno c' h' hlt)
    · have hlt : ∀ c ∈ C, e < c := fun c hcC => by
        rcases List.mem_cons.1 (hs c hcC) with h' | h'
        · exact absurd (h' ▸ hcC) he
        · exact hE1 c h'
      rw [nstep_same (h0 e (by simp) hlt).symm]
      refine runN_go E C s hE2 hC (fun c hcC => ?_) (fun x hx hxC => h0 x (by simp [hx]) hxC) (fun c hcC x hx => hc c hcC x (by simp [hx]))
      rcases List.mem_cons.1 (hs c hcC) with h' | h'
      · exact absurd (h' ▸ hcC) he
      · exact h'
theorem cutsL_mem {l : List HRow} {y : Int} : y ∈ cutsL l ↔ ∃ r ∈ l, y = r.r.x.a ∨ y = r.r.x.b := by
  unfold cutsL; rw [endsR_mem]
  constructor
  · rintro ⟨s, hs, h⟩; obtain ⟨r, hr, rfl⟩ := List.mem_map.1 hs; exact ⟨r, hr, h⟩
  · rintro ⟨r, hr, h⟩; exact ⟨r.r.x, List.mem_map.2 ⟨r, hr, rfl⟩, h⟩
theorem cutsL_inc (l : List HRow) : (cutsL l).Pairwise (· < ·) := endsR_inc _
theorem cutsL_len (l : List HRow) : (cutsL l).length ≤ 2 * l.length := by have := endsR_len (l.map fun r => r.r.x); rw [List.length_map] at this; exact this
theorem live_same {l : List HRow} {x y : Int} (hxy : x ≤ y) (h : ∀ c ∈ cutsL l, x < c → y < c) : spansH l y = spansH l x := by
  unfold spansH
  have : ∀ r ∈ l, liveB y r = liveB x r := fun r hr => by
    have ha := h r.r.x.a (cutsL_mem.2 ⟨r, hr, .inl rfl⟩)
    have hb := h r.r.x.b (cutsL_mem.2 ⟨r, hr, .inr rfl⟩)
    unfold liveB
    have e1 : decide (r.r.x.a ≤ y) = decide (r.r.x.a ≤ x) := decide_eq_decide.2 ⟨fun q => by omega, fun q => by omega⟩
    have e2 : decide (y < r.r.x.b) = decide (x < r.r.x.b) := decide_eq_decide.2 ⟨fun q => by omega, fun q => by omega⟩
    rw [e1, e2]
  rw [List.filter_congr this]
theorem canon_none : canon [] = [] := by simp [canon, sortA, mergeS]
theorem live_none {l : List HRow} {x : Int} (hg : GoodH l) (h : ∀ c ∈ cutsL l, x < c) : spansH l x = [] := by
  unfold spansH
  have : l.filter (liveB x) = [] := by
    rw [List.filter_eq_nil_iff]
    intro r hr hl
    have ha := h r.r.x.a (cutsL_mem.2 ⟨r, hr, .inl rfl⟩)
    unfold liveB at hl
    simp at hl; omega
  rw [this]; rfl
theorem norm_eq {l : List HRow} (hg : GoodH l) : normH l = rnormH l := by
  unfold normH rnormH grpH
  rw [List.flatMap_map]
  congr 1
  funext v
  unfold normG
  simp only
  have ef : rtimesH l v = timesH (ofV l v) := funext fun tx => rtimes_eq hg v tx
  rw [ef]
  congr 1
  symm
  refine runN_go _ _ _ (cutsL_inc l) (cutsL_inc _) (fun c hc => ?_) (fun e he h => ?_) (fun c hc e he hle h => ?_)
  · obtain ⟨r, hr, h⟩ := cutsL_mem.1 hc
    exact cutsL_mem.2 ⟨r, (List.mem_filter.1 hr).1, h⟩
  · unfold timesH; rw [live_none (hg.of v) h]; exact canon_none
  · unfold timesH; rw [live_same hle h]
end Go.Civ
namespace Go.Civ
open Go.RowKit
set_option linter.unusedVariables false

def ltrI (c : Int) : Bool := (decide (65 ≤ c) && decide (c ≤ 90)) || (decide (97 ≤ c) && decide (c ≤ 122))
def digI (c : Int) : Bool := decide (48 ≤ c) && decide (c ≤ 57)
def ixM (c : Int) : Int := Go.Lib.indexByte [95, 47, 43, 45] c.toNat.toUInt8
def nameC (c : UInt8) : Bool := ltrI (c.toNat : Int) || digI (c.toNat : Int) || decide (0 ≤ ixM (c.toNat : Int))
def nameB (s : List UInt8) : Bool := decide (1 ≤ s.length) && decide (s.length ≤ 30) && ltrI ((s.headD 0).toNat : Int) && s.all nameC
theorem nameB_no {s : List UInt8} {k : Nat} {c : UInt8} (h : s[k]? = some c) (hc : nameC c = false) : nameB s = false := by
  unfold nameB; rw [all_no h hc]; simp
theorem nameB_head {s : List UInt8} {c : UInt8} (h : s[0]? = some c) : s.headD 0 = c := by
  cases s with
  | nil => simp at h
  | cons x s => simp at h; simpa using h
theorem nameC_1 {c : UInt8} (h : ltrI (c.toNat : Int) = true) : nameC c = true := by unfold nameC; rw [h]; rfl
theorem nameC_2 {c : UInt8} (h : digI (c.toNat : Int) = true) : nameC c = true := by unfold nameC; rw [h]; simp
theorem nameC_3 {c : UInt8} (h : 0 ≤ Go.Lib.indexByte [95, 47, 43, 45] (c.toNat : Int).toNat.toUInt8) : nameC c = true := by unfold nameC ixM; rw [decide_eq_true h]; simp
theorem nameC_no {c : UInt8} (h1 : ltrI (c.toNat : Int) = false) (h2 : digI (c.toNat : Int) = false) (h3 : Go.Lib.indexByte [95, 47, 43, 45] (c.toNat : Int).toNat.toUInt8 < 0) : nameC c = false := by
  unfold nameC ixM; rw [h1, h2, decide_eq_false (by omega)]; rfl
theorem nameB_len {s : List UInt8} (h : (s.length : Int) < 1 ∨ 30 < (s.length : Int)) : nameB s = false := by
  unfold nameB
  rcases h with h | h
  · rw [decide_eq_false (show ¬ 1 ≤ s.length by omega)]; simp
  · rw [decide_eq_false (show ¬ s.length ≤ 30 by omega)]; simp
theorem nameB_let {s : List UInt8} {c : UInt8} (h : s[0]? = some c) (hc : ltrI (c.toNat : Int) = false) : nameB s = false := by
  unfold nameB; rw [nameB_head h, hc]; simp
theorem nameB_yes {s : List UInt8} {c : UInt8} (h1 : 1 ≤ (s.length : Int)) (h2 : (s.length : Int) ≤ 30) (h : s[0]? = some c) (hc : ltrI (c.toNat : Int) = true) (ha : s.all nameC = true) : nameB s = true := by
  unfold nameB; rw [nameB_head h, hc, ha, decide_eq_true (show 1 ≤ s.length by omega), decide_eq_true (show s.length ≤ 30 by omega)]; rfl
def distA (l : List (List UInt8)) (j : Nat) (s : List UInt8) : Bool := nameB s && !(l.take j).any fun x => decide (x = s)
def distB (l : List (List UInt8)) : Bool := l.zipIdx.all fun p => distA l p.2 p.1
theorem distA_yes {l : List (List UInt8)} {j : Nat} {s : List UInt8} (h1 : nameB s = true) (h2 : ((l.take j).any fun x => decide (x = s)) = false) : distA l j s = true := by unfold distA; rw [h1, h2]; rfl
theorem distA_no1 {l : List (List UInt8)} {j : Nat} {s : List UInt8} (h1 : nameB s = false) : distA l j s = false := by unfold distA; rw [h1]; rfl
theorem distA_no2 {l : List (List UInt8)} {j : Nat} {s : List UInt8} (h2 : ((l.take j).any fun x => decide (x = s)) = true) : distA l j s = false := by unfold distA; rw [h2]; simp
theorem lt_stepJ {α : Type} {P : Nat → α → Prop} {l : List α} {k : Nat} {y : α} (h : ∀ j, j < k → ∀ x, l[j]? = some x → P j x) (hk : l[k]? = some y) (hy : P k y) : ∀ j, j < k + 1 → ∀ x, l[j]? = some x → P j x := fun j hj x hx => by
  by_cases e : j = k
  · subst e; rw [hk] at hx; obtain rfl := Option.some.inj hx; exact hy
  · exact h j (by omega) x hx
theorem distB_no {l : List (List UInt8)} {k : Nat} {s : List UInt8} (h : l[k]? = some s) (hs : distA l k s = false) : distB l = false := by
  unfold distB
  rw [Bool.eq_false_iff]
  intro e
  rw [List.all_eq_true] at e
  have := e (s, k) (List.mem_zipIdx_iff_getElem?.2 h)
  rw [this] at hs; cases hs
theorem distB_yes {l : List (List UInt8)} {k : Nat} (h : ∀ j, j < k → ∀ s, l[j]? = some s → distA l j s = true) (hk : l.length ≤ k) : distB l = true := by
  unfold distB
  rw [List.all_eq_true]
  rintro ⟨s, j⟩ hm
  have hj := List.mem_zipIdx_iff_getElem?.1 hm
  have := (List.getElem?_eq_some_iff.1 hj).1
  exact h j (by simp at this ⊢; omega) s hj
def ixS (l : List (List UInt8)) (nm : List UInt8) : Int := idxF (fun x => decide (x = nm)) l
theorem ixS_any {l : List (List UInt8)} {nm : List UInt8} : decide (0 ≤ ixS l nm) = l.any fun x => decide (x = nm) := idxF_any _ _
def kindB (c : Col) : Bool := decide (1 ≤ c.kind) && decide (c.kind ≤ 4)
def fkB (s : Schema) (f : Foreign) : Bool := nameB f.table && decide (1 ≤ f.cols.length) && decide (f.cols.length ≤ 8) && distB f.cols && f.cols.all fun c => decide (0 ≤ ixS (s.cols.map Col.name) c)
def schA (s : Schema) : Bool := nameB s.name && decide (1 ≤ s.cols.length) && decide (s.cols.length ≤ 8) && decide (1 ≤ s.key) && decide (s.key ≤ s.cols.length) && decide (s.fks.length ≤ 8) && distB (s.cols.map Col.name)
def schB (s : Schema) : Bool := schA s && (s.cols.all kindB && s.fks.all (fkB s))
theorem kindB_yes {c : Col} (h1 : 1 ≤ c.kind) (h2 : c.kind ≤ 4) : kindB c = true := by unfold kindB; simp [h1, h2]
theorem fkB_yes {s : Schema} {f : Foreign} (h1 : nameB f.table = true) (h2 : 1 ≤ (f.cols.length : Int)) (h3 : (f.cols.length : Int) ≤ 8) (h4 : distB f.cols = true) (h5 : (f.cols.all fun c => decide (0 ≤ ixS (s.cols.map Col.name) c)) = true) : fkB s f = true := by
  unfold fkB; rw [h1, h4, h5, decide_eq_true (show 1 ≤ f.cols.length by omega), decide_eq_true (show f.cols.length ≤ 8 by omega)]; rfl
theorem fkB_no1 {s : Schema} {f : Foreign} (h1 : nameB f.table = false) : fkB s f = false := by unfold fkB; rw [h1]; rfl
theorem fkB_no2 {s : Schema} {f : Foreign} (h : (f.cols.length : Int) < 1 ∨ 8 < (f.cols.length : Int)) : fkB s f = false := by
  unfold fkB
  rcases h with h | h
  · rw [decide_eq_false (show ¬ 1 ≤ f.cols.length by omega)]; simp
  · rw [decide_eq_false (show ¬ f.cols.length ≤ 8 by omega)]; simp
theorem fkB_no3 {s : Schema} {f : Foreign} (h1 : distB f.cols = false) : fkB s f = false := by unfold fkB; rw [h1]; simp
theorem fkB_no4 {s : Schema} {f : Foreign} {k : Nat} {c : List UInt8} (h : f.cols[k]? = some c) (hc : ixS (s.cols.map Col.name) c < 0) : fkB s f = false := by
  unfold fkB; rw [all_no (p := fun c => decide (0 ≤ ixS (s.cols.map Col.name) c)) h (decide_eq_false (by omega))]; simp
theorem schB_yes {s : Schema} (h1 : schA s = true) (h2 : s.cols.all kindB = true) (h3 : s.fks.all (fkB s) = true) : schB s = true := by unfold schB; rw [h1, h2, h3]; rfl
theorem schB_kind {s : Schema} {k : Nat} {c : Col} (h : s.cols[k]? = some c) (hc : c.kind < 1 ∨ 4 < c.kind) : schB s = false := by
  unfold schB; rw [all_no (p := kindB) h (by unfold kindB; rcases hc with hc | hc <;> simp <;> omega)]; simp
theorem schB_fk {s : Schema} {k : Nat} {f : Foreign} (h : s.fks[k]? = some f) (hc : fkB s f = false) : schB s = false := by
  unfold schB; rw [all_no (p := fkB s) h hc]; simp
theorem schB_a {s : Schema} (h : schA s = false) : schB s = false := by unfold schB; rw [h]; rfl
def rowE (s : Schema) (v : List Val) : Int := if schB s && v.all valB then (if eqF (fun (c : Col) (x : Val) => decide (c.kind = x.k)) s.cols v then 0 else 13) else 1
theorem I64_rowE (s : Schema) (v : List Val) : I64 (rowE s v) := by unfold rowE; split <;> (try split) <;> constructor <;> decide
theorem rowE_1 {s : Schema} {v : List Val} (h : schB s = false) : rowE s v = 1 := by unfold rowE; rw [h]; rfl
theorem any_all {v : List Val} {b : Bool} (h : (v.any fun x => !valB x) = b) : v.all valB = !b := by rw [← any_not, h]
theorem rowE_2 {s : Schema} {v : List Val} (h : (v.any fun x => !valB x) = true) : rowE s v = 1 := by unfold rowE; rw [any_all h]; simp
theorem rowE_13 {s : Schema} {v : List Val} (h1 : schB s = true) (h2 : (v.any fun x => !valB x) = false) (h3 : eqF (fun (c : Col) (x : Val) => decide (c.kind = x.k)) s.cols v = false) : rowE s v = 13 := by
  unfold rowE; rw [any_all h2, h1, h3]; rfl
theorem rowE_0 {s : Schema} {v : List Val} (h1 : schB s = true) (h2 : (v.any fun x => !valB x) = false) (h3 : eqF (fun (c : Col) (x : Val) => decide (c.kind = x.k)) s.cols v = true) : rowE s v = 0 := by
  unfold rowE; rw [any_all h2, h1, h3]; rfl
theorem eqF_length {α β : Type} {f : α → β → Bool} : ∀ {a : List α} {b : List β}, eqF f a b = true → a.length = b.length
  | [], [], _ => rfl
  | [], _ :: _, h => by simp [eqF] at h
  | _ :: _, [], h => by simp [eqF] at h
  | x :: a, y :: b, h => by simp [eqF] at h; simp [eqF_length (f := f) (a := a) (b := b) h.2]
theorem rowE_len {s : Schema} {v : List Val} (h : rowE s v = 0) : v.length ≤ 8 ∧ v.all valB = true ∧ v.length = s.cols.length ∧ schB s = true := by
  unfold rowE at h
  split at h
  · rename_i h1
    split at h
    · rename_i h2
      simp only [Bool.and_eq_true] at h1
      have h3 := eqF_length h2
      have h4 := h1.1
      unfold schB schA at h4
      simp only [Bool.and_eq_true, decide_eq_true_eq] at h4
      exact ⟨by omega, h1.2, h3.symm, h1.1⟩
    · cases h
  · cases h

def rowOk (s : Schema) (last : Int) (r : HRow) : Bool := decide (rowE s r.v = 0) && goodB r && decide (r.r.x.a ≤ last) && (decide (r.r.x.b ≤ last) || decide (r.r.x.b = 253402300800))
def validT (t : Table) : Bool := schB t.s && decide (-62135596801 ≤ t.last) && decide (t.last < 253402300800) && decide (t.rows.length ≤ 500) && t.rows.all (rowOk t.s t.last) && decide (t.rows = normH t.rows)
def instB (x : Int) : Bool := decide (-62135596800 ≤ x) && decide (x < 253402300800)
def rrowOk (last : Int) (r : HRow) : Bool := goodB r && decide (r.r.x.a ≤ last) && (decide (r.r.x.b ≤ last) || decide (r.r.x.b = 253402300800))
def rrowsB (l : List HRow) (last : Int) : Bool := decide (-62135596801 ≤ last) && decide (last < 253402300800) && decide (l.length ≤ 500) && l.all (rrowOk last) && decide (rnormH l = l)
def lvalidB (t : Table) : Bool := schB t.s && rrowsB t.rows t.last && t.rows.all fun r => decide (rowE t.s r.v = 0)
theorem validT_good {t : Table} (h : validT t = true) : GoodH t.rows ∧ t.rows.length ≤ 500 ∧ (∀ r ∈ t.rows, r.v.length ≤ 8) ∧ t.rows = normH t.rows := by
  unfold validT at h
  simp only [Bool.and_eq_true, decide_eq_true_eq, List.all_eq_true] at h
  refine ⟨fun r hr => ?_, h.1.1.2, fun r hr => ?_, h.2⟩
  · have := h.1.2 r hr
    unfold rowOk at this; simp only [Bool.and_eq_true, decide_eq_true_eq] at this; exact this.1.1.2
  · have := h.1.2 r hr
    unfold rowOk at this; simp only [Bool.and_eq_true, decide_eq_true_eq] at this; exact (rowE_len this.1.1.1).1
theorem lvalid_eq (t : Table) : lvalidB t = validT t := by
  rw [Bool.eq_iff_iff]
  unfold lvalidB validT rrowsB
  simp only [Bool.and_eq_true, decide_eq_true_eq, List.all_eq_true]
  have e : ∀ r, rowOk t.s t.last r = true ↔ (rowE t.s r.v = 0 ∧ rrowOk t.last r = true) := fun r => by
    unfold rowOk rrowOk; simp only [Bool.and_eq_true, decide_eq_true_eq]; constructor
    · rintro ⟨⟨⟨a, b⟩, c⟩, d⟩; exact ⟨a, ⟨b, c⟩, d⟩
    · rintro ⟨a, ⟨b, c⟩, d⟩; exact ⟨⟨⟨a, b⟩, c⟩, d⟩
  have g : (∀ r ∈ t.rows, rrowOk t.last r = true) → GoodH t.rows := fun h r hr => by
    have := h r hr; unfold rrowOk at this; simp only [Bool.and_eq_true] at this; exact this.1.1
  constructor
  · rintro ⟨⟨h1, ⟨⟨⟨h2, h3⟩, h4⟩, h5⟩, h6⟩, h7⟩
    exact ⟨⟨⟨⟨⟨h1, h2⟩, h3⟩, h4⟩, fun r hr => (e r).2 ⟨h7 r hr, h5 r hr⟩⟩, by rw [norm_eq (g h5)]; exact h6.symm⟩
  · rintro ⟨⟨⟨⟨⟨h1, h2⟩, h3⟩, h4⟩, h5⟩, h6⟩
    have h5' : ∀ r ∈ t.rows, rrowOk t.last r = true := fun r hr => ((e r).1 (h5 r hr)).2
    exact ⟨⟨h1, ⟨⟨⟨h2, h3⟩, h4⟩, h5'⟩, by rw [← norm_eq (g h5')]; exact h6.symm⟩, fun r hr => ((e r).1 (h5 r hr)).1⟩

abbrev noT : Table := ⟨⟨[], [], 0, []⟩, [], 0⟩
def doneT (t : Table) (tx : Int) (l : List HRow) : Table := if (normH l).length ≤ 500 then ⟨t.s, normH l, tx⟩ else noT
def doneTE (l : List HRow) : Int := if (normH l).length ≤ 500 then 0 else 5
def timE (t : Table) (tx : Int) : Int := if instB tx then (if tx ≤ t.last then 6 else 0) else 2
def or2 (a b : Int) : Int := if a ≠ 0 then a else b
abbrev insRows (t : Table) (tx : Int) (v : List Val) (d : Span) : List HRow := t.rows ++ [⟨v, ⟨d, ⟨tx, 253402300800⟩⟩⟩]
def insOk (t : Table) (d : Span) : Bool := validT t && spanB d
def insErr (t : Table) (tx : Int) (v : List Val) (d : Span) : Int := if insOk t d then or2 (rowE t.s v) (timE t tx) else 1
def insT (t : Table) (tx : Int) (v : List Val) (d : Span) : Table := if insErr t tx v d = 0 then doneT t tx (insRows t tx v d) else noT
def insE_ (t : Table) (tx : Int) (v : List Val) (d : Span) : Int := if insErr t tx v d = 0 then doneTE (insRows t tx v d) else insErr t tx v d
def touchB (d : Span) (r : HRow) : Bool := decide (r.r.x.b = 253402300800) && decide (r.r.d.a < d.b) && decide (d.a < r.r.d.b)
def partS (r d : Span) : Span := ⟨max r.a d.a, min r.b d.b⟩
def lastN (nx : Option (List Val)) (r d : Span) (tx : Int) : List HRow := match nx with
  | some v => [⟨v, ⟨partS r d, ⟨tx, 253402300800⟩⟩⟩]
  | none => []
def chgOf (hl : List Val → Bool) (nx : List Val → Option (List Val)) (tx : Int) (d : Span) (r : HRow) : List HRow :=
  if touchB d r && hl r.v then [⟨r.v, ⟨r.r.d, ⟨r.r.x.a, tx⟩⟩⟩] ++ outN r.v (combR 3 [r.r.d] [d]) tx 253402300800 ++ lastN (nx r.v) r.r.d d tx else [r]
def chgRows (hl : List Val → Bool) (nx : List Val → Option (List Val)) (tx : Int) (d : Span) (l : List HRow) : List HRow := l.flatMap (chgOf hl nx tx d)
theorem chgRows_take {hl : List Val → Bool} {nx : List Val → Option (List Val)} {tx : Int} {d : Span} {l : List HRow} {k : Nat} {r : HRow} (h : l[k]? = some r) :
    chgRows hl nx tx d (l.take (k + 1)) = chgRows hl nx tx d (l.take k) ++ chgOf hl nx tx d r := by
  rw [List.take_add_one, h]; simp [chgRows]
theorem chgRows_all {hl : List Val → Bool} {nx : List Val → Option (List Val)} {tx : Int} {d : Span} {l : List HRow} {k : Nat} (h : l.length ≤ k) : chgRows hl nx tx d (l.take k) = chgRows hl nx tx d l := by rw [List.take_of_length_le h]
theorem chgOf_no {hl : List Val → Bool} {nx : List Val → Option (List Val)} {tx : Int} {d : Span} {r : HRow} (h : r.r.x.b ≠ 253402300800 ∨ hl r.v = false ∨ d.b ≤ r.r.d.a ∨ r.r.d.b ≤ d.a) : chgOf hl nx tx d r = [r] := by
  unfold chgOf
  rw [if_neg]
  unfold touchB
  simp only [Bool.and_eq_true, decide_eq_true_eq]
  rintro ⟨⟨⟨h1, h2⟩, h3⟩, h4⟩
  rcases h with h | h | h | h
  · exact h h1
  · rw [h] at h4; cases h4
  · omega
  · omega
theorem chgOf_yes {hl : List Val → Bool} {nx : List Val → Option (List Val)} {tx : Int} {d : Span} {r : HRow} (h1 : r.r.x.b = 253402300800) (h2 : hl r.v = true) (h3 : r.r.d.a < d.b) (h4 : d.a < r.r.d.b) :
    chgOf hl nx tx d r = [⟨r.v, ⟨r.r.d, ⟨r.r.x.a, tx⟩⟩⟩] ++ outN r.v (combR 3 [r.r.d] [d]) tx 253402300800 ++ lastN (nx r.v) r.r.d d tx := by
  unfold chgOf
  rw [if_pos]
  unfold touchB
  simp only [Bool.and_eq_true, decide_eq_true_eq]
  exact ⟨⟨⟨h1, h3⟩, h4⟩, h2⟩
def nms (t : Table) : List (List UInt8) := t.s.cols.map Col.name
def delErr (d : Nat) (t : Table) (tx : Int) (c : Cond) (p : Span) : Int := if insOk t p then or2 (checkF d c t.s.cols) (timE t tx) else 1
abbrev delRows (d : Nat) (t : Table) (tx : Int) (c : Cond) (p : Span) : List HRow := chgRows (hldB d c (nms t)) (fun _ => none) tx p t.rows
def delT (d : Nat) (t : Table) (tx : Int) (c : Cond) (p : Span) : Table := if delErr d t tx c p = 0 then doneT t tx (delRows d t tx c p) else noT
def delE (d : Nat) (t : Table) (tx : Int) (c : Cond) (p : Span) : Int := if delErr d t tx c p = 0 then doneTE (delRows d t tx c p) else delErr d t tx c p
def maskV : List Val → List Val → List Bool → List Val
  | x :: v, y :: s, m :: k => (if m then y else x) :: maskV v s k
  | v, _, _ => v
def okM (cols : List Col) (set : List Val) (mask : List Bool) (j : Nat) : Bool := match mask[j]?, set[j]?, cols[j]? with
  | some m, some x, some c => !m || (valB x && decide (x.k = c.kind))
  | _, _, _ => true
def typM (cols : List Col) (set : List Val) (mask : List Bool) : Bool := (List.range mask.length).all (okM cols set mask)
def updErr (d : Nat) (t : Table) (tx : Int) (c : Cond) (set : List Val) (mask : List Bool) (p : Span) : Int :=
  if insOk t p then (if checkF d c t.s.cols ≠ 0 then checkF d c t.s.cols else if set.length ≠ t.s.cols.length ∨ mask.length ≠ t.s.cols.length then 1 else if typM t.s.cols set mask then timE t tx else 13) else 1
abbrev updRows (d : Nat) (t : Table) (tx : Int) (c : Cond) (set : List Val) (mask : List Bool) (p : Span) : List HRow := chgRows (hldB d c (nms t)) (fun v => some (maskV v set mask)) tx p t.rows
def updT (d : Nat) (t : Table) (tx : Int) (c : Cond) (set : List Val) (mask : List Bool) (p : Span) : Table := if updErr d t tx c set mask p = 0 then doneT t tx (updRows d t tx c set mask p) else noT
def updE (d : Nat) (t : Table) (tx : Int) (c : Cond) (set : List Val) (mask : List Bool) (p : Span) : Int := if updErr d t tx c set mask p = 0 then doneTE (updRows d t tx c set mask p) else updErr d t tx c set mask p

def snapOf (l : List HRow) (at_ tx : Int) : List (List Val) := ((grpH l).filter fun g => inR (timesH g.t tx) at_).map HGrp.v
def snapH (t : Table) (at_ tx : Int) : List (List Val) := if validT t && instB at_ && instB tx then snapOf t.rows at_ tx else []
end Go.Civ
