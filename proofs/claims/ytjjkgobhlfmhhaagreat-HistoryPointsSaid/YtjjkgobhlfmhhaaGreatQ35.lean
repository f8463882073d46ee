/- Lemmas: Civ68. -/
import Derived.Test.YtjjkgobhlfmhhaaGreatQ34
namespace Go.Civ
open Go.RowKit
set_option linter.unusedVariables false
theorem eqF_at {α β : Type} {f : α → β → Bool} : ∀ {a : List α} {b : List β} {j : Nat} {x : α} {y : β}, eqF f a b = true → a[j]? = some x → b[j]? = some y → f x y = true
  | [], _, _, _, _, _, h, _ => by simp at h
  | _ :: _, [], _, _, _, _, _, h => by simp at h
  | x0 :: a, y0 :: b, 0, x, y, h, h1, h2 => by simp at h1 h2; subst h1 h2; simp [eqF] at h; exact h.1
  | x0 :: a, y0 :: b, j + 1, x, y, h, h1, h2 => by simp [eqF] at h; exact eqF_at h.2 (by simpa using h1) (by simpa using h2)
theorem rowE_parts {s : Schema} {v : List Val} (h : rowE s v = 0) : schB s = true ∧ v.all valB = true ∧ eqF (fun (c : Col) (x : Val) => decide (c.kind = x.k)) s.cols v = true := by
  unfold rowE at h
  split at h
  · rename_i h1
    split at h
    · rename_i h2
      simp only [Bool.and_eq_true] at h1
      exact ⟨h1.1, h1.2, h2⟩
    · cases h
  · cases h
theorem rowE_mk {s : Schema} {v : List Val} (h1 : schB s = true) (h2 : v.all valB = true) (h3 : eqF (fun (c : Col) (x : Val) => decide (c.kind = x.k)) s.cols v = true) : rowE s v = 0 := by
  unfold rowE; rw [h1, h2, h3]; rfl
theorem maskV_at : ∀ {v s : List Val} {m : List Bool} {j : Nat} {y : Val}, (maskV v s m)[j]? = some y → ∃ x, v[j]? = some x ∧ (y = x ∨ (s[j]? = some y ∧ m[j]? = some true))
  | [], s, m, j, y, h => by simp [maskV] at h
  | x :: v, [], m, j, y, h => ⟨y, by simpa [maskV] using h, .inl rfl⟩
  | x :: v, z :: s, [], j, y, h => ⟨y, by simpa [maskV] using h, .inl rfl⟩
  | x :: v, z :: s, b :: m, 0, y, h => by
    simp [maskV] at h
    subst h
    refine ⟨x, rfl, ?_⟩
    cases b with
    | true => exact .inr ⟨rfl, rfl⟩
    | false => exact .inl rfl
  | x :: v, z :: s, b :: m, j + 1, y, h => by
    simp [maskV] at h
    obtain ⟨x', h1, h2⟩ := maskV_at h
    exact ⟨x', by simpa using h1, by simpa using h2⟩
theorem typM_kind {cols : List Col} {set : List Val} {mask : List Bool} (h : typM cols set mask = true) {j : Nat} {x : Val} {c : Col} (hm : mask[j]? = some true) (hs : set[j]? = some x) (hc : cols[j]? = some c) : x.k = c.kind := by
  unfold typM at h
  rw [List.all_eq_true] at h
  have h1 := h j (List.mem_range.2 (List.getElem?_eq_some_iff.1 hm).1)
  unfold okM at h1
  rw [hm, hs, hc] at h1
  simp at h1
  exact h1.2
theorem rowE_mask {s : Schema} {v set : List Val} {mask : List Bool} (h : rowE s v = 0) (ht : typM s.cols set mask = true) (hl : set.length = s.cols.length) : rowE s (maskV v set mask) = 0 := by
  obtain ⟨h1, h2, h3⟩ := rowE_parts h
  refine rowE_mk h1 (maskV_valid h2 fun j b x k1 k2 k3 => typM_val ht hl k1 k2 k3) (eqF_all (by rw [maskV_len]; exact eqF_length h3) fun j c y hc hy => ?_)
  obtain ⟨x, hx, h4⟩ := maskV_at hy
  rcases h4 with h4 | ⟨h4, h5⟩
  · rw [h4]; exact eqF_at (f := fun (c : Col) (x : Val) => decide (c.kind = x.k)) h3 hc hx
  · exact decide_eq_true (typM_kind ht h5 h4 hc).symm

structure ChgP (t : Table) (tx : Int) (d : Span) (nx : List Val → Option (List Val)) (l : List HRow) (x : Table) : Prop where
  ok : ChgOk t tx d nx
  new : NewT t.s tx l x
theorem del_parts {k : Nat} {t : Table} {tx : Int} {c : Cond} {d : Span} (h : delE k t tx c d = 0) : checkF k c t.s.cols = 0 ∧ ChgP t tx d (fun _ => none) (delRows k t tx c d) (delT k t tx c d) := by
  by_cases ho : insOk t d = true
  · by_cases e : cmpOr [checkF k c t.s.cols, timE t tx] = 0
    · have h3 := del_3 (d := k) (t := t) (tx := tx) (c := c) ho e
      rw [← h3.2] at h
      have hok := del_ok ho e
      rw [cmpOr2] at e
      refine ⟨(or2_0 e).1, hok, ?_⟩
      have hlen := doneTE_0 h
      rw [← h3.1]
      unfold doneT
      rw [if_pos hlen]
      exact chg_new hok (fun r hr v hv => by cases hv) hlen
    · have := del_2 (d := k) (t := t) (tx := tx) (c := c) ho e
      rw [← this.2] at h; exact absurd h e
  · have := del_1 (d := k) (t := t) (tx := tx) (c := c) (p := d) (by simpa using ho)
    rw [← this.2] at h; cases h
structure UpdP (k : Nat) (t : Table) (tx : Int) (c : Cond) (set : List Val) (mask : List Bool) (d : Span) : Prop where
  chk : checkF k c t.s.cols = 0
  sl : set.length = t.s.cols.length
  ml : mask.length = t.s.cols.length
  chg : ChgP t tx d (fun v => some (maskV v set mask)) (updRows k t tx c set mask d) (updT k t tx c set mask d)
theorem upd_parts {k : Nat} {t : Table} {tx : Int} {c : Cond} {set : List Val} {mask : List Bool} {d : Span} (h : updE k t tx c set mask d = 0) : UpdP k t tx c set mask d := by
  by_cases ho : insOk t d = true
  · by_cases e1 : checkF k c t.s.cols = 0
    · by_cases e2 : set.length ≠ t.s.cols.length ∨ mask.length ≠ t.s.cols.length
      · have := upd_3 (d := k) (t := t) (tx := tx) (c := c) (set := set) (mask := mask) ho e1 e2
        rw [← this.2] at h; cases h
      · have e3 : set.length = t.s.cols.length := by omega
        have e4 : mask.length = t.s.cols.length := by omega
        cases e5 : typM t.s.cols set mask with
        | false =>
          have := upd_4 (d := k) (t := t) (tx := tx) (c := c) (set := set) (mask := mask) ho e1 e3 e4 e5
          rw [← this.2] at h; cases h
        | true =>
          by_cases e6 : timE t tx = 0
          · have h3 := upd_6 (d := k) (t := t) (tx := tx) (c := c) (set := set) (mask := mask) ho e1 e3 e4 e5 e6
            rw [← h3.2] at h
            have hok := upd_ok ho e3 e5 e6
            have hlen := doneTE_0 h
            refine ⟨e1, e3, e4, hok, ?_⟩
            rw [← h3.1]
            unfold doneT
            rw [if_pos hlen]
            refine chg_new hok (fun r hr v hv => ?_) hlen
            obtain rfl := Option.some.inj hv
            exact rowE_mask (rowOk_parts ((validT_parts hok.valid).2.2.2.2.1 r hr)).1 e5 e3
          · have := upd_5 (d := k) (t := t) (tx := tx) (c := c) (set := set) (mask := mask) ho e1 e3 e4 e5 e6
            rw [← this.2] at h; exact absurd h e6
    · have := upd_2 (d := k) (t := t) (tx := tx) (c := c) (set := set) (mask := mask) ho e1
      rw [← this.2] at h; exact absurd h e1
  · have := upd_1 (d := k) (t := t) (tx := tx) (c := c) (set := set) (mask := mask) (p := d) (by simpa using ho)
    rw [← this.2] at h; cases h

def addN (out : VV) (m : List Val) : VV := if out.any (fun l => decide (l = m)) then out else out ++ [m]
theorem addN_mem {out : VV} {m u : List Val} : u ∈ addN out m ↔ u ∈ out ∨ u = m := by
  unfold addN
  split
  · rename_i h
    rw [List.any_eq_true] at h
    obtain ⟨x, hx, e⟩ := h
    obtain rfl := of_decide_eq_true e
    constructor
    · exact .inl
    · rintro (h | h)
      · exact h
      · rw [h]; exact hx
  · rw [List.mem_append, List.mem_singleton]
theorem addN_nodup {out : VV} {m : List Val} (h : out.Nodup) : (addN out m).Nodup := by
  unfold addN
  split
  · exact h
  · rename_i hn
    rw [List.nodup_append]
    refine ⟨h, by simp, fun a ha b hb e => hn ?_⟩
    obtain rfl := List.mem_singleton.1 hb
    rw [List.any_eq_true]
    exact ⟨a, ha, decide_eq_true e⟩
theorem addN_yes {out : VV} {m : List Val} (h : (out.any fun l => decide (l = m)) = true) : addN out m = out := by unfold addN; rw [if_pos h]
theorem addN_no {out : VV} {m : List Val} (h : (out.any fun l => decide (l = m)) = false) : addN out m = out ++ [m] := by unfold addN; rw [h]; rfl
theorem addN_len (out : VV) (m : List Val) : (addN out m).length ≤ out.length + 1 := by unfold addN; split <;> simp
def nxV (d : Nat) (c : Cond) (ns : List (List UInt8)) (set : List Val) (mask : List Bool) (l : List Val) : List Val := if hldB d c ns l && (decide (set.length = l.length) && decide (mask.length = l.length)) then maskV l set mask else l
def chStep (d : Nat) (c : Cond) (ns : List (List UInt8)) (set : List Val) (mask : List Bool) (out : VV) (l : List Val) : VV := if hldE d c ns l = 0 then addN out (nxV d c ns set mask l) else out ++ [l]
def chL (d : Nat) (c : Cond) (ns : List (List UInt8)) (set : List Val) (mask : List Bool) (b : VV) : VV := b.foldl (chStep d c ns set mask) []
def leL (d : Nat) (c : Cond) (ns : List (List UInt8)) (b : VV) : VV := b.filter fun l => !hldB d c ns l
section
variable {d : Nat} {c : Cond} {ns : List (List UInt8)} {set : List Val} {mask : List Bool} {b : VV}
theorem chL_take {k : Nat} {l : List Val} (h : b[k]? = some l) : chL d c ns set mask (b.take (k + 1)) = chStep d c ns set mask (chL d c ns set mask (b.take k)) l := by
  rw [List.take_add_one, h]; simp [chL, List.foldl_append]
theorem chL_err {k : Nat} {l : List Val} (h : b[k]? = some l) (he : hldE d c ns l ≠ 0) : chL d c ns set mask (b.take (k + 1)) = chL d c ns set mask (b.take k) ++ [l] := by rw [chL_take h]; unfold chStep; rw [if_neg he]
theorem chL_yes {k : Nat} {l m : List Val} (h : b[k]? = some l) (he : hldE d c ns l = 0) (hm : nxV d c ns set mask l = m) (hn : ((chL d c ns set mask (b.take k)).any fun x => decide (x = m)) = true) : chL d c ns set mask (b.take (k + 1)) = chL d c ns set mask (b.take k) := by
  rw [chL_take h]; unfold chStep; rw [if_pos he, hm, addN_yes hn]
theorem chL_no {k : Nat} {l m : List Val} (h : b[k]? = some l) (he : hldE d c ns l = 0) (hm : nxV d c ns set mask l = m) (hn : ((chL d c ns set mask (b.take k)).any fun x => decide (x = m)) = false) : chL d c ns set mask (b.take (k + 1)) = chL d c ns set mask (b.take k) ++ [m] := by
  rw [chL_take h]; unfold chStep; rw [if_pos he, hm, addN_no hn]
theorem chL_len : ∀ (n : Nat) (b : VV), b.length = n → (chL d c ns set mask b).length ≤ n
  | 0, b, h => by obtain rfl := List.length_eq_zero_iff.1 h; exact Nat.le_refl _
  | n + 1, b, h => by
    obtain ⟨e, x, rfl⟩ : ∃ e x, b = e ++ [x] := ⟨b.dropLast, b.getLast (by intro k; simp [k] at h), (List.dropLast_concat_getLast _).symm⟩
    have ih := chL_len n e (by simpa using h)
    have e1 : chL d c ns set mask (e ++ [x]) = chStep d c ns set mask (chL d c ns set mask e) x := by simp [chL, List.foldl_append]
    rw [e1]
    unfold chStep
    split
    · have := addN_len (chL d c ns set mask e) (nxV d c ns set mask x); omega
    · simp; omega
theorem chL_takeLen (k : Nat) : (chL d c ns set mask (b.take k)).length ≤ b.length := Nat.le_trans (chL_len _ _ rfl) (List.length_take_le' _ _)
theorem leL_yes {k : Nat} {l : List Val} (h : b[k]? = some l) (hh : hldB d c ns l = true) : leL d c ns (b.take (k + 1)) = leL d c ns (b.take k) := by
  rw [List.take_add_one, h]; simp [leL, hh]
theorem leL_no {k : Nat} {l : List Val} (h : b[k]? = some l) (hh : hldB d c ns l = false) : leL d c ns (b.take (k + 1)) = leL d c ns (b.take k) ++ [l] := by
  rw [List.take_add_one, h]; simp [leL, hh]
theorem leL_takeLen (k : Nat) : (leL d c ns (b.take k)).length ≤ b.length := Nat.le_trans (List.length_filter_le _ _) (List.length_take_le' _ _)
theorem hld_errB {l : List Val} (h : hldE d c ns l ≠ 0) : hldB d c ns l = false := by
  unfold hldE at h
  unfold hldB
  cases hg : hldG ns l with
  | false => rfl
  | true =>
    rw [hg] at h
    simp only [cond_true] at h ⊢
    rw [decide_eq_false h]; rfl
theorem chL_mem : ∀ (n : Nat) (b : VV), b.length = n → (∀ l ∈ b, hldE d c ns l = 0) → (chL d c ns set mask b).Nodup ∧ ∀ u, u ∈ chL d c ns set mask b ↔ ∃ l ∈ b, nxV d c ns set mask l = u
  | 0, b, h, _ => by obtain rfl := List.length_eq_zero_iff.1 h; exact ⟨List.Pairwise.nil, fun u => by simp [chL]⟩
  | n + 1, b, h, he => by
    obtain ⟨e, x, rfl⟩ : ∃ e x, b = e ++ [x] := ⟨b.dropLast, b.getLast (by intro k; simp [k] at h), (List.dropLast_concat_getLast _).symm⟩
    obtain ⟨i1, i2⟩ := chL_mem n e (by simpa using h) fun l hl => he l (by simp [hl])
    have e1 : chL d c ns set mask (e ++ [x]) = addN (chL d c ns set mask e) (nxV d c ns set mask x) := by
      have : chL d c ns set mask (e ++ [x]) = chStep d c ns set mask (chL d c ns set mask e) x := by simp [chL, List.foldl_append]
      rw [this]; unfold chStep; rw [if_pos (he x (by simp))]
    rw [e1]
    refine ⟨addN_nodup i1, fun u => ?_⟩
    rw [addN_mem, i2]
    constructor
    · rintro (⟨l, hl, rfl⟩ | rfl)
      · exact ⟨l, by simp [hl], rfl⟩
      · exact ⟨x, by simp, rfl⟩
    · rintro ⟨l, hl, rfl⟩
      rcases List.mem_append.1 hl with hl | hl
      · exact .inl ⟨l, hl, rfl⟩
      · rw [List.mem_singleton.1 hl]; exact .inr rfl
end
theorem sorted_snap {S l' want : VV} (hS : IncV S) (hp : l'.Perm want) (hw : l'.Pairwise fun x y => ¬ ordV y x < 0) (nd : want.Nodup) (hv : ∀ u ∈ want, u.all valB = true) (hm : ∀ u, u ∈ S ↔ u ∈ want) : S = l' := by
  refine IncV.unique hS ?_ fun u => (hm u).trans hp.mem_iff.symm
  have nd2 : l'.Pairwise fun x y => x ≠ y := hp.nodup_iff.2 nd
  refine List.Pairwise.imp_of_mem ?_ (List.Pairwise.and hw nd2)
  intro x y hx hy h
  rw [ordV_valid (hv y (hp.mem_iff.1 hy)) (hv x (hp.mem_iff.1 hx))] at h
  rcases Int.lt_or_le (cmpL cmpV x y) 0 with k | k
  · exact k
  · exfalso
    by_cases e : cmpL cmpV x y = 0
    · exact h.2 ((ord.eq _ _).1 e)
    · exact h.1 ((ord.swap _ _).2 (by omega))

structure PtOk (t x : Table) (want : VV) (at_ later past : Int) : Prop where
  valid : validT x = true
  nd : want.Nodup
  vals : ∀ u ∈ want, u.all valB = true
  inc : IncV (snapH x at_ later)
  mem : ∀ u, u ∈ snapH x at_ later ↔ u ∈ want
  past : snapH x at_ past = snapH t at_ past
section
variable {t : Table} {tx at_ later past : Int} {d : Span} {u : List Val}
theorem inst_tx (hl : instB later = true) (hp : instB past = true) (h1 : tx ≤ later) (h2 : past < tx) : instB (tx - 1) = true ∧ tx < 253402300800 := by
  have a := instB_parts hl
  have b := instB_parts hp
  refine ⟨?_, by omega⟩
  unfold instB; simp; omega
theorem snap_val {a x : Int} (hv : validT t = true) (ha : instB a = true) (hx : instB x = true) (h : u ∈ snapH t a x) : ∃ r ∈ t.rows, r.v = u ∧ rowE t.s u = 0 ∧ u.all valB = true := by
  obtain ⟨r, hr, e, _⟩ := (snapH_iff hv ha hx).1 h
  have := (rowOk_parts ((validT_parts hv).2.2.2.2.1 r hr)).1
  rw [e] at this
  exact ⟨r, hr, e, this, (rowE_parts this).2.1⟩
def addL (d : Span) (at_ : Int) (v : List Val) (b : VV) : VV := if d.a ≤ at_ ∧ at_ < d.b then addN b v else b
theorem pt_ins {v : List Val} (h : insE_ t tx v d = 0) (ha : instB at_ = true) (hl : instB later = true) (hp : instB past = true) (h1 : tx ≤ later) (h2 : past < tx) :
    PtOk t (insT t tx v d) (addL d at_ v (snapH t at_ (tx - 1))) at_ later past := by
  have H := ins_parts h
  obtain ⟨i1, i2⟩ := inst_tx hl hp h1 h2
  have i3 := (instB_parts hl).2
  have hm : ∀ u, u ∈ snapH (insT t tx v d) at_ later ↔ u ∈ snapH t at_ (tx - 1) ∨ (v = u ∧ d.a ≤ at_ ∧ at_ < d.b) := fun u => by
    rw [new_snap H.new ha hl, has_ins i3, has_now H.valid H.late h1 i3, snapH_iff H.valid ha i1]
    constructor
    · rintro (k | ⟨k1, k2, k3, _⟩)
      · exact .inl k
      · exact .inr ⟨k1, k2, k3⟩
    · rintro (k | ⟨k1, k2, k3⟩)
      · exact .inl k
      · exact .inr ⟨k1, k2, k3, h1⟩
  have nd := (snapH_inc H.valid ha i1).nodup
  have vb := (rowE_parts H.row).2.1
  refine ⟨H.new.valid, ?_, fun u hu => ?_, snapH_inc H.new.valid ha hl, fun u => ?_, snap_same H.valid H.new.valid ha hp ha hp fun u => ?_⟩
  · unfold addL; split
    · exact addN_nodup nd
    · exact nd
  · have : u ∈ snapH t at_ (tx - 1) ∨ u = v := by
      unfold addL at hu; split at hu
      · exact addN_mem.1 hu
      · exact .inl hu
    rcases this with k | k
    · obtain ⟨_, _, _, _, k⟩ := snap_val H.valid ha i1 k; exact k
    · rw [k]; exact vb
  · rw [hm]
    unfold addL
    split
    · rename_i hin
      rw [addN_mem]
      exact ⟨fun k => k.imp id fun k => k.1.symm, fun k => k.imp id fun k => ⟨k.symm, hin.1, hin.2⟩⟩
    · rename_i hin
      exact ⟨fun k => k.elim id fun k => absurd k.2 hin, .inl⟩
  · rw [new_snap H.new ha hp, has_ins (by omega), snapH_iff H.valid ha hp]
    exact ⟨fun k => k.elim id fun k => by omega, .inl⟩
theorem pt_past {hl : List Val → Bool} {nx : List Val → Option (List Val)} {x : Table} (H : ChgP t tx d nx (chgRows hl nx tx d t.rows) x) (ha : instB at_ = true) (hp : instB past = true) (h2 : past < tx) : snapH x at_ past = snapH t at_ past := by
  have htx := (instB_parts H.ok.inst).2
  refine snap_same H.ok.valid H.new.valid ha hp ha hp fun u => ?_
  rw [new_snap H.new ha hp, has_chg, snapH_iff H.ok.valid ha hp]
  unfold HasP
  constructor
  · rintro ⟨r, hr, h⟩
    exact ⟨r, hr, (chg_past ((validT_parts H.ok.valid).2.2.2.2.1 r hr) H.ok.late htx H.ok.span h2).1 h⟩
  · rintro ⟨r, hr, h⟩
    exact ⟨r, hr, (chg_past ((validT_parts H.ok.valid).2.2.2.2.1 r hr) H.ok.late htx H.ok.span h2).2 h⟩
theorem pt_later {hl : List Val → Bool} {nx : List Val → Option (List Val)} {x : Table} (H : ChgP t tx d nx (chgRows hl nx tx d t.rows) x) (ha : instB at_ = true) (hla : instB later = true) (hp : instB past = true) (h1 : tx ≤ later) (h2 : past < tx) :
    u ∈ snapH x at_ later ↔ ∃ w ∈ snapH t at_ (tx - 1), (¬ (d.a ≤ at_ ∧ at_ < d.b) ∨ hl w = false) ∧ w = u ∨ (d.a ≤ at_ ∧ at_ < d.b) ∧ hl w = true ∧ nx w = some u := by
  obtain ⟨i1, i2⟩ := inst_tx hla hp h1 h2
  have i3 := (instB_parts hla).2
  rw [new_snap H.new ha hla, has_chg]
  constructor
  · rintro ⟨r, hr, h⟩
    obtain ⟨k1, k2⟩ := (chg_later ((validT_parts H.ok.valid).2.2.2.2.1 r hr) H.ok.late H.ok.span h1 i3).1 h
    exact ⟨r.v, (snapH_iff H.ok.valid ha i1).2 ((has_now H.ok.valid H.ok.late h1 i3).1 ⟨r, hr, rfl, k1⟩), k2⟩
  · rintro ⟨w, hw, k2⟩
    obtain ⟨r, hr, rfl, k1⟩ := (has_now H.ok.valid H.ok.late h1 i3).2 ((snapH_iff H.ok.valid ha i1).1 hw)
    exact ⟨r, hr, (chg_later ((validT_parts H.ok.valid).2.2.2.2.1 r hr) H.ok.late H.ok.span h1 i3).2 ⟨k1, k2⟩⟩
def leftL (k : Nat) (c : Cond) (ns : List (List UInt8)) (d : Span) (at_ : Int) (b : VV) : VV := if d.a ≤ at_ ∧ at_ < d.b then leL k c ns b else b
def chngL (k : Nat) (c : Cond) (ns : List (List UInt8)) (set : List Val) (mask : List Bool) (d : Span) (at_ : Int) (b : VV) : VV := if d.a ≤ at_ ∧ at_ < d.b then chL k c ns set mask b else b
theorem pt_del {k : Nat} {c : Cond} (h : delE k t tx c d = 0) (ha : instB at_ = true) (hl : instB later = true) (hp : instB past = true) (h1 : tx ≤ later) (h2 : past < tx) :
    PtOk t (delT k t tx c d) (leftL k c (t.s.cols.map Col.name) d at_ (snapH t at_ (tx - 1))) at_ later past := by
  obtain ⟨_, H⟩ := del_parts h
  obtain ⟨i1, i2⟩ := inst_tx hl hp h1 h2
  have nd := (snapH_inc H.ok.valid ha i1).nodup
  have sub : ∀ u, u ∈ leftL k c (t.s.cols.map Col.name) d at_ (snapH t at_ (tx - 1)) → u ∈ snapH t at_ (tx - 1) := fun u hu => by
    unfold leftL at hu; split at hu
    · exact (List.mem_filter.1 hu).1
    · exact hu
  refine ⟨H.new.valid, ?_, fun u hu => ?_, snapH_inc H.new.valid ha hl, fun u => ?_, pt_past H ha hp h2⟩
  · unfold leftL; split
    · exact nd.filter _
    · exact nd
  · obtain ⟨_, _, _, _, q⟩ := snap_val H.ok.valid ha i1 (sub u hu); exact q
  · rw [pt_later H ha hl hp h1 h2]
    unfold leftL nms
    split
    · rename_i hin
      unfold leL
      rw [List.mem_filter]
      constructor
      · rintro ⟨w, hw, ⟨q | q, rfl⟩ | ⟨_, _, q⟩⟩
        · exact absurd hin q
        · exact ⟨hw, by rw [q]; rfl⟩
        · cases q
      · rintro ⟨hw, q⟩
        exact ⟨u, hw, .inl ⟨.inr (by simpa using q), rfl⟩⟩
    · rename_i hin
      constructor
      · rintro ⟨w, hw, ⟨_, rfl⟩ | ⟨q, _⟩⟩
        · exact hw
        · exact absurd q hin
      · intro hw; exact ⟨u, hw, .inl ⟨.inl hin, rfl⟩⟩
theorem hld_typed {k : Nat} {c : Cond} {s : Schema} {l : List Val} (hc : checkF k c s.cols = 0) (h : rowE s l = 0) : hldE k c (s.cols.map Col.name) l = 0 := by
  obtain ⟨h1, h2, h3⟩ := rowE_parts h
  obtain ⟨h4, _, h5, _⟩ := rowE_len h
  have e : l.map Val.k = s.cols.map Col.kind := by
    apply List.ext_getElem?
    intro j
    rw [List.getElem?_map, List.getElem?_map]
    cases hx : l[j]? with
    | none => rw [List.getElem?_eq_none (by have := List.getElem?_eq_none_iff.1 hx; omega)]; rfl
    | some x =>
      have := (List.getElem?_eq_some_iff.1 hx).1
      have hcj : s.cols[j]? = some s.cols[j] := List.getElem?_eq_getElem (by omega)
      rw [hcj]
      have := of_decide_eq_true (eqF_at (f := fun (c : Col) (x : Val) => decide (c.kind = x.k)) h3 hcj hx)
      simp only [Option.map_some, this]
  unfold hldE
  rw [hld_g (by rw [List.length_map]; exact h5.symm) (by rw [List.length_map]; omega) h2, cols_eq e, hc]
  rfl
theorem pt_upd {k : Nat} {c : Cond} {set : List Val} {mask : List Bool} (h : updE k t tx c set mask d = 0) (ha : instB at_ = true) (hl : instB later = true) (hp : instB past = true) (h1 : tx ≤ later) (h2 : past < tx) :
    PtOk t (updT k t tx c set mask d) (chngL k c (t.s.cols.map Col.name) set mask d at_ (snapH t at_ (tx - 1))) at_ later past := by
  have U := upd_parts h
  have H := U.chg
  obtain ⟨i1, i2⟩ := inst_tx hl hp h1 h2
  have nd := (snapH_inc H.ok.valid ha i1).nodup
  have old : ∀ u, u ∈ snapH t at_ (tx - 1) → rowE t.s u = 0 := fun u hu => by obtain ⟨_, _, _, q, _⟩ := snap_val H.ok.valid ha i1 hu; exact q
  have cm := chL_mem (d := k) (c := c) (ns := t.s.cols.map Col.name) (set := set) (mask := mask) _ (snapH t at_ (tx - 1)) rfl fun l hl => hld_typed U.chk (old l hl)
  have nxe : ∀ w ∈ snapH t at_ (tx - 1), nxV k c (t.s.cols.map Col.name) set mask w = if hldB k c (t.s.cols.map Col.name) w then maskV w set mask else w := fun w hw => by
    have := (rowE_len (old w hw)).2.2.1
    unfold nxV
    rw [decide_eq_true (show set.length = w.length by rw [U.sl, this]), decide_eq_true (show mask.length = w.length by rw [U.ml, this])]
    simp
  have vld : ∀ u, u ∈ snapH (updT k t tx c set mask d) at_ later → u.all valB = true := fun u hu => by obtain ⟨_, _, _, _, q⟩ := snap_val H.new.valid ha hl hu; exact q
  have mem : ∀ u, u ∈ snapH (updT k t tx c set mask d) at_ later ↔ u ∈ chngL k c (t.s.cols.map Col.name) set mask d at_ (snapH t at_ (tx - 1)) := fun u => by
    rw [pt_later H ha hl hp h1 h2]
    unfold chngL nms
    split
    · rename_i hin
      rw [cm.2]
      constructor
      · rintro ⟨w, hw, ⟨q | q, rfl⟩ | ⟨_, q, e⟩⟩
        · exact absurd hin q
        · exact ⟨w, hw, by rw [nxe w hw, q]; rfl⟩
        · exact ⟨w, hw, by rw [nxe w hw, q]; exact Option.some.inj e⟩
      · rintro ⟨w, hw, e⟩
        rw [nxe w hw] at e
        cases hb : hldB k c (t.s.cols.map Col.name) w with
        | true => rw [hb] at e; exact ⟨w, hw, .inr ⟨hin, hb, congrArg some e⟩⟩
        | false => rw [hb] at e; exact ⟨w, hw, .inl ⟨.inr hb, e⟩⟩
    · rename_i hin
      constructor
      · rintro ⟨w, hw, ⟨_, rfl⟩ | ⟨q, _⟩⟩
        · exact hw
        · exact absurd q hin
      · intro hw; exact ⟨u, hw, .inl ⟨.inl hin, rfl⟩⟩
  refine ⟨H.new.valid, ?_, fun u hu => vld u ((mem u).2 hu), snapH_inc H.new.valid ha hl, mem, pt_past H ha hp h2⟩
  unfold chngL; split
  · exact cm.1
  · exact nd
end
end Go.Civ
namespace Go.Civ
theorem snapH_len (t : Table) (a x : Int) : (snapH t a x).length ≤ t.rows.length := by
  unfold snapH
  split
  · unfold snapOf
    rw [List.length_map]
    exact Nat.le_trans (List.length_filter_le _ _) grpH_len
  · exact Nat.zero_le _
section
variable {t : Table} {tx at_ later past : Int} {d : Span} {v : List Val} {b : VV} {k : Nat} {c : Cond} {ns : List (List UInt8)} {set : List Val} {mask : List Bool} {l : List Val}
theorem addL_out (h : at_ < d.a ∨ d.b ≤ at_) : addL d at_ v b = b := by unfold addL; rw [if_neg (by omega)]
theorem addL_yes (h1 : d.a ≤ at_) (h2 : at_ < d.b) (h : (b.any fun l => decide (l = v)) = true) : addL d at_ v b = b := by unfold addL; rw [if_pos ⟨h1, h2⟩, addN_yes h]
theorem addL_new (h1 : d.a ≤ at_) (h2 : at_ < d.b) (h : (b.any fun l => decide (l = v)) = false) : addL d at_ v b = b ++ [v] := by unfold addL; rw [if_pos ⟨h1, h2⟩, addN_no h]
theorem leftL_out (h : at_ < d.a ∨ d.b ≤ at_) : leftL k c ns d at_ b = b := by unfold leftL; rw [if_neg (by omega)]
theorem leftL_in (h1 : d.a ≤ at_) (h2 : at_ < d.b) {j : Nat} (h : b.length ≤ j) : leftL k c ns d at_ b = leL k c ns (b.take j) := by unfold leftL; rw [if_pos ⟨h1, h2⟩, List.take_of_length_le h]
theorem chngL_out (h : at_ < d.a ∨ d.b ≤ at_) : chngL k c ns set mask d at_ b = b := by unfold chngL; rw [if_neg (by omega)]
theorem chngL_in (h1 : d.a ≤ at_) (h2 : at_ < d.b) {j : Nat} (h : b.length ≤ j) : chngL k c ns set mask d at_ b = chL k c ns set mask (b.take j) := by unfold chngL; rw [if_pos ⟨h1, h2⟩, List.take_of_length_le h]
theorem nx_no1 (h : hldB k c ns l = false) : nxV k c ns set mask l = l := by unfold nxV; rw [h]; rfl
theorem nx_no2 (h : (set.length : Int) ≠ (l.length : Int)) : nxV k c ns set mask l = l := by unfold nxV; rw [decide_eq_false (show ¬ set.length = l.length by omega)]; simp
theorem nx_no3 (h : (mask.length : Int) ≠ (l.length : Int)) : nxV k c ns set mask l = l := by unfold nxV; rw [decide_eq_false (show ¬ mask.length = l.length by omega)]; simp
theorem nx_yes (h : hldB k c ns l = true) (h1 : (set.length : Int) = (l.length : Int)) (h2 : (mask.length : Int) = (l.length : Int)) {j : Nat} (hj : l.length ≤ j) : nxV k c ns set mask l = maskV l set (mask.take j) := by
  unfold nxV; rw [h, decide_eq_true (show set.length = l.length by omega), decide_eq_true (show mask.length = l.length by omega), List.take_of_length_le (by omega)]; rfl
theorem pt_max (hp : instB past = true) (h2 : past < tx) : max (tx - 1) (-62135596800) = tx - 1 := by have := instB_parts hp; omega
theorem pt_insW {want : VV} (h : insE_ t tx v d = 0) (ha : instB at_ = true) (hl : instB later = true) (hp : instB past = true) (h1 : tx ≤ later) (h2 : past < tx)
    (hw : want = addL d at_ v (snapH t at_ (max (tx - 1) (-62135596800)))) : PtOk t (insT t tx v d) want at_ later past := by
  rw [hw, pt_max hp h2]; exact pt_ins h ha hl hp h1 h2
theorem pt_delW {want : VV} (h : delE k t tx c d = 0) (ha : instB at_ = true) (hl : instB later = true) (hp : instB past = true) (h1 : tx ≤ later) (h2 : past < tx)
    (hw : want = leftL k c (t.s.cols.map Col.name) d at_ (snapH t at_ (max (tx - 1) (-62135596800)))) : PtOk t (delT k t tx c d) want at_ later past := by
  rw [hw, pt_max hp h2]; exact pt_del h ha hl hp h1 h2
theorem pt_updW {want : VV} (h : updE k t tx c set mask d = 0) (ha : instB at_ = true) (hl : instB later = true) (hp : instB past = true) (h1 : tx ≤ later) (h2 : past < tx)
    (hw : want = chngL k c (t.s.cols.map Col.name) set mask d at_ (snapH t at_ (max (tx - 1) (-62135596800)))) : PtOk t (updT k t tx c set mask d) want at_ later past := by
  rw [hw, pt_max hp h2]; exact pt_upd h ha hl hp h1 h2
end
end Go.Civ
