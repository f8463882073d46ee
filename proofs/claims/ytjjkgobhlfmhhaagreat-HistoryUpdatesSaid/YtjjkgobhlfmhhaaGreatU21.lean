/- Lemmas: Sv, Civ58, Civ59, So. -/
import Derived.Test.YtjjkgobhlfmhhaaGreatU03
import Derived.Test.YtjjkgobhlfmhhaaGreatU06
import Derived.Test.YtjjkgobhlfmhhaaGreatU08
import Derived.Test.YtjjkgobhlfmhhaaGreatU20
import Derived.Test.YtjjkgobhlfmhhaaGreatProg
import Derived.WalkKit
import Derived.Below
import Derived.Shelf.GgClosure.StringsRunes
import Derived.KernelRfl
set_option linter.unusedVariables false
namespace Go.Civ
open Go.Proofs Go.Shelf Go.RowKit Go.Lib

theorem below_drewNg (w : World) : ∀ n, Below w.heap.size w (w.drewN n)
  | 0 => Below.refl _ _
  | n + 1 => (below_drewNg w n).drew
def pR (r : Nat) : Bool := decide (r < 32) || decide (126 < r)

set_option maxHeartbeats 1000000 in
theorem rune_of (r : Nat) (W : World) : Calls Tryz.prog 112 #[.int .i32 (r : Int)] W fun e w' => e = .returned (.bool (pR r)) ∧ ∃ q, w' = W.drewN q := by
  by_cases h1 : r < 32 <;> by_cases h2 : 126 < r
  all_goals
    have z1 : (r : Int) < 32 ↔ r < 32 := by omega
    have z2 : (126 : Int) < (r : Int) ↔ 126 < r := by omega
    go_enter Tryz.func112, Tryz.ntmps112
    go_wp2
    all_goals first | (exfalso; omega) | (go_ret; exact ⟨by simp [pR, h1, h2], 0, rfl⟩)
set_option maxHeartbeats 2000000 in
set_option maxRecDepth 1000000 in
theorem strIndexFunc (s : ByteArray) (w : World) :
    Calls Tryz.prog 183 #[.string s, .func (.func 112) #[] #[], .bool true] w fun e w' => e = .returned (.int .i64 (Lib.idxFunc pR true s)) ∧ Below w.heap.size w w' ∧ w.drawn ≤ w'.drawn := by
  have e112 : ∀ args w, (callFunc 112 args).run Tryz.prog w = .ok (.enter 112 args) w := enters_of Tryz.func112 (by kernel_rfl) rfl
  go_enter Tryz.func183, Tryz.ntmps183
  go_wp2
  go_loopg [] s.size (fun gf wx => ∃ pos : Nat, wx.heap[w.heap.size]? = some (.stringIter s pos) ∧ Below w.heap.size w wx ∧ Lib.idxFuncFrom pR true s gf pos = Lib.idxFunc pR true s ∧ s.size ≤ pos + gf ∧ w.drawn ≤ wx.drawn)
  case atStart => exact ⟨0, World.iter_heap w s 0, (Below.refl _ w).alloc (Nat.le_refl _) _, rfl, by omega, Nat.le_refl _⟩
  case round =>
    obtain ⟨pos, hit, hbw, hleft, hfu, hdr⟩ := hrel
    by_cases hps : pos < s.size
    · obtain ⟨g', rfl⟩ : ∃ g', gk = g' + 1 := ⟨gk - 1, by omega⟩
      have hnx : ∀ ty, (Instr.next (.pointer (some ⟨w.heap.size, 0, none⟩)) true ty).run Tryz.prog wr = _ := fun ty => Lib.run_next_any_at wr w.heap.size s pos ty hit hps
      have hwd := Lib.width_pos s pos
      obtain ⟨R, hR⟩ : ∃ R, (Utf8.decode s pos).1 = R := ⟨_, rfl⟩
      obtain ⟨K, hK⟩ : ∃ K, (Utf8.decode s pos).2 = K := ⟨_, rfl⟩
      simp only [Lib.idxFuncFrom, hps, if_true, hR, hK] at hleft
      rw [hR, hK] at hnx
      rw [hK] at hwd
      have hit2 := Lib.iterAt_heap wr w.heap.size s pos (pos + K) hit
      have hbw2 := Lib.below_iterAt hbw (k := w.heap.size) (Nat.le_refl _) s (pos + K)
      have hdW : w.drawn ≤ (wr.iterAt w.heap.size s (pos + K)).drawn := hdr
      obtain ⟨W, hWd⟩ : ∃ W, wr.iterAt w.heap.size s (pos + K) = W := ⟨_, rfl⟩
      rw [hWd] at hnx hit2 hbw2 hdW
      have hltW : w.heap.size < W.heap.size := (Array.getElem?_eq_some_iff.1 hit2).1
      have cS : Calls Tryz.prog 112 (#[.int .i32 (R : Int)] ++ #[]) W _ := rune_of R W
      cases hsp : pR R <;> rw [hsp] at cS <;> simp only [hsp, if_true, Bool.false_eq_true, if_false] at hleft
      · go_wp2_with (go_at_fn 112; refine cS.mono ?_; rintro e W' ⟨rfl, q, rfl⟩)
        have hbc := below_drewNg W q
        go_roundg g'
        case measure => omega
        case rel => exact ⟨pos + K, (hbc.block _ hltW).trans hit2, (hbw2.trans (hbc.mono hbw2.size)), hleft, by omega, Nat.le_trans hdW (Nat.le_add_right _ _)⟩
      · go_wp2_with (go_at_fn 112; refine cS.mono ?_; rintro e W' ⟨rfl, q, rfl⟩)
        have hbc := below_drewNg W q
        go_ret
        exact ⟨by rw [← hleft] <;> rfl, (hbw2.trans (hbc.mono hbw2.size)), Nat.le_trans hdW (Nat.le_add_right _ _)⟩
    · have hnx : ∀ ty, (Instr.next (.pointer (some ⟨w.heap.size, 0, none⟩)) true ty).run Tryz.prog wr = _ := fun ty => Lib.run_next_end_at wr w.heap.size s pos ty hit hps
      rw [Lib.idxFuncFrom_end pR true s gk pos hps] at hleft
      go_wp2
      go_ret
      exact ⟨by rw [← hleft] <;> rfl, hbw, hdr⟩

theorem dec_big (n b0 b1 b2 b3 : Nat) (h : 128 ≤ b0) : 128 ≤ (Lib.decodeN n b0 b1 b2 b3).1 := by
  unfold Lib.decodeN

  repeat' split
  all_goals simp_all
  all_goals omega
theorem get_at (s : List UInt8) (i : Nat) (c : UInt8) (h : s[i]? = some c) : (⟨s.toArray⟩ : ByteArray).get! i = c := by
  obtain ⟨hl, he⟩ := List.getElem?_eq_some_iff.1 h
  show (s.toArray)[i]! = c
  simp [hl, he]
theorem idx_all (s : List UInt8) : ∀ (f pos : Nat), s.length ≤ pos + f → (0 ≤ Lib.idxFuncFrom pR true ⟨s.toArray⟩ f pos ↔ ¬ ∀ c ∈ s.drop pos, okC c = true)
  | 0, pos, h => by
    have : s.drop pos = [] := List.drop_eq_nil_of_le (by omega)
    simp [Lib.idxFuncFrom, this]
  | f + 1, pos, h => by
    have hsz : (⟨s.toArray⟩ : ByteArray).size = s.length := by simp [ByteArray.size]
    unfold Lib.idxFuncFrom
    by_cases hp : pos < s.length
    · obtain ⟨c, hc⟩ : ∃ c, s[pos]? = some c := ⟨_, List.getElem?_eq_getElem hp⟩
      have hd : s.drop pos = c :: s.drop (pos + 1) := by
        rw [List.drop_eq_getElem_cons hp]; rw [List.getElem?_eq_getElem hp] at hc; rw [Option.some.inj hc]
      rw [if_pos (by rw [hsz]; exact hp), hd, Lib.decode_at, get_at s pos c hc]
      by_cases hb : c.toNat < 128
      · rw [show Lib.decodeN ((⟨s.toArray⟩ : ByteArray).size - pos) c.toNat ((⟨s.toArray⟩ : ByteArray).get! (pos + 1)).toNat ((⟨s.toArray⟩ : ByteArray).get! (pos + 2)).toNat ((⟨s.toArray⟩ : ByteArray).get! (pos + 3)).toNat = (c.toNat, 1) from by simp [Lib.decodeN, hb]]
        have ih := idx_all s f (pos + 1) (by omega)
        by_cases ho : okC c = true
        · have : pR c.toNat = false := by simp [okC, pR] at *; omega
          simp only [this]
          rw [if_neg (by simp), ih]; simp [ho]
        · have : pR c.toNat = true := by simp [okC, pR] at *; omega
          simp only [this, if_true]
          simp [ho]
      · have h2 := dec_big ((⟨s.toArray⟩ : ByteArray).size - pos) c.toNat ((⟨s.toArray⟩ : ByteArray).get! (pos + 1)).toNat ((⟨s.toArray⟩ : ByteArray).get! (pos + 2)).toNat ((⟨s.toArray⟩ : ByteArray).get! (pos + 3)).toNat (by omega)
        have h3 : pR (Lib.decodeN ((⟨s.toArray⟩ : ByteArray).size - pos) c.toNat ((⟨s.toArray⟩ : ByteArray).get! (pos + 1)).toNat ((⟨s.toArray⟩ : ByteArray).get! (pos + 2)).toNat ((⟨s.toArray⟩ : ByteArray).get! (pos + 3)).toNat).1 = true := by simp [pR]; omega
        have ho : okC c = false := by simp [okC]; omega
        rw [if_pos h3]; simp [ho]
    · have : s.drop pos = [] := List.drop_eq_nil_of_le (by omega)
      rw [if_neg (by rw [hsz]; exact hp)]
      simp [this]
theorem idx_ok (s : List UInt8) : decide (0 ≤ Lib.idxFunc pR true ⟨s.toArray⟩) = !s.all okC := by
  have h := idx_all s s.length 0 (by omega)
  unfold Lib.idxFunc
  have hsz : (⟨s.toArray⟩ : ByteArray).size = s.length := by simp [ByteArray.size]
  rw [hsz, Bool.eq_iff_iff]
  simp only [decide_eq_true_eq, h, List.drop_zero, Bool.not_eq_true', ← Bool.not_eq_true, List.all_eq_true]

set_option maxHeartbeats 2000000 in
theorem strIndexFuncTop (s : ByteArray) (w : World) :
    Calls Tryz.prog 144 #[.string s, .func (.func 112) #[] #[]] w fun e w' => e = .returned (.int .i64 (Lib.idxFunc pR true s)) ∧ Below w.heap.size w w' ∧ w.drawn ≤ w'.drawn := by
  have cI := strIndexFunc s w
  have e183 : ∀ args w, (callFunc 183 args).run Tryz.prog w = .ok (.enter 183 args) w := enters_of Tryz.func183 (by kernel_rfl) rfl
  go_enter Tryz.func144, Tryz.ntmps144
  go_wp2_with (go_at_fn 183; refine cI.mono ?_; rintro e w' ⟨rfl, hb⟩)
  go_ret
  exact ⟨rfl, hb⟩
set_option maxHeartbeats 2000000 in
theorem strContainsFunc (s : ByteArray) (w : World) :
    Calls Tryz.prog 111 #[.string s, .func (.func 112) #[] #[]] w fun e w' => e = .returned (.bool (decide (0 ≤ Lib.idxFunc pR true s))) ∧ Below w.heap.size w w' ∧ w.drawn ≤ w'.drawn := by
  have cI := strIndexFuncTop s w
  have e144 : ∀ args w, (callFunc 144 args).run Tryz.prog w = .ok (.enter 144 args) w := enters_of Tryz.func144 (by kernel_rfl) rfl
  obtain ⟨I, hI⟩ : ∃ I, Lib.idxFunc pR true s = I := ⟨_, rfl⟩
  rw [hI] at cI ⊢
  go_enter Tryz.func111, Tryz.ntmps111
  go_wp2_with (go_at_fn 144; refine cI.mono ?_; rintro e w' ⟨rfl, hb⟩)
  go_ret
  exact ⟨rfl, hb⟩
theorem res_of_below {w w' : World} {G : GH} (hG : G.In w) (h : Below w.heap.size w w') (hd : w.drawn ≤ w'.drawn) : Res [] w G w' G :=
  ⟨⟨h.os, h.tape, h.output, hd, h.size, fun k hk _ => h.block k hk⟩, G.le_refl, fun _ _ => rfl, fun b o hb => (h.block b (hG.lt hb)).trans (hG b o hb)⟩
theorem c_ContainsS {G : GH} {w : World} (hG : G.In w) (s : List UInt8) : Calls Tryz.prog (nat_lit 111) #[strV s, .func (.func 112) #[] #[]] w fun e w' => ∃ r G', e = .returned r ∧ Res [] w G w' G' ∧ r = .bool (!s.all okC) :=
  (strContainsFunc ⟨s.toArray⟩ w).mono fun e w' ⟨he, hb, hd⟩ => ⟨_, G, he, res_of_below hG hb hd, by rw [idx_ok]⟩
end Go.Civ
namespace Go.Civ
open Go.RowKit
set_option linter.unusedVariables false
structure FnO (P : Program) {α : Type} (A : GH → Value → α → Prop) (fid : Nat) (cap : Array Value) (G : GH) (on : α → Prop) (nx : α → Option (List Val)) : Prop where
  body : HasBody P fid
  call : ∀ (G' : GH) (w' : World) (v : Value) (x : α), G.le G' → G'.In w' → on x → A G' v x →
    Calls P fid ([v] ++ cap.toList).toArray w' fun e w'' => ∃ r G'', e = .returned r ∧ Res [] w' G' w'' G'' ∧ ∃ r0 r1, r = .tuple #[r0, r1] ∧ Sl ValE 32 G'' r0 ((nx x).getD []) ∧ r1 = .bool (nx x).isSome
theorem FnO.up {P : Program} {α : Type} {A : GH → Value → α → Prop} {fid : Nat} {cap : Array Value} {G G' : GH} {on : α → Prop} {nx : α → Option (List Val)} (h : FnO P A fid cap G on nx) (k : G.le G') : FnO P A fid cap G' on nx :=
  ⟨h.body, fun G2 w' v x hle => h.call G2 w' v x (k.trans hle)⟩
theorem can_one {s : Span} (h : s.a < s.b) : Can [s] := ⟨by simp, by simpa using h⟩
def piecesS (r d : Span) : List Span := (if r.a < d.a then [⟨r.a, d.a⟩] else []) ++ (if d.b < r.b then [⟨d.b, r.b⟩] else [])
theorem pieces_can {r d : Span} (hr : r.a < r.b) (hd : d.a < d.b) (h1 : r.a < d.b) (h2 : d.a < r.b) : Can (piecesS r d) := by
  unfold piecesS
  by_cases c1 : r.a < d.a <;> by_cases c2 : d.b < r.b <;> simp only [c1, c2, if_true, if_false, List.nil_append, List.append_nil]
  · exact ⟨by simp; omega, fun s hs => by simp at hs; rcases hs with rfl | rfl <;> simp <;> omega⟩
  · exact can_one c1
  · exact can_one c2
  · exact ⟨List.Pairwise.nil, by simp⟩
theorem comb_one {r d : Span} (hr : r.a < r.b) (hd : d.a < d.b) (h1 : r.a < d.b) (h2 : d.a < r.b) : combR 3 [r] [d] = piecesS r d := by
  have h := combR_inv (kind := 3) (a := [r]) (b := [d]) rfl (by simpa using hr) (by simpa using hd)
  refine Can.unique h.1 (pieces_can hr hd h1 h2) fun x => ?_
  rw [h.2]
  have e : keepB 3 (inR [r] x) (inR [d] x) = true ↔ ((r.a ≤ x ∧ x < r.b) ∧ ¬ (d.a ≤ x ∧ x < d.b)) := by
    unfold keepB inR; simp; omega
  rw [e]
  unfold piecesS
  by_cases c1 : r.a < d.a <;> by_cases c2 : d.b < r.b <;> simp only [c1, c2, if_true, if_false, List.nil_append, List.append_nil, List.cons_append, cover_cons] <;> simp [cover] <;> omega
theorem pieces_good {r d : Span} (hr : spanB r = true) (hd : spanB d = true) (h1 : r.a < d.b) (h2 : d.a < r.b) : ∀ s ∈ piecesS r d, spanB s = true := fun s hs => by
  unfold spanB at hr hd ⊢
  simp at hr hd ⊢
  unfold piecesS at hs
  rcases List.mem_append.1 hs with hs | hs
  · split at hs
    · obtain rfl := List.mem_singleton.1 hs; simp only; omega
    · cases hs
  · split at hs
    · obtain rfl := List.mem_singleton.1 hs; simp only; omega
    · cases hs
theorem pieces_len (r d : Span) : (piecesS r d).length ≤ 2 := by unfold piecesS; rw [List.length_append]; split <;> split <;> simp
theorem touch_comb {r d : Span} (hr : spanB r = true) (hd : spanB d = true) (h1 : r.a < d.b) (h2 : d.a < r.b) : combR 3 [r] [d] = piecesS r d := comb_one (spanB_pos hr) (spanB_pos hd) h1 h2
theorem part_good {r d : Span} (hr : spanB r = true) (hd : spanB d = true) (h1 : r.a < d.b) (h2 : d.a < r.b) : spanB (partS r d) = true := by
  unfold spanB at hr hd ⊢
  unfold partS
  simp at hr hd ⊢
  omega
def NxOk (nx : List Val → Option (List Val)) (l : List HRow) : Prop := ∀ r ∈ l, ∀ u, nx r.v = some u → u.all valB = true ∧ u.length ≤ 8
structure ChgOk (t : Table) (tx : Int) (d : Span) (nx : List Val → Option (List Val)) : Prop where
  valid : validT t = true
  span : spanB d = true
  inst : instB tx = true
  late : t.last < tx
  next : NxOk nx t.rows
section
variable {t : Table} {tx : Int} {d : Span} {nx : List Val → Option (List Val)} {hl : List Val → Bool}
theorem validT_row1 (h : validT t = true) {r : HRow} (hr : r ∈ t.rows) : goodB r = true ∧ r.v.length ≤ 8 ∧ r.r.x.a ≤ t.last ∧ r.v.length = t.s.cols.length ∧ r.v.all valB = true ∧ t.s.cols.length ≤ 8 := by
  rw [validT_is] at h
  simp only [Bool.and_eq_true] at h
  have h1 := List.all_eq_true.1 h.1.2 r hr
  unfold rowOk at h1
  simp only [Bool.and_eq_true, decide_eq_true_eq] at h1
  obtain ⟨a, b, c, _⟩ := rowE_len h1.1.1.1
  exact ⟨h1.1.1.2, a, h1.1.2, c, b, by omega⟩
theorem chgOf_len (hc : ChgOk t tx d nx) {r : HRow} (hr : r ∈ t.rows) : (chgOf hl nx tx d r).length ≤ 4 := by
  unfold chgOf
  split
  · rename_i h
    simp only [Bool.and_eq_true] at h
    unfold touchB at h
    simp only [Bool.and_eq_true, decide_eq_true_eq] at h
    have hg := goodB_parts (validT_row1 hc.valid hr).1
    rw [touch_comb hg.2.1 hc.span h.1.1.2 h.1.2]
    have := pieces_len r.r.d d
    have h2 : (lastN (nx r.v) r.r.d d tx).length ≤ 1 := by unfold lastN; split <;> simp
    simp only [List.length_append, outN_len, List.length_cons, List.length_nil]
    omega
  · simp
theorem chgRows_len (hc : ChgOk t tx d nx) : ∀ k, (chgRows hl nx tx d (t.rows.take k)).length ≤ 4 * k
  | 0 => by simp [chgRows]
  | k + 1 => by
    have ih := chgRows_len hc k
    cases e : t.rows[k]? with
    | none => rw [List.take_add_one, e]; simp only [Option.toList, List.append_nil]; omega
    | some r =>
      rw [chgRows_take e, List.length_append]
      have := chgOf_len (hl := hl) hc (List.mem_of_getElem? e)
      omega
theorem chgOf_good (hc : ChgOk t tx d nx) {r : HRow} (hr : r ∈ t.rows) : ∀ q ∈ chgOf hl nx tx d r, goodB q = true ∧ q.v.length ≤ 1000 := by
  obtain ⟨g1, g2, g3, _⟩ := validT_row1 hc.valid hr
  have hg := goodB_parts g1
  have ht := instB_parts hc.inst
  have hl := hc.late
  have mk : ∀ (v : List Val) (a b : Span), v.all valB = true → spanB a = true → spanB b = true → goodB ⟨v, ⟨a, b⟩⟩ = true := fun v a b h1 h2 h3 => by unfold goodB; simp only; rw [h1, h2, h3]; rfl
  have hx := hg.2.2
  unfold spanB at hx
  simp at hx
  have hT : spanB ⟨tx, 253402300800⟩ = true := by unfold spanB; simp; omega
  unfold chgOf
  split
  · rename_i h
    simp only [Bool.and_eq_true] at h
    unfold touchB at h
    simp only [Bool.and_eq_true, decide_eq_true_eq] at h
    rw [touch_comb hg.2.1 hc.span h.1.1.2 h.1.2]
    intro q hq
    rcases List.mem_append.1 hq with hq | hq
    · rcases List.mem_append.1 hq with hq | hq
      · rw [List.mem_singleton.1 hq]
        exact ⟨mk _ _ _ hg.1 hg.2.1 (by unfold spanB; simp; omega), Nat.le_trans g2 (by decide)⟩
      · unfold outN at hq
        obtain ⟨s, hs, rfl⟩ := List.mem_map.1 hq
        exact ⟨mk _ _ _ hg.1 (pieces_good hg.2.1 hc.span h.1.1.2 h.1.2 s hs) hT, Nat.le_trans g2 (by decide)⟩
    · unfold lastN at hq
      split at hq
      · rename_i u hu
        rw [List.mem_singleton.1 hq]
        obtain ⟨u1, u2⟩ := hc.next r hr u hu
        exact ⟨mk _ _ _ u1 (part_good hg.2.1 hc.span h.1.1.2 h.1.2) hT, Nat.le_trans u2 (by decide)⟩
      · cases hq
  · intro q hq
    rw [List.mem_singleton.1 hq]; exact ⟨g1, Nat.le_trans g2 (by decide)⟩
theorem chgRows_good (hc : ChgOk t tx d nx) : GoodH (chgRows hl nx tx d t.rows) ∧ (∀ r ∈ chgRows hl nx tx d t.rows, r.v.length ≤ 1000) ∧ (chgRows hl nx tx d t.rows).length ≤ 2000 := by
  refine ⟨fun q hq => ?_, fun q hq => ?_, ?_⟩
  · obtain ⟨r, hr, h⟩ := List.mem_flatMap.1 hq; exact (chgOf_good hc hr q h).1
  · obtain ⟨r, hr, h⟩ := List.mem_flatMap.1 hq; exact (chgOf_good hc hr q h).2
  · have h1 := chgRows_len (hl := hl) hc t.rows.length
    rw [List.take_length] at h1
    have := (validT_good hc.valid).2.1
    omega
end
theorem maskV_len : ∀ (v s : List Val) (m : List Bool), (maskV v s m).length = v.length
  | [], s, m => by simp [maskV]
  | x :: v, [], m => by simp [maskV]
  | x :: v, y :: s, [] => by simp [maskV]
  | x :: v, y :: s, b :: m => by simp [maskV, maskV_len v s m]
theorem maskV_nil (v s : List Val) : maskV v s [] = v := by cases v <;> cases s <;> rfl
theorem maskV_no : ∀ {v s : List Val} {m : List Bool} {k : Nat}, m[k]? = some false → maskV v s (m.take (k + 1)) = maskV v s (m.take k)
  | [], s, m, k, _ => by simp [maskV]
  | x :: v, [], m, k, _ => by cases m.take (k + 1) <;> cases m.take k <;> simp [maskV]
  | x :: v, y :: s, [], k, h => by simp at h
  | x :: v, y :: s, b :: m, 0, h => by simp at h; subst h; simp [maskV, maskV_nil]
  | x :: v, y :: s, b :: m, k + 1, h => by
    simp only [List.take_succ_cons, maskV]
    rw [maskV_no (by simpa using h)]
theorem maskV_yes : ∀ {v s : List Val} {m : List Bool} {k : Nat} {z : Val}, m[k]? = some true → s[k]? = some z → k < v.length → maskV v s (m.take (k + 1)) = (maskV v s (m.take k)).set k z
  | [], s, m, k, z, _, _, h => by simp at h
  | x :: v, [], m, k, z, _, h, _ => by simp at h
  | x :: v, y :: s, [], k, z, h, _, _ => by simp at h
  | x :: v, y :: s, b :: m, 0, z, h, h2, _ => by simp at h h2; subst h h2; simp [maskV, maskV_nil]
  | x :: v, y :: s, b :: m, k + 1, z, h, h2, h3 => by
    simp only [List.take_succ_cons, maskV, List.set_cons_succ]
    rw [maskV_yes (by simpa using h) (by simpa using h2) (by simpa using h3)]
theorem mask_all {m : List Bool} {k : Nat} (h : m.length ≤ k) (v s : List Val) : maskV v s (m.take k) = maskV v s m := by rw [List.take_of_length_le h]
end Go.Civ
namespace Go.Civ
theorem chg_yes {L : List HRow} {q : HRow} {v : List Val} {ss : List Span} {k : Nat} {tx : Int} {nx : Option (List Val)} {r d : Span} (hk : ss.length ≤ k) (h : nx.isSome = true) :
    ((L ++ [q]) ++ outN v (ss.take k) tx 253402300800) ++ [⟨nx.getD [], ⟨⟨max r.a d.a, min r.b d.b⟩, ⟨tx, 253402300800⟩⟩⟩] = L ++ ([q] ++ outN v ss tx 253402300800 ++ lastN nx r d tx) := by
  rw [List.take_of_length_le hk]
  cases nx with
  | none => cases h
  | some u => simp [lastN, partS]
theorem chg_no {L : List HRow} {q : HRow} {v : List Val} {ss : List Span} {k : Nat} {tx : Int} {nx : Option (List Val)} {r d : Span} (hk : ss.length ≤ k) (h : nx.isSome = false) :
    (L ++ [q]) ++ outN v (ss.take k) tx 253402300800 = L ++ ([q] ++ outN v ss tx 253402300800 ++ lastN nx r d tx) := by
  rw [List.take_of_length_le hk]
  cases nx with
  | none => simp [lastN]
  | some u => cases h
end Go.Civ
namespace Go.Civ
theorem mask_no {v s : List Val} {m : List Bool} {k : Nat} {b : Bool} (h : m[k]? = some b) (hb : b = false) : maskV v s (m.take (k + 1)) = maskV v s (m.take k) := by subst hb; exact maskV_no h
theorem mask_yes {v s : List Val} {m : List Bool} {k : Nat} {b : Bool} {z : Val} (h : m[k]? = some b) (hb : b = true) (hs : s[k]? = some z) (hk : k < v.length) : maskV v s (m.take (k + 1)) = (maskV v s (m.take k)).set k z := by subst hb; exact maskV_yes h hs hk
end Go.Civ
namespace Go.Civ
open Go.RowKit
set_option linter.unusedVariables false
theorem checkF_I64 {d : Nat} {c : Cond} {l : List Col} : I64 (checkF d c l) := by unfold checkF; split; exact typedF_I64; constructor <;> decide
section
variable {d : Nat} {t : Table} {tx : Int} {c : Cond} {p : Span} {set : List Val} {mask : List Bool}
theorem del_1 (h : insOk t p = false) : noT = delT d t tx c p ∧ 1 = delE d t tx c p := by
  have : delErr d t tx c p = 1 := by unfold delErr; rw [h]; rfl
  unfold delT delE; rw [this]; exact ⟨rfl, rfl⟩
theorem delErr_is (h : insOk t p = true) : delErr d t tx c p = or2 (checkF d c t.s.cols) (timE t tx) := by unfold delErr; rw [h]; rfl
theorem del_2 (h : insOk t p = true) (h2 : cmpOr [checkF d c t.s.cols, timE t tx] ≠ 0) : noT = delT d t tx c p ∧ cmpOr [checkF d c t.s.cols, timE t tx] = delE d t tx c p := by
  rw [cmpOr2] at *
  unfold delT delE; rw [delErr_is h, if_neg h2, if_neg h2]; exact ⟨rfl, rfl⟩
theorem del_3 (h : insOk t p = true) (h2 : cmpOr [checkF d c t.s.cols, timE t tx] = 0) : doneT t tx (delRows d t tx c p) = delT d t tx c p ∧ doneTE (delRows d t tx c p) = delE d t tx c p := by
  rw [cmpOr2] at *
  unfold delT delE; rw [delErr_is h, if_pos h2, if_pos h2]; exact ⟨rfl, rfl⟩
theorem insOk_parts (h : insOk t p = true) : validT t = true ∧ spanB p = true := by unfold insOk at h; simpa using h
theorem del_ok (h : insOk t p = true) (h2 : cmpOr [checkF d c t.s.cols, timE t tx] = 0) : ChgOk t tx p fun _ => none := by
  rw [cmpOr2] at h2
  obtain ⟨a, b⟩ := insOk_parts h
  obtain ⟨e1, e2⟩ := or2_0 h2
  obtain ⟨e3, e4⟩ := timE_0 e2
  exact ⟨a, b, e3, e4, fun r hr u hu => by cases hu⟩
theorem upd_1 (h : insOk t p = false) : noT = updT d t tx c set mask p ∧ 1 = updE d t tx c set mask p := by
  have : updErr d t tx c set mask p = 1 := by unfold updErr; rw [h]; rfl
  unfold updT updE; rw [this]; exact ⟨rfl, rfl⟩
theorem updErr_is (h : insOk t p = true) : updErr d t tx c set mask p = if checkF d c t.s.cols ≠ 0 then checkF d c t.s.cols else if set.length ≠ t.s.cols.length ∨ mask.length ≠ t.s.cols.length then 1 else if typM t.s.cols set mask then timE t tx else 13 := by
  unfold updErr; rw [h, if_pos rfl]
theorem upd_2 (h : insOk t p = true) (h2 : checkF d c t.s.cols ≠ 0) : noT = updT d t tx c set mask p ∧ checkF d c t.s.cols = updE d t tx c set mask p := by
  have e : updErr d t tx c set mask p = checkF d c t.s.cols := by rw [updErr_is h, if_pos h2]
  unfold updT updE; rw [e, if_neg h2, if_neg h2]; exact ⟨rfl, rfl⟩
theorem upd_3 (h : insOk t p = true) (h2 : checkF d c t.s.cols = 0) (h3 : set.length ≠ t.s.cols.length ∨ mask.length ≠ t.s.cols.length) : noT = updT d t tx c set mask p ∧ 1 = updE d t tx c set mask p := by
  have e : updErr d t tx c set mask p = 1 := by rw [updErr_is h, if_neg (fun k => k h2), if_pos h3]
  unfold updT updE; rw [e]; exact ⟨rfl, rfl⟩
theorem upd_4 (h : insOk t p = true) (h2 : checkF d c t.s.cols = 0) (h3 : set.length = t.s.cols.length) (h4 : mask.length = t.s.cols.length) (h5 : typM t.s.cols set mask = false) : noT = updT d t tx c set mask p ∧ 13 = updE d t tx c set mask p := by
  have e : updErr d t tx c set mask p = 13 := by rw [updErr_is h, if_neg (fun k => k h2), if_neg (fun k => by rcases k with k | k <;> exact k (by assumption)), h5]; rfl
  unfold updT updE; rw [e]; exact ⟨rfl, rfl⟩
theorem updErr_5 (h : insOk t p = true) (h2 : checkF d c t.s.cols = 0) (h3 : set.length = t.s.cols.length) (h4 : mask.length = t.s.cols.length) (h5 : typM t.s.cols set mask = true) : updErr d t tx c set mask p = timE t tx := by
  rw [updErr_is h, if_neg (fun k => k h2), if_neg (fun k => by rcases k with k | k <;> exact k (by assumption)), h5]; rfl
theorem upd_5 (h : insOk t p = true) (h2 : checkF d c t.s.cols = 0) (h3 : set.length = t.s.cols.length) (h4 : mask.length = t.s.cols.length) (h5 : typM t.s.cols set mask = true) (h6 : timE t tx ≠ 0) : noT = updT d t tx c set mask p ∧ timE t tx = updE d t tx c set mask p := by
  unfold updT updE; rw [updErr_5 h h2 h3 h4 h5, if_neg h6, if_neg h6]; exact ⟨rfl, rfl⟩
theorem upd_6 (h : insOk t p = true) (h2 : checkF d c t.s.cols = 0) (h3 : set.length = t.s.cols.length) (h4 : mask.length = t.s.cols.length) (h5 : typM t.s.cols set mask = true) (h6 : timE t tx = 0) : doneT t tx (updRows d t tx c set mask p) = updT d t tx c set mask p ∧ doneTE (updRows d t tx c set mask p) = updE d t tx c set mask p := by
  unfold updT updE; rw [updErr_5 h h2 h3 h4 h5, if_pos h6, if_pos h6]; exact ⟨rfl, rfl⟩
end
section
variable {cols : List Col} {set : List Val} {mask : List Bool} {j : Nat}
theorem okM_1 {b : Bool} (h : mask[j]? = some b) (hb : b = false) : okM cols set mask j = true := by
  subst hb; unfold okM; rw [h]
  cases set[j]? with
  | none => rfl
  | some x => cases cols[j]? <;> rfl
theorem okM_y {b : Bool} {x : Val} {c : Col} (h : mask[j]? = some b) (hs : set[j]? = some x) (hc : cols[j]? = some c) (h1 : valB x = true) (h2 : x.k = c.kind) : okM cols set mask j = true := by
  unfold okM; rw [h, hs, hc]; simp [h1, h2]
theorem okM_n1 {b : Bool} {x : Val} (h : mask[j]? = some b) (hb : b = true) (hs : set[j]? = some x) (hj : j < cols.length) (h1 : valB x = false) : okM cols set mask j = false := by
  subst hb; unfold okM; rw [h, hs, List.getElem?_eq_getElem hj]; simp [h1]
theorem okM_n2 {b : Bool} {x : Val} {c : Col} (h : mask[j]? = some b) (hb : b = true) (hs : set[j]? = some x) (hc : cols[j]? = some c) (h2 : x.k ≠ c.kind) : okM cols set mask j = false := by
  subst hb; unfold okM; rw [h, hs, hc]; simp [h2]
theorem typM_no {k : Nat} {b : Bool} (h : mask[k]? = some b) (hk : okM cols set mask k = false) : typM cols set mask = false := by
  unfold typM
  rw [Bool.eq_false_iff]
  intro e
  rw [List.all_eq_true] at e
  have := e k (List.mem_range.2 (List.getElem?_eq_some_iff.1 h).1)
  rw [this] at hk; cases hk
theorem typM_yes {k : Nat} (h : ∀ i, i < k → okM cols set mask i = true) (hk : mask.length ≤ k) : typM cols set mask = true := by
  unfold typM; rw [List.all_eq_true]; intro i hi; exact h i (by have := List.mem_range.1 hi; omega)
theorem typM_val (h : typM cols set mask = true) (hl : set.length = cols.length) {b : Bool} {x : Val} (hm : mask[j]? = some b) (hb : b = true) (hs : set[j]? = some x) : valB x = true := by
  unfold typM at h
  rw [List.all_eq_true] at h
  have h1 := h j (List.mem_range.2 (List.getElem?_eq_some_iff.1 hm).1)
  have h2 := (List.getElem?_eq_some_iff.1 hs).1
  cases hv : valB x with
  | true => rfl
  | false => rw [okM_n1 hm hb hs (by omega) hv] at h1; cases h1
end
theorem maskV_valid : ∀ {v s : List Val} {m : List Bool}, v.all valB = true → (∀ (j : Nat) b x, m[j]? = some b → b = true → s[j]? = some x → valB x = true) → (maskV v s m).all valB = true
  | [], s, m, _, _ => by simp [maskV]
  | x :: v, [], m, h, _ => by simpa [maskV] using h
  | x :: v, y :: s, [], h, _ => by simpa [maskV] using h
  | x :: v, y :: s, b :: m, h, h2 => by
    simp only [List.all_cons, Bool.and_eq_true] at h
    simp only [maskV, List.all_cons, Bool.and_eq_true]
    refine ⟨?_, maskV_valid h.2 fun j b x k1 k2 k3 => h2 (j + 1) b x (by simpa using k1) k2 (by simpa using k3)⟩
    cases b with
    | true => exact h2 0 true y rfl rfl rfl
    | false => exact h.1
theorem upd_ok {t : Table} {tx : Int} {p : Span} {set : List Val} {mask : List Bool} (h : insOk t p = true) (h3 : set.length = t.s.cols.length) (h5 : typM t.s.cols set mask = true) (h6 : timE t tx = 0) : ChgOk t tx p fun v => some (maskV v set mask) := by
  obtain ⟨a, b⟩ := insOk_parts h
  obtain ⟨e3, e4⟩ := timE_0 h6
  refine ⟨a, b, e3, e4, fun r hr u hu => ?_⟩
  obtain rfl := Option.some.inj hu
  obtain ⟨_, g2, _, g4, g5, _⟩ := validT_row1 a hr
  exact ⟨maskV_valid g5 fun j b x k1 k2 k3 => typM_val h5 h3 k1 k2 k3, by rw [maskV_len]; exact g2⟩
section
variable {t : Table} {a b : Int}
end
end Go.Civ
set_option linter.unusedVariables false
namespace Go.Civ
open Go.Proofs Go.Shelf Go.RowKit Go.Lib Go.Sort

theorem flat_getK {α : Type} (enc : α → List Value) (k : Nat) (hk0 : 0 < k) (hk : ∀ x, (enc x).length = k) : ∀ (l : List α) (t : Nat), (l.flatMap enc)[t]? = (l[t / k]?).bind fun x => (enc x)[t % k]?
  | [], t => by simp
  | x :: l, t => by
    rw [List.flatMap_cons, List.getElem?_append]
    by_cases ht : t < k
    · rw [if_pos (by rw [hk]; exact ht), Nat.div_eq_of_lt ht, Nat.mod_eq_of_lt ht]; rfl
    · rw [if_neg (by rw [hk]; exact ht), hk, flat_getK enc k hk0 hk l (t - k), Nat.div_eq_sub_div (a := t) hk0 (by omega), Nat.mod_eq_sub_mod (a := t) (by omega), List.getElem?_cons_succ]
theorem flatK_atK {α : Type} [Inhabited α] (enc : α → List Value) (k : Nat) (hk0 : 0 < k) (hk : ∀ x, (enc x).length = k) (d : Array α) (t : Nat) (ht : t < d.size * k) : (d.toList.flatMap enc)[t]? = some ((flatK enc k d)[t]!) := by
  rw [flat_getK enc k hk0 hk, get_flatK enc k d t ht]
  have hd : t / k < d.size := (Nat.div_lt_iff_lt_mul hk0).2 ht
  have e : d.toList[t / k]? = some d[t / k]! := by
    rw [getElem!_pos d (t / k) hd, Array.getElem?_toList, Array.getElem?_eq_getElem hd]
  rw [e]
  simp only [Option.bind_some]
  have hl : t % k < (enc d[t / k]!).length := by rw [hk]; exact Nat.mod_lt _ hk0
  rw [List.getElem?_eq_getElem hl, getElem!_pos (enc d[t / k]!) (t % k) hl]
abbrev Elt {α : Type} (E : Enc α) (G : GH) (V : α → Prop) := { p : α × List Value // E.rep G p.1 p.2 ∧ V p.1 }
section
variable {α : Type} {E : Enc α} {G : GH} {V : α → Prop}
theorem flat_elts : ∀ (l : List α) (xs : List Value), Flat E G l xs → (∀ x ∈ l, V x) → ∃ dl : List (Elt E G V), dl.map (·.1.1) = l ∧ dl.flatMap (·.1.2) = xs
  | [], xs, h, _ => ⟨[], rfl, by simpa using h.symm⟩
  | x :: l, xs, ⟨c, r, h1, h2, h3⟩, hV => by
    obtain ⟨dl, k1, k2⟩ := flat_elts l r h3 fun y hy => hV y (by simp [hy])
    exact ⟨⟨(x, c), h2, hV x (by simp)⟩ :: dl, by simp [k1], by simp [k2, h1]⟩
theorem elts_flat : ∀ (dl : List (Elt E G V)), Flat E G (dl.map (·.1.1)) (dl.flatMap (·.1.2))
  | [] => rfl
  | x :: l => ⟨x.1.2, _, rfl, x.2.1, elts_flat l⟩
theorem Kept.grow {w w' : World} (h : Kept [] w w') : ∃ q os', w' = grow (w.drewN q) os' := by
  refine ⟨w'.drawn - w.drawn, w'.heap.extract w.heap.size w'.heap.size, ?_⟩
  obtain ⟨h1, h2, h3, h4, h5, h6⟩ := h
  obtain ⟨heap, tape, drawn, os, output⟩ := w
  obtain ⟨heap', tape', drawn', os', output'⟩ := w'
  simp only at h1 h2 h3 h4 h5 h6
  subst h1 h2 h3
  simp only [Go.Sort.grow, World.drewN]
  have e1 : drawn + (drawn' - drawn) = drawn' := by omega
  have e2 : heap ++ heap'.extract heap.size heap'.size = heap' := by
    apply Array.ext_getElem?
    intro i
    rw [Array.getElem?_append]
    split
    · rename_i hi; exact (h6 i hi (by simp)).symm
    · rename_i hi
      rw [Array.getElem?_extract]
      split
      · congr 1; omega
      · rw [Array.getElem?_eq_none]; omega
  rw [e1, e2]
end
theorem sort_heap {β : Type} [Inhabited β] (enc : β → List Value) (k : Nat) (w : World) (b n : Nat) (d : Array β) (os : Array Obj) {cs : List Value} {tid : TypeId} (hb : w.heap[b]? = some (.cells cs.toArray tid (0, 0))) (i : Nat) :
    (sortWorldK enc k w b 0 n d os).heap[i]? = if i < w.heap.size then (if b = i then some (.cells (putCells id 0 (flatK enc k d) cs.toArray) tid (0, 0)) else w.heap[i]?) else os[i - w.heap.size]? := by
  have hah : (Go.Sort.ahead w n).heap = w.heap := rfl
  simp only [sortWorldK, putRowK, putRow, mapBlock, Go.Sort.grow, hah]
  rw [Array.getElem?_append]
  simp only [Array.size_modify]
  by_cases hk : i < w.heap.size
  · rw [if_pos hk, if_pos hk, Array.getElem?_modify]
    by_cases hkb : b = i
    · subst hkb
      rw [if_pos rfl, if_pos rfl, hb]
      simp [onCells]
    · rw [if_neg hkb, if_neg hkb]
  · rw [if_neg hk, if_neg hk]
theorem sort_res {β : Type} [Inhabited β] (enc : β → List Value) (k : Nat) {w : World} {G : GH} (hG : G.In w) (b n : Nat) (d : Array β) (os : Array Obj) {cs : List Value} {tid : TypeId} (hb : w.heap[b]? = some (.cells cs.toArray tid (0, 0))) (hg : G b = none) :
    Res [b] w G (sortWorldK enc k w b 0 n d os) G := by
  refine ⟨⟨rfl, rfl, rfl, Nat.le_add_right _ _, ?_, fun i hi hkb => ?_⟩, G.le_refl, fun _ _ => rfl, fun i o hk => ?_⟩
  · have hah : (Go.Sort.ahead w n).heap = w.heap := rfl
    simp [sortWorldK, putRowK, putRow, mapBlock, Go.Sort.grow]
    try simp [hah]
  · rw [sort_heap enc k w b n d os hb, if_pos hi, if_neg (by simpa [eq_comm] using hkb)]
  · have hk1 := hG.lt hk
    have hkb : b ≠ i := fun e => by subst e; rw [hg] at hk; cases hk
    rw [sort_heap enc k w b n d os hb, if_pos hk1, if_neg hkb]; exact hG i o hk

set_option maxHeartbeats 2000000 in
theorem sortRow {P : Program} {ρr : Ren} (Ls : SlLaysF0.n6 P ρr) {α : Type} {E : Enc α} {by_ : Nat} {tid : TypeId} (hk0 : 0 < E.n) (aE : ∀ w, (isAgg (ρr.t 24)).run P w = .ok true w) (zE : ∀ w, (Go.sizeOf (ρr.t 24)).run P w = .ok E.n w)
    (cf : α → α → Int) (V : α → Prop) (hirr : ∀ x, V x → ¬ cf x x < 0) (htr : ∀ x y z, V x → V y → V z → cf x y < 0 → cf y z < 0 → cf x z < 0) (hnt : ∀ x y z, V x → V y → V z → ¬ cf x y < 0 → ¬ cf y z < 0 → ¬ cf x z < 0)
    (gf : Nat) (eg : ∀ args w, (callFunc gf args).run P w = .ok (.enter gf args) w) {G : GH} {w : World} (hG : G.In w)
    (hcl : ∀ W, G.In W → ∀ x y cx cy, V x → V y → E.rep G x cx → E.rep G y cy → Calls P gf #[.agg cx.toArray, .agg cy.toArray] W fun e w' => ∃ r G', e = .returned r ∧ Res [] W G w' G' ∧ r = .int .i64 (cf x y))
    (x0 : α) (c0 : List Value) (h0 : E.rep G x0 c0) (hV0 : V x0) (l : List α) (hV : ∀ x ∈ l, V x) (vd : Value) (od : OB) (hvd : Row E by_ tid G vd l od) (hod : Lent w G od) :
    Calls P (ρr.f 6) #[vd, .func (.func gf) #[] #[]] w fun e w' => ∃ r G', e = .returned r ∧ Res (blk od) w G w' G' ∧ r = .tuple #[] ∧ ∃ (l' : List α) (o' : OB), Row E by_ tid G' vd l' o' ∧ Lent w' G' o' ∧ (l'.Perm l ∧ l'.Pairwise fun x y => ¬ cf y x < 0) := by
  rcases hvd with ⟨rfl, rfl, rfl⟩ | ⟨b, cs, cap, xs, rfl, rfl, h3, h4, h5, h6, h7, h8, h9⟩
  · exact (AnyF.slices_SortFunc_none (P := P) (ρ := ρr) { Ls with } none 0 (.func (.func gf) #[] #[]) w).mono fun e w' ⟨he, hw⟩ => by
      subst hw
      exact ⟨_, G, he, Res.refl hG, rfl, [], none, .inl ⟨rfl, rfl, rfl⟩, fun p hp => (by cases hp), List.Perm.refl _, List.Pairwise.nil⟩
  · obtain ⟨hb1, hb2⟩ := hod _ rfl
    simp only [objOf] at hb1
    obtain ⟨dl, rfl, rfl⟩ := flat_elts l xs h6 hV
    letI : Inhabited (Elt E G V) := ⟨⟨(x0, c0), h0, hV0⟩⟩
    have hkE : ∀ x : Elt E G V, (x.1.2).length = E.n := fun x => E.len x.2.1
    have hsz : dl.toArray.size = (dl.map (·.1.1)).length := by simp
    have hcell : ∀ t, t < dl.toArray.size * E.n → cs[t]? = some ((flatK (fun x : Elt E G V => x.1.2) E.n dl.toArray)[t]!) := fun t ht => by
      rw [← flatK_atK (fun x : Elt E G V => x.1.2) E.n hk0 hkE dl.toArray t ht]
      have e7 := congrArg (·[t]?) h7
      rw [List.getElem?_take, if_pos (by rw [← hsz]; exact ht)] at e7
      exact e7
    have hH : HoldsK (fun x : Elt E G V => x.1.2) E.n w b 0 dl.toArray := fun t ht => by
      rw [size_flatK] at ht
      refine ⟨?_, ?_⟩
      · rw [Nat.zero_add]
        simp only [World.cell?, hb1]
        have := hcell t ht
        simpa using this
      · simp [World.frozen?, hb1]
    have hO : SWO (ltOf fun x y : Elt E G V => cf x.1.1 y.1.1) :=
      ⟨fun x => decide_eq_false (hirr _ x.2.2), fun x y z p q => decide_eq_true (htr _ _ _ x.2.2 y.2.2 z.2.2 (of_decide_eq_true p) (of_decide_eq_true q)), fun x y z p q => decide_eq_false (hnt _ _ _ x.2.2 y.2.2 z.2.2 (of_decide_eq_false p) (of_decide_eq_false q))⟩
    have hcon := AnyQ.slices_SortFunc Ls E.n aE zE (fun x : Elt E G V => x.1.2) hkE (fun x v hv => E.one x.2.1 v hv) (fun x y => cf x.1.1 y.1.1) hO gf #[] b 0 cap dl.toArray w eg
      (fun m os dk _ x y => (hcl _ (sort_res _ _ hG b m dk os hb1 hb2).imm x.1.1 y.1.1 x.1.2 y.1.2 x.2.2 y.2.2 x.2.1 y.2.1).mono fun e w' ⟨r, G', he, hres, hr⟩ => ⟨by rw [he, hr], hres.kept.grow⟩)
      hH (Array.getElem?_eq_some_iff.1 hb1).1 (by rw [hsz]; unfold reach at h9; omega)
    rw [hsz] at hcon
    refine hcon.mono fun e w' ⟨he, d', n, os, hp, hs, hw⟩ => ?_
    obtain ⟨hp1, hp2, hp3⟩ := hp
    have hd' : d'.size = dl.length := by simpa using hp1
    have hperm : d'.toList.Perm dl := by
      have e1 : d'.extract 0 dl.toArray.size = d' := by rw [← hp1]; simp
      have e2 : dl.toArray.extract 0 dl.toArray.size = dl.toArray := by simp
      rw [hsz.symm, e1, e2] at hp3; simpa using hp3
    have hbl : b < w.heap.size := (Array.getElem?_eq_some_iff.1 hb1).1
    subst hw
    obtain ⟨cs', hcs'⟩ : ∃ cs' : List Value, cs' = (putCells id 0 (flatK (fun x : Elt E G V => x.1.2) E.n d') cs.toArray).toList := ⟨_, rfl⟩
    have hres := sort_res (fun x : Elt E G V => x.1.2) E.n hG b n d' os hb1 hb2
    have hlen : (d'.toList.map (·.1.1)).length = (dl.map (·.1.1)).length := by simp [hd']
    have hln : (dl.map (·.1.1)).length = dl.length := by simp
    have h5' : cs.length = cap * E.n := h5
    have hfl : (d'.toList.flatMap (·.1.2)).length = d'.size * E.n := by
      have := Flat.len (elts_flat d'.toList); simpa using this
    have hcapd : d'.size * E.n ≤ cs.length := by
      rw [h5']; exact Nat.mul_le_mul_right _ (by omega)
    refine ⟨_, G, he, hres, rfl, d'.toList.map (·.1.1), some (b, tid, cs'), .inr ⟨b, cs', cap, d'.toList.flatMap (·.1.2), rfl, by rw [hlen], by rw [hlen]; exact h3, h4, ?_, elts_flat _, ?_, by rw [hlen]; exact h8, by rw [hlen]; exact h9⟩, fun p hp => ?_, ?_, ?_⟩
    · subst hcs'; simpa [putCells] using h5
    · apply List.ext_getElem?
      intro t
      rw [List.getElem?_take]
      have hn2 : (d'.toList.map (·.1.1)).length * E.n = d'.size * E.n := by simp
      rw [hn2]
      by_cases ht : t < d'.size * E.n
      · have htc : t < cs.length := by omega
        rw [if_pos ht, flatK_atK (fun x : Elt E G V => x.1.2) E.n hk0 hkE d' t ht, hcs']
        simp only [putCells, Array.getElem?_toList, Array.getElem?_mapIdx, size_flatK]
        simp only [List.getElem?_toArray]
        rw [List.getElem?_eq_getElem htc]
        simp [ht]
      · rw [if_neg ht, List.getElem?_eq_none]; omega
    · obtain rfl := Option.some.inj hp
      refine ⟨?_, hb2⟩
      rw [sort_heap _ _ w b n d' os hb1, if_pos hbl, if_pos rfl, hcs']; rfl
    · exact hperm.map _
    · rw [List.pairwise_map, List.pairwise_iff_getElem]
      intro i j hi hj hij
      have h := hs i j (by omega) hij (by rw [← hsz, ← hp1]; simpa using hj)
      have hi' : i < d'.size := by simpa using hi
      have hj' : j < d'.size := by simpa using hj
      rw [getElem!_pos d' i hi', getElem!_pos d' j hj'] at h
      have := of_decide_eq_false h
      simpa only [Array.getElem_toList] using this
end Go.Civ
