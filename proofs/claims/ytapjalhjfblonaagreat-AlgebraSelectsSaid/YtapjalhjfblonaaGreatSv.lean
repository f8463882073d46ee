/- strings.ContainsFunc with value.Valid's closure: is there a rune below 32 or above 126. -/
import Derived.Test.YtapjalhjfblonaaGreatProg
import Derived.Test.YtapjalhjfblonaaGreatCiv10
import Derived.WalkKit
import Derived.Below
import Derived.Shelf.GgClosure.StringsRunes
set_option linter.unusedVariables false
namespace Go.Civ
open Go.Proofs Go.Shelf Go.RowKit Go.Lib

theorem below_drewNg (w : World) : ∀ n, Below w.heap.size w (w.drewN n)
  | 0 => Below.refl _ _
  | n + 1 => (below_drewNg w n).drew
def pR (r : Nat) : Bool := decide (r < 32) || decide (126 < r)

set_option maxHeartbeats 1000000 in
theorem rune_of (r : Nat) (W : World) : Calls Tryz.prog 160 #[.int .i32 (r : Int)] W fun e w' => e = .returned (.bool (pR r)) ∧ ∃ q, w' = W.drewN q := by
  by_cases h1 : r < 32 <;> by_cases h2 : 126 < r
  all_goals
    have z1 : (r : Int) < 32 ↔ r < 32 := by omega
    have z2 : (126 : Int) < (r : Int) ↔ 126 < r := by omega
    go_enter Tryz.func160, Tryz.ntmps160
    go_wp2
    all_goals first | (exfalso; omega) | (go_ret; exact ⟨by simp [pR, h1, h2], 0, rfl⟩)
set_option maxHeartbeats 2000000 in
set_option maxRecDepth 1000000 in
theorem strIndexFunc (s : ByteArray) (w : World) :
    Calls Tryz.prog 199 #[.string s, .func (.func 160) #[] #[], .bool true] w fun e w' => e = .returned (.int .i64 (Lib.idxFunc pR true s)) ∧ Below w.heap.size w w' := by
  have e160 : ∀ args w, (callFunc 160 args).run Tryz.prog w = .ok (.enter 160 args) w := enters_of Tryz.func160 (by kernel_rfl) rfl
  go_enter Tryz.func199, Tryz.ntmps199
  go_wp2
  go_loopg [] s.size (fun gf wx => ∃ pos : Nat, wx.heap[w.heap.size]? = some (.stringIter s pos) ∧ Below w.heap.size w wx ∧ Lib.idxFuncFrom pR true s gf pos = Lib.idxFunc pR true s ∧ s.size ≤ pos + gf)
  case atStart => exact ⟨0, World.iter_heap w s 0, (Below.refl _ w).alloc (Nat.le_refl _) _, rfl, by omega⟩
  case round =>
    obtain ⟨pos, hit, hbw, hleft, hfu⟩ := hrel
    by_cases hps : pos < s.size
    · obtain ⟨g', rfl⟩ : ∃ g', gk = g' + 1 := ⟨gk - 1, by omega⟩
      have hnx : ∀ ty, (Instr.next (.pointer (some ⟨w.heap.size, 0, none⟩)) true ty).run Tryz.prog wr = _ := fun ty => Lib.run_next_any_at wr w.heap.size s pos ty hit hps
      have hwd := Lib.width_pos s pos
      obtain ⟨R, hR⟩ : ∃ R, (Utf8.decode s pos).1 = R := ⟨_, rfl⟩
      obtain ⟨K, hK⟩ : ∃ K, (Utf8.decode s pos).2 = K := ⟨_, rfl⟩
      simp only [Lib.idxFuncFrom, hps, if_true, hR, hK] at hleft
      rw [hR, hK] at hnx
      rw [hK] at hwd
      have hit2 := Lib.iterAt_heap wr w.heap.size s pos (pos + K) hit
      have hbw2 := Lib.below_iterAt hbw (k := w.heap.size) (Nat.le_refl _) s (pos + K)
      obtain ⟨W, hWd⟩ : ∃ W, wr.iterAt w.heap.size s (pos + K) = W := ⟨_, rfl⟩
      rw [hWd] at hnx hit2 hbw2
      have hltW : w.heap.size < W.heap.size := (Array.getElem?_eq_some_iff.1 hit2).1
      have cS : Calls Tryz.prog 160 (#[.int .i32 (R : Int)] ++ #[]) W _ := rune_of R W
      cases hsp : pR R <;> rw [hsp] at cS <;> simp only [hsp, if_true, Bool.false_eq_true, if_false] at hleft
      · go_wp2_with (go_at_fn 160; refine cS.mono ?_; rintro e W' ⟨rfl, q, rfl⟩)
        have hbc := below_drewNg W q
        go_roundg g'
        case measure => omega
        case rel => exact ⟨pos + K, (hbc.block _ hltW).trans hit2, (hbw2.trans (hbc.mono hbw2.size)), hleft, by omega⟩
      · go_wp2_with (go_at_fn 160; refine cS.mono ?_; rintro e W' ⟨rfl, q, rfl⟩)
        have hbc := below_drewNg W q
        go_ret
        exact ⟨by rw [← hleft] <;> rfl, (hbw2.trans (hbc.mono hbw2.size))⟩
    · have hnx : ∀ ty, (Instr.next (.pointer (some ⟨w.heap.size, 0, none⟩)) true ty).run Tryz.prog wr = _ := fun ty => Lib.run_next_end_at wr w.heap.size s pos ty hit hps
      rw [Lib.idxFuncFrom_end pR true s gk pos hps] at hleft
      go_wp2
      go_ret
      exact ⟨by rw [← hleft] <;> rfl, hbw⟩

theorem dec_big (n b0 b1 b2 b3 : Nat) (h : 128 ≤ b0) : 128 ≤ (Lib.decodeN n b0 b1 b2 b3).1 := by
  unfold Lib.decodeN

  repeat' split
  all_goals simp_all
  all_goals omega
theorem get_at (s : List UInt8) (i : Nat) (c : UInt8) (h : s[i]? = some c) : (⟨s.toArray⟩ : ByteArray).get! i = c := by
  obtain ⟨hl, he⟩ := List.getElem?_eq_some_iff.1 h
  show (s.toArray)[i]! = c
  simp [hl, he]
theorem idx_all (s : List UInt8) : ∀ (f pos : Nat), s.length ≤ pos + f → (0 ≤ Lib.idxFuncFrom pR true ⟨s.toArray⟩ f pos ↔ ¬ ∀ c ∈ s.drop pos, okC c = true)
  | 0, pos, h => by
    have : s.drop pos = [] := List.drop_eq_nil_of_le (by omega)
    simp [Lib.idxFuncFrom, this]
  | f + 1, pos, h => by
    have hsz : (⟨s.toArray⟩ : ByteArray).size = s.length := by simp [ByteArray.size]
    unfold Lib.idxFuncFrom
    by_cases hp : pos < s.length
    · obtain ⟨c, hc⟩ : ∃ c, s[pos]? = some c := ⟨_, List.getElem?_eq_getElem hp⟩
      have hd : s.drop pos = c :: s.drop (pos + 1) := by
        rw [List.drop_eq_getElem_cons hp]; rw [List.getElem?_eq_getElem hp] at hc; rw [Option.some.inj hc]
      rw [if_pos (by rw [hsz]; exact hp), hd, Lib.decode_at, get_at s pos c hc]
      by_cases hb : c.toNat < 128
      · rw [show Lib.decodeN ((⟨s.toArray⟩ : ByteArray).size - pos) c.toNat ((⟨s.toArray⟩ : ByteArray).get! (pos + 1)).toNat ((⟨s.toArray⟩ : ByteArray).get! (pos + 2)).toNat ((⟨s.toArray⟩ : ByteArray).get! (pos + 3)).toNat = (c.toNat, 1) from by simp [Lib.decodeN, hb]]
        have ih := idx_all s f (pos + 1) (by omega)
        by_cases ho : okC c = true
        · have : pR c.toNat = false := by simp [okC, pR] at *; omega
          simp only [this]
          rw [if_neg (by simp), ih]; simp [ho]
        · have : pR c.toNat = true := by simp [okC, pR] at *; omega
          simp only [this, if_true]
          simp [ho]
      · have h2 := dec_big ((⟨s.toArray⟩ : ByteArray).size - pos) c.toNat ((⟨s.toArray⟩ : ByteArray).get! (pos + 1)).toNat ((⟨s.toArray⟩ : ByteArray).get! (pos + 2)).toNat ((⟨s.toArray⟩ : ByteArray).get! (pos + 3)).toNat (by omega)
        have h3 : pR (Lib.decodeN ((⟨s.toArray⟩ : ByteArray).size - pos) c.toNat ((⟨s.toArray⟩ : ByteArray).get! (pos + 1)).toNat ((⟨s.toArray⟩ : ByteArray).get! (pos + 2)).toNat ((⟨s.toArray⟩ : ByteArray).get! (pos + 3)).toNat).1 = true := by simp [pR]; omega
        have ho : okC c = false := by simp [okC]; omega
        rw [if_pos h3]; simp [ho]
    · have : s.drop pos = [] := List.drop_eq_nil_of_le (by omega)
      rw [if_neg (by rw [hsz]; exact hp)]
      simp [this]
theorem idx_ok (s : List UInt8) : decide (0 ≤ Lib.idxFunc pR true ⟨s.toArray⟩) = !s.all okC := by
  have h := idx_all s s.length 0 (by omega)
  unfold Lib.idxFunc
  have hsz : (⟨s.toArray⟩ : ByteArray).size = s.length := by simp [ByteArray.size]
  rw [hsz, Bool.eq_iff_iff]
  simp only [decide_eq_true_eq, h, List.drop_zero, Bool.not_eq_true', ← Bool.not_eq_true, List.all_eq_true]

set_option maxHeartbeats 2000000 in
theorem strIndexFuncTop (s : ByteArray) (w : World) :
    Calls Tryz.prog 188 #[.string s, .func (.func 160) #[] #[]] w fun e w' => e = .returned (.int .i64 (Lib.idxFunc pR true s)) ∧ Below w.heap.size w w' := by
  have cI := strIndexFunc s w
  have e199 : ∀ args w, (callFunc 199 args).run Tryz.prog w = .ok (.enter 199 args) w := enters_of Tryz.func199 (by kernel_rfl) rfl
  go_enter Tryz.func188, Tryz.ntmps188
  go_wp2_with (go_at_fn 199; refine cI.mono ?_; rintro e w' ⟨rfl, hb⟩)
  go_ret
  exact ⟨rfl, hb⟩
set_option maxHeartbeats 2000000 in
theorem strContainsFunc (s : ByteArray) (w : World) :
    Calls Tryz.prog 159 #[.string s, .func (.func 160) #[] #[]] w fun e w' => e = .returned (.bool (decide (0 ≤ Lib.idxFunc pR true s))) ∧ Below w.heap.size w w' := by
  have cI := strIndexFuncTop s w
  have e188 : ∀ args w, (callFunc 188 args).run Tryz.prog w = .ok (.enter 188 args) w := enters_of Tryz.func188 (by kernel_rfl) rfl
  obtain ⟨I, hI⟩ : ∃ I, Lib.idxFunc pR true s = I := ⟨_, rfl⟩
  rw [hI] at cI ⊢
  go_enter Tryz.func159, Tryz.ntmps159
  go_wp2_with (go_at_fn 188; refine cI.mono ?_; rintro e w' ⟨rfl, hb⟩)
  go_ret
  exact ⟨rfl, hb⟩
theorem res_of_below {w w' : World} {G : GH} (hG : G.In w) (h : Below w.heap.size w w') : Res [] w G w' G :=
  ⟨⟨h.os, h.tape, h.output, h.size, fun k hk _ => h.block k hk⟩, G.le_refl, fun _ _ => rfl, fun b o hb => (h.block b (hG.lt hb)).trans (hG b o hb)⟩
theorem c_ContainsS (G : GH) (w : World) (hG : G.In w) (s : List UInt8) : Calls Tryz.prog (nat_lit 159) #[strV s, .func (.func 160) #[] #[]] w fun e w' => ∃ r G', e = .returned r ∧ Res [] w G w' G' ∧ r = .bool (!s.all okC) :=
  (strContainsFunc ⟨s.toArray⟩ w).mono fun e w' ⟨he, hb⟩ => ⟨_, G, he, res_of_below hG hb, by rw [idx_ok]⟩
end Go.Civ
