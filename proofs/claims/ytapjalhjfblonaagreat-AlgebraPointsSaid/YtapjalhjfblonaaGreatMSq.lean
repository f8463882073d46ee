/-
  DERIVED: THE SHELF's CONTRACTS AT THIS DUMP, IN PLAIN WORDS (tools/lay-plain.mjs out of 'YtapjalhjfblonaaGreatShelf.lean', which tools/lay-shelf.mjs wrote): THE SAME DECLARATIONS UNDER THE SAME NAMES: 'import', 'namespace', 'open', 'def', 'theorem' AND NOTHING ELSE: no command of the shelf's: FOR A HAND-IN. Each laying: the table of numbers ('.._ren') and one theorem, a field a fact of the dump's own or the kernel's comparison; each contract: ONE APPLICATION.
-/
import Derived.Shelf.SlSortCmp.NoneTotal
import Derived.Shelf.Slices.In.SortAlone
import Derived.Shelf.Slices.In.SortNone
import Derived.Ground.SlsfProg
import Derived.Ground.NamesProg
import Derived.Test.YtapjalhjfblonaaGreatProg
import Derived.Test.YtapjalhjfblonaaGreatMCiv16
import Derived.WalkKit
import Derived.KernelRfl
namespace Go.Proofs
open Go.Shelf
def Tryz.sortSp_ren : Go.Shelf.Ren := ⟨fun | 6 => 170 | 15 => 152 | 14 => 193 | 28 => 186 | 29 => 187 | 20 => 202 | 21 => 203 | 22 => 204 | 23 => 205 | 24 => 206 | 25 => 207 | 26 => 208 | 27 => 209 | 46 => 212 | 47 => 195 | 48 => 196 | 49 => 213 | 50 => 214 | 57 => 215 | n => n, fun | 22 => 111 | 24 => 46 | 25 => 97 | 3 => 3 | 39 => 98 | 0 => 0 | 53 => 196 | 55 => 198 | 4 => 4 | 46 => 190 | 45 => 189 | 50 => 118 | 5 => 5 | 9 => 9 | 66 => 203 | 70 => 150 | 76 => 214 | 77 => 215 | n => n, fun | n => n⟩
theorem Tryz.sortSp : Go.Proofs.SlLaysF0.n6 Tryz.prog Tryz.sortSp_ren := {
  mixed := by kernel_rfl
  f6 := ⟨Tryz.f170.name, by decide, Tryz.func170.trans (congrArg some (by kernel_rfl))⟩
  f14 := ⟨Tryz.f193.name, by decide, Tryz.func193.trans (congrArg some (by kernel_rfl))⟩
  f15 := Tryz.func152.trans (congrArg some (by kernel_rfl))
  f20 := ⟨Tryz.f202.name, by decide, Tryz.func202.trans (congrArg some (by kernel_rfl))⟩
  f21 := ⟨Tryz.f203.name, by decide, Tryz.func203.trans (congrArg some (by kernel_rfl))⟩
  f22 := ⟨Tryz.f204.name, by decide, Tryz.func204.trans (congrArg some (by kernel_rfl))⟩
  f23 := ⟨Tryz.f205.name, by decide, Tryz.func205.trans (congrArg some (by kernel_rfl))⟩
  f24 := ⟨Tryz.f206.name, by decide, Tryz.func206.trans (congrArg some (by kernel_rfl))⟩
  f25 := ⟨Tryz.f207.name, by decide, Tryz.func207.trans (congrArg some (by kernel_rfl))⟩
  f26 := ⟨Tryz.f208.name, by decide, Tryz.func208.trans (congrArg some (by kernel_rfl))⟩
  f27 := ⟨Tryz.f209.name, by decide, Tryz.func209.trans (congrArg some (by kernel_rfl))⟩
  f28 := Tryz.func186.trans (congrArg some (by kernel_rfl))
  f29 := Tryz.func187.trans (congrArg some (by kernel_rfl))
  f46 := ⟨Tryz.f212.name, by decide, Tryz.func212.trans (congrArg some (by kernel_rfl))⟩
  f47 := Tryz.func195.trans (congrArg some (by kernel_rfl))
  f48 := Tryz.func196.trans (congrArg some (by kernel_rfl))
  f49 := ⟨Tryz.f213.name, by decide, Tryz.func213.trans (congrArg some (by kernel_rfl))⟩
  f50 := ⟨Tryz.f214.name, by decide, Tryz.func214.trans (congrArg some (by kernel_rfl))⟩
  f57 := ⟨Tryz.f215.name, by decide, Tryz.func215.trans (congrArg some (by kernel_rfl))⟩
  t0 := Tryz.underlying0
  a0 := Tryz.isAgg0
  z0 := Tryz.sizeOf0
  v0 := Tryz.zeroValue0
  t3 := Tryz.underlying3
  a3 := Tryz.isAgg3
  z3 := Tryz.sizeOf3
  v3 := Tryz.zeroValue3
  t4 := Tryz.underlying4
  a4 := Tryz.isAgg4
  z4 := Tryz.sizeOf4
  v4 := Tryz.zeroValue4
  t5 := Tryz.underlying5
  a5 := Tryz.isAgg5
  z5 := Tryz.sizeOf5
  v5 := Tryz.zeroValue5
  t9 := Tryz.underlying9
  a9 := Tryz.isAgg9
  z9 := Tryz.sizeOf9
  v9 := Tryz.zeroValue9
  t22 := Tryz.underlying111
  a22 := Tryz.isAgg111
  z22 := Tryz.sizeOf111
  v22 := Tryz.zeroValue111
  t25 := Tryz.underlying97
  a25 := Tryz.isAgg97
  z25 := Tryz.sizeOf97
  v25 := Tryz.zeroValue97
  t39 := Tryz.underlying98
  a39 := Tryz.isAgg98
  z39 := Tryz.sizeOf98
  v39 := Tryz.zeroValue98
  t45 := Tryz.underlying189
  a45 := Tryz.isAgg189
  z45 := Tryz.sizeOf189
  v45 := Tryz.zeroValue189
  t46 := Tryz.underlying190
  a46 := Tryz.isAgg190
  z46 := Tryz.sizeOf190
  v46 := Tryz.zeroValue190
  t50 := Tryz.underlying118
  a50 := Tryz.isAgg118
  z50 := Tryz.sizeOf118
  v50 := Tryz.zeroValue118
  t53 := Tryz.underlying196
  a53 := Tryz.isAgg196
  z53 := Tryz.sizeOf196
  v53 := Tryz.zeroValue196
  t55 := Tryz.underlying198
  a55 := Tryz.isAgg198
  z55 := Tryz.sizeOf198
  v55 := Tryz.zeroValue198
  t66 := Tryz.underlying203
  a66 := Tryz.isAgg203
  z66 := Tryz.sizeOf203
  v66 := Tryz.zeroValue203
  t70 := Tryz.underlying150
  a70 := Tryz.isAgg150
  z70 := Tryz.sizeOf150
  v70 := Tryz.zeroValue150
  t76 := Tryz.underlying214
  a76 := Tryz.isAgg214
  z76 := Tryz.sizeOf214
  v76 := Tryz.zeroValue214
  t77 := Tryz.underlying215
  a77 := Tryz.isAgg215
  z77 := Tryz.sizeOf215
  v77 := Tryz.zeroValue215 }
def Tryz.laysSort_ren : Go.Shelf.Ren := ⟨fun | 189 => 101 | 125 => 152 | 257 => 151 | 128 => 186 | 129 => 187 | 294 => 178 | 295 => 179 | 296 => 180 | 297 => 181 | 298 => 182 | 299 => 183 | 216 => 103 | 300 => 184 | 301 => 185 | 328 => 194 | 329 => 195 | 330 => 196 | 331 => 197 | 332 => 198 | 215 => 153 | 343 => 210 | n => n, fun | 28 => 38 | 3 => 3 | 46 => 98 | 0 => 0 | 51 => 196 | 53 => 198 | 4 => 4 | 183 => 190 | 182 => 189 | 131 => 118 | 5 => 5 | 9 => 9 | 218 => 203 | 222 => 150 | 228 => 214 | 229 => 215 | n => n, fun | n => n⟩
theorem Tryz.laysSort : Go.Proofs.Lays.n189 Tryz.prog Tryz.laysSort_ren := {
  mixed := by kernel_rfl
  f125 := Tryz.func152.trans (congrArg some (by kernel_rfl))
  f128 := Tryz.func186.trans (congrArg some (by kernel_rfl))
  f129 := Tryz.func187.trans (congrArg some (by kernel_rfl))
  f189 := Tryz.func101.trans (congrArg some (by kernel_rfl))
  f215 := Tryz.func153.trans (congrArg some (by kernel_rfl))
  f216 := Tryz.func103.trans (congrArg some (by kernel_rfl))
  f257 := Tryz.func151.trans (congrArg some (by kernel_rfl))
  f294 := Tryz.func178.trans (congrArg some (by kernel_rfl))
  f295 := Tryz.func179.trans (congrArg some (by kernel_rfl))
  f296 := Tryz.func180.trans (congrArg some (by kernel_rfl))
  f297 := Tryz.func181.trans (congrArg some (by kernel_rfl))
  f298 := Tryz.func182.trans (congrArg some (by kernel_rfl))
  f299 := Tryz.func183.trans (congrArg some (by kernel_rfl))
  f300 := Tryz.func184.trans (congrArg some (by kernel_rfl))
  f301 := Tryz.func185.trans (congrArg some (by kernel_rfl))
  f328 := Tryz.func194.trans (congrArg some (by kernel_rfl))
  f329 := Tryz.func195.trans (congrArg some (by kernel_rfl))
  f330 := Tryz.func196.trans (congrArg some (by kernel_rfl))
  f331 := Tryz.func197.trans (congrArg some (by kernel_rfl))
  f332 := Tryz.func198.trans (congrArg some (by kernel_rfl))
  f343 := Tryz.func210.trans (congrArg some (by kernel_rfl))
  t0 := Tryz.underlying0
  a0 := Tryz.isAgg0
  z0 := Tryz.sizeOf0
  v0 := Tryz.zeroValue0
  t3 := Tryz.underlying3
  a3 := Tryz.isAgg3
  z3 := Tryz.sizeOf3
  v3 := Tryz.zeroValue3
  t4 := Tryz.underlying4
  a4 := Tryz.isAgg4
  z4 := Tryz.sizeOf4
  v4 := Tryz.zeroValue4
  t5 := Tryz.underlying5
  a5 := Tryz.isAgg5
  z5 := Tryz.sizeOf5
  v5 := Tryz.zeroValue5
  t9 := Tryz.underlying9
  a9 := Tryz.isAgg9
  z9 := Tryz.sizeOf9
  v9 := Tryz.zeroValue9
  t28 := Tryz.underlying38
  a28 := Tryz.isAgg38
  z28 := Tryz.sizeOf38
  v28 := Tryz.zeroValue38
  t46 := Tryz.underlying98
  a46 := Tryz.isAgg98
  z46 := Tryz.sizeOf98
  v46 := Tryz.zeroValue98
  t51 := Tryz.underlying196
  a51 := Tryz.isAgg196
  z51 := Tryz.sizeOf196
  v51 := Tryz.zeroValue196
  t53 := Tryz.underlying198
  a53 := Tryz.isAgg198
  z53 := Tryz.sizeOf198
  v53 := Tryz.zeroValue198
  t131 := Tryz.underlying118
  a131 := Tryz.isAgg118
  z131 := Tryz.sizeOf118
  v131 := Tryz.zeroValue118
  t182 := Tryz.underlying189
  a182 := Tryz.isAgg189
  z182 := Tryz.sizeOf189
  v182 := Tryz.zeroValue189
  t183 := Tryz.underlying190
  a183 := Tryz.isAgg190
  z183 := Tryz.sizeOf190
  v183 := Tryz.zeroValue190
  t218 := Tryz.underlying203
  a218 := Tryz.isAgg203
  z218 := Tryz.sizeOf203
  v218 := Tryz.zeroValue203
  t222 := Tryz.underlying150
  a222 := Tryz.isAgg150
  z222 := Tryz.sizeOf150
  v222 := Tryz.zeroValue150
  t228 := Tryz.underlying214
  a228 := Tryz.isAgg214
  z228 := Tryz.sizeOf214
  v228 := Tryz.zeroValue214
  t229 := Tryz.underlying215
  a229 := Tryz.isAgg215
  z229 := Tryz.sizeOf215
  v229 := Tryz.zeroValue215 }
end Go.Proofs
set_option linter.unusedVariables false
namespace Go.Civ
open Go.Proofs Go.Shelf Go.RowKit Go.Lib Go.Sort

/-- Spans whose beginnings do not overflow when they are subtracted. -/
abbrev BSpan := { s : Span // -4398046511104 ≤ s.a ∧ s.a ≤ 4398046511104 }
instance : Inhabited BSpan := ⟨⟨⟨0, 0⟩, by decide⟩⟩
def encB (x : BSpan) : List Value := [.int .i64 x.1.a, .int .i64 x.1.b]
def cfB (x y : BSpan) : Int := x.1.a - y.1.a

set_option maxHeartbeats 1000000 in
theorem closure171 (x y : BSpan) (W : World) : Calls Tryz.prog 171 #[.agg #[.int .i64 x.1.a, .int .i64 x.1.b], .agg #[.int .i64 y.1.a, .int .i64 y.1.b]] W fun e w' => e = .returned (.int .i64 (cfB x y)) ∧ ∃ q os', w' = grow (W.drewN q) os' := by
  obtain ⟨⟨xa, xb⟩, hx⟩ := x
  obtain ⟨⟨ya, yb⟩, hy⟩ := y
  simp only [cfB]
  have hw : IntKind.wrap .i64 (xa - ya) = xa - ya := wrap_in ⟨by simp at hx hy; omega, by simp at hx hy; omega⟩
  go_enter Tryz.func171, Tryz.ntmps171
  go_wp2
  go_ret
  exact ⟨rfl, 0, _, by rw [alloc_eq_grow, alloc_eq_grow, grow_grow]; rfl⟩
theorem swoB : SWO (ltOf cfB) where
  irrefl x := decide_eq_false (show ¬ x.1.a - x.1.a < 0 by omega)
  trans x y z h1 h2 := by
    have h1' : x.1.a - y.1.a < 0 := of_decide_eq_true h1
    have h2' : y.1.a - z.1.a < 0 := of_decide_eq_true h2
    exact decide_eq_true (show x.1.a - z.1.a < 0 by omega)
  ntrans x y z h1 h2 := by
    have h1' : ¬ x.1.a - y.1.a < 0 := of_decide_eq_false h1
    have h2' : ¬ y.1.a - z.1.a < 0 := of_decide_eq_false h2
    exact decide_eq_false (show ¬ x.1.a - z.1.a < 0 by omega)

/-- The flat cells of a list, each element two cells. -/
theorem flat_get {α : Type} (enc : α → List Value) (h2 : ∀ x, (enc x).length = 2) : ∀ (l : List α) (t : Nat), (l.flatMap enc)[t]? = (l[t / 2]?).bind fun x => (enc x)[t % 2]?
  | [], t => by simp
  | x :: l, t => by
    rw [List.flatMap_cons, List.getElem?_append]
    by_cases ht : t < 2
    · rw [if_pos (by rw [h2]; exact ht), show t / 2 = 0 by omega, Nat.mod_eq_of_lt ht]; rfl
    · rw [if_neg (by rw [h2]; exact ht), h2, flat_get enc h2 l (t - 2), show (t - 2) / 2 = t / 2 - 1 by omega, show (t - 2) % 2 = t % 2 by omega]
      obtain ⟨m, hm⟩ : ∃ m, t / 2 = m + 1 := ⟨t / 2 - 1, by omega⟩
      rw [hm]; simp
theorem flatK_at {α : Type} [Inhabited α] (enc : α → List Value) (h2 : ∀ x, (enc x).length = 2) (d : Array α) (t : Nat) (ht : t < d.size * 2) : (d.toList.flatMap enc)[t]? = some ((flatK enc 2 d)[t]!) := by
  rw [flat_get enc h2, get_flatK enc 2 d t ht]
  have hd : t / 2 < d.size := by omega
  have e : d.toList[t / 2]? = some d[t / 2]! := by
    rw [getElem!_pos d (t / 2) hd, Array.getElem?_toList, Array.getElem?_eq_getElem hd]
  rw [e]
  simp only [Option.bind_some]
  have hl : t % 2 < (enc d[t / 2]!).length := by rw [h2]; omega
  rw [List.getElem?_eq_getElem hl, getElem!_pos (enc d[t / 2]!) (t % 2) hl]

theorem flatSpan {G : GH} : ∀ (l : List BSpan), (∀ x ∈ l, I64 x.1.b) → Flat SpanE G (l.map (·.1)) (l.flatMap encB)
  | [], _ => rfl
  | x :: l, h => ⟨encB x, l.flatMap encB, rfl, SpanE_mk x.1 ⟨by have := x.2; omega, by have := x.2; omega⟩ (h x (by simp)), flatSpan l fun y hy => h y (by simp [hy])⟩
theorem flat_cells {G : GH} : ∀ (l : List BSpan) (xs : List Value), Flat SpanE G (l.map (·.1)) xs → xs = l.flatMap encB ∧ ∀ x ∈ l, I64 x.1.b
  | [], xs, h => ⟨h, by simp⟩
  | x :: l, xs, ⟨c, r, h1, h2, h3⟩ => by
    obtain ⟨rfl, _, hb⟩ := SpanE_open h2
    obtain ⟨rfl, h4⟩ := flat_cells l r h3
    refine ⟨h1, fun y hy => ?_⟩
    rcases List.mem_cons.1 hy with rfl | hy
    · exact hb
    · exact h4 y hy

theorem attach_list : ∀ (l : List Span), (∀ s ∈ l, -4398046511104 ≤ s.a ∧ s.a ≤ 4398046511104) → ∃ d : List BSpan, d.map (·.1) = l
  | [], _ => ⟨[], rfl⟩
  | s :: l, h => by
    obtain ⟨d, hd⟩ := attach_list l fun x hx => h x (by simp [hx])
    exact ⟨⟨s, h s (by simp)⟩ :: d, by simp [hd]⟩

set_option maxHeartbeats 1000000 in
theorem c_SortS {G : GH} {w : World} (hG : G.In w) (l : List Span) (vd : Value) (od : OB) (hvd : Row SpanE 16 (nat_lit 46) G vd l od) (hod : Lent w G od) (hB : ∀ s ∈ l, -4398046511104 ≤ s.a ∧ s.a ≤ 4398046511104) :
    Calls Tryz.prog (nat_lit 170) #[vd, .func (.func 171) #[] #[]] w fun e w' => ∃ r G', e = .returned r ∧ Res (blk od) w G w' G' ∧ r = .tuple #[] ∧ ∃ (l' : List Span) (o' : OB), Row SpanE 16 (nat_lit 46) G' vd l' o' ∧ Lent w' G' o' ∧ (l'.Perm l ∧ AscA l') := by
  rcases hvd with ⟨rfl, rfl, rfl⟩ | ⟨b, cs, cap, xs, rfl, rfl, h3, h4, h5, h6, h7, h8, h9⟩
  · exact (AnyF.slices_SortFunc_none (P := Tryz.prog) (ρ := Tryz.sortSp_ren) { Tryz.sortSp with } none 0 (.func (.func 171) #[] #[]) w).mono fun e w' ⟨he, hw⟩ => by
      subst hw
      exact ⟨_, G, he, Res.refl hG, rfl, [], none, .inl ⟨rfl, rfl, rfl⟩, fun p hp => (by cases hp), List.Perm.refl _, List.Pairwise.nil⟩
  · obtain ⟨hb1, hb2⟩ := hod _ rfl
    obtain ⟨dl, rfl⟩ := attach_list l hB
    obtain ⟨rfl, hI⟩ := flat_cells dl xs h6
    have hsz : dl.toArray.size = (dl.map (·.1)).length := by simp
    have hcell : ∀ t, t < dl.toArray.size * 2 → cs[t]? = some ((flatK encB 2 dl.toArray)[t]!) := fun t ht => by
      rw [← flatK_at encB (fun _ => rfl) dl.toArray t ht]
      rw [← h7, List.getElem?_take, if_pos (by rw [← hsz]; exact ht)]
    have hH : HoldsK encB 2 w b 0 dl.toArray := fun t ht => by
      rw [size_flatK] at ht
      refine ⟨?_, ?_⟩
      · rw [Nat.zero_add]
        simp only [World.cell?, hb1, objOf]
        have := hcell t ht
        simpa using this
      · simp [World.frozen?, hb1, objOf]
    have hcon := AnyQ.slices_SortFunc Tryz.sortSp 2 Tryz.isAgg46 Tryz.sizeOf46 encB (fun _ => rfl) (fun x v hv => by simp [encB] at hv; rcases hv with rfl | rfl <;> rfl) cfB swoB 171 #[] b 0 cap dl.toArray w
      (enters_of Tryz.func171 (by kernel_rfl) rfl) (fun _ _ _ _ x y => closure171 x y _) hH (Array.getElem?_eq_some_iff.1 hb1).1 (by rw [hsz]; unfold reach at h9; omega)
    rw [hsz] at hcon
    refine hcon.mono fun e w' ⟨he, d', n, os, hp, hs, hw⟩ => ?_
    obtain ⟨hp1, hp2, hp3⟩ := hp
    have hd' : d'.size = dl.length := by simpa using hp1
    have hperm : d'.toList.Perm dl := by
      have e1 : d'.extract 0 dl.toArray.size = d' := by rw [← hp1]; simp
      have e2 : dl.toArray.extract 0 dl.toArray.size = dl.toArray := by simp
      rw [hsz.symm, e1, e2] at hp3; simpa using hp3
    have hbl : b < w.heap.size := (Array.getElem?_eq_some_iff.1 hb1).1
    subst hw
    -- the new cells
    obtain ⟨cs', hcs'⟩ : ∃ cs' : List Value, cs' = (putCells id 0 (flatK encB 2 d') cs.toArray).toList := ⟨_, rfl⟩
    have hget : ∀ k, (sortWorldK encB 2 w b 0 n d' os).heap[k]? = if k < w.heap.size then (if b = k then some (.cells cs'.toArray (nat_lit 46) (0, 0)) else w.heap[k]?) else os[k - w.heap.size]? := fun k => by
      have hah : (Go.Sort.ahead w n).heap = w.heap := rfl
      simp only [sortWorldK, putRowK, putRow, mapBlock, grow, hah]
      rw [Array.getElem?_append]
      simp only [Array.size_modify]
      by_cases hk : k < w.heap.size
      · rw [if_pos hk, if_pos hk, Array.getElem?_modify]
        by_cases hkb : b = k
        · subst hkb
          rw [if_pos rfl, if_pos rfl, hb1]
          simp [objOf, onCells, hcs']
        · rw [if_neg hkb, if_neg hkb]
      · rw [if_neg hk, if_neg hk]
    have hres : Res [b] w G (sortWorldK encB 2 w b 0 n d' os) G := by
      refine ⟨⟨rfl, rfl, rfl, ?_, fun k hk hkb => ?_⟩, G.le_refl, fun _ _ => rfl, fun k o hk => ?_⟩
      · have hah : (Go.Sort.ahead w n).heap = w.heap := rfl
        simp [sortWorldK, putRowK, putRow, mapBlock, grow]
        try simp [hah]
      · rw [hget, if_pos hk, if_neg (by simpa [eq_comm] using hkb)]
      · have hk1 := hG.lt hk
        have hkb : b ≠ k := fun e => by subst e; simp only at hb2; rw [hb2] at hk; cases hk
        rw [hget, if_pos hk1, if_neg hkb]; exact hG k o hk
    have hI' : ∀ x ∈ d'.toList, I64 x.1.b := fun x hx => hI x (hperm.mem_iff.1 hx)
    have hlen : (d'.toList.map (·.1)).length = (dl.map (·.1)).length := by simp [hd']
    have hln : (dl.map (·.1)).length = dl.length := by simp
    refine ⟨_, G, he, hres, rfl, d'.toList.map (·.1), some (b, nat_lit 46, cs'), .inr ⟨b, cs', cap, d'.toList.flatMap encB, rfl, by rw [hlen], by rw [hlen]; exact h3, h4, ?_, flatSpan _ hI', ?_, by rw [hlen]; exact h8, by rw [hlen]; exact h9⟩, fun p hp => ?_, ?_, ?_⟩
    · subst hcs'; simpa [putCells] using h5
    · -- the visible cells
      have h5' : cs.length = cap * 2 := h5
      apply List.ext_getElem?
      intro t
      rw [List.getElem?_take]
      have hn2 : (d'.toList.map (·.1)).length * SpanE.n = d'.size * 2 := by simp; rfl
      rw [hn2]
      by_cases ht : t < d'.size * 2
      · have htc : t < cs.length := by rw [h5']; rw [hln] at h3; omega
        rw [if_pos ht, flatK_at encB (fun _ => rfl) d' t ht, hcs']
        simp only [putCells, Array.getElem?_toList, Array.getElem?_mapIdx, size_flatK]
        simp only [List.getElem?_toArray]
        rw [List.getElem?_eq_getElem htc]
        simp [ht]
      · rw [if_neg ht, List.getElem?_eq_none]
        have := Flat.len (flatSpan (G := G) d'.toList hI')
        omega
    · obtain rfl := Option.some.inj hp
      exact ⟨by rw [hget, if_pos hbl, if_pos rfl]; rfl, hb2⟩
    · exact hperm.map _
    · unfold AscA
      rw [List.pairwise_map, List.pairwise_iff_getElem]
      intro i j hi hj hij
      have h := hs i j (by omega) hij (by rw [← hsz, ← hp1]; simpa using hj)
      have hi' : i < d'.size := by simpa using hi
      have hj' : j < d'.size := by simpa using hj
      rw [getElem!_pos d' i hi', getElem!_pos d' j hj'] at h
      have := of_decide_eq_false h
      simp only [cfB] at this
      simp only [Array.getElem_toList]
      omega
end Go.Civ
