/- Lemmas: Civ50, So. -/
import Derived.Test.YtjjkgobhlfmhhaaGreatK03
import Derived.Test.YtjjkgobhlfmhhaaGreatK06
import Derived.Test.YtjjkgobhlfmhhaaGreatK08
import Derived.WalkKit
import Derived.KernelRfl
namespace Go.Civ
open Go.RowKit
set_option linter.unusedVariables false

structure Rect where
  d : Span
  x : Span
deriving DecidableEq
structure HRow where
  v : List Val
  r : Rect
deriving DecidableEq
structure Foreign where
  cols : List (List UInt8)
  table : List UInt8
deriving DecidableEq
structure Schema where
  name : List UInt8
  cols : List Col
  key : Int
  fks : List Foreign
deriving DecidableEq
structure Table where
  s : Schema
  rows : List HRow
  last : Int
deriving DecidableEq
def RectE : Enc Rect := (Enc.pair SpanE SpanE).via fun x => (x.d, x.x)
def HRowE : Enc HRow := (Enc.pair (ValE.slice 32) RectE).via fun x => (x.v, x.r)
def ForeignE : Enc Foreign := (Enc.pair (Enc.str.slice 16) .str).via fun x => (x.cols, x.table)
def SchemaE : Enc Schema := (Enc.pair .str (Enc.pair (ColE.slice 24) (Enc.pair .int (ForeignE.slice 40)))).via fun x => (x.name, x.cols, x.key, x.fks)
def TableE : Enc Table := (Enc.pair SchemaE (Enc.pair (HRowE.slice 56) .int)).via fun x => (x.s, x.rows, x.last)
section
variable {G : GH} {cs : List Value}
theorem RectE_open {x : Rect} (h : RectE.rep G x cs) : cs = [.int .i64 x.d.a, .int .i64 x.d.b, .int .i64 x.x.a, .int .i64 x.x.b] ∧ I64 x.d.a ∧ I64 x.d.b ∧ I64 x.x.a ∧ I64 x.x.b := by
  obtain ⟨c1, c2, rfl, h1, h2⟩ := h
  obtain ⟨rfl, h3, h4⟩ := SpanE_open h1
  obtain ⟨rfl, h5, h6⟩ := SpanE_open h2
  exact ⟨rfl, h3, h4, h5, h6⟩
theorem RectE_mk (x : Rect) (h1 : I64 x.d.a) (h2 : I64 x.d.b) (h3 : I64 x.x.a) (h4 : I64 x.x.b) : RectE.rep G x [.int .i64 x.d.a, .int .i64 x.d.b, .int .i64 x.x.a, .int .i64 x.x.b] :=
  ⟨_, _, rfl, SpanE_mk x.d h1 h2, SpanE_mk x.x h3 h4⟩
theorem HRowE_open {x : HRow} (h : HRowE.rep G x cs) : ∃ v, cs = [v, .int .i64 x.r.d.a, .int .i64 x.r.d.b, .int .i64 x.r.x.a, .int .i64 x.r.x.b] ∧ Sl ValE 32 G v x.v ∧ I64 x.r.d.a ∧ I64 x.r.d.b ∧ I64 x.r.x.a ∧ I64 x.r.x.b := by
  obtain ⟨c1, c2, rfl, ⟨v, rfl, h1⟩, h2⟩ := h
  obtain ⟨rfl, h3, h4, h5, h6⟩ := RectE_open h2
  exact ⟨v, rfl, h1, h3, h4, h5, h6⟩
theorem HRowE_mk (x : HRow) {v : Value} (h1 : Sl ValE 32 G v x.v) (h2 : I64 x.r.d.a) (h3 : I64 x.r.d.b) (h4 : I64 x.r.x.a) (h5 : I64 x.r.x.b) :
    HRowE.rep G x [v, .int .i64 x.r.d.a, .int .i64 x.r.d.b, .int .i64 x.r.x.a, .int .i64 x.r.x.b] := ⟨[v], _, rfl, ⟨v, rfl, h1⟩, RectE_mk x.r h2 h3 h4 h5⟩
theorem ForeignE_open {x : Foreign} (h : ForeignE.rep G x cs) : ∃ v, cs = [v, strV x.table] ∧ Sl Enc.str 16 G v x.cols ∧ x.table.length ≤ reach := by
  obtain ⟨c1, c2, rfl, ⟨v, rfl, h1⟩, rfl, h2⟩ := h
  exact ⟨v, rfl, h1, h2⟩
theorem SchemaE_open {x : Schema} (h : SchemaE.rep G x cs) : ∃ v u, cs = [strV x.name, v, .int .i64 x.key, u] ∧ x.name.length ≤ reach ∧ Sl ColE 24 G v x.cols ∧ I64 x.key ∧ Sl ForeignE 40 G u x.fks := by
  obtain ⟨c1, c2, rfl, ⟨rfl, h1⟩, c3, c4, rfl, ⟨v, rfl, h2⟩, c5, c6, rfl, ⟨rfl, h3⟩, u, rfl, h4⟩ := h
  exact ⟨v, u, rfl, h1, h2, h3, h4⟩
theorem SchemaE_mk (x : Schema) {v u : Value} (h1 : x.name.length ≤ reach) (h2 : Sl ColE 24 G v x.cols) (h3 : I64 x.key) (h4 : Sl ForeignE 40 G u x.fks) : SchemaE.rep G x [strV x.name, v, .int .i64 x.key, u] :=
  ⟨_, _, rfl, ⟨rfl, h1⟩, _, _, rfl, ⟨v, rfl, h2⟩, _, _, rfl, ⟨rfl, h3⟩, u, rfl, h4⟩
theorem TableE_open {x : Table} (h : TableE.rep G x cs) : ∃ v u r, cs = [strV x.s.name, v, .int .i64 x.s.key, u, r, .int .i64 x.last] ∧ x.s.name.length ≤ reach ∧ Sl ColE 24 G v x.s.cols ∧ I64 x.s.key ∧ Sl ForeignE 40 G u x.s.fks ∧ Sl HRowE 56 G r x.rows ∧ I64 x.last := by
  obtain ⟨c1, c2, rfl, h0, c3, c4, rfl, ⟨r, rfl, h2⟩, rfl, h3⟩ := h
  obtain ⟨v, u, rfl, h4, h5, h6, h7⟩ := SchemaE_open h0
  exact ⟨v, u, r, rfl, h4, h5, h6, h7, h2, h3⟩
theorem TableE_mk (x : Table) {v u r : Value} (h1 : x.s.name.length ≤ reach) (h2 : Sl ColE 24 G v x.s.cols) (h3 : I64 x.s.key) (h4 : Sl ForeignE 40 G u x.s.fks) (h5 : Sl HRowE 56 G r x.rows) (h6 : I64 x.last) :
    TableE.rep G x [strV x.s.name, v, .int .i64 x.s.key, u, r, .int .i64 x.last] := ⟨_, _, rfl, SchemaE_mk x.s h1 h2 h3 h4, _, _, rfl, ⟨r, rfl, h5⟩, rfl, h6⟩
end

def u63 (n : Int) : Nat := (n + 9223372036854775808).toNat
def byteN (n k : Nat) : UInt8 := UInt8.ofNat (n / 2 ^ k)
def encN (n : Int) : List UInt8 := [56, 48, 40, 32, 24, 16, 8, 0].map (byteN (u63 n))
def encV (x : Val) : List UInt8 := UInt8.ofNat x.k.toNat :: (if x.k = 2 then x.s ++ [0] else if x.k = 3 then [UInt8.ofNat x.n.toNat] else encN x.n)
def encL (l : List Val) : List UInt8 := l.flatMap encV
def keyE (l : List Val) : List UInt8 := if l.length ≤ 1000 ∧ l.all valB = true then encL l else []
theorem byteN_val (n k : Nat) : (byteN n k).toNat = n / 2 ^ k % 256 := by unfold byteN; simp
theorem dig {a b k : Nat} (h : a / 2 ^ k % 256 = b / 2 ^ k % 256) (hk : a / 2 ^ (k + 8) = b / 2 ^ (k + 8)) : a / 2 ^ k = b / 2 ^ k := by
  rw [Nat.pow_add, ← Nat.div_div_eq_div_mul, ← Nat.div_div_eq_div_mul] at hk
  generalize a / 2 ^ k = x at *
  generalize b / 2 ^ k = y at *
  have e : (2 : Nat) ^ 8 = 256 := rfl
  rw [e] at hk
  omega
theorem encN_inj {m n : Int} (hm : I64 m) (hn : I64 n) (h : encN m = encN n) : m = n := by
  have e : ∀ k, k ∈ [56, 48, 40, 32, 24, 16, 8, 0] → u63 m / 2 ^ k % 256 = u63 n / 2 ^ k % 256 := fun k hk => by
    have := List.map_inj_left.1 h k hk
    rw [← byteN_val, ← byteN_val, this]
  have bm : u63 m < 2 ^ 64 := by unfold u63; have := hm.1; have := hm.2; omega
  have bn : u63 n < 2 ^ 64 := by unfold u63; have := hn.1; have := hn.2; omega
  have h64 : u63 m / 2 ^ (56 + 8) = u63 n / 2 ^ (56 + 8) := by rw [Nat.div_eq_of_lt bm, Nat.div_eq_of_lt bn]
  have h56 := dig (e 56 (by simp)) h64
  have h48 := dig (e 48 (by simp)) h56
  have h40 := dig (e 40 (by simp)) h48
  have h32 := dig (e 32 (by simp)) h40
  have h24 := dig (e 24 (by simp)) h32
  have h16 := dig (e 16 (by simp)) h24
  have h8 := dig (e 8 (by simp)) h16
  have h0 := dig (e 0 (by simp)) h8
  rw [Nat.pow_zero, Nat.div_one, Nat.div_one] at h0
  unfold u63 at h0
  have := hm.1; have := hn.1
  omega
theorem text_inj : ∀ {s t r r' : List UInt8}, s.all okC = true → t.all okC = true → s ++ 0 :: r = t ++ 0 :: r' → s = t ∧ r = r'
  | [], [], r, r', _, _, h => ⟨rfl, (List.cons.inj h).2⟩
  | [], c :: t, r, r', _, h2, h => by
    have e := (List.cons.inj h).1
    subst e
    simp [okC] at h2
  | c :: s, [], r, r', h1, _, h => by
    have e := (List.cons.inj h).1
    subst e
    simp [okC] at h1
  | c :: s, c' :: t, r, r', h1, h2, h => by
    have e := List.cons.inj h
    simp only [List.all_cons, Bool.and_eq_true] at h1 h2
    obtain ⟨rfl, rfl⟩ := text_inj h1.2 h2.2 e.2
    exact ⟨by rw [e.1], rfl⟩
theorem valB_k {x : Val} (h : valB x = true) : (x.k = 1 ∧ x.s = []) ∨ (x.k = 2 ∧ x.n = 0 ∧ x.s.all okC = true) ∨ (x.k = 3 ∧ x.s = [] ∧ (x.n = 0 ∨ x.n = 1)) ∨ (x.k = 4 ∧ x.s = []) := by
  unfold valB at h
  by_cases h1 : x.k = 1
  · simp [h1] at h; exact .inl ⟨h1, h⟩
  · by_cases h2 : x.k = 2
    · simp [h2] at h; exact .inr (.inl ⟨h2, h.1.1, by simpa using h.2⟩)
    · by_cases h3 : x.k = 3
      · simp [h3] at h; exact .inr (.inr (.inl ⟨h3, h.1, h.2⟩))
      · by_cases h4 : x.k = 4
        · simp [h4] at h; exact .inr (.inr (.inr ⟨h4, h.1.1⟩))
        · simp [h1, h2, h3, h4] at h
theorem val_ext {x y : Val} (h1 : x.k = y.k) (h2 : x.n = y.n) (h3 : x.s = y.s) : x = y := by cases x; cases y; simp_all
theorem encV_inj {x y : Val} {r r' : List UInt8} (hx : valB x = true) (hy : valB y = true) (nx : I64 x.n) (ny : I64 y.n) (h : encV x ++ r = encV y ++ r') : x = y ∧ r = r' := by
  unfold encV at h
  rw [List.cons_append, List.cons_append] at h
  obtain ⟨hk, ht⟩ := List.cons.inj h
  have key : x.k = y.k := by
    rcases valB_k hx with ⟨h1, _⟩ | ⟨h1, _⟩ | ⟨h1, _⟩ | ⟨h1, _⟩ <;> rcases valB_k hy with ⟨h2, _⟩ | ⟨h2, _⟩ | ⟨h2, _⟩ | ⟨h2, _⟩ <;> rw [h1, h2] at hk <;> first | exact h1.trans h2.symm | exact absurd hk (by decide)
  have eight : ∀ n m : Int, I64 n → I64 m → encN n ++ r = encN m ++ r' → n = m ∧ r = r' := fun n m hn hm e => by
    obtain ⟨e1, e2⟩ := List.append_inj e (by simp [encN])
    exact ⟨encN_inj hn hm e1, e2⟩
  rcases valB_k hx with ⟨h1, h3⟩ | ⟨h1, h3, h5⟩ | ⟨h1, h3, h5⟩ | ⟨h1, h3⟩ <;> rcases valB_k hy with ⟨h2, h4⟩ | ⟨h2, h4, h6⟩ | ⟨h2, h4, h6⟩ | ⟨h2, h4⟩ <;> first | (exfalso; omega) | skip
  · rw [h1, h2] at ht
    obtain ⟨e1, e2⟩ := eight _ _ nx ny (by simpa using ht)
    exact ⟨val_ext key e1 (h3.trans h4.symm), e2⟩
  · rw [h1, h2] at ht
    obtain ⟨e1, e2⟩ := text_inj h5 h6 (by simpa using ht)
    exact ⟨val_ext key (h3.trans h4.symm) e1, e2⟩
  · rw [h1, h2] at ht
    simp at ht
    refine ⟨val_ext key ?_ (h3.trans h4.symm), ht.2⟩
    rcases h5 with h5 | h5 <;> rcases h6 with h6 | h6 <;> rw [h5, h6] at ht <;> first | exact h5.trans h6.symm | exact absurd ht.1 (by decide)
  · rw [h1, h2] at ht
    obtain ⟨e1, e2⟩ := eight _ _ nx ny (by simpa using ht)
    exact ⟨val_ext key e1 (h3.trans h4.symm), e2⟩
theorem encL_inj : ∀ {l m : List Val}, l.all valB = true → m.all valB = true → (∀ x ∈ l, I64 x.n) → (∀ x ∈ m, I64 x.n) → encL l = encL m → l = m
  | [], [], _, _, _, _, _ => rfl
  | [], y :: m, _, _, _, _, h => by simp [encL, encV] at h
  | x :: l, [], _, _, _, _, h => by simp [encL, encV] at h
  | x :: l, y :: m, h1, h2, h3, h4, h => by
    simp only [List.all_cons, Bool.and_eq_true] at h1 h2
    simp only [encL, List.flatMap_cons] at h
    obtain ⟨rfl, e⟩ := encV_inj h1.1 h2.1 (h3 x (by simp)) (h4 y (by simp)) h
    rw [encL_inj h1.2 h2.2 (fun z hz => h3 z (by simp [hz])) (fun z hz => h4 z (by simp [hz])) e]
theorem keyE_inj {l m : List Val} (hl : l.length ≤ 1000) (hm : m.length ≤ 1000) (h1 : l.all valB = true) (h2 : m.all valB = true) (h3 : ∀ x ∈ l, I64 x.n) (h4 : ∀ x ∈ m, I64 x.n) (h : keyE l = keyE m) : l = m := by
  unfold keyE at h
  rw [if_pos ⟨hl, h1⟩, if_pos ⟨hm, h2⟩] at h
  exact encL_inj h1 h2 h3 h4 h
end Go.Civ
set_option linter.unusedVariables false
namespace Go.Civ
open Go.Proofs Go.Shelf Go.RowKit Go.Lib Go.Sort

theorem flat_getK {α : Type} (enc : α → List Value) (k : Nat) (hk0 : 0 < k) (hk : ∀ x, (enc x).length = k) : ∀ (l : List α) (t : Nat), (l.flatMap enc)[t]? = (l[t / k]?).bind fun x => (enc x)[t % k]?
  | [], t => by simp
  | x :: l, t => by
    rw [List.flatMap_cons, List.getElem?_append]
    by_cases ht : t < k
    · rw [if_pos (by rw [hk]; exact ht), Nat.div_eq_of_lt ht, Nat.mod_eq_of_lt ht]; rfl
    · rw [if_neg (by rw [hk]; exact ht), hk, flat_getK enc k hk0 hk l (t - k), Nat.div_eq_sub_div (a := t) hk0 (by omega), Nat.mod_eq_sub_mod (a := t) (by omega), List.getElem?_cons_succ]
theorem flatK_atK {α : Type} [Inhabited α] (enc : α → List Value) (k : Nat) (hk0 : 0 < k) (hk : ∀ x, (enc x).length = k) (d : Array α) (t : Nat) (ht : t < d.size * k) : (d.toList.flatMap enc)[t]? = some ((flatK enc k d)[t]!) := by
  rw [flat_getK enc k hk0 hk, get_flatK enc k d t ht]
  have hd : t / k < d.size := (Nat.div_lt_iff_lt_mul hk0).2 ht
  have e : d.toList[t / k]? = some d[t / k]! := by
    rw [getElem!_pos d (t / k) hd, Array.getElem?_toList, Array.getElem?_eq_getElem hd]
  rw [e]
  simp only [Option.bind_some]
  have hl : t % k < (enc d[t / k]!).length := by rw [hk]; exact Nat.mod_lt _ hk0
  rw [List.getElem?_eq_getElem hl, getElem!_pos (enc d[t / k]!) (t % k) hl]
abbrev Elt {α : Type} (E : Enc α) (G : GH) (V : α → Prop) := { p : α × List Value // E.rep G p.1 p.2 ∧ V p.1 }
section
variable {α : Type} {E : Enc α} {G : GH} {V : α → Prop}
theorem flat_elts : ∀ (l : List α) (xs : List Value), Flat E G l xs → (∀ x ∈ l, V x) → ∃ dl : List (Elt E G V), dl.map (·.1.1) = l ∧ dl.flatMap (·.1.2) = xs
  | [], xs, h, _ => ⟨[], rfl, by simpa using h.symm⟩
  | x :: l, xs, ⟨c, r, h1, h2, h3⟩, hV => by
    obtain ⟨dl, k1, k2⟩ := flat_elts l r h3 fun y hy => hV y (by simp [hy])
    exact ⟨⟨(x, c), h2, hV x (by simp)⟩ :: dl, by simp [k1], by simp [k2, h1]⟩
theorem elts_flat : ∀ (dl : List (Elt E G V)), Flat E G (dl.map (·.1.1)) (dl.flatMap (·.1.2))
  | [] => rfl
  | x :: l => ⟨x.1.2, _, rfl, x.2.1, elts_flat l⟩
theorem Kept.grow {w w' : World} (h : Kept [] w w') : ∃ q os', w' = grow (w.drewN q) os' := by
  refine ⟨w'.drawn - w.drawn, w'.heap.extract w.heap.size w'.heap.size, ?_⟩
  obtain ⟨h1, h2, h3, h4, h5, h6⟩ := h
  obtain ⟨heap, tape, drawn, os, output⟩ := w
  obtain ⟨heap', tape', drawn', os', output'⟩ := w'
  simp only at h1 h2 h3 h4 h5 h6
  subst h1 h2 h3
  simp only [Go.Sort.grow, World.drewN]
  have e1 : drawn + (drawn' - drawn) = drawn' := by omega
  have e2 : heap ++ heap'.extract heap.size heap'.size = heap' := by
    apply Array.ext_getElem?
    intro i
    rw [Array.getElem?_append]
    split
    · rename_i hi; exact (h6 i hi (by simp)).symm
    · rename_i hi
      rw [Array.getElem?_extract]
      split
      · congr 1; omega
      · rw [Array.getElem?_eq_none]; omega
  rw [e1, e2]
end
theorem sort_heap {β : Type} [Inhabited β] (enc : β → List Value) (k : Nat) (w : World) (b n : Nat) (d : Array β) (os : Array Obj) {cs : List Value} {tid : TypeId} (hb : w.heap[b]? = some (.cells cs.toArray tid (0, 0))) (i : Nat) :
    (sortWorldK enc k w b 0 n d os).heap[i]? = if i < w.heap.size then (if b = i then some (.cells (putCells id 0 (flatK enc k d) cs.toArray) tid (0, 0)) else w.heap[i]?) else os[i - w.heap.size]? := by
  have hah : (Go.Sort.ahead w n).heap = w.heap := rfl
  simp only [sortWorldK, putRowK, putRow, mapBlock, Go.Sort.grow, hah]
  rw [Array.getElem?_append]
  simp only [Array.size_modify]
  by_cases hk : i < w.heap.size
  · rw [if_pos hk, if_pos hk, Array.getElem?_modify]
    by_cases hkb : b = i
    · subst hkb
      rw [if_pos rfl, if_pos rfl, hb]
      simp [onCells]
    · rw [if_neg hkb, if_neg hkb]
  · rw [if_neg hk, if_neg hk]
theorem sort_res {β : Type} [Inhabited β] (enc : β → List Value) (k : Nat) {w : World} {G : GH} (hG : G.In w) (b n : Nat) (d : Array β) (os : Array Obj) {cs : List Value} {tid : TypeId} (hb : w.heap[b]? = some (.cells cs.toArray tid (0, 0))) (hg : G b = none) :
    Res [b] w G (sortWorldK enc k w b 0 n d os) G := by
  refine ⟨⟨rfl, rfl, rfl, Nat.le_add_right _ _, ?_, fun i hi hkb => ?_⟩, G.le_refl, fun _ _ => rfl, fun i o hk => ?_⟩
  · have hah : (Go.Sort.ahead w n).heap = w.heap := rfl
    simp [sortWorldK, putRowK, putRow, mapBlock, Go.Sort.grow]
    try simp [hah]
  · rw [sort_heap enc k w b n d os hb, if_pos hi, if_neg (by simpa [eq_comm] using hkb)]
  · have hk1 := hG.lt hk
    have hkb : b ≠ i := fun e => by subst e; rw [hg] at hk; cases hk
    rw [sort_heap enc k w b n d os hb, if_pos hk1, if_neg hkb]; exact hG i o hk

set_option maxHeartbeats 2000000 in
theorem sortRow {P : Program} {ρr : Ren} (Ls : SlLaysF0.n6 P ρr) {α : Type} {E : Enc α} {by_ : Nat} {tid : TypeId} (hk0 : 0 < E.n) (aE : ∀ w, (isAgg (ρr.t 24)).run P w = .ok true w) (zE : ∀ w, (Go.sizeOf (ρr.t 24)).run P w = .ok E.n w)
    (cf : α → α → Int) (V : α → Prop) (hirr : ∀ x, V x → ¬ cf x x < 0) (htr : ∀ x y z, V x → V y → V z → cf x y < 0 → cf y z < 0 → cf x z < 0) (hnt : ∀ x y z, V x → V y → V z → ¬ cf x y < 0 → ¬ cf y z < 0 → ¬ cf x z < 0)
    (gf : Nat) (eg : ∀ args w, (callFunc gf args).run P w = .ok (.enter gf args) w) {G : GH} {w : World} (hG : G.In w)
    (hcl : ∀ W, G.In W → ∀ x y cx cy, V x → V y → E.rep G x cx → E.rep G y cy → Calls P gf #[.agg cx.toArray, .agg cy.toArray] W fun e w' => ∃ r G', e = .returned r ∧ Res [] W G w' G' ∧ r = .int .i64 (cf x y))
    (x0 : α) (c0 : List Value) (h0 : E.rep G x0 c0) (hV0 : V x0) (l : List α) (hV : ∀ x ∈ l, V x) (vd : Value) (od : OB) (hvd : Row E by_ tid G vd l od) (hod : Lent w G od) :
    Calls P (ρr.f 6) #[vd, .func (.func gf) #[] #[]] w fun e w' => ∃ r G', e = .returned r ∧ Res (blk od) w G w' G' ∧ r = .tuple #[] ∧ ∃ (l' : List α) (o' : OB), Row E by_ tid G' vd l' o' ∧ Lent w' G' o' ∧ (l'.Perm l ∧ l'.Pairwise fun x y => ¬ cf y x < 0) := by
  rcases hvd with ⟨rfl, rfl, rfl⟩ | ⟨b, cs, cap, xs, rfl, rfl, h3, h4, h5, h6, h7, h8, h9⟩
  · exact (AnyF.slices_SortFunc_none (P := P) (ρ := ρr) { Ls with } none 0 (.func (.func gf) #[] #[]) w).mono fun e w' ⟨he, hw⟩ => by
      subst hw
      exact ⟨_, G, he, Res.refl hG, rfl, [], none, .inl ⟨rfl, rfl, rfl⟩, fun p hp => (by cases hp), List.Perm.refl _, List.Pairwise.nil⟩
  · obtain ⟨hb1, hb2⟩ := hod _ rfl
    simp only [objOf] at hb1
    obtain ⟨dl, rfl, rfl⟩ := flat_elts l xs h6 hV
    letI : Inhabited (Elt E G V) := ⟨⟨(x0, c0), h0, hV0⟩⟩
    have hkE : ∀ x : Elt E G V, (x.1.2).length = E.n := fun x => E.len x.2.1
    have hsz : dl.toArray.size = (dl.map (·.1.1)).length := by simp
    have hcell : ∀ t, t < dl.toArray.size * E.n → cs[t]? = some ((flatK (fun x : Elt E G V => x.1.2) E.n dl.toArray)[t]!) := fun t ht => by
      rw [← flatK_atK (fun x : Elt E G V => x.1.2) E.n hk0 hkE dl.toArray t ht]
      have e7 := congrArg (·[t]?) h7
      rw [List.getElem?_take, if_pos (by rw [← hsz]; exact ht)] at e7
      exact e7
    have hH : HoldsK (fun x : Elt E G V => x.1.2) E.n w b 0 dl.toArray := fun t ht => by
      rw [size_flatK] at ht
      refine ⟨?_, ?_⟩
      · rw [Nat.zero_add]
        simp only [World.cell?, hb1]
        have := hcell t ht
        simpa using this
      · simp [World.frozen?, hb1]
    have hO : SWO (ltOf fun x y : Elt E G V => cf x.1.1 y.1.1) :=
      ⟨fun x => decide_eq_false (hirr _ x.2.2), fun x y z p q => decide_eq_true (htr _ _ _ x.2.2 y.2.2 z.2.2 (of_decide_eq_true p) (of_decide_eq_true q)), fun x y z p q => decide_eq_false (hnt _ _ _ x.2.2 y.2.2 z.2.2 (of_decide_eq_false p) (of_decide_eq_false q))⟩
    have hcon := AnyQ.slices_SortFunc Ls E.n aE zE (fun x : Elt E G V => x.1.2) hkE (fun x v hv => E.one x.2.1 v hv) (fun x y => cf x.1.1 y.1.1) hO gf #[] b 0 cap dl.toArray w eg
      (fun m os dk _ x y => (hcl _ (sort_res _ _ hG b m dk os hb1 hb2).imm x.1.1 y.1.1 x.1.2 y.1.2 x.2.2 y.2.2 x.2.1 y.2.1).mono fun e w' ⟨r, G', he, hres, hr⟩ => ⟨by rw [he, hr], hres.kept.grow⟩)
      hH (Array.getElem?_eq_some_iff.1 hb1).1 (by rw [hsz]; unfold reach at h9; omega)
    rw [hsz] at hcon
    refine hcon.mono fun e w' ⟨he, d', n, os, hp, hs, hw⟩ => ?_
    obtain ⟨hp1, hp2, hp3⟩ := hp
    have hd' : d'.size = dl.length := by simpa using hp1
    have hperm : d'.toList.Perm dl := by
      have e1 : d'.extract 0 dl.toArray.size = d' := by rw [← hp1]; simp
      have e2 : dl.toArray.extract 0 dl.toArray.size = dl.toArray := by simp
      rw [hsz.symm, e1, e2] at hp3; simpa using hp3
    have hbl : b < w.heap.size := (Array.getElem?_eq_some_iff.1 hb1).1
    subst hw
    obtain ⟨cs', hcs'⟩ : ∃ cs' : List Value, cs' = (putCells id 0 (flatK (fun x : Elt E G V => x.1.2) E.n d') cs.toArray).toList := ⟨_, rfl⟩
    have hres := sort_res (fun x : Elt E G V => x.1.2) E.n hG b n d' os hb1 hb2
    have hlen : (d'.toList.map (·.1.1)).length = (dl.map (·.1.1)).length := by simp [hd']
    have hln : (dl.map (·.1.1)).length = dl.length := by simp
    have h5' : cs.length = cap * E.n := h5
    have hfl : (d'.toList.flatMap (·.1.2)).length = d'.size * E.n := by
      have := Flat.len (elts_flat d'.toList); simpa using this
    have hcapd : d'.size * E.n ≤ cs.length := by
      rw [h5']; exact Nat.mul_le_mul_right _ (by omega)
    refine ⟨_, G, he, hres, rfl, d'.toList.map (·.1.1), some (b, tid, cs'), .inr ⟨b, cs', cap, d'.toList.flatMap (·.1.2), rfl, by rw [hlen], by rw [hlen]; exact h3, h4, ?_, elts_flat _, ?_, by rw [hlen]; exact h8, by rw [hlen]; exact h9⟩, fun p hp => ?_, ?_, ?_⟩
    · subst hcs'; simpa [putCells] using h5
    · apply List.ext_getElem?
      intro t
      rw [List.getElem?_take]
      have hn2 : (d'.toList.map (·.1.1)).length * E.n = d'.size * E.n := by simp
      rw [hn2]
      by_cases ht : t < d'.size * E.n
      · have htc : t < cs.length := by omega
        rw [if_pos ht, flatK_atK (fun x : Elt E G V => x.1.2) E.n hk0 hkE d' t ht, hcs']
        simp only [putCells, Array.getElem?_toList, Array.getElem?_mapIdx, size_flatK]
        simp only [List.getElem?_toArray]
        rw [List.getElem?_eq_getElem htc]
        simp [ht]
      · rw [if_neg ht, List.getElem?_eq_none]; omega
    · obtain rfl := Option.some.inj hp
      refine ⟨?_, hb2⟩
      rw [sort_heap _ _ w b n d' os hb1, if_pos hbl, if_pos rfl, hcs']; rfl
    · exact hperm.map _
    · rw [List.pairwise_map, List.pairwise_iff_getElem]
      intro i j hi hj hij
      have h := hs i j (by omega) hij (by rw [← hsz, ← hp1]; simpa using hj)
      have hi' : i < d'.size := by simpa using hi
      have hj' : j < d'.size := by simpa using hj
      rw [getElem!_pos d' i hi', getElem!_pos d' j hj'] at h
      have := of_decide_eq_false h
      simpa only [Array.getElem_toList] using this
end Go.Civ
