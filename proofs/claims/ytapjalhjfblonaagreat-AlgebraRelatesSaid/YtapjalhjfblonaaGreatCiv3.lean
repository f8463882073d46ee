/- How data lie in cells; reading them. -/
import Derived.Test.YtapjalhjfblonaaGreatCiv2
import Derived.Laws.Entries
import Derived.Laws.Slices
namespace Go.Civ
open Go.RowKit

/-! ### Encodings -/
structure Enc (α : Type) where
  n : Nat
  rep : GH → α → List Value → Prop
  len : ∀ {G x cs}, rep G x cs → cs.length = n
  mono : ∀ {G G' x cs}, G.le G' → rep G x cs → rep G' x cs
  one : ∀ {G x cs}, rep G x cs → ∀ c ∈ cs, c.oneCell' = true

def I64 (x : Int) : Prop := -9223372036854775808 ≤ x ∧ x ≤ 9223372036854775807

def Enc.int : Enc Int where
  n := 1
  rep _ x cs := cs = [.int .i64 x] ∧ I64 x
  len h := by rw [h.1]; rfl
  mono _ h := h
  one h c hc := by rw [h.1] at hc; simp at hc; subst hc; rfl
def Enc.bool : Enc Bool where
  n := 1
  rep _ x cs := cs = [.bool x]
  len h := by rw [h]; rfl
  mono _ h := h
  one h c hc := by rw [h] at hc; simp at hc; subst hc; rfl
/-- The bytes that a string, or the cells of a slice, may take. -/
def reach : Nat := 140737488355328
/-- A string, by its bytes. -/
def strV (l : List UInt8) : Value := .string ⟨l.toArray⟩
def Enc.str : Enc (List UInt8) where
  n := 1
  rep _ x cs := cs = [strV x] ∧ x.length ≤ reach
  len h := by rw [h.1]; rfl
  mono _ h := h
  one h c hc := by rw [h.1] at hc; simp at hc; subst hc; rfl
def Enc.pair {α β : Type} (A : Enc α) (B : Enc β) : Enc (α × β) where
  n := A.n + B.n
  rep G x cs := ∃ c1 c2, cs = c1 ++ c2 ∧ A.rep G x.1 c1 ∧ B.rep G x.2 c2
  len := by rintro G x cs ⟨c1, c2, rfl, h1, h2⟩; rw [List.length_append, A.len h1, B.len h2]
  mono := by rintro G G' x cs hle ⟨c1, c2, rfl, h1, h2⟩; exact ⟨c1, c2, rfl, A.mono hle h1, B.mono hle h2⟩
  one := by
    rintro G x cs ⟨c1, c2, rfl, h1, h2⟩ c hc
    rcases List.mem_append.1 hc with hc | hc
    · exact A.one h1 c hc
    · exact B.one h2 c hc
/-- The same cells, seen as another type. -/
def Enc.via {α β : Type} (A : Enc α) (f : β → α) : Enc β where
  n := A.n
  rep G x cs := A.rep G (f x) cs
  len h := A.len h
  mono hle h := A.mono hle h
  one h := A.one h

/-- Cells of the ghost heap. -/
def Cells (G : GH) (p : Addr) (cs : List Value) : Prop :=
  p.spot = none ∧ ∃ c e fz, G p.block = some (.cells c e fz) ∧ ∀ j v, cs[j]? = some v → c[p.off + j]? = some v
theorem Cells.mono {G G' : GH} {p : Addr} {cs : List Value} (hle : G.le G') (h : Cells G p cs) : Cells G' p cs :=
  let ⟨h1, c, e, fz, h2, h3⟩ := h
  ⟨h1, c, e, fz, hle _ _ h2, h3⟩
theorem addr_add (p : Addr) (k : Nat) (h : p.spot = none) : p.add k = ⟨p.block, p.off + k, none⟩ := by
  unfold Addr.add; split
  · rename_i h0; subst h0; cases p; simp at h; subst h; rfl
  · rfl
theorem Cells.drop {G : GH} {p : Addr} {cs : List Value} (k : Nat) (h : Cells G p cs) : Cells G (p.add k) (cs.drop k) := by
  obtain ⟨h1, c, e, fz, h2, h3⟩ := h
  rw [addr_add p k h1]
  refine ⟨rfl, c, e, fz, h2, fun j v hv => ?_⟩
  rw [List.getElem?_drop] at hv
  have := h3 _ _ hv
  rwa [← Nat.add_assoc] at this
theorem Cells.take {G : GH} {p : Addr} {cs cs' : List Value} (h : Cells G p (cs ++ cs')) : Cells G p cs := by
  obtain ⟨h1, c, e, fz, h2, h3⟩ := h
  refine ⟨h1, c, e, fz, h2, fun j v hv => h3 j v ?_⟩
  have := (List.getElem?_eq_some_iff.1 hv).1
  rw [List.getElem?_append_left this]; exact hv
theorem Cells.cell {G : GH} {w : World} {p : Addr} {cs : List Value} (h : Cells G p cs) (hG : G.In w) {j : Nat} {v : Value} (hv : cs[j]? = some v) : w.cell? (p.add j) = some v := by
  obtain ⟨h1, c, e, fz, h2, h3⟩ := h
  rw [addr_add p j h1]
  simp [World.cell?, hG _ _ h2, h3 j v hv]

/-- An element of a type lies there. -/
def ElAt {α : Type} (E : Enc α) (G : GH) (p : Addr) (x : α) : Prop := ∃ cs, Cells G p cs ∧ E.rep G x cs
theorem ElAt.mono {α : Type} {E : Enc α} {G G' : GH} {p : Addr} {x : α} (hle : G.le G') (h : ElAt E G p x) : ElAt E G' p x :=
  let ⟨cs, h1, h2⟩ := h
  ⟨cs, h1.mono hle, E.mono hle h2⟩

/-- A slice value that reads as a list, in the ghost heap. 'by': the bytes of an element. -/
def Sl {α : Type} (E : Enc α) (by_ : Nat) (G : GH) (v : Value) (l : List α) : Prop :=
  ∃ a cap, v = .slice a l.length cap ∧ l.length ≤ cap ∧ l.length * by_ ≤ reach ∧ l.length ≤ reach ∧ ∀ i x, l[i]? = some x → ∃ p, a = some p ∧ p.spot = none ∧ ElAt E G (p.add (i * E.n)) x
theorem Sl.mono {α : Type} {E : Enc α} {b : Nat} {G G' : GH} {v : Value} {l : List α} (hle : G.le G') (h : Sl E b G v l) : Sl E b G' v l :=
  let ⟨a, cap, h1, h2, h3, h3', h4⟩ := h
  ⟨a, cap, h1, h2, h3, h3', fun i x hx => let ⟨p, k1, k2, k3⟩ := h4 i x hx; ⟨p, k1, k2, k3.mono hle⟩⟩
theorem Sl.bound {α : Type} {E : Enc α} {b : Nat} {G : GH} {v : Value} {l : List α} (h : Sl E b G v l) : l.length ≤ reach :=
  let ⟨_, _, _, _, _, h3, _⟩ := h
  h3
theorem Sl.bytes {α : Type} {E : Enc α} {b : Nat} {G : GH} {v : Value} {l : List α} (h : Sl E b G v l) : l.length * b ≤ reach :=
  let ⟨_, _, _, _, h3, _, _⟩ := h
  h3
theorem Sl.nil {α : Type} (E : Enc α) (b : Nat) (G : GH) : Sl E b G (.slice none 0 0) [] := ⟨none, 0, rfl, Nat.le_refl _, by simp [reach], by simp [reach], fun i x h => by simp at h⟩

def Enc.slice {α : Type} (E : Enc α) (b : Nat) : Enc (List α) where
  n := 1
  rep G l cs := ∃ v, cs = [v] ∧ Sl E b G v l
  len := by rintro G x cs ⟨v, rfl, _⟩; rfl
  mono := by rintro G G' x cs hle ⟨v, rfl, h⟩; exact ⟨v, rfl, h.mono hle⟩
  one := by
    rintro G x cs ⟨v, rfl, a, cap, rfl, _⟩ c hc
    simp at hc; subst hc; rfl

/-! ### Operations that touch no memory -/
section
variable {P : Program} {Q : Exit → Env → World → Prop} {ρ : Env} {w : World} {ops : Array Oper} {rest : List Oper}
variable {d : Nat} {ty : TypeId} {pos : String} {af : Array Edge} {g : Option (Nat × Bool)}

theorem WL.move {x : Operand} (hw : Region.wanted ⟨some d, .move x, ty, pos, af, g⟩ (yieldE ops ρ) = true)
    (k : WL P ops Q rest (upd ρ d (ev ρ x)) w) : WL P ops Q (⟨some d, .move x, ty, pos, af, g⟩ :: rest) ρ w := WL.val hw rfl rfl k
theorem WL.assign {x : Operand} (hw : Region.wanted ⟨some d, .assign x, ty, pos, af, g⟩ (yieldE ops ρ) = true)
    (k : WL P ops Q rest (upd ρ d (ev ρ x)) w) : WL P ops Q (⟨some d, .assign x, ty, pos, af, g⟩ :: rest) ρ w := WL.val hw rfl rfl k
theorem WL.pickT {c a b : Operand} (hw : Region.wanted ⟨some d, .pick c a b, ty, pos, af, g⟩ (yieldE ops ρ) = true) (hc : ev ρ c = .bool true)
    (k : WL P ops Q rest (upd ρ d (ev ρ a)) w) : WL P ops Q (⟨some d, .pick c a b, ty, pos, af, g⟩ :: rest) ρ w :=
  WL.val hw (by simp [execOp, hc, asBool]) rfl k
theorem WL.pickF {c a b : Operand} (hw : Region.wanted ⟨some d, .pick c a b, ty, pos, af, g⟩ (yieldE ops ρ) = true) (hc : ev ρ c = .bool false)
    (k : WL P ops Q rest (upd ρ d (ev ρ b)) w) : WL P ops Q (⟨some d, .pick c a b, ty, pos, af, g⟩ :: rest) ρ w :=
  WL.val hw (by simp [execOp, hc, asBool]) rfl k
theorem WL.not {x : Operand} {t : TypeId} (b : Bool) (hw : Region.wanted ⟨some d, .unOp .not t x, ty, pos, af, g⟩ (yieldE ops ρ) = true) (hx : ev ρ x = .bool b)
    (k : WL P ops Q rest (upd ρ d (.bool (!b))) w) : WL P ops Q (⟨some d, .unOp .not t x, ty, pos, af, g⟩ :: rest) ρ w :=
  WL.val hw (by simp [execOp, hx, Op.unary]) rfl k
/-- A Bool that a way hangs on. -/
theorem WL.split {b : Bool} {l : List Oper} (kT : b = true → WL P ops Q l (upd ρ d (.bool true)) w) (kF : b = false → WL P ops Q l (upd ρ d (.bool false)) w) : WL P ops Q l (upd ρ d (.bool b)) w := by
  cases b
  · exact kF rfl
  · exact kT rfl
theorem WL.extract {x : Operand} {i : Nat} (v : Value) (vs : List Value) (hw : Region.wanted ⟨some d, .extract x i, ty, pos, af, g⟩ (yieldE ops ρ) = true) (hx : ev ρ x = .tuple vs.toArray) (hv : vs[i]? = some v)
    (k : WL P ops Q rest (upd ρ d v) w) : WL P ops Q (⟨some d, .extract x i, ty, pos, af, g⟩ :: rest) ρ w :=
  WL.val hw (by simp [execOp, hx, Instr.extract, hv]) rfl k
theorem WL.makeFunc {f : Nat} {cap : List Operand} (vs : List Value) (hw : Region.wanted ⟨some d, .makeFunc (.func f) #[] cap.toArray, ty, pos, af, g⟩ (yieldE ops ρ) = true) (hv : cap.map (ev ρ) = vs)
    (k : WL P ops Q rest (upd ρ d (.func (.func f) #[] vs.toArray)) w) : WL P ops Q (⟨some d, .makeFunc (.func f) #[] cap.toArray, ty, pos, af, g⟩ :: rest) ρ w :=
  WL.val hw (by subst hv; simp [execOp, Instr.makeFunc]) rfl k

/-! integers -/
inductive Cmp where | eql | neq | lss | leq | gtr | geq
def Cmp.op : Cmp → BinOp | .eql => .eql | .neq => .neq | .lss => .lss | .leq => .leq | .gtr => .gtr | .geq => .geq
def Cmp.b : Cmp → Int → Int → Bool
  | .eql, a, b => a == b | .neq, a, b => a != b | .lss, a, b => decide (a < b) | .leq, a, b => decide (a ≤ b) | .gtr, a, b => decide (b < a) | .geq, a, b => decide (b ≤ a)
theorem run_cmp (c : Cmp) (t : TypeId) (k : IntKind) (a b : Int) : (binOp c.op t (.int k a) (.int k b)).run P w = .ok (.bool (c.b a b)) w := by
  cases c <;> simp [binOp, Cmp.op, Cmp.b, Op.intCmp]
theorem run_guard_int (op : BinOp) (t : TypeId) (x y : Operand) (k k' : IntKind) (a b : Int) : (eqGuard op t x y (.int k a) (.int k' b)).run P w = .ok () w := by
  unfold eqGuard; split <;> simp
theorem WL.cmp {t ty' : TypeId} {x y : Operand} (c : Cmp) {op : BinOp} (hop : op = c.op) (k : IntKind) (a b : Int)
    (hw : Region.wanted ⟨some d, .binOp op t x y ty', ty, pos, af, g⟩ (yieldE ops ρ) = true) (hx : ev ρ x = .int k a) (hy : ev ρ y = .int k b)
    (kk : WL P ops Q rest (upd ρ d (.bool (c.b a b))) w) : WL P ops Q (⟨some d, .binOp op t x y ty', ty, pos, af, g⟩ :: rest) ρ w := by
  subst hop
  refine WL.val hw ?_ rfl kk
  simp [execOp, hx, hy, run_guard_int, run_cmp, Result.andThen]

inductive Ar where | add | sub | mul
def Ar.op : Ar → BinOp | .add => .add | .sub => .sub | .mul => .mul
def Ar.f : Ar → Int → Int → Int | .add, a, b => a + b | .sub, a, b => a - b | .mul, a, b => a * b
theorem wrap_in {n : Int} (h : I64 n) : IntKind.i64.wrap n = n := by
  rw [IntKind.wrap_i64]; obtain ⟨h1, h2⟩ := h; omega
theorem run_ar (c : Ar) (t : TypeId) (k : IntKind) (a b : Int) : (binOp c.op t (.int k a) (.int k b)).run P w = .ok (.int k (k.wrap (c.f a b))) w := by
  cases c <;> simp [binOp, Ar.op, Ar.f, Op.intArith]
theorem WL.ar {t ty' : TypeId} {x y : Operand} (c : Ar) {op : BinOp} (hop : op = c.op) (a b : Int)
    (hw : Region.wanted ⟨some d, .binOp op t x y ty', ty, pos, af, g⟩ (yieldE ops ρ) = true) (hx : ev ρ x = .int .i64 a) (hy : ev ρ y = .int .i64 b) (hI : I64 (c.f a b))
    (kk : WL P ops Q rest (upd ρ d (.int .i64 (c.f a b))) w) : WL P ops Q (⟨some d, .binOp op t x y ty', ty, pos, af, g⟩ :: rest) ρ w := by
  subst hop
  refine WL.val hw ?_ rfl kk
  simp [execOp, hx, hy, run_guard_int, run_ar, Result.andThen, wrap_in hI]

/-! len, max, min -/
theorem underlying_run {t : TypeId} {ds : TypeDesc} (h : P.underlying t = some ds) : (underlying t).run P w = .ok ds w := by simp [underlying, h]
theorem WL.lenS {t e : TypeId} {x : Operand} (a : Option Addr) (n cap : Nat) (hu : P.underlying t = some (.slice e))
    (hw : Region.wanted ⟨some d, .call ⟨.builtin .len, #[x], #[t]⟩, ty, pos, af, g⟩ (yieldE ops ρ) = true) (hx : ev ρ x = .slice a n cap)
    (kk : WL P ops Q rest (upd ρ d (.int .i64 n)) w) : WL P ops Q (⟨some d, .call ⟨.builtin .len, #[x], #[t]⟩, ty, pos, af, g⟩ :: rest) ρ w := by
  refine WL.val hw ?_ rfl kk
  simp [execOp, resolve, invoke, builtin, Builtin.len_, hx, underlying_run hu, goInt, Result.andThen]
theorem WL.lenSl {α : Type} {E : Enc α} {by_ : Nat} {G : GH} {t e : TypeId} {x : Operand} {v : Value} {l : List α} (hs : Sl E by_ G v l) (hu : P.underlying t = some (.slice e))
    (hw : Region.wanted ⟨some d, .call ⟨.builtin .len, #[x], #[t]⟩, ty, pos, af, g⟩ (yieldE ops ρ) = true) (hx : ev ρ x = v)
    (kk : WL P ops Q rest (upd ρ d (.int .i64 l.length)) w) : WL P ops Q (⟨some d, .call ⟨.builtin .len, #[x], #[t]⟩, ty, pos, af, g⟩ :: rest) ρ w := by
  obtain ⟨a, cap, rfl, _⟩ := hs
  exact WL.lenS a _ cap hu hw hx kk
theorem WL.lenStr {t : TypeId} {x : Operand} (s : List UInt8) (hu : P.underlying t = some .string)
    (hw : Region.wanted ⟨some d, .call ⟨.builtin .len, #[x], #[t]⟩, ty, pos, af, g⟩ (yieldE ops ρ) = true) (hx : ev ρ x = strV s)
    (kk : WL P ops Q rest (upd ρ d (.int .i64 s.length)) w) : WL P ops Q (⟨some d, .call ⟨.builtin .len, #[x], #[t]⟩, ty, pos, af, g⟩ :: rest) ρ w := by
  refine WL.val hw ?_ rfl kk
  have e : (ByteArray.mk s.toArray).size = s.length := rfl
  simp [execOp, resolve, invoke, builtin, Builtin.len_, hx, strV, underlying_run hu, goInt, Result.andThen, e]
theorem WL.maxI {ts : Array TypeId} {x y : Operand} (a b : Int)
    (hw : Region.wanted ⟨some d, .call ⟨.builtin .max, #[x, y], ts⟩, ty, pos, af, g⟩ (yieldE ops ρ) = true) (hx : ev ρ x = .int .i64 a) (hy : ev ρ y = .int .i64 b)
    (kk : WL P ops Q rest (upd ρ d (.int .i64 (max a b))) w) : WL P ops Q (⟨some d, .call ⟨.builtin .max, #[x, y], ts⟩, ty, pos, af, g⟩ :: rest) ρ w := by
  refine WL.val hw ?_ rfl kk
  have : (if b > a then b else a) = max a b := by rw [Int.max_def]; split <;> split <;> omega
  simp [execOp, resolve, invoke, builtin, Builtin.max_, Builtin.max2, hx, hy, this]
theorem WL.minI {ts : Array TypeId} {x y : Operand} (a b : Int)
    (hw : Region.wanted ⟨some d, .call ⟨.builtin .min, #[x, y], ts⟩, ty, pos, af, g⟩ (yieldE ops ρ) = true) (hx : ev ρ x = .int .i64 a) (hy : ev ρ y = .int .i64 b)
    (kk : WL P ops Q rest (upd ρ d (.int .i64 (min a b))) w) : WL P ops Q (⟨some d, .call ⟨.builtin .min, #[x, y], ts⟩, ty, pos, af, g⟩ :: rest) ρ w := by
  refine WL.val hw ?_ rfl kk
  have : (if b < a then b else a) = min a b := by rw [Int.min_def]; split <;> split <;> omega
  simp [execOp, resolve, invoke, builtin, Builtin.min_, Builtin.min2, hx, hy, this]

/-! ### Calls -/
/-- Function f has a body: a call enters it. -/
def HasBody (P : Program) (f : FuncId) : Prop := ∀ args (w : World), (callFunc f args).run P w = .ok (.enter f args) w
theorem hasBody_of {f : FuncId} {fn : Func} {c : Code} (hf : P.funcs[f]? = some fn) (hn : (fn.name == "runtime.NumGoroutine") = false) (hb : fn.body = some c) : HasBody P f := by
  intro args w
  have hn' : ¬ fn.name = "runtime.NumGoroutine" := by simpa using hn
  simp [callFunc, hf, hn', hb]
theorem WL.callF {f : Nat} {x : Operand} {args : List Operand} {ts : Array TypeId} (vs : List Value) (cap : Array Value) (hf : HasBody P f)
    (hw : Region.wanted ⟨some d, .call ⟨.value x, args.toArray, ts⟩, ty, pos, af, g⟩ (yieldE ops ρ) = true) (hx : ev ρ x = .func (.func f) #[] cap) (ha : args.map (ev ρ) ++ cap.toList = vs)
    (hc : Calls P f vs.toArray w fun e w'' => ∃ v, e = .returned v ∧ WL P ops Q rest (upd ρ d v) w'') : WL P ops Q (⟨some d, .call ⟨.value x, args.toArray, ts⟩, ty, pos, af, g⟩ :: rest) ρ w := by
  refine WL.call hw ?_ rfl hc
  subst ha
  have e : args.toArray.map (ev ρ) ++ cap = (args.map (ev ρ) ++ cap.toList).toArray := Array.ext' (by simp)
  simp only [execOp, resolve, Sem.run_bind, hx, Deferred.ofValue, Sem.run_pure, Result.andThen, invoke, Array.empty_append]
  rw [e]
  exact hf _ _
end
end Go.Civ
