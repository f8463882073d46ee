/- The data of the layers, and how they lie in cells. -/
import Derived.Test.YtapjalhjfblonaaGreatCiv7
namespace Go.Civ

structure Span where
  a : Int
  b : Int
deriving DecidableEq
structure Val where
  k : Int
  n : Int
  s : List UInt8
deriving DecidableEq
structure Fact where
  v : List Val
  t : Span
deriving DecidableEq
structure Col where
  name : List UInt8
  kind : Int
deriving DecidableEq
structure Group where
  v : List Val
  t : List Span
deriving DecidableEq

def SpanE : Enc Span := (Enc.pair .int .int).via fun x => (x.a, x.b)
def ValE : Enc Val := (Enc.pair .int (Enc.pair .int .str)).via fun x => (x.k, x.n, x.s)
def FactE : Enc Fact := (Enc.pair (ValE.slice 32) SpanE).via fun x => (x.v, x.t)
def ColE : Enc Col := (Enc.pair .str .int).via fun x => (x.name, x.kind)
def PairE : Enc (Int × Int) := Enc.pair .int .int
def GroupE : Enc Group := (Enc.pair (ValE.slice 32) (SpanE.slice 16)).via fun x => (x.v, x.t)

section
variable {G : GH} {cs : List Value}
theorem SpanE_open {x : Span} (h : SpanE.rep G x cs) : cs = [.int .i64 x.a, .int .i64 x.b] ∧ I64 x.a ∧ I64 x.b := by
  obtain ⟨c1, c2, rfl, ⟨rfl, h1⟩, rfl, h2⟩ := h; exact ⟨rfl, h1, h2⟩
theorem SpanE_mk (x : Span) (h1 : I64 x.a) (h2 : I64 x.b) : SpanE.rep G x [.int .i64 x.a, .int .i64 x.b] := ⟨_, _, rfl, ⟨rfl, h1⟩, rfl, h2⟩
theorem PairE_open {x : Int × Int} (h : PairE.rep G x cs) : cs = [.int .i64 x.1, .int .i64 x.2] ∧ I64 x.1 ∧ I64 x.2 := by
  obtain ⟨c1, c2, rfl, ⟨rfl, h1⟩, rfl, h2⟩ := h; exact ⟨rfl, h1, h2⟩
theorem ValE_open {x : Val} (h : ValE.rep G x cs) : cs = [.int .i64 x.k, .int .i64 x.n, strV x.s] ∧ I64 x.k ∧ I64 x.n ∧ x.s.length ≤ reach := by
  obtain ⟨c1, c2, rfl, ⟨rfl, h1⟩, c3, c4, rfl, ⟨rfl, h2⟩, rfl, h3⟩ := h; exact ⟨rfl, h1, h2, h3⟩
theorem ValE_mk (x : Val) (h1 : I64 x.k) (h2 : I64 x.n) (h3 : x.s.length ≤ reach) : ValE.rep G x [.int .i64 x.k, .int .i64 x.n, strV x.s] := ⟨_, _, rfl, ⟨rfl, h1⟩, _, _, rfl, ⟨rfl, h2⟩, rfl, h3⟩
theorem ColE_open {x : Col} (h : ColE.rep G x cs) : cs = [strV x.name, .int .i64 x.kind] ∧ x.name.length ≤ reach ∧ I64 x.kind := by
  obtain ⟨c1, c2, rfl, ⟨rfl, h1⟩, rfl, h2⟩ := h; exact ⟨rfl, h1, h2⟩
theorem FactE_open {x : Fact} (h : FactE.rep G x cs) : ∃ v, cs = [v, .int .i64 x.t.a, .int .i64 x.t.b] ∧ Sl ValE 32 G v x.v ∧ I64 x.t.a ∧ I64 x.t.b := by
  obtain ⟨c1, c2, rfl, ⟨v, rfl, h1⟩, h2⟩ := h
  obtain ⟨rfl, h3, h4⟩ := SpanE_open h2
  exact ⟨v, rfl, h1, h3, h4⟩
theorem FactE_mk (x : Fact) {v : Value} (h1 : Sl ValE 32 G v x.v) (h2 : I64 x.t.a) (h3 : I64 x.t.b) : FactE.rep G x [v, .int .i64 x.t.a, .int .i64 x.t.b] :=
  ⟨[v], _, rfl, ⟨v, rfl, h1⟩, SpanE_mk x.t h2 h3⟩
theorem GroupE_open {x : Group} (h : GroupE.rep G x cs) : ∃ v t, cs = [v, t] ∧ Sl ValE 32 G v x.v ∧ Sl SpanE 16 G t x.t := by
  obtain ⟨c1, c2, rfl, ⟨v, rfl, h1⟩, t, rfl, h2⟩ := h
  exact ⟨v, t, rfl, h1, h2⟩
theorem GroupE_mk (x : Group) {v t : Value} (h1 : Sl ValE 32 G v x.v) (h2 : Sl SpanE 16 G t x.t) : GroupE.rep G x [v, t] := ⟨[v], [t], rfl, ⟨v, rfl, h1⟩, t, rfl, h2⟩
end
/-- A struct's value. -/
def Is {α : Type} (E : Enc α) (G : GH) (v : Value) (x : α) : Prop := ∃ cs, v = .agg cs.toArray ∧ E.rep G x cs
end Go.Civ
