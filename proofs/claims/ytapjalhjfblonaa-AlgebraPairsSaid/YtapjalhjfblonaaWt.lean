/- Walks, printed by specs38.py. -/
import Derived.Test.YtapjalhjfblonaaProg
import Derived.KernelRfl
import Derived.WalkKit
import Derived.Test.YtapjalhjfblonaaCiv10
set_option linter.unusedVariables false
set_option linter.unusedSimpArgs false
set_option maxRecDepth 100000
set_option maxHeartbeats 4000000
namespace Go.Civ
open Go.Proofs
theorem mixed : Try.prog.follows .mixedOrders = true := by kernel_rfl
theorem dr {N id : Nat} {Q : Exit → Env → World → Prop} {ρ : Env} {w w0 : World} {ops : List Oper} {X : List Nat} {G0 G : GH} (p : Plan) (vs : List (Nat × Value)) (L : Own) (hS : St w0 X G0 G L w)
    (h1 : allH Try.prog ops (vs.foldl (fun r x => upd r x.1 x.2) ρ) (fun _ => True) (fun w w' => w' = w) p.Hp) (h2 : allH Try.prog ops (vs.foldl (fun r x => upd r x.1 x.2) ρ) (St w0 X G0 G L) (fun w w' => w' = w) p.Hr) (h3 : allH Try.prog ops (vs.foldl (fun r x => upd r x.1 x.2) ρ) (St w0 X G0 G L) (fun _ w' => St w0 X G0 G L w') p.Hc)
    (hT : ∀ w, St w0 X G0 G L w → TL Try.prog ops.toArray p (St w0 X G0 G L) Q p.T (vs.foldl (fun r x => upd r x.1 x.2) ρ) w) (hN : ops.all (dstB N) = true := by kernel_rfl) (hp : planB ops p = true := by kernel_rfl)
    (hvs : p.H.filterMap (dstOf ops.toArray) = vs.map (·.1) := by exact rfl) : WC Try.prog N (.region id ops.toArray true) Q ρ w :=
  WC.draw p (St w0 X G0 G L) vs mixed hN hp hvs (hS.draw _) _ rfl h1 h2 h3 hT
theorem drT {N id : Nat} {Q : Exit → Env → World → Prop} {ρ : Env} {w w0 : World} {ops : List Oper} {X : List Nat} {G0 G : GH} (p : Plan) (vs : List (Nat × Value)) (L : Own) (hS : St w0 X G0 G L w)
    (h1 : allH Try.prog ops (vs.foldl (fun r x => upd r x.1 x.2) ρ) (fun _ => True) (fun w w' => w' = w) p.Hp) (h2 : allH Try.prog ops (vs.foldl (fun r x => upd r x.1 x.2) ρ) (St w0 X G0 G L) (fun w w' => w' = w) p.Hr) (h3 : allH Try.prog ops (vs.foldl (fun r x => upd r x.1 x.2) ρ) (St w0 X G0 G L) (fun _ w' => St w0 X G0 G L w') p.Hc)
    (hT : ∀ w, St w0 X G0 G L w → TG Try.prog ops.toArray p (St w0 X G0 G L) Q p.T.length p.T (vs.foldl (fun r x => upd r x.1 x.2) ρ) w) (hN : ops.all (dstB N) = true := by kernel_rfl) (hp : planT ops p = true := by kernel_rfl)
    (hvs : p.H.filterMap (dstOf ops.toArray) = vs.map (·.1) := by exact rfl) : WC Try.prog N (.region id ops.toArray true) Q ρ w :=
  WC.drawT p (St w0 X G0 G L) vs mixed hN hp hvs (hS.draw _) _ rfl h1 h2 h3 hT
theorem ti3 : tinfo Try.prog (nat_lit 3) = some ⟨false, 1, 8, .int .i64 0⟩ := by kernel_rfl
theorem ti9 : tinfo Try.prog (nat_lit 9) = some ⟨false, 1, 16, strV []⟩ := by kernel_rfl
theorem ti22 : tinfo Try.prog (nat_lit 22) = some ⟨false, 1, 24, .slice none 0 0⟩ := by kernel_rfl
theorem ti32 : tinfo Try.prog (nat_lit 32) = some ⟨false, 1, 24, .slice none 0 0⟩ := by kernel_rfl
theorem ti35 : tinfo Try.prog (nat_lit 35) = some ⟨true, 3, 32, .agg #[.int .i64 0, .int .i64 0, strV []]⟩ := by kernel_rfl
theorem ti36 : tinfo Try.prog (nat_lit 36) = some ⟨true, 2, 16, .agg #[.int .i64 0, .int .i64 0]⟩ := by kernel_rfl
theorem ti41 : tinfo Try.prog (nat_lit 41) = some ⟨true, 2, 16, .agg #[.int .i64 0, .int .i64 0]⟩ := by kernel_rfl
theorem ti43 : tinfo Try.prog (nat_lit 43) = some ⟨true, 3, 40, .agg #[.slice none 0 0, .int .i64 0, .int .i64 0]⟩ := by kernel_rfl
theorem ti80 : tinfo Try.prog (nat_lit 80) = some ⟨false, 1, 24, .slice none 0 0⟩ := by kernel_rfl
theorem ti82 : tinfo Try.prog (nat_lit 82) = some ⟨true, 2, 48, .agg #[.slice none 0 0, .slice none 0 0]⟩ := by kernel_rfl
theorem fl35 : fieldsOf Try.prog (nat_lit 35) = some [(0, 1), (1, 1), (2, 1)] := by kernel_rfl
theorem fl41 : fieldsOf Try.prog (nat_lit 41) = some [(0, 1), (1, 1)] := by kernel_rfl
theorem fl43 : fieldsOf Try.prog (nat_lit 43) = some [(0, 1), (1, 2)] := by kernel_rfl
theorem fl82 : fieldsOf Try.prog (nat_lit 82) = some [(0, 1), (1, 1)] := by kernel_rfl
theorem ul3 : Try.prog.underlying (nat_lit 3) = some (.int .i64) := by kernel_rfl
theorem ul9 : Try.prog.underlying (nat_lit 9) = some (.string) := by kernel_rfl
theorem ul22 : Try.prog.underlying (nat_lit 22) = some (.slice (nat_lit 43)) := by kernel_rfl
theorem ul23 : Try.prog.underlying (nat_lit 23) = some (.slice (nat_lit 36)) := by kernel_rfl
theorem ul30 : Try.prog.underlying (nat_lit 30) = some (.slice (nat_lit 32)) := by kernel_rfl
theorem ul32 : Try.prog.underlying (nat_lit 32) = some (.slice (nat_lit 35)) := by kernel_rfl
theorem ul36 : Try.prog.underlying (nat_lit 36) = some (.array (nat_lit 2) (nat_lit 3)) := by kernel_rfl
theorem ul46 : Try.prog.underlying (nat_lit 46) = some (.slice (nat_lit 22)) := by kernel_rfl
theorem ul60 : Try.prog.underlying (nat_lit 60) = some (.slice (nat_lit 3)) := by kernel_rfl
theorem ul68 : Try.prog.underlying (nat_lit 68) = some (.slice (nat_lit 82)) := by kernel_rfl
theorem ul80 : Try.prog.underlying (nat_lit 80) = some (.slice (nat_lit 41)) := by kernel_rfl
theorem ul99 : Try.prog.underlying (nat_lit 99) = some (.int .u64) := by kernel_rfl
theorem sl22 : TSl Try.prog (nat_lit 22) (nat_lit 43) ⟨true, 3, 40, .agg #[.slice none 0 0, .int .i64 0, .int .i64 0]⟩ := ⟨ul22, ti43⟩
theorem sl23 : TSl Try.prog (nat_lit 23) (nat_lit 36) ⟨true, 2, 16, .agg #[.int .i64 0, .int .i64 0]⟩ := ⟨ul23, ti36⟩
theorem sl30 : TSl Try.prog (nat_lit 30) (nat_lit 32) ⟨false, 1, 24, .slice none 0 0⟩ := ⟨ul30, ti32⟩
theorem sl32 : TSl Try.prog (nat_lit 32) (nat_lit 35) ⟨true, 3, 32, .agg #[.int .i64 0, .int .i64 0, strV []]⟩ := ⟨ul32, ti35⟩
theorem sl46 : TSl Try.prog (nat_lit 46) (nat_lit 22) ⟨false, 1, 24, .slice none 0 0⟩ := ⟨ul46, ti22⟩
theorem sl60 : TSl Try.prog (nat_lit 60) (nat_lit 3) ⟨false, 1, 8, .int .i64 0⟩ := ⟨ul60, ti3⟩
theorem sl68 : TSl Try.prog (nat_lit 68) (nat_lit 82) ⟨true, 2, 48, .agg #[.slice none 0 0, .slice none 0 0]⟩ := ⟨ul68, ti82⟩
theorem sl80 : TSl Try.prog (nat_lit 80) (nat_lit 41) ⟨true, 2, 16, .agg #[.int .i64 0, .int .i64 0]⟩ := ⟨ul80, ti41⟩
theorem hF4 : HasBody Try.prog (nat_lit 4) := hasBody_of Try.func4 (by decide) rfl
theorem hF5 : HasBody Try.prog (nat_lit 5) := hasBody_of Try.func5 (by decide) rfl
theorem hF6 : HasBody Try.prog (nat_lit 6) := hasBody_of Try.func6 (by decide) rfl
theorem hF7 : HasBody Try.prog (nat_lit 7) := hasBody_of Try.func7 (by decide) rfl
theorem hF8 : HasBody Try.prog (nat_lit 8) := hasBody_of Try.func8 (by decide) rfl
theorem hF9 : HasBody Try.prog (nat_lit 9) := hasBody_of Try.func9 (by decide) rfl
theorem hF10 : HasBody Try.prog (nat_lit 10) := hasBody_of Try.func10 (by decide) rfl
theorem hF11 : HasBody Try.prog (nat_lit 11) := hasBody_of Try.func11 (by decide) rfl
theorem hF12 : HasBody Try.prog (nat_lit 12) := hasBody_of Try.func12 (by decide) rfl
theorem hF13 : HasBody Try.prog (nat_lit 13) := hasBody_of Try.func13 (by decide) rfl
theorem hF14 : HasBody Try.prog (nat_lit 14) := hasBody_of Try.func14 (by decide) rfl
theorem hF15 : HasBody Try.prog (nat_lit 15) := hasBody_of Try.func15 (by decide) rfl
theorem hF16 : HasBody Try.prog (nat_lit 16) := hasBody_of Try.func16 (by decide) rfl
theorem hF17 : HasBody Try.prog (nat_lit 17) := hasBody_of Try.func17 (by decide) rfl
theorem hF18 : HasBody Try.prog (nat_lit 18) := hasBody_of Try.func18 (by decide) rfl
theorem hF19 : HasBody Try.prog (nat_lit 19) := hasBody_of Try.func19 (by decide) rfl
theorem hF20 : HasBody Try.prog (nat_lit 20) := hasBody_of Try.func20 (by decide) rfl
theorem hF21 : HasBody Try.prog (nat_lit 21) := hasBody_of Try.func21 (by decide) rfl
theorem hF22 : HasBody Try.prog (nat_lit 22) := hasBody_of Try.func22 (by decide) rfl
theorem hF23 : HasBody Try.prog (nat_lit 23) := hasBody_of Try.func23 (by decide) rfl
theorem hF24 : HasBody Try.prog (nat_lit 24) := hasBody_of Try.func24 (by decide) rfl
theorem hF25 : HasBody Try.prog (nat_lit 25) := hasBody_of Try.func25 (by decide) rfl
theorem hF26 : HasBody Try.prog (nat_lit 26) := hasBody_of Try.func26 (by decide) rfl
theorem hF27 : HasBody Try.prog (nat_lit 27) := hasBody_of Try.func27 (by decide) rfl
theorem hF28 : HasBody Try.prog (nat_lit 28) := hasBody_of Try.func28 (by decide) rfl
theorem hF29 : HasBody Try.prog (nat_lit 29) := hasBody_of Try.func29 (by decide) rfl
theorem hF30 : HasBody Try.prog (nat_lit 30) := hasBody_of Try.func30 (by decide) rfl
theorem hF31 : HasBody Try.prog (nat_lit 31) := hasBody_of Try.func31 (by decide) rfl
theorem hF32 : HasBody Try.prog (nat_lit 32) := hasBody_of Try.func32 (by decide) rfl
theorem hF33 : HasBody Try.prog (nat_lit 33) := hasBody_of Try.func33 (by decide) rfl
theorem hF34 : HasBody Try.prog (nat_lit 34) := hasBody_of Try.func34 (by decide) rfl
theorem hF35 : HasBody Try.prog (nat_lit 35) := hasBody_of Try.func35 (by decide) rfl
theorem hF36 : HasBody Try.prog (nat_lit 36) := hasBody_of Try.func36 (by decide) rfl
theorem hF37 : HasBody Try.prog (nat_lit 37) := hasBody_of Try.func37 (by decide) rfl
theorem hF38 : HasBody Try.prog (nat_lit 38) := hasBody_of Try.func38 (by decide) rfl
theorem hF39 : HasBody Try.prog (nat_lit 39) := hasBody_of Try.func39 (by decide) rfl
theorem hF40 : HasBody Try.prog (nat_lit 40) := hasBody_of Try.func40 (by decide) rfl
theorem hF41 : HasBody Try.prog (nat_lit 41) := hasBody_of Try.func41 (by decide) rfl
theorem hF42 : HasBody Try.prog (nat_lit 42) := hasBody_of Try.func42 (by decide) rfl
theorem hF43 : HasBody Try.prog (nat_lit 43) := hasBody_of Try.func43 (by decide) rfl
theorem hF44 : HasBody Try.prog (nat_lit 44) := hasBody_of Try.func44 (by decide) rfl
theorem hF45 : HasBody Try.prog (nat_lit 45) := hasBody_of Try.func45 (by decide) rfl
theorem hF46 : HasBody Try.prog (nat_lit 46) := hasBody_of Try.func46 (by decide) rfl
theorem hF47 : HasBody Try.prog (nat_lit 47) := hasBody_of Try.func47 (by decide) rfl
theorem hF48 : HasBody Try.prog (nat_lit 48) := hasBody_of Try.func48 (by decide) rfl
theorem hF49 : HasBody Try.prog (nat_lit 49) := hasBody_of Try.func49 (by decide) rfl
theorem hF50 : HasBody Try.prog (nat_lit 50) := hasBody_of Try.func50 (by decide) rfl
theorem hF51 : HasBody Try.prog (nat_lit 51) := hasBody_of Try.func51 (by decide) rfl
theorem hF53 : HasBody Try.prog (nat_lit 53) := hasBody_of Try.func53 (by decide) rfl
theorem hF54 : HasBody Try.prog (nat_lit 54) := hasBody_of Try.func54 (by decide) rfl
theorem hF55 : HasBody Try.prog (nat_lit 55) := hasBody_of Try.func55 (by decide) rfl
theorem hF56 : HasBody Try.prog (nat_lit 56) := hasBody_of Try.func56 (by decide) rfl
theorem hF57 : HasBody Try.prog (nat_lit 57) := hasBody_of Try.func57 (by decide) rfl
theorem hF58 : HasBody Try.prog (nat_lit 58) := hasBody_of Try.func58 (by decide) rfl
theorem hF59 : HasBody Try.prog (nat_lit 59) := hasBody_of Try.func59 (by decide) rfl
theorem hF60 : HasBody Try.prog (nat_lit 60) := hasBody_of Try.func60 (by decide) rfl
theorem hF61 : HasBody Try.prog (nat_lit 61) := hasBody_of Try.func61 (by decide) rfl
theorem hF63 : HasBody Try.prog (nat_lit 63) := hasBody_of Try.func63 (by decide) rfl
theorem hF64 : HasBody Try.prog (nat_lit 64) := hasBody_of Try.func64 (by decide) rfl
theorem hF65 : HasBody Try.prog (nat_lit 65) := hasBody_of Try.func65 (by decide) rfl
theorem hF66 : HasBody Try.prog (nat_lit 66) := hasBody_of Try.func66 (by decide) rfl
theorem hF67 : HasBody Try.prog (nat_lit 67) := hasBody_of Try.func67 (by decide) rfl
theorem hF68 : HasBody Try.prog (nat_lit 68) := hasBody_of Try.func68 (by decide) rfl
theorem hF69 : HasBody Try.prog (nat_lit 69) := hasBody_of Try.func69 (by decide) rfl
theorem hF72 : HasBody Try.prog (nat_lit 72) := hasBody_of Try.func72 (by decide) rfl
theorem hF73 : HasBody Try.prog (nat_lit 73) := hasBody_of Try.func73 (by decide) rfl
theorem hF74 : HasBody Try.prog (nat_lit 74) := hasBody_of Try.func74 (by decide) rfl
theorem hF77 : HasBody Try.prog (nat_lit 77) := hasBody_of Try.func77 (by decide) rfl
theorem hF88 : HasBody Try.prog (nat_lit 88) := hasBody_of Try.func88 (by decide) rfl
theorem eqg41 : Try.prog.eqGuardType Try.prog.depth (nat_lit 41) = false := by kernel_rfl
set_option maxHeartbeats 1000000 in
theorem SpanEq41 (x y : Span) (w : World) : (Op.equalIn 10000 (nat_lit 41) (.agg #[.int .i64 x.a, .int .i64 x.b]) (.agg #[.int .i64 y.a, .int .i64 y.b])).run Try.prog w = .ok (decide (x = y)) w := by
  have u3 := Try.underlying3
  have a3 := Try.isAgg3
  have z3 := Try.sizeOf3
  rw [show (10000 : Nat) = 9999 + 1 from rfl, run_equalIn_agg w 9999 (nat_lit 41) _ _ (by kernel_rfl) (by kernel_rfl)]
  simp only [Program.fieldsOf, Try.underlying41, strV]
  go_simp
  skip
  obtain ⟨x1, x2⟩ := x
  obtain ⟨y1, y2⟩ := y
  by_cases h1 : x1 = y1 <;> by_cases h2 : x2 = y2 <;> simp [h1, h2]
theorem eqg35 : Try.prog.eqGuardType Try.prog.depth (nat_lit 35) = false := by kernel_rfl
set_option maxHeartbeats 1000000 in
theorem ValEq35 (x y : Val) (w : World) : (Op.equalIn 10000 (nat_lit 35) (.agg #[.int .i64 x.k, .int .i64 x.n, strV x.s]) (.agg #[.int .i64 y.k, .int .i64 y.n, strV y.s])).run Try.prog w = .ok (decide (x = y)) w := by
  have u3 := Try.underlying3
  have a3 := Try.isAgg3
  have z3 := Try.sizeOf3
  have u9 := Try.underlying9
  have a9 := Try.isAgg9
  have z9 := Try.sizeOf9
  rw [show (10000 : Nat) = 9999 + 1 from rfl, run_equalIn_agg w 9999 (nat_lit 35) _ _ (by kernel_rfl) (by kernel_rfl)]
  simp only [Program.fieldsOf, Try.underlying35, strV]
  go_simp
  skip
  obtain ⟨x1, x2, x3⟩ := x
  obtain ⟨y1, y2, y3⟩ := y
  by_cases h1 : x1 = y1 <;> by_cases h2 : x2 = y2 <;> by_cases h3 : x3 = y3 <;> simp [h1, h2, h3]


end Go.Civ
