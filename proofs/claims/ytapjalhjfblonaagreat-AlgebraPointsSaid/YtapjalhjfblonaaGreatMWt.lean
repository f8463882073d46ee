/- Walks, printed by specs38.py. -/
import Derived.Test.YtapjalhjfblonaaGreatProg
import Derived.KernelRfl
import Derived.WalkKit
import Derived.Test.YtapjalhjfblonaaGreatMSv
set_option linter.unusedVariables false
set_option linter.unusedSimpArgs false
set_option maxRecDepth 100000
set_option maxHeartbeats 4000000
namespace Go.Civ
open Go.Proofs
theorem ti3 : tinfo Tryz.prog (nat_lit 3) = some ⟨false, 1, 8, .int .i64 0⟩ := by kernel_rfl
theorem ti4 : tinfo Tryz.prog (nat_lit 4) = some ⟨false, 1, 1, .bool false⟩ := by kernel_rfl
theorem ti9 : tinfo Tryz.prog (nat_lit 9) = some ⟨false, 1, 16, strV []⟩ := by kernel_rfl
theorem ti22 : tinfo Tryz.prog (nat_lit 22) = some ⟨false, 1, 24, .slice none 0 0⟩ := by kernel_rfl
theorem ti34 : tinfo Tryz.prog (nat_lit 34) = some ⟨true, 3, 32, .agg #[.int .i64 0, .int .i64 0, strV []]⟩ := by kernel_rfl
theorem ti35 : tinfo Tryz.prog (nat_lit 35) = some ⟨false, 1, 24, .slice none 0 0⟩ := by kernel_rfl
theorem ti37 : tinfo Tryz.prog (nat_lit 37) = some ⟨true, 7, 96, .agg #[.int .i64 0, strV [], strV [], .int .i64 0, .int .i64 0, strV [], .slice none 0 0]⟩ := by kernel_rfl
theorem ti46 : tinfo Tryz.prog (nat_lit 46) = some ⟨true, 2, 16, .agg #[.int .i64 0, .int .i64 0]⟩ := by kernel_rfl
theorem ti52 : tinfo Tryz.prog (nat_lit 52) = some ⟨false, 1, 8, .nilFunc⟩ := by kernel_rfl
theorem ti55 : tinfo Tryz.prog (nat_lit 55) = some ⟨true, 2, 48, .agg #[.slice none 0 0, .slice none 0 0]⟩ := by kernel_rfl
theorem ti61 : tinfo Tryz.prog (nat_lit 61) = some ⟨false, 1, 24, .slice none 0 0⟩ := by kernel_rfl
theorem ti63 : tinfo Tryz.prog (nat_lit 63) = some ⟨true, 3, 40, .agg #[.slice none 0 0, .int .i64 0, .int .i64 0]⟩ := by kernel_rfl
theorem ti67 : tinfo Tryz.prog (nat_lit 67) = some ⟨false, 1, 24, .slice none 0 0⟩ := by kernel_rfl
theorem ti71 : tinfo Tryz.prog (nat_lit 71) = some ⟨true, 2, 24, .agg #[strV [], .int .i64 0]⟩ := by kernel_rfl
theorem ti87 : tinfo Tryz.prog (nat_lit 87) = some ⟨true, 2, 16, .agg #[.int .i64 0, .int .i64 0]⟩ := by kernel_rfl
theorem ti100 : tinfo Tryz.prog (nat_lit 100) = some ⟨false, 1, 8, .nilFunc⟩ := by kernel_rfl
theorem ti111 : tinfo Tryz.prog (nat_lit 111) = some ⟨false, 1, 24, .slice none 0 0⟩ := by kernel_rfl
theorem ti117 : tinfo Tryz.prog (nat_lit 117) = some ⟨true, 2, 48, .agg #[.slice none 0 0, .slice none 0 0]⟩ := by kernel_rfl
theorem ti176 : tinfo Tryz.prog (nat_lit 176) = some ⟨true, 3, 24, .agg #[.int .i64 0, .int .i64 0, .int .i64 0]⟩ := by kernel_rfl
theorem ti177 : tinfo Tryz.prog (nat_lit 177) = some ⟨true, 9, 72, .agg #[.int .i64 0, .int .i64 0, .int .i64 0, .int .i64 0, .int .i64 0, .int .i64 0, .int .i64 0, .int .i64 0, .int .i64 0]⟩ := by kernel_rfl
theorem fl34 : fieldsOf Tryz.prog (nat_lit 34) = some [(0, 1), (1, 1), (2, 1)] := by kernel_rfl
theorem fl37 : fieldsOf Tryz.prog (nat_lit 37) = some [(0, 1), (1, 1), (2, 1), (3, 3), (6, 1)] := by kernel_rfl
theorem fl46 : fieldsOf Tryz.prog (nat_lit 46) = some [(0, 1), (1, 1)] := by kernel_rfl
theorem fl63 : fieldsOf Tryz.prog (nat_lit 63) = some [(0, 1), (1, 2)] := by kernel_rfl
theorem fl71 : fieldsOf Tryz.prog (nat_lit 71) = some [(0, 1), (1, 1)] := by kernel_rfl
theorem fl117 : fieldsOf Tryz.prog (nat_lit 117) = some [(0, 1), (1, 1)] := by kernel_rfl
def ft : FTab Tryz.prog := ⟨[(nat_lit 34, [(0, 1), (1, 1), (2, 1)]), (nat_lit 37, [(0, 1), (1, 1), (2, 1), (3, 3), (6, 1)]), (nat_lit 46, [(0, 1), (1, 1)]), (nat_lit 63, [(0, 1), (1, 2)]), (nat_lit 71, [(0, 1), (1, 1)]), (nat_lit 117, [(0, 1), (1, 1)])], fun x hx => by simp only [List.mem_cons, List.not_mem_nil, or_false] at hx; rcases hx with rfl | rfl | rfl | rfl | rfl | rfl <;> kernel_rfl⟩
theorem ul3 : Tryz.prog.underlying (nat_lit 3) = some (.int .i64) := by kernel_rfl
theorem ul4 : Tryz.prog.underlying (nat_lit 4) = some (.bool) := by kernel_rfl
theorem ul5 : Tryz.prog.underlying (nat_lit 5) = some (.int .u8) := by kernel_rfl
theorem ul9 : Tryz.prog.underlying (nat_lit 9) = some (.string) := by kernel_rfl
theorem ul22 : Tryz.prog.underlying (nat_lit 22) = some (.slice (nat_lit 63)) := by kernel_rfl
theorem ul32 : Tryz.prog.underlying (nat_lit 32) = some (.slice (nat_lit 71)) := by kernel_rfl
theorem ul35 : Tryz.prog.underlying (nat_lit 35) = some (.slice (nat_lit 37)) := by kernel_rfl
theorem ul38 : Tryz.prog.underlying (nat_lit 38) = some (.slice (nat_lit 3)) := by kernel_rfl
theorem ul55 : Tryz.prog.underlying (nat_lit 55) = some (.array (nat_lit 2) (nat_lit 22)) := by kernel_rfl
theorem ul56 : Tryz.prog.underlying (nat_lit 56) = some (.slice (nat_lit 55)) := by kernel_rfl
theorem ul61 : Tryz.prog.underlying (nat_lit 61) = some (.slice (nat_lit 34)) := by kernel_rfl
theorem ul67 : Tryz.prog.underlying (nat_lit 67) = some (.slice (nat_lit 61)) := by kernel_rfl
theorem ul69 : Tryz.prog.underlying (nat_lit 69) = some (.slice (nat_lit 9)) := by kernel_rfl
theorem ul87 : Tryz.prog.underlying (nat_lit 87) = some (.array (nat_lit 2) (nat_lit 3)) := by kernel_rfl
theorem ul88 : Tryz.prog.underlying (nat_lit 88) = some (.slice (nat_lit 87)) := by kernel_rfl
theorem ul89 : Tryz.prog.underlying (nat_lit 89) = some (.slice (nat_lit 22)) := by kernel_rfl
theorem ul98 : Tryz.prog.underlying (nat_lit 98) = some (.int .u64) := by kernel_rfl
theorem ul111 : Tryz.prog.underlying (nat_lit 111) = some (.slice (nat_lit 46)) := by kernel_rfl
theorem ul114 : Tryz.prog.underlying (nat_lit 114) = some (.slice (nat_lit 117)) := by kernel_rfl
theorem ul133 : Tryz.prog.underlying (nat_lit 133) = some (.slice (nat_lit 67)) := by kernel_rfl
theorem ul176 : Tryz.prog.underlying (nat_lit 176) = some (.array (nat_lit 3) (nat_lit 3)) := by kernel_rfl
theorem ul177 : Tryz.prog.underlying (nat_lit 177) = some (.array (nat_lit 3) (nat_lit 176)) := by kernel_rfl
theorem ul178 : Tryz.prog.underlying (nat_lit 178) = some (.map (nat_lit 3) (nat_lit 3)) := by kernel_rfl
theorem sl22 : TSl Tryz.prog (nat_lit 22) (nat_lit 63) ⟨true, 3, 40, .agg #[.slice none 0 0, .int .i64 0, .int .i64 0]⟩ := ⟨ul22, ti63⟩
theorem sl32 : TSl Tryz.prog (nat_lit 32) (nat_lit 71) ⟨true, 2, 24, .agg #[strV [], .int .i64 0]⟩ := ⟨ul32, ti71⟩
theorem sl38 : TSl Tryz.prog (nat_lit 38) (nat_lit 3) ⟨false, 1, 8, .int .i64 0⟩ := ⟨ul38, ti3⟩
theorem sl56 : TSl Tryz.prog (nat_lit 56) (nat_lit 55) ⟨true, 2, 48, .agg #[.slice none 0 0, .slice none 0 0]⟩ := ⟨ul56, ti55⟩
theorem sl61 : TSl Tryz.prog (nat_lit 61) (nat_lit 34) ⟨true, 3, 32, .agg #[.int .i64 0, .int .i64 0, strV []]⟩ := ⟨ul61, ti34⟩
theorem sl67 : TSl Tryz.prog (nat_lit 67) (nat_lit 61) ⟨false, 1, 24, .slice none 0 0⟩ := ⟨ul67, ti61⟩
theorem sl69 : TSl Tryz.prog (nat_lit 69) (nat_lit 9) ⟨false, 1, 16, strV []⟩ := ⟨ul69, ti9⟩
theorem sl88 : TSl Tryz.prog (nat_lit 88) (nat_lit 87) ⟨true, 2, 16, .agg #[.int .i64 0, .int .i64 0]⟩ := ⟨ul88, ti87⟩
theorem sl89 : TSl Tryz.prog (nat_lit 89) (nat_lit 22) ⟨false, 1, 24, .slice none 0 0⟩ := ⟨ul89, ti22⟩
theorem sl111 : TSl Tryz.prog (nat_lit 111) (nat_lit 46) ⟨true, 2, 16, .agg #[.int .i64 0, .int .i64 0]⟩ := ⟨ul111, ti46⟩
theorem sl114 : TSl Tryz.prog (nat_lit 114) (nat_lit 117) ⟨true, 2, 48, .agg #[.slice none 0 0, .slice none 0 0]⟩ := ⟨ul114, ti117⟩
theorem sl133 : TSl Tryz.prog (nat_lit 133) (nat_lit 67) ⟨false, 1, 24, .slice none 0 0⟩ := ⟨ul133, ti67⟩
theorem hb11 : HasBody Tryz.prog (nat_lit 11) := hasBody_of Tryz.func11 (by decide) rfl
theorem hb12 : HasBody Tryz.prog (nat_lit 12) := hasBody_of Tryz.func12 (by decide) rfl
theorem hb13 : HasBody Tryz.prog (nat_lit 13) := hasBody_of Tryz.func13 (by decide) rfl
theorem hb14 : HasBody Tryz.prog (nat_lit 14) := hasBody_of Tryz.func14 (by decide) rfl
theorem hb15 : HasBody Tryz.prog (nat_lit 15) := hasBody_of Tryz.func15 (by decide) rfl
theorem hb16 : HasBody Tryz.prog (nat_lit 16) := hasBody_of Tryz.func16 (by decide) rfl
theorem hb17 : HasBody Tryz.prog (nat_lit 17) := hasBody_of Tryz.func17 (by decide) rfl
theorem hb18 : HasBody Tryz.prog (nat_lit 18) := hasBody_of Tryz.func18 (by decide) rfl
theorem hb19 : HasBody Tryz.prog (nat_lit 19) := hasBody_of Tryz.func19 (by decide) rfl
theorem hb20 : HasBody Tryz.prog (nat_lit 20) := hasBody_of Tryz.func20 (by decide) rfl
theorem hb21 : HasBody Tryz.prog (nat_lit 21) := hasBody_of Tryz.func21 (by decide) rfl
theorem hb22 : HasBody Tryz.prog (nat_lit 22) := hasBody_of Tryz.func22 (by decide) rfl
theorem hb23 : HasBody Tryz.prog (nat_lit 23) := hasBody_of Tryz.func23 (by decide) rfl
theorem hb24 : HasBody Tryz.prog (nat_lit 24) := hasBody_of Tryz.func24 (by decide) rfl
theorem hb25 : HasBody Tryz.prog (nat_lit 25) := hasBody_of Tryz.func25 (by decide) rfl
theorem hb26 : HasBody Tryz.prog (nat_lit 26) := hasBody_of Tryz.func26 (by decide) rfl
theorem hb27 : HasBody Tryz.prog (nat_lit 27) := hasBody_of Tryz.func27 (by decide) rfl
theorem hb28 : HasBody Tryz.prog (nat_lit 28) := hasBody_of Tryz.func28 (by decide) rfl
theorem hb29 : HasBody Tryz.prog (nat_lit 29) := hasBody_of Tryz.func29 (by decide) rfl
theorem hb30 : HasBody Tryz.prog (nat_lit 30) := hasBody_of Tryz.func30 (by decide) rfl
theorem hb31 : HasBody Tryz.prog (nat_lit 31) := hasBody_of Tryz.func31 (by decide) rfl
theorem hb32 : HasBody Tryz.prog (nat_lit 32) := hasBody_of Tryz.func32 (by decide) rfl
theorem hb33 : HasBody Tryz.prog (nat_lit 33) := hasBody_of Tryz.func33 (by decide) rfl
theorem hb34 : HasBody Tryz.prog (nat_lit 34) := hasBody_of Tryz.func34 (by decide) rfl
theorem hb35 : HasBody Tryz.prog (nat_lit 35) := hasBody_of Tryz.func35 (by decide) rfl
theorem hb36 : HasBody Tryz.prog (nat_lit 36) := hasBody_of Tryz.func36 (by decide) rfl
theorem hb37 : HasBody Tryz.prog (nat_lit 37) := hasBody_of Tryz.func37 (by decide) rfl
theorem hb38 : HasBody Tryz.prog (nat_lit 38) := hasBody_of Tryz.func38 (by decide) rfl
theorem hb39 : HasBody Tryz.prog (nat_lit 39) := hasBody_of Tryz.func39 (by decide) rfl
theorem hb40 : HasBody Tryz.prog (nat_lit 40) := hasBody_of Tryz.func40 (by decide) rfl
theorem hb41 : HasBody Tryz.prog (nat_lit 41) := hasBody_of Tryz.func41 (by decide) rfl
theorem hb42 : HasBody Tryz.prog (nat_lit 42) := hasBody_of Tryz.func42 (by decide) rfl
theorem hb43 : HasBody Tryz.prog (nat_lit 43) := hasBody_of Tryz.func43 (by decide) rfl
theorem hb44 : HasBody Tryz.prog (nat_lit 44) := hasBody_of Tryz.func44 (by decide) rfl
theorem hb45 : HasBody Tryz.prog (nat_lit 45) := hasBody_of Tryz.func45 (by decide) rfl
theorem hb46 : HasBody Tryz.prog (nat_lit 46) := hasBody_of Tryz.func46 (by decide) rfl
theorem hb47 : HasBody Tryz.prog (nat_lit 47) := hasBody_of Tryz.func47 (by decide) rfl
theorem hb48 : HasBody Tryz.prog (nat_lit 48) := hasBody_of Tryz.func48 (by decide) rfl
theorem hb49 : HasBody Tryz.prog (nat_lit 49) := hasBody_of Tryz.func49 (by decide) rfl
theorem hb50 : HasBody Tryz.prog (nat_lit 50) := hasBody_of Tryz.func50 (by decide) rfl
theorem hb51 : HasBody Tryz.prog (nat_lit 51) := hasBody_of Tryz.func51 (by decide) rfl
theorem hb52 : HasBody Tryz.prog (nat_lit 52) := hasBody_of Tryz.func52 (by decide) rfl
theorem hb53 : HasBody Tryz.prog (nat_lit 53) := hasBody_of Tryz.func53 (by decide) rfl
theorem hb54 : HasBody Tryz.prog (nat_lit 54) := hasBody_of Tryz.func54 (by decide) rfl
theorem hb55 : HasBody Tryz.prog (nat_lit 55) := hasBody_of Tryz.func55 (by decide) rfl
theorem hb56 : HasBody Tryz.prog (nat_lit 56) := hasBody_of Tryz.func56 (by decide) rfl
theorem hb57 : HasBody Tryz.prog (nat_lit 57) := hasBody_of Tryz.func57 (by decide) rfl
theorem hb58 : HasBody Tryz.prog (nat_lit 58) := hasBody_of Tryz.func58 (by decide) rfl
theorem hb59 : HasBody Tryz.prog (nat_lit 59) := hasBody_of Tryz.func59 (by decide) rfl
theorem hb60 : HasBody Tryz.prog (nat_lit 60) := hasBody_of Tryz.func60 (by decide) rfl
theorem hb61 : HasBody Tryz.prog (nat_lit 61) := hasBody_of Tryz.func61 (by decide) rfl
theorem hb62 : HasBody Tryz.prog (nat_lit 62) := hasBody_of Tryz.func62 (by decide) rfl
theorem hb63 : HasBody Tryz.prog (nat_lit 63) := hasBody_of Tryz.func63 (by decide) rfl
theorem hb64 : HasBody Tryz.prog (nat_lit 64) := hasBody_of Tryz.func64 (by decide) rfl
theorem hb65 : HasBody Tryz.prog (nat_lit 65) := hasBody_of Tryz.func65 (by decide) rfl
theorem hb66 : HasBody Tryz.prog (nat_lit 66) := hasBody_of Tryz.func66 (by decide) rfl
theorem hb67 : HasBody Tryz.prog (nat_lit 67) := hasBody_of Tryz.func67 (by decide) rfl
theorem hb68 : HasBody Tryz.prog (nat_lit 68) := hasBody_of Tryz.func68 (by decide) rfl
theorem hb69 : HasBody Tryz.prog (nat_lit 69) := hasBody_of Tryz.func69 (by decide) rfl
theorem hb70 : HasBody Tryz.prog (nat_lit 70) := hasBody_of Tryz.func70 (by decide) rfl
theorem hb71 : HasBody Tryz.prog (nat_lit 71) := hasBody_of Tryz.func71 (by decide) rfl
theorem hb72 : HasBody Tryz.prog (nat_lit 72) := hasBody_of Tryz.func72 (by decide) rfl
theorem hb73 : HasBody Tryz.prog (nat_lit 73) := hasBody_of Tryz.func73 (by decide) rfl
theorem hb74 : HasBody Tryz.prog (nat_lit 74) := hasBody_of Tryz.func74 (by decide) rfl
theorem hb75 : HasBody Tryz.prog (nat_lit 75) := hasBody_of Tryz.func75 (by decide) rfl
theorem hb76 : HasBody Tryz.prog (nat_lit 76) := hasBody_of Tryz.func76 (by decide) rfl
theorem hb77 : HasBody Tryz.prog (nat_lit 77) := hasBody_of Tryz.func77 (by decide) rfl
theorem hb78 : HasBody Tryz.prog (nat_lit 78) := hasBody_of Tryz.func78 (by decide) rfl
theorem hb79 : HasBody Tryz.prog (nat_lit 79) := hasBody_of Tryz.func79 (by decide) rfl
theorem hb80 : HasBody Tryz.prog (nat_lit 80) := hasBody_of Tryz.func80 (by decide) rfl
theorem hb81 : HasBody Tryz.prog (nat_lit 81) := hasBody_of Tryz.func81 (by decide) rfl
theorem hb82 : HasBody Tryz.prog (nat_lit 82) := hasBody_of Tryz.func82 (by decide) rfl
theorem hb83 : HasBody Tryz.prog (nat_lit 83) := hasBody_of Tryz.func83 (by decide) rfl
theorem hb84 : HasBody Tryz.prog (nat_lit 84) := hasBody_of Tryz.func84 (by decide) rfl
theorem hb85 : HasBody Tryz.prog (nat_lit 85) := hasBody_of Tryz.func85 (by decide) rfl
theorem hb86 : HasBody Tryz.prog (nat_lit 86) := hasBody_of Tryz.func86 (by decide) rfl
theorem hb87 : HasBody Tryz.prog (nat_lit 87) := hasBody_of Tryz.func87 (by decide) rfl
theorem hb88 : HasBody Tryz.prog (nat_lit 88) := hasBody_of Tryz.func88 (by decide) rfl
theorem hb89 : HasBody Tryz.prog (nat_lit 89) := hasBody_of Tryz.func89 (by decide) rfl
theorem hb90 : HasBody Tryz.prog (nat_lit 90) := hasBody_of Tryz.func90 (by decide) rfl
theorem hb91 : HasBody Tryz.prog (nat_lit 91) := hasBody_of Tryz.func91 (by decide) rfl
theorem hb92 : HasBody Tryz.prog (nat_lit 92) := hasBody_of Tryz.func92 (by decide) rfl
theorem hb93 : HasBody Tryz.prog (nat_lit 93) := hasBody_of Tryz.func93 (by decide) rfl
theorem hb94 : HasBody Tryz.prog (nat_lit 94) := hasBody_of Tryz.func94 (by decide) rfl
theorem hb95 : HasBody Tryz.prog (nat_lit 95) := hasBody_of Tryz.func95 (by decide) rfl
theorem hb96 : HasBody Tryz.prog (nat_lit 96) := hasBody_of Tryz.func96 (by decide) rfl
theorem hb97 : HasBody Tryz.prog (nat_lit 97) := hasBody_of Tryz.func97 (by decide) rfl
theorem hb98 : HasBody Tryz.prog (nat_lit 98) := hasBody_of Tryz.func98 (by decide) rfl
theorem hb99 : HasBody Tryz.prog (nat_lit 99) := hasBody_of Tryz.func99 (by decide) rfl
theorem hb100 : HasBody Tryz.prog (nat_lit 100) := hasBody_of Tryz.func100 (by decide) rfl
theorem hb101 : HasBody Tryz.prog (nat_lit 101) := hasBody_of Tryz.func101 (by decide) rfl
theorem hb102 : HasBody Tryz.prog (nat_lit 102) := hasBody_of Tryz.func102 (by decide) rfl
theorem hb103 : HasBody Tryz.prog (nat_lit 103) := hasBody_of Tryz.func103 (by decide) rfl
theorem hb104 : HasBody Tryz.prog (nat_lit 104) := hasBody_of Tryz.func104 (by decide) rfl
theorem hb105 : HasBody Tryz.prog (nat_lit 105) := hasBody_of Tryz.func105 (by decide) rfl
theorem hb106 : HasBody Tryz.prog (nat_lit 106) := hasBody_of Tryz.func106 (by decide) rfl
theorem hb107 : HasBody Tryz.prog (nat_lit 107) := hasBody_of Tryz.func107 (by decide) rfl
theorem hb108 : HasBody Tryz.prog (nat_lit 108) := hasBody_of Tryz.func108 (by decide) rfl
theorem hb109 : HasBody Tryz.prog (nat_lit 109) := hasBody_of Tryz.func109 (by decide) rfl
theorem hb110 : HasBody Tryz.prog (nat_lit 110) := hasBody_of Tryz.func110 (by decide) rfl
theorem hb111 : HasBody Tryz.prog (nat_lit 111) := hasBody_of Tryz.func111 (by decide) rfl
theorem hb112 : HasBody Tryz.prog (nat_lit 112) := hasBody_of Tryz.func112 (by decide) rfl
theorem hb113 : HasBody Tryz.prog (nat_lit 113) := hasBody_of Tryz.func113 (by decide) rfl
theorem hb114 : HasBody Tryz.prog (nat_lit 114) := hasBody_of Tryz.func114 (by decide) rfl
theorem hb115 : HasBody Tryz.prog (nat_lit 115) := hasBody_of Tryz.func115 (by decide) rfl
theorem hb116 : HasBody Tryz.prog (nat_lit 116) := hasBody_of Tryz.func116 (by decide) rfl
theorem hb117 : HasBody Tryz.prog (nat_lit 117) := hasBody_of Tryz.func117 (by decide) rfl
theorem hb118 : HasBody Tryz.prog (nat_lit 118) := hasBody_of Tryz.func118 (by decide) rfl
theorem hb119 : HasBody Tryz.prog (nat_lit 119) := hasBody_of Tryz.func119 (by decide) rfl
theorem hb120 : HasBody Tryz.prog (nat_lit 120) := hasBody_of Tryz.func120 (by decide) rfl
theorem hb121 : HasBody Tryz.prog (nat_lit 121) := hasBody_of Tryz.func121 (by decide) rfl
theorem hb122 : HasBody Tryz.prog (nat_lit 122) := hasBody_of Tryz.func122 (by decide) rfl
theorem hb123 : HasBody Tryz.prog (nat_lit 123) := hasBody_of Tryz.func123 (by decide) rfl
theorem hb124 : HasBody Tryz.prog (nat_lit 124) := hasBody_of Tryz.func124 (by decide) rfl
theorem hb125 : HasBody Tryz.prog (nat_lit 125) := hasBody_of Tryz.func125 (by decide) rfl
theorem hb126 : HasBody Tryz.prog (nat_lit 126) := hasBody_of Tryz.func126 (by decide) rfl
theorem hb127 : HasBody Tryz.prog (nat_lit 127) := hasBody_of Tryz.func127 (by decide) rfl
theorem hb128 : HasBody Tryz.prog (nat_lit 128) := hasBody_of Tryz.func128 (by decide) rfl
theorem hb129 : HasBody Tryz.prog (nat_lit 129) := hasBody_of Tryz.func129 (by decide) rfl
theorem hb130 : HasBody Tryz.prog (nat_lit 130) := hasBody_of Tryz.func130 (by decide) rfl
theorem hb131 : HasBody Tryz.prog (nat_lit 131) := hasBody_of Tryz.func131 (by decide) rfl
theorem hb132 : HasBody Tryz.prog (nat_lit 132) := hasBody_of Tryz.func132 (by decide) rfl
theorem hb133 : HasBody Tryz.prog (nat_lit 133) := hasBody_of Tryz.func133 (by decide) rfl
theorem hb134 : HasBody Tryz.prog (nat_lit 134) := hasBody_of Tryz.func134 (by decide) rfl
theorem hb135 : HasBody Tryz.prog (nat_lit 135) := hasBody_of Tryz.func135 (by decide) rfl
theorem hb136 : HasBody Tryz.prog (nat_lit 136) := hasBody_of Tryz.func136 (by decide) rfl
theorem hb137 : HasBody Tryz.prog (nat_lit 137) := hasBody_of Tryz.func137 (by decide) rfl
theorem hb138 : HasBody Tryz.prog (nat_lit 138) := hasBody_of Tryz.func138 (by decide) rfl
theorem hb139 : HasBody Tryz.prog (nat_lit 139) := hasBody_of Tryz.func139 (by decide) rfl
theorem hb140 : HasBody Tryz.prog (nat_lit 140) := hasBody_of Tryz.func140 (by decide) rfl
theorem hb141 : HasBody Tryz.prog (nat_lit 141) := hasBody_of Tryz.func141 (by decide) rfl
theorem hb142 : HasBody Tryz.prog (nat_lit 142) := hasBody_of Tryz.func142 (by decide) rfl
theorem hb143 : HasBody Tryz.prog (nat_lit 143) := hasBody_of Tryz.func143 (by decide) rfl
theorem hb144 : HasBody Tryz.prog (nat_lit 144) := hasBody_of Tryz.func144 (by decide) rfl
theorem hb145 : HasBody Tryz.prog (nat_lit 145) := hasBody_of Tryz.func145 (by decide) rfl
theorem hb146 : HasBody Tryz.prog (nat_lit 146) := hasBody_of Tryz.func146 (by decide) rfl
theorem hb147 : HasBody Tryz.prog (nat_lit 147) := hasBody_of Tryz.func147 (by decide) rfl
theorem hb148 : HasBody Tryz.prog (nat_lit 148) := hasBody_of Tryz.func148 (by decide) rfl
theorem hb149 : HasBody Tryz.prog (nat_lit 149) := hasBody_of Tryz.func149 (by decide) rfl
theorem hb150 : HasBody Tryz.prog (nat_lit 150) := hasBody_of Tryz.func150 (by decide) rfl
theorem hb153 : HasBody Tryz.prog (nat_lit 153) := hasBody_of Tryz.func153 (by decide) rfl
theorem hb154 : HasBody Tryz.prog (nat_lit 154) := hasBody_of Tryz.func154 (by decide) rfl
theorem hb155 : HasBody Tryz.prog (nat_lit 155) := hasBody_of Tryz.func155 (by decide) rfl
theorem hb156 : HasBody Tryz.prog (nat_lit 156) := hasBody_of Tryz.func156 (by decide) rfl
theorem hb157 : HasBody Tryz.prog (nat_lit 157) := hasBody_of Tryz.func157 (by decide) rfl
theorem hb158 : HasBody Tryz.prog (nat_lit 158) := hasBody_of Tryz.func158 (by decide) rfl
theorem hb159 : HasBody Tryz.prog (nat_lit 159) := hasBody_of Tryz.func159 (by decide) rfl
theorem hb161 : HasBody Tryz.prog (nat_lit 161) := hasBody_of Tryz.func161 (by decide) rfl
theorem hb162 : HasBody Tryz.prog (nat_lit 162) := hasBody_of Tryz.func162 (by decide) rfl
theorem hb163 : HasBody Tryz.prog (nat_lit 163) := hasBody_of Tryz.func163 (by decide) rfl
theorem hb164 : HasBody Tryz.prog (nat_lit 164) := hasBody_of Tryz.func164 (by decide) rfl
theorem hb165 : HasBody Tryz.prog (nat_lit 165) := hasBody_of Tryz.func165 (by decide) rfl
theorem hb166 : HasBody Tryz.prog (nat_lit 166) := hasBody_of Tryz.func166 (by decide) rfl
theorem hb167 : HasBody Tryz.prog (nat_lit 167) := hasBody_of Tryz.func167 (by decide) rfl
theorem hb168 : HasBody Tryz.prog (nat_lit 168) := hasBody_of Tryz.func168 (by decide) rfl
theorem hb169 : HasBody Tryz.prog (nat_lit 169) := hasBody_of Tryz.func169 (by decide) rfl
theorem hb170 : HasBody Tryz.prog (nat_lit 170) := hasBody_of Tryz.func170 (by decide) rfl
theorem hb172 : HasBody Tryz.prog (nat_lit 172) := hasBody_of Tryz.func172 (by decide) rfl
theorem hb173 : HasBody Tryz.prog (nat_lit 173) := hasBody_of Tryz.func173 (by decide) rfl
theorem hb174 : HasBody Tryz.prog (nat_lit 174) := hasBody_of Tryz.func174 (by decide) rfl
theorem hb175 : HasBody Tryz.prog (nat_lit 175) := hasBody_of Tryz.func175 (by decide) rfl
theorem hb176 : HasBody Tryz.prog (nat_lit 176) := hasBody_of Tryz.func176 (by decide) rfl
theorem hb177 : HasBody Tryz.prog (nat_lit 177) := hasBody_of Tryz.func177 (by decide) rfl
theorem hb189 : HasBody Tryz.prog (nat_lit 189) := hasBody_of Tryz.func189 (by decide) rfl
theorem hb190 : HasBody Tryz.prog (nat_lit 190) := hasBody_of Tryz.func190 (by decide) rfl
theorem hb191 : HasBody Tryz.prog (nat_lit 191) := hasBody_of Tryz.func191 (by decide) rfl
theorem hb192 : HasBody Tryz.prog (nat_lit 192) := hasBody_of Tryz.func192 (by decide) rfl
theorem hb200 : HasBody Tryz.prog (nat_lit 200) := hasBody_of Tryz.func200 (by decide) rfl
theorem hb201 : HasBody Tryz.prog (nat_lit 201) := hasBody_of Tryz.func201 (by decide) rfl
theorem hb211 : HasBody Tryz.prog (nat_lit 211) := hasBody_of Tryz.func211 (by decide) rfl
theorem eqg46 : Tryz.prog.eqGuardType Tryz.prog.depth (nat_lit 46) = false := by kernel_rfl
set_option maxHeartbeats 1000000 in
theorem SpanEq46 (x y : Span) (w : World) : (Op.equalIn 10000 (nat_lit 46) (.agg #[.int .i64 x.a, .int .i64 x.b]) (.agg #[.int .i64 y.a, .int .i64 y.b])).run Tryz.prog w = .ok (decide (x = y)) w := by
  have u3 := Tryz.underlying3
  have a3 := Tryz.isAgg3
  have z3 := Tryz.sizeOf3
  rw [show (10000 : Nat) = 9999 + 1 from rfl, run_equalIn_agg w 9999 (nat_lit 46) _ _ (by kernel_rfl) (by kernel_rfl)]
  simp only [Program.fieldsOf, Tryz.underlying46, strV]
  go_simp
  skip
  obtain ⟨x1, x2⟩ := x
  obtain ⟨y1, y2⟩ := y
  by_cases h1 : x1 = y1 <;> by_cases h2 : x2 = y2 <;> simp [h1, h2]
theorem eqg34 : Tryz.prog.eqGuardType Tryz.prog.depth (nat_lit 34) = false := by kernel_rfl
set_option maxHeartbeats 1000000 in
theorem ValEq34 (x y : Val) (w : World) : (Op.equalIn 10000 (nat_lit 34) (.agg #[.int .i64 x.k, .int .i64 x.n, strV x.s]) (.agg #[.int .i64 y.k, .int .i64 y.n, strV y.s])).run Tryz.prog w = .ok (decide (x = y)) w := by
  have u3 := Tryz.underlying3
  have a3 := Tryz.isAgg3
  have z3 := Tryz.sizeOf3
  have u9 := Tryz.underlying9
  have a9 := Tryz.isAgg9
  have z9 := Tryz.sizeOf9
  rw [show (10000 : Nat) = 9999 + 1 from rfl, run_equalIn_agg w 9999 (nat_lit 34) _ _ (by kernel_rfl) (by kernel_rfl)]
  simp only [Program.fieldsOf, Tryz.underlying34, strV]
  go_simp
  skip
  obtain ⟨x1, x2, x3⟩ := x
  obtain ⟨y1, y2, y3⟩ := y
  by_cases h1 : x1 = y1 <;> by_cases h2 : x2 = y2 <;> by_cases h3 : x3 = y3 <;> simp [h1, h2, h3]
theorem mixed : Tryz.prog.follows .mixedOrders = true := by kernel_rfl
theorem dr {N id : Nat} {Q : Exit → Env → World → Prop} {ρ : Env} {w w0 : World} {ops : List Oper} {X : List Nat} {G0 G : GH} {L : Own} (T : List (Nat × Bool)) (hv : List (Nat × Value)) (hS : (St w0 X G0 G L) w) (ho : oblL Tryz.prog ops (St w0 X G0 G L) (T.map (·.1)) hv (fillV ft ops (T.map (·.1)) hv 0 ops ρ) 0 ops)
    (hT : ∀ w, (St w0 X G0 G L) w → goT ft ops (St w0 X G0 G L) Q T (fillV ft ops (T.map (·.1)) hv 0 ops ρ) w) (hN : ops.all (dstB N) = true := by kernel_rfl) (hp : planB ops (planOf ops (T.map (·.1))) = true := by kernel_rfl)
    (hn : T.map (fun x => needC (planOf ops (T.map (·.1))) x.1) = T.map (·.2) := by kernel_rfl) (ha : autoL ft ops (T.map (·.1)) hv (fillV ft ops (T.map (·.1)) hv 0 ops ρ) 0 ops = wantL (T.map (·.1)) hv (fillV ft ops (T.map (·.1)) hv 0 ops ρ) 0 ops := by exact rfl) : DR Tryz.prog N id ops.toArray Q ρ w :=
  DR.go _ T hv mixed hN hp hn ha (hS.draw _) ho hT
theorem drT {N id : Nat} {Q : Exit → Env → World → Prop} {ρ : Env} {w w0 : World} {ops : List Oper} {X : List Nat} {G0 G : GH} {L : Own} (T : List Nat) (hv : List (Nat × Value)) (hS : (St w0 X G0 G L) w) (ho : oblL Tryz.prog ops (St w0 X G0 G L) T hv (fillV ft ops T hv 0 ops ρ) 0 ops)
    (hT : ∀ w, (St w0 X G0 G L) w → TG Tryz.prog ops.toArray (planOf ops T) (St w0 X G0 G L) Q T.length T (fillV ft ops T hv 0 ops ρ) w) (hN : ops.all (dstB N) = true := by kernel_rfl) (hp : planT ops (planOf ops T) = true := by kernel_rfl)
    (ha : autoL ft ops T hv (fillV ft ops T hv 0 ops ρ) 0 ops = wantL T hv (fillV ft ops T hv 0 ops ρ) 0 ops := by exact rfl) : DR Tryz.prog N id ops.toArray Q ρ w :=
  DR.goG _ T hv mixed hN hp ha (hS.draw _) ho hT



end Go.Civ
