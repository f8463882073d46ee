/- Lemmas: Wt. -/
import Derived.Test.YtjjkgobhlfmhhaaGreatR07
import Derived.Test.YtjjkgobhlfmhhaaGreatR15
import Derived.Test.YtjjkgobhlfmhhaaGreatProg
import Derived.KernelRfl
import Derived.WalkKit
set_option linter.unusedVariables false
set_option linter.unusedSimpArgs false
set_option maxRecDepth 100000
set_option maxHeartbeats 4000000
namespace Go.Civ
open Go.Proofs
theorem ti3 : tinfo Tryz.prog (nat_lit 3) = some ⟨false,1,8, .int .i64 0⟩:=by kernel_rfl
theorem ti5 : tinfo Tryz.prog (nat_lit 5) = some ⟨false,1,1, .int .u8 0⟩:=by kernel_rfl
theorem ti9 : tinfo Tryz.prog (nat_lit 9) = some ⟨false,1,16,strV []⟩:=by kernel_rfl
theorem ti22 : tinfo Tryz.prog (nat_lit 22) = some ⟨false,1,24, .slice none 0 0⟩:=by kernel_rfl
theorem ti23 : tinfo Tryz.prog (nat_lit 23) = some ⟨false,1,24, .slice none 0 0⟩:=by kernel_rfl
theorem ti25 : tinfo Tryz.prog (nat_lit 25) = some ⟨true,4,72, .agg #[strV [], .slice none 0 0, .int .i64 0, .slice none 0 0]⟩:=by kernel_rfl
theorem ti26 : tinfo Tryz.prog (nat_lit 26) = some ⟨false,1,24, .slice none 0 0⟩:=by kernel_rfl
theorem ti28 : tinfo Tryz.prog (nat_lit 28) = some ⟨true,6,104, .agg #[strV [], .slice none 0 0, .int .i64 0, .slice none 0 0, .slice none 0 0, .int .i64 0]⟩:=by kernel_rfl
theorem ti32 : tinfo Tryz.prog (nat_lit 32) = some ⟨false,1,8, .int .i64 0⟩:=by kernel_rfl
theorem ti36 : tinfo Tryz.prog (nat_lit 36) = some ⟨false,1,24, .slice none 0 0⟩:=by kernel_rfl
theorem ti38 : tinfo Tryz.prog (nat_lit 38) = some ⟨true,2,16, .agg #[.int .i64 0, .int .i64 0]⟩:=by kernel_rfl
theorem ti48 : tinfo Tryz.prog (nat_lit 48) = some ⟨true,3,32, .agg #[.int .i64 0, .int .i64 0,strV []]⟩:=by kernel_rfl
theorem ti49 : tinfo Tryz.prog (nat_lit 49) = some ⟨false,1,24, .slice none 0 0⟩:=by kernel_rfl
theorem ti51 : tinfo Tryz.prog (nat_lit 51) = some ⟨true,7,96, .agg #[.int .i64 0,strV [],strV [], .int .i64 0, .int .i64 0,strV [], .slice none 0 0]⟩:=by kernel_rfl
theorem ti62 : tinfo Tryz.prog (nat_lit 62) = some ⟨true,4,32, .agg #[.int .i64 0, .int .i64 0, .int .i64 0, .int .i64 0]⟩:=by kernel_rfl
theorem ti64 : tinfo Tryz.prog (nat_lit 64) = some ⟨true,5,56, .agg #[.slice none 0 0, .int .i64 0, .int .i64 0, .int .i64 0, .int .i64 0]⟩:=by kernel_rfl
theorem ti86 : tinfo Tryz.prog (nat_lit 86) = some ⟨true,2,24, .agg #[strV [], .int .i64 0]⟩:=by kernel_rfl
theorem ti89 : tinfo Tryz.prog (nat_lit 89) = some ⟨false,1,24, .slice none 0 0⟩:=by kernel_rfl
theorem ti108 : tinfo Tryz.prog (nat_lit 108) = some ⟨true,2,40, .agg #[.slice none 0 0,strV []]⟩:=by kernel_rfl
theorem ti128 : tinfo Tryz.prog (nat_lit 128) = some ⟨true,2,48, .agg #[.slice none 0 0, .slice none 0 0]⟩:=by kernel_rfl
theorem ti129 : tinfo Tryz.prog (nat_lit 129) = some ⟨false,1,24, .slice none 0 0⟩:=by kernel_rfl
theorem fl25 : fieldsOf Tryz.prog (nat_lit 25) = some [(0,1),(1,1),(2,1),(3,1)]:=by kernel_rfl
theorem fl28 : fieldsOf Tryz.prog (nat_lit 28) = some [(0,4),(4,1),(5,1)]:=by kernel_rfl
theorem fl38 : fieldsOf Tryz.prog (nat_lit 38) = some [(0,1),(1,1)]:=by kernel_rfl
theorem fl48 : fieldsOf Tryz.prog (nat_lit 48) = some [(0,1),(1,1),(2,1)]:=by kernel_rfl
theorem fl51 : fieldsOf Tryz.prog (nat_lit 51) = some [(0,1),(1,1),(2,1),(3,3),(6,1)]:=by kernel_rfl
theorem fl62 : fieldsOf Tryz.prog (nat_lit 62) = some [(0,2),(2,2)]:=by kernel_rfl
theorem fl64 : fieldsOf Tryz.prog (nat_lit 64) = some [(0,1),(1,4)]:=by kernel_rfl
theorem fl86 : fieldsOf Tryz.prog (nat_lit 86) = some [(0,1),(1,1)]:=by kernel_rfl
theorem fl128 : fieldsOf Tryz.prog (nat_lit 128) = some [(0,1),(1,1)]:=by kernel_rfl
def ft : FTab Tryz.prog:=⟨[(nat_lit 25,[(0,1),(1,1),(2,1),(3,1)]),(nat_lit 28,[(0,4),(4,1),(5,1)]),(nat_lit 38,[(0,1),(1,1)]),(nat_lit 48,[(0,1),(1,1),(2,1)]),(nat_lit 51,[(0,1),(1,1),(2,1),(3,3),(6,1)]),(nat_lit 60,[(0,1),(1,2)]),(nat_lit 62,[(0,2),(2,2)]),(nat_lit 64,[(0,1),(1,4)]),(nat_lit 86,[(0,1),(1,1)]),(nat_lit 108,[(0,1),(1,1)]),(nat_lit 128,[(0,1),(1,1)])],fun x hx=>by simp only [List.mem_cons,List.not_mem_nil,or_false] at hx; rcases hx with rfl | rfl | rfl | rfl | rfl | rfl | rfl | rfl | rfl | rfl | rfl <;> kernel_rfl⟩
theorem ul3 : Tryz.prog.underlying (nat_lit 3) = some (.int .i64):=by kernel_rfl
theorem ul4 : Tryz.prog.underlying (nat_lit 4) = some (.bool):=by kernel_rfl
theorem ul5 : Tryz.prog.underlying (nat_lit 5) = some (.int .u8):=by kernel_rfl
theorem ul9 : Tryz.prog.underlying (nat_lit 9) = some (.string):=by kernel_rfl
theorem ul22 : Tryz.prog.underlying (nat_lit 22) = some (.slice (nat_lit 86)):=by kernel_rfl
theorem ul23 : Tryz.prog.underlying (nat_lit 23) = some (.slice (nat_lit 108)):=by kernel_rfl
theorem ul26 : Tryz.prog.underlying (nat_lit 26) = some (.slice (nat_lit 64)):=by kernel_rfl
theorem ul36 : Tryz.prog.underlying (nat_lit 36) = some (.slice (nat_lit 48)):=by kernel_rfl
theorem ul49 : Tryz.prog.underlying (nat_lit 49) = some (.slice (nat_lit 51)):=by kernel_rfl
theorem ul56 : Tryz.prog.underlying (nat_lit 56) = some (.slice (nat_lit 36)):=by kernel_rfl
theorem ul89 : Tryz.prog.underlying (nat_lit 89) = some (.slice (nat_lit 9)):=by kernel_rfl
theorem ul125 : Tryz.prog.underlying (nat_lit 125) = some (.slice (nat_lit 128)):=by kernel_rfl
theorem ul129 : Tryz.prog.underlying (nat_lit 129) = some (.slice (nat_lit 38)):=by kernel_rfl
theorem ul135 : Tryz.prog.underlying (nat_lit 135) = some (.slice (nat_lit 3)):=by kernel_rfl
theorem ul149 : Tryz.prog.underlying (nat_lit 149) = some (.int .u64):=by kernel_rfl
theorem ul157 : Tryz.prog.underlying (nat_lit 157) = some (.slice (nat_lit 32)):=by kernel_rfl
theorem ul161 : Tryz.prog.underlying (nat_lit 161) = some (.map (nat_lit 3) (nat_lit 3)):=by kernel_rfl
theorem ul165 : Tryz.prog.underlying (nat_lit 165) = some (.map (nat_lit 9) (nat_lit 3)):=by kernel_rfl
theorem ul189 : Tryz.prog.underlying (nat_lit 189) = some (.int .u64):=by kernel_rfl
theorem ul199 : Tryz.prog.underlying (nat_lit 199) = some (.slice (nat_lit 5)):=by kernel_rfl
theorem sl22 : TSl Tryz.prog (nat_lit 22) (nat_lit 86) ⟨true,2,24, .agg #[strV [], .int .i64 0]⟩:=⟨ul22,ti86⟩
theorem sl26 : TSl Tryz.prog (nat_lit 26) (nat_lit 64) ⟨true,5,56, .agg #[.slice none 0 0, .int .i64 0, .int .i64 0, .int .i64 0, .int .i64 0]⟩:=⟨ul26,ti64⟩
theorem sl36 : TSl Tryz.prog (nat_lit 36) (nat_lit 48) ⟨true,3,32, .agg #[.int .i64 0, .int .i64 0,strV []]⟩:=⟨ul36,ti48⟩
theorem sl49 : TSl Tryz.prog (nat_lit 49) (nat_lit 51) ⟨true,7,96, .agg #[.int .i64 0,strV [],strV [], .int .i64 0, .int .i64 0,strV [], .slice none 0 0]⟩:=⟨ul49,ti51⟩
theorem sl56 : TSl Tryz.prog (nat_lit 56) (nat_lit 36) ⟨false,1,24, .slice none 0 0⟩:=⟨ul56,ti36⟩
theorem sl89 : TSl Tryz.prog (nat_lit 89) (nat_lit 9) ⟨false,1,16,strV []⟩:=⟨ul89,ti9⟩
theorem sl125 : TSl Tryz.prog (nat_lit 125) (nat_lit 128) ⟨true,2,48, .agg #[.slice none 0 0, .slice none 0 0]⟩:=⟨ul125,ti128⟩
theorem sl129 : TSl Tryz.prog (nat_lit 129) (nat_lit 38) ⟨true,2,16, .agg #[.int .i64 0, .int .i64 0]⟩:=⟨ul129,ti38⟩
theorem sl135 : TSl Tryz.prog (nat_lit 135) (nat_lit 3) ⟨false,1,8, .int .i64 0⟩:=⟨ul135,ti3⟩
theorem sl157 : TSl Tryz.prog (nat_lit 157) (nat_lit 32) ⟨false,1,8, .int .i64 0⟩:=⟨ul157,ti32⟩
theorem sl199 : TSl Tryz.prog (nat_lit 199) (nat_lit 5) ⟨false,1,1, .int .u8 0⟩:=⟨ul199,ti5⟩
theorem hb13 : HasBody Tryz.prog (nat_lit 13):=hasBody_of Tryz.func13 (by decide) rfl
theorem hb14 : HasBody Tryz.prog (nat_lit 14):=hasBody_of Tryz.func14 (by decide) rfl
theorem hb15 : HasBody Tryz.prog (nat_lit 15):=hasBody_of Tryz.func15 (by decide) rfl
theorem hb16 : HasBody Tryz.prog (nat_lit 16):=hasBody_of Tryz.func16 (by decide) rfl
theorem hb17 : HasBody Tryz.prog (nat_lit 17):=hasBody_of Tryz.func17 (by decide) rfl
theorem hb18 : HasBody Tryz.prog (nat_lit 18):=hasBody_of Tryz.func18 (by decide) rfl
theorem hb19 : HasBody Tryz.prog (nat_lit 19):=hasBody_of Tryz.func19 (by decide) rfl
theorem hb20 : HasBody Tryz.prog (nat_lit 20):=hasBody_of Tryz.func20 (by decide) rfl
theorem hb21 : HasBody Tryz.prog (nat_lit 21):=hasBody_of Tryz.func21 (by decide) rfl
theorem hb22 : HasBody Tryz.prog (nat_lit 22):=hasBody_of Tryz.func22 (by decide) rfl
theorem hb23 : HasBody Tryz.prog (nat_lit 23):=hasBody_of Tryz.func23 (by decide) rfl
theorem hb24 : HasBody Tryz.prog (nat_lit 24):=hasBody_of Tryz.func24 (by decide) rfl
theorem hb25 : HasBody Tryz.prog (nat_lit 25):=hasBody_of Tryz.func25 (by decide) rfl
theorem hb26 : HasBody Tryz.prog (nat_lit 26):=hasBody_of Tryz.func26 (by decide) rfl
theorem hb27 : HasBody Tryz.prog (nat_lit 27):=hasBody_of Tryz.func27 (by decide) rfl
theorem hb28 : HasBody Tryz.prog (nat_lit 28):=hasBody_of Tryz.func28 (by decide) rfl
theorem hb29 : HasBody Tryz.prog (nat_lit 29):=hasBody_of Tryz.func29 (by decide) rfl
theorem hb30 : HasBody Tryz.prog (nat_lit 30):=hasBody_of Tryz.func30 (by decide) rfl
theorem hb31 : HasBody Tryz.prog (nat_lit 31):=hasBody_of Tryz.func31 (by decide) rfl
theorem hb32 : HasBody Tryz.prog (nat_lit 32):=hasBody_of Tryz.func32 (by decide) rfl
theorem hb33 : HasBody Tryz.prog (nat_lit 33):=hasBody_of Tryz.func33 (by decide) rfl
theorem hb34 : HasBody Tryz.prog (nat_lit 34):=hasBody_of Tryz.func34 (by decide) rfl
theorem hb35 : HasBody Tryz.prog (nat_lit 35):=hasBody_of Tryz.func35 (by decide) rfl
theorem hb36 : HasBody Tryz.prog (nat_lit 36):=hasBody_of Tryz.func36 (by decide) rfl
theorem hb37 : HasBody Tryz.prog (nat_lit 37):=hasBody_of Tryz.func37 (by decide) rfl
theorem hb38 : HasBody Tryz.prog (nat_lit 38):=hasBody_of Tryz.func38 (by decide) rfl
theorem hb39 : HasBody Tryz.prog (nat_lit 39):=hasBody_of Tryz.func39 (by decide) rfl
theorem hb40 : HasBody Tryz.prog (nat_lit 40):=hasBody_of Tryz.func40 (by decide) rfl
theorem hb41 : HasBody Tryz.prog (nat_lit 41):=hasBody_of Tryz.func41 (by decide) rfl
theorem hb42 : HasBody Tryz.prog (nat_lit 42):=hasBody_of Tryz.func42 (by decide) rfl
theorem hb43 : HasBody Tryz.prog (nat_lit 43):=hasBody_of Tryz.func43 (by decide) rfl
theorem hb44 : HasBody Tryz.prog (nat_lit 44):=hasBody_of Tryz.func44 (by decide) rfl
theorem hb45 : HasBody Tryz.prog (nat_lit 45):=hasBody_of Tryz.func45 (by decide) rfl
theorem hb46 : HasBody Tryz.prog (nat_lit 46):=hasBody_of Tryz.func46 (by decide) rfl
theorem hb47 : HasBody Tryz.prog (nat_lit 47):=hasBody_of Tryz.func47 (by decide) rfl
theorem hb48 : HasBody Tryz.prog (nat_lit 48):=hasBody_of Tryz.func48 (by decide) rfl
theorem hb49 : HasBody Tryz.prog (nat_lit 49):=hasBody_of Tryz.func49 (by decide) rfl
theorem hb50 : HasBody Tryz.prog (nat_lit 50):=hasBody_of Tryz.func50 (by decide) rfl
theorem hb51 : HasBody Tryz.prog (nat_lit 51):=hasBody_of Tryz.func51 (by decide) rfl
theorem hb52 : HasBody Tryz.prog (nat_lit 52):=hasBody_of Tryz.func52 (by decide) rfl
theorem hb53 : HasBody Tryz.prog (nat_lit 53):=hasBody_of Tryz.func53 (by decide) rfl
theorem hb54 : HasBody Tryz.prog (nat_lit 54):=hasBody_of Tryz.func54 (by decide) rfl
theorem hb57 : HasBody Tryz.prog (nat_lit 57):=hasBody_of Tryz.func57 (by decide) rfl
theorem hb58 : HasBody Tryz.prog (nat_lit 58):=hasBody_of Tryz.func58 (by decide) rfl
theorem hb59 : HasBody Tryz.prog (nat_lit 59):=hasBody_of Tryz.func59 (by decide) rfl
theorem hb60 : HasBody Tryz.prog (nat_lit 60):=hasBody_of Tryz.func60 (by decide) rfl
theorem hb61 : HasBody Tryz.prog (nat_lit 61):=hasBody_of Tryz.func61 (by decide) rfl
theorem hb62 : HasBody Tryz.prog (nat_lit 62):=hasBody_of Tryz.func62 (by decide) rfl
theorem hb63 : HasBody Tryz.prog (nat_lit 63):=hasBody_of Tryz.func63 (by decide) rfl
theorem hb64 : HasBody Tryz.prog (nat_lit 64):=hasBody_of Tryz.func64 (by decide) rfl
theorem hb65 : HasBody Tryz.prog (nat_lit 65):=hasBody_of Tryz.func65 (by decide) rfl
theorem hb66 : HasBody Tryz.prog (nat_lit 66):=hasBody_of Tryz.func66 (by decide) rfl
theorem hb67 : HasBody Tryz.prog (nat_lit 67):=hasBody_of Tryz.func67 (by decide) rfl
theorem hb70 : HasBody Tryz.prog (nat_lit 70):=hasBody_of Tryz.func70 (by decide) rfl
theorem hb71 : HasBody Tryz.prog (nat_lit 71):=hasBody_of Tryz.func71 (by decide) rfl
theorem hb72 : HasBody Tryz.prog (nat_lit 72):=hasBody_of Tryz.func72 (by decide) rfl
theorem hb73 : HasBody Tryz.prog (nat_lit 73):=hasBody_of Tryz.func73 (by decide) rfl
theorem hb74 : HasBody Tryz.prog (nat_lit 74):=hasBody_of Tryz.func74 (by decide) rfl
theorem hb75 : HasBody Tryz.prog (nat_lit 75):=hasBody_of Tryz.func75 (by decide) rfl
theorem hb76 : HasBody Tryz.prog (nat_lit 76):=hasBody_of Tryz.func76 (by decide) rfl
theorem hb77 : HasBody Tryz.prog (nat_lit 77):=hasBody_of Tryz.func77 (by decide) rfl
theorem hb78 : HasBody Tryz.prog (nat_lit 78):=hasBody_of Tryz.func78 (by decide) rfl
theorem hb79 : HasBody Tryz.prog (nat_lit 79):=hasBody_of Tryz.func79 (by decide) rfl
theorem hb80 : HasBody Tryz.prog (nat_lit 80):=hasBody_of Tryz.func80 (by decide) rfl
theorem hb81 : HasBody Tryz.prog (nat_lit 81):=hasBody_of Tryz.func81 (by decide) rfl
theorem hb82 : HasBody Tryz.prog (nat_lit 82):=hasBody_of Tryz.func82 (by decide) rfl
theorem hb84 : HasBody Tryz.prog (nat_lit 84):=hasBody_of Tryz.func84 (by decide) rfl
theorem hb85 : HasBody Tryz.prog (nat_lit 85):=hasBody_of Tryz.func85 (by decide) rfl
theorem hb86 : HasBody Tryz.prog (nat_lit 86):=hasBody_of Tryz.func86 (by decide) rfl
theorem hb87 : HasBody Tryz.prog (nat_lit 87):=hasBody_of Tryz.func87 (by decide) rfl
theorem hb91 : HasBody Tryz.prog (nat_lit 91):=hasBody_of Tryz.func91 (by decide) rfl
theorem hb92 : HasBody Tryz.prog (nat_lit 92):=hasBody_of Tryz.func92 (by decide) rfl
theorem hb93 : HasBody Tryz.prog (nat_lit 93):=hasBody_of Tryz.func93 (by decide) rfl
theorem hb94 : HasBody Tryz.prog (nat_lit 94):=hasBody_of Tryz.func94 (by decide) rfl
theorem hb95 : HasBody Tryz.prog (nat_lit 95):=hasBody_of Tryz.func95 (by decide) rfl
theorem hb97 : HasBody Tryz.prog (nat_lit 97):=hasBody_of Tryz.func97 (by decide) rfl
theorem hb103 : HasBody Tryz.prog (nat_lit 103):=hasBody_of Tryz.func103 (by decide) rfl
theorem hb105 : HasBody Tryz.prog (nat_lit 105):=hasBody_of Tryz.func105 (by decide) rfl
theorem hb106 : HasBody Tryz.prog (nat_lit 106):=hasBody_of Tryz.func106 (by decide) rfl
theorem hb107 : HasBody Tryz.prog (nat_lit 107):=hasBody_of Tryz.func107 (by decide) rfl
theorem hb108 : HasBody Tryz.prog (nat_lit 108):=hasBody_of Tryz.func108 (by decide) rfl
theorem hb111 : HasBody Tryz.prog (nat_lit 111):=hasBody_of Tryz.func111 (by decide) rfl
theorem hb113 : HasBody Tryz.prog (nat_lit 113):=hasBody_of Tryz.func113 (by decide) rfl
theorem hb114 : HasBody Tryz.prog (nat_lit 114):=hasBody_of Tryz.func114 (by decide) rfl
theorem hb117 : HasBody Tryz.prog (nat_lit 117):=hasBody_of Tryz.func117 (by decide) rfl
theorem hb118 : HasBody Tryz.prog (nat_lit 118):=hasBody_of Tryz.func118 (by decide) rfl
theorem hb119 : HasBody Tryz.prog (nat_lit 119):=hasBody_of Tryz.func119 (by decide) rfl
theorem hb120 : HasBody Tryz.prog (nat_lit 120):=hasBody_of Tryz.func120 (by decide) rfl
theorem hb121 : HasBody Tryz.prog (nat_lit 121):=hasBody_of Tryz.func121 (by decide) rfl
theorem hb122 : HasBody Tryz.prog (nat_lit 122):=hasBody_of Tryz.func122 (by decide) rfl
theorem hb123 : HasBody Tryz.prog (nat_lit 123):=hasBody_of Tryz.func123 (by decide) rfl
theorem hb124 : HasBody Tryz.prog (nat_lit 124):=hasBody_of Tryz.func124 (by decide) rfl
theorem hb125 : HasBody Tryz.prog (nat_lit 125):=hasBody_of Tryz.func125 (by decide) rfl
theorem hb126 : HasBody Tryz.prog (nat_lit 126):=hasBody_of Tryz.func126 (by decide) rfl
theorem hb127 : HasBody Tryz.prog (nat_lit 127):=hasBody_of Tryz.func127 (by decide) rfl
theorem hb128 : HasBody Tryz.prog (nat_lit 128):=hasBody_of Tryz.func128 (by decide) rfl
theorem hb130 : HasBody Tryz.prog (nat_lit 130):=hasBody_of Tryz.func130 (by decide) rfl
theorem hb131 : HasBody Tryz.prog (nat_lit 131):=hasBody_of Tryz.func131 (by decide) rfl
theorem hb133 : HasBody Tryz.prog (nat_lit 133):=hasBody_of Tryz.func133 (by decide) rfl
theorem hb134 : HasBody Tryz.prog (nat_lit 134):=hasBody_of Tryz.func134 (by decide) rfl
theorem hb135 : HasBody Tryz.prog (nat_lit 135):=hasBody_of Tryz.func135 (by decide) rfl
theorem hb139 : HasBody Tryz.prog (nat_lit 139):=hasBody_of Tryz.func139 (by decide) rfl
theorem hb140 : HasBody Tryz.prog (nat_lit 140):=hasBody_of Tryz.func140 (by decide) rfl
theorem hb145 : HasBody Tryz.prog (nat_lit 145):=hasBody_of Tryz.func145 (by decide) rfl
theorem hb156 : HasBody Tryz.prog (nat_lit 156):=hasBody_of Tryz.func156 (by decide) rfl
theorem hb157 : HasBody Tryz.prog (nat_lit 157):=hasBody_of Tryz.func157 (by decide) rfl
theorem hb158 : HasBody Tryz.prog (nat_lit 158):=hasBody_of Tryz.func158 (by decide) rfl
theorem hb159 : HasBody Tryz.prog (nat_lit 159):=hasBody_of Tryz.func159 (by decide) rfl
theorem hb160 : HasBody Tryz.prog (nat_lit 160):=hasBody_of Tryz.func160 (by decide) rfl
theorem hb161 : HasBody Tryz.prog (nat_lit 161):=hasBody_of Tryz.func161 (by decide) rfl
theorem hb162 : HasBody Tryz.prog (nat_lit 162):=hasBody_of Tryz.func162 (by decide) rfl
theorem hb164 : HasBody Tryz.prog (nat_lit 164):=hasBody_of Tryz.func164 (by decide) rfl
theorem hb165 : HasBody Tryz.prog (nat_lit 165):=hasBody_of Tryz.func165 (by decide) rfl
theorem hb169 : HasBody Tryz.prog (nat_lit 169):=hasBody_of Tryz.func169 (by decide) rfl
theorem hb171 : HasBody Tryz.prog (nat_lit 171):=hasBody_of Tryz.func171 (by decide) rfl
theorem hb172 : HasBody Tryz.prog (nat_lit 172):=hasBody_of Tryz.func172 (by decide) rfl
theorem hb173 : HasBody Tryz.prog (nat_lit 173):=hasBody_of Tryz.func173 (by decide) rfl
theorem hb174 : HasBody Tryz.prog (nat_lit 174):=hasBody_of Tryz.func174 (by decide) rfl
theorem hb175 : HasBody Tryz.prog (nat_lit 175):=hasBody_of Tryz.func175 (by decide) rfl
theorem hb177 : HasBody Tryz.prog (nat_lit 177):=hasBody_of Tryz.func177 (by decide) rfl
theorem hb178 : HasBody Tryz.prog (nat_lit 178):=hasBody_of Tryz.func178 (by decide) rfl
theorem hb179 : HasBody Tryz.prog (nat_lit 179):=hasBody_of Tryz.func179 (by decide) rfl
theorem hb182 : HasBody Tryz.prog (nat_lit 182):=hasBody_of Tryz.func182 (by decide) rfl
theorem hb189 : HasBody Tryz.prog (nat_lit 189):=hasBody_of Tryz.func189 (by decide) rfl
theorem hb190 : HasBody Tryz.prog (nat_lit 190):=hasBody_of Tryz.func190 (by decide) rfl
theorem hb204 : HasBody Tryz.prog (nat_lit 204):=hasBody_of Tryz.func204 (by decide) rfl
theorem hb205 : HasBody Tryz.prog (nat_lit 205):=hasBody_of Tryz.func205 (by decide) rfl
theorem eqg62 : Tryz.prog.eqGuardType Tryz.prog.depth (nat_lit 62) = false:=by kernel_rfl
set_option maxHeartbeats 1000000 in
theorem RectEq62 (x y : Rect) (w : World) : (Op.equalIn 10000 (nat_lit 62) (.agg #[.int .i64 x.d.a, .int .i64 x.d.b, .int .i64 x.x.a, .int .i64 x.x.b]) (.agg #[.int .i64 y.d.a, .int .i64 y.d.b, .int .i64 y.x.a, .int .i64 y.x.b])).run Tryz.prog w = .ok (decide (x = y)) w:=by
 have u3:=Tryz.underlying3
 have a3:=Tryz.isAgg3
 have z3:=Tryz.sizeOf3
 have u38:=Tryz.underlying38
 have a38:=Tryz.isAgg38
 have z38:=Tryz.sizeOf38
 have e38 : ∀ d xs ys,(Op.equalIn (d+1) (nat_lit 38) (.agg xs) (.agg ys)).run Tryz.prog w = (Op.eqFields d xs ys (Tryz.prog.fieldsOf (nat_lit 38)).toList).run Tryz.prog w:=fun d xs ys=>run_equalIn_agg w d (nat_lit 38) xs ys (by kernel_rfl) (by kernel_rfl)
 rw [show (10000 : Nat) = 9999 + 1 from rfl,run_equalIn_agg w 9999 (nat_lit 62) _ _ (by kernel_rfl) (by kernel_rfl)]
 simp only [Program.fieldsOf,Tryz.underlying62,strV] at e38 ⊢
 go_simp
 skip
 obtain ⟨⟨x1,x2⟩,⟨x3,x4⟩⟩:=x
 obtain ⟨⟨y1,y2⟩,⟨y3,y4⟩⟩:=y
 by_cases h1 : x1 = y1 <;> by_cases h2 : x2 = y2 <;> by_cases h3 : x3 = y3 <;> by_cases h4 : x4 = y4 <;> simp [h1,h2,h3,h4]
theorem eqg38 : Tryz.prog.eqGuardType Tryz.prog.depth (nat_lit 38) = false:=by kernel_rfl
set_option maxHeartbeats 1000000 in
theorem SpanEq38 (x y : Span) (w : World) : (Op.equalIn 10000 (nat_lit 38) (.agg #[.int .i64 x.a, .int .i64 x.b]) (.agg #[.int .i64 y.a, .int .i64 y.b])).run Tryz.prog w = .ok (decide (x = y)) w:=by
 have u3:=Tryz.underlying3
 have a3:=Tryz.isAgg3
 have z3:=Tryz.sizeOf3
 rw [show (10000 : Nat) = 9999 + 1 from rfl,run_equalIn_agg w 9999 (nat_lit 38) _ _ (by kernel_rfl) (by kernel_rfl)]
 simp only [Program.fieldsOf,Tryz.underlying38,strV]
 go_simp
 skip
 obtain ⟨x1,x2⟩:=x
 obtain ⟨y1,y2⟩:=y
 by_cases h1 : x1 = y1 <;> by_cases h2 : x2 = y2 <;> simp [h1,h2]
theorem eqg48 : Tryz.prog.eqGuardType Tryz.prog.depth (nat_lit 48) = false:=by kernel_rfl
set_option maxHeartbeats 1000000 in
theorem ValEq48 (x y : Val) (w : World) : (Op.equalIn 10000 (nat_lit 48) (.agg #[.int .i64 x.k, .int .i64 x.n,strV x.s]) (.agg #[.int .i64 y.k, .int .i64 y.n,strV y.s])).run Tryz.prog w = .ok (decide (x = y)) w:=by
 have u3:=Tryz.underlying3
 have a3:=Tryz.isAgg3
 have z3:=Tryz.sizeOf3
 have u9:=Tryz.underlying9
 have a9:=Tryz.isAgg9
 have z9:=Tryz.sizeOf9
 rw [show (10000 : Nat) = 9999 + 1 from rfl,run_equalIn_agg w 9999 (nat_lit 48) _ _ (by kernel_rfl) (by kernel_rfl)]
 simp only [Program.fieldsOf,Tryz.underlying48,strV]
 go_simp
 skip
 obtain ⟨x1,x2,x3⟩:=x
 obtain ⟨y1,y2,y3⟩:=y
 by_cases h1 : x1 = y1 <;> by_cases h2 : x2 = y2 <;> by_cases h3 : x3 = y3 <;> simp [h1,h2,h3]
theorem mixed : Tryz.prog.follows .mixedOrders = true:=by kernel_rfl
theorem dr {N id : Nat} {Q : Exit → Env → World → Prop} {ρ : Env} {w w0 : World} {ops : List Oper} {X : List Nat} {G0 G : GH} {L : Own} (T : List (Nat × Bool)) (hv : List (Nat × Value)) (hS : (St w0 X G0 G L) w) (ho : oblL Tryz.prog ops (St w0 X G0 G L) (T.map (·.1)) hv (fillV ft ops (T.map (·.1)) hv 0 ops ρ) 0 ops)
  (hT : ∀ w,(St w0 X G0 G L) w → goT ft ops (St w0 X G0 G L) Q T (fillV ft ops (T.map (·.1)) hv 0 ops ρ) w) (hN : ops.all (dstB N) = true:=by kernel_rfl) (hp : planB ops (planOf ops (T.map (·.1))) = true:=by kernel_rfl)
  (hn : T.map (fun x=>needC (planOf ops (T.map (·.1))) x.1) = T.map (·.2):=by kernel_rfl) (ha : autoL ft ops (T.map (·.1)) hv (fillV ft ops (T.map (·.1)) hv 0 ops ρ) 0 ops = wantL (T.map (·.1)) hv (fillV ft ops (T.map (·.1)) hv 0 ops ρ) 0 ops:=by exact rfl) : DR Tryz.prog N id ops.toArray Q ρ w:=
 DR.go _ T hv mixed hN hp hn ha hS.draw ho hT
theorem drT {N id : Nat} {Q : Exit → Env → World → Prop} {ρ : Env} {w w0 : World} {ops : List Oper} {X : List Nat} {G0 G : GH} {L : Own} (T : List Nat) (hv : List (Nat × Value)) (hS : (St w0 X G0 G L) w) (ho : oblL Tryz.prog ops (St w0 X G0 G L) T hv (fillV ft ops T hv 0 ops ρ) 0 ops)
  (hT : ∀ w,(St w0 X G0 G L) w → TG Tryz.prog ops.toArray (planOf ops T) (St w0 X G0 G L) Q T.length T (fillV ft ops T hv 0 ops ρ) w) (hN : ops.all (dstB N) = true:=by kernel_rfl) (hp : planT ops (planOf ops T) = true:=by kernel_rfl)
  (ha : autoL ft ops T hv (fillV ft ops T hv 0 ops ρ) 0 ops = wantL T hv (fillV ft ops T hv 0 ops ρ) 0 ops:=by exact rfl) : DR Tryz.prog N id ops.toArray Q ρ w:=
 DR.goG _ T hv mixed hN hp ha hS.draw ho hT
end Go.Civ
