/- Lemmas. -/
import Derived.Test.YthgeclodflmiaaaGreatK07
import Derived.Test.YthgeclodflmiaaaGreatK10
import Derived.Test.YthgeclodflmiaaaGreatProg
import Derived.KernelRfl
import Derived.WalkKit
set_option linter.unusedVariables false
set_option linter.unusedSimpArgs false
set_option maxRecDepth 100000
set_option maxHeartbeats 4000000
namespace Go.Civ
open Go.Proofs
theorem ti3 : tinfo Tryz.prog (nat_lit 3) = some ⟨false,1,8, .int .i64 0⟩:=by kernel_rfl
theorem ti5 : tinfo Tryz.prog (nat_lit 5) = some ⟨false,1,1, .int .u8 0⟩:=by kernel_rfl
theorem ti9 : tinfo Tryz.prog (nat_lit 9) = some ⟨false,1,16,strV []⟩:=by kernel_rfl
theorem ti22 : tinfo Tryz.prog (nat_lit 22) = some ⟨false,1,24, .slice none 0 0⟩:=by kernel_rfl
theorem ti23 : tinfo Tryz.prog (nat_lit 23) = some ⟨false,1,24, .slice none 0 0⟩:=by kernel_rfl
theorem ti25 : tinfo Tryz.prog (nat_lit 25) = some ⟨true,4,72, .agg #[strV [], .slice none 0 0, .int .i64 0, .slice none 0 0]⟩:=by kernel_rfl
theorem ti26 : tinfo Tryz.prog (nat_lit 26) = some ⟨false,1,24, .slice none 0 0⟩:=by kernel_rfl
theorem ti28 : tinfo Tryz.prog (nat_lit 28) = some ⟨true,6,104, .agg #[strV [], .slice none 0 0, .int .i64 0, .slice none 0 0, .slice none 0 0, .int .i64 0]⟩:=by kernel_rfl
theorem ti31 : tinfo Tryz.prog (nat_lit 31) = some ⟨false,1,24, .slice none 0 0⟩:=by kernel_rfl
theorem ti33 : tinfo Tryz.prog (nat_lit 33) = some ⟨true,2,16, .agg #[.int .i64 0, .int .i64 0]⟩:=by kernel_rfl
theorem ti35 : tinfo Tryz.prog (nat_lit 35) = some ⟨true,4,32, .agg #[.int .i64 0, .int .i64 0, .int .i64 0, .int .i64 0]⟩:=by kernel_rfl
theorem ti37 : tinfo Tryz.prog (nat_lit 37) = some ⟨true,5,56, .agg #[.slice none 0 0, .int .i64 0, .int .i64 0, .int .i64 0, .int .i64 0]⟩:=by kernel_rfl
theorem ti42 : tinfo Tryz.prog (nat_lit 42) = some ⟨false,1,8, .int .i64 0⟩:=by kernel_rfl
theorem ti48 : tinfo Tryz.prog (nat_lit 48) = some ⟨false,1,24, .slice none 0 0⟩:=by kernel_rfl
theorem ti50 : tinfo Tryz.prog (nat_lit 50) = some ⟨true,2,40, .agg #[.slice none 0 0,strV []]⟩:=by kernel_rfl
theorem ti58 : tinfo Tryz.prog (nat_lit 58) = some ⟨true,3,32, .agg #[.int .i64 0, .int .i64 0,strV []]⟩:=by kernel_rfl
theorem ti71 : tinfo Tryz.prog (nat_lit 71) = some ⟨false,1,24, .slice none 0 0⟩:=by kernel_rfl
theorem ti73 : tinfo Tryz.prog (nat_lit 73) = some ⟨true,3,40, .agg #[.slice none 0 0, .int .i64 0, .int .i64 0]⟩:=by kernel_rfl
theorem ti105 : tinfo Tryz.prog (nat_lit 105) = some ⟨true,3,40, .agg #[.int .i64 0, .int .i64 0, .slice none 0 0]⟩:=by kernel_rfl
theorem ti130 : tinfo Tryz.prog (nat_lit 130) = some ⟨true,2,24, .agg #[strV [], .int .i64 0]⟩:=by kernel_rfl
theorem ti136 : tinfo Tryz.prog (nat_lit 136) = some ⟨true,2,48, .agg #[.slice none 0 0, .slice none 0 0]⟩:=by kernel_rfl
theorem fl25 : fieldsOf Tryz.prog (nat_lit 25) = some [(0,1),(1,1),(2,1),(3,1)]:=by kernel_rfl
theorem fl28 : fieldsOf Tryz.prog (nat_lit 28) = some [(0,4),(4,1),(5,1)]:=by kernel_rfl
theorem fl33 : fieldsOf Tryz.prog (nat_lit 33) = some [(0,1),(1,1)]:=by kernel_rfl
theorem fl35 : fieldsOf Tryz.prog (nat_lit 35) = some [(0,2),(2,2)]:=by kernel_rfl
theorem fl37 : fieldsOf Tryz.prog (nat_lit 37) = some [(0,1),(1,4)]:=by kernel_rfl
theorem fl58 : fieldsOf Tryz.prog (nat_lit 58) = some [(0,1),(1,1),(2,1)]:=by kernel_rfl
theorem fl73 : fieldsOf Tryz.prog (nat_lit 73) = some [(0,1),(1,2)]:=by kernel_rfl
theorem fl105 : fieldsOf Tryz.prog (nat_lit 105) = some [(0,1),(1,1),(2,1)]:=by kernel_rfl
theorem fl130 : fieldsOf Tryz.prog (nat_lit 130) = some [(0,1),(1,1)]:=by kernel_rfl
theorem fl136 : fieldsOf Tryz.prog (nat_lit 136) = some [(0,1),(1,1)]:=by kernel_rfl
def ft : FTab Tryz.prog:=⟨[(nat_lit 25,[(0,1),(1,1),(2,1),(3,1)]),(nat_lit 28,[(0,4),(4,1),(5,1)]),(nat_lit 33,[(0,1),(1,1)]),(nat_lit 35,[(0,2),(2,2)]),(nat_lit 37,[(0,1),(1,4)]),(nat_lit 50,[(0,1),(1,1)]),(nat_lit 58,[(0,1),(1,1),(2,1)]),(nat_lit 73,[(0,1),(1,2)]),(nat_lit 87,[(0,1),(1,1),(2,1),(3,3),(6,1)]),(nat_lit 105,[(0,1),(1,1),(2,1)]),(nat_lit 130,[(0,1),(1,1)]),(nat_lit 136,[(0,1),(1,1)]),(nat_lit 139,[(0,6),(6,6),(12,2)])],fun x hx=>by simp only [List.mem_cons,List.not_mem_nil,or_false] at hx; rcases hx with rfl | rfl | rfl | rfl | rfl | rfl | rfl | rfl | rfl | rfl | rfl | rfl | rfl <;> kernel_rfl⟩
theorem ul3 : Tryz.prog.underlying (nat_lit 3) = some (.int .i64):=by kernel_rfl
theorem ul4 : Tryz.prog.underlying (nat_lit 4) = some (.bool):=by kernel_rfl
theorem ul5 : Tryz.prog.underlying (nat_lit 5) = some (.int .u8):=by kernel_rfl
theorem ul9 : Tryz.prog.underlying (nat_lit 9) = some (.string):=by kernel_rfl
theorem ul22 : Tryz.prog.underlying (nat_lit 22) = some (.slice (nat_lit 130)):=by kernel_rfl
theorem ul23 : Tryz.prog.underlying (nat_lit 23) = some (.slice (nat_lit 50)):=by kernel_rfl
theorem ul26 : Tryz.prog.underlying (nat_lit 26) = some (.slice (nat_lit 37)):=by kernel_rfl
theorem ul31 : Tryz.prog.underlying (nat_lit 31) = some (.slice (nat_lit 58)):=by kernel_rfl
theorem ul48 : Tryz.prog.underlying (nat_lit 48) = some (.slice (nat_lit 9)):=by kernel_rfl
theorem ul51 : Tryz.prog.underlying (nat_lit 51) = some (.slice (nat_lit 31)):=by kernel_rfl
theorem ul63 : Tryz.prog.underlying (nat_lit 63) = some (.slice (nat_lit 73)):=by kernel_rfl
theorem ul71 : Tryz.prog.underlying (nat_lit 71) = some (.slice (nat_lit 33)):=by kernel_rfl
theorem ul113 : Tryz.prog.underlying (nat_lit 113) = some (.slice (nat_lit 3)):=by kernel_rfl
theorem ul133 : Tryz.prog.underlying (nat_lit 133) = some (.slice (nat_lit 136)):=by kernel_rfl
theorem ul160 : Tryz.prog.underlying (nat_lit 160) = some (.slice (nat_lit 105)):=by kernel_rfl
theorem ul176 : Tryz.prog.underlying (nat_lit 176) = some (.slice (nat_lit 42)):=by kernel_rfl
theorem ul181 : Tryz.prog.underlying (nat_lit 181) = some (.map (nat_lit 9) (nat_lit 3)):=by kernel_rfl
theorem ul207 : Tryz.prog.underlying (nat_lit 207) = some (.int .u64):=by kernel_rfl
theorem ul220 : Tryz.prog.underlying (nat_lit 220) = some (.slice (nat_lit 5)):=by kernel_rfl
theorem ul245 : Tryz.prog.underlying (nat_lit 245) = some (.int .u64):=by kernel_rfl
theorem sl22 : TSl Tryz.prog (nat_lit 22) (nat_lit 130) ⟨true,2,24, .agg #[strV [], .int .i64 0]⟩:=⟨ul22,ti130⟩
theorem sl26 : TSl Tryz.prog (nat_lit 26) (nat_lit 37) ⟨true,5,56, .agg #[.slice none 0 0, .int .i64 0, .int .i64 0, .int .i64 0, .int .i64 0]⟩:=⟨ul26,ti37⟩
theorem sl31 : TSl Tryz.prog (nat_lit 31) (nat_lit 58) ⟨true,3,32, .agg #[.int .i64 0, .int .i64 0,strV []]⟩:=⟨ul31,ti58⟩
theorem sl48 : TSl Tryz.prog (nat_lit 48) (nat_lit 9) ⟨false,1,16,strV []⟩:=⟨ul48,ti9⟩
theorem sl51 : TSl Tryz.prog (nat_lit 51) (nat_lit 31) ⟨false,1,24, .slice none 0 0⟩:=⟨ul51,ti31⟩
theorem sl63 : TSl Tryz.prog (nat_lit 63) (nat_lit 73) ⟨true,3,40, .agg #[.slice none 0 0, .int .i64 0, .int .i64 0]⟩:=⟨ul63,ti73⟩
theorem sl71 : TSl Tryz.prog (nat_lit 71) (nat_lit 33) ⟨true,2,16, .agg #[.int .i64 0, .int .i64 0]⟩:=⟨ul71,ti33⟩
theorem sl113 : TSl Tryz.prog (nat_lit 113) (nat_lit 3) ⟨false,1,8, .int .i64 0⟩:=⟨ul113,ti3⟩
theorem sl133 : TSl Tryz.prog (nat_lit 133) (nat_lit 136) ⟨true,2,48, .agg #[.slice none 0 0, .slice none 0 0]⟩:=⟨ul133,ti136⟩
theorem sl160 : TSl Tryz.prog (nat_lit 160) (nat_lit 105) ⟨true,3,40, .agg #[.int .i64 0, .int .i64 0, .slice none 0 0]⟩:=⟨ul160,ti105⟩
theorem sl176 : TSl Tryz.prog (nat_lit 176) (nat_lit 42) ⟨false,1,8, .int .i64 0⟩:=⟨ul176,ti42⟩
theorem sl220 : TSl Tryz.prog (nat_lit 220) (nat_lit 5) ⟨false,1,1, .int .u8 0⟩:=⟨ul220,ti5⟩
theorem hb11 : HasBody Tryz.prog (nat_lit 11):=hasBody_of Tryz.func11 (by decide) rfl
theorem hb12 : HasBody Tryz.prog (nat_lit 12):=hasBody_of Tryz.func12 (by decide) rfl
theorem hb13 : HasBody Tryz.prog (nat_lit 13):=hasBody_of Tryz.func13 (by decide) rfl
theorem hb14 : HasBody Tryz.prog (nat_lit 14):=hasBody_of Tryz.func14 (by decide) rfl
theorem hb15 : HasBody Tryz.prog (nat_lit 15):=hasBody_of Tryz.func15 (by decide) rfl
theorem hb16 : HasBody Tryz.prog (nat_lit 16):=hasBody_of Tryz.func16 (by decide) rfl
theorem hb17 : HasBody Tryz.prog (nat_lit 17):=hasBody_of Tryz.func17 (by decide) rfl
theorem hb18 : HasBody Tryz.prog (nat_lit 18):=hasBody_of Tryz.func18 (by decide) rfl
theorem hb19 : HasBody Tryz.prog (nat_lit 19):=hasBody_of Tryz.func19 (by decide) rfl
theorem hb20 : HasBody Tryz.prog (nat_lit 20):=hasBody_of Tryz.func20 (by decide) rfl
theorem hb21 : HasBody Tryz.prog (nat_lit 21):=hasBody_of Tryz.func21 (by decide) rfl
theorem hb22 : HasBody Tryz.prog (nat_lit 22):=hasBody_of Tryz.func22 (by decide) rfl
theorem hb23 : HasBody Tryz.prog (nat_lit 23):=hasBody_of Tryz.func23 (by decide) rfl
theorem hb24 : HasBody Tryz.prog (nat_lit 24):=hasBody_of Tryz.func24 (by decide) rfl
theorem hb27 : HasBody Tryz.prog (nat_lit 27):=hasBody_of Tryz.func27 (by decide) rfl
theorem hb28 : HasBody Tryz.prog (nat_lit 28):=hasBody_of Tryz.func28 (by decide) rfl
theorem hb29 : HasBody Tryz.prog (nat_lit 29):=hasBody_of Tryz.func29 (by decide) rfl
theorem hb31 : HasBody Tryz.prog (nat_lit 31):=hasBody_of Tryz.func31 (by decide) rfl
theorem hb32 : HasBody Tryz.prog (nat_lit 32):=hasBody_of Tryz.func32 (by decide) rfl
theorem hb33 : HasBody Tryz.prog (nat_lit 33):=hasBody_of Tryz.func33 (by decide) rfl
theorem hb34 : HasBody Tryz.prog (nat_lit 34):=hasBody_of Tryz.func34 (by decide) rfl
theorem hb39 : HasBody Tryz.prog (nat_lit 39):=hasBody_of Tryz.func39 (by decide) rfl
theorem hb40 : HasBody Tryz.prog (nat_lit 40):=hasBody_of Tryz.func40 (by decide) rfl
theorem hb49 : HasBody Tryz.prog (nat_lit 49):=hasBody_of Tryz.func49 (by decide) rfl
theorem hb55 : HasBody Tryz.prog (nat_lit 55):=hasBody_of Tryz.func55 (by decide) rfl
theorem hb56 : HasBody Tryz.prog (nat_lit 56):=hasBody_of Tryz.func56 (by decide) rfl
theorem hb57 : HasBody Tryz.prog (nat_lit 57):=hasBody_of Tryz.func57 (by decide) rfl
theorem hb58 : HasBody Tryz.prog (nat_lit 58):=hasBody_of Tryz.func58 (by decide) rfl
theorem hb59 : HasBody Tryz.prog (nat_lit 59):=hasBody_of Tryz.func59 (by decide) rfl
theorem hb60 : HasBody Tryz.prog (nat_lit 60):=hasBody_of Tryz.func60 (by decide) rfl
theorem hb61 : HasBody Tryz.prog (nat_lit 61):=hasBody_of Tryz.func61 (by decide) rfl
theorem hb62 : HasBody Tryz.prog (nat_lit 62):=hasBody_of Tryz.func62 (by decide) rfl
theorem hb63 : HasBody Tryz.prog (nat_lit 63):=hasBody_of Tryz.func63 (by decide) rfl
theorem hb64 : HasBody Tryz.prog (nat_lit 64):=hasBody_of Tryz.func64 (by decide) rfl
theorem hb65 : HasBody Tryz.prog (nat_lit 65):=hasBody_of Tryz.func65 (by decide) rfl
theorem hb66 : HasBody Tryz.prog (nat_lit 66):=hasBody_of Tryz.func66 (by decide) rfl
theorem hb67 : HasBody Tryz.prog (nat_lit 67):=hasBody_of Tryz.func67 (by decide) rfl
theorem hb68 : HasBody Tryz.prog (nat_lit 68):=hasBody_of Tryz.func68 (by decide) rfl
theorem hb69 : HasBody Tryz.prog (nat_lit 69):=hasBody_of Tryz.func69 (by decide) rfl
theorem hb70 : HasBody Tryz.prog (nat_lit 70):=hasBody_of Tryz.func70 (by decide) rfl
theorem hb71 : HasBody Tryz.prog (nat_lit 71):=hasBody_of Tryz.func71 (by decide) rfl
theorem hb72 : HasBody Tryz.prog (nat_lit 72):=hasBody_of Tryz.func72 (by decide) rfl
theorem hb73 : HasBody Tryz.prog (nat_lit 73):=hasBody_of Tryz.func73 (by decide) rfl
theorem hb74 : HasBody Tryz.prog (nat_lit 74):=hasBody_of Tryz.func74 (by decide) rfl
theorem hb75 : HasBody Tryz.prog (nat_lit 75):=hasBody_of Tryz.func75 (by decide) rfl
theorem hb76 : HasBody Tryz.prog (nat_lit 76):=hasBody_of Tryz.func76 (by decide) rfl
theorem hb77 : HasBody Tryz.prog (nat_lit 77):=hasBody_of Tryz.func77 (by decide) rfl
theorem hb78 : HasBody Tryz.prog (nat_lit 78):=hasBody_of Tryz.func78 (by decide) rfl
theorem hb79 : HasBody Tryz.prog (nat_lit 79):=hasBody_of Tryz.func79 (by decide) rfl
theorem hb80 : HasBody Tryz.prog (nat_lit 80):=hasBody_of Tryz.func80 (by decide) rfl
theorem hb81 : HasBody Tryz.prog (nat_lit 81):=hasBody_of Tryz.func81 (by decide) rfl
theorem hb82 : HasBody Tryz.prog (nat_lit 82):=hasBody_of Tryz.func82 (by decide) rfl
theorem hb85 : HasBody Tryz.prog (nat_lit 85):=hasBody_of Tryz.func85 (by decide) rfl
theorem hb86 : HasBody Tryz.prog (nat_lit 86):=hasBody_of Tryz.func86 (by decide) rfl
theorem hb87 : HasBody Tryz.prog (nat_lit 87):=hasBody_of Tryz.func87 (by decide) rfl
theorem hb88 : HasBody Tryz.prog (nat_lit 88):=hasBody_of Tryz.func88 (by decide) rfl
theorem hb97 : HasBody Tryz.prog (nat_lit 97):=hasBody_of Tryz.func97 (by decide) rfl
theorem hb99 : HasBody Tryz.prog (nat_lit 99):=hasBody_of Tryz.func99 (by decide) rfl
theorem hb100 : HasBody Tryz.prog (nat_lit 100):=hasBody_of Tryz.func100 (by decide) rfl
theorem hb106 : HasBody Tryz.prog (nat_lit 106):=hasBody_of Tryz.func106 (by decide) rfl
theorem hb112 : HasBody Tryz.prog (nat_lit 112):=hasBody_of Tryz.func112 (by decide) rfl
theorem hb113 : HasBody Tryz.prog (nat_lit 113):=hasBody_of Tryz.func113 (by decide) rfl
theorem hb114 : HasBody Tryz.prog (nat_lit 114):=hasBody_of Tryz.func114 (by decide) rfl
theorem hb115 : HasBody Tryz.prog (nat_lit 115):=hasBody_of Tryz.func115 (by decide) rfl
theorem hb116 : HasBody Tryz.prog (nat_lit 116):=hasBody_of Tryz.func116 (by decide) rfl
theorem hb118 : HasBody Tryz.prog (nat_lit 118):=hasBody_of Tryz.func118 (by decide) rfl
theorem hb119 : HasBody Tryz.prog (nat_lit 119):=hasBody_of Tryz.func119 (by decide) rfl
theorem hb120 : HasBody Tryz.prog (nat_lit 120):=hasBody_of Tryz.func120 (by decide) rfl
theorem hb121 : HasBody Tryz.prog (nat_lit 121):=hasBody_of Tryz.func121 (by decide) rfl
theorem hb122 : HasBody Tryz.prog (nat_lit 122):=hasBody_of Tryz.func122 (by decide) rfl
theorem hb123 : HasBody Tryz.prog (nat_lit 123):=hasBody_of Tryz.func123 (by decide) rfl
theorem hb124 : HasBody Tryz.prog (nat_lit 124):=hasBody_of Tryz.func124 (by decide) rfl
theorem hb125 : HasBody Tryz.prog (nat_lit 125):=hasBody_of Tryz.func125 (by decide) rfl
theorem hb126 : HasBody Tryz.prog (nat_lit 126):=hasBody_of Tryz.func126 (by decide) rfl
theorem hb127 : HasBody Tryz.prog (nat_lit 127):=hasBody_of Tryz.func127 (by decide) rfl
theorem hb128 : HasBody Tryz.prog (nat_lit 128):=hasBody_of Tryz.func128 (by decide) rfl
theorem hb129 : HasBody Tryz.prog (nat_lit 129):=hasBody_of Tryz.func129 (by decide) rfl
theorem hb130 : HasBody Tryz.prog (nat_lit 130):=hasBody_of Tryz.func130 (by decide) rfl
theorem hb131 : HasBody Tryz.prog (nat_lit 131):=hasBody_of Tryz.func131 (by decide) rfl
theorem hb132 : HasBody Tryz.prog (nat_lit 132):=hasBody_of Tryz.func132 (by decide) rfl
theorem hb137 : HasBody Tryz.prog (nat_lit 137):=hasBody_of Tryz.func137 (by decide) rfl
theorem hb138 : HasBody Tryz.prog (nat_lit 138):=hasBody_of Tryz.func138 (by decide) rfl
theorem hb140 : HasBody Tryz.prog (nat_lit 140):=hasBody_of Tryz.func140 (by decide) rfl
theorem hb145 : HasBody Tryz.prog (nat_lit 145):=hasBody_of Tryz.func145 (by decide) rfl
theorem hb146 : HasBody Tryz.prog (nat_lit 146):=hasBody_of Tryz.func146 (by decide) rfl
theorem hb153 : HasBody Tryz.prog (nat_lit 153):=hasBody_of Tryz.func153 (by decide) rfl
theorem hb154 : HasBody Tryz.prog (nat_lit 154):=hasBody_of Tryz.func154 (by decide) rfl
theorem hb155 : HasBody Tryz.prog (nat_lit 155):=hasBody_of Tryz.func155 (by decide) rfl
theorem hb163 : HasBody Tryz.prog (nat_lit 163):=hasBody_of Tryz.func163 (by decide) rfl
theorem hb164 : HasBody Tryz.prog (nat_lit 164):=hasBody_of Tryz.func164 (by decide) rfl
theorem hb165 : HasBody Tryz.prog (nat_lit 165):=hasBody_of Tryz.func165 (by decide) rfl
theorem hb168 : HasBody Tryz.prog (nat_lit 168):=hasBody_of Tryz.func168 (by decide) rfl
theorem hb169 : HasBody Tryz.prog (nat_lit 169):=hasBody_of Tryz.func169 (by decide) rfl
theorem hb170 : HasBody Tryz.prog (nat_lit 170):=hasBody_of Tryz.func170 (by decide) rfl
theorem hb171 : HasBody Tryz.prog (nat_lit 171):=hasBody_of Tryz.func171 (by decide) rfl
theorem hb172 : HasBody Tryz.prog (nat_lit 172):=hasBody_of Tryz.func172 (by decide) rfl
theorem hb173 : HasBody Tryz.prog (nat_lit 173):=hasBody_of Tryz.func173 (by decide) rfl
theorem hb174 : HasBody Tryz.prog (nat_lit 174):=hasBody_of Tryz.func174 (by decide) rfl
theorem hb175 : HasBody Tryz.prog (nat_lit 175):=hasBody_of Tryz.func175 (by decide) rfl
theorem hb176 : HasBody Tryz.prog (nat_lit 176):=hasBody_of Tryz.func176 (by decide) rfl
theorem hb178 : HasBody Tryz.prog (nat_lit 178):=hasBody_of Tryz.func178 (by decide) rfl
theorem hb179 : HasBody Tryz.prog (nat_lit 179):=hasBody_of Tryz.func179 (by decide) rfl
theorem hb180 : HasBody Tryz.prog (nat_lit 180):=hasBody_of Tryz.func180 (by decide) rfl
theorem hb181 : HasBody Tryz.prog (nat_lit 181):=hasBody_of Tryz.func181 (by decide) rfl
theorem hb184 : HasBody Tryz.prog (nat_lit 184):=hasBody_of Tryz.func184 (by decide) rfl
theorem hb186 : HasBody Tryz.prog (nat_lit 186):=hasBody_of Tryz.func186 (by decide) rfl
theorem hb187 : HasBody Tryz.prog (nat_lit 187):=hasBody_of Tryz.func187 (by decide) rfl
theorem hb188 : HasBody Tryz.prog (nat_lit 188):=hasBody_of Tryz.func188 (by decide) rfl
theorem hb189 : HasBody Tryz.prog (nat_lit 189):=hasBody_of Tryz.func189 (by decide) rfl
theorem hb198 : HasBody Tryz.prog (nat_lit 198):=hasBody_of Tryz.func198 (by decide) rfl
theorem hb199 : HasBody Tryz.prog (nat_lit 199):=hasBody_of Tryz.func199 (by decide) rfl
theorem hb210 : HasBody Tryz.prog (nat_lit 210):=hasBody_of Tryz.func210 (by decide) rfl
theorem hb213 : HasBody Tryz.prog (nat_lit 213):=hasBody_of Tryz.func213 (by decide) rfl
theorem hb214 : HasBody Tryz.prog (nat_lit 214):=hasBody_of Tryz.func214 (by decide) rfl
theorem hb226 : HasBody Tryz.prog (nat_lit 226):=hasBody_of Tryz.func226 (by decide) rfl
theorem hb239 : HasBody Tryz.prog (nat_lit 239):=hasBody_of Tryz.func239 (by decide) rfl
theorem eqg35 : Tryz.prog.eqGuardType Tryz.prog.depth (nat_lit 35) = false:=by kernel_rfl
set_option maxHeartbeats 1000000 in
theorem RectEq35 (x y : Rect) (w : World) : (Op.equalIn 10000 (nat_lit 35) (.agg #[.int .i64 x.d.a, .int .i64 x.d.b, .int .i64 x.x.a, .int .i64 x.x.b]) (.agg #[.int .i64 y.d.a, .int .i64 y.d.b, .int .i64 y.x.a, .int .i64 y.x.b])).run Tryz.prog w = .ok (decide (x = y)) w:=by
 have u3:=Tryz.underlying3
 have a3:=Tryz.isAgg3
 have z3:=Tryz.sizeOf3
 have u33:=Tryz.underlying33
 have a33:=Tryz.isAgg33
 have z33:=Tryz.sizeOf33
 have e33 : ∀ d xs ys,(Op.equalIn (d+1) (nat_lit 33) (.agg xs) (.agg ys)).run Tryz.prog w = (Op.eqFields d xs ys (Tryz.prog.fieldsOf (nat_lit 33)).toList).run Tryz.prog w:=fun d xs ys=>run_equalIn_agg w d (nat_lit 33) xs ys (by kernel_rfl) (by kernel_rfl)
 rw [show (10000 : Nat) = 9999 + 1 from rfl,run_equalIn_agg w 9999 (nat_lit 35) _ _ (by kernel_rfl) (by kernel_rfl)]
 simp only [Program.fieldsOf,Tryz.underlying35,strV] at e33 ⊢
 go_simp
 skip
 obtain ⟨⟨x1,x2⟩,⟨x3,x4⟩⟩:=x
 obtain ⟨⟨y1,y2⟩,⟨y3,y4⟩⟩:=y
 by_cases h1 : x1 = y1 <;> by_cases h2 : x2 = y2 <;> by_cases h3 : x3 = y3 <;> by_cases h4 : x4 = y4 <;> simp [h1,h2,h3,h4]
theorem eqg33 : Tryz.prog.eqGuardType Tryz.prog.depth (nat_lit 33) = false:=by kernel_rfl
set_option maxHeartbeats 1000000 in
theorem SpanEq33 (x y : Span) (w : World) : (Op.equalIn 10000 (nat_lit 33) (.agg #[.int .i64 x.a, .int .i64 x.b]) (.agg #[.int .i64 y.a, .int .i64 y.b])).run Tryz.prog w = .ok (decide (x = y)) w:=by
 have u3:=Tryz.underlying3
 have a3:=Tryz.isAgg3
 have z3:=Tryz.sizeOf3
 rw [show (10000 : Nat) = 9999 + 1 from rfl,run_equalIn_agg w 9999 (nat_lit 33) _ _ (by kernel_rfl) (by kernel_rfl)]
 simp only [Program.fieldsOf,Tryz.underlying33,strV]
 go_simp
 skip
 obtain ⟨x1,x2⟩:=x
 obtain ⟨y1,y2⟩:=y
 by_cases h1 : x1 = y1 <;> by_cases h2 : x2 = y2 <;> simp [h1,h2]
theorem eqg58 : Tryz.prog.eqGuardType Tryz.prog.depth (nat_lit 58) = false:=by kernel_rfl
set_option maxHeartbeats 1000000 in
theorem ValEq58 (x y : Val) (w : World) : (Op.equalIn 10000 (nat_lit 58) (.agg #[.int .i64 x.k, .int .i64 x.n,strV x.s]) (.agg #[.int .i64 y.k, .int .i64 y.n,strV y.s])).run Tryz.prog w = .ok (decide (x = y)) w:=by
 have u3:=Tryz.underlying3
 have a3:=Tryz.isAgg3
 have z3:=Tryz.sizeOf3
 have u9:=Tryz.underlying9
 have a9:=Tryz.isAgg9
 have z9:=Tryz.sizeOf9
 rw [show (10000 : Nat) = 9999 + 1 from rfl,run_equalIn_agg w 9999 (nat_lit 58) _ _ (by kernel_rfl) (by kernel_rfl)]
 simp only [Program.fieldsOf,Tryz.underlying58,strV]
 go_simp
 skip
 obtain ⟨x1,x2,x3⟩:=x
 obtain ⟨y1,y2,y3⟩:=y
 by_cases h1 : x1 = y1 <;> by_cases h2 : x2 = y2 <;> by_cases h3 : x3 = y3 <;> simp [h1,h2,h3]
theorem mixed : Tryz.prog.follows .mixedOrders = true:=by kernel_rfl
theorem dr {N id : Nat} {Q : Exit → Env → World → Prop} {ρ : Env} {w w0 : World} {ops : List Oper} {X : List Nat} {G0 G : GH} {L : Own} (T : List (Nat × Bool)) (hv : List (Nat × Value)) (hS : (St w0 X G0 G L) w) (ho : oblL Tryz.prog ops (St w0 X G0 G L) (T.map (·.1)) hv (fillV ft ops (T.map (·.1)) hv 0 ops ρ) 0 ops)
  (hT : ∀ w,(St w0 X G0 G L) w → goT ft ops (St w0 X G0 G L) Q T (fillV ft ops (T.map (·.1)) hv 0 ops ρ) w) (hN : ops.all (dstB N) = true:=by kernel_rfl) (hp : planB ops (planOf ops (T.map (·.1))) = true:=by kernel_rfl)
  (hn : T.map (fun x=>needC (planOf ops (T.map (·.1))) x.1) = T.map (·.2):=by kernel_rfl) (ha : autoL ft ops (T.map (·.1)) hv (fillV ft ops (T.map (·.1)) hv 0 ops ρ) 0 ops = wantL (T.map (·.1)) hv (fillV ft ops (T.map (·.1)) hv 0 ops ρ) 0 ops:=by exact rfl) : DR Tryz.prog N id ops.toArray Q ρ w:=
 DR.go _ T hv mixed hN hp hn ha hS.draw ho hT
theorem drT {N id : Nat} {Q : Exit → Env → World → Prop} {ρ : Env} {w w0 : World} {ops : List Oper} {X : List Nat} {G0 G : GH} {L : Own} (T : List Nat) (hv : List (Nat × Value)) (hS : (St w0 X G0 G L) w) (ho : oblL Tryz.prog ops (St w0 X G0 G L) T hv (fillV ft ops T hv 0 ops ρ) 0 ops)
  (hT : ∀ w,(St w0 X G0 G L) w → TG Tryz.prog ops.toArray (planOf ops T) (St w0 X G0 G L) Q T.length T (fillV ft ops T hv 0 ops ρ) w) (hN : ops.all (dstB N) = true:=by kernel_rfl) (hp : planT ops (planOf ops T) = true:=by kernel_rfl)
  (ha : autoL ft ops T hv (fillV ft ops T hv 0 ops ρ) 0 ops = wantL T hv (fillV ft ops T hv 0 ops ρ) 0 ops:=by exact rfl) : DR Tryz.prog N id ops.toArray Q ρ w:=
 DR.goG _ T hv mixed hN hp ha hS.draw ho hT
theorem drD {N id : Nat} {Q : Exit → Env → World → Prop} {ρ : Env} {w : World} {ops : List Oper} {C : World → Prop} (hD : ∀ w,C w → C { w with drawn:=w.drawn + 1 }) (T : List (Nat × Bool)) (hv : List (Nat × Value)) (hS : C w) (ho : oblL Tryz.prog ops C (T.map (·.1)) hv (fillV ft ops (T.map (·.1)) hv 0 ops ρ) 0 ops)
  (hT : ∀ w,C w → goT ft ops C Q T (fillV ft ops (T.map (·.1)) hv 0 ops ρ) w) (hN : ops.all (dstB N) = true:=by kernel_rfl) (hp : planB ops (planOf ops (T.map (·.1))) = true:=by kernel_rfl)
  (hn : T.map (fun x=>needC (planOf ops (T.map (·.1))) x.1) = T.map (·.2):=by kernel_rfl) (ha : autoL ft ops (T.map (·.1)) hv (fillV ft ops (T.map (·.1)) hv 0 ops ρ) 0 ops = wantL (T.map (·.1)) hv (fillV ft ops (T.map (·.1)) hv 0 ops ρ) 0 ops:=by exact rfl) : DR Tryz.prog N id ops.toArray Q ρ w:=
 DR.go _ T hv mixed hN hp hn ha (hD _ hS) ho hT
end Go.Civ
