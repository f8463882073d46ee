/- Lemmas. -/
import Derived.Test.YthgeclodflmiaaaGreatP07
import Derived.Test.YthgeclodflmiaaaGreatP09
import Derived.Test.YthgeclodflmiaaaGreatProg
import Derived.KernelRfl
import Derived.WalkKit
set_option linter.unusedVariables false
set_option linter.unusedSimpArgs false
set_option maxRecDepth 100000
set_option maxHeartbeats 4000000
namespace Go.Civ
open Go.Proofs
theorem Z7 : ZX Tryz.prog (nat_lit 3) = some ⟨false,1,8, .int .i64 0⟩:=by kernel_rfl
theorem ti5 : ZX Tryz.prog (nat_lit 5) = some ⟨false,1,1, .int .u8 0⟩:=by kernel_rfl
theorem Yw : ZX Tryz.prog (nat_lit 9) = some ⟨false,1,16,Zd []⟩:=by kernel_rfl
theorem QM : ZX Tryz.prog (nat_lit 22) = some ⟨false,1,24, .slice none 0 0⟩:=by kernel_rfl
theorem ZcN : ZX Tryz.prog (nat_lit 23) = some ⟨false,1,24, .slice none 0 0⟩:=by kernel_rfl
theorem Xg : ZX Tryz.prog (nat_lit 25) = some ⟨true,4,72, .agg #[Zd [], .slice none 0 0, .int .i64 0, .slice none 0 0]⟩:=by kernel_rfl
theorem YW : ZX Tryz.prog (nat_lit 26) = some ⟨false,1,24, .slice none 0 0⟩:=by kernel_rfl
theorem Zp : ZX Tryz.prog (nat_lit 28) = some ⟨true,6,104, .agg #[Zd [], .slice none 0 0, .int .i64 0, .slice none 0 0, .slice none 0 0, .int .i64 0]⟩:=by kernel_rfl
theorem ZG : ZX Tryz.prog (nat_lit 31) = some ⟨false,1,24, .slice none 0 0⟩:=by kernel_rfl
theorem Zt : ZX Tryz.prog (nat_lit 33) = some ⟨true,2,16, .agg #[.int .i64 0, .int .i64 0]⟩:=by kernel_rfl
theorem ZcO : ZX Tryz.prog (nat_lit 35) = some ⟨true,4,32, .agg #[.int .i64 0, .int .i64 0, .int .i64 0, .int .i64 0]⟩:=by kernel_rfl
theorem Zx : ZX Tryz.prog (nat_lit 37) = some ⟨true,5,56, .agg #[.slice none 0 0, .int .i64 0, .int .i64 0, .int .i64 0, .int .i64 0]⟩:=by kernel_rfl
theorem Zod : ZX Tryz.prog (nat_lit 42) = some ⟨false,1,8, .int .i64 0⟩:=by kernel_rfl
theorem XM : ZX Tryz.prog (nat_lit 48) = some ⟨false,1,24, .slice none 0 0⟩:=by kernel_rfl
theorem XZ : ZX Tryz.prog (nat_lit 50) = some ⟨true,2,40, .agg #[.slice none 0 0,Zd []]⟩:=by kernel_rfl
theorem Ya : ZX Tryz.prog (nat_lit 58) = some ⟨true,3,32, .agg #[.int .i64 0, .int .i64 0,Zd []]⟩:=by kernel_rfl
theorem Zlc : ZX Tryz.prog (nat_lit 71) = some ⟨false,1,24, .slice none 0 0⟩:=by kernel_rfl
theorem QY : ZX Tryz.prog (nat_lit 73) = some ⟨true,3,40, .agg #[.slice none 0 0, .int .i64 0, .int .i64 0]⟩:=by kernel_rfl
theorem ZP : ZX Tryz.prog (nat_lit 105) = some ⟨true,3,40, .agg #[.int .i64 0, .int .i64 0, .slice none 0 0]⟩:=by kernel_rfl
theorem Xe : ZX Tryz.prog (nat_lit 130) = some ⟨true,2,24, .agg #[Zd [], .int .i64 0]⟩:=by kernel_rfl
theorem Xm : ZX Tryz.prog (nat_lit 136) = some ⟨true,2,48, .agg #[.slice none 0 0, .slice none 0 0]⟩:=by kernel_rfl
theorem Zgh : ZX Tryz.prog (nat_lit 139) = some ⟨true,14,248, .agg #[Zd [], .slice none 0 0, .int .i64 0, .slice none 0 0, .slice none 0 0, .int .i64 0,Zd [], .slice none 0 0, .int .i64 0, .slice none 0 0, .slice none 0 0, .int .i64 0, .slice none 0 0,Zd []]⟩:=by kernel_rfl
theorem ZtD : fieldsOf Tryz.prog (nat_lit 25) = some [(0,1),(1,1),(2,1),(3,1)]:=by kernel_rfl
theorem Za3 : fieldsOf Tryz.prog (nat_lit 28) = some [(0,4),(4,1),(5,1)]:=by kernel_rfl
theorem X6 : fieldsOf Tryz.prog (nat_lit 33) = some [(0,1),(1,1)]:=by kernel_rfl
theorem Zfy : fieldsOf Tryz.prog (nat_lit 35) = some [(0,2),(2,2)]:=by kernel_rfl
theorem Zbj : fieldsOf Tryz.prog (nat_lit 37) = some [(0,1),(1,4)]:=by kernel_rfl
theorem Zrw : fieldsOf Tryz.prog (nat_lit 58) = some [(0,1),(1,1),(2,1)]:=by kernel_rfl
theorem Zrx : fieldsOf Tryz.prog (nat_lit 73) = some [(0,1),(1,2)]:=by kernel_rfl
theorem Zim : fieldsOf Tryz.prog (nat_lit 105) = some [(0,1),(1,1),(2,1)]:=by kernel_rfl
theorem Zp1 : fieldsOf Tryz.prog (nat_lit 130) = some [(0,1),(1,1)]:=by kernel_rfl
theorem ZsH : fieldsOf Tryz.prog (nat_lit 136) = some [(0,1),(1,1)]:=by kernel_rfl
theorem Zp2 : fieldsOf Tryz.prog (nat_lit 139) = some [(0,6),(6,6),(12,2)]:=by kernel_rfl
def ft : FTab Tryz.prog:=⟨[(nat_lit 25,[(0,1),(1,1),(2,1),(3,1)]),(nat_lit 28,[(0,4),(4,1),(5,1)]),(nat_lit 33,[(0,1),(1,1)]),(nat_lit 35,[(0,2),(2,2)]),(nat_lit 37,[(0,1),(1,4)]),(nat_lit 50,[(0,1),(1,1)]),(nat_lit 58,[(0,1),(1,1),(2,1)]),(nat_lit 73,[(0,1),(1,2)]),(nat_lit 87,[(0,1),(1,1),(2,1),(3,3),(6,1)]),(nat_lit 105,[(0,1),(1,1),(2,1)]),(nat_lit 130,[(0,1),(1,1)]),(nat_lit 136,[(0,1),(1,1)]),(nat_lit 139,[(0,6),(6,6),(12,2)])],fun x hx=>by simp only [List.mem_cons,List.not_mem_nil,or_false] at hx; rcases hx with rfl | rfl | rfl | rfl | rfl | rfl | rfl | rfl | rfl | rfl | rfl | rfl | rfl <;> kernel_rfl⟩
theorem ul3 : Tryz.prog.underlying (nat_lit 3) = some (.int .i64):=by kernel_rfl
theorem ul4 : Tryz.prog.underlying (nat_lit 4) = some (.bool):=by kernel_rfl
theorem ul5 : Tryz.prog.underlying (nat_lit 5) = some (.int .u8):=by kernel_rfl
theorem ul9 : Tryz.prog.underlying (nat_lit 9) = some (.string):=by kernel_rfl
theorem Qa : Tryz.prog.underlying (nat_lit 22) = some (.slice (nat_lit 130)):=by kernel_rfl
theorem ZbH : Tryz.prog.underlying (nat_lit 23) = some (.slice (nat_lit 50)):=by kernel_rfl
theorem YB : Tryz.prog.underlying (nat_lit 26) = some (.slice (nat_lit 37)):=by kernel_rfl
theorem Ys : Tryz.prog.underlying (nat_lit 31) = some (.slice (nat_lit 58)):=by kernel_rfl
theorem Y8 : Tryz.prog.underlying (nat_lit 48) = some (.slice (nat_lit 9)):=by kernel_rfl
theorem ZaI : Tryz.prog.underlying (nat_lit 51) = some (.slice (nat_lit 31)):=by kernel_rfl
theorem Zcl : Tryz.prog.underlying (nat_lit 63) = some (.slice (nat_lit 73)):=by kernel_rfl
theorem Yx : Tryz.prog.underlying (nat_lit 71) = some (.slice (nat_lit 33)):=by kernel_rfl
theorem Zds : Tryz.prog.underlying (nat_lit 113) = some (.slice (nat_lit 3)):=by kernel_rfl
theorem QP : Tryz.prog.underlying (nat_lit 133) = some (.slice (nat_lit 136)):=by kernel_rfl
theorem Zby : Tryz.prog.underlying (nat_lit 160) = some (.slice (nat_lit 105)):=by kernel_rfl
theorem Zld : Tryz.prog.underlying (nat_lit 176) = some (.slice (nat_lit 42)):=by kernel_rfl
theorem Zp4 : Tryz.prog.underlying (nat_lit 181) = some (.map (nat_lit 9) (nat_lit 3)):=by kernel_rfl
theorem Zp5 : Tryz.prog.underlying (nat_lit 207) = some (.int .u64):=by kernel_rfl
theorem Zp6 : Tryz.prog.underlying (nat_lit 220) = some (.slice (nat_lit 5)):=by kernel_rfl
theorem Zp7 : Tryz.prog.underlying (nat_lit 245) = some (.int .u64):=by kernel_rfl
theorem ZtE : TSl Tryz.prog (nat_lit 22) (nat_lit 130) ⟨true,2,24, .agg #[Zd [], .int .i64 0]⟩:=⟨Qa,Xe⟩
theorem YE : TSl Tryz.prog (nat_lit 26) (nat_lit 37) ⟨true,5,56, .agg #[.slice none 0 0, .int .i64 0, .int .i64 0, .int .i64 0, .int .i64 0]⟩:=⟨YB,Zx⟩
theorem Zdt : TSl Tryz.prog (nat_lit 31) (nat_lit 58) ⟨true,3,32, .agg #[.int .i64 0, .int .i64 0,Zd []]⟩:=⟨Ys,Ya⟩
theorem Zry : TSl Tryz.prog (nat_lit 48) (nat_lit 9) ⟨false,1,16,Zd []⟩:=⟨Y8,Yw⟩
theorem Zrz : TSl Tryz.prog (nat_lit 51) (nat_lit 31) ⟨false,1,24, .slice none 0 0⟩:=⟨ZaI,ZG⟩
theorem Zle : TSl Tryz.prog (nat_lit 63) (nat_lit 73) ⟨true,3,40, .agg #[.slice none 0 0, .int .i64 0, .int .i64 0]⟩:=⟨Zcl,QY⟩
theorem Yn : TSl Tryz.prog (nat_lit 71) (nat_lit 33) ⟨true,2,16, .agg #[.int .i64 0, .int .i64 0]⟩:=⟨Yx,Zt⟩
theorem Zdu : TSl Tryz.prog (nat_lit 113) (nat_lit 3) ⟨false,1,8, .int .i64 0⟩:=⟨Zds,Z7⟩
theorem Zp8 : TSl Tryz.prog (nat_lit 133) (nat_lit 136) ⟨true,2,48, .agg #[.slice none 0 0, .slice none 0 0]⟩:=⟨QP,Xm⟩
theorem Zbz : TSl Tryz.prog (nat_lit 160) (nat_lit 105) ⟨true,3,40, .agg #[.int .i64 0, .int .i64 0, .slice none 0 0]⟩:=⟨Zby,ZP⟩
theorem ZsI : TSl Tryz.prog (nat_lit 176) (nat_lit 42) ⟨false,1,8, .int .i64 0⟩:=⟨Zld,Zod⟩
theorem Zb0 : TSl Tryz.prog (nat_lit 220) (nat_lit 5) ⟨false,1,1, .int .u8 0⟩:=⟨Zp6,ti5⟩
theorem Yq : Zh Tryz.prog (nat_lit 11):=Ze Tryz.func11 (by decide) rfl
theorem Xu : Zh Tryz.prog (nat_lit 12):=Ze Tryz.func12 (by decide) rfl
theorem Xv : Zh Tryz.prog (nat_lit 13):=Ze Tryz.func13 (by decide) rfl
theorem QN : Zh Tryz.prog (nat_lit 14):=Ze Tryz.func14 (by decide) rfl
theorem ZaJ : Zh Tryz.prog (nat_lit 15):=Ze Tryz.func15 (by decide) rfl
theorem ZbI : Zh Tryz.prog (nat_lit 16):=Ze Tryz.func16 (by decide) rfl
theorem Zbk : Zh Tryz.prog (nat_lit 17):=Ze Tryz.func17 (by decide) rfl
theorem ZbJ : Zh Tryz.prog (nat_lit 18):=Ze Tryz.func18 (by decide) rfl
theorem Zfz : Zh Tryz.prog (nat_lit 19):=Ze Tryz.func19 (by decide) rfl
theorem Zeg : Zh Tryz.prog (nat_lit 20):=Ze Tryz.func20 (by decide) rfl
theorem Zlf : Zh Tryz.prog (nat_lit 21):=Ze Tryz.func21 (by decide) rfl
theorem ZiO : Zh Tryz.prog (nat_lit 22):=Ze Tryz.func22 (by decide) rfl
theorem ZbK : Zh Tryz.prog (nat_lit 23):=Ze Tryz.func23 (by decide) rfl
theorem ZaK : Zh Tryz.prog (nat_lit 24):=Ze Tryz.func24 (by decide) rfl
theorem Zf0 : Zh Tryz.prog (nat_lit 25):=Ze Tryz.func25 (by decide) rfl
theorem ZgQ : Zh Tryz.prog (nat_lit 26):=Ze Tryz.func26 (by decide) rfl
theorem ZiP : Zh Tryz.prog (nat_lit 27):=Ze Tryz.func27 (by decide) rfl
theorem ZiQ : Zh Tryz.prog (nat_lit 28):=Ze Tryz.func28 (by decide) rfl
theorem ZiR : Zh Tryz.prog (nat_lit 29):=Ze Tryz.func29 (by decide) rfl
theorem Zr0 : Zh Tryz.prog (nat_lit 30):=Ze Tryz.func30 (by decide) rfl
theorem Zoe : Zh Tryz.prog (nat_lit 31):=Ze Tryz.func31 (by decide) rfl
theorem Zof : Zh Tryz.prog (nat_lit 32):=Ze Tryz.func32 (by decide) rfl
theorem Zr1 : Zh Tryz.prog (nat_lit 33):=Ze Tryz.func33 (by decide) rfl
theorem Zlg : Zh Tryz.prog (nat_lit 34):=Ze Tryz.func34 (by decide) rfl
theorem Zr2 : Zh Tryz.prog (nat_lit 35):=Ze Tryz.func35 (by decide) rfl
theorem Zr3 : Zh Tryz.prog (nat_lit 36):=Ze Tryz.func36 (by decide) rfl
theorem Zog : Zh Tryz.prog (nat_lit 37):=Ze Tryz.func37 (by decide) rfl
theorem Zlh : Zh Tryz.prog (nat_lit 38):=Ze Tryz.func38 (by decide) rfl
theorem Zf1 : Zh Tryz.prog (nat_lit 39):=Ze Tryz.func39 (by decide) rfl
theorem ZiS : Zh Tryz.prog (nat_lit 40):=Ze Tryz.func40 (by decide) rfl
theorem Zli : Zh Tryz.prog (nat_lit 49):=Ze Tryz.func49 (by decide) rfl
theorem ZtF : Zh Tryz.prog (nat_lit 55):=Ze Tryz.func55 (by decide) rfl
theorem ZiT : Zh Tryz.prog (nat_lit 56):=Ze Tryz.func56 (by decide) rfl
theorem Zr4 : Zh Tryz.prog (nat_lit 57):=Ze Tryz.func57 (by decide) rfl
theorem Zr5 : Zh Tryz.prog (nat_lit 58):=Ze Tryz.func58 (by decide) rfl
theorem ZtG : Zh Tryz.prog (nat_lit 59):=Ze Tryz.func59 (by decide) rfl
theorem Zr6 : Zh Tryz.prog (nat_lit 60):=Ze Tryz.func60 (by decide) rfl
theorem Zr7 : Zh Tryz.prog (nat_lit 61):=Ze Tryz.func61 (by decide) rfl
theorem Zoh : Zh Tryz.prog (nat_lit 62):=Ze Tryz.func62 (by decide) rfl
theorem Zoi : Zh Tryz.prog (nat_lit 63):=Ze Tryz.func63 (by decide) rfl
theorem Zr8 : Zh Tryz.prog (nat_lit 64):=Ze Tryz.func64 (by decide) rfl
theorem ZtH : Zh Tryz.prog (nat_lit 65):=Ze Tryz.func65 (by decide) rfl
theorem Zlj : Zh Tryz.prog (nat_lit 66):=Ze Tryz.func66 (by decide) rfl
theorem ZtI : Zh Tryz.prog (nat_lit 67):=Ze Tryz.func67 (by decide) rfl
theorem Zr9 : Zh Tryz.prog (nat_lit 72):=Ze Tryz.func72 (by decide) rfl
theorem ZcP : Zh Tryz.prog (nat_lit 73):=Ze Tryz.func73 (by decide) rfl
theorem ZrA : Zh Tryz.prog (nat_lit 74):=Ze Tryz.func74 (by decide) rfl
theorem Zoj : Zh Tryz.prog (nat_lit 75):=Ze Tryz.func75 (by decide) rfl
theorem ZtJ : Zh Tryz.prog (nat_lit 76):=Ze Tryz.func76 (by decide) rfl
theorem Zok : Zh Tryz.prog (nat_lit 77):=Ze Tryz.func77 (by decide) rfl
theorem ZtK : Zh Tryz.prog (nat_lit 78):=Ze Tryz.func78 (by decide) rfl
theorem ZtL : Zh Tryz.prog (nat_lit 79):=Ze Tryz.func79 (by decide) rfl
theorem Zlk : Zh Tryz.prog (nat_lit 80):=Ze Tryz.func80 (by decide) rfl
theorem Zll : Zh Tryz.prog (nat_lit 81):=Ze Tryz.func81 (by decide) rfl
theorem Zlm : Zh Tryz.prog (nat_lit 85):=Ze Tryz.func85 (by decide) rfl
theorem Zln : Zh Tryz.prog (nat_lit 86):=Ze Tryz.func86 (by decide) rfl
theorem Zol : Zh Tryz.prog (nat_lit 87):=Ze Tryz.func87 (by decide) rfl
theorem ZtM : Zh Tryz.prog (nat_lit 88):=Ze Tryz.func88 (by decide) rfl
theorem ZtN : Zh Tryz.prog (nat_lit 89):=Ze Tryz.func89 (by decide) rfl
theorem ZrB : Zh Tryz.prog (nat_lit 90):=Ze Tryz.func90 (by decide) rfl
theorem ZtO : Zh Tryz.prog (nat_lit 91):=Ze Tryz.func91 (by decide) rfl
theorem ZtP : Zh Tryz.prog (nat_lit 92):=Ze Tryz.func92 (by decide) rfl
theorem ZrC : Zh Tryz.prog (nat_lit 93):=Ze Tryz.func93 (by decide) rfl
theorem ZrD : Zh Tryz.prog (nat_lit 94):=Ze Tryz.func94 (by decide) rfl
theorem ZiU : Zh Tryz.prog (nat_lit 99):=Ze Tryz.func99 (by decide) rfl
theorem ZsJ : Zh Tryz.prog (nat_lit 100):=Ze Tryz.func100 (by decide) rfl
theorem ZsK : Zh Tryz.prog (nat_lit 106):=Ze Tryz.func106 (by decide) rfl
theorem ZsL : Zh Tryz.prog (nat_lit 112):=Ze Tryz.func112 (by decide) rfl
theorem ZsM : Zh Tryz.prog (nat_lit 113):=Ze Tryz.func113 (by decide) rfl
theorem Qy : Zh Tryz.prog (nat_lit 114):=Ze Tryz.func114 (by decide) rfl
theorem Zin : Zh Tryz.prog (nat_lit 115):=Ze Tryz.func115 (by decide) rfl
theorem ZsN : Zh Tryz.prog (nat_lit 116):=Ze Tryz.func116 (by decide) rfl
theorem Zp9 : Zh Tryz.prog (nat_lit 117):=Ze Tryz.func117 (by decide) rfl
theorem Zlo : Zh Tryz.prog (nat_lit 118):=Ze Tryz.func118 (by decide) rfl
theorem ZpA : Zh Tryz.prog (nat_lit 119):=Ze Tryz.func119 (by decide) rfl
theorem ZpB : Zh Tryz.prog (nat_lit 120):=Ze Tryz.func120 (by decide) rfl
theorem Zgi : Zh Tryz.prog (nat_lit 121):=Ze Tryz.func121 (by decide) rfl
theorem Zlp : Zh Tryz.prog (nat_lit 122):=Ze Tryz.func122 (by decide) rfl
theorem ZsO : Zh Tryz.prog (nat_lit 123):=Ze Tryz.func123 (by decide) rfl
theorem Zlq : Zh Tryz.prog (nat_lit 124):=Ze Tryz.func124 (by decide) rfl
theorem ZsP : Zh Tryz.prog (nat_lit 125):=Ze Tryz.func125 (by decide) rfl
theorem ZsQ : Zh Tryz.prog (nat_lit 126):=Ze Tryz.func126 (by decide) rfl
theorem ZsR : Zh Tryz.prog (nat_lit 127):=Ze Tryz.func127 (by decide) rfl
theorem ZpC : Zh Tryz.prog (nat_lit 128):=Ze Tryz.func128 (by decide) rfl
theorem ZsS : Zh Tryz.prog (nat_lit 130):=Ze Tryz.func130 (by decide) rfl
theorem Zc5 : Zh Tryz.prog (nat_lit 131):=Ze Tryz.func131 (by decide) rfl
theorem ZsT : Zh Tryz.prog (nat_lit 132):=Ze Tryz.func132 (by decide) rfl
theorem ZsU : Zh Tryz.prog (nat_lit 137):=Ze Tryz.func137 (by decide) rfl
theorem ZsV : Zh Tryz.prog (nat_lit 138):=Ze Tryz.func138 (by decide) rfl
theorem ZpD : Zh Tryz.prog (nat_lit 140):=Ze Tryz.func140 (by decide) rfl
theorem ZsW : Zh Tryz.prog (nat_lit 141):=Ze Tryz.func141 (by decide) rfl
theorem ZsX : Zh Tryz.prog (nat_lit 142):=Ze Tryz.func142 (by decide) rfl
theorem ZsY : Zh Tryz.prog (nat_lit 143):=Ze Tryz.func143 (by decide) rfl
theorem ZpE : Zh Tryz.prog (nat_lit 144):=Ze Tryz.func144 (by decide) rfl
theorem ZpF : Zh Tryz.prog (nat_lit 145):=Ze Tryz.func145 (by decide) rfl
theorem ZpG : Zh Tryz.prog (nat_lit 146):=Ze Tryz.func146 (by decide) rfl
theorem ZsZ : Zh Tryz.prog (nat_lit 147):=Ze Tryz.func147 (by decide) rfl
theorem ZpH : Zh Tryz.prog (nat_lit 153):=Ze Tryz.func153 (by decide) rfl
theorem Zta : Zh Tryz.prog (nat_lit 154):=Ze Tryz.func154 (by decide) rfl
theorem ZpI : Zh Tryz.prog (nat_lit 155):=Ze Tryz.func155 (by decide) rfl
theorem Zlr : Zh Tryz.prog (nat_lit 163):=Ze Tryz.func163 (by decide) rfl
theorem Ztb : Zh Tryz.prog (nat_lit 164):=Ze Tryz.func164 (by decide) rfl
theorem Ztc : Zh Tryz.prog (nat_lit 165):=Ze Tryz.func165 (by decide) rfl
theorem ZpJ : Zh Tryz.prog (nat_lit 168):=Ze Tryz.func168 (by decide) rfl
theorem Zio : Zh Tryz.prog (nat_lit 169):=Ze Tryz.func169 (by decide) rfl
theorem ZpK : Zh Tryz.prog (nat_lit 170):=Ze Tryz.func170 (by decide) rfl
theorem Ztd : Zh Tryz.prog (nat_lit 171):=Ze Tryz.func171 (by decide) rfl
theorem Zte : Zh Tryz.prog (nat_lit 172):=Ze Tryz.func172 (by decide) rfl
theorem Ztf : Zh Tryz.prog (nat_lit 173):=Ze Tryz.func173 (by decide) rfl
theorem ZpL : Zh Tryz.prog (nat_lit 174):=Ze Tryz.func174 (by decide) rfl
theorem Ztg : Zh Tryz.prog (nat_lit 175):=Ze Tryz.func175 (by decide) rfl
theorem Zth : Zh Tryz.prog (nat_lit 176):=Ze Tryz.func176 (by decide) rfl
theorem Zti : Zh Tryz.prog (nat_lit 178):=Ze Tryz.func178 (by decide) rfl
theorem Zb1 : Zh Tryz.prog (nat_lit 180):=Ze Tryz.func180 (by decide) rfl
theorem ZpM : Zh Tryz.prog (nat_lit 181):=Ze Tryz.func181 (by decide) rfl
theorem Ztj : Zh Tryz.prog (nat_lit 184):=Ze Tryz.func184 (by decide) rfl
theorem Ztk : Zh Tryz.prog (nat_lit 186):=Ze Tryz.func186 (by decide) rfl
theorem Ztl : Zh Tryz.prog (nat_lit 187):=Ze Tryz.func187 (by decide) rfl
theorem Ztm : Zh Tryz.prog (nat_lit 188):=Ze Tryz.func188 (by decide) rfl
theorem Ztn : Zh Tryz.prog (nat_lit 189):=Ze Tryz.func189 (by decide) rfl
theorem Zto : Zh Tryz.prog (nat_lit 191):=Ze Tryz.func191 (by decide) rfl
theorem Ztp : Zh Tryz.prog (nat_lit 198):=Ze Tryz.func198 (by decide) rfl
theorem Ztq : Zh Tryz.prog (nat_lit 199):=Ze Tryz.func199 (by decide) rfl
theorem ZpN : Zh Tryz.prog (nat_lit 210):=Ze Tryz.func210 (by decide) rfl
theorem Ztr : Zh Tryz.prog (nat_lit 226):=Ze Tryz.func226 (by decide) rfl
theorem ZpO : Zh Tryz.prog (nat_lit 239):=Ze Tryz.func239 (by decide) rfl
theorem ZpP : Tryz.prog.eqGuardType Tryz.prog.depth (nat_lit 35) = false:=by kernel_rfl
set_option maxHeartbeats 1000000 in
theorem ZiV (x y : Rect) (w : World) : (Op.equalIn 10000 (nat_lit 35) (.agg #[.int .i64 x.d.a, .int .i64 x.d.b, .int .i64 x.x.a, .int .i64 x.x.b]) (.agg #[.int .i64 y.d.a, .int .i64 y.d.b, .int .i64 y.x.a, .int .i64 y.x.b])).run Tryz.prog w = .ok (decide (x = y)) w:=by
 have u3:=Tryz.underlying3
 have a3:=Tryz.isAgg3
 have z3:=Tryz.sizeOf3
 have u33:=Tryz.underlying33
 have a33:=Tryz.isAgg33
 have z33:=Tryz.sizeOf33
 have e33 : ∀ d xs ys,(Op.equalIn (d+1) (nat_lit 33) (.agg xs) (.agg ys)).run Tryz.prog w = (Op.eqFields d xs ys (Tryz.prog.fieldsOf (nat_lit 33)).toList).run Tryz.prog w:=fun d xs ys=>run_equalIn_agg w d (nat_lit 33) xs ys (by kernel_rfl) (by kernel_rfl)
 rw [show (10000 : Nat) = 9999 + 1 from rfl,run_equalIn_agg w 9999 (nat_lit 35) _ _ (by kernel_rfl) (by kernel_rfl)]
 simp only [Program.fieldsOf,Tryz.underlying35,Zd] at e33 ⊢
 go_simp
 skip
 obtain ⟨⟨x1,x2⟩,⟨x3,x4⟩⟩:=x
 obtain ⟨⟨y1,y2⟩,⟨y3,y4⟩⟩:=y
 by_cases h1 : x1 = y1 <;> by_cases h2 : x2 = y2 <;> by_cases h3 : x3 = y3 <;> by_cases h4 : x4 = y4 <;> simp [h1,h2,h3,h4]
theorem Zip : Tryz.prog.eqGuardType Tryz.prog.depth (nat_lit 33) = false:=by kernel_rfl
set_option maxHeartbeats 1000000 in
theorem Zdv (x y : Span) (w : World) : (Op.equalIn 10000 (nat_lit 33) (.agg #[.int .i64 x.a, .int .i64 x.b]) (.agg #[.int .i64 y.a, .int .i64 y.b])).run Tryz.prog w = .ok (decide (x = y)) w:=by
 have u3:=Tryz.underlying3
 have a3:=Tryz.isAgg3
 have z3:=Tryz.sizeOf3
 rw [show (10000 : Nat) = 9999 + 1 from rfl,run_equalIn_agg w 9999 (nat_lit 33) _ _ (by kernel_rfl) (by kernel_rfl)]
 simp only [Program.fieldsOf,Tryz.underlying33,Zd]
 go_simp
 skip
 obtain ⟨x1,x2⟩:=x
 obtain ⟨y1,y2⟩:=y
 by_cases h1 : x1 = y1 <;> by_cases h2 : x2 = y2 <;> simp [h1,h2]
theorem Ziq : Tryz.prog.eqGuardType Tryz.prog.depth (nat_lit 58) = false:=by kernel_rfl
set_option maxHeartbeats 1000000 in
theorem ZeS (x y : Val) (w : World) : (Op.equalIn 10000 (nat_lit 58) (.agg #[.int .i64 x.k, .int .i64 x.n,Zd x.s]) (.agg #[.int .i64 y.k, .int .i64 y.n,Zd y.s])).run Tryz.prog w = .ok (decide (x = y)) w:=by
 have u3:=Tryz.underlying3
 have a3:=Tryz.isAgg3
 have z3:=Tryz.sizeOf3
 have u9:=Tryz.underlying9
 have a9:=Tryz.isAgg9
 have z9:=Tryz.sizeOf9
 rw [show (10000 : Nat) = 9999 + 1 from rfl,run_equalIn_agg w 9999 (nat_lit 58) _ _ (by kernel_rfl) (by kernel_rfl)]
 simp only [Program.fieldsOf,Tryz.underlying58,Zd]
 go_simp
 skip
 obtain ⟨x1,x2,x3⟩:=x
 obtain ⟨y1,y2,y3⟩:=y
 by_cases h1 : x1 = y1 <;> by_cases h2 : x2 = y2 <;> by_cases h3 : x3 = y3 <;> simp [h1,h2,h3]
theorem mixed : Tryz.prog.follows .mixedOrders = true:=by kernel_rfl
theorem dr {N id : Nat} {Q : Exit → Env → World → Prop} {ρ : Env} {w w0 : World} {ops : List Oper} {X : List Nat} {G0 G : GH} {L : Own} (T : List (Nat × Bool)) (hv : List (Nat × Value)) (hS : (St w0 X G0 G L) w) (ho : Zck Tryz.prog ops (St w0 X G0 G L) (T.map (·.1)) hv (YT ft ops (T.map (·.1)) hv 0 ops ρ) 0 ops)
  (hT : ∀ w,(St w0 X G0 G L) w → goT ft ops (St w0 X G0 G L) Q T (YT ft ops (T.map (·.1)) hv 0 ops ρ) w) (hN : ops.all (ZaA N) = true:=by kernel_rfl) (hp : Zik ops (Qd ops (T.map (·.1))) = true:=by kernel_rfl)
  (hn : T.map (fun x=>XU (Qd ops (T.map (·.1))) x.1) = T.map (·.2):=by kernel_rfl) (ha : ZaC ft ops (T.map (·.1)) hv (YT ft ops (T.map (·.1)) hv 0 ops ρ) 0 ops = ZaD (T.map (·.1)) hv (YT ft ops (T.map (·.1)) hv 0 ops ρ) 0 ops:=by exact rfl) : DR Tryz.prog N id ops.toArray Q ρ w:=
 DR.go _ T hv mixed hN hp hn ha hS.draw ho hT
theorem drT {N id : Nat} {Q : Exit → Env → World → Prop} {ρ : Env} {w w0 : World} {ops : List Oper} {X : List Nat} {G0 G : GH} {L : Own} (T : List Nat) (hv : List (Nat × Value)) (hS : (St w0 X G0 G L) w) (ho : Zck Tryz.prog ops (St w0 X G0 G L) T hv (YT ft ops T hv 0 ops ρ) 0 ops)
  (hT : ∀ w,(St w0 X G0 G L) w → TG Tryz.prog ops.toArray (Qd ops T) (St w0 X G0 G L) Q T.length T (YT ft ops T hv 0 ops ρ) w) (hN : ops.all (ZaA N) = true:=by kernel_rfl) (hp : ZfP ops (Qd ops T) = true:=by kernel_rfl)
  (ha : ZaC ft ops T hv (YT ft ops T hv 0 ops ρ) 0 ops = ZaD T hv (YT ft ops T hv 0 ops ρ) 0 ops:=by exact rfl) : DR Tryz.prog N id ops.toArray Q ρ w:=
 DR.goG _ T hv mixed hN hp ha hS.draw ho hT
theorem drD {N id : Nat} {Q : Exit → Env → World → Prop} {ρ : Env} {w : World} {ops : List Oper} {C : World → Prop} (hD : ∀ w,C w → C { w with drawn:=w.drawn + 1 }) (T : List (Nat × Bool)) (hv : List (Nat × Value)) (hS : C w) (ho : Zck Tryz.prog ops C (T.map (·.1)) hv (YT ft ops (T.map (·.1)) hv 0 ops ρ) 0 ops)
  (hT : ∀ w,C w → goT ft ops C Q T (YT ft ops (T.map (·.1)) hv 0 ops ρ) w) (hN : ops.all (ZaA N) = true:=by kernel_rfl) (hp : Zik ops (Qd ops (T.map (·.1))) = true:=by kernel_rfl)
  (hn : T.map (fun x=>XU (Qd ops (T.map (·.1))) x.1) = T.map (·.2):=by kernel_rfl) (ha : ZaC ft ops (T.map (·.1)) hv (YT ft ops (T.map (·.1)) hv 0 ops ρ) 0 ops = ZaD (T.map (·.1)) hv (YT ft ops (T.map (·.1)) hv 0 ops ρ) 0 ops:=by exact rfl) : DR Tryz.prog N id ops.toArray Q ρ w:=
 DR.go _ T hv mixed hN hp hn ha (hD _ hS) ho hT
end Go.Civ
