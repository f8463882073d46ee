/- Lemmas. -/
import Derived.Test.YthgeclodflmiaaaGreatN06
import Derived.Test.YthgeclodflmiaaaGreatN12
import Derived.Test.YthgeclodflmiaaaGreatN16
import Derived.Test.YthgeclodflmiaaaGreatProg
import Derived.KernelRfl
import Derived.WalkKit
set_option linter.unusedVariables false
set_option linter.unusedSimpArgs false
set_option maxRecDepth 100000
set_option maxHeartbeats 4000000
namespace Go.Civ
open Go.Proofs
theorem Zl : Ym Tryz.prog (nat_lit 3) = some ⟨false,1,8, .int .i64 0⟩:=by kernel_rfl
theorem ti4 : Ym Tryz.prog (nat_lit 4) = some ⟨false,1,1, .bool false⟩:=by kernel_rfl
theorem ti5 : Ym Tryz.prog (nat_lit 5) = some ⟨false,1,1, .int .u8 0⟩:=by kernel_rfl
theorem Yk : Ym Tryz.prog (nat_lit 9) = some ⟨false,1,16,Zb []⟩:=by kernel_rfl
theorem Zer : Ym Tryz.prog (nat_lit 22) = some ⟨false,1,24, .slice none 0 0⟩:=by kernel_rfl
theorem Zqj : Ym Tryz.prog (nat_lit 23) = some ⟨false,1,24, .slice none 0 0⟩:=by kernel_rfl
theorem Zb2 : Ym Tryz.prog (nat_lit 25) = some ⟨true,4,72, .agg #[Zb [], .slice none 0 0, .int .i64 0, .slice none 0 0]⟩:=by kernel_rfl
theorem YX : Ym Tryz.prog (nat_lit 26) = some ⟨false,1,24, .slice none 0 0⟩:=by kernel_rfl
theorem Zw : Ym Tryz.prog (nat_lit 28) = some ⟨true,6,104, .agg #[Zb [], .slice none 0 0, .int .i64 0, .slice none 0 0, .slice none 0 0, .int .i64 0]⟩:=by kernel_rfl
theorem ZK : Ym Tryz.prog (nat_lit 31) = some ⟨false,1,24, .slice none 0 0⟩:=by kernel_rfl
theorem Zm : Ym Tryz.prog (nat_lit 33) = some ⟨true,2,16, .agg #[.int .i64 0, .int .i64 0]⟩:=by kernel_rfl
theorem Qz : Ym Tryz.prog (nat_lit 35) = some ⟨true,4,32, .agg #[.int .i64 0, .int .i64 0, .int .i64 0, .int .i64 0]⟩:=by kernel_rfl
theorem Zs : Ym Tryz.prog (nat_lit 37) = some ⟨true,5,56, .agg #[.slice none 0 0, .int .i64 0, .int .i64 0, .int .i64 0, .int .i64 0]⟩:=by kernel_rfl
theorem Zqk : Ym Tryz.prog (nat_lit 42) = some ⟨false,1,8, .int .i64 0⟩:=by kernel_rfl
theorem ZmD : Ym Tryz.prog (nat_lit 48) = some ⟨false,1,24, .slice none 0 0⟩:=by kernel_rfl
theorem ZmE : Ym Tryz.prog (nat_lit 50) = some ⟨true,2,40, .agg #[.slice none 0 0,Zb []]⟩:=by kernel_rfl
theorem ZG : Ym Tryz.prog (nat_lit 58) = some ⟨true,3,32, .agg #[.int .i64 0, .int .i64 0,Zb []]⟩:=by kernel_rfl
theorem ZmF : Ym Tryz.prog (nat_lit 71) = some ⟨false,1,24, .slice none 0 0⟩:=by kernel_rfl
theorem ZmG : Ym Tryz.prog (nat_lit 73) = some ⟨true,3,40, .agg #[.slice none 0 0, .int .i64 0, .int .i64 0]⟩:=by kernel_rfl
theorem Za3 : Ym Tryz.prog (nat_lit 85) = some ⟨false,1,24, .slice none 0 0⟩:=by kernel_rfl
theorem X6 : Ym Tryz.prog (nat_lit 87) = some ⟨true,7,96, .agg #[.int .i64 0,Zb [],Zb [], .int .i64 0, .int .i64 0,Zb [], .slice none 0 0]⟩:=by kernel_rfl
theorem Xh : Ym Tryz.prog (nat_lit 105) = some ⟨true,3,40, .agg #[.int .i64 0, .int .i64 0, .slice none 0 0]⟩:=by kernel_rfl
theorem X0 : Ym Tryz.prog (nat_lit 130) = some ⟨true,2,24, .agg #[Zb [], .int .i64 0]⟩:=by kernel_rfl
theorem XF : Ym Tryz.prog (nat_lit 136) = some ⟨true,2,48, .agg #[.slice none 0 0, .slice none 0 0]⟩:=by kernel_rfl
theorem Zwj : fieldsOf Tryz.prog (nat_lit 25) = some [(0,1),(1,1),(2,1),(3,1)]:=by kernel_rfl
theorem Zbm : fieldsOf Tryz.prog (nat_lit 28) = some [(0,4),(4,1),(5,1)]:=by kernel_rfl
theorem Xg : fieldsOf Tryz.prog (nat_lit 33) = some [(0,1),(1,1)]:=by kernel_rfl
theorem QY : fieldsOf Tryz.prog (nat_lit 35) = some [(0,2),(2,2)]:=by kernel_rfl
theorem Qq : fieldsOf Tryz.prog (nat_lit 37) = some [(0,1),(1,4)]:=by kernel_rfl
theorem Zql : fieldsOf Tryz.prog (nat_lit 58) = some [(0,1),(1,1),(2,1)]:=by kernel_rfl
theorem Zwk : fieldsOf Tryz.prog (nat_lit 73) = some [(0,1),(1,2)]:=by kernel_rfl
theorem Zqm : fieldsOf Tryz.prog (nat_lit 87) = some [(0,1),(1,1),(2,1),(3,3),(6,1)]:=by kernel_rfl
theorem ZrL : fieldsOf Tryz.prog (nat_lit 105) = some [(0,1),(1,1),(2,1)]:=by kernel_rfl
theorem ZmH : fieldsOf Tryz.prog (nat_lit 130) = some [(0,1),(1,1)]:=by kernel_rfl
theorem Zva : fieldsOf Tryz.prog (nat_lit 136) = some [(0,1),(1,1)]:=by kernel_rfl
def ft : FTab Tryz.prog:=⟨[(nat_lit 25,[(0,1),(1,1),(2,1),(3,1)]),(nat_lit 28,[(0,4),(4,1),(5,1)]),(nat_lit 33,[(0,1),(1,1)]),(nat_lit 35,[(0,2),(2,2)]),(nat_lit 37,[(0,1),(1,4)]),(nat_lit 50,[(0,1),(1,1)]),(nat_lit 58,[(0,1),(1,1),(2,1)]),(nat_lit 73,[(0,1),(1,2)]),(nat_lit 87,[(0,1),(1,1),(2,1),(3,3),(6,1)]),(nat_lit 105,[(0,1),(1,1),(2,1)]),(nat_lit 130,[(0,1),(1,1)]),(nat_lit 136,[(0,1),(1,1)]),(nat_lit 139,[(0,6),(6,6),(12,2)])],fun x hx=>by simp only [List.mem_cons,List.not_mem_nil,or_false] at hx; rcases hx with rfl | rfl | rfl | rfl | rfl | rfl | rfl | rfl | rfl | rfl | rfl | rfl | rfl <;> kernel_rfl⟩
theorem ul3 : Tryz.prog.underlying (nat_lit 3) = some (.int .i64):=by kernel_rfl
theorem ul4 : Tryz.prog.underlying (nat_lit 4) = some (.bool):=by kernel_rfl
theorem ul5 : Tryz.prog.underlying (nat_lit 5) = some (.int .u8):=by kernel_rfl
theorem QM : Tryz.prog.underlying (nat_lit 9) = some (.string):=by kernel_rfl
theorem QG : Tryz.prog.underlying (nat_lit 22) = some (.slice (nat_lit 130)):=by kernel_rfl
theorem ZmI : Tryz.prog.underlying (nat_lit 23) = some (.slice (nat_lit 50)):=by kernel_rfl
theorem Yl : Tryz.prog.underlying (nat_lit 26) = some (.slice (nat_lit 37)):=by kernel_rfl
theorem Yj : Tryz.prog.underlying (nat_lit 31) = some (.slice (nat_lit 58)):=by kernel_rfl
theorem ZbN : Tryz.prog.underlying (nat_lit 48) = some (.slice (nat_lit 9)):=by kernel_rfl
theorem XO : Tryz.prog.underlying (nat_lit 51) = some (.slice (nat_lit 31)):=by kernel_rfl
theorem ZmJ : Tryz.prog.underlying (nat_lit 63) = some (.slice (nat_lit 73)):=by kernel_rfl
theorem Yd : Tryz.prog.underlying (nat_lit 71) = some (.slice (nat_lit 33)):=by kernel_rfl
theorem Zal : Tryz.prog.underlying (nat_lit 85) = some (.slice (nat_lit 87)):=by kernel_rfl
theorem Zwl : Tryz.prog.underlying (nat_lit 88) = some (.slice (nat_lit 4)):=by kernel_rfl
theorem ZN : Tryz.prog.underlying (nat_lit 113) = some (.slice (nat_lit 3)):=by kernel_rfl
theorem Zaq : Tryz.prog.underlying (nat_lit 133) = some (.slice (nat_lit 136)):=by kernel_rfl
theorem ZmK : Tryz.prog.underlying (nat_lit 160) = some (.slice (nat_lit 105)):=by kernel_rfl
theorem ZmL : Tryz.prog.underlying (nat_lit 176) = some (.slice (nat_lit 42)):=by kernel_rfl
theorem ZrM : Tryz.prog.underlying (nat_lit 181) = some (.map (nat_lit 9) (nat_lit 3)):=by kernel_rfl
theorem ZrN : Tryz.prog.underlying (nat_lit 207) = some (.int .u64):=by kernel_rfl
theorem ZrO : Tryz.prog.underlying (nat_lit 220) = some (.slice (nat_lit 5)):=by kernel_rfl
theorem ZrP : Tryz.prog.underlying (nat_lit 245) = some (.int .u64):=by kernel_rfl
theorem Zqn : TSl Tryz.prog (nat_lit 22) (nat_lit 130) ⟨true,2,24, .agg #[Zb [], .int .i64 0]⟩:=⟨QG,X0⟩
theorem ZX : TSl Tryz.prog (nat_lit 26) (nat_lit 37) ⟨true,5,56, .agg #[.slice none 0 0, .int .i64 0, .int .i64 0, .int .i64 0, .int .i64 0]⟩:=⟨Yl,Zs⟩
theorem Zgt : TSl Tryz.prog (nat_lit 31) (nat_lit 58) ⟨true,3,32, .agg #[.int .i64 0, .int .i64 0,Zb []]⟩:=⟨Yj,ZG⟩
theorem ZmM : TSl Tryz.prog (nat_lit 48) (nat_lit 9) ⟨false,1,16,Zb []⟩:=⟨ZbN,Yk⟩
theorem Q0 : TSl Tryz.prog (nat_lit 51) (nat_lit 31) ⟨false,1,24, .slice none 0 0⟩:=⟨XO,ZK⟩
theorem ZtU : TSl Tryz.prog (nat_lit 63) (nat_lit 73) ⟨true,3,40, .agg #[.slice none 0 0, .int .i64 0, .int .i64 0]⟩:=⟨ZmJ,ZmG⟩
theorem Y8 : TSl Tryz.prog (nat_lit 71) (nat_lit 33) ⟨true,2,16, .agg #[.int .i64 0, .int .i64 0]⟩:=⟨Yd,Zm⟩
theorem Zwm : TSl Tryz.prog (nat_lit 85) (nat_lit 87) ⟨true,7,96, .agg #[.int .i64 0,Zb [],Zb [], .int .i64 0, .int .i64 0,Zb [], .slice none 0 0]⟩:=⟨Zal,X6⟩
theorem Yg : TSl Tryz.prog (nat_lit 113) (nat_lit 3) ⟨false,1,8, .int .i64 0⟩:=⟨ZN,Zl⟩
theorem ZrQ : TSl Tryz.prog (nat_lit 133) (nat_lit 136) ⟨true,2,48, .agg #[.slice none 0 0, .slice none 0 0]⟩:=⟨Zaq,XF⟩
theorem Zde : TSl Tryz.prog (nat_lit 160) (nat_lit 105) ⟨true,3,40, .agg #[.int .i64 0, .int .i64 0, .slice none 0 0]⟩:=⟨ZmK,Xh⟩
theorem Zvb : TSl Tryz.prog (nat_lit 176) (nat_lit 42) ⟨false,1,8, .int .i64 0⟩:=⟨ZmL,Zqk⟩
theorem Zcb : TSl Tryz.prog (nat_lit 220) (nat_lit 5) ⟨false,1,1, .int .u8 0⟩:=⟨ZrO,ti5⟩
theorem YV : Zi Tryz.prog (nat_lit 11):=Ze Tryz.func11 (by decide) rfl
theorem Xu : Zi Tryz.prog (nat_lit 12):=Ze Tryz.func12 (by decide) rfl
theorem XQ : Zi Tryz.prog (nat_lit 13):=Ze Tryz.func13 (by decide) rfl
theorem Qm : Zi Tryz.prog (nat_lit 14):=Ze Tryz.func14 (by decide) rfl
theorem QH : Zi Tryz.prog (nat_lit 15):=Ze Tryz.func15 (by decide) rfl
theorem Qr : Zi Tryz.prog (nat_lit 16):=Ze Tryz.func16 (by decide) rfl
theorem ZbO : Zi Tryz.prog (nat_lit 17):=Ze Tryz.func17 (by decide) rfl
theorem Zb3 : Zi Tryz.prog (nat_lit 18):=Ze Tryz.func18 (by decide) rfl
theorem Zcu : Zi Tryz.prog (nat_lit 19):=Ze Tryz.func19 (by decide) rfl
theorem Zes : Zi Tryz.prog (nat_lit 20):=Ze Tryz.func20 (by decide) rfl
theorem ZbP : Zi Tryz.prog (nat_lit 21):=Ze Tryz.func21 (by decide) rfl
theorem Zfg : Zi Tryz.prog (nat_lit 22):=Ze Tryz.func22 (by decide) rfl
theorem Zet : Zi Tryz.prog (nat_lit 23):=Ze Tryz.func23 (by decide) rfl
theorem ZbQ : Zi Tryz.prog (nat_lit 24):=Ze Tryz.func24 (by decide) rfl
theorem ZhP : Zi Tryz.prog (nat_lit 25):=Ze Tryz.func25 (by decide) rfl
theorem Zeu : Zi Tryz.prog (nat_lit 26):=Ze Tryz.func26 (by decide) rfl
theorem Zkj : Zi Tryz.prog (nat_lit 27):=Ze Tryz.func27 (by decide) rfl
theorem Zqo : Zi Tryz.prog (nat_lit 28):=Ze Tryz.func28 (by decide) rfl
theorem Zqp : Zi Tryz.prog (nat_lit 29):=Ze Tryz.func29 (by decide) rfl
theorem Zfh : Zi Tryz.prog (nat_lit 30):=Ze Tryz.func30 (by decide) rfl
theorem ZhQ : Zi Tryz.prog (nat_lit 31):=Ze Tryz.func31 (by decide) rfl
theorem Zqq : Zi Tryz.prog (nat_lit 32):=Ze Tryz.func32 (by decide) rfl
theorem Zqr : Zi Tryz.prog (nat_lit 33):=Ze Tryz.func33 (by decide) rfl
theorem Zqs : Zi Tryz.prog (nat_lit 34):=Ze Tryz.func34 (by decide) rfl
theorem Zwn : Zi Tryz.prog (nat_lit 35):=Ze Tryz.func35 (by decide) rfl
theorem Zwo : Zi Tryz.prog (nat_lit 36):=Ze Tryz.func36 (by decide) rfl
theorem Zwp : Zi Tryz.prog (nat_lit 37):=Ze Tryz.func37 (by decide) rfl
theorem ZmN : Zi Tryz.prog (nat_lit 39):=Ze Tryz.func39 (by decide) rfl
theorem ZtV : Zi Tryz.prog (nat_lit 40):=Ze Tryz.func40 (by decide) rfl
theorem Zkk : Zi Tryz.prog (nat_lit 49):=Ze Tryz.func49 (by decide) rfl
theorem Zwq : Zi Tryz.prog (nat_lit 55):=Ze Tryz.func55 (by decide) rfl
theorem Zkl : Zi Tryz.prog (nat_lit 56):=Ze Tryz.func56 (by decide) rfl
theorem Zwr : Zi Tryz.prog (nat_lit 57):=Ze Tryz.func57 (by decide) rfl
theorem ZtW : Zi Tryz.prog (nat_lit 58):=Ze Tryz.func58 (by decide) rfl
theorem Zws : Zi Tryz.prog (nat_lit 59):=Ze Tryz.func59 (by decide) rfl
theorem ZtX : Zi Tryz.prog (nat_lit 60):=Ze Tryz.func60 (by decide) rfl
theorem Zwt : Zi Tryz.prog (nat_lit 61):=Ze Tryz.func61 (by decide) rfl
theorem Zqt : Zi Tryz.prog (nat_lit 62):=Ze Tryz.func62 (by decide) rfl
theorem ZtY : Zi Tryz.prog (nat_lit 63):=Ze Tryz.func63 (by decide) rfl
theorem ZtZ : Zi Tryz.prog (nat_lit 64):=Ze Tryz.func64 (by decide) rfl
theorem Zwu : Zi Tryz.prog (nat_lit 65):=Ze Tryz.func65 (by decide) rfl
theorem ZmO : Zi Tryz.prog (nat_lit 66):=Ze Tryz.func66 (by decide) rfl
theorem Zwv : Zi Tryz.prog (nat_lit 67):=Ze Tryz.func67 (by decide) rfl
theorem Zua : Zi Tryz.prog (nat_lit 68):=Ze Tryz.func68 (by decide) rfl
theorem Zww : Zi Tryz.prog (nat_lit 69):=Ze Tryz.func69 (by decide) rfl
theorem Zwx : Zi Tryz.prog (nat_lit 70):=Ze Tryz.func70 (by decide) rfl
theorem Zwy : Zi Tryz.prog (nat_lit 71):=Ze Tryz.func71 (by decide) rfl
theorem Zub : Zi Tryz.prog (nat_lit 72):=Ze Tryz.func72 (by decide) rfl
theorem Zfi : Zi Tryz.prog (nat_lit 73):=Ze Tryz.func73 (by decide) rfl
theorem Zwz : Zi Tryz.prog (nat_lit 74):=Ze Tryz.func74 (by decide) rfl
theorem Zqu : Zi Tryz.prog (nat_lit 75):=Ze Tryz.func75 (by decide) rfl
theorem Zw0 : Zi Tryz.prog (nat_lit 76):=Ze Tryz.func76 (by decide) rfl
theorem Zqv : Zi Tryz.prog (nat_lit 77):=Ze Tryz.func77 (by decide) rfl
theorem Zw1 : Zi Tryz.prog (nat_lit 78):=Ze Tryz.func78 (by decide) rfl
theorem Zw2 : Zi Tryz.prog (nat_lit 79):=Ze Tryz.func79 (by decide) rfl
theorem ZmP : Zi Tryz.prog (nat_lit 80):=Ze Tryz.func80 (by decide) rfl
theorem ZmQ : Zi Tryz.prog (nat_lit 81):=Ze Tryz.func81 (by decide) rfl
theorem Zuc : Zi Tryz.prog (nat_lit 82):=Ze Tryz.func82 (by decide) rfl
theorem Zw3 : Zi Tryz.prog (nat_lit 83):=Ze Tryz.func83 (by decide) rfl
theorem Zw4 : Zi Tryz.prog (nat_lit 84):=Ze Tryz.func84 (by decide) rfl
theorem ZmR : Zi Tryz.prog (nat_lit 85):=Ze Tryz.func85 (by decide) rfl
theorem ZmS : Zi Tryz.prog (nat_lit 86):=Ze Tryz.func86 (by decide) rfl
theorem Zqw : Zi Tryz.prog (nat_lit 87):=Ze Tryz.func87 (by decide) rfl
theorem Zw5 : Zi Tryz.prog (nat_lit 88):=Ze Tryz.func88 (by decide) rfl
theorem Zud : Zi Tryz.prog (nat_lit 97):=Ze Tryz.func97 (by decide) rfl
theorem Zw6 : Zi Tryz.prog (nat_lit 98):=Ze Tryz.func98 (by decide) rfl
theorem Zkm : Zi Tryz.prog (nat_lit 99):=Ze Tryz.func99 (by decide) rfl
theorem Zvc : Zi Tryz.prog (nat_lit 100):=Ze Tryz.func100 (by decide) rfl
theorem Zvd : Zi Tryz.prog (nat_lit 106):=Ze Tryz.func106 (by decide) rfl
theorem Zve : Zi Tryz.prog (nat_lit 112):=Ze Tryz.func112 (by decide) rfl
theorem Zvf : Zi Tryz.prog (nat_lit 113):=Ze Tryz.func113 (by decide) rfl
theorem Zar : Zi Tryz.prog (nat_lit 114):=Ze Tryz.func114 (by decide) rfl
theorem Zju : Zi Tryz.prog (nat_lit 115):=Ze Tryz.func115 (by decide) rfl
theorem Zvg : Zi Tryz.prog (nat_lit 116):=Ze Tryz.func116 (by decide) rfl
theorem ZmT : Zi Tryz.prog (nat_lit 118):=Ze Tryz.func118 (by decide) rfl
theorem ZrR : Zi Tryz.prog (nat_lit 119):=Ze Tryz.func119 (by decide) rfl
theorem ZrS : Zi Tryz.prog (nat_lit 120):=Ze Tryz.func120 (by decide) rfl
theorem Zvh : Zi Tryz.prog (nat_lit 121):=Ze Tryz.func121 (by decide) rfl
theorem ZmU : Zi Tryz.prog (nat_lit 122):=Ze Tryz.func122 (by decide) rfl
theorem Zvi : Zi Tryz.prog (nat_lit 123):=Ze Tryz.func123 (by decide) rfl
theorem ZmV : Zi Tryz.prog (nat_lit 124):=Ze Tryz.func124 (by decide) rfl
theorem Zvj : Zi Tryz.prog (nat_lit 125):=Ze Tryz.func125 (by decide) rfl
theorem Zvk : Zi Tryz.prog (nat_lit 126):=Ze Tryz.func126 (by decide) rfl
theorem Zvl : Zi Tryz.prog (nat_lit 127):=Ze Tryz.func127 (by decide) rfl
theorem ZrT : Zi Tryz.prog (nat_lit 128):=Ze Tryz.func128 (by decide) rfl
theorem ZrU : Zi Tryz.prog (nat_lit 129):=Ze Tryz.func129 (by decide) rfl
theorem Zvm : Zi Tryz.prog (nat_lit 130):=Ze Tryz.func130 (by decide) rfl
theorem Zdf : Zi Tryz.prog (nat_lit 131):=Ze Tryz.func131 (by decide) rfl
theorem Zvn : Zi Tryz.prog (nat_lit 132):=Ze Tryz.func132 (by decide) rfl
theorem Zvo : Zi Tryz.prog (nat_lit 133):=Ze Tryz.func133 (by decide) rfl
theorem Zvp : Zi Tryz.prog (nat_lit 134):=Ze Tryz.func134 (by decide) rfl
theorem Zjv : Zi Tryz.prog (nat_lit 135):=Ze Tryz.func135 (by decide) rfl
theorem Zjw : Zi Tryz.prog (nat_lit 136):=Ze Tryz.func136 (by decide) rfl
theorem Zvq : Zi Tryz.prog (nat_lit 137):=Ze Tryz.func137 (by decide) rfl
theorem Zvr : Zi Tryz.prog (nat_lit 138):=Ze Tryz.func138 (by decide) rfl
theorem Zvs : Zi Tryz.prog (nat_lit 140):=Ze Tryz.func140 (by decide) rfl
theorem Zvt : Zi Tryz.prog (nat_lit 145):=Ze Tryz.func145 (by decide) rfl
theorem Zvu : Zi Tryz.prog (nat_lit 146):=Ze Tryz.func146 (by decide) rfl
theorem Zvv : Zi Tryz.prog (nat_lit 148):=Ze Tryz.func148 (by decide) rfl
theorem ZrV : Zi Tryz.prog (nat_lit 149):=Ze Tryz.func149 (by decide) rfl
theorem ZrW : Zi Tryz.prog (nat_lit 150):=Ze Tryz.func150 (by decide) rfl
theorem Zjx : Zi Tryz.prog (nat_lit 151):=Ze Tryz.func151 (by decide) rfl
theorem Zvw : Zi Tryz.prog (nat_lit 152):=Ze Tryz.func152 (by decide) rfl
theorem ZrX : Zi Tryz.prog (nat_lit 153):=Ze Tryz.func153 (by decide) rfl
theorem Zvx : Zi Tryz.prog (nat_lit 154):=Ze Tryz.func154 (by decide) rfl
theorem ZrY : Zi Tryz.prog (nat_lit 155):=Ze Tryz.func155 (by decide) rfl
theorem ZmW : Zi Tryz.prog (nat_lit 163):=Ze Tryz.func163 (by decide) rfl
theorem Zvy : Zi Tryz.prog (nat_lit 164):=Ze Tryz.func164 (by decide) rfl
theorem Zvz : Zi Tryz.prog (nat_lit 165):=Ze Tryz.func165 (by decide) rfl
theorem ZrZ : Zi Tryz.prog (nat_lit 168):=Ze Tryz.func168 (by decide) rfl
theorem Zjy : Zi Tryz.prog (nat_lit 169):=Ze Tryz.func169 (by decide) rfl
theorem Zsa : Zi Tryz.prog (nat_lit 170):=Ze Tryz.func170 (by decide) rfl
theorem Zv0 : Zi Tryz.prog (nat_lit 171):=Ze Tryz.func171 (by decide) rfl
theorem Zv1 : Zi Tryz.prog (nat_lit 172):=Ze Tryz.func172 (by decide) rfl
theorem Zv2 : Zi Tryz.prog (nat_lit 173):=Ze Tryz.func173 (by decide) rfl
theorem Zsb : Zi Tryz.prog (nat_lit 174):=Ze Tryz.func174 (by decide) rfl
theorem Zv3 : Zi Tryz.prog (nat_lit 175):=Ze Tryz.func175 (by decide) rfl
theorem Zv4 : Zi Tryz.prog (nat_lit 176):=Ze Tryz.func176 (by decide) rfl
theorem Zv5 : Zi Tryz.prog (nat_lit 178):=Ze Tryz.func178 (by decide) rfl
theorem Zev : Zi Tryz.prog (nat_lit 179):=Ze Tryz.func179 (by decide) rfl
theorem Zcc : Zi Tryz.prog (nat_lit 180):=Ze Tryz.func180 (by decide) rfl
theorem Zsc : Zi Tryz.prog (nat_lit 181):=Ze Tryz.func181 (by decide) rfl
theorem Zv6 : Zi Tryz.prog (nat_lit 182):=Ze Tryz.func182 (by decide) rfl
theorem Zv7 : Zi Tryz.prog (nat_lit 183):=Ze Tryz.func183 (by decide) rfl
theorem Zv8 : Zi Tryz.prog (nat_lit 184):=Ze Tryz.func184 (by decide) rfl
theorem Zv9 : Zi Tryz.prog (nat_lit 186):=Ze Tryz.func186 (by decide) rfl
theorem ZvA : Zi Tryz.prog (nat_lit 187):=Ze Tryz.func187 (by decide) rfl
theorem ZvB : Zi Tryz.prog (nat_lit 188):=Ze Tryz.func188 (by decide) rfl
theorem ZvC : Zi Tryz.prog (nat_lit 189):=Ze Tryz.func189 (by decide) rfl
theorem Zsd : Zi Tryz.prog (nat_lit 193):=Ze Tryz.func193 (by decide) rfl
theorem ZvD : Zi Tryz.prog (nat_lit 198):=Ze Tryz.func198 (by decide) rfl
theorem ZvE : Zi Tryz.prog (nat_lit 199):=Ze Tryz.func199 (by decide) rfl
theorem Zse : Zi Tryz.prog (nat_lit 210):=Ze Tryz.func210 (by decide) rfl
theorem Zhi : Zi Tryz.prog (nat_lit 213):=Ze Tryz.func213 (by decide) rfl
theorem Zew : Zi Tryz.prog (nat_lit 214):=Ze Tryz.func214 (by decide) rfl
theorem ZvF : Zi Tryz.prog (nat_lit 215):=Ze Tryz.func215 (by decide) rfl
theorem ZvG : Zi Tryz.prog (nat_lit 216):=Ze Tryz.func216 (by decide) rfl
theorem ZfG : Zi Tryz.prog (nat_lit 217):=Ze Tryz.func217 (by decide) rfl
theorem ZvH : Zi Tryz.prog (nat_lit 226):=Ze Tryz.func226 (by decide) rfl
theorem Zsf : Zi Tryz.prog (nat_lit 239):=Ze Tryz.func239 (by decide) rfl
theorem Zhj : Zi Tryz.prog (nat_lit 247):=Ze Tryz.func247 (by decide) rfl
theorem ZvI : Zi Tryz.prog (nat_lit 248):=Ze Tryz.func248 (by decide) rfl
theorem Zsg : Zi Tryz.prog (nat_lit 249):=Ze Tryz.func249 (by decide) rfl
theorem Zcd : Zi Tryz.prog (nat_lit 250):=Ze Tryz.func250 (by decide) rfl
theorem Zsh : Zi Tryz.prog (nat_lit 268):=Ze Tryz.func268 (by decide) rfl
theorem ZvJ : Zi Tryz.prog (nat_lit 274):=Ze Tryz.func274 (by decide) rfl
theorem ZvK : Tryz.prog.eqGuardType Tryz.prog.depth (nat_lit 35) = false:=by kernel_rfl
set_option maxHeartbeats 1000000 in
theorem Zqx (x y : Rect) (w : World) : (Op.equalIn 10000 (nat_lit 35) (.agg #[.int .i64 x.d.a, .int .i64 x.d.b, .int .i64 x.x.a, .int .i64 x.x.b]) (.agg #[.int .i64 y.d.a, .int .i64 y.d.b, .int .i64 y.x.a, .int .i64 y.x.b])).run Tryz.prog w = .ok (decide (x = y)) w:=by
 have u3:=Tryz.underlying3
 have a3:=Tryz.isAgg3
 have z3:=Tryz.sizeOf3
 have u33:=Tryz.underlying33
 have a33:=Tryz.isAgg33
 have z33:=Tryz.sizeOf33
 have e33 : ∀ d xs ys,(Op.equalIn (d+1) (nat_lit 33) (.agg xs) (.agg ys)).run Tryz.prog w = (Op.eqFields d xs ys (Tryz.prog.fieldsOf (nat_lit 33)).toList).run Tryz.prog w:=fun d xs ys=>run_equalIn_agg w d (nat_lit 33) xs ys (by kernel_rfl) (by kernel_rfl)
 rw [show (10000 : Nat) = 9999 + 1 from rfl,run_equalIn_agg w 9999 (nat_lit 35) _ _ (by kernel_rfl) (by kernel_rfl)]
 simp only [Program.fieldsOf,Tryz.underlying35,Zb] at e33 ⊢
 go_simp
 skip
 obtain ⟨⟨x1,x2⟩,⟨x3,x4⟩⟩:=x
 obtain ⟨⟨y1,y2⟩,⟨y3,y4⟩⟩:=y
 by_cases h1 : x1 = y1 <;> by_cases h2 : x2 = y2 <;> by_cases h3 : x3 = y3 <;> by_cases h4 : x4 = y4 <;> simp [h1,h2,h3,h4]
theorem Zjz : Tryz.prog.eqGuardType Tryz.prog.depth (nat_lit 33) = false:=by kernel_rfl
set_option maxHeartbeats 1000000 in
theorem Zex (x y : Span) (w : World) : (Op.equalIn 10000 (nat_lit 33) (.agg #[.int .i64 x.a, .int .i64 x.b]) (.agg #[.int .i64 y.a, .int .i64 y.b])).run Tryz.prog w = .ok (decide (x = y)) w:=by
 have u3:=Tryz.underlying3
 have a3:=Tryz.isAgg3
 have z3:=Tryz.sizeOf3
 rw [show (10000 : Nat) = 9999 + 1 from rfl,run_equalIn_agg w 9999 (nat_lit 33) _ _ (by kernel_rfl) (by kernel_rfl)]
 simp only [Program.fieldsOf,Tryz.underlying33,Zb]
 go_simp
 skip
 obtain ⟨x1,x2⟩:=x
 obtain ⟨y1,y2⟩:=y
 by_cases h1 : x1 = y1 <;> by_cases h2 : x2 = y2 <;> simp [h1,h2]
theorem Zhk : Tryz.prog.eqGuardType Tryz.prog.depth (nat_lit 58) = false:=by kernel_rfl
set_option maxHeartbeats 1000000 in
theorem ZdT (x y : Val) (w : World) : (Op.equalIn 10000 (nat_lit 58) (.agg #[.int .i64 x.k, .int .i64 x.n,Zb x.s]) (.agg #[.int .i64 y.k, .int .i64 y.n,Zb y.s])).run Tryz.prog w = .ok (decide (x = y)) w:=by
 have u3:=Tryz.underlying3
 have a3:=Tryz.isAgg3
 have z3:=Tryz.sizeOf3
 have u9:=Tryz.underlying9
 have a9:=Tryz.isAgg9
 have z9:=Tryz.sizeOf9
 rw [show (10000 : Nat) = 9999 + 1 from rfl,run_equalIn_agg w 9999 (nat_lit 58) _ _ (by kernel_rfl) (by kernel_rfl)]
 simp only [Program.fieldsOf,Tryz.underlying58,Zb]
 go_simp
 skip
 obtain ⟨x1,x2,x3⟩:=x
 obtain ⟨y1,y2,y3⟩:=y
 by_cases h1 : x1 = y1 <;> by_cases h2 : x2 = y2 <;> by_cases h3 : x3 = y3 <;> simp [h1,h2,h3]
theorem mixed : Tryz.prog.follows .mixedOrders = true:=by kernel_rfl
theorem dr {N id : Nat} {Q : Exit → Env → World → Prop} {ρ : Env} {w w0 : World} {ops : List Oper} {X : List Nat} {G0 G : GH} {L : Own} (T : List (Nat × Bool)) (hv : List (Nat × Value)) (hS : (St w0 X G0 G L) w) (ho : Zcr Tryz.prog ops (St w0 X G0 G L) (T.map (·.1)) hv (Xd ft ops (T.map (·.1)) hv 0 ops ρ) 0 ops)
  (hT : ∀ w,(St w0 X G0 G L) w → goT ft ops (St w0 X G0 G L) Q T (Xd ft ops (T.map (·.1)) hv 0 ops ρ) w) (hN : ops.all (Zbl N) = true:=by kernel_rfl) (hp : ZgL ops (Qg ops (T.map (·.1))) = true:=by kernel_rfl)
  (hn : T.map (fun x=>Qj (Qg ops (T.map (·.1))) x.1) = T.map (·.2):=by kernel_rfl) (ha : Zbf ft ops (T.map (·.1)) hv (Xd ft ops (T.map (·.1)) hv 0 ops ρ) 0 ops = Zbg (T.map (·.1)) hv (Xd ft ops (T.map (·.1)) hv 0 ops ρ) 0 ops:=by exact rfl) : DR Tryz.prog N id ops.toArray Q ρ w:=
 DR.go _ T hv mixed hN hp hn ha hS.draw ho hT
theorem drT {N id : Nat} {Q : Exit → Env → World → Prop} {ρ : Env} {w w0 : World} {ops : List Oper} {X : List Nat} {G0 G : GH} {L : Own} (T : List Nat) (hv : List (Nat × Value)) (hS : (St w0 X G0 G L) w) (ho : Zcr Tryz.prog ops (St w0 X G0 G L) T hv (Xd ft ops T hv 0 ops ρ) 0 ops)
  (hT : ∀ w,(St w0 X G0 G L) w → TG Tryz.prog ops.toArray (Qg ops T) (St w0 X G0 G L) Q T.length T (Xd ft ops T hv 0 ops ρ) w) (hN : ops.all (Zbl N) = true:=by kernel_rfl) (hp : ZgK ops (Qg ops T) = true:=by kernel_rfl)
  (ha : Zbf ft ops T hv (Xd ft ops T hv 0 ops ρ) 0 ops = Zbg T hv (Xd ft ops T hv 0 ops ρ) 0 ops:=by exact rfl) : DR Tryz.prog N id ops.toArray Q ρ w:=
 DR.goG _ T hv mixed hN hp ha hS.draw ho hT
theorem drD {N id : Nat} {Q : Exit → Env → World → Prop} {ρ : Env} {w : World} {ops : List Oper} {C : World → Prop} (hD : ∀ w,C w → C { w with drawn:=w.drawn + 1 }) (T : List (Nat × Bool)) (hv : List (Nat × Value)) (hS : C w) (ho : Zcr Tryz.prog ops C (T.map (·.1)) hv (Xd ft ops (T.map (·.1)) hv 0 ops ρ) 0 ops)
  (hT : ∀ w,C w → goT ft ops C Q T (Xd ft ops (T.map (·.1)) hv 0 ops ρ) w) (hN : ops.all (Zbl N) = true:=by kernel_rfl) (hp : ZgL ops (Qg ops (T.map (·.1))) = true:=by kernel_rfl)
  (hn : T.map (fun x=>Qj (Qg ops (T.map (·.1))) x.1) = T.map (·.2):=by kernel_rfl) (ha : Zbf ft ops (T.map (·.1)) hv (Xd ft ops (T.map (·.1)) hv 0 ops ρ) 0 ops = Zbg (T.map (·.1)) hv (Xd ft ops (T.map (·.1)) hv 0 ops ρ) 0 ops:=by exact rfl) : DR Tryz.prog N id ops.toArray Q ρ w:=
 DR.go _ T hv mixed hN hp hn ha (hD _ hS) ho hT
end Go.Civ
set_option linter.unusedVariables false
set_option linter.unusedSimpArgs false
set_option maxRecDepth 100000
set_option maxHeartbeats 4000000
namespace Go.Civ
open Go.Proofs
theorem ZlN {G : GH} {w : World} (hG : G.In w) (a : Int) : CL Tryz.prog (nat_lit 210) #[.int .i64 a] [] w G fun _ _ r=>r = .bool false:=by
 refine Zf ft [] Tryz.func210 rfl rfl ?_
 have hS:=St.start (X:=[]) hG
 refine ZO .neq rfl .i64 a a rfl rfl rfl ?_
 exact RB hS rfl (by simp [Cmp.b])
theorem Zdg {G : GH} {w : World} (hG : G.In w) (a b : Int) : CL Tryz.prog (nat_lit 169) #[.int .i64 a, .int .i64 b] [] w G fun _ _ r=>r = .int .i64 (Y1 a b):=by
 refine Zf ft [] Tryz.func169 rfl rfl ?_
 have hS:=St.start (X:=[]) hG
 refine Zn hS Zse rfl rfl rfl (ZlN hS.imm a) (fun w1 G1 hS1 hle1=>?_)
 refine Zn hS1 Zse rfl rfl rfl (ZlN hS1.imm b) (fun w2 G2 hS2 hle2=>?_)
 refine Zo a b rfl rfl rfl (fun h1=>?_) (fun h1=>?_)
 ·exact RI hS2 rfl (by unfold Y1; split <;> (try split) <;> rfl)
 refine YL a b rfl rfl rfl (fun h2=>?_) (fun h2=>?_)
 ·exact RI hS2 rfl (by unfold Y1; split <;> (try split) <;> omega)
 exact RI hS2 rfl (by unfold Y1; split <;> (try split) <;> omega)
theorem Zkn {G : GH} {w : World} (hG : G.In w) (a : List UInt8) : CL Tryz.prog (nat_lit 239) #[Zb a] [] w G fun _ _ r=>r = .bool false:=by
 refine Zf ft [] Tryz.func239 rfl rfl ?_
 have hS:=St.start (X:=[]) hG
 refine Z7 .neq rfl a a rfl rfl rfl ?_
 exact RB hS rfl (by simp [SCmp.b])
theorem ZmX {G : GH} {w : World} (hG : G.In w) (a b : List UInt8) : CL Tryz.prog (nat_lit 199) #[Zb a,Zb b] [] w G fun _ _ r=>r = .int .i64 (cmpS a b):=by
 refine Zf ft [] Tryz.func199 rfl rfl ?_
 have hS:=St.start (X:=[]) hG
 refine Zn hS Zsf rfl rfl rfl (Zkn hS.imm a) (fun w1 G1 hS1 hle1=>?_)
 refine Zn hS1 Zsf rfl rfl rfl (Zkn hS1.imm b) (fun w2 G2 hS2 hle2=>?_)
 refine Z7 .lss rfl a b rfl rfl rfl ?_
 refine WL.split (fun (h1 : (SCmp.b .lss a b) = true)=>?_) (fun (h1 : (SCmp.b .lss a b) = false)=>?_)
 ·exact RI hS2 rfl (by unfold cmpS; simp_all [SCmp.b])
 refine Z7 .gtr rfl a b rfl rfl rfl ?_
 refine WL.split (fun (h2 : (SCmp.b .gtr a b) = true)=>?_) (fun (h2 : (SCmp.b .gtr a b) = false)=>?_)
 ·exact RI hS2 rfl (by unfold cmpS; simp_all [SCmp.b])
 exact RI hS2 rfl (by unfold cmpS; simp_all [SCmp.b])
theorem Zuf {G : GH} {w : World} (hG : G.In w) (l : List Int) (vl : Value) (hvl : Sl Enc.int 8 G vl l) : CL Tryz.prog (nat_lit 168) #[vl] [] w G fun _ _ r=>r = .int .i64 (Qb l):=by
 refine Zf ft [] Tryz.func168 rfl rfl ?_
 have hS:=St.start (X:=[]) hG
 have bd1:=hvl.bound
 refine Zj hvl ZN rfl rfl ?_
 refine LP.go ft [] (fun m ρ1 w1=>∃ (k1 : Nat),∃ (G1 : GH),m = l.length - k1 ∧ G.le G1 ∧ St w [] G G1 [] w1 ∧ FR ρ1 [(3, .int .i64 0),(6,vl),(7, .int .i64 (l.length : Int)),(8, .int .i64 (k1 : Int))] ∧ k1 ≤ l.length ∧ ∀ j,j < k1 → ∀ x,l[j]? = some x → x = 0) _ ⟨0,G,rfl,(G.le_refl),hS,⟨rfl,rfl,rfl,rfl,trivial⟩,(by omega),(by intro j hj; omega)⟩ ?_
 rintro m ρ1 w1 ⟨k1,G1,rfl,hle1,hS1,hF9,f1,f2⟩
 refine hF9.set ?_
 clear hF9
 refine Zo (k1 : Int) (l.length : Int) rfl rfl rfl (fun h1=>?_) (fun h1=>?_)
 ·refine WL.indexAddr (hvl.mono hle1) k1 (by omega) ZN Zl rfl rfl rfl rfl (fun p1 x1 hx1 he1=>?_)
  obtain ⟨cs1,hc1,hr1⟩:=he1
  obtain ⟨rfl,hb1⟩:=hr1
  refine Za hS1 hc1 Zl rfl rfl rfl ?_
  refine Yy x1 0 rfl rfl rfl (fun h2=>?_) (fun h2=>?_)
  ·exact RI hS1 rfl (by exact (ZjR ‹_› ‹_› ‹_›).symm)
  refine Zk k1 (by have hreach : reach = 140737488355328:=rfl; omega) rfl rfl rfl ?_
  exact BK.mk' _ ⟨k1 + 1,G1,rfl,hle1,hS1,⟨rfl,rfl,rfl,rfl,trivial⟩,(by omega),(by exact YS ‹_› ‹_› ‹_›)⟩ (show l.length - (k1 + 1) < l.length - k1 by omega)
 exact RI hS1 rfl (by exact (ZgS ‹_› (by omega)).symm)
theorem ZsA {G : GH} {w : World} (hG : G.In w) (x y : Val) (cx : List Value) (hcx : ValE.rep G x cx) (cy : List Value) (hcy : ValE.rep G y cy) : CL Tryz.prog (nat_lit 165) #[.agg cx.toArray, .agg cy.toArray] [] w G fun _ _ r=>r = .int .i64 (cmpV x y):=by
 refine Zf ft [] Tryz.func165 rfl rfl ?_
 have hS:=St.start (X:=[]) hG
 obtain ⟨rfl,hb1,hb2,hb3⟩:=Ya hcx
 obtain ⟨rfl,hb4,hb5,hb6⟩:=Ya hcy
 refine Z1 [.int .i64 x.k, .int .i64 x.n,Zb x.s] _ hS rfl rfl rfl (fun p1 w1 G1 hle1 hsp1 hc1 hS1=>?_)
 refine Z1 [.int .i64 y.k, .int .i64 y.n,Zb y.s] _ hS1 rfl rfl rfl (fun p2 w2 G2 hle2 hsp2 hc2 hS2=>?_)
 refine dr [(15,false),(16,false),(17,false)] [(6, .int .i64 x.k),(8, .int .i64 y.k),(9, .int .i64 (Y1 x.k y.k)),(11, .int .i64 x.n),(13, .int .i64 y.n),(14, .int .i64 (Y1 x.n y.n)),(16,Zb x.s),(18,Zb y.s),(19, .int .i64 (cmpS x.s y.s))] hS2 ⟨fun _ hSw=>Za hSw (XZ.drop 0 (hc1.mono hle2)) Zl rfl rfl rfl <| nu rfl rfl,fun _ hSw=>Za hSw (XZ.drop 0 hc2) Zl rfl rfl rfl <| nu rfl rfl,fun _ hSw=>ZH hSw Zjy rfl rfl rfl (Zdg hSw.imm x.k y.k) rfl,fun _ hSw=>Za hSw (XZ.drop 1 (hc1.mono hle2)) Zl rfl rfl rfl <| nu rfl rfl,fun _ hSw=>Za hSw (XZ.drop 1 hc2) Zl rfl rfl rfl <| nu rfl rfl,fun _ hSw=>ZH hSw Zjy rfl rfl rfl (Zdg hSw.imm x.n y.n) rfl,fun _ hSw=>Za hSw (XZ.drop 2 (hc1.mono hle2)) Yk rfl rfl rfl <| nu rfl rfl,fun _ hSw=>Za hSw (XZ.drop 2 hc2) Yk rfl rfl rfl <| nu rfl rfl,fun _ hSw=>ZH hSw ZvE rfl rfl rfl (ZmX hSw.imm x.s y.s) rfl,trivial⟩ (fun w3 hS3=>?_)
 refine WL.buildSlice _ [(0,[.int .i64 (Y1 x.k y.k)]),(1,[.int .i64 (Y1 x.n y.n)]),(2,[.int .i64 (cmpS x.s y.s)])] [.int .i64 (Y1 x.k y.k), .int .i64 (Y1 x.n y.n), .int .i64 (cmpS x.s y.s)] hS3 Yg rfl rfl rfl rfl (fun z hz=>by match z,hz with | [z0,z1,z2],_=>rfl) (fun b1 w4 hn1 hS4=>?_)
 obtain ⟨G3,hle3,hs1,hS5⟩:=St.sealSl (E:=Enc.int) (by_:=8) (l:=([(Y1 x.k y.k),(Y1 x.n y.n),(cmpS x.s y.s)] : List Int)) hS4 hn1 ⟨[.int .i64 (Y1 x.k y.k)],_,rfl,⟨rfl,ZdQ x.k y.k⟩,⟨[.int .i64 (Y1 x.n y.n)],_,rfl,⟨rfl,ZdQ x.n y.n⟩,⟨[.int .i64 (cmpS x.s y.s)],_,rfl,⟨rfl,ZjS x.s y.s⟩,rfl⟩⟩⟩ rfl (by simp [reach]) (by simp [reach])
 refine Zn hS5 ZrZ rfl rfl rfl (Zuf hS5.imm [(Y1 x.k y.k),(Y1 x.n y.n),(cmpS x.s y.s)] _ hs1) (fun w5 G4 hS6 hle4=>?_)
 exact RI hS6 rfl (by exact ZnZ _ _ _)
theorem Zqy {G : GH} {w : World} (hG : G.In w) (l : List Val) (pf : Val → Bool) (vl : Value) (hvl : Sl ValE 32 G vl l) (fid : Nat) (fcap : Array Value) (hf : FnB Tryz.prog (Is ValE) fid fcap G (fun x=>x ∈ l) pf) : CL Tryz.prog (nat_lit 175) #[vl, .func (.func fid) #[] fcap] [] w G fun _ _ r=>r = .int .i64 (ZaP pf l):=by
 refine Zf ft [] Tryz.func175 rfl rfl ?_
 have hS:=St.start (X:=[]) hG
 have bd1:=hvl.bound
 refine Zj hvl Yj rfl rfl ?_
 refine LP.go ft [] (fun m ρ1 w1=>∃ (k1 : Nat),∃ (G1 : GH),m = l.length - k1 ∧ G.le G1 ∧ St w [] G G1 [] w1 ∧ FR ρ1 [(0,vl),(1, .func (.func fid) #[] fcap),(7, .int .i64 (l.length : Int)),(8, .int .i64 (k1 : Int))] ∧ k1 ≤ l.length ∧ ∀ j,j < k1 → ∀ x,l[j]? = some x → pf x = false) _ ⟨0,G,rfl,(G.le_refl),hS,⟨rfl,rfl,rfl,rfl,trivial⟩,(by omega),(by intro j hj; omega)⟩ ?_
 rintro m ρ1 w1 ⟨k1,G1,rfl,hle1,hS1,hF9,f1,f2⟩
 refine hF9.set ?_
 clear hF9
 refine Zo (k1 : Int) (l.length : Int) rfl rfl rfl (fun h1=>?_) (fun h1=>?_)
 ·refine WL.indexAddr (hvl.mono hle1) k1 (by omega) Yj ZG rfl rfl rfl rfl (fun p1 x1 hx1 he1=>?_)
  obtain ⟨cs1,hc1,hr1⟩:=he1
  obtain ⟨rfl,hb1,hb2,hb3⟩:=Ya hr1
  refine Zd hS1 hc1 [.int .i64 x1.k, .int .i64 x1.n,Zb x1.s] ZG rfl rfl rfl rfl rfl ?_
  refine Zn hS1 hf.body rfl rfl rfl (hf.call _ _ (.agg #[.int .i64 x1.k, .int .i64 x1.n,Zb x1.s]) x1 hle1 hS1.imm (List.mem_of_getElem? hx1) ⟨_,rfl,(YK x1 hb1 hb2 hb3)⟩) (fun w2 G2 hS2 hle2=>?_)
  refine WL.split (fun (h2 : (pf x1) = true)=>?_) (fun (h2 : (pf x1) = false)=>?_)
  ·exact RI hS2 rfl (by exact (Zci _ ‹_› ‹_› ‹_›).symm)
  refine Zk k1 (by have hreach : reach = 140737488355328:=rfl; omega) rfl rfl rfl ?_
  exact BK.mk' _ ⟨k1 + 1,G2,rfl,(hle1.trans hle2),hS2,⟨rfl,rfl,rfl,rfl,trivial⟩,(by omega),(by exact YS ‹_› ‹_› ‹_›)⟩ (show l.length - (k1 + 1) < l.length - k1 by omega)
 exact RI hS1 rfl (by exact (Zb1 ‹_› (by omega)).symm)
theorem ZdG {G : GH} {w : World} (hG : G.In w) (l : List Val) (pf : Val → Bool) (vl : Value) (hvl : Sl ValE 32 G vl l) (fid : Nat) (fcap : Array Value) (hf : FnB Tryz.prog (Is ValE) fid fcap G (fun x=>x ∈ l) pf) : CL Tryz.prog (nat_lit 122) #[vl, .func (.func fid) #[] fcap] [] w G fun _ _ r=>r = .bool (l.any pf):=by
 refine Zf ft [] Tryz.func122 rfl rfl ?_
 have hS:=St.start (X:=[]) hG
 refine Zn hS Zv3 rfl rfl rfl (Zqy hS.imm l pf _ hvl fid fcap (hf.up (G.le_refl))) (fun w1 G1 hS1 hle1=>?_)
 refine ZO .geq rfl .i64 (ZaP pf l) 0 rfl rfl rfl ?_
 exact RB hS1 rfl (by exact Zek _ _)
end Go.Civ
namespace Go.Civ
open Go.RowKit
set_option linter.unusedVariables false
structure FnO (P : Program) {α : Type} (A : GH → Value → α → Prop) (fid : Nat) (cap : Array Value) (G : GH) (on : α → Prop) (nx : α → Option (List Val)) : Prop where
 body : Zi P fid
 call : ∀ (G' : GH) (w' : World) (v : Value) (x : α),G.le G' → G'.In w' → on x → A G' v x →
  Calls P fid ([v] ++ cap.toList).toArray w' fun e w''=>∃ r G'',e = .returned r ∧ Res [] w' G' w'' G'' ∧ ∃ r0 r1,r = .tuple #[r0,r1] ∧ Sl ValE 32 G'' r0 ((nx x).getD []) ∧ r1 = .bool (nx x).isSome
theorem FnO.up {P : Program} {α : Type} {A : GH → Value → α → Prop} {fid : Nat} {cap : Array Value} {G G' : GH} {on : α → Prop} {nx : α → Option (List Val)} (h : FnO P A fid cap G on nx) (k : G.le G') : FnO P A fid cap G' on nx:=
 ⟨h.body,fun G2 w' v x hle=>h.call G2 w' v x (k.trans hle)⟩
theorem ZfQ {s : Span} (h : s.a < s.b) : Can [s]:=⟨by simp,by simpa using h⟩
def Zai (r d : Span) : List Span:=(if r.a < d.a then [⟨r.a,d.a⟩] else []) ++ (if d.b < r.b then [⟨d.b,r.b⟩] else [])
theorem Znt {r d : Span} (hr : r.a < r.b) (hd : d.a < d.b) (h1 : r.a < d.b) (h2 : d.a < r.b) : Can (Zai r d):=by
 unfold Zai
 by_cases c1 : r.a < d.a <;> by_cases c2 : d.b < r.b <;> simp only [c1,c2,if_true,if_false,List.nil_append,List.append_nil]
 ·exact ⟨by simp; omega,fun s hs=>by simp at hs; rcases hs with rfl | rfl <;> simp <;> omega⟩
 ·exact ZfQ c1
 ·exact ZfQ c2
 ·exact ⟨List.Pairwise.nil,by simp⟩
theorem Zrd {r d : Span} (hr : r.a < r.b) (hd : d.a < d.b) (h1 : r.a < d.b) (h2 : d.a < r.b) : Yn 3 [r] [d] = Zai r d:=by
 have h:=Zcm (kind:=3) (a:=[r]) (b:=[d]) rfl (by simpa using hr) (by simpa using hd)
 refine Can.unique h.1 (Znt hr hd h1 h2) fun x=>?_
 rw [h.2]
 have e : Xv 3 (YC [r] x) (YC [d] x) = true ↔ ((r.a ≤ x ∧ x < r.b) ∧ ¬ (d.a ≤ x ∧ x < d.b)):=by
  unfold Xv YC; simp; omega
 rw [e]
 unfold Zai
 by_cases c1 : r.a < d.a <;> by_cases c2 : d.b < r.b <;> simp only [c1,c2,if_true,if_false,List.nil_append,List.append_nil,List.cons_append,Xf] <;> simp [cover] <;> omega
theorem Zl5 {r d : Span} (hr : ZC r = true) (hd : ZC d = true) (h1 : r.a < d.b) (h2 : d.a < r.b) : ∀ s ∈ Zai r d,ZC s = true:=fun s hs=>by
 unfold ZC at hr hd ⊢
 simp at hr hd ⊢
 unfold Zai at hs
 rcases List.mem_append.1 hs with hs | hs
 ·split at hs
  ·obtain rfl:=List.mem_singleton.1 hs; simp only; omega
  ·cases hs
 ·split at hs
  ·obtain rfl:=List.mem_singleton.1 hs; simp only; omega
  ·cases hs
theorem ZeD (r d : Span) : (Zai r d).length ≤ 2:=by unfold Zai; rw [List.length_append]; split <;> split <;> simp
theorem ZbF {r d : Span} (hr : ZC r = true) (hd : ZC d = true) (h1 : r.a < d.b) (h2 : d.a < r.b) : Yn 3 [r] [d] = Zai r d:=Zrd (Yx hr) (Yx hd) h1 h2
theorem Zpb {r d : Span} (hr : ZC r = true) (hd : ZC d = true) (h1 : r.a < d.b) (h2 : d.a < r.b) : ZC (Zj1 r d) = true:=by
 unfold ZC at hr hd ⊢
 unfold Zj1
 simp at hr hd ⊢
 omega
def ZuB (nx : List Val → Option (List Val)) (l : List HRow) : Prop:=∀ r ∈ l,∀ u,nx r.v = some u → u.all Zy = true ∧ u.length ≤ 8
structure ChgOk (t : Table) (tx : Int) (d : Span) (nx : List Val → Option (List Val)) : Prop where
 valid : Z3 t = true
 span : ZC d = true
 inst : Yu tx = true
 late : t.last < tx
 next : ZuB nx t.rows
section
variable {t : Table} {tx : Int} {d : Span} {nx : List Val → Option (List Val)} {hl : List Val → Bool}
theorem Zba (h : Z3 t = true) {r : HRow} (hr : r ∈ t.rows) : Y0 r = true ∧ r.v.length ≤ 8 ∧ r.r.x.a ≤ t.last ∧ r.v.length = t.s.cols.length ∧ r.v.all Zy = true ∧ t.s.cols.length ≤ 8:=by
 rw [Zbv] at h
 simp only [Bool.and_eq_true] at h
 have h1:=List.all_eq_true.1 h.1.2 r hr
 unfold YF at h1
 simp only [Bool.and_eq_true,decide_eq_true_eq] at h1
 obtain ⟨a,b,c,_⟩:=Qu h1.1.1.1
 exact ⟨h1.1.1.2,a,h1.1.2,c,b,by omega⟩
theorem Zpc (hc : ChgOk t tx d nx) {r : HRow} (hr : r ∈ t.rows) : (Xm hl nx tx d r).length ≤ 4:=by
 unfold Xm
 split
 ·rename_i h
  simp only [Bool.and_eq_true] at h
  unfold XY at h
  simp only [Bool.and_eq_true,decide_eq_true_eq] at h
  have hg:=ZY (Zba hc.valid hr).1
  rw [ZbF hg.2.1 hc.span h.1.1.2 h.1.2]
  have:=ZeD r.r.d d
  have h2 : (Zat (nx r.v) r.r.d d tx).length ≤ 1:=by unfold Zat; split <;> simp
  simp only [List.length_append,Zbn,List.length_cons,List.length_nil]
  omega
 ·simp
theorem Zgk (hc : ChgOk t tx d nx) : ∀ k,(Yz hl nx tx d (t.rows.take k)).length ≤ 4 * k
 | 0=>by simp [Yz]
 | k + 1=>by
  have ih:=Zgk hc k
  cases e : t.rows[k]? with
  | none=>rw [List.take_add_one,e]; simp only [Option.toList,List.append_nil]; omega
  | some r=>
   rw [Zb8 e,List.length_append]
   have:=Zpc (hl:=hl) hc (List.mem_of_getElem? e)
   omega
theorem Zh5 (hc : ChgOk t tx d nx) {r : HRow} (hr : r ∈ t.rows) : ∀ q ∈ Xm hl nx tx d r,Y0 q = true ∧ q.v.length ≤ 1000:=by
 obtain ⟨g1,g2,g3,_⟩:=Zba hc.valid hr
 have hg:=ZY g1
 have ht:=Xp hc.inst
 have hl:=hc.late
 have mk : ∀ (v : List Val) (a b : Span),v.all Zy = true → ZC a = true → ZC b = true → Y0 ⟨v,⟨a,b⟩⟩ = true:=fun v a b h1 h2 h3=>by unfold Y0; simp only; rw [h1,h2,h3]; rfl
 have hx:=hg.2.2
 unfold ZC at hx
 simp at hx
 have hT : ZC ⟨tx,253402300800⟩ = true:=by unfold ZC; simp; omega
 unfold Xm
 split
 ·rename_i h
  simp only [Bool.and_eq_true] at h
  unfold XY at h
  simp only [Bool.and_eq_true,decide_eq_true_eq] at h
  rw [ZbF hg.2.1 hc.span h.1.1.2 h.1.2]
  intro q hq
  rcases List.mem_append.1 hq with hq | hq
  ·rcases List.mem_append.1 hq with hq | hq
   ·rw [List.mem_singleton.1 hq]
    exact ⟨mk _ _ _ hg.1 hg.2.1 (by unfold ZC; simp; omega),Nat.le_trans g2 (by decide)⟩
   ·unfold YD at hq
    obtain ⟨s,hs,rfl⟩:=List.mem_map.1 hq
    exact ⟨mk _ _ _ hg.1 (Zl5 hg.2.1 hc.span h.1.1.2 h.1.2 s hs) hT,Nat.le_trans g2 (by decide)⟩
  ·unfold Zat at hq
   split at hq
   ·rename_i u hu
    rw [List.mem_singleton.1 hq]
    obtain ⟨u1,u2⟩:=hc.next r hr u hu
    exact ⟨mk _ _ _ u1 (Zpb hg.2.1 hc.span h.1.1.2 h.1.2) hT,Nat.le_trans u2 (by decide)⟩
   ·cases hq
 ·intro q hq
  rw [List.mem_singleton.1 hq]; exact ⟨g1,Nat.le_trans g2 (by decide)⟩
theorem ZcT (hc : ChgOk t tx d nx) : ZA (Yz hl nx tx d t.rows) ∧ (∀ r ∈ Yz hl nx tx d t.rows,r.v.length ≤ 1000) ∧ (Yz hl nx tx d t.rows).length ≤ 2000:=by
 refine ⟨fun q hq=>?_,fun q hq=>?_,?_⟩
 ·obtain ⟨r,hr,h⟩:=List.mem_flatMap.1 hq; exact (Zh5 hc hr q h).1
 ·obtain ⟨r,hr,h⟩:=List.mem_flatMap.1 hq; exact (Zh5 hc hr q h).2
 ·have h1:=Zgk (hl:=hl) hc t.rows.length
  rw [List.take_length] at h1
  have:=(ZS hc.valid).2.1
  omega
end
theorem Zfu : ∀ (v s : List Val) (m : List Bool),(Xi v s m).length = v.length
 | [],s,m=>by simp [Xi]
 | x :: v,[],m=>by simp [Xi]
 | x :: v,y :: s,[]=>by simp [Xi]
 | x :: v,y :: s,b :: m=>by simp [Xi,Zfu v s m]
end Go.Civ
namespace Go.Civ
end Go.Civ
namespace Go.Civ
end Go.Civ
