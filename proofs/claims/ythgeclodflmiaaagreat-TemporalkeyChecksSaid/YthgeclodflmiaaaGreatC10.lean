/- Lemmas. -/
import Derived.Test.YthgeclodflmiaaaGreatC06
import Derived.Test.YthgeclodflmiaaaGreatC08
import Derived.Test.YthgeclodflmiaaaGreatProg
import Derived.KernelRfl
import Derived.WalkKit
set_option linter.unusedVariables false
set_option linter.unusedSimpArgs false
set_option maxRecDepth 100000
set_option maxHeartbeats 4000000
namespace Go.Civ
open Go.Proofs
theorem Zr : Yp Tryz.prog (nat_lit 3) = some ⟨false,1,8, .int .i64 0⟩:=by kernel_rfl
theorem ti5 : Yp Tryz.prog (nat_lit 5) = some ⟨false,1,1, .int .u8 0⟩:=by kernel_rfl
theorem YM : Yp Tryz.prog (nat_lit 9) = some ⟨false,1,16,Zc []⟩:=by kernel_rfl
theorem Zce : Yp Tryz.prog (nat_lit 22) = some ⟨false,1,24, .slice none 0 0⟩:=by kernel_rfl
theorem Zhl : Yp Tryz.prog (nat_lit 23) = some ⟨false,1,24, .slice none 0 0⟩:=by kernel_rfl
theorem Y5 : Yp Tryz.prog (nat_lit 25) = some ⟨true,4,72, .agg #[Zc [], .slice none 0 0, .int .i64 0, .slice none 0 0]⟩:=by kernel_rfl
theorem YJ : Yp Tryz.prog (nat_lit 26) = some ⟨false,1,24, .slice none 0 0⟩:=by kernel_rfl
theorem Zp : Yp Tryz.prog (nat_lit 28) = some ⟨true,6,104, .agg #[Zc [], .slice none 0 0, .int .i64 0, .slice none 0 0, .slice none 0 0, .int .i64 0]⟩:=by kernel_rfl
theorem ZN : Yp Tryz.prog (nat_lit 31) = some ⟨false,1,24, .slice none 0 0⟩:=by kernel_rfl
theorem Zz : Yp Tryz.prog (nat_lit 33) = some ⟨true,2,16, .agg #[.int .i64 0, .int .i64 0]⟩:=by kernel_rfl
theorem Zcf : Yp Tryz.prog (nat_lit 35) = some ⟨true,4,32, .agg #[.int .i64 0, .int .i64 0, .int .i64 0, .int .i64 0]⟩:=by kernel_rfl
theorem Zt : Yp Tryz.prog (nat_lit 37) = some ⟨true,5,56, .agg #[.slice none 0 0, .int .i64 0, .int .i64 0, .int .i64 0, .int .i64 0]⟩:=by kernel_rfl
theorem Zpb : Yp Tryz.prog (nat_lit 42) = some ⟨false,1,8, .int .i64 0⟩:=by kernel_rfl
theorem ZdP : Yp Tryz.prog (nat_lit 48) = some ⟨false,1,24, .slice none 0 0⟩:=by kernel_rfl
theorem QJ : Yp Tryz.prog (nat_lit 50) = some ⟨true,2,40, .agg #[.slice none 0 0,Zc []]⟩:=by kernel_rfl
theorem Ye : Yp Tryz.prog (nat_lit 58) = some ⟨true,3,32, .agg #[.int .i64 0, .int .i64 0,Zc []]⟩:=by kernel_rfl
theorem ZlL : Yp Tryz.prog (nat_lit 71) = some ⟨false,1,24, .slice none 0 0⟩:=by kernel_rfl
theorem ZlM : Yp Tryz.prog (nat_lit 73) = some ⟨true,3,40, .agg #[.slice none 0 0, .int .i64 0, .int .i64 0]⟩:=by kernel_rfl
theorem ZX : Yp Tryz.prog (nat_lit 105) = some ⟨true,3,40, .agg #[.int .i64 0, .int .i64 0, .slice none 0 0]⟩:=by kernel_rfl
theorem XN : Yp Tryz.prog (nat_lit 130) = some ⟨true,2,24, .agg #[Zc [], .int .i64 0]⟩:=by kernel_rfl
theorem X7 : Yp Tryz.prog (nat_lit 136) = some ⟨true,2,48, .agg #[.slice none 0 0, .slice none 0 0]⟩:=by kernel_rfl
theorem ZiG : Yp Tryz.prog (nat_lit 139) = some ⟨true,14,248, .agg #[Zc [], .slice none 0 0, .int .i64 0, .slice none 0 0, .slice none 0 0, .int .i64 0,Zc [], .slice none 0 0, .int .i64 0, .slice none 0 0, .slice none 0 0, .int .i64 0, .slice none 0 0,Zc []]⟩:=by kernel_rfl
theorem ZsA : fieldsOf Tryz.prog (nat_lit 25) = some [(0,1),(1,1),(2,1),(3,1)]:=by kernel_rfl
theorem Zbc : fieldsOf Tryz.prog (nat_lit 28) = some [(0,4),(4,1),(5,1)]:=by kernel_rfl
theorem Xs : fieldsOf Tryz.prog (nat_lit 33) = some [(0,1),(1,1)]:=by kernel_rfl
theorem ZbB : fieldsOf Tryz.prog (nat_lit 35) = some [(0,2),(2,2)]:=by kernel_rfl
theorem Zag : fieldsOf Tryz.prog (nat_lit 37) = some [(0,1),(1,4)]:=by kernel_rfl
theorem ZsB : fieldsOf Tryz.prog (nat_lit 58) = some [(0,1),(1,1),(2,1)]:=by kernel_rfl
theorem Zvf : fieldsOf Tryz.prog (nat_lit 73) = some [(0,1),(1,2)]:=by kernel_rfl
theorem ZiH : fieldsOf Tryz.prog (nat_lit 105) = some [(0,1),(1,1),(2,1)]:=by kernel_rfl
theorem ZqC : fieldsOf Tryz.prog (nat_lit 130) = some [(0,1),(1,1)]:=by kernel_rfl
theorem Zub : fieldsOf Tryz.prog (nat_lit 136) = some [(0,1),(1,1)]:=by kernel_rfl
theorem Zuc : fieldsOf Tryz.prog (nat_lit 139) = some [(0,6),(6,6),(12,2)]:=by kernel_rfl
def ft : FTab Tryz.prog:=⟨[(nat_lit 25,[(0,1),(1,1),(2,1),(3,1)]),(nat_lit 28,[(0,4),(4,1),(5,1)]),(nat_lit 33,[(0,1),(1,1)]),(nat_lit 35,[(0,2),(2,2)]),(nat_lit 37,[(0,1),(1,4)]),(nat_lit 50,[(0,1),(1,1)]),(nat_lit 58,[(0,1),(1,1),(2,1)]),(nat_lit 73,[(0,1),(1,2)]),(nat_lit 87,[(0,1),(1,1),(2,1),(3,3),(6,1)]),(nat_lit 92,[(0,1),(1,1),(2,1),(3,7),(10,1),(11,2)]),(nat_lit 105,[(0,1),(1,1),(2,1)]),(nat_lit 130,[(0,1),(1,1)]),(nat_lit 136,[(0,1),(1,1)]),(nat_lit 139,[(0,6),(6,6),(12,2)])],fun x hx=>by simp only [List.mem_cons,List.not_mem_nil,or_false] at hx; rcases hx with rfl | rfl | rfl | rfl | rfl | rfl | rfl | rfl | rfl | rfl | rfl | rfl | rfl | rfl <;> kernel_rfl⟩
theorem ul3 : Tryz.prog.underlying (nat_lit 3) = some (.int .i64):=by kernel_rfl
theorem ul4 : Tryz.prog.underlying (nat_lit 4) = some (.bool):=by kernel_rfl
theorem ul5 : Tryz.prog.underlying (nat_lit 5) = some (.int .u8):=by kernel_rfl
theorem ul9 : Tryz.prog.underlying (nat_lit 9) = some (.string):=by kernel_rfl
theorem ZaN : Tryz.prog.underlying (nat_lit 22) = some (.slice (nat_lit 130)):=by kernel_rfl
theorem Zdr : Tryz.prog.underlying (nat_lit 23) = some (.slice (nat_lit 50)):=by kernel_rfl
theorem Yn : Tryz.prog.underlying (nat_lit 26) = some (.slice (nat_lit 37)):=by kernel_rfl
theorem Yz : Tryz.prog.underlying (nat_lit 31) = some (.slice (nat_lit 58)):=by kernel_rfl
theorem Zav : Tryz.prog.underlying (nat_lit 48) = some (.slice (nat_lit 9)):=by kernel_rfl
theorem X9 : Tryz.prog.underlying (nat_lit 51) = some (.slice (nat_lit 31)):=by kernel_rfl
theorem ZlN : Tryz.prog.underlying (nat_lit 63) = some (.slice (nat_lit 73)):=by kernel_rfl
theorem YN : Tryz.prog.underlying (nat_lit 71) = some (.slice (nat_lit 33)):=by kernel_rfl
theorem Zaw : Tryz.prog.underlying (nat_lit 77) = some (.slice (nat_lit 28)):=by kernel_rfl
theorem ZcB : Tryz.prog.underlying (nat_lit 81) = some (.slice (nat_lit 25)):=by kernel_rfl
theorem Yc : Tryz.prog.underlying (nat_lit 113) = some (.slice (nat_lit 3)):=by kernel_rfl
theorem Zaj : Tryz.prog.underlying (nat_lit 133) = some (.slice (nat_lit 136)):=by kernel_rfl
theorem ZbO : Tryz.prog.underlying (nat_lit 160) = some (.slice (nat_lit 105)):=by kernel_rfl
theorem ZlO : Tryz.prog.underlying (nat_lit 176) = some (.slice (nat_lit 42)):=by kernel_rfl
theorem ZqD : Tryz.prog.underlying (nat_lit 181) = some (.map (nat_lit 9) (nat_lit 3)):=by kernel_rfl
theorem ZqE : Tryz.prog.underlying (nat_lit 207) = some (.int .u64):=by kernel_rfl
theorem ZqF : Tryz.prog.underlying (nat_lit 220) = some (.slice (nat_lit 5)):=by kernel_rfl
theorem ZqG : Tryz.prog.underlying (nat_lit 245) = some (.int .u64):=by kernel_rfl
theorem Zvg : TSl Tryz.prog (nat_lit 22) (nat_lit 130) ⟨true,2,24, .agg #[Zc [], .int .i64 0]⟩:=⟨ZaN,XN⟩
theorem YQ : TSl Tryz.prog (nat_lit 26) (nat_lit 37) ⟨true,5,56, .agg #[.slice none 0 0, .int .i64 0, .int .i64 0, .int .i64 0, .int .i64 0]⟩:=⟨Yn,Zt⟩
theorem Zjw : TSl Tryz.prog (nat_lit 31) (nat_lit 58) ⟨true,3,32, .agg #[.int .i64 0, .int .i64 0,Zc []]⟩:=⟨Yz,Ye⟩
theorem ZsC : TSl Tryz.prog (nat_lit 48) (nat_lit 9) ⟨false,1,16,Zc []⟩:=⟨Zav,YM⟩
theorem Qr : TSl Tryz.prog (nat_lit 51) (nat_lit 31) ⟨false,1,24, .slice none 0 0⟩:=⟨X9,ZN⟩
theorem ZsD : TSl Tryz.prog (nat_lit 63) (nat_lit 73) ⟨true,3,40, .agg #[.slice none 0 0, .int .i64 0, .int .i64 0]⟩:=⟨ZlN,ZlM⟩
theorem YH : TSl Tryz.prog (nat_lit 71) (nat_lit 33) ⟨true,2,16, .agg #[.int .i64 0, .int .i64 0]⟩:=⟨YN,Zz⟩
theorem ZlP : TSl Tryz.prog (nat_lit 81) (nat_lit 25) ⟨true,4,72, .agg #[Zc [], .slice none 0 0, .int .i64 0, .slice none 0 0]⟩:=⟨ZcB,Y5⟩
theorem ZS : TSl Tryz.prog (nat_lit 113) (nat_lit 3) ⟨false,1,8, .int .i64 0⟩:=⟨Yc,Zr⟩
theorem ZqH : TSl Tryz.prog (nat_lit 133) (nat_lit 136) ⟨true,2,48, .agg #[.slice none 0 0, .slice none 0 0]⟩:=⟨Zaj,X7⟩
theorem ZbP : TSl Tryz.prog (nat_lit 160) (nat_lit 105) ⟨true,3,40, .agg #[.int .i64 0, .int .i64 0, .slice none 0 0]⟩:=⟨ZbO,ZX⟩
theorem Zud : TSl Tryz.prog (nat_lit 176) (nat_lit 42) ⟨false,1,8, .int .i64 0⟩:=⟨ZlO,Zpb⟩
theorem ZbQ : TSl Tryz.prog (nat_lit 220) (nat_lit 5) ⟨false,1,1, .int .u8 0⟩:=⟨ZqF,ti5⟩
theorem YL : Zk Tryz.prog (nat_lit 11):=Ze Tryz.func11 (by decide) rfl
theorem Xl : Zk Tryz.prog (nat_lit 12):=Ze Tryz.func12 (by decide) rfl
theorem X2 : Zk Tryz.prog (nat_lit 13):=Ze Tryz.func13 (by decide) rfl
theorem Qg : Zk Tryz.prog (nat_lit 14):=Ze Tryz.func14 (by decide) rfl
theorem Q8 : Zk Tryz.prog (nat_lit 15):=Ze Tryz.func15 (by decide) rfl
theorem QS : Zk Tryz.prog (nat_lit 16):=Ze Tryz.func16 (by decide) rfl
theorem QK : Zk Tryz.prog (nat_lit 17):=Ze Tryz.func17 (by decide) rfl
theorem ZaO : Zk Tryz.prog (nat_lit 18):=Ze Tryz.func18 (by decide) rfl
theorem ZbC : Zk Tryz.prog (nat_lit 19):=Ze Tryz.func19 (by decide) rfl
theorem Zcg : Zk Tryz.prog (nat_lit 20):=Ze Tryz.func20 (by decide) rfl
theorem Zds : Zk Tryz.prog (nat_lit 21):=Ze Tryz.func21 (by decide) rfl
theorem Zhm : Zk Tryz.prog (nat_lit 22):=Ze Tryz.func22 (by decide) rfl
theorem Zdt : Zk Tryz.prog (nat_lit 23):=Ze Tryz.func23 (by decide) rfl
theorem ZcC : Zk Tryz.prog (nat_lit 24):=Ze Tryz.func24 (by decide) rfl
theorem Zhn : Zk Tryz.prog (nat_lit 25):=Ze Tryz.func25 (by decide) rfl
theorem ZdQ : Zk Tryz.prog (nat_lit 26):=Ze Tryz.func26 (by decide) rfl
theorem Zjx : Zk Tryz.prog (nat_lit 27):=Ze Tryz.func27 (by decide) rfl
theorem ZlQ : Zk Tryz.prog (nat_lit 28):=Ze Tryz.func28 (by decide) rfl
theorem ZsE : Zk Tryz.prog (nat_lit 29):=Ze Tryz.func29 (by decide) rfl
theorem ZsF : Zk Tryz.prog (nat_lit 30):=Ze Tryz.func30 (by decide) rfl
theorem ZsG : Zk Tryz.prog (nat_lit 31):=Ze Tryz.func31 (by decide) rfl
theorem Zpc : Zk Tryz.prog (nat_lit 32):=Ze Tryz.func32 (by decide) rfl
theorem Zjy : Zk Tryz.prog (nat_lit 33):=Ze Tryz.func33 (by decide) rfl
theorem Zpd : Zk Tryz.prog (nat_lit 34):=Ze Tryz.func34 (by decide) rfl
theorem ZsH : Zk Tryz.prog (nat_lit 35):=Ze Tryz.func35 (by decide) rfl
theorem Zvh : Zk Tryz.prog (nat_lit 37):=Ze Tryz.func37 (by decide) rfl
theorem Zpe : Zk Tryz.prog (nat_lit 39):=Ze Tryz.func39 (by decide) rfl
theorem Zvi : Zk Tryz.prog (nat_lit 40):=Ze Tryz.func40 (by decide) rfl
theorem Zvj : Zk Tryz.prog (nat_lit 41):=Ze Tryz.func41 (by decide) rfl
theorem Zvk : Zk Tryz.prog (nat_lit 42):=Ze Tryz.func42 (by decide) rfl
theorem Zvl : Zk Tryz.prog (nat_lit 43):=Ze Tryz.func43 (by decide) rfl
theorem ZsI : Zk Tryz.prog (nat_lit 44):=Ze Tryz.func44 (by decide) rfl
theorem Zpf : Zk Tryz.prog (nat_lit 45):=Ze Tryz.func45 (by decide) rfl
theorem Zvm : Zk Tryz.prog (nat_lit 46):=Ze Tryz.func46 (by decide) rfl
theorem ZlR : Zk Tryz.prog (nat_lit 49):=Ze Tryz.func49 (by decide) rfl
theorem Zvn : Zk Tryz.prog (nat_lit 55):=Ze Tryz.func55 (by decide) rfl
theorem Zjz : Zk Tryz.prog (nat_lit 56):=Ze Tryz.func56 (by decide) rfl
theorem Zvo : Zk Tryz.prog (nat_lit 57):=Ze Tryz.func57 (by decide) rfl
theorem ZsJ : Zk Tryz.prog (nat_lit 58):=Ze Tryz.func58 (by decide) rfl
theorem Zvp : Zk Tryz.prog (nat_lit 59):=Ze Tryz.func59 (by decide) rfl
theorem Zpg : Zk Tryz.prog (nat_lit 60):=Ze Tryz.func60 (by decide) rfl
theorem Zvq : Zk Tryz.prog (nat_lit 61):=Ze Tryz.func61 (by decide) rfl
theorem ZlS : Zk Tryz.prog (nat_lit 62):=Ze Tryz.func62 (by decide) rfl
theorem ZsK : Zk Tryz.prog (nat_lit 63):=Ze Tryz.func63 (by decide) rfl
theorem ZsL : Zk Tryz.prog (nat_lit 64):=Ze Tryz.func64 (by decide) rfl
theorem Zvr : Zk Tryz.prog (nat_lit 65):=Ze Tryz.func65 (by decide) rfl
theorem ZlT : Zk Tryz.prog (nat_lit 66):=Ze Tryz.func66 (by decide) rfl
theorem Zvs : Zk Tryz.prog (nat_lit 67):=Ze Tryz.func67 (by decide) rfl
theorem ZlU : Zk Tryz.prog (nat_lit 68):=Ze Tryz.func68 (by decide) rfl
theorem Zvt : Zk Tryz.prog (nat_lit 69):=Ze Tryz.func69 (by decide) rfl
theorem Zph : Zk Tryz.prog (nat_lit 70):=Ze Tryz.func70 (by decide) rfl
theorem ZsM : Zk Tryz.prog (nat_lit 71):=Ze Tryz.func71 (by decide) rfl
theorem ZsN : Zk Tryz.prog (nat_lit 72):=Ze Tryz.func72 (by decide) rfl
theorem ZeC : Zk Tryz.prog (nat_lit 73):=Ze Tryz.func73 (by decide) rfl
theorem ZsO : Zk Tryz.prog (nat_lit 74):=Ze Tryz.func74 (by decide) rfl
theorem Zpi : Zk Tryz.prog (nat_lit 75):=Ze Tryz.func75 (by decide) rfl
theorem Zvu : Zk Tryz.prog (nat_lit 76):=Ze Tryz.func76 (by decide) rfl
theorem Zpj : Zk Tryz.prog (nat_lit 77):=Ze Tryz.func77 (by decide) rfl
theorem Zvv : Zk Tryz.prog (nat_lit 78):=Ze Tryz.func78 (by decide) rfl
theorem Zvw : Zk Tryz.prog (nat_lit 79):=Ze Tryz.func79 (by decide) rfl
theorem ZlV : Zk Tryz.prog (nat_lit 80):=Ze Tryz.func80 (by decide) rfl
theorem ZlW : Zk Tryz.prog (nat_lit 81):=Ze Tryz.func81 (by decide) rfl
theorem ZsP : Zk Tryz.prog (nat_lit 82):=Ze Tryz.func82 (by decide) rfl
theorem ZlX : Zk Tryz.prog (nat_lit 85):=Ze Tryz.func85 (by decide) rfl
theorem ZlY : Zk Tryz.prog (nat_lit 86):=Ze Tryz.func86 (by decide) rfl
theorem Zpk : Zk Tryz.prog (nat_lit 87):=Ze Tryz.func87 (by decide) rfl
theorem Zvx : Zk Tryz.prog (nat_lit 88):=Ze Tryz.func88 (by decide) rfl
theorem ZsQ : Zk Tryz.prog (nat_lit 91):=Ze Tryz.func91 (by decide) rfl
theorem Zvy : Zk Tryz.prog (nat_lit 93):=Ze Tryz.func93 (by decide) rfl
theorem Zvz : Zk Tryz.prog (nat_lit 95):=Ze Tryz.func95 (by decide) rfl
theorem Zpl : Zk Tryz.prog (nat_lit 97):=Ze Tryz.func97 (by decide) rfl
theorem Zj0 : Zk Tryz.prog (nat_lit 99):=Ze Tryz.func99 (by decide) rfl
theorem Zue : Zk Tryz.prog (nat_lit 100):=Ze Tryz.func100 (by decide) rfl
theorem Zuf : Zk Tryz.prog (nat_lit 101):=Ze Tryz.func101 (by decide) rfl
theorem ZiI : Zk Tryz.prog (nat_lit 102):=Ze Tryz.func102 (by decide) rfl
theorem Zug : Zk Tryz.prog (nat_lit 103):=Ze Tryz.func103 (by decide) rfl
theorem Zuh : Zk Tryz.prog (nat_lit 106):=Ze Tryz.func106 (by decide) rfl
theorem Zui : Zk Tryz.prog (nat_lit 112):=Ze Tryz.func112 (by decide) rfl
theorem Zuj : Zk Tryz.prog (nat_lit 113):=Ze Tryz.func113 (by decide) rfl
theorem QE : Zk Tryz.prog (nat_lit 114):=Ze Tryz.func114 (by decide) rfl
theorem ZiJ : Zk Tryz.prog (nat_lit 115):=Ze Tryz.func115 (by decide) rfl
theorem Zuk : Zk Tryz.prog (nat_lit 116):=Ze Tryz.func116 (by decide) rfl
theorem ZqI : Zk Tryz.prog (nat_lit 117):=Ze Tryz.func117 (by decide) rfl
theorem ZlZ : Zk Tryz.prog (nat_lit 118):=Ze Tryz.func118 (by decide) rfl
theorem ZqJ : Zk Tryz.prog (nat_lit 119):=Ze Tryz.func119 (by decide) rfl
theorem ZqK : Zk Tryz.prog (nat_lit 120):=Ze Tryz.func120 (by decide) rfl
theorem Zg4 : Zk Tryz.prog (nat_lit 121):=Ze Tryz.func121 (by decide) rfl
theorem Zma : Zk Tryz.prog (nat_lit 122):=Ze Tryz.func122 (by decide) rfl
theorem Zul : Zk Tryz.prog (nat_lit 123):=Ze Tryz.func123 (by decide) rfl
theorem Zmb : Zk Tryz.prog (nat_lit 124):=Ze Tryz.func124 (by decide) rfl
theorem Zum : Zk Tryz.prog (nat_lit 125):=Ze Tryz.func125 (by decide) rfl
theorem Zun : Zk Tryz.prog (nat_lit 126):=Ze Tryz.func126 (by decide) rfl
theorem Zuo : Zk Tryz.prog (nat_lit 127):=Ze Tryz.func127 (by decide) rfl
theorem ZqL : Zk Tryz.prog (nat_lit 128):=Ze Tryz.func128 (by decide) rfl
theorem Zup : Zk Tryz.prog (nat_lit 129):=Ze Tryz.func129 (by decide) rfl
theorem Zuq : Zk Tryz.prog (nat_lit 130):=Ze Tryz.func130 (by decide) rfl
theorem ZcX : Zk Tryz.prog (nat_lit 131):=Ze Tryz.func131 (by decide) rfl
theorem Zur : Zk Tryz.prog (nat_lit 132):=Ze Tryz.func132 (by decide) rfl
theorem Zus : Zk Tryz.prog (nat_lit 137):=Ze Tryz.func137 (by decide) rfl
theorem Zut : Zk Tryz.prog (nat_lit 138):=Ze Tryz.func138 (by decide) rfl
theorem ZqM : Zk Tryz.prog (nat_lit 140):=Ze Tryz.func140 (by decide) rfl
theorem ZqN : Zk Tryz.prog (nat_lit 144):=Ze Tryz.func144 (by decide) rfl
theorem ZqO : Zk Tryz.prog (nat_lit 145):=Ze Tryz.func145 (by decide) rfl
theorem ZqP : Zk Tryz.prog (nat_lit 146):=Ze Tryz.func146 (by decide) rfl
theorem Zuu : Zk Tryz.prog (nat_lit 147):=Ze Tryz.func147 (by decide) rfl
theorem ZqQ : Zk Tryz.prog (nat_lit 153):=Ze Tryz.func153 (by decide) rfl
theorem Zuv : Zk Tryz.prog (nat_lit 154):=Ze Tryz.func154 (by decide) rfl
theorem ZqR : Zk Tryz.prog (nat_lit 155):=Ze Tryz.func155 (by decide) rfl
theorem Zuw : Zk Tryz.prog (nat_lit 156):=Ze Tryz.func156 (by decide) rfl
theorem Zux : Zk Tryz.prog (nat_lit 157):=Ze Tryz.func157 (by decide) rfl
theorem Zmc : Zk Tryz.prog (nat_lit 163):=Ze Tryz.func163 (by decide) rfl
theorem Zuy : Zk Tryz.prog (nat_lit 164):=Ze Tryz.func164 (by decide) rfl
theorem Zuz : Zk Tryz.prog (nat_lit 165):=Ze Tryz.func165 (by decide) rfl
theorem ZqS : Zk Tryz.prog (nat_lit 168):=Ze Tryz.func168 (by decide) rfl
theorem ZiK : Zk Tryz.prog (nat_lit 169):=Ze Tryz.func169 (by decide) rfl
theorem ZqT : Zk Tryz.prog (nat_lit 170):=Ze Tryz.func170 (by decide) rfl
theorem Zu0 : Zk Tryz.prog (nat_lit 171):=Ze Tryz.func171 (by decide) rfl
theorem Zu1 : Zk Tryz.prog (nat_lit 172):=Ze Tryz.func172 (by decide) rfl
theorem Zu2 : Zk Tryz.prog (nat_lit 173):=Ze Tryz.func173 (by decide) rfl
theorem ZqU : Zk Tryz.prog (nat_lit 174):=Ze Tryz.func174 (by decide) rfl
theorem Zu3 : Zk Tryz.prog (nat_lit 175):=Ze Tryz.func175 (by decide) rfl
theorem Zu4 : Zk Tryz.prog (nat_lit 176):=Ze Tryz.func176 (by decide) rfl
theorem Zu5 : Zk Tryz.prog (nat_lit 178):=Ze Tryz.func178 (by decide) rfl
theorem Zfn : Zk Tryz.prog (nat_lit 179):=Ze Tryz.func179 (by decide) rfl
theorem ZbR : Zk Tryz.prog (nat_lit 180):=Ze Tryz.func180 (by decide) rfl
theorem ZqV : Zk Tryz.prog (nat_lit 181):=Ze Tryz.func181 (by decide) rfl
theorem Zu6 : Zk Tryz.prog (nat_lit 184):=Ze Tryz.func184 (by decide) rfl
theorem Zu7 : Zk Tryz.prog (nat_lit 186):=Ze Tryz.func186 (by decide) rfl
theorem Zu8 : Zk Tryz.prog (nat_lit 187):=Ze Tryz.func187 (by decide) rfl
theorem Zu9 : Zk Tryz.prog (nat_lit 188):=Ze Tryz.func188 (by decide) rfl
theorem ZuA : Zk Tryz.prog (nat_lit 189):=Ze Tryz.func189 (by decide) rfl
theorem ZuB : Zk Tryz.prog (nat_lit 198):=Ze Tryz.func198 (by decide) rfl
theorem ZuC : Zk Tryz.prog (nat_lit 199):=Ze Tryz.func199 (by decide) rfl
theorem ZqW : Zk Tryz.prog (nat_lit 210):=Ze Tryz.func210 (by decide) rfl
theorem ZuD : Zk Tryz.prog (nat_lit 213):=Ze Tryz.func213 (by decide) rfl
theorem ZdR : Zk Tryz.prog (nat_lit 214):=Ze Tryz.func214 (by decide) rfl
theorem ZuE : Zk Tryz.prog (nat_lit 226):=Ze Tryz.func226 (by decide) rfl
theorem ZqX : Zk Tryz.prog (nat_lit 239):=Ze Tryz.func239 (by decide) rfl
theorem ZuF : Tryz.prog.eqGuardType Tryz.prog.depth (nat_lit 35) = false:=by kernel_rfl
set_option maxHeartbeats 1000000 in
theorem Zpm (x y : Rect) (w : World) : (Op.equalIn 10000 (nat_lit 35) (.agg #[.int .i64 x.d.a, .int .i64 x.d.b, .int .i64 x.x.a, .int .i64 x.x.b]) (.agg #[.int .i64 y.d.a, .int .i64 y.d.b, .int .i64 y.x.a, .int .i64 y.x.b])).run Tryz.prog w = .ok (decide (x = y)) w:=by
 have u3:=Tryz.underlying3
 have a3:=Tryz.isAgg3
 have z3:=Tryz.sizeOf3
 have u33:=Tryz.underlying33
 have a33:=Tryz.isAgg33
 have z33:=Tryz.sizeOf33
 have e33 : ∀ d xs ys,(Op.equalIn (d+1) (nat_lit 33) (.agg xs) (.agg ys)).run Tryz.prog w = (Op.eqFields d xs ys (Tryz.prog.fieldsOf (nat_lit 33)).toList).run Tryz.prog w:=fun d xs ys=>run_equalIn_agg w d (nat_lit 33) xs ys (by kernel_rfl) (by kernel_rfl)
 rw [show (10000 : Nat) = 9999 + 1 from rfl,run_equalIn_agg w 9999 (nat_lit 35) _ _ (by kernel_rfl) (by kernel_rfl)]
 simp only [Program.fieldsOf,Tryz.underlying35,Zc] at e33 ⊢
 go_simp
 skip
 obtain ⟨⟨x1,x2⟩,⟨x3,x4⟩⟩:=x
 obtain ⟨⟨y1,y2⟩,⟨y3,y4⟩⟩:=y
 by_cases h1 : x1 = y1 <;> by_cases h2 : x2 = y2 <;> by_cases h3 : x3 = y3 <;> by_cases h4 : x4 = y4 <;> simp [h1,h2,h3,h4]
theorem ZiL : Tryz.prog.eqGuardType Tryz.prog.depth (nat_lit 33) = false:=by kernel_rfl
set_option maxHeartbeats 1000000 in
theorem ZdS (x y : Span) (w : World) : (Op.equalIn 10000 (nat_lit 33) (.agg #[.int .i64 x.a, .int .i64 x.b]) (.agg #[.int .i64 y.a, .int .i64 y.b])).run Tryz.prog w = .ok (decide (x = y)) w:=by
 have u3:=Tryz.underlying3
 have a3:=Tryz.isAgg3
 have z3:=Tryz.sizeOf3
 rw [show (10000 : Nat) = 9999 + 1 from rfl,run_equalIn_agg w 9999 (nat_lit 33) _ _ (by kernel_rfl) (by kernel_rfl)]
 simp only [Program.fieldsOf,Tryz.underlying33,Zc]
 go_simp
 skip
 obtain ⟨x1,x2⟩:=x
 obtain ⟨y1,y2⟩:=y
 by_cases h1 : x1 = y1 <;> by_cases h2 : x2 = y2 <;> simp [h1,h2]
theorem Zfo : Tryz.prog.eqGuardType Tryz.prog.depth (nat_lit 58) = false:=by kernel_rfl
set_option maxHeartbeats 1000000 in
theorem Zcz (x y : Val) (w : World) : (Op.equalIn 10000 (nat_lit 58) (.agg #[.int .i64 x.k, .int .i64 x.n,Zc x.s]) (.agg #[.int .i64 y.k, .int .i64 y.n,Zc y.s])).run Tryz.prog w = .ok (decide (x = y)) w:=by
 have u3:=Tryz.underlying3
 have a3:=Tryz.isAgg3
 have z3:=Tryz.sizeOf3
 have u9:=Tryz.underlying9
 have a9:=Tryz.isAgg9
 have z9:=Tryz.sizeOf9
 rw [show (10000 : Nat) = 9999 + 1 from rfl,run_equalIn_agg w 9999 (nat_lit 58) _ _ (by kernel_rfl) (by kernel_rfl)]
 simp only [Program.fieldsOf,Tryz.underlying58,Zc]
 go_simp
 skip
 obtain ⟨x1,x2,x3⟩:=x
 obtain ⟨y1,y2,y3⟩:=y
 by_cases h1 : x1 = y1 <;> by_cases h2 : x2 = y2 <;> by_cases h3 : x3 = y3 <;> simp [h1,h2,h3]
theorem mixed : Tryz.prog.follows .mixedOrders = true:=by kernel_rfl
theorem dr {N id : Nat} {Q : Exit → Env → World → Prop} {ρ : Env} {w w0 : World} {ops : List Oper} {X : List Nat} {G0 G : GH} {L : Own} (T : List (Nat × Bool)) (hv : List (Nat × Value)) (hS : (St w0 X G0 G L) w) (ho : Zc8 Tryz.prog ops (St w0 X G0 G L) (T.map (·.1)) hv (Xq ft ops (T.map (·.1)) hv 0 ops ρ) 0 ops)
  (hT : ∀ w,(St w0 X G0 G L) w → goT ft ops (St w0 X G0 G L) Q T (Xq ft ops (T.map (·.1)) hv 0 ops ρ) w) (hN : ops.all (Zbl N) = true:=by kernel_rfl) (hp : ZiE ops (Qw ops (T.map (·.1))) = true:=by kernel_rfl)
  (hn : T.map (fun x=>Qm (Qw ops (T.map (·.1))) x.1) = T.map (·.2):=by kernel_rfl) (ha : Zbn ft ops (T.map (·.1)) hv (Xq ft ops (T.map (·.1)) hv 0 ops ρ) 0 ops = Zbo (T.map (·.1)) hv (Xq ft ops (T.map (·.1)) hv 0 ops ρ) 0 ops:=by exact rfl) : DR Tryz.prog N id ops.toArray Q ρ w:=
 DR.go _ T hv mixed hN hp hn ha hS.draw ho hT
theorem drT {N id : Nat} {Q : Exit → Env → World → Prop} {ρ : Env} {w w0 : World} {ops : List Oper} {X : List Nat} {G0 G : GH} {L : Own} (T : List Nat) (hv : List (Nat × Value)) (hS : (St w0 X G0 G L) w) (ho : Zc8 Tryz.prog ops (St w0 X G0 G L) T hv (Xq ft ops T hv 0 ops ρ) 0 ops)
  (hT : ∀ w,(St w0 X G0 G L) w → TG Tryz.prog ops.toArray (Qw ops T) (St w0 X G0 G L) Q T.length T (Xq ft ops T hv 0 ops ρ) w) (hN : ops.all (Zbl N) = true:=by kernel_rfl) (hp : Zgo ops (Qw ops T) = true:=by kernel_rfl)
  (ha : Zbn ft ops T hv (Xq ft ops T hv 0 ops ρ) 0 ops = Zbo T hv (Xq ft ops T hv 0 ops ρ) 0 ops:=by exact rfl) : DR Tryz.prog N id ops.toArray Q ρ w:=
 DR.goG _ T hv mixed hN hp ha hS.draw ho hT
theorem drD {N id : Nat} {Q : Exit → Env → World → Prop} {ρ : Env} {w : World} {ops : List Oper} {C : World → Prop} (hD : ∀ w,C w → C { w with drawn:=w.drawn + 1 }) (T : List (Nat × Bool)) (hv : List (Nat × Value)) (hS : C w) (ho : Zc8 Tryz.prog ops C (T.map (·.1)) hv (Xq ft ops (T.map (·.1)) hv 0 ops ρ) 0 ops)
  (hT : ∀ w,C w → goT ft ops C Q T (Xq ft ops (T.map (·.1)) hv 0 ops ρ) w) (hN : ops.all (Zbl N) = true:=by kernel_rfl) (hp : ZiE ops (Qw ops (T.map (·.1))) = true:=by kernel_rfl)
  (hn : T.map (fun x=>Qm (Qw ops (T.map (·.1))) x.1) = T.map (·.2):=by kernel_rfl) (ha : Zbn ft ops (T.map (·.1)) hv (Xq ft ops (T.map (·.1)) hv 0 ops ρ) 0 ops = Zbo (T.map (·.1)) hv (Xq ft ops (T.map (·.1)) hv 0 ops ρ) 0 ops:=by exact rfl) : DR Tryz.prog N id ops.toArray Q ρ w:=
 DR.go _ T hv mixed hN hp hn ha (hD _ hS) ho hT
end Go.Civ
