/- Lemmas. -/
import Derived.Test.YthgeclodflmiaaaGreatM06
import Derived.Test.YthgeclodflmiaaaGreatM08
import Derived.Test.YthgeclodflmiaaaGreatProg
import Derived.KernelRfl
import Derived.WalkKit
set_option linter.unusedVariables false
set_option linter.unusedSimpArgs false
set_option maxRecDepth 100000
set_option maxHeartbeats 4000000
namespace Go.Civ
open Go.Proofs
theorem Zn : Ye Tryz.prog (nat_lit 3) = some ⟨false,1,8, .int .i64 0⟩:=by kernel_rfl
theorem ti5 : Ye Tryz.prog (nat_lit 5) = some ⟨false,1,1, .int .u8 0⟩:=by kernel_rfl
theorem Yv : Ye Tryz.prog (nat_lit 9) = some ⟨false,1,16,Zd []⟩:=by kernel_rfl
theorem ZaG : Ye Tryz.prog (nat_lit 22) = some ⟨false,1,24, .slice none 0 0⟩:=by kernel_rfl
theorem Zdi : Ye Tryz.prog (nat_lit 23) = some ⟨false,1,24, .slice none 0 0⟩:=by kernel_rfl
theorem XG : Ye Tryz.prog (nat_lit 25) = some ⟨true,4,72, .agg #[Zd [], .slice none 0 0, .int .i64 0, .slice none 0 0]⟩:=by kernel_rfl
theorem YD : Ye Tryz.prog (nat_lit 26) = some ⟨false,1,24, .slice none 0 0⟩:=by kernel_rfl
theorem Zv : Ye Tryz.prog (nat_lit 28) = some ⟨true,6,104, .agg #[Zd [], .slice none 0 0, .int .i64 0, .slice none 0 0, .slice none 0 0, .int .i64 0]⟩:=by kernel_rfl
theorem Z9 : Ye Tryz.prog (nat_lit 31) = some ⟨false,1,24, .slice none 0 0⟩:=by kernel_rfl
theorem Zs : Ye Tryz.prog (nat_lit 33) = some ⟨true,2,16, .agg #[.int .i64 0, .int .i64 0]⟩:=by kernel_rfl
theorem ZaH : Ye Tryz.prog (nat_lit 35) = some ⟨true,4,32, .agg #[.int .i64 0, .int .i64 0, .int .i64 0, .int .i64 0]⟩:=by kernel_rfl
theorem Zr : Ye Tryz.prog (nat_lit 37) = some ⟨true,5,56, .agg #[.slice none 0 0, .int .i64 0, .int .i64 0, .int .i64 0, .int .i64 0]⟩:=by kernel_rfl
theorem Zpr : Ye Tryz.prog (nat_lit 42) = some ⟨false,1,8, .int .i64 0⟩:=by kernel_rfl
theorem QG : Ye Tryz.prog (nat_lit 48) = some ⟨false,1,24, .slice none 0 0⟩:=by kernel_rfl
theorem Qr : Ye Tryz.prog (nat_lit 50) = some ⟨true,2,40, .agg #[.slice none 0 0,Zd []]⟩:=by kernel_rfl
theorem ZW : Ye Tryz.prog (nat_lit 58) = some ⟨true,3,32, .agg #[.int .i64 0, .int .i64 0,Zd []]⟩:=by kernel_rfl
theorem ZlU : Ye Tryz.prog (nat_lit 71) = some ⟨false,1,24, .slice none 0 0⟩:=by kernel_rfl
theorem Xl : Ye Tryz.prog (nat_lit 73) = some ⟨true,3,40, .agg #[.slice none 0 0, .int .i64 0, .int .i64 0]⟩:=by kernel_rfl
theorem ZU : Ye Tryz.prog (nat_lit 105) = some ⟨true,3,40, .agg #[.int .i64 0, .int .i64 0, .slice none 0 0]⟩:=by kernel_rfl
theorem Xy : Ye Tryz.prog (nat_lit 130) = some ⟨true,2,24, .agg #[Zd [], .int .i64 0]⟩:=by kernel_rfl
theorem X4 : Ye Tryz.prog (nat_lit 136) = some ⟨true,2,48, .agg #[.slice none 0 0, .slice none 0 0]⟩:=by kernel_rfl
theorem ZgC : Ye Tryz.prog (nat_lit 139) = some ⟨true,14,248, .agg #[Zd [], .slice none 0 0, .int .i64 0, .slice none 0 0, .slice none 0 0, .int .i64 0,Zd [], .slice none 0 0, .int .i64 0, .slice none 0 0, .slice none 0 0, .int .i64 0, .slice none 0 0,Zd []]⟩:=by kernel_rfl
theorem Zv0 : fieldsOf Tryz.prog (nat_lit 25) = some [(0,1),(1,1),(2,1),(3,1)]:=by kernel_rfl
theorem ZaX : fieldsOf Tryz.prog (nat_lit 28) = some [(0,4),(4,1),(5,1)]:=by kernel_rfl
theorem Xq : fieldsOf Tryz.prog (nat_lit 33) = some [(0,1),(1,1)]:=by kernel_rfl
theorem ZbZ : fieldsOf Tryz.prog (nat_lit 35) = some [(0,2),(2,2)]:=by kernel_rfl
theorem QR : fieldsOf Tryz.prog (nat_lit 37) = some [(0,1),(1,4)]:=by kernel_rfl
theorem ZsS : fieldsOf Tryz.prog (nat_lit 58) = some [(0,1),(1,1),(2,1)]:=by kernel_rfl
theorem ZlV : fieldsOf Tryz.prog (nat_lit 73) = some [(0,1),(1,2)]:=by kernel_rfl
theorem ZiN : fieldsOf Tryz.prog (nat_lit 105) = some [(0,1),(1,1),(2,1)]:=by kernel_rfl
theorem ZqO : fieldsOf Tryz.prog (nat_lit 130) = some [(0,1),(1,1)]:=by kernel_rfl
theorem Zux : fieldsOf Tryz.prog (nat_lit 136) = some [(0,1),(1,1)]:=by kernel_rfl
theorem ZqP : fieldsOf Tryz.prog (nat_lit 139) = some [(0,6),(6,6),(12,2)]:=by kernel_rfl
def ft : FTab Tryz.prog:=⟨[(nat_lit 25,[(0,1),(1,1),(2,1),(3,1)]),(nat_lit 28,[(0,4),(4,1),(5,1)]),(nat_lit 33,[(0,1),(1,1)]),(nat_lit 35,[(0,2),(2,2)]),(nat_lit 37,[(0,1),(1,4)]),(nat_lit 50,[(0,1),(1,1)]),(nat_lit 58,[(0,1),(1,1),(2,1)]),(nat_lit 73,[(0,1),(1,2)]),(nat_lit 87,[(0,1),(1,1),(2,1),(3,3),(6,1)]),(nat_lit 105,[(0,1),(1,1),(2,1)]),(nat_lit 130,[(0,1),(1,1)]),(nat_lit 136,[(0,1),(1,1)]),(nat_lit 139,[(0,6),(6,6),(12,2)])],fun x hx=>by simp only [List.mem_cons,List.not_mem_nil,or_false] at hx; rcases hx with rfl | rfl | rfl | rfl | rfl | rfl | rfl | rfl | rfl | rfl | rfl | rfl | rfl <;> kernel_rfl⟩
theorem ul3 : Tryz.prog.underlying (nat_lit 3) = some (.int .i64):=by kernel_rfl
theorem ul4 : Tryz.prog.underlying (nat_lit 4) = some (.bool):=by kernel_rfl
theorem ul5 : Tryz.prog.underlying (nat_lit 5) = some (.int .u8):=by kernel_rfl
theorem ul9 : Tryz.prog.underlying (nat_lit 9) = some (.string):=by kernel_rfl
theorem QH : Tryz.prog.underlying (nat_lit 22) = some (.slice (nat_lit 130)):=by kernel_rfl
theorem Zca : Tryz.prog.underlying (nat_lit 23) = some (.slice (nat_lit 50)):=by kernel_rfl
theorem Yc : Tryz.prog.underlying (nat_lit 26) = some (.slice (nat_lit 37)):=by kernel_rfl
theorem Yl : Tryz.prog.underlying (nat_lit 31) = some (.slice (nat_lit 58)):=by kernel_rfl
theorem Xa : Tryz.prog.underlying (nat_lit 48) = some (.slice (nat_lit 9)):=by kernel_rfl
theorem X6 : Tryz.prog.underlying (nat_lit 51) = some (.slice (nat_lit 31)):=by kernel_rfl
theorem YS : Tryz.prog.underlying (nat_lit 63) = some (.slice (nat_lit 73)):=by kernel_rfl
theorem Yd : Tryz.prog.underlying (nat_lit 71) = some (.slice (nat_lit 33)):=by kernel_rfl
theorem ZG : Tryz.prog.underlying (nat_lit 113) = some (.slice (nat_lit 3)):=by kernel_rfl
theorem Zai : Tryz.prog.underlying (nat_lit 133) = some (.slice (nat_lit 136)):=by kernel_rfl
theorem ZbJ : Tryz.prog.underlying (nat_lit 160) = some (.slice (nat_lit 105)):=by kernel_rfl
theorem ZlW : Tryz.prog.underlying (nat_lit 176) = some (.slice (nat_lit 42)):=by kernel_rfl
theorem ZqQ : Tryz.prog.underlying (nat_lit 181) = some (.map (nat_lit 9) (nat_lit 3)):=by kernel_rfl
theorem ZqR : Tryz.prog.underlying (nat_lit 207) = some (.int .u64):=by kernel_rfl
theorem ZqS : Tryz.prog.underlying (nat_lit 220) = some (.slice (nat_lit 5)):=by kernel_rfl
theorem ZqT : Tryz.prog.underlying (nat_lit 245) = some (.int .u64):=by kernel_rfl
theorem Zv1 : TSl Tryz.prog (nat_lit 22) (nat_lit 130) ⟨true,2,24, .agg #[Zd [], .int .i64 0]⟩:=⟨QH,Xy⟩
theorem YK : TSl Tryz.prog (nat_lit 26) (nat_lit 37) ⟨true,5,56, .agg #[.slice none 0 0, .int .i64 0, .int .i64 0, .int .i64 0, .int .i64 0]⟩:=⟨Yc,Zr⟩
theorem Zj2 : TSl Tryz.prog (nat_lit 31) (nat_lit 58) ⟨true,3,32, .agg #[.int .i64 0, .int .i64 0,Zd []]⟩:=⟨Yl,ZW⟩
theorem ZsT : TSl Tryz.prog (nat_lit 48) (nat_lit 9) ⟨false,1,16,Zd []⟩:=⟨Xa,Yv⟩
theorem Qs : TSl Tryz.prog (nat_lit 51) (nat_lit 31) ⟨false,1,24, .slice none 0 0⟩:=⟨X6,Z9⟩
theorem Ze9 : TSl Tryz.prog (nat_lit 63) (nat_lit 73) ⟨true,3,40, .agg #[.slice none 0 0, .int .i64 0, .int .i64 0]⟩:=⟨YS,Xl⟩
theorem Ym : TSl Tryz.prog (nat_lit 71) (nat_lit 33) ⟨true,2,16, .agg #[.int .i64 0, .int .i64 0]⟩:=⟨Yd,Zs⟩
theorem ZI : TSl Tryz.prog (nat_lit 113) (nat_lit 3) ⟨false,1,8, .int .i64 0⟩:=⟨ZG,Zn⟩
theorem ZqU : TSl Tryz.prog (nat_lit 133) (nat_lit 136) ⟨true,2,48, .agg #[.slice none 0 0, .slice none 0 0]⟩:=⟨Zai,X4⟩
theorem ZbK : TSl Tryz.prog (nat_lit 160) (nat_lit 105) ⟨true,3,40, .agg #[.int .i64 0, .int .i64 0, .slice none 0 0]⟩:=⟨ZbJ,ZU⟩
theorem Zuy : TSl Tryz.prog (nat_lit 176) (nat_lit 42) ⟨false,1,8, .int .i64 0⟩:=⟨ZlW,Zpr⟩
theorem ZbL : TSl Tryz.prog (nat_lit 220) (nat_lit 5) ⟨false,1,1, .int .u8 0⟩:=⟨ZqS,ti5⟩
theorem Y4 : Zk Tryz.prog (nat_lit 11):=Zf Tryz.func11 (by decide) rfl
theorem Xf : Zk Tryz.prog (nat_lit 12):=Zf Tryz.func12 (by decide) rfl
theorem YT : Zk Tryz.prog (nat_lit 13):=Zf Tryz.func13 (by decide) rfl
theorem Xm : Zk Tryz.prog (nat_lit 14):=Zf Tryz.func14 (by decide) rfl
theorem QI : Zk Tryz.prog (nat_lit 15):=Zf Tryz.func15 (by decide) rfl
theorem Zau : Zk Tryz.prog (nat_lit 16):=Zf Tryz.func16 (by decide) rfl
theorem ZaI : Zk Tryz.prog (nat_lit 17):=Zf Tryz.func17 (by decide) rfl
theorem Zbo : Zk Tryz.prog (nat_lit 18):=Zf Tryz.func18 (by decide) rfl
theorem Zc5 : Zk Tryz.prog (nat_lit 19):=Zf Tryz.func19 (by decide) rfl
theorem Zdj : Zk Tryz.prog (nat_lit 20):=Zf Tryz.func20 (by decide) rfl
theorem ZdJ : Zk Tryz.prog (nat_lit 21):=Zf Tryz.func21 (by decide) rfl
theorem Zj3 : Zk Tryz.prog (nat_lit 22):=Zf Tryz.func22 (by decide) rfl
theorem ZdK : Zk Tryz.prog (nat_lit 23):=Zf Tryz.func23 (by decide) rfl
theorem Zc6 : Zk Tryz.prog (nat_lit 24):=Zf Tryz.func24 (by decide) rfl
theorem Zj4 : Zk Tryz.prog (nat_lit 27):=Zf Tryz.func27 (by decide) rfl
theorem Zj5 : Zk Tryz.prog (nat_lit 28):=Zf Tryz.func28 (by decide) rfl
theorem ZsU : Zk Tryz.prog (nat_lit 29):=Zf Tryz.func29 (by decide) rfl
theorem Zps : Zk Tryz.prog (nat_lit 31):=Zf Tryz.func31 (by decide) rfl
theorem ZlX : Zk Tryz.prog (nat_lit 32):=Zf Tryz.func32 (by decide) rfl
theorem ZlY : Zk Tryz.prog (nat_lit 33):=Zf Tryz.func33 (by decide) rfl
theorem ZlZ : Zk Tryz.prog (nat_lit 34):=Zf Tryz.func34 (by decide) rfl
theorem Zpt : Zk Tryz.prog (nat_lit 35):=Zf Tryz.func35 (by decide) rfl
theorem Zv2 : Zk Tryz.prog (nat_lit 36):=Zf Tryz.func36 (by decide) rfl
theorem ZsV : Zk Tryz.prog (nat_lit 37):=Zf Tryz.func37 (by decide) rfl
theorem Zpu : Zk Tryz.prog (nat_lit 39):=Zf Tryz.func39 (by decide) rfl
theorem Zv3 : Zk Tryz.prog (nat_lit 40):=Zf Tryz.func40 (by decide) rfl
theorem Zma : Zk Tryz.prog (nat_lit 49):=Zf Tryz.func49 (by decide) rfl
theorem Zv4 : Zk Tryz.prog (nat_lit 55):=Zf Tryz.func55 (by decide) rfl
theorem Zj6 : Zk Tryz.prog (nat_lit 56):=Zf Tryz.func56 (by decide) rfl
theorem ZsW : Zk Tryz.prog (nat_lit 57):=Zf Tryz.func57 (by decide) rfl
theorem ZsX : Zk Tryz.prog (nat_lit 58):=Zf Tryz.func58 (by decide) rfl
theorem Zv5 : Zk Tryz.prog (nat_lit 59):=Zf Tryz.func59 (by decide) rfl
theorem ZsY : Zk Tryz.prog (nat_lit 60):=Zf Tryz.func60 (by decide) rfl
theorem ZsZ : Zk Tryz.prog (nat_lit 61):=Zf Tryz.func61 (by decide) rfl
theorem Zpv : Zk Tryz.prog (nat_lit 62):=Zf Tryz.func62 (by decide) rfl
theorem Zta : Zk Tryz.prog (nat_lit 63):=Zf Tryz.func63 (by decide) rfl
theorem Ztb : Zk Tryz.prog (nat_lit 64):=Zf Tryz.func64 (by decide) rfl
theorem Zv6 : Zk Tryz.prog (nat_lit 65):=Zf Tryz.func65 (by decide) rfl
theorem Zmb : Zk Tryz.prog (nat_lit 66):=Zf Tryz.func66 (by decide) rfl
theorem Zv7 : Zk Tryz.prog (nat_lit 67):=Zf Tryz.func67 (by decide) rfl
theorem Ztc : Zk Tryz.prog (nat_lit 68):=Zf Tryz.func68 (by decide) rfl
theorem Ztd : Zk Tryz.prog (nat_lit 70):=Zf Tryz.func70 (by decide) rfl
theorem Zv8 : Zk Tryz.prog (nat_lit 71):=Zf Tryz.func71 (by decide) rfl
theorem Zte : Zk Tryz.prog (nat_lit 72):=Zf Tryz.func72 (by decide) rfl
theorem ZdL : Zk Tryz.prog (nat_lit 73):=Zf Tryz.func73 (by decide) rfl
theorem Ztf : Zk Tryz.prog (nat_lit 74):=Zf Tryz.func74 (by decide) rfl
theorem Zpw : Zk Tryz.prog (nat_lit 75):=Zf Tryz.func75 (by decide) rfl
theorem Zv9 : Zk Tryz.prog (nat_lit 76):=Zf Tryz.func76 (by decide) rfl
theorem Zpx : Zk Tryz.prog (nat_lit 77):=Zf Tryz.func77 (by decide) rfl
theorem ZvA : Zk Tryz.prog (nat_lit 78):=Zf Tryz.func78 (by decide) rfl
theorem ZvB : Zk Tryz.prog (nat_lit 79):=Zf Tryz.func79 (by decide) rfl
theorem Zmc : Zk Tryz.prog (nat_lit 80):=Zf Tryz.func80 (by decide) rfl
theorem Zmd : Zk Tryz.prog (nat_lit 81):=Zf Tryz.func81 (by decide) rfl
theorem Zh0 : Zk Tryz.prog (nat_lit 82):=Zf Tryz.func82 (by decide) rfl
theorem Zme : Zk Tryz.prog (nat_lit 85):=Zf Tryz.func85 (by decide) rfl
theorem Zmf : Zk Tryz.prog (nat_lit 86):=Zf Tryz.func86 (by decide) rfl
theorem Zpy : Zk Tryz.prog (nat_lit 87):=Zf Tryz.func87 (by decide) rfl
theorem ZvC : Zk Tryz.prog (nat_lit 88):=Zf Tryz.func88 (by decide) rfl
theorem Ztg : Zk Tryz.prog (nat_lit 90):=Zf Tryz.func90 (by decide) rfl
theorem ZvD : Zk Tryz.prog (nat_lit 91):=Zf Tryz.func91 (by decide) rfl
theorem Zth : Zk Tryz.prog (nat_lit 93):=Zf Tryz.func93 (by decide) rfl
theorem Zti : Zk Tryz.prog (nat_lit 94):=Zf Tryz.func94 (by decide) rfl
theorem ZvE : Zk Tryz.prog (nat_lit 95):=Zf Tryz.func95 (by decide) rfl
theorem Ztj : Zk Tryz.prog (nat_lit 96):=Zf Tryz.func96 (by decide) rfl
theorem Ztk : Zk Tryz.prog (nat_lit 97):=Zf Tryz.func97 (by decide) rfl
theorem Zpz : Zk Tryz.prog (nat_lit 98):=Zf Tryz.func98 (by decide) rfl
theorem Zj7 : Zk Tryz.prog (nat_lit 99):=Zf Tryz.func99 (by decide) rfl
theorem Zuz : Zk Tryz.prog (nat_lit 100):=Zf Tryz.func100 (by decide) rfl
theorem Zu0 : Zk Tryz.prog (nat_lit 106):=Zf Tryz.func106 (by decide) rfl
theorem Zu1 : Zk Tryz.prog (nat_lit 112):=Zf Tryz.func112 (by decide) rfl
theorem Zu2 : Zk Tryz.prog (nat_lit 113):=Zf Tryz.func113 (by decide) rfl
theorem QB : Zk Tryz.prog (nat_lit 114):=Zf Tryz.func114 (by decide) rfl
theorem ZiO : Zk Tryz.prog (nat_lit 115):=Zf Tryz.func115 (by decide) rfl
theorem Zu3 : Zk Tryz.prog (nat_lit 116):=Zf Tryz.func116 (by decide) rfl
theorem ZqV : Zk Tryz.prog (nat_lit 117):=Zf Tryz.func117 (by decide) rfl
theorem Zmg : Zk Tryz.prog (nat_lit 118):=Zf Tryz.func118 (by decide) rfl
theorem ZqW : Zk Tryz.prog (nat_lit 119):=Zf Tryz.func119 (by decide) rfl
theorem ZqX : Zk Tryz.prog (nat_lit 120):=Zf Tryz.func120 (by decide) rfl
theorem ZgE : Zk Tryz.prog (nat_lit 121):=Zf Tryz.func121 (by decide) rfl
theorem Zmh : Zk Tryz.prog (nat_lit 122):=Zf Tryz.func122 (by decide) rfl
theorem Zu4 : Zk Tryz.prog (nat_lit 123):=Zf Tryz.func123 (by decide) rfl
theorem Zmi : Zk Tryz.prog (nat_lit 124):=Zf Tryz.func124 (by decide) rfl
theorem Zu5 : Zk Tryz.prog (nat_lit 125):=Zf Tryz.func125 (by decide) rfl
theorem Zu6 : Zk Tryz.prog (nat_lit 126):=Zf Tryz.func126 (by decide) rfl
theorem Zu7 : Zk Tryz.prog (nat_lit 127):=Zf Tryz.func127 (by decide) rfl
theorem ZqY : Zk Tryz.prog (nat_lit 128):=Zf Tryz.func128 (by decide) rfl
theorem ZqZ : Zk Tryz.prog (nat_lit 129):=Zf Tryz.func129 (by decide) rfl
theorem Zu8 : Zk Tryz.prog (nat_lit 130):=Zf Tryz.func130 (by decide) rfl
theorem ZcP : Zk Tryz.prog (nat_lit 131):=Zf Tryz.func131 (by decide) rfl
theorem Zu9 : Zk Tryz.prog (nat_lit 132):=Zf Tryz.func132 (by decide) rfl
theorem ZuA : Zk Tryz.prog (nat_lit 137):=Zf Tryz.func137 (by decide) rfl
theorem ZuB : Zk Tryz.prog (nat_lit 138):=Zf Tryz.func138 (by decide) rfl
theorem Zra : Zk Tryz.prog (nat_lit 140):=Zf Tryz.func140 (by decide) rfl
theorem ZuC : Zk Tryz.prog (nat_lit 141):=Zf Tryz.func141 (by decide) rfl
theorem ZuD : Zk Tryz.prog (nat_lit 142):=Zf Tryz.func142 (by decide) rfl
theorem ZuE : Zk Tryz.prog (nat_lit 143):=Zf Tryz.func143 (by decide) rfl
theorem Zrb : Zk Tryz.prog (nat_lit 144):=Zf Tryz.func144 (by decide) rfl
theorem Zrc : Zk Tryz.prog (nat_lit 145):=Zf Tryz.func145 (by decide) rfl
theorem Zrd : Zk Tryz.prog (nat_lit 146):=Zf Tryz.func146 (by decide) rfl
theorem ZuF : Zk Tryz.prog (nat_lit 147):=Zf Tryz.func147 (by decide) rfl
theorem ZuG : Zk Tryz.prog (nat_lit 148):=Zf Tryz.func148 (by decide) rfl
theorem ZuH : Zk Tryz.prog (nat_lit 149):=Zf Tryz.func149 (by decide) rfl
theorem Zre : Zk Tryz.prog (nat_lit 150):=Zf Tryz.func150 (by decide) rfl
theorem ZiP : Zk Tryz.prog (nat_lit 151):=Zf Tryz.func151 (by decide) rfl
theorem ZuI : Zk Tryz.prog (nat_lit 152):=Zf Tryz.func152 (by decide) rfl
theorem Zrf : Zk Tryz.prog (nat_lit 153):=Zf Tryz.func153 (by decide) rfl
theorem ZuJ : Zk Tryz.prog (nat_lit 154):=Zf Tryz.func154 (by decide) rfl
theorem Zrg : Zk Tryz.prog (nat_lit 155):=Zf Tryz.func155 (by decide) rfl
theorem Zmj : Zk Tryz.prog (nat_lit 163):=Zf Tryz.func163 (by decide) rfl
theorem ZuK : Zk Tryz.prog (nat_lit 164):=Zf Tryz.func164 (by decide) rfl
theorem ZuL : Zk Tryz.prog (nat_lit 165):=Zf Tryz.func165 (by decide) rfl
theorem Zrh : Zk Tryz.prog (nat_lit 168):=Zf Tryz.func168 (by decide) rfl
theorem ZiQ : Zk Tryz.prog (nat_lit 169):=Zf Tryz.func169 (by decide) rfl
theorem Zri : Zk Tryz.prog (nat_lit 170):=Zf Tryz.func170 (by decide) rfl
theorem ZuM : Zk Tryz.prog (nat_lit 171):=Zf Tryz.func171 (by decide) rfl
theorem ZuN : Zk Tryz.prog (nat_lit 172):=Zf Tryz.func172 (by decide) rfl
theorem ZuO : Zk Tryz.prog (nat_lit 173):=Zf Tryz.func173 (by decide) rfl
theorem Zrj : Zk Tryz.prog (nat_lit 174):=Zf Tryz.func174 (by decide) rfl
theorem ZuP : Zk Tryz.prog (nat_lit 175):=Zf Tryz.func175 (by decide) rfl
theorem ZuQ : Zk Tryz.prog (nat_lit 176):=Zf Tryz.func176 (by decide) rfl
theorem ZuR : Zk Tryz.prog (nat_lit 178):=Zf Tryz.func178 (by decide) rfl
theorem ZdM : Zk Tryz.prog (nat_lit 179):=Zf Tryz.func179 (by decide) rfl
theorem ZbM : Zk Tryz.prog (nat_lit 180):=Zf Tryz.func180 (by decide) rfl
theorem Zrk : Zk Tryz.prog (nat_lit 181):=Zf Tryz.func181 (by decide) rfl
theorem ZuS : Zk Tryz.prog (nat_lit 184):=Zf Tryz.func184 (by decide) rfl
theorem ZuT : Zk Tryz.prog (nat_lit 186):=Zf Tryz.func186 (by decide) rfl
theorem ZuU : Zk Tryz.prog (nat_lit 187):=Zf Tryz.func187 (by decide) rfl
theorem ZuV : Zk Tryz.prog (nat_lit 188):=Zf Tryz.func188 (by decide) rfl
theorem ZuW : Zk Tryz.prog (nat_lit 189):=Zf Tryz.func189 (by decide) rfl
theorem ZuX : Zk Tryz.prog (nat_lit 191):=Zf Tryz.func191 (by decide) rfl
theorem Zrl : Zk Tryz.prog (nat_lit 193):=Zf Tryz.func193 (by decide) rfl
theorem ZuY : Zk Tryz.prog (nat_lit 198):=Zf Tryz.func198 (by decide) rfl
theorem ZuZ : Zk Tryz.prog (nat_lit 199):=Zf Tryz.func199 (by decide) rfl
theorem Zrm : Zk Tryz.prog (nat_lit 210):=Zf Tryz.func210 (by decide) rfl
theorem Zva : Zk Tryz.prog (nat_lit 213):=Zf Tryz.func213 (by decide) rfl
theorem ZdN : Zk Tryz.prog (nat_lit 214):=Zf Tryz.func214 (by decide) rfl
theorem Zvb : Zk Tryz.prog (nat_lit 226):=Zf Tryz.func226 (by decide) rfl
theorem Zrn : Zk Tryz.prog (nat_lit 239):=Zf Tryz.func239 (by decide) rfl
theorem Zmk : Tryz.prog.eqGuardType Tryz.prog.depth (nat_lit 35) = false:=by kernel_rfl
set_option maxHeartbeats 1000000 in
theorem ZfW (x y : Rect) (w : World) : (Op.equalIn 10000 (nat_lit 35) (.agg #[.int .i64 x.d.a, .int .i64 x.d.b, .int .i64 x.x.a, .int .i64 x.x.b]) (.agg #[.int .i64 y.d.a, .int .i64 y.d.b, .int .i64 y.x.a, .int .i64 y.x.b])).run Tryz.prog w = .ok (decide (x = y)) w:=by
 have u3:=Tryz.underlying3
 have a3:=Tryz.isAgg3
 have z3:=Tryz.sizeOf3
 have u33:=Tryz.underlying33
 have a33:=Tryz.isAgg33
 have z33:=Tryz.sizeOf33
 have e33 : ∀ d xs ys,(Op.equalIn (d+1) (nat_lit 33) (.agg xs) (.agg ys)).run Tryz.prog w = (Op.eqFields d xs ys (Tryz.prog.fieldsOf (nat_lit 33)).toList).run Tryz.prog w:=fun d xs ys=>run_equalIn_agg w d (nat_lit 33) xs ys (by kernel_rfl) (by kernel_rfl)
 rw [show (10000 : Nat) = 9999 + 1 from rfl,run_equalIn_agg w 9999 (nat_lit 35) _ _ (by kernel_rfl) (by kernel_rfl)]
 simp only [Program.fieldsOf,Tryz.underlying35,Zd] at e33 ⊢
 go_simp
 skip
 obtain ⟨⟨x1,x2⟩,⟨x3,x4⟩⟩:=x
 obtain ⟨⟨y1,y2⟩,⟨y3,y4⟩⟩:=y
 by_cases h1 : x1 = y1 <;> by_cases h2 : x2 = y2 <;> by_cases h3 : x3 = y3 <;> by_cases h4 : x4 = y4 <;> simp [h1,h2,h3,h4]
theorem ZiR : Tryz.prog.eqGuardType Tryz.prog.depth (nat_lit 33) = false:=by kernel_rfl
set_option maxHeartbeats 1000000 in
theorem ZdO (x y : Span) (w : World) : (Op.equalIn 10000 (nat_lit 33) (.agg #[.int .i64 x.a, .int .i64 x.b]) (.agg #[.int .i64 y.a, .int .i64 y.b])).run Tryz.prog w = .ok (decide (x = y)) w:=by
 have u3:=Tryz.underlying3
 have a3:=Tryz.isAgg3
 have z3:=Tryz.sizeOf3
 rw [show (10000 : Nat) = 9999 + 1 from rfl,run_equalIn_agg w 9999 (nat_lit 33) _ _ (by kernel_rfl) (by kernel_rfl)]
 simp only [Program.fieldsOf,Tryz.underlying33,Zd]
 go_simp
 skip
 obtain ⟨x1,x2⟩:=x
 obtain ⟨y1,y2⟩:=y
 by_cases h1 : x1 = y1 <;> by_cases h2 : x2 = y2 <;> simp [h1,h2]
theorem Zfu : Tryz.prog.eqGuardType Tryz.prog.depth (nat_lit 58) = false:=by kernel_rfl
set_option maxHeartbeats 1000000 in
theorem Zcs (x y : Val) (w : World) : (Op.equalIn 10000 (nat_lit 58) (.agg #[.int .i64 x.k, .int .i64 x.n,Zd x.s]) (.agg #[.int .i64 y.k, .int .i64 y.n,Zd y.s])).run Tryz.prog w = .ok (decide (x = y)) w:=by
 have u3:=Tryz.underlying3
 have a3:=Tryz.isAgg3
 have z3:=Tryz.sizeOf3
 have u9:=Tryz.underlying9
 have a9:=Tryz.isAgg9
 have z9:=Tryz.sizeOf9
 rw [show (10000 : Nat) = 9999 + 1 from rfl,run_equalIn_agg w 9999 (nat_lit 58) _ _ (by kernel_rfl) (by kernel_rfl)]
 simp only [Program.fieldsOf,Tryz.underlying58,Zd]
 go_simp
 skip
 obtain ⟨x1,x2,x3⟩:=x
 obtain ⟨y1,y2,y3⟩:=y
 by_cases h1 : x1 = y1 <;> by_cases h2 : x2 = y2 <;> by_cases h3 : x3 = y3 <;> simp [h1,h2,h3]
theorem mixed : Tryz.prog.follows .mixedOrders = true:=by kernel_rfl
theorem dr {N id : Nat} {Q : Exit → Env → World → Prop} {ρ : Env} {w w0 : World} {ops : List Oper} {X : List Nat} {G0 G : GH} {L : Own} (T : List (Nat × Bool)) (hv : List (Nat × Value)) (hS : (St w0 X G0 G L) w) (ho : Zc1 Tryz.prog ops (St w0 X G0 G L) (T.map (·.1)) hv (Xi ft ops (T.map (·.1)) hv 0 ops ρ) 0 ops)
  (hT : ∀ w,(St w0 X G0 G L) w → goT ft ops (St w0 X G0 G L) Q T (Xi ft ops (T.map (·.1)) hv 0 ops ρ) w) (hN : ops.all (Zbj N) = true:=by kernel_rfl) (hp : ZiL ops (Qv ops (T.map (·.1))) = true:=by kernel_rfl)
  (hn : T.map (fun x=>Qo (Qv ops (T.map (·.1))) x.1) = T.map (·.2):=by kernel_rfl) (ha : Zbl ft ops (T.map (·.1)) hv (Xi ft ops (T.map (·.1)) hv 0 ops ρ) 0 ops = Zbm (T.map (·.1)) hv (Xi ft ops (T.map (·.1)) hv 0 ops ρ) 0 ops:=by exact rfl) : DR Tryz.prog N id ops.toArray Q ρ w:=
 DR.go _ T hv mixed hN hp hn ha hS.draw ho hT
theorem drT {N id : Nat} {Q : Exit → Env → World → Prop} {ρ : Env} {w w0 : World} {ops : List Oper} {X : List Nat} {G0 G : GH} {L : Own} (T : List Nat) (hv : List (Nat × Value)) (hS : (St w0 X G0 G L) w) (ho : Zc1 Tryz.prog ops (St w0 X G0 G L) T hv (Xi ft ops T hv 0 ops ρ) 0 ops)
  (hT : ∀ w,(St w0 X G0 G L) w → TG Tryz.prog ops.toArray (Qv ops T) (St w0 X G0 G L) Q T.length T (Xi ft ops T hv 0 ops ρ) w) (hN : ops.all (Zbj N) = true:=by kernel_rfl) (hp : Zgy ops (Qv ops T) = true:=by kernel_rfl)
  (ha : Zbl ft ops T hv (Xi ft ops T hv 0 ops ρ) 0 ops = Zbm T hv (Xi ft ops T hv 0 ops ρ) 0 ops:=by exact rfl) : DR Tryz.prog N id ops.toArray Q ρ w:=
 DR.goG _ T hv mixed hN hp ha hS.draw ho hT
theorem drD {N id : Nat} {Q : Exit → Env → World → Prop} {ρ : Env} {w : World} {ops : List Oper} {C : World → Prop} (hD : ∀ w,C w → C { w with drawn:=w.drawn + 1 }) (T : List (Nat × Bool)) (hv : List (Nat × Value)) (hS : C w) (ho : Zc1 Tryz.prog ops C (T.map (·.1)) hv (Xi ft ops (T.map (·.1)) hv 0 ops ρ) 0 ops)
  (hT : ∀ w,C w → goT ft ops C Q T (Xi ft ops (T.map (·.1)) hv 0 ops ρ) w) (hN : ops.all (Zbj N) = true:=by kernel_rfl) (hp : ZiL ops (Qv ops (T.map (·.1))) = true:=by kernel_rfl)
  (hn : T.map (fun x=>Qo (Qv ops (T.map (·.1))) x.1) = T.map (·.2):=by kernel_rfl) (ha : Zbl ft ops (T.map (·.1)) hv (Xi ft ops (T.map (·.1)) hv 0 ops ρ) 0 ops = Zbm (T.map (·.1)) hv (Xi ft ops (T.map (·.1)) hv 0 ops ρ) 0 ops:=by exact rfl) : DR Tryz.prog N id ops.toArray Q ρ w:=
 DR.go _ T hv mixed hN hp hn ha (hD _ hS) ho hT
end Go.Civ
