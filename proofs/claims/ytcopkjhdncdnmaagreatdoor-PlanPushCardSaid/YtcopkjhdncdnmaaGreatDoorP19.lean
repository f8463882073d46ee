/- Lemmas. -/
import Derived.Test.YtcopkjhdncdnmaaGreatDoorP12
import Derived.Test.YtcopkjhdncdnmaaGreatDoorProg
import Derived.WalkKit
import Derived.Maps.Own
import Derived.RangeFuncFrom
import Derived.RangeFuncCalls
import Derived.RangeFuncLeaves
import Derived.TacticsIn
set_option linter.unusedVariables false
set_option linter.unusedSimpArgs false
set_option maxRecDepth 100000
set_option maxHeartbeats 4000000
namespace Go.Civ
open Go.Proofs
theorem Z3 : Y3 Tryz.prog (nat_lit 3) = some ⟨false,1,8,U 0⟩:=by kernel_rfl
theorem Zy : Y3 Tryz.prog (nat_lit 9) = some ⟨false,1,16,Zb []⟩:=by kernel_rfl
theorem ZU : Y3 Tryz.prog (nat_lit 22) = some ⟨false,1,24,Zh⟩:=by kernel_rfl
theorem X5 : Y3 Tryz.prog (nat_lit 24) = some ⟨true,3,32, .agg #[U 0,U 0,Zb []]⟩:=by kernel_rfl
theorem Y0 : Y3 Tryz.prog (nat_lit 25) = some ⟨false,1,24,Zh⟩:=by kernel_rfl
theorem Z5 : Y3 Tryz.prog (nat_lit 27) = some ⟨true,7,96, .agg #[U 0,Zb [],Zb [],U 0,U 0,Zb [],Zh]⟩:=by kernel_rfl
theorem Y7 : Y3 Tryz.prog (nat_lit 29) = some ⟨true,2,16, .agg #[U 0,U 0]⟩:=by kernel_rfl
theorem ZX : Y3 Tryz.prog (nat_lit 30) = some ⟨false,1,24,Zh⟩:=by kernel_rfl
theorem Zg : Y3 Tryz.prog (nat_lit 32) = some ⟨true,16,224, .agg #[U 0,Zb [],Zh,Zh,U 0,Zb [],Zb [],U 0,U 0,Zb [],Zh,U 0,U 0,U 0,U 0,Zh]⟩:=by kernel_rfl
theorem ZqU : Y3 Tryz.prog (nat_lit 33) = some ⟨false,1,24,Zh⟩:=by kernel_rfl
theorem Yb : Y3 Tryz.prog (nat_lit 43) = some ⟨false,1,24,Zh⟩:=by kernel_rfl
theorem Ym : Y3 Tryz.prog (nat_lit 48) = some ⟨true,2,24, .agg #[Zb [],U 0]⟩:=by kernel_rfl
theorem Zca : Y3 Tryz.prog (nat_lit 49) = some ⟨false,1,24,Zh⟩:=by kernel_rfl
theorem Zfg : Y3 Tryz.prog (nat_lit 51) = some ⟨true,2,48, .agg #[Zh,Zh]⟩:=by kernel_rfl
theorem ZqV : Y3 Tryz.prog (nat_lit 54) = some ⟨false,1,24,Zh⟩:=by kernel_rfl
theorem ZfD : Y3 Tryz.prog (nat_lit 56) = some ⟨true,21,280, .agg #[U 0,Zb [],Zh,Zh,U 0,Zb [],Zb [],U 0,U 0,Zb [],Zh,U 0,U 0,U 0,U 0,Zh,U 0,U 0,Zh,U 0,U 0]⟩:=by kernel_rfl
theorem ZgF : Y3 Tryz.prog (nat_lit 58) = some ⟨false,1,8, .pointer none⟩:=by kernel_rfl
theorem Zo3 : Y3 Tryz.prog (nat_lit 75) = some ⟨false,1,24,Zh⟩:=by kernel_rfl
theorem Xu : Y3 Tryz.prog (nat_lit 77) = some ⟨true,4,72, .agg #[Zb [],Zh,U 0,Zh]⟩:=by kernel_rfl
theorem ZlO : Y3 Tryz.prog (nat_lit 134) = some ⟨true,2,48, .agg #[Zh,Zh]⟩:=by kernel_rfl
theorem XH : Y3 Tryz.prog (nat_lit 140) = some ⟨false,1,24,Zh⟩:=by kernel_rfl
theorem Zph : Y3 Tryz.prog (nat_lit 146) = some ⟨true,2,16, .agg #[U 0,U 0]⟩:=by kernel_rfl
theorem ZiR : Y3 Tryz.prog (nat_lit 167) = some ⟨true,2,40, .agg #[Zh,Zb []]⟩:=by kernel_rfl
theorem ZlP : fieldsOf Tryz.prog (nat_lit 24) = some [(0,1),(1,1),(2,1)]:=by kernel_rfl
theorem ZfE : fieldsOf Tryz.prog (nat_lit 27) = some [(0,1),(1,1),(2,1),(3,3),(6,1)]:=by kernel_rfl
theorem ZeH : fieldsOf Tryz.prog (nat_lit 29) = some [(0,1),(1,1)]:=by kernel_rfl
theorem ZgG : fieldsOf Tryz.prog (nat_lit 32) = some [(0,1),(1,1),(2,1),(3,1),(4,7),(11,1),(12,1),(13,2),(15,1)]:=by kernel_rfl
theorem Zo4 : fieldsOf Tryz.prog (nat_lit 48) = some [(0,1),(1,1)]:=by kernel_rfl
theorem ZqW : fieldsOf Tryz.prog (nat_lit 51) = some [(0,1),(1,1)]:=by kernel_rfl
theorem Zti : fieldsOf Tryz.prog (nat_lit 56) = some [(0,16),(16,1),(17,1),(18,1),(19,2)]:=by kernel_rfl
theorem ZqX : fieldsOf Tryz.prog (nat_lit 77) = some [(0,1),(1,1),(2,1),(3,1)]:=by kernel_rfl
theorem Zsu : fieldsOf Tryz.prog (nat_lit 134) = some [(0,1),(1,1)]:=by kernel_rfl
def ft : FTab Tryz.prog:=⟨[(nat_lit 24,[(0,1),(1,1),(2,1)]),(nat_lit 27,[(0,1),(1,1),(2,1),(3,3),(6,1)]),(nat_lit 29,[(0,1),(1,1)]),(nat_lit 32,[(0,1),(1,1),(2,1),(3,1),(4,7),(11,1),(12,1),(13,2),(15,1)]),(nat_lit 48,[(0,1),(1,1)]),(nat_lit 51,[(0,1),(1,1)]),(nat_lit 56,[(0,16),(16,1),(17,1),(18,1),(19,2)]),(nat_lit 77,[(0,1),(1,1),(2,1),(3,1)]),(nat_lit 134,[(0,1),(1,1)]),(nat_lit 167,[(0,1),(1,1)])],fun x hx=>by simp only [List.mem_cons,List.not_mem_nil,or_false] at hx; rcases hx with rfl | rfl | rfl | rfl | rfl | rfl | rfl | rfl | rfl | rfl <;> kernel_rfl⟩
theorem Q1 : Tryz.prog.underlying (nat_lit 3) = some (.int .i64):=by kernel_rfl
theorem ul4 : Tryz.prog.underlying (nat_lit 4) = some (.bool):=by kernel_rfl
theorem Q2 : Tryz.prog.underlying (nat_lit 9) = some (.string):=by kernel_rfl
theorem Yo : Tryz.prog.underlying (nat_lit 22) = some (.slice (nat_lit 9)):=by kernel_rfl
theorem Y2 : Tryz.prog.underlying (nat_lit 25) = some (.slice (nat_lit 27)):=by kernel_rfl
theorem ZS : Tryz.prog.underlying (nat_lit 30) = some (.slice (nat_lit 32)):=by kernel_rfl
theorem Zb3 : Tryz.prog.underlying (nat_lit 33) = some (.slice (nat_lit 77)):=by kernel_rfl
theorem Yx : Tryz.prog.underlying (nat_lit 43) = some (.slice (nat_lit 48)):=by kernel_rfl
theorem ZfF : Tryz.prog.underlying (nat_lit 49) = some (.slice (nat_lit 56)):=by kernel_rfl
theorem Ztj : Tryz.prog.underlying (nat_lit 54) = some (.slice (nat_lit 146)):=by kernel_rfl
theorem ZlQ : Tryz.prog.underlying (nat_lit 75) = some (.slice (nat_lit 167)):=by kernel_rfl
theorem Y4 : Tryz.prog.underlying (nat_lit 140) = some (.slice (nat_lit 43)):=by kernel_rfl
theorem Zsv : Tryz.prog.underlying (nat_lit 146) = some (.array (nat_lit 2) (nat_lit 3)):=by kernel_rfl
theorem Zak : Tryz.prog.underlying (nat_lit 319) = some (.map (nat_lit 3) (nat_lit 3)):=by kernel_rfl
theorem ZaA : TSl Tryz.prog (nat_lit 22) (nat_lit 9) ⟨false,1,16,Zb []⟩:=⟨Yo,Zy⟩
theorem QI : TSl Tryz.prog (nat_lit 25) (nat_lit 27) ⟨true,7,96, .agg #[U 0,Zb [],Zb [],U 0,U 0,Zb [],Zh]⟩:=⟨Y2,Z5⟩
theorem YL : TSl Tryz.prog (nat_lit 30) (nat_lit 32) ⟨true,16,224, .agg #[U 0,Zb [],Zh,Zh,U 0,Zb [],Zb [],U 0,U 0,Zb [],Zh,U 0,U 0,U 0,U 0,Zh]⟩:=⟨ZS,Zg⟩
theorem Ztk : TSl Tryz.prog (nat_lit 33) (nat_lit 77) ⟨true,4,72, .agg #[Zb [],Zh,U 0,Zh]⟩:=⟨Zb3,Xu⟩
theorem YF : TSl Tryz.prog (nat_lit 43) (nat_lit 48) ⟨true,2,24, .agg #[Zb [],U 0]⟩:=⟨Yx,Ym⟩
theorem ZhS : TSl Tryz.prog (nat_lit 49) (nat_lit 56) ⟨true,21,280, .agg #[U 0,Zb [],Zh,Zh,U 0,Zb [],Zb [],U 0,U 0,Zb [],Zh,U 0,U 0,U 0,U 0,Zh,U 0,U 0,Zh,U 0,U 0]⟩:=⟨ZfF,ZfD⟩
theorem ZqY : TSl Tryz.prog (nat_lit 54) (nat_lit 146) ⟨true,2,16, .agg #[U 0,U 0]⟩:=⟨Ztj,Zph⟩
theorem Zhx : TSl Tryz.prog (nat_lit 140) (nat_lit 43) ⟨false,1,24,Zh⟩:=⟨Y4,Yb⟩
theorem ZK : Zq Tryz.prog (nat_lit 8):=Zi Tryz.func8 (by decide) rfl
theorem hb9 : Zq Tryz.prog (nat_lit 9):=Zi Tryz.func9 (by decide) rfl
theorem Z9 : Zq Tryz.prog (nat_lit 10):=Zi Tryz.func10 (by decide) rfl
theorem Z7 : Zq Tryz.prog (nat_lit 11):=Zi Tryz.func11 (by decide) rfl
theorem Z6 : Zq Tryz.prog (nat_lit 12):=Zi Tryz.func12 (by decide) rfl
theorem ZV : Zq Tryz.prog (nat_lit 13):=Zi Tryz.func13 (by decide) rfl
theorem Ye : Zq Tryz.prog (nat_lit 14):=Zi Tryz.func14 (by decide) rfl
theorem Yd : Zq Tryz.prog (nat_lit 15):=Zi Tryz.func15 (by decide) rfl
theorem Yf : Zq Tryz.prog (nat_lit 18):=Zi Tryz.func18 (by decide) rfl
theorem X6 : Zq Tryz.prog (nat_lit 25):=Zi Tryz.func25 (by decide) rfl
theorem XM : Zq Tryz.prog (nat_lit 34):=Zi Tryz.func34 (by decide) rfl
theorem Qj : Zq Tryz.prog (nat_lit 39):=Zi Tryz.func39 (by decide) rfl
theorem Qk : Zq Tryz.prog (nat_lit 40):=Zi Tryz.func40 (by decide) rfl
theorem XN : Zq Tryz.prog (nat_lit 41):=Zi Tryz.func41 (by decide) rfl
theorem Qo : Zq Tryz.prog (nat_lit 42):=Zi Tryz.func42 (by decide) rfl
theorem Zac : Zq Tryz.prog (nat_lit 43):=Zi Tryz.func43 (by decide) rfl
theorem Q5 : Zq Tryz.prog (nat_lit 44):=Zi Tryz.func44 (by decide) rfl
theorem Zad : Zq Tryz.prog (nat_lit 45):=Zi Tryz.func45 (by decide) rfl
theorem Qt : Zq Tryz.prog (nat_lit 46):=Zi Tryz.func46 (by decide) rfl
theorem QJ : Zq Tryz.prog (nat_lit 47):=Zi Tryz.func47 (by decide) rfl
theorem Zav : Zq Tryz.prog (nat_lit 48):=Zi Tryz.func48 (by decide) rfl
theorem Zaw : Zq Tryz.prog (nat_lit 49):=Zi Tryz.func49 (by decide) rfl
theorem QK : Zq Tryz.prog (nat_lit 50):=Zi Tryz.func50 (by decide) rfl
theorem Zax : Zq Tryz.prog (nat_lit 51):=Zi Tryz.func51 (by decide) rfl
theorem QL : Zq Tryz.prog (nat_lit 52):=Zi Tryz.func52 (by decide) rfl
theorem ZaT : Zq Tryz.prog (nat_lit 53):=Zi Tryz.func53 (by decide) rfl
theorem ZaU : Zq Tryz.prog (nat_lit 55):=Zi Tryz.func55 (by decide) rfl
theorem Zay : Zq Tryz.prog (nat_lit 56):=Zi Tryz.func56 (by decide) rfl
theorem ZaB : Zq Tryz.prog (nat_lit 57):=Zi Tryz.func57 (by decide) rfl
theorem Zbg : Zq Tryz.prog (nat_lit 58):=Zi Tryz.func58 (by decide) rfl
theorem Zbh : Zq Tryz.prog (nat_lit 59):=Zi Tryz.func59 (by decide) rfl
theorem Zbi : Zq Tryz.prog (nat_lit 60):=Zi Tryz.func60 (by decide) rfl
theorem Zae : Zq Tryz.prog (nat_lit 78):=Zi Tryz.func78 (by decide) rfl
theorem ZaC : Zq Tryz.prog (nat_lit 84):=Zi Tryz.func84 (by decide) rfl
theorem ZaV : Zq Tryz.prog (nat_lit 86):=Zi Tryz.func86 (by decide) rfl
theorem QA : Zq Tryz.prog (nat_lit 100):=Zi Tryz.func100 (by decide) rfl
theorem ZaD : Zq Tryz.prog (nat_lit 101):=Zi Tryz.func101 (by decide) rfl
theorem XV : Zq Tryz.prog (nat_lit 105):=Zi Tryz.func105 (by decide) rfl
theorem ZaE : Zq Tryz.prog (nat_lit 106):=Zi Tryz.func106 (by decide) rfl
theorem XQ : Zq Tryz.prog (nat_lit 107):=Zi Tryz.func107 (by decide) rfl
theorem Xi : Zq Tryz.prog (nat_lit 108):=Zi Tryz.func108 (by decide) rfl
theorem QB : Zq Tryz.prog (nat_lit 109):=Zi Tryz.func109 (by decide) rfl
theorem Zal : Zq Tryz.prog (nat_lit 110):=Zi Tryz.func110 (by decide) rfl
theorem QS : Zq Tryz.prog (nat_lit 111):=Zi Tryz.func111 (by decide) rfl
theorem Zam : Zq Tryz.prog (nat_lit 112):=Zi Tryz.func112 (by decide) rfl
theorem Zan : Zq Tryz.prog (nat_lit 113):=Zi Tryz.func113 (by decide) rfl
theorem ZaF : Zq Tryz.prog (nat_lit 114):=Zi Tryz.func114 (by decide) rfl
theorem Zao : Zq Tryz.prog (nat_lit 115):=Zi Tryz.func115 (by decide) rfl
theorem ZaG : Zq Tryz.prog (nat_lit 116):=Zi Tryz.func116 (by decide) rfl
theorem XW : Zq Tryz.prog (nat_lit 117):=Zi Tryz.func117 (by decide) rfl
theorem XR : Zq Tryz.prog (nat_lit 118):=Zi Tryz.func118 (by decide) rfl
theorem Xj : Zq Tryz.prog (nat_lit 119):=Zi Tryz.func119 (by decide) rfl
theorem ZaH : Zq Tryz.prog (nat_lit 120):=Zi Tryz.func120 (by decide) rfl
theorem QT : Zq Tryz.prog (nat_lit 121):=Zi Tryz.func121 (by decide) rfl
theorem Zap : Zq Tryz.prog (nat_lit 122):=Zi Tryz.func122 (by decide) rfl
theorem Zaq : Zq Tryz.prog (nat_lit 123):=Zi Tryz.func123 (by decide) rfl
theorem ZaI : Zq Tryz.prog (nat_lit 124):=Zi Tryz.func124 (by decide) rfl
theorem ZaJ : Zq Tryz.prog (nat_lit 125):=Zi Tryz.func125 (by decide) rfl
theorem Zbt : Zq Tryz.prog (nat_lit 126):=Zi Tryz.func126 (by decide) rfl
theorem Zbu : Zq Tryz.prog (nat_lit 127):=Zi Tryz.func127 (by decide) rfl
theorem Qm : Zq Tryz.prog (nat_lit 128):=Zi Tryz.func128 (by decide) rfl
theorem QU : Zq Tryz.prog (nat_lit 129):=Zi Tryz.func129 (by decide) rfl
theorem Zbv : Zq Tryz.prog (nat_lit 130):=Zi Tryz.func130 (by decide) rfl
theorem ZbD : Zq Tryz.prog (nat_lit 131):=Zi Tryz.func131 (by decide) rfl
theorem Zcb : Zq Tryz.prog (nat_lit 132):=Zi Tryz.func132 (by decide) rfl
theorem Zcc : Zq Tryz.prog (nat_lit 133):=Zi Tryz.func133 (by decide) rfl
theorem Zcd : Zq Tryz.prog (nat_lit 134):=Zi Tryz.func134 (by decide) rfl
theorem Zdh : Zq Tryz.prog (nat_lit 148):=Zi Tryz.func148 (by decide) rfl
theorem Zeg : Zq Tryz.prog (nat_lit 157):=Zi Tryz.func157 (by decide) rfl
theorem Zeh : Zq Tryz.prog (nat_lit 158):=Zi Tryz.func158 (by decide) rfl
theorem Zar : Zq Tryz.prog (nat_lit 159):=Zi Tryz.func159 (by decide) rfl
theorem Zei : Zq Tryz.prog (nat_lit 160):=Zi Tryz.func160 (by decide) rfl
theorem Zej : Zq Tryz.prog (nat_lit 161):=Zi Tryz.func161 (by decide) rfl
theorem Zek : Zq Tryz.prog (nat_lit 162):=Zi Tryz.func162 (by decide) rfl
theorem Zdi : Zq Tryz.prog (nat_lit 163):=Zi Tryz.func163 (by decide) rfl
theorem Zel : Zq Tryz.prog (nat_lit 167):=Zi Tryz.func167 (by decide) rfl
theorem Zem : Zq Tryz.prog (nat_lit 200):=Zi Tryz.func200 (by decide) rfl
theorem Zen : Zq Tryz.prog (nat_lit 203):=Zi Tryz.func203 (by decide) rfl
theorem Zce : Zq Tryz.prog (nat_lit 204):=Zi Tryz.func204 (by decide) rfl
theorem Zc4 : Zq Tryz.prog (nat_lit 205):=Zi Tryz.func205 (by decide) rfl
theorem Zdj : Zq Tryz.prog (nat_lit 206):=Zi Tryz.func206 (by decide) rfl
theorem Zc5 : Zq Tryz.prog (nat_lit 207):=Zi Tryz.func207 (by decide) rfl
theorem Zdk : Zq Tryz.prog (nat_lit 208):=Zi Tryz.func208 (by decide) rfl
theorem Zdl : Zq Tryz.prog (nat_lit 209):=Zi Tryz.func209 (by decide) rfl
theorem Zcf : Zq Tryz.prog (nat_lit 210):=Zi Tryz.func210 (by decide) rfl
theorem Zcg : Zq Tryz.prog (nat_lit 211):=Zi Tryz.func211 (by decide) rfl
theorem Zdm : Zq Tryz.prog (nat_lit 212):=Zi Tryz.func212 (by decide) rfl
theorem Zch : Zq Tryz.prog (nat_lit 213):=Zi Tryz.func213 (by decide) rfl
theorem QY : Zq Tryz.prog (nat_lit 214):=Zi Tryz.func214 (by decide) rfl
theorem Zc6 : Zq Tryz.prog (nat_lit 215):=Zi Tryz.func215 (by decide) rfl
theorem Qv : Zq Tryz.prog (nat_lit 216):=Zi Tryz.func216 (by decide) rfl
theorem ZbE : Zq Tryz.prog (nat_lit 217):=Zi Tryz.func217 (by decide) rfl
theorem Zdn : Zq Tryz.prog (nat_lit 218):=Zi Tryz.func218 (by decide) rfl
theorem Zas : Zq Tryz.prog (nat_lit 219):=Zi Tryz.func219 (by decide) rfl
theorem Zci : Zq Tryz.prog (nat_lit 220):=Zi Tryz.func220 (by decide) rfl
theorem Zc7 : Zq Tryz.prog (nat_lit 221):=Zi Tryz.func221 (by decide) rfl
theorem Zc8 : Zq Tryz.prog (nat_lit 222):=Zi Tryz.func222 (by decide) rfl
theorem Zc9 : Zq Tryz.prog (nat_lit 223):=Zi Tryz.func223 (by decide) rfl
theorem ZcA : Zq Tryz.prog (nat_lit 224):=Zi Tryz.func224 (by decide) rfl
theorem Zdo : Zq Tryz.prog (nat_lit 225):=Zi Tryz.func225 (by decide) rfl
theorem ZcB : Zq Tryz.prog (nat_lit 226):=Zi Tryz.func226 (by decide) rfl
theorem QZ : Zq Tryz.prog (nat_lit 240):=Zi Tryz.func240 (by decide) rfl
theorem QC : Zq Tryz.prog (nat_lit 241):=Zi Tryz.func241 (by decide) rfl
theorem Zdp : Zq Tryz.prog (nat_lit 242):=Zi Tryz.func242 (by decide) rfl
theorem Zcj : Zq Tryz.prog (nat_lit 243):=Zi Tryz.func243 (by decide) rfl
theorem Zeo : Zq Tryz.prog (nat_lit 250):=Zi Tryz.func250 (by decide) rfl
theorem Zdq : Zq Tryz.prog (nat_lit 251):=Zi Tryz.func251 (by decide) rfl
theorem Zep : Zq Tryz.prog (nat_lit 255):=Zi Tryz.func255 (by decide) rfl
theorem Zeq : Zq Tryz.prog (nat_lit 260):=Zi Tryz.func260 (by decide) rfl
theorem Zer : Zq Tryz.prog (nat_lit 261):=Zi Tryz.func261 (by decide) rfl
theorem Zes : Zq Tryz.prog (nat_lit 263):=Zi Tryz.func263 (by decide) rfl
theorem Zet : Zq Tryz.prog (nat_lit 265):=Zi Tryz.func265 (by decide) rfl
theorem Zeu : Zq Tryz.prog (nat_lit 266):=Zi Tryz.func266 (by decide) rfl
theorem Zev : Zq Tryz.prog (nat_lit 267):=Zi Tryz.func267 (by decide) rfl
theorem ZcC : Zq Tryz.prog (nat_lit 280):=Zi Tryz.func280 (by decide) rfl
theorem Zat : Zq Tryz.prog (nat_lit 282):=Zi Tryz.func282 (by decide) rfl
theorem Zdr : Zq Tryz.prog (nat_lit 283):=Zi Tryz.func283 (by decide) rfl
theorem ZbF : Zq Tryz.prog (nat_lit 284):=Zi Tryz.func284 (by decide) rfl
theorem Zds : Zq Tryz.prog (nat_lit 285):=Zi Tryz.func285 (by decide) rfl
theorem ZcD : Zq Tryz.prog (nat_lit 286):=Zi Tryz.func286 (by decide) rfl
theorem Qw : Zq Tryz.prog (nat_lit 287):=Zi Tryz.func287 (by decide) rfl
theorem ZcE : Zq Tryz.prog (nat_lit 289):=Zi Tryz.func289 (by decide) rfl
theorem ZcF : Zq Tryz.prog (nat_lit 290):=Zi Tryz.func290 (by decide) rfl
theorem Zbw : Zq Tryz.prog (nat_lit 291):=Zi Tryz.func291 (by decide) rfl
theorem Zbx : Zq Tryz.prog (nat_lit 292):=Zi Tryz.func292 (by decide) rfl
theorem ZbG : Zq Tryz.prog (nat_lit 293):=Zi Tryz.func293 (by decide) rfl
theorem ZcG : Zq Tryz.prog (nat_lit 308):=Zi Tryz.func308 (by decide) rfl
theorem Zdt : Zq Tryz.prog (nat_lit 309):=Zi Tryz.func309 (by decide) rfl
theorem Zdu : Zq Tryz.prog (nat_lit 310):=Zi Tryz.func310 (by decide) rfl
theorem Zba : Zq Tryz.prog (nat_lit 311):=Zi Tryz.func311 (by decide) rfl
theorem Zew : Zq Tryz.prog (nat_lit 323):=Zi Tryz.func323 (by decide) rfl
theorem Zex : Zq Tryz.prog (nat_lit 324):=Zi Tryz.func324 (by decide) rfl
theorem Zey : Zq Tryz.prog (nat_lit 325):=Zi Tryz.func325 (by decide) rfl
theorem Zez : Zq Tryz.prog (nat_lit 326):=Zi Tryz.func326 (by decide) rfl
theorem Ze0 : Zq Tryz.prog (nat_lit 327):=Zi Tryz.func327 (by decide) rfl
theorem Ze1 : Zq Tryz.prog (nat_lit 328):=Zi Tryz.func328 (by decide) rfl
theorem Ze2 : Zq Tryz.prog (nat_lit 329):=Zi Tryz.func329 (by decide) rfl
theorem ZcH : Zq Tryz.prog (nat_lit 339):=Zi Tryz.func339 (by decide) rfl
theorem Zdv : Zq Tryz.prog (nat_lit 340):=Zi Tryz.func340 (by decide) rfl
theorem ZcI : Zq Tryz.prog (nat_lit 341):=Zi Tryz.func341 (by decide) rfl
theorem ZcJ : Zq Tryz.prog (nat_lit 343):=Zi Tryz.func343 (by decide) rfl
theorem ZbH : Zq Tryz.prog (nat_lit 344):=Zi Tryz.func344 (by decide) rfl
theorem Zdw : Zq Tryz.prog (nat_lit 345):=Zi Tryz.func345 (by decide) rfl
theorem Ze3 : Zq Tryz.prog (nat_lit 379):=Zi Tryz.func379 (by decide) rfl
theorem Ze4 : Zq Tryz.prog (nat_lit 380):=Zi Tryz.func380 (by decide) rfl
theorem Zdx : Zq Tryz.prog (nat_lit 397):=Zi Tryz.func397 (by decide) rfl
theorem Zdy : Zq Tryz.prog (nat_lit 398):=Zi Tryz.func398 (by decide) rfl
theorem Ze5 : Zq Tryz.prog (nat_lit 433):=Zi Tryz.func433 (by decide) rfl
theorem Zpi : Tryz.prog.eqGuardType Tryz.prog.depth (nat_lit 48) = false:=by kernel_rfl
set_option maxHeartbeats 1000000 in
theorem Zlb (x y : Col) (w : World) : (Op.equalIn 10000 (nat_lit 48) (.agg #[Zb x.name,U x.kind]) (.agg #[Zb y.name,U y.kind])).run Tryz.prog w = .ok (decide (x = y)) w:=by
 have u3:=Tryz.underlying3
 have a3:=Tryz.isAgg3
 have z3:=Tryz.sizeOf3
 have u9:=Tryz.underlying9
 have a9:=Tryz.isAgg9
 have z9:=Tryz.sizeOf9
 rw [show (10000 : Nat) = 9999 + 1 from V,run_equalIn_agg w 9999 (nat_lit 48) _ _ (by kernel_rfl) (by kernel_rfl)]
 simp only [Program.fieldsOf,Tryz.underlying48,Zb]
 go_simp
 skip
 obtain ⟨x1,x2⟩:=x
 obtain ⟨y1,y2⟩:=y
 by_cases h1 : x1 = y1 <;> by_cases h2 : x2 = y2 <;> simp [h1,h2]
theorem ZlR : Tryz.prog.eqGuardType Tryz.prog.depth (nat_lit 29) = false:=by kernel_rfl
set_option maxHeartbeats 1000000 in
theorem ZgH (x y : Span) (w : World) : (Op.equalIn 10000 (nat_lit 29) (.agg #[U x.a,U x.b]) (.agg #[U y.a,U y.b])).run Tryz.prog w = .ok (decide (x = y)) w:=by
 have u3:=Tryz.underlying3
 have a3:=Tryz.isAgg3
 have z3:=Tryz.sizeOf3
 rw [show (10000 : Nat) = 9999 + 1 from V,run_equalIn_agg w 9999 (nat_lit 29) _ _ (by kernel_rfl) (by kernel_rfl)]
 simp only [Program.fieldsOf,Tryz.underlying29,Zb]
 go_simp
 skip
 obtain ⟨x1,x2⟩:=x
 obtain ⟨y1,y2⟩:=y
 by_cases h1 : x1 = y1 <;> by_cases h2 : x2 = y2 <;> simp [h1,h2]
theorem ZcK : Tryz.prog.eqGuardType Tryz.prog.depth (nat_lit 24) = false:=by kernel_rfl
set_option maxHeartbeats 1000000 in
theorem ZaQ (x y : Val) (w : World) : (Op.equalIn 10000 (nat_lit 24) (.agg #[U x.k,U x.n,Zb x.s]) (.agg #[U y.k,U y.n,Zb y.s])).run Tryz.prog w = .ok (decide (x = y)) w:=by
 have u3:=Tryz.underlying3
 have a3:=Tryz.isAgg3
 have z3:=Tryz.sizeOf3
 have u9:=Tryz.underlying9
 have a9:=Tryz.isAgg9
 have z9:=Tryz.sizeOf9
 rw [show (10000 : Nat) = 9999 + 1 from V,run_equalIn_agg w 9999 (nat_lit 24) _ _ (by kernel_rfl) (by kernel_rfl)]
 simp only [Program.fieldsOf,Tryz.underlying24,Zb]
 go_simp
 skip
 obtain ⟨x1,x2,x3⟩:=x
 obtain ⟨y1,y2,y3⟩:=y
 by_cases h1 : x1 = y1 <;> by_cases h2 : x2 = y2 <;> by_cases h3 : x3 = y3 <;> simp [h1,h2,h3]
theorem mixed : Tryz.prog.follows .mixedOrders = true:=by kernel_rfl
theorem dr {N id : Nat} {Q : Exit → Env → World → Prop} {ρ : Env} {w w0 : World} {ops : List Oper} {X : List Nat} {G0 G : GH} {L : Own} (T : List (Nat × Bool)) (hv : List (Nat × Value)) (hS : (St w0 X G0 G L) w) (ho : ZeF Tryz.prog ops (St w0 X G0 G L) (T.map (·.1)) hv (XT ft ops (T.map (·.1)) hv 0 ops ρ) 0 ops)
  (hT : ∀ w,(St w0 X G0 G L) w → goT ft ops (St w0 X G0 G L) Q T (XT ft ops (T.map (·.1)) hv 0 ops ρ) w) (hN : ops.all (ZbT N) = true:=by kernel_rfl) (hp : ZlE ops (ZaO ops (T.map (·.1))) = true:=by kernel_rfl)
  (hn : T.map (fun x=>Zbp (ZaO ops (T.map (·.1))) x.1) = T.map (·.2):=by kernel_rfl) (ha : Zc1 ft ops (T.map (·.1)) hv (XT ft ops (T.map (·.1)) hv 0 ops ρ) 0 ops = Zc2 (T.map (·.1)) hv (XT ft ops (T.map (·.1)) hv 0 ops ρ) 0 ops:=by exact V) : DR Tryz.prog N id ops.toArray Q ρ w:=
 DR.go _ T hv mixed hN hp hn ha hS.draw ho hT
theorem drT {N id : Nat} {Q : Exit → Env → World → Prop} {ρ : Env} {w w0 : World} {ops : List Oper} {X : List Nat} {G0 G : GH} {L : Own} (T : List Nat) (hv : List (Nat × Value)) (hS : (St w0 X G0 G L) w) (ho : ZeF Tryz.prog ops (St w0 X G0 G L) T hv (XT ft ops T hv 0 ops ρ) 0 ops)
  (hT : ∀ w,(St w0 X G0 G L) w → TG Tryz.prog ops.toArray (ZaO ops T) (St w0 X G0 G L) Q T.length T (XT ft ops T hv 0 ops ρ) w) (hN : ops.all (ZbT N) = true:=by kernel_rfl) (hp : Zha ops (ZaO ops T) = true:=by kernel_rfl)
  (ha : Zc1 ft ops T hv (XT ft ops T hv 0 ops ρ) 0 ops = Zc2 T hv (XT ft ops T hv 0 ops ρ) 0 ops:=by exact V) : DR Tryz.prog N id ops.toArray Q ρ w:=
 DR.goG _ T hv mixed hN hp ha hS.draw ho hT
end Go.Civ
namespace Go.Civ
open Go.RowKit Go.Maps
set_option linter.unusedVariables false
structure Apart (w0 : World) (G : GH) (L : Own) (b : Nat) : Prop where
 new : w0.heap.size ≤ b
 gh : G b = none
 own : ∀ (i : Nat) p,L[i]? = some (some p) → p.1 ≠ b
section
variable {P : Program} {N : Nat} {Q : Exit → Env → World → Prop} {ρ : Env} {w w0 : World} {ops : Array Oper} {rest : List Oper} {K KK : Env → World → Prop} {d : Nat} {ty : TypeId} {pos : String} {af : Array Edge} {g : Option (Nat × Bool)}
variable {X : List Nat} {G0 G : GH} {L : Own} {b : Nat}
theorem ZhT {H : Type} {R : Value → Option (DataW H × List MemPlace)} {kt t e : TypeId} {n : Nat} {D : DataW H} (h : w.ownsMap P kt R b n D) (K : Keyed P kt) (ht : P.underlying t = some (.map kt e)) (hn : n < maxLen) {key val : Value} {kl : Lit} {dd : DataW H} {ps : List MemPlace}
  (hkey : keyOf P kt key = some kl) (hv : R val = some (dd,ps)) : ∃ w',(Instr.mapUpdate t (.map (some b)) key val).run P w = .ok () w' ∧ w'.ownsMap P kt R b (n + 1) (D.put kl dd) ∧ w.grownBy w' (some b) ∧ w.drawn ≤ w'.drawn:=by
 obtain ⟨w',h1,h2,h3⟩:=World.ownsMap.update h K ht hn hkey hv
 obtain ⟨es,clock,hb,F,hs,rfl⟩:=h
 obtain ⟨es',clock',hrun,_⟩:=Maps.fit_store (R':=R) K ht hb F (Nat.lt_of_le_of_lt hs hn) (fun _ _ _ _ hz=>hz) hkey hv
 refine ⟨w',h1,h2,h3,?_⟩
 rw [hrun] at h1
 injection h1 with _ e
 subst e
 exact Nat.le_refl _
theorem St.grown (h : St w0 X G0 G L w) (ha : Apart w0 G L b) {w' : World} (hg : w.grownBy w' (some b)) (hd : w.drawn ≤ w'.drawn) : St w0 X G0 G L w':=by
 have blk : ∀ k,k < w.heap.size → k ≠ b → w'.heap[k]? = w.heap[k]? :=fun k hk hne=>hg.block k hk (fun e=>hne (Option.some.inj e))
 refine ⟨⟨hg.os.trans h.kept.os,hg.tape.trans h.kept.tape,hg.output.trans h.kept.output,Nat.le_trans h.kept.drawn hd,Nat.le_trans h.kept.size hg.size,fun k hk hX=>?_⟩,h.le,h.new,fun k o hk=>?_,fun i p hp=>?_,h.sep,h.nd⟩
 ·rw [blk k (Nat.lt_of_lt_of_le hk h.kept.size) (by have:=ha.new; omega)]; exact h.kept.block k hk hX
 ·have hne : k ≠ b:=fun e=>by subst e; rw [ha.gh] at hk; cases hk
  rw [blk k (h.imm.lt hk) hne]; exact h.imm k o hk
 ·rw [blk p.1 (h.ownLt hp) (ha.own i p hp)]; exact h.own i p hp
abbrev ZlT (P : Program) (K E : TypeId) (w : World) (b n : Nat) (D : DataW Unit) : Prop:=w.ownsMap P K (plainElem P E) b n D
theorem ZcL {t : TypeId} (K E : TypeId) (hS : St w0 X G0 G L w) (hw : Region.wanted ⟨some d, .makeMap t none,ty,pos,af,g⟩ (ZI ops ρ) = true)
  (k : ∀ b w',ZlT P K E w' b 0 (.map []) → Apart w0 G L b → St w0 X G0 G L w' → KK (Yq ρ d (.map (some b))) w') : OW P ops ⟨some d, .makeMap t none,ty,pos,af,g⟩ ρ w KK:=by
 refine WL.val (v:= .map (some w.heap.size)) (w':=w.alloc (.map #[] 0)) hw ?_ rfl (k _ _ (World.ownsMap_made w P K _) ⟨h1,hS.imm.fresh (Nat.le_refl _),fun i p hp e=>?_⟩ ?_)
 ·simp [execOp,run_makeMap,Result.andThen]
 ·have:=hS.ownLt hp; omega
 ·exact hS.call (Res.alloc hS.imm _)
where h1:=hS.kept.size
theorem XI {t K E : TypeId} {m x y : Operand} {n : Nat} {D : DataW Unit} (ki vi : Int) (hS : St w0 X G0 G L w) (ho : ZlT P K E w b n D) (ha : Apart w0 G L b) (ht : P.underlying t = some (.map K E)) (uK : P.underlying K = some (.int .i64)) (uE : P.underlying E = some (.int .i64))
  (hk : ZM ki) (hv : ZM vi) (hn : n < 1000) (hw : Region.wanted ⟨none, .insert t m x y,ty,pos,af,g⟩ (ZI ops ρ) = true) (hm : ev ρ m = .map (some b)) (hx : ev ρ x = .int .i64 ki) (hy : ev ρ y = .int .i64 vi)
  (k : ∀ w',ZlT P K E w' b (n + 1) (D.put (.int .i64 ki) (.lit (.int .i64 vi))) → St w0 X G0 G L w' → KK ρ w') : OW P ops ⟨none, .insert t m x y,ty,pos,af,g⟩ ρ w KK:=by
 have wf : ∀ {z : Int},ZM z → (Lit.int .i64 z).wf = true:=fun {z} h=>by
  simp [Lit.wf,IntKind.min,IntKind.max,IntKind.signed,IntKind.bits]; exact ⟨h.1,by have:=h.2; omega⟩
 have hkey : keyOf P K (.int .i64 ki) = some (.int .i64 ki):=by unfold keyOf; rw [uK]; simp [mapKey,uK,wf hk]
 obtain ⟨w',hrun,ho',hg,hdr⟩:=ZhT ho (int_keyed uK) ht (by simp [maxLen]; omega) hkey (plainElem_int uE (wf hv))
 have:=k w' ho' (hS.grown ha hg hdr)
 exact Zm7 (w':=w') hw (by simp [execOp,hm,hx,hy,hrun,Result.andThen]) rfl this
theorem Zdz {t K E : TypeId} {m x : Operand} {n : Nat} {D : DataW Unit} (ki : Int) (ho : ZlT P K E w b n D) (ht : P.underlying t = some (.map K E)) (uK : P.underlying K = some (.int .i64)) (uE : P.underlying E = some (.int .i64))
  (hk : ZM ki) (hz : (zeroValue E).run P w = .ok (.int .i64 0) w) (hw : Region.wanted ⟨some d, .lookup t m x false,ty,pos,af,g⟩ (ZI ops ρ) = true) (hm : ev ρ m = .map (some b)) (hx : ev ρ x = .int .i64 ki)
  (k : ∀ c,D.atKey (.int .i64 ki) (.lit (.int .i64 0)) = .lit (.int .i64 c) → KK (Yq ρ d (.int .i64 c)) w) : OW P ops ⟨some d, .lookup t m x false,ty,pos,af,g⟩ ρ w KK:=by
 have wf : (Lit.int .i64 ki).wf = true:=by
  simp [Lit.wf,IntKind.min,IntKind.max,IntKind.signed,IntKind.bits]; exact ⟨hk.1,by have:=hk.2; omega⟩
 have hkey : keyOf P K (.int .i64 ki) = some (.int .i64 ki):=by unfold keyOf; rw [uK]; simp [mapKey,uK,wf]
 obtain ⟨c,hrun,hat,_⟩:=World.ownsMap.lookup_int ho (int_keyed uK) ht uE hz hkey
 refine WL.val hw ?_ rfl (k c hat)
 simp [execOp,hm,hx,hrun,Result.andThen]
end
theorem Ze7 {c : Cond} (hk : c.kind = 1 ∨ c.kind = 2) (h : (SCmp.b .eql c.oth [] != Y1 c.v) = true) : Z2 c = false:=by
 have h1 : ZQ c = true:=by unfold ZQ; rcases hk with h | h <;> rw [h] <;> rfl
 unfold Z2
 rw [h1]
 simp only [SCmp.b] at h
 by_cases g : c.oth = []
 ·rw [decide_eq_true g] at h ⊢
  cases hv : Y1 c.v with
  | true=>rw [hv] at h; cases h
  | false=>simp
 ·rw [decide_eq_false g] at h ⊢
  have hv : Y1 c.v = true:=by cases hv : Y1 c.v with | true=>rfl | false=>rw [hv] at h; cases h
  have hz : c.v ≠ zeroV:=fun e=>by rw [e] at hv; exact absurd hv (by decide)
  rw [decide_eq_false hz]; simp
theorem Zlh {c : Cond} (hk : c.kind = 1 ∨ c.kind = 2) (hc : c.col ≠ []) (ho : c.oth = []) (hb : (SCmp.b .eql c.oth [] != Y1 c.v) = false) : Z2 c = decide ((c.l.length : Int) = 0):=by
 have h1 : ZQ c = true:=by unfold ZQ; rcases hk with h | h <;> rw [h] <;> rfl
 simp only [SCmp.b] at hb
 rw [decide_eq_true ho] at hb
 have hv : Y1 c.v = true:=by cases hv : Y1 c.v with | true=>rfl | false=>rw [hv] at hb; cases hb
 unfold Z2; rw [h1,decide_eq_false hc,decide_eq_true ho,hv]
 rw [Bool.eq_iff_iff]; simp
theorem Zli {c : Cond} (hk : c.kind = 1 ∨ c.kind = 2) (hc : c.col ≠ []) (ho : c.oth ≠ []) (hv : c.v = zeroV) : Z2 c = decide ((c.l.length : Int) = 0):=by
 have h1 : ZQ c = true:=by unfold ZQ; rcases hk with h | h <;> rw [h] <;> rfl
 unfold Z2; rw [h1,decide_eq_false hc,decide_eq_false ho,decide_eq_true hv]
 rw [Bool.eq_iff_iff]; simp
theorem Zgd {c : Cond} {op : Int} (hk : c.kind = 3 ∨ c.kind = 4 ∨ c.kind = 5 ∨ c.kind = 6) (h1 : c.col = []) (h2 : c.oth = []) (h3 : c.v = zeroV) (h : op = (ZZ c.kind : Int)) : Z2 c = decide ((c.l.length : Int) = op):=by
 have g1 : ZQ c = false:=by unfold ZQ; rw [decide_eq_false (by omega),decide_eq_false (by omega)]; rfl
 have g2 : Yn c = true:=by unfold Yn; rcases hk with h | h | h | h <;> rw [h] <;> rfl
 unfold Z2; rw [g1,g2,decide_eq_true h1,decide_eq_true h2,decide_eq_true h3,h]
 rw [Bool.eq_iff_iff]; simp; omega
def Ze8 : DataW Unit:=(((DataW.map []).put (.int .i64 4) (.lit (.int .i64 1))).put (.int .i64 5) (.lit (.int .i64 2))).put (.int .i64 6) (.lit (.int .i64 2))
theorem Zrf {k c : Int} (h : k = 3) (hat : Ze8.atKey (.int .i64 k) (.lit (.int .i64 0)) = .lit (.int .i64 c)) : c = (ZZ k : Int):=by
 subst h
 have e : Ze8.atKey (.int .i64 3) (.lit (.int .i64 0)) = .lit (.int .i64 0):=by rfl
 rw [e] at hat; injection hat with h1; injection h1 with _ h2; rw [← h2]; rfl
theorem Zrg {k c : Int} (h : k = 4) (hat : Ze8.atKey (.int .i64 k) (.lit (.int .i64 0)) = .lit (.int .i64 c)) : c = (ZZ k : Int):=by
 subst h
 have e : Ze8.atKey (.int .i64 4) (.lit (.int .i64 0)) = .lit (.int .i64 1):=by rfl
 rw [e] at hat; injection hat with h1; injection h1 with _ h2; rw [← h2]; rfl
theorem Zrh {k c : Int} (h : k = 5) (hat : Ze8.atKey (.int .i64 k) (.lit (.int .i64 0)) = .lit (.int .i64 c)) : c = (ZZ k : Int):=by
 subst h
 have e : Ze8.atKey (.int .i64 5) (.lit (.int .i64 0)) = .lit (.int .i64 2):=by rfl
 rw [e] at hat; injection hat with h1; injection h1 with _ h2; rw [← h2]; rfl
theorem Zri {k c : Int} (h : k = 6) (hat : Ze8.atKey (.int .i64 k) (.lit (.int .i64 0)) = .lit (.int .i64 c)) : c = (ZZ k : Int):=by
 subst h
 have e : Ze8.atKey (.int .i64 6) (.lit (.int .i64 0)) = .lit (.int .i64 2):=by rfl
 rw [e] at hat; injection hat with h1; injection h1 with _ h2; rw [← h2]; rfl
end Go.Civ
namespace Go.Civ
open Go.RowKit
set_option linter.unusedVariables false
abbrev FW (r : Option Nat) : Fence:={ Fence.wide with round:=r }
theorem Zmx {r : Option Nat} {k : Nat} (h : (FW r).depth.isSome = true) : 1 ≤ k:=by cases h
section
variable {P : Program} {N : Nat} {r : Option Nat} {ops : Array Oper} {Q : Exit → Env → World → Prop} {ρ : Env} {w : World} {rest : List Oper} {o : Oper}
def WI (P : Program) (N : Nat) (r : Option Nat) (ops : Array Oper) (Q : Exit → Env → World → Prop) (l : List Oper) (ρ : Env) (w : World) : Prop:=∀ a,Fits N a ρ → wpListIn (FW r) 0 P ops (up N Q) l a w
def WY (P : Program) (N : Nat) (r : Option Nat) (c : Code) (Q : Exit → Env → World → Prop) (ρ : Env) (w : World) : Prop:=∀ a,Fits N a ρ → c.wpIn (FW r) 0 P (up N Q) a w
theorem WY.wc {c : Code} (h : WY P N none c Q ρ w) : WC P N c Q ρ w:=fun a ha=>wpIn_wide.1 (h a ha)
theorem WC.wy {c : Code} (h : WC P N c Q ρ w) : WY P N none c Q ρ w:=fun a ha=>wpIn_wide.2 (h a ha)
theorem WY.seq {x y : Code} (h : WY P N r x (Zb9 (WY P N r y Q) Q) ρ w) : WY P N r (.seq x y) Q ρ w:=by
 intro a ha
 refine wpIn_seq (wpIn_mono (h a ha) ?_)
 rintro e a' w' ⟨ρ',hf,hq⟩
 cases e <;> first | exact hq _ hf | exact ⟨ρ',hf,hq⟩
theorem WY.skip (h : Q .normal ρ w) : WY P N r .skip Q ρ w:=fun _ ha=>wpIn_skip ⟨ρ,ha,h⟩
theorem WY.exit {id : Nat} (h : Q (.exit id) ρ w) : WY P N r (.exit id) Q ρ w:=fun _ ha=>wpIn_exit ⟨ρ,ha,h⟩
theorem WY.ret (h : Q .ret ρ w) : WY P N r .ret Q ρ w:=fun _ ha=>wpIn_ret ⟨ρ,ha,h⟩
theorem WY.condT {c : Operand} {x y : Code} (hc : ev ρ c = .bool true) (h : WY P N r x Q ρ w) : WY P N r (.cond c x y) Q ρ w:=fun a ha=>wpIn_cond_true (by rw [ha.eval]; exact hc) (h a ha)
theorem WY.condF {c : Operand} {x y : Code} (hc : ev ρ c = .bool false) (h : WY P N r y Q ρ w) : WY P N r (.cond c x y) Q ρ w:=fun a ha=>wpIn_cond_false (by rw [ha.eval]; exact hc) (h a ha)
theorem WY.block {id : Nat} {c : Code} (h : WY P N r c (inB id Q) ρ w) : WY P N r (.block id c) Q ρ w:=by
 intro a ha
 refine wpIn_block (wpIn_mono (h a ha) ?_)
 rintro e a' w' ⟨ρ',hf,hq⟩
 cases e with
 | exit id'=>
  show if id' = id then _ else _
  cases hb : Nat.beq id' id with
  | true=>
   have : id' = id:=Nat.eq_of_beq_eq_true hb
   rw [if_pos this]
   exact ⟨ρ',hf,by simpa [inB,hb] using hq⟩
  | false=>
   have : id' ≠ id:=Nat.ne_of_beq_eq_false hb
   rw [if_neg this]
   exact ⟨ρ',hf,by simpa [inB,hb] using hq⟩
 | normal=>exact ⟨ρ',hf,hq⟩
 | goto l=>exact ⟨ρ',hf,hq⟩
 | ret=>exact ⟨ρ',hf,hq⟩
 | panic ch=>exact ⟨ρ',hf,hq⟩
 | outgrown=>exact ⟨ρ',hf,hq⟩
theorem WY.region {id : Nat} {l : List Oper} (h : WI P N r l.toArray Q l ρ w) : WY P N r (.region id l.toArray false) Q ρ w:=fun a ha=>wpIn_region_lit (h a ha)
theorem WI.nil (h : Q .normal ρ w) : WI P N r ops Q [] ρ w:=fun a ha=>wpListIn_nil ⟨ρ,ha,h⟩
theorem WI.op (hd : ZbT N o = true) (hs : ∀ c,o.op ≠ .defer c) (h : OW P ops o ρ w (WI P N r ops Q rest)) : WI P N r ops Q (o :: rest) ρ w:=by
 intro a ha
 have h:=h.h
 refine wpListIn_step fun K hK=>?_
 rw [ZdR ha]
 unfold oW at h
 cases hw : Region.wanted o (ZI ops ρ) <;> simp only [hw] at h
 ·rw [if_neg (by simp)]
  exact ⟨fun f _=>trivial,hK _ _ (h _ (ha.putO hd _))⟩
 ·rw [if_pos rfl]
  refine ⟨fun f _=>trivial,?_⟩
  rw [Oper.semAt_eq _ _ _ hs,ha.eval]
  generalize (execOp (ev ρ) o).run P w = res at h
  cases res with
  | halt h' w=>exact h.elim
  | ok n w'=>
   cases n <;> simp only [Za6] at h <;> simp only [Oper.uponIn]
   case value v=>exact hK _ _ (h _ (ha.putO hd v))
   case skip=>exact hK _ _ (h _ (ha.putO hd undef))
   case enter f args=>
    refine ⟨Zmx,?_⟩
    have h2 : CallsIn Fence.wide (0 - 1) P f args w' _:=callsIn_wide.2 h
    have h3 : CallsIn (FW r) (0 - 1) P f args w' _:=h2
    refine h3.mono ?_
    rintro e w'' ⟨v,rfl,h2⟩
    exact hK _ _ (h2 _ (ha.putO hd v))
theorem WI.yield {x : Operand} {args : List Operand} {ts : Array TypeId} {d : Nat} {ty : TypeId} {pos : String} {af : Array Edge} {g : Option (Nat × Bool)} {l : Nat} {vs : List Value} {R : Ending → World → Prop}
  (hd : Nat.blt d N = true) (hw : Region.wanted ⟨some d, .call ⟨.value x,args.toArray,ts⟩,ty,pos,af,g⟩ (ZI ops ρ) = true) (hx : ev ρ x = .func (.yield l) #[] #[]) (hv : args.map (ev ρ) = vs)
  {m : Nat} (hy : YieldAt Fence.wide m P l vs.toArray w R) (hR : ∀ e w',R e w' → ∃ v,e = .returned v ∧ WI P N r ops Q rest (Yq ρ d v) w') : WI P N r ops Q (⟨some d, .call ⟨.value x,args.toArray,ts⟩,ty,pos,af,g⟩ :: rest) ρ w:=by
 intro a ha
 obtain ⟨fn,tmps,assign,body,hy1,hy2⟩:=hy
 refine wpListIn_step fun K hK=>?_
 rw [ZdR ha,hw,if_pos rfl]
 refine ⟨fun f _=>trivial,?_⟩
 rw [Oper.semAt_eq _ _ _ (by intro c h; cases h),ha.eval]
 subst hv
 have e : (execOp (ev ρ) ⟨some d, .call ⟨.value x,args.toArray,ts⟩,ty,pos,af,g⟩).run P w = .ok (.round l fn tmps assign body) w:=by
  simp only [execOp,resolve,Sem.run_bind,hx,Deferred.ofValue,Sem.run_pure,Result.andThen,invoke,Array.empty_append]
  rw [show args.toArray.map (ev ρ) = (args.map (ev ρ)).toArray from Array.ext' (by simp)]
  simpa using hy1
 rw [e]
 simp only [Oper.uponIn]
 refine ⟨Zmx,?_⟩
 have h3 : RoundIn (FW r) (0 - 1) P l fn tmps assign body w R:=⟨hy2.1,fun c cs _=>hy2.2 c cs (fun d hd=>by cases hd)⟩
 refine h3.mono ?_
 intro e' w' h
 obtain ⟨v,rfl,h2⟩:=hR e' w' h
 exact hK _ _ (h2 _ (ha.put hd v))
theorem WY.loop {γ : Type} {c : Code} (I : γ → Env → World → Prop) (μ : γ → Nat) (g : γ) (h₀ : I g ρ w)
  (round : ∀ g ρ w,I g ρ w → WY P N none c (Zb9 (fun ρ' w'=>∃ g',I g' ρ' w' ∧ μ g' < μ g) Q) ρ w) : WY P N none (.loop c) Q ρ w:=
 (WC.loop I μ g h₀ fun g ρ w h=>(round g ρ w h).wc).wy
end
structure KB (B : Nat) (W W' : World) : Prop where
 os : W'.os = W.os
 tape : W'.tape = W.tape
 output : W'.output = W.output
 size : W.heap.size ≤ W'.heap.size
 block : ∀ (k : Nat) (o : Obj),W.heap[k]? = some o → (k < B ∨ o.isCells = true) → W'.heap[k]? = some o
theorem KB.trans {B : Nat} {X Y Z : World} (h : KB B X Y) (k : KB B Y Z) : KB B X Z:=
 ⟨k.os.trans h.os,k.tape.trans h.tape,k.output.trans h.output,Nat.le_trans h.size k.size,fun i o hi ho=>k.block i o (h.block i o hi ho) ho⟩
theorem KB.put {B : Nat} (W : World) (l : Nat) (o o' : Obj) (hl : B ≤ l) (h : W.heap[l]? = some o) (hc : o.isCells = false) (_ : o.isWalk = false) : KB B W (W.putObj l o'):=by
 have hg:=grownBy_putObj' W l o'
 refine ⟨hg.os,hg.tape,hg.output,hg.size,fun k o2 hk ho=>?_⟩
 by_cases e : k = l
 ·subst e
  rw [h] at hk; obtain rfl:=Option.some.inj hk
  rcases ho with ho | ho
  ·omega
  ·rw [hc] at ho; cases ho
 ·exact (World.putObj_heap_other e).trans hk
theorem Kept.kb {B : Nat} {W W' : World} (h : Kept [] W W') : KB B W W':=
 ⟨h.os,h.tape,h.output,h.size,fun k o hk _=>(h.block k (Array.getElem?_eq_some_iff.1 hk).1 (by simp)).trans hk⟩
theorem Kept.others {W W' : World} (h : Kept [] W W') : KeepsOthers W W':=⟨h.size,fun k o hk _=>(h.block k (Array.getElem?_eq_some_iff.1 hk).1 (by simp)).trans hk⟩
theorem Kept.grown {W W' : World} (h : Kept [] W W') : W.grownBy W' none:=⟨h.os,h.tape,h.output,h.size,fun k hk _=>h.block k hk (by simp)⟩
def GB (B : Nat) (G : GH) : Prop:=∀ b o,G b = some o → b < B ∨ o.isCells = true
theorem GB.add {B : Nat} {G : GH} (h : GB B G) (b : Nat) (c : Array Value) (e : TypeId) (fz : Nat × Nat) : GB B (G.add b (.cells c e fz)):=fun k o hk=>by
 by_cases e' : k = b
 ·subst e'; rw [GH.add_at] at hk; obtain rfl:=Option.some.inj hk; exact .inr rfl
 ·rw [GH.add_ne _ _ e'] at hk; exact h k o hk
theorem KB.imm {B : Nat} {G : GH} {W W' : World} (h : KB B W W') (hG : G.In W) (hB : GB B G) : G.In W':=fun b o hb=>h.block b o (hG b o hb) (hB b o hb)
theorem GH.In.below {G : GH} {W : World} (h : G.In W) : GB W.heap.size G:=fun b o hb=> .inl (h.lt hb)
theorem Kept.imm {G : GH} {W W' : World} (h : Kept [] W W') (hG : G.In W) : G.In W':=fun b o hb=>(h.block b (hG.lt hb) (by simp)).trans (hG b o hb)
section
variable {P : Program} {ρ : Env} {ops : Array Oper} {K : Env → World → Prop} {d : Nat} {ty : TypeId} {pos : String} {af : Array Edge} {g : Option (Nat × Bool)} {w0 w : World} {X : List Nat} {G0 G : GH} {L : Own}
theorem Zlz {B : Nat} {t : TypeId} {x : Operand} (cs : List Value) (v : Value) (hS : St w0 X G0 G L w) (hB : GB B G)
  (hw : Region.wanted ⟨some d, .box t x,ty,pos,af,g⟩ (ZI ops ρ) = true) (hx : ev ρ x = v) (hv : v.cells = cs.toArray)
  (k : ∀ p w' G',G.le G' → p.spot = none → YC G' p cs → GB B G' → St w0 X G0 G' L w' → K (Yq ρ d (.pointer (some p))) w') : OW P ops ⟨some d, .box t x,ty,pos,af,g⟩ ρ w K:=by
 refine WL.box cs v hS hw hx hv fun b w' hb hS'=>?_
 have f:=hS'.freeze 0 (b:=b) (e:=t) (cs:=cs) rfl hb
 have hG : G b = none:=(hS'.sep 0 _ rfl).2
 exact k ⟨b,0,none⟩ w' _ (G.add_le _ hG) rfl ⟨rfl,_,_,_,GH.add_at _ _ _,fun j v hv=>by simpa using hv⟩ (hB.add _ _ _ _) f.tail
theorem St.shutK {B : Nat} {b : Nat} {e : TypeId} {cs : List Value} (hS : St w0 X G0 G (some (b,e,cs) :: L) w) (hb : w0.heap.size ≤ b) (hB : GB B G) : ∃ G',G.le G' ∧ YC G' ⟨b,0,none⟩ cs ∧ GB B G' ∧ St w0 X G0 G' L w:=by
 have f:=hS.freeze 0 (b:=b) (e:=e) (cs:=cs) rfl hb
 have hG : G b = none:=(hS.sep 0 _ rfl).2
 exact ⟨_,G.add_le _ hG,⟨rfl,_,_,_,GH.add_at _ _ _,fun j v hv=>by simpa using hv⟩,hB.add _ _ _ _,f.tail⟩
end
end Go.Civ
namespace Go.Civ
section
variable {P : Program} {N : Nat} {r : Option Nat} {ops : Array Oper} {Q : Exit → Env → World → Prop} {ρ : Env} {w : World}
theorem WI.cut (l1 l2 : List Oper) (I : Env → World → Prop) (h : WI P N r ops (fun e ρ w=>e = .normal ∧ I ρ w) l1 ρ w) (h2 : ∀ ρ w,I ρ w → WI P N r ops Q l2 ρ w) : WI P N r ops Q (l1 ++ l2) ρ w:=by
 intro a ha
 have h:=h a ha
 have key : ∀ (l : List Oper) (a : Act) (w : World),wpListIn (FW r) 0 P ops (up N fun e ρ w=>e = .normal ∧ I ρ w) l a w → wpListIn (FW r) 0 P ops (up N Q) (l ++ l2) a w:=by
  have hup : ∀ {e a w},e ≠ .normal → up N (fun e ρ w=>e = .normal ∧ I ρ w) e a w → False:=fun he ⟨ρ,_,h,_⟩=>he h
  have hlo : LetsOut (up N fun e ρ w=>e = .normal ∧ I ρ w) → False:=fun ⟨a,w,h⟩=>hup (by simp) h
  intro l
  induction l with
  | nil=>exact fun a w ⟨ρ,hf,_,h⟩=>h2 ρ w h a hf
  | cons o l ih=>
   intro a w h
   rw [List.cons_append]
   unfold wpListIn at h ⊢
   split
   ·rename_i hw
    rw [if_pos hw] at h
    refine ⟨h.1,?_⟩
    have h3:=h.2
    generalize (o.semAt (FW r).round a.eval).run P w = res at h3
    cases res with
    | halt hh w'=>
     cases hh <;> simp only [Oper.uponIn] at h3 ⊢
     exact (hup (by simp) h3).elim
    | ok n w'=>
     cases n <;> simp only [Oper.uponIn] at h3 ⊢
     case value v=>exact ih _ _ h3
     case skip=>exact ih _ _ h3
     case defer d=>exact ih _ _ h3
     case enter f args=>
      refine ⟨h3.1,h3.2.mono fun e w'' h4=>?_⟩
      cases e with
      | returned v=>exact ih _ _ h4
      | panicked c=>exact (hup (by simp) h4).elim
      | outgrown=>exact (hlo h4).elim
     case row row args=>exact ⟨h3.1,h3.2.mono fun v w'' h4=>ih _ _ h4⟩
     case round l f tmps asg body=>
      refine ⟨h3.1,h3.2.mono fun e w'' h4=>?_⟩
      cases e with
      | returned v=>exact ih _ _ h4
      | panicked c=>exact (hup (by simp) h4).elim
      | outgrown=>exact (hlo h4).elim
   ·rename_i hw
    rw [if_neg hw] at h
    exact ⟨h.1,ih _ _ h.2⟩
 exact key l1 a w h
theorem WI.cutAt (k : Nat) {l : List Oper} (I : Env → World → Prop) (h : WI P N r ops (fun e ρ w=>e = .normal ∧ I ρ w) (l.take k) ρ w) (h2 : ∀ ρ w,I ρ w → WI P N r ops Q (l.drop k) ρ w) : WI P N r ops Q l ρ w:=by
 have:=WI.cut (l.take k) (l.drop k) I h h2
 rwa [List.take_append_drop] at this
theorem WY.cut {x y : Code} (I : Env → World → Prop) (h : WY P N r x (fun e ρ w=>e = .normal ∧ I ρ w) ρ w) (h2 : ∀ ρ w,I ρ w → WY P N r y Q ρ w) : WY P N r (.seq x y) Q ρ w:=by
 refine WY.seq fun a ha=>wpIn_mono (h a ha) ?_
 rintro e a' w' ⟨ρ',hf,he,hI⟩
 subst he
 exact ⟨ρ',hf,h2 _ _ hI⟩
theorem WY.set {c : Code} {l : List (Nat × Value)} (h : FR ρ l) (k : WY P N r c Q (ZhM ρ l) w) : WY P N r c Q ρ w:=by rwa [h.eq] at k
theorem WI.set {l : List (Nat × Value)} {os : List Oper} (h : FR ρ l) (k : WI P N r ops Q os (ZhM ρ l) w) : WI P N r ops Q os ρ w:=by rwa [h.eq] at k
end
end Go.Civ
