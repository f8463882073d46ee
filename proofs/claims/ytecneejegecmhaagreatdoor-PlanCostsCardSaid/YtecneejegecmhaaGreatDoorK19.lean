/- Lemmas. -/
import Derived.Test.YtecneejegecmhaaGreatDoorK09
import Derived.Test.YtecneejegecmhaaGreatDoorProg
import Derived.WalkKit
set_option linter.unusedVariables false
set_option linter.unusedSimpArgs false
set_option linter.unusedVariables false
set_option linter.unusedSimpArgs false
set_option maxRecDepth 100000
set_option maxHeartbeats 4000000
namespace Go.Civ
open Go.Proofs
theorem Zk : Yj Tryz.prog (nat_lit 3) = some ⟨false,1,8,U 0⟩:=by kernel_rfl
theorem ti5 : Yj Tryz.prog (nat_lit 5) = some ⟨false,1,1, .int .u8 0⟩:=by kernel_rfl
theorem Zv : Yj Tryz.prog (nat_lit 9) = some ⟨false,1,16,Za []⟩:=by kernel_rfl
theorem QG : Yj Tryz.prog (nat_lit 22) = some ⟨false,1,24,Zf⟩:=by kernel_rfl
theorem QR : Yj Tryz.prog (nat_lit 23) = some ⟨false,1,24,Zf⟩:=by kernel_rfl
theorem Zat : Yj Tryz.prog (nat_lit 25) = some ⟨true,2,48, .agg #[Zf,Zf]⟩:=by kernel_rfl
theorem ZH : Yj Tryz.prog (nat_lit 29) = some ⟨false,1,24,Zf⟩:=by kernel_rfl
theorem Xv : Yj Tryz.prog (nat_lit 31) = some ⟨true,3,32, .agg #[U 0,U 0,Za []]⟩:=by kernel_rfl
theorem XD : Yj Tryz.prog (nat_lit 32) = some ⟨false,1,24,Zf⟩:=by kernel_rfl
theorem ZY : Yj Tryz.prog (nat_lit 34) = some ⟨true,7,96, .agg #[U 0,Za [],Za [],U 0,U 0,Za [],Zf]⟩:=by kernel_rfl
theorem Y5 : Yj Tryz.prog (nat_lit 36) = some ⟨true,2,16, .agg #[U 0,U 0]⟩:=by kernel_rfl
theorem Yu : Yj Tryz.prog (nat_lit 37) = some ⟨false,1,24,Zf⟩:=by kernel_rfl
theorem Zt : Yj Tryz.prog (nat_lit 39) = some ⟨true,16,224, .agg #[U 0,Za [],Zf,Zf,U 0,Za [],Za [],U 0,U 0,Za [],Zf,U 0,U 0,U 0,U 0,Zf]⟩:=by kernel_rfl
theorem QX : Yj Tryz.prog (nat_lit 40) = some ⟨false,1,24,Zf⟩:=by kernel_rfl
theorem XQ : Yj Tryz.prog (nat_lit 42) = some ⟨true,21,280, .agg #[U 0,Za [],Zf,Zf,U 0,Za [],Za [],U 0,U 0,Za [],Zf,U 0,U 0,U 0,U 0,Zf,U 0,U 0,Zf,U 0,U 0]⟩:=by kernel_rfl
theorem Zhn : Yj Tryz.prog (nat_lit 44) = some ⟨false,1,8, .pointer none⟩:=by kernel_rfl
theorem Q9 : Yj Tryz.prog (nat_lit 54) = some ⟨true,2,24, .agg #[Za [],U 0]⟩:=by kernel_rfl
theorem Zxp : Yj Tryz.prog (nat_lit 55) = some ⟨false,1,24,Zf⟩:=by kernel_rfl
theorem Qz : Yj Tryz.prog (nat_lit 57) = some ⟨true,4,72, .agg #[Za [],Zf,U 0,Zf]⟩:=by kernel_rfl
theorem Z1r : Yj Tryz.prog (nat_lit 73) = some ⟨true,2,32, .agg #[.pointer none,Zf]⟩:=by kernel_rfl
theorem Zr2 : Yj Tryz.prog (nat_lit 79) = some ⟨false,1,8, .nilFunc⟩:=by kernel_rfl
theorem Zr3 : Yj Tryz.prog (nat_lit 89) = some ⟨true,2,48, .agg #[Zf,Zf]⟩:=by kernel_rfl
theorem Y2 : Yj Tryz.prog (nat_lit 105) = some ⟨true,3,24, .agg #[U 0,U 0,U 0]⟩:=by kernel_rfl
theorem Zai : Yj Tryz.prog (nat_lit 107) = some ⟨true,3,24, .agg #[U 0,U 0,U 0]⟩:=by kernel_rfl
theorem ZaK : Yj Tryz.prog (nat_lit 109) = some ⟨true,6,48, .agg #[U 0,U 0,U 0,U 0,U 0,U 0]⟩:=by kernel_rfl
theorem QO : Yj Tryz.prog (nat_lit 115) = some ⟨true,2,16, .agg #[U 0,U 0]⟩:=by kernel_rfl
theorem ZjW : Yj Tryz.prog (nat_lit 156) = some ⟨true,2,40, .agg #[Zf,Za []]⟩:=by kernel_rfl
theorem Zg6 : Yj Tryz.prog (nat_lit 158) = some ⟨false,1,24,Zf⟩:=by kernel_rfl
theorem Zxq : fieldsOf Tryz.prog (nat_lit 25) = some [(0,1),(1,1)]:=by kernel_rfl
theorem ZiI : fieldsOf Tryz.prog (nat_lit 31) = some [(0,1),(1,1),(2,1)]:=by kernel_rfl
theorem Zr4 : fieldsOf Tryz.prog (nat_lit 34) = some [(0,1),(1,1),(2,1),(3,3),(6,1)]:=by kernel_rfl
theorem ZbL : fieldsOf Tryz.prog (nat_lit 36) = some [(0,1),(1,1)]:=by kernel_rfl
theorem ZfZ : fieldsOf Tryz.prog (nat_lit 39) = some [(0,1),(1,1),(2,1),(3,1),(4,7),(11,1),(12,1),(13,2),(15,1)]:=by kernel_rfl
theorem Z1s : fieldsOf Tryz.prog (nat_lit 42) = some [(0,16),(16,1),(17,1),(18,1),(19,2)]:=by kernel_rfl
theorem Z1t : fieldsOf Tryz.prog (nat_lit 54) = some [(0,1),(1,1)]:=by kernel_rfl
theorem Zxr : fieldsOf Tryz.prog (nat_lit 57) = some [(0,1),(1,1),(2,1),(3,1)]:=by kernel_rfl
theorem Z1u : fieldsOf Tryz.prog (nat_lit 89) = some [(0,1),(1,1)]:=by kernel_rfl
theorem ZbF : fieldsOf Tryz.prog (nat_lit 105) = some [(0,1),(1,1),(2,1)]:=by kernel_rfl
theorem ZjX : fieldsOf Tryz.prog (nat_lit 107) = some [(0,1),(1,1),(2,1)]:=by kernel_rfl
theorem Ztf : fieldsOf Tryz.prog (nat_lit 109) = some [(0,3),(3,3)]:=by kernel_rfl
def ft : FTab Tryz.prog:=⟨[(nat_lit 25,[(0,1),(1,1)]),(nat_lit 31,[(0,1),(1,1),(2,1)]),(nat_lit 34,[(0,1),(1,1),(2,1),(3,3),(6,1)]),(nat_lit 36,[(0,1),(1,1)]),(nat_lit 39,[(0,1),(1,1),(2,1),(3,1),(4,7),(11,1),(12,1),(13,2),(15,1)]),(nat_lit 42,[(0,16),(16,1),(17,1),(18,1),(19,2)]),(nat_lit 54,[(0,1),(1,1)]),(nat_lit 57,[(0,1),(1,1),(2,1),(3,1)]),(nat_lit 73,[(0,1),(1,1)]),(nat_lit 89,[(0,1),(1,1)]),(nat_lit 105,[(0,1),(1,1),(2,1)]),(nat_lit 107,[(0,1),(1,1),(2,1)]),(nat_lit 109,[(0,3),(3,3)]),(nat_lit 156,[(0,1),(1,1)])],fun x hx=>by simp only [List.mem_cons,List.not_mem_nil,or_false] at hx; rcases hx with rfl | rfl | rfl | rfl | rfl | rfl | rfl | rfl | rfl | rfl | rfl | rfl | rfl | rfl <;> kernel_rfl⟩
theorem QC : Tryz.prog.underlying (nat_lit 3) = some (.int .i64):=by kernel_rfl
theorem ul4 : Tryz.prog.underlying (nat_lit 4) = some (.bool):=by kernel_rfl
theorem ul5 : Tryz.prog.underlying (nat_lit 5) = some (.int .u8):=by kernel_rfl
theorem X1 : Tryz.prog.underlying (nat_lit 9) = some (.string):=by kernel_rfl
theorem Zxs : Tryz.prog.underlying (nat_lit 21) = some (.int .i32):=by kernel_rfl
theorem QS : Tryz.prog.underlying (nat_lit 22) = some (.slice (nat_lit 42)):=by kernel_rfl
theorem Q6 : Tryz.prog.underlying (nat_lit 23) = some (.slice (nat_lit 54)):=by kernel_rfl
theorem Yb : Tryz.prog.underlying (nat_lit 29) = some (.slice (nat_lit 9)):=by kernel_rfl
theorem Xr : Tryz.prog.underlying (nat_lit 32) = some (.slice (nat_lit 34)):=by kernel_rfl
theorem Y1 : Tryz.prog.underlying (nat_lit 37) = some (.slice (nat_lit 39)):=by kernel_rfl
theorem QM : Tryz.prog.underlying (nat_lit 40) = some (.slice (nat_lit 115)):=by kernel_rfl
theorem Zr5 : Tryz.prog.underlying (nat_lit 55) = some (.slice (nat_lit 156)):=by kernel_rfl
theorem Zgb : Tryz.prog.underlying (nat_lit 58) = some (.slice (nat_lit 57)):=by kernel_rfl
theorem ZiJ : Tryz.prog.underlying (nat_lit 71) = some (.slice (nat_lit 5)):=by kernel_rfl
theorem Xz : Tryz.prog.underlying (nat_lit 80) = some (.slice (nat_lit 3)):=by kernel_rfl
theorem QP : Tryz.prog.underlying (nat_lit 115) = some (.array (nat_lit 2) (nat_lit 3)):=by kernel_rfl
theorem ZjY : Tryz.prog.underlying (nat_lit 158) = some (.slice (nat_lit 23)):=by kernel_rfl
theorem Ztg : Tryz.prog.underlying (nat_lit 172) = some (.int .u64):=by kernel_rfl
theorem Zth : Tryz.prog.underlying (nat_lit 177) = some (.slice (nat_lit 79)):=by kernel_rfl
theorem Za1 : Tryz.prog.underlying (nat_lit 215) = some (.map (nat_lit 3) (nat_lit 3)):=by kernel_rfl
theorem ZiK : TSl Tryz.prog (nat_lit 22) (nat_lit 42) ⟨true,21,280, .agg #[U 0,Za [],Zf,Zf,U 0,Za [],Za [],U 0,U 0,Za [],Zf,U 0,U 0,U 0,U 0,Zf,U 0,U 0,Zf,U 0,U 0]⟩:=⟨QS,XQ⟩
theorem Zr6 : TSl Tryz.prog (nat_lit 23) (nat_lit 54) ⟨true,2,24, .agg #[Za [],U 0]⟩:=⟨Q6,Q9⟩
theorem XI : TSl Tryz.prog (nat_lit 29) (nat_lit 9) ⟨false,1,16,Za []⟩:=⟨Yb,Zv⟩
theorem Zxt : TSl Tryz.prog (nat_lit 32) (nat_lit 34) ⟨true,7,96, .agg #[U 0,Za [],Za [],U 0,U 0,Za [],Zf]⟩:=⟨Xr,ZY⟩
theorem Zbb : TSl Tryz.prog (nat_lit 37) (nat_lit 39) ⟨true,16,224, .agg #[U 0,Za [],Zf,Zf,U 0,Za [],Za [],U 0,U 0,Za [],Zf,U 0,U 0,U 0,U 0,Zf]⟩:=⟨Y1,Zt⟩
theorem Z1v : TSl Tryz.prog (nat_lit 58) (nat_lit 57) ⟨true,4,72, .agg #[Za [],Zf,U 0,Zf]⟩:=⟨Zgb,Qz⟩
theorem ZnK : TSl Tryz.prog (nat_lit 71) (nat_lit 5) ⟨false,1,1, .int .u8 0⟩:=⟨ZiJ,ti5⟩
theorem Qr : TSl Tryz.prog (nat_lit 80) (nat_lit 3) ⟨false,1,8,U 0⟩:=⟨Xz,Zk⟩
theorem Zti : TSl Tryz.prog (nat_lit 158) (nat_lit 23) ⟨false,1,24,Zf⟩:=⟨ZjY,QR⟩
theorem ZyZ : TSl Tryz.prog (nat_lit 177) (nat_lit 79) ⟨false,1,8, .nilFunc⟩:=⟨Zth,Zr2⟩
theorem Z7 : Zi Tryz.prog (nat_lit 3):=Zd Tryz.func3 (by decide) rfl
theorem Z5 : Zi Tryz.prog (nat_lit 4):=Zd Tryz.func4 (by decide) rfl
theorem ZD : Zi Tryz.prog (nat_lit 5):=Zd Tryz.func5 (by decide) rfl
theorem hb6 : Zi Tryz.prog (nat_lit 6):=Zd Tryz.func6 (by decide) rfl
theorem hb7 : Zi Tryz.prog (nat_lit 7):=Zd Tryz.func7 (by decide) rfl
theorem ZV : Zi Tryz.prog (nat_lit 8):=Zd Tryz.func8 (by decide) rfl
theorem hb9 : Zi Tryz.prog (nat_lit 9):=Zd Tryz.func9 (by decide) rfl
theorem ZI : Zi Tryz.prog (nat_lit 10):=Zd Tryz.func10 (by decide) rfl
theorem ZJ : Zi Tryz.prog (nat_lit 11):=Zd Tryz.func11 (by decide) rfl
theorem ZL : Zi Tryz.prog (nat_lit 12):=Zd Tryz.func12 (by decide) rfl
theorem Y0 : Zi Tryz.prog (nat_lit 13):=Zd Tryz.func13 (by decide) rfl
theorem Y6 : Zi Tryz.prog (nat_lit 14):=Zd Tryz.func14 (by decide) rfl
theorem YA : Zi Tryz.prog (nat_lit 15):=Zd Tryz.func15 (by decide) rfl
theorem Y9 : Zi Tryz.prog (nat_lit 16):=Zd Tryz.func16 (by decide) rfl
theorem Yr : Zi Tryz.prog (nat_lit 17):=Zd Tryz.func17 (by decide) rfl
theorem YH : Zi Tryz.prog (nat_lit 18):=Zd Tryz.func18 (by decide) rfl
theorem YJ : Zi Tryz.prog (nat_lit 19):=Zd Tryz.func19 (by decide) rfl
theorem YO : Zi Tryz.prog (nat_lit 20):=Zd Tryz.func20 (by decide) rfl
theorem Xf : Zi Tryz.prog (nat_lit 21):=Zd Tryz.func21 (by decide) rfl
theorem Xg : Zi Tryz.prog (nat_lit 22):=Zd Tryz.func22 (by decide) rfl
theorem YK : Zi Tryz.prog (nat_lit 23):=Zd Tryz.func23 (by decide) rfl
theorem Xc : Zi Tryz.prog (nat_lit 24):=Zd Tryz.func24 (by decide) rfl
theorem XR : Zi Tryz.prog (nat_lit 25):=Zd Tryz.func25 (by decide) rfl
theorem Qa : Zi Tryz.prog (nat_lit 26):=Zd Tryz.func26 (by decide) rfl
theorem Qh : Zi Tryz.prog (nat_lit 27):=Zd Tryz.func27 (by decide) rfl
theorem Q0 : Zi Tryz.prog (nat_lit 28):=Zd Tryz.func28 (by decide) rfl
theorem Qs : Zi Tryz.prog (nat_lit 29):=Zd Tryz.func29 (by decide) rfl
theorem Q1 : Zi Tryz.prog (nat_lit 30):=Zd Tryz.func30 (by decide) rfl
theorem Qb : Zi Tryz.prog (nat_lit 31):=Zd Tryz.func31 (by decide) rfl
theorem Xw : Zi Tryz.prog (nat_lit 32):=Zd Tryz.func32 (by decide) rfl
theorem Qt : Zi Tryz.prog (nat_lit 33):=Zd Tryz.func33 (by decide) rfl
theorem XS : Zi Tryz.prog (nat_lit 34):=Zd Tryz.func34 (by decide) rfl
theorem Qc : Zi Tryz.prog (nat_lit 35):=Zd Tryz.func35 (by decide) rfl
theorem Qu : Zi Tryz.prog (nat_lit 36):=Zd Tryz.func36 (by decide) rfl
theorem Zbc : Zi Tryz.prog (nat_lit 37):=Zd Tryz.func37 (by decide) rfl
theorem ZcR : Zi Tryz.prog (nat_lit 38):=Zd Tryz.func38 (by decide) rfl
theorem Zbd : Zi Tryz.prog (nat_lit 39):=Zd Tryz.func39 (by decide) rfl
theorem Zck : Zi Tryz.prog (nat_lit 40):=Zd Tryz.func40 (by decide) rfl
theorem Zb0 : Zi Tryz.prog (nat_lit 41):=Zd Tryz.func41 (by decide) rfl
theorem Zb1 : Zi Tryz.prog (nat_lit 42):=Zd Tryz.func42 (by decide) rfl
theorem Zb2 : Zi Tryz.prog (nat_lit 43):=Zd Tryz.func43 (by decide) rfl
theorem Zb3 : Zi Tryz.prog (nat_lit 44):=Zd Tryz.func44 (by decide) rfl
theorem Zbe : Zi Tryz.prog (nat_lit 45):=Zd Tryz.func45 (by decide) rfl
theorem Zcl : Zi Tryz.prog (nat_lit 46):=Zd Tryz.func46 (by decide) rfl
theorem Zcm : Zi Tryz.prog (nat_lit 47):=Zd Tryz.func47 (by decide) rfl
theorem Zc2 : Zi Tryz.prog (nat_lit 48):=Zd Tryz.func48 (by decide) rfl
theorem Zc3 : Zi Tryz.prog (nat_lit 49):=Zd Tryz.func49 (by decide) rfl
theorem Zd0 : Zi Tryz.prog (nat_lit 50):=Zd Tryz.func50 (by decide) rfl
theorem Zd1 : Zi Tryz.prog (nat_lit 51):=Zd Tryz.func51 (by decide) rfl
theorem Zd2 : Zi Tryz.prog (nat_lit 52):=Zd Tryz.func52 (by decide) rfl
theorem Zgc : Zi Tryz.prog (nat_lit 53):=Zd Tryz.func53 (by decide) rfl
theorem Zfc : Zi Tryz.prog (nat_lit 54):=Zd Tryz.func54 (by decide) rfl
theorem Zei : Zi Tryz.prog (nat_lit 55):=Zd Tryz.func55 (by decide) rfl
theorem Zfd : Zi Tryz.prog (nat_lit 56):=Zd Tryz.func56 (by decide) rfl
theorem Zej : Zi Tryz.prog (nat_lit 57):=Zd Tryz.func57 (by decide) rfl
theorem Zek : Zi Tryz.prog (nat_lit 58):=Zd Tryz.func58 (by decide) rfl
theorem Zel : Zi Tryz.prog (nat_lit 59):=Zd Tryz.func59 (by decide) rfl
theorem Zfe : Zi Tryz.prog (nat_lit 60):=Zd Tryz.func60 (by decide) rfl
theorem Zff : Zi Tryz.prog (nat_lit 61):=Zd Tryz.func61 (by decide) rfl
theorem Zcn : Zi Tryz.prog (nat_lit 62):=Zd Tryz.func62 (by decide) rfl
theorem Zfg : Zi Tryz.prog (nat_lit 63):=Zd Tryz.func63 (by decide) rfl
theorem hb64 : Zi Tryz.prog (nat_lit 64):=Zd Tryz.func64 (by decide) rfl
theorem Zfh : Zi Tryz.prog (nat_lit 65):=Zd Tryz.func65 (by decide) rfl
theorem Zbf : Zi Tryz.prog (nat_lit 66):=Zd Tryz.func66 (by decide) rfl
theorem Zd3 : Zi Tryz.prog (nat_lit 67):=Zd Tryz.func67 (by decide) rfl
theorem ZcS : Zi Tryz.prog (nat_lit 68):=Zd Tryz.func68 (by decide) rfl
theorem Zd4 : Zi Tryz.prog (nat_lit 69):=Zd Tryz.func69 (by decide) rfl
theorem Zem : Zi Tryz.prog (nat_lit 70):=Zd Tryz.func70 (by decide) rfl
theorem Zho : Zi Tryz.prog (nat_lit 71):=Zd Tryz.func71 (by decide) rfl
theorem ZiL : Zi Tryz.prog (nat_lit 72):=Zd Tryz.func72 (by decide) rfl
theorem Zgd : Zi Tryz.prog (nat_lit 73):=Zd Tryz.func73 (by decide) rfl
theorem ZiM : Zi Tryz.prog (nat_lit 74):=Zd Tryz.func74 (by decide) rfl
theorem ZiN : Zi Tryz.prog (nat_lit 75):=Zd Tryz.func75 (by decide) rfl
theorem Zhp : Zi Tryz.prog (nat_lit 76):=Zd Tryz.func76 (by decide) rfl
theorem Zen : Zi Tryz.prog (nat_lit 77):=Zd Tryz.func77 (by decide) rfl
theorem Zfi : Zi Tryz.prog (nat_lit 78):=Zd Tryz.func78 (by decide) rfl
theorem Zeo : Zi Tryz.prog (nat_lit 79):=Zd Tryz.func79 (by decide) rfl
theorem Zep : Zi Tryz.prog (nat_lit 80):=Zd Tryz.func80 (by decide) rfl
theorem Zeq : Zi Tryz.prog (nat_lit 81):=Zd Tryz.func81 (by decide) rfl
theorem Zfj : Zi Tryz.prog (nat_lit 82):=Zd Tryz.func82 (by decide) rfl
theorem Zfk : Zi Tryz.prog (nat_lit 83):=Zd Tryz.func83 (by decide) rfl
theorem Zhq : Zi Tryz.prog (nat_lit 84):=Zd Tryz.func84 (by decide) rfl
theorem ZiO : Zi Tryz.prog (nat_lit 86):=Zd Tryz.func86 (by decide) rfl
theorem Zer : Zi Tryz.prog (nat_lit 87):=Zd Tryz.func87 (by decide) rfl
theorem Zhr : Zi Tryz.prog (nat_lit 88):=Zd Tryz.func88 (by decide) rfl
theorem ZiP : Zi Tryz.prog (nat_lit 89):=Zd Tryz.func89 (by decide) rfl
theorem Zhs : Zi Tryz.prog (nat_lit 90):=Zd Tryz.func90 (by decide) rfl
theorem ZiQ : Zi Tryz.prog (nat_lit 91):=Zd Tryz.func91 (by decide) rfl
theorem ZiR : Zi Tryz.prog (nat_lit 92):=Zd Tryz.func92 (by decide) rfl
theorem Zht : Zi Tryz.prog (nat_lit 93):=Zd Tryz.func93 (by decide) rfl
theorem Zfl : Zi Tryz.prog (nat_lit 94):=Zd Tryz.func94 (by decide) rfl
theorem Zd5 : Zi Tryz.prog (nat_lit 95):=Zd Tryz.func95 (by decide) rfl
theorem Zhu : Zi Tryz.prog (nat_lit 96):=Zd Tryz.func96 (by decide) rfl
theorem ZbM : Zi Tryz.prog (nat_lit 97):=Zd Tryz.func97 (by decide) rfl
theorem Zb4 : Zi Tryz.prog (nat_lit 98):=Zd Tryz.func98 (by decide) rfl
theorem Zhv : Zi Tryz.prog (nat_lit 99):=Zd Tryz.func99 (by decide) rfl
theorem Zdf : Zi Tryz.prog (nat_lit 100):=Zd Tryz.func100 (by decide) rfl
theorem ZdR : Zi Tryz.prog (nat_lit 101):=Zd Tryz.func101 (by decide) rfl
theorem ZdS : Zi Tryz.prog (nat_lit 102):=Zd Tryz.func102 (by decide) rfl
theorem ZdT : Zi Tryz.prog (nat_lit 103):=Zd Tryz.func103 (by decide) rfl
theorem Zg7 : Zi Tryz.prog (nat_lit 104):=Zd Tryz.func104 (by decide) rfl
theorem Zin : Zi Tryz.prog (nat_lit 105):=Zd Tryz.func105 (by decide) rfl
theorem Zfm : Zi Tryz.prog (nat_lit 106):=Zd Tryz.func106 (by decide) rfl
theorem Zfn : Zi Tryz.prog (nat_lit 107):=Zd Tryz.func107 (by decide) rfl
theorem Zfo : Zi Tryz.prog (nat_lit 108):=Zd Tryz.func108 (by decide) rfl
theorem ZdU : Zi Tryz.prog (nat_lit 109):=Zd Tryz.func109 (by decide) rfl
theorem Zfp : Zi Tryz.prog (nat_lit 110):=Zd Tryz.func110 (by decide) rfl
theorem Zfq : Zi Tryz.prog (nat_lit 111):=Zd Tryz.func111 (by decide) rfl
theorem Zfr : Zi Tryz.prog (nat_lit 112):=Zd Tryz.func112 (by decide) rfl
theorem ZdV : Zi Tryz.prog (nat_lit 113):=Zd Tryz.func113 (by decide) rfl
theorem ZjZ : Zi Tryz.prog (nat_lit 114):=Zd Tryz.func114 (by decide) rfl
theorem Zka : Zi Tryz.prog (nat_lit 115):=Zd Tryz.func115 (by decide) rfl
theorem Zkb : Zi Tryz.prog (nat_lit 116):=Zd Tryz.func116 (by decide) rfl
theorem Zkc : Zi Tryz.prog (nat_lit 117):=Zd Tryz.func117 (by decide) rfl
theorem Zkd : Zi Tryz.prog (nat_lit 118):=Zd Tryz.func118 (by decide) rfl
theorem Zke : Zi Tryz.prog (nat_lit 119):=Zd Tryz.func119 (by decide) rfl
theorem Zkf : Zi Tryz.prog (nat_lit 120):=Zd Tryz.func120 (by decide) rfl
theorem Zkg : Zi Tryz.prog (nat_lit 121):=Zd Tryz.func121 (by decide) rfl
theorem Zkh : Zi Tryz.prog (nat_lit 122):=Zd Tryz.func122 (by decide) rfl
theorem Ztj : Zi Tryz.prog (nat_lit 123):=Zd Tryz.func123 (by decide) rfl
theorem Ztk : Zi Tryz.prog (nat_lit 124):=Zd Tryz.func124 (by decide) rfl
theorem Ztl : Zi Tryz.prog (nat_lit 125):=Zd Tryz.func125 (by decide) rfl
theorem Zza : Zi Tryz.prog (nat_lit 126):=Zd Tryz.func126 (by decide) rfl
theorem Zzb : Zi Tryz.prog (nat_lit 132):=Zd Tryz.func132 (by decide) rfl
theorem Zzc : Zi Tryz.prog (nat_lit 134):=Zd Tryz.func134 (by decide) rfl
theorem Zzd : Zi Tryz.prog (nat_lit 135):=Zd Tryz.func135 (by decide) rfl
theorem ZdW : Zi Tryz.prog (nat_lit 136):=Zd Tryz.func136 (by decide) rfl
theorem Zze : Zi Tryz.prog (nat_lit 137):=Zd Tryz.func137 (by decide) rfl
theorem Zzf : Zi Tryz.prog (nat_lit 138):=Zd Tryz.func138 (by decide) rfl
theorem Zzg : Zi Tryz.prog (nat_lit 139):=Zd Tryz.func139 (by decide) rfl
theorem Zzh : Zi Tryz.prog (nat_lit 140):=Zd Tryz.func140 (by decide) rfl
theorem Ztm : Zi Tryz.prog (nat_lit 141):=Zd Tryz.func141 (by decide) rfl
theorem Ztn : Zi Tryz.prog (nat_lit 142):=Zd Tryz.func142 (by decide) rfl
theorem Zzi : Zi Tryz.prog (nat_lit 143):=Zd Tryz.func143 (by decide) rfl
theorem Zzj : Zi Tryz.prog (nat_lit 144):=Zd Tryz.func144 (by decide) rfl
theorem Zzk : Zi Tryz.prog (nat_lit 145):=Zd Tryz.func145 (by decide) rfl
theorem Zg8 : Zi Tryz.prog (nat_lit 146):=Zd Tryz.func146 (by decide) rfl
theorem Zio : Zi Tryz.prog (nat_lit 147):=Zd Tryz.func147 (by decide) rfl
theorem Zzl : Zi Tryz.prog (nat_lit 148):=Zd Tryz.func148 (by decide) rfl
theorem Zzm : Zi Tryz.prog (nat_lit 149):=Zd Tryz.func149 (by decide) rfl
theorem Zzn : Zi Tryz.prog (nat_lit 150):=Zd Tryz.func150 (by decide) rfl
theorem Zto : Zi Tryz.prog (nat_lit 151):=Zd Tryz.func151 (by decide) rfl
theorem Zzo : Zi Tryz.prog (nat_lit 152):=Zd Tryz.func152 (by decide) rfl
theorem ZnL : Zi Tryz.prog (nat_lit 153):=Zd Tryz.func153 (by decide) rfl
theorem Ztp : Zi Tryz.prog (nat_lit 154):=Zd Tryz.func154 (by decide) rfl
theorem Ztq : Zi Tryz.prog (nat_lit 155):=Zd Tryz.func155 (by decide) rfl
theorem Ztr : Zi Tryz.prog (nat_lit 156):=Zd Tryz.func156 (by decide) rfl
theorem ZdX : Zi Tryz.prog (nat_lit 161):=Zd Tryz.func161 (by decide) rfl
theorem Zzp : Zi Tryz.prog (nat_lit 162):=Zd Tryz.func162 (by decide) rfl
theorem Zki : Zi Tryz.prog (nat_lit 163):=Zd Tryz.func163 (by decide) rfl
theorem Zzq : Zi Tryz.prog (nat_lit 164):=Zd Tryz.func164 (by decide) rfl
theorem Zts : Zi Tryz.prog (nat_lit 165):=Zd Tryz.func165 (by decide) rfl
theorem Zco : Zi Tryz.prog (nat_lit 166):=Zd Tryz.func166 (by decide) rfl
theorem Zzr : Zi Tryz.prog (nat_lit 173):=Zd Tryz.func173 (by decide) rfl
theorem Zzs : Zi Tryz.prog (nat_lit 174):=Zd Tryz.func174 (by decide) rfl
theorem ZnM : Zi Tryz.prog (nat_lit 175):=Zd Tryz.func175 (by decide) rfl
theorem Zzt : Zi Tryz.prog (nat_lit 176):=Zd Tryz.func176 (by decide) rfl
theorem ZdY : Zi Tryz.prog (nat_lit 177):=Zd Tryz.func177 (by decide) rfl
theorem Zzu : Zi Tryz.prog (nat_lit 178):=Zd Tryz.func178 (by decide) rfl
theorem Zzv : Zi Tryz.prog (nat_lit 179):=Zd Tryz.func179 (by decide) rfl
theorem Zzw : Zi Tryz.prog (nat_lit 180):=Zd Tryz.func180 (by decide) rfl
theorem Zzx : Zi Tryz.prog (nat_lit 181):=Zd Tryz.func181 (by decide) rfl
theorem Zzy : Zi Tryz.prog (nat_lit 182):=Zd Tryz.func182 (by decide) rfl
theorem Ztt : Zi Tryz.prog (nat_lit 183):=Zd Tryz.func183 (by decide) rfl
theorem ZnN : Zi Tryz.prog (nat_lit 184):=Zd Tryz.func184 (by decide) rfl
theorem Zzz : Zi Tryz.prog (nat_lit 185):=Zd Tryz.func185 (by decide) rfl
theorem Zz0 : Zi Tryz.prog (nat_lit 186):=Zd Tryz.func186 (by decide) rfl
theorem Zz1 : Zi Tryz.prog (nat_lit 187):=Zd Tryz.func187 (by decide) rfl
theorem Zz2 : Zi Tryz.prog (nat_lit 188):=Zd Tryz.func188 (by decide) rfl
theorem Ztu : Zi Tryz.prog (nat_lit 189):=Zd Tryz.func189 (by decide) rfl
theorem Zz3 : Zi Tryz.prog (nat_lit 190):=Zd Tryz.func190 (by decide) rfl
theorem ZnO : Zi Tryz.prog (nat_lit 191):=Zd Tryz.func191 (by decide) rfl
theorem Zz4 : Zi Tryz.prog (nat_lit 192):=Zd Tryz.func192 (by decide) rfl
theorem Zz5 : Zi Tryz.prog (nat_lit 193):=Zd Tryz.func193 (by decide) rfl
theorem Zz6 : Zi Tryz.prog (nat_lit 194):=Zd Tryz.func194 (by decide) rfl
theorem Zz7 : Zi Tryz.prog (nat_lit 195):=Zd Tryz.func195 (by decide) rfl
theorem Zz8 : Zi Tryz.prog (nat_lit 196):=Zd Tryz.func196 (by decide) rfl
theorem Ztv : Zi Tryz.prog (nat_lit 197):=Zd Tryz.func197 (by decide) rfl
theorem Zdg : Zi Tryz.prog (nat_lit 198):=Zd Tryz.func198 (by decide) rfl
theorem Zkj : Zi Tryz.prog (nat_lit 199):=Zd Tryz.func199 (by decide) rfl
theorem Ztw : Zi Tryz.prog (nat_lit 202):=Zd Tryz.func202 (by decide) rfl
theorem Zz9 : Zi Tryz.prog (nat_lit 203):=Zd Tryz.func203 (by decide) rfl
theorem Ztx : Zi Tryz.prog (nat_lit 204):=Zd Tryz.func204 (by decide) rfl
theorem Zaj : Zi Tryz.prog (nat_lit 207):=Zd Tryz.func207 (by decide) rfl
theorem Zty : Zi Tryz.prog (nat_lit 209):=Zd Tryz.func209 (by decide) rfl
theorem ZzA : Zi Tryz.prog (nat_lit 210):=Zd Tryz.func210 (by decide) rfl
theorem Ztz : Zi Tryz.prog (nat_lit 211):=Zd Tryz.func211 (by decide) rfl
theorem ZzB : Zi Tryz.prog (nat_lit 212):=Zd Tryz.func212 (by decide) rfl
theorem ZzC : Zi Tryz.prog (nat_lit 213):=Zd Tryz.func213 (by decide) rfl
theorem ZzD : Zi Tryz.prog (nat_lit 214):=Zd Tryz.func214 (by decide) rfl
theorem ZnP : Zi Tryz.prog (nat_lit 215):=Zd Tryz.func215 (by decide) rfl
theorem ZzE : Zi Tryz.prog (nat_lit 216):=Zd Tryz.func216 (by decide) rfl
theorem Zt0 : Zi Tryz.prog (nat_lit 217):=Zd Tryz.func217 (by decide) rfl
theorem ZnQ : Zi Tryz.prog (nat_lit 218):=Zd Tryz.func218 (by decide) rfl
theorem ZzF : Zi Tryz.prog (nat_lit 219):=Zd Tryz.func219 (by decide) rfl
theorem Zg9 : Zi Tryz.prog (nat_lit 220):=Zd Tryz.func220 (by decide) rfl
theorem Zt1 : Zi Tryz.prog (nat_lit 221):=Zd Tryz.func221 (by decide) rfl
theorem ZzG : Zi Tryz.prog (nat_lit 222):=Zd Tryz.func222 (by decide) rfl
theorem ZzH : Zi Tryz.prog (nat_lit 223):=Zd Tryz.func223 (by decide) rfl
theorem ZzI : Zi Tryz.prog (nat_lit 225):=Zd Tryz.func225 (by decide) rfl
theorem ZzJ : Zi Tryz.prog (nat_lit 226):=Zd Tryz.func226 (by decide) rfl
theorem Zkk : Zi Tryz.prog (nat_lit 229):=Zd Tryz.func229 (by decide) rfl
theorem ZzK : Zi Tryz.prog (nat_lit 230):=Zd Tryz.func230 (by decide) rfl
theorem ZbG : Tryz.prog.eqGuardType Tryz.prog.depth (nat_lit 36) = false:=by kernel_rfl
set_option maxHeartbeats 1000000 in
theorem QT (x y : Span) (w : World) : (Op.equalIn 10000 (nat_lit 36) (.agg #[U x.a,U x.b]) (.agg #[U y.a,U y.b])).run Tryz.prog w = .ok (decide (x = y)) w:=by
 have u3:=Tryz.underlying3
 have a3:=Tryz.isAgg3
 have z3:=Tryz.sizeOf3
 rw [show (10000 : Nat) = 9999 + 1 from V,run_equalIn_agg w 9999 (nat_lit 36) _ _ (by kernel_rfl) (by kernel_rfl)]
 simp only [Program.fieldsOf,Tryz.underlying36,Za]
 go_simp
 skip
 obtain ⟨x1,x2⟩:=x
 obtain ⟨y1,y2⟩:=y
 by_cases h1 : x1 = y1 <;> by_cases h2 : x2 = y2 <;> simp [h1,h2]
theorem ZcB : Tryz.prog.eqGuardType Tryz.prog.depth (nat_lit 31) = false:=by kernel_rfl
set_option maxHeartbeats 1000000 in
theorem ZaO (x y : Val) (w : World) : (Op.equalIn 10000 (nat_lit 31) (.agg #[U x.k,U x.n,Za x.s]) (.agg #[U y.k,U y.n,Za y.s])).run Tryz.prog w = .ok (decide (x = y)) w:=by
 have u3:=Tryz.underlying3
 have a3:=Tryz.isAgg3
 have z3:=Tryz.sizeOf3
 have u9:=Tryz.underlying9
 have a9:=Tryz.isAgg9
 have z9:=Tryz.sizeOf9
 rw [show (10000 : Nat) = 9999 + 1 from V,run_equalIn_agg w 9999 (nat_lit 31) _ _ (by kernel_rfl) (by kernel_rfl)]
 simp only [Program.fieldsOf,Tryz.underlying31,Za]
 go_simp
 skip
 obtain ⟨x1,x2,x3⟩:=x
 obtain ⟨y1,y2,y3⟩:=y
 by_cases h1 : x1 = y1 <;> by_cases h2 : x2 = y2 <;> by_cases h3 : x3 = y3 <;> simp [h1,h2,h3]
theorem mixed : Tryz.prog.follows .mixedOrders = true:=by kernel_rfl
theorem dr {N id : Nat} {Q : Exit → Env → World → Prop} {ρ : Env} {w w0 : World} {ops : List Oper} {X : List Nat} {G0 G : GH} {L : Own} (T : List (Nat × Bool)) (hv : List (Nat × Value)) (hS : (St w0 X G0 G L) w) (ho : Zeb Tryz.prog ops (St w0 X G0 G L) (T.map (·.1)) hv (Q2 ft ops (T.map (·.1)) hv 0 ops ρ) 0 ops)
  (hT : ∀ w,(St w0 X G0 G L) w → goT ft ops (St w0 X G0 G L) Q T (Q2 ft ops (T.map (·.1)) hv 0 ops ρ) w) (hN : ops.all (Zcq N) = true:=by kernel_rfl) (hp : Znd ops (ZaM ops (T.map (·.1))) = true:=by kernel_rfl)
  (hn : T.map (fun x=>Zbi (ZaM ops (T.map (·.1))) x.1) = T.map (·.2):=by kernel_rfl) (ha : Zc5 ft ops (T.map (·.1)) hv (Q2 ft ops (T.map (·.1)) hv 0 ops ρ) 0 ops = Zc6 (T.map (·.1)) hv (Q2 ft ops (T.map (·.1)) hv 0 ops ρ) 0 ops:=by exact V) : DR Tryz.prog N id ops.toArray Q ρ w:=
 DR.go _ T hv mixed hN hp hn ha hS.draw ho hT
theorem drT {N id : Nat} {Q : Exit → Env → World → Prop} {ρ : Env} {w w0 : World} {ops : List Oper} {X : List Nat} {G0 G : GH} {L : Own} (T : List Nat) (hv : List (Nat × Value)) (hS : (St w0 X G0 G L) w) (ho : Zeb Tryz.prog ops (St w0 X G0 G L) T hv (Q2 ft ops T hv 0 ops ρ) 0 ops)
  (hT : ∀ w,(St w0 X G0 G L) w → TG Tryz.prog ops.toArray (ZaM ops T) (St w0 X G0 G L) Q T.length T (Q2 ft ops T hv 0 ops ρ) w) (hN : ops.all (Zcq N) = true:=by kernel_rfl) (hp : Zh1 ops (ZaM ops T) = true:=by kernel_rfl)
  (ha : Zc5 ft ops T hv (Q2 ft ops T hv 0 ops ρ) 0 ops = Zc6 T hv (Q2 ft ops T hv 0 ops ρ) 0 ops:=by exact V) : DR Tryz.prog N id ops.toArray Q ρ w:=
 DR.goG _ T hv mixed hN hp ha hS.draw ho hT
end Go.Civ
