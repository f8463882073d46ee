/- Lemmas. -/
import Derived.Test.YthgeclodflmiaaaGreatD06
import Derived.Test.YthgeclodflmiaaaGreatD08
import Derived.Test.YthgeclodflmiaaaGreatProg
import Derived.KernelRfl
import Derived.WalkKit
set_option linter.unusedVariables false
set_option linter.unusedSimpArgs false
set_option maxRecDepth 100000
set_option maxHeartbeats 4000000
namespace Go.Civ
open Go.Proofs
theorem Zt : Yi Tryz.prog (nat_lit 3) = some ⟨false,1,8,S 0⟩:=by kernel_rfl
theorem ti5 : Yi Tryz.prog (nat_lit 5) = some ⟨false,1,1, .int .u8 0⟩:=by kernel_rfl
theorem ZF : Yi Tryz.prog (nat_lit 9) = some ⟨false,1,16,Za []⟩:=by kernel_rfl
theorem ZaY : Yi Tryz.prog (nat_lit 22) = some ⟨false,1,24,Ze⟩:=by kernel_rfl
theorem ZcK : Yi Tryz.prog (nat_lit 23) = some ⟨false,1,24,Ze⟩:=by kernel_rfl
theorem Qo : Yi Tryz.prog (nat_lit 25) = some ⟨true,4,72, .agg #[Za [],Ze,S 0,Ze]⟩:=by kernel_rfl
theorem YK : Yi Tryz.prog (nat_lit 26) = some ⟨false,1,24,Ze⟩:=by kernel_rfl
theorem Zm : Yi Tryz.prog (nat_lit 28) = some ⟨true,6,104, .agg #[Za [],Ze,S 0,Ze,Ze,S 0]⟩:=by kernel_rfl
theorem ZK : Yi Tryz.prog (nat_lit 31) = some ⟨false,1,24,Ze⟩:=by kernel_rfl
theorem Z2 : Yi Tryz.prog (nat_lit 33) = some ⟨true,2,16, .agg #[S 0,S 0]⟩:=by kernel_rfl
theorem Zct : Yi Tryz.prog (nat_lit 35) = some ⟨true,4,32, .agg #[S 0,S 0,S 0,S 0]⟩:=by kernel_rfl
theorem Zz : Yi Tryz.prog (nat_lit 37) = some ⟨true,5,56, .agg #[Ze,S 0,S 0,S 0,S 0]⟩:=by kernel_rfl
theorem Zsz : Yi Tryz.prog (nat_lit 42) = some ⟨false,1,8,S 0⟩:=by kernel_rfl
theorem ZaH : Yi Tryz.prog (nat_lit 48) = some ⟨false,1,24,Ze⟩:=by kernel_rfl
theorem Qj : Yi Tryz.prog (nat_lit 50) = some ⟨true,2,40, .agg #[Ze,Za []]⟩:=by kernel_rfl
theorem Z6 : Yi Tryz.prog (nat_lit 58) = some ⟨true,3,32, .agg #[S 0,S 0,Za []]⟩:=by kernel_rfl
theorem ZoA : Yi Tryz.prog (nat_lit 71) = some ⟨false,1,24,Ze⟩:=by kernel_rfl
theorem ZoB : Yi Tryz.prog (nat_lit 73) = some ⟨true,3,40, .agg #[Ze,S 0,S 0]⟩:=by kernel_rfl
theorem Zfj : Yi Tryz.prog (nat_lit 85) = some ⟨false,1,24,Ze⟩:=by kernel_rfl
theorem XI : Yi Tryz.prog (nat_lit 87) = some ⟨true,7,96, .agg #[S 0,Za [],Za [],S 0,S 0,Za [],Ze]⟩:=by kernel_rfl
theorem Zs0 : Yi Tryz.prog (nat_lit 90) = some ⟨false,1,8, .pointer none⟩:=by kernel_rfl
theorem ZzN : Yi Tryz.prog (nat_lit 92) = some ⟨true,13,176, .agg #[S 0,S 0,Ze,S 0,Za [],Za [],S 0,S 0,Za [],Ze,Ze,S 0,S 0]⟩:=by kernel_rfl
theorem Yl : Yi Tryz.prog (nat_lit 105) = some ⟨true,3,40, .agg #[S 0,S 0,Ze]⟩:=by kernel_rfl
theorem YX : Yi Tryz.prog (nat_lit 130) = some ⟨true,2,24, .agg #[Za [],S 0]⟩:=by kernel_rfl
theorem Qg : Yi Tryz.prog (nat_lit 136) = some ⟨true,2,48, .agg #[Ze,Ze]⟩:=by kernel_rfl
theorem Zcu : Yi Tryz.prog (nat_lit 139) = some ⟨true,14,248, .agg #[Za [],Ze,S 0,Ze,Ze,S 0,Za [],Ze,S 0,Ze,Ze,S 0,Ze,Za []]⟩:=by kernel_rfl
theorem ZzO : fieldsOf Tryz.prog (nat_lit 25) = some [(0,1),(1,1),(2,1),(3,1)]:=by kernel_rfl
theorem QF : fieldsOf Tryz.prog (nat_lit 28) = some [(0,4),(4,1),(5,1)]:=by kernel_rfl
theorem XB : fieldsOf Tryz.prog (nat_lit 33) = some [(0,1),(1,1)]:=by kernel_rfl
theorem ZbY : fieldsOf Tryz.prog (nat_lit 35) = some [(0,2),(2,2)]:=by kernel_rfl
theorem Za6 : fieldsOf Tryz.prog (nat_lit 37) = some [(0,1),(1,4)]:=by kernel_rfl
theorem Zs1 : fieldsOf Tryz.prog (nat_lit 58) = some [(0,1),(1,1),(2,1)]:=by kernel_rfl
theorem ZzP : fieldsOf Tryz.prog (nat_lit 73) = some [(0,1),(1,2)]:=by kernel_rfl
theorem ZzQ : fieldsOf Tryz.prog (nat_lit 92) = some [(0,1),(1,1),(2,1),(3,7),(10,1),(11,2)]:=by kernel_rfl
theorem ZkX : fieldsOf Tryz.prog (nat_lit 105) = some [(0,1),(1,1),(2,1)]:=by kernel_rfl
theorem ZoC : fieldsOf Tryz.prog (nat_lit 130) = some [(0,1),(1,1)]:=by kernel_rfl
theorem Zy1 : fieldsOf Tryz.prog (nat_lit 136) = some [(0,1),(1,1)]:=by kernel_rfl
theorem Zy2 : fieldsOf Tryz.prog (nat_lit 139) = some [(0,6),(6,6),(12,2)]:=by kernel_rfl
def ft : FTab Tryz.prog:=⟨[(nat_lit 25,[(0,1),(1,1),(2,1),(3,1)]),(nat_lit 28,[(0,4),(4,1),(5,1)]),(nat_lit 33,[(0,1),(1,1)]),(nat_lit 35,[(0,2),(2,2)]),(nat_lit 37,[(0,1),(1,4)]),(nat_lit 50,[(0,1),(1,1)]),(nat_lit 58,[(0,1),(1,1),(2,1)]),(nat_lit 73,[(0,1),(1,2)]),(nat_lit 87,[(0,1),(1,1),(2,1),(3,3),(6,1)]),(nat_lit 92,[(0,1),(1,1),(2,1),(3,7),(10,1),(11,2)]),(nat_lit 105,[(0,1),(1,1),(2,1)]),(nat_lit 130,[(0,1),(1,1)]),(nat_lit 136,[(0,1),(1,1)]),(nat_lit 139,[(0,6),(6,6),(12,2)])],fun x hx=>by simp only [List.mem_cons,List.not_mem_nil,or_false] at hx; rcases hx with rfl | rfl | rfl | rfl | rfl | rfl | rfl | rfl | rfl | rfl | rfl | rfl | rfl | rfl <;> kernel_rfl⟩
theorem Qb : Tryz.prog.underlying (nat_lit 3) = some (.int .i64):=by kernel_rfl
theorem ul4 : Tryz.prog.underlying (nat_lit 4) = some (.bool):=by kernel_rfl
theorem ul5 : Tryz.prog.underlying (nat_lit 5) = some (.int .u8):=by kernel_rfl
theorem ul9 : Tryz.prog.underlying (nat_lit 9) = some (.string):=by kernel_rfl
theorem Qk : Tryz.prog.underlying (nat_lit 22) = some (.slice (nat_lit 130)):=by kernel_rfl
theorem ZaZ : Tryz.prog.underlying (nat_lit 23) = some (.slice (nat_lit 50)):=by kernel_rfl
theorem Yn : Tryz.prog.underlying (nat_lit 26) = some (.slice (nat_lit 37)):=by kernel_rfl
theorem Yv : Tryz.prog.underlying (nat_lit 31) = some (.slice (nat_lit 58)):=by kernel_rfl
theorem Xy : Tryz.prog.underlying (nat_lit 48) = some (.slice (nat_lit 9)):=by kernel_rfl
theorem Ql : Tryz.prog.underlying (nat_lit 51) = some (.slice (nat_lit 31)):=by kernel_rfl
theorem ZoD : Tryz.prog.underlying (nat_lit 63) = some (.slice (nat_lit 73)):=by kernel_rfl
theorem Xe : Tryz.prog.underlying (nat_lit 71) = some (.slice (nat_lit 33)):=by kernel_rfl
theorem Qw : Tryz.prog.underlying (nat_lit 77) = some (.slice (nat_lit 28)):=by kernel_rfl
theorem Zdr : Tryz.prog.underlying (nat_lit 85) = some (.slice (nat_lit 87)):=by kernel_rfl
theorem Yp : Tryz.prog.underlying (nat_lit 113) = some (.slice (nat_lit 3)):=by kernel_rfl
theorem Zbe : Tryz.prog.underlying (nat_lit 133) = some (.slice (nat_lit 136)):=by kernel_rfl
theorem ZoE : Tryz.prog.underlying (nat_lit 155) = some (.slice (nat_lit 139)):=by kernel_rfl
theorem ZcX : Tryz.prog.underlying (nat_lit 160) = some (.slice (nat_lit 105)):=by kernel_rfl
theorem ZoF : Tryz.prog.underlying (nat_lit 176) = some (.slice (nat_lit 42)):=by kernel_rfl
theorem Zus : Tryz.prog.underlying (nat_lit 181) = some (.map (nat_lit 9) (nat_lit 3)):=by kernel_rfl
theorem Zut : Tryz.prog.underlying (nat_lit 207) = some (.int .u64):=by kernel_rfl
theorem Zuu : Tryz.prog.underlying (nat_lit 220) = some (.slice (nat_lit 5)):=by kernel_rfl
theorem Zuv : Tryz.prog.underlying (nat_lit 245) = some (.int .u64):=by kernel_rfl
theorem Zay : Tryz.prog.underlying (nat_lit 262) = some (.map (nat_lit 3) (nat_lit 3)):=by kernel_rfl
theorem Zs2 : TSl Tryz.prog (nat_lit 22) (nat_lit 130) ⟨true,2,24, .agg #[Za [],S 0]⟩:=⟨Qk,YX⟩
theorem YD : TSl Tryz.prog (nat_lit 26) (nat_lit 37) ⟨true,5,56, .agg #[Ze,S 0,S 0,S 0,S 0]⟩:=⟨Yn,Zz⟩
theorem ZlT : TSl Tryz.prog (nat_lit 31) (nat_lit 58) ⟨true,3,32, .agg #[S 0,S 0,Za []]⟩:=⟨Yv,Z6⟩
theorem ZoG : TSl Tryz.prog (nat_lit 48) (nat_lit 9) ⟨false,1,16,Za []⟩:=⟨Xy,ZF⟩
theorem Zae : TSl Tryz.prog (nat_lit 51) (nat_lit 31) ⟨false,1,24,Ze⟩:=⟨Ql,ZK⟩
theorem ZwQ : TSl Tryz.prog (nat_lit 63) (nat_lit 73) ⟨true,3,40, .agg #[Ze,S 0,S 0]⟩:=⟨ZoD,ZoB⟩
theorem YR : TSl Tryz.prog (nat_lit 71) (nat_lit 33) ⟨true,2,16, .agg #[S 0,S 0]⟩:=⟨Xe,Z2⟩
theorem Zfk : TSl Tryz.prog (nat_lit 77) (nat_lit 28) ⟨true,6,104, .agg #[Za [],Ze,S 0,Ze,Ze,S 0]⟩:=⟨Qw,Zm⟩
theorem Yb : TSl Tryz.prog (nat_lit 113) (nat_lit 3) ⟨false,1,8,S 0⟩:=⟨Yp,Zt⟩
theorem Zuw : TSl Tryz.prog (nat_lit 133) (nat_lit 136) ⟨true,2,48, .agg #[Ze,Ze]⟩:=⟨Zbe,Qg⟩
theorem Zux : TSl Tryz.prog (nat_lit 155) (nat_lit 139) ⟨true,14,248, .agg #[Za [],Ze,S 0,Ze,Ze,S 0,Za [],Ze,S 0,Ze,Ze,S 0,Ze,Za []]⟩:=⟨ZoE,Zcu⟩
theorem ZcY : TSl Tryz.prog (nat_lit 160) (nat_lit 105) ⟨true,3,40, .agg #[S 0,S 0,Ze]⟩:=⟨ZcX,Yl⟩
theorem Zuy : TSl Tryz.prog (nat_lit 176) (nat_lit 42) ⟨false,1,8,S 0⟩:=⟨ZoF,Zsz⟩
theorem ZcZ : TSl Tryz.prog (nat_lit 220) (nat_lit 5) ⟨false,1,1, .int .u8 0⟩:=⟨Zuu,ti5⟩
theorem Y6 : Zk Tryz.prog (nat_lit 11):=Zf Tryz.func11 (by decide) rfl
theorem YU : Zk Tryz.prog (nat_lit 12):=Zf Tryz.func12 (by decide) rfl
theorem Xa : Zk Tryz.prog (nat_lit 13):=Zf Tryz.func13 (by decide) rfl
theorem XF : Zk Tryz.prog (nat_lit 14):=Zf Tryz.func14 (by decide) rfl
theorem Xz : Zk Tryz.prog (nat_lit 15):=Zf Tryz.func15 (by decide) rfl
theorem QK : Zk Tryz.prog (nat_lit 16):=Zf Tryz.func16 (by decide) rfl
theorem XG : Zk Tryz.prog (nat_lit 17):=Zf Tryz.func17 (by decide) rfl
theorem XY : Zk Tryz.prog (nat_lit 18):=Zf Tryz.func18 (by decide) rfl
theorem Q8 : Zk Tryz.prog (nat_lit 19):=Zf Tryz.func19 (by decide) rfl
theorem ZaI : Zk Tryz.prog (nat_lit 20):=Zf Tryz.func20 (by decide) rfl
theorem ZaJ : Zk Tryz.prog (nat_lit 21):=Zf Tryz.func21 (by decide) rfl
theorem Zcv : Zk Tryz.prog (nat_lit 22):=Zf Tryz.func22 (by decide) rfl
theorem ZbZ : Zk Tryz.prog (nat_lit 23):=Zf Tryz.func23 (by decide) rfl
theorem Zaq : Zk Tryz.prog (nat_lit 24):=Zf Tryz.func24 (by decide) rfl
theorem Zcw : Zk Tryz.prog (nat_lit 25):=Zf Tryz.func25 (by decide) rfl
theorem ZbG : Zk Tryz.prog (nat_lit 26):=Zf Tryz.func26 (by decide) rfl
theorem Zgd : Zk Tryz.prog (nat_lit 27):=Zf Tryz.func27 (by decide) rfl
theorem Zfl : Zk Tryz.prog (nat_lit 28):=Zf Tryz.func28 (by decide) rfl
theorem Zge : Zk Tryz.prog (nat_lit 29):=Zf Tryz.func29 (by decide) rfl
theorem Zh9 : Zk Tryz.prog (nat_lit 30):=Zf Tryz.func30 (by decide) rfl
theorem ZhA : Zk Tryz.prog (nat_lit 31):=Zf Tryz.func31 (by decide) rfl
theorem ZhB : Zk Tryz.prog (nat_lit 32):=Zf Tryz.func32 (by decide) rfl
theorem ZhC : Zk Tryz.prog (nat_lit 33):=Zf Tryz.func33 (by decide) rfl
theorem Zjk : Zk Tryz.prog (nat_lit 34):=Zf Tryz.func34 (by decide) rfl
theorem Zjl : Zk Tryz.prog (nat_lit 35):=Zf Tryz.func35 (by decide) rfl
theorem ZwR : Zk Tryz.prog (nat_lit 36):=Zf Tryz.func36 (by decide) rfl
theorem Zs3 : Zk Tryz.prog (nat_lit 37):=Zf Tryz.func37 (by decide) rfl
theorem ZwS : Zk Tryz.prog (nat_lit 38):=Zf Tryz.func38 (by decide) rfl
theorem ZlU : Zk Tryz.prog (nat_lit 39):=Zf Tryz.func39 (by decide) rfl
theorem ZoH : Zk Tryz.prog (nat_lit 40):=Zf Tryz.func40 (by decide) rfl
theorem Zs4 : Zk Tryz.prog (nat_lit 41):=Zf Tryz.func41 (by decide) rfl
theorem Zs5 : Zk Tryz.prog (nat_lit 42):=Zf Tryz.func42 (by decide) rfl
theorem Zs6 : Zk Tryz.prog (nat_lit 43):=Zf Tryz.func43 (by decide) rfl
theorem ZoI : Zk Tryz.prog (nat_lit 44):=Zf Tryz.func44 (by decide) rfl
theorem Zjm : Zk Tryz.prog (nat_lit 45):=Zf Tryz.func45 (by decide) rfl
theorem Zs7 : Zk Tryz.prog (nat_lit 46):=Zf Tryz.func46 (by decide) rfl
theorem Zs8 : Zk Tryz.prog (nat_lit 47):=Zf Tryz.func47 (by decide) rfl
theorem ZoJ : Zk Tryz.prog (nat_lit 48):=Zf Tryz.func48 (by decide) rfl
theorem Zjn : Zk Tryz.prog (nat_lit 49):=Zf Tryz.func49 (by decide) rfl
theorem ZwT : Zk Tryz.prog (nat_lit 50):=Zf Tryz.func50 (by decide) rfl
theorem Zs9 : Zk Tryz.prog (nat_lit 51):=Zf Tryz.func51 (by decide) rfl
theorem ZwU : Zk Tryz.prog (nat_lit 52):=Zf Tryz.func52 (by decide) rfl
theorem ZwV : Zk Tryz.prog (nat_lit 53):=Zf Tryz.func53 (by decide) rfl
theorem ZwW : Zk Tryz.prog (nat_lit 54):=Zf Tryz.func54 (by decide) rfl
theorem ZwX : Zk Tryz.prog (nat_lit 55):=Zf Tryz.func55 (by decide) rfl
theorem Zjo : Zk Tryz.prog (nat_lit 56):=Zf Tryz.func56 (by decide) rfl
theorem ZwY : Zk Tryz.prog (nat_lit 57):=Zf Tryz.func57 (by decide) rfl
theorem ZwZ : Zk Tryz.prog (nat_lit 58):=Zf Tryz.func58 (by decide) rfl
theorem ZzR : Zk Tryz.prog (nat_lit 59):=Zf Tryz.func59 (by decide) rfl
theorem Zxa : Zk Tryz.prog (nat_lit 60):=Zf Tryz.func60 (by decide) rfl
theorem ZzS : Zk Tryz.prog (nat_lit 61):=Zf Tryz.func61 (by decide) rfl
theorem ZsA : Zk Tryz.prog (nat_lit 62):=Zf Tryz.func62 (by decide) rfl
theorem Zxb : Zk Tryz.prog (nat_lit 63):=Zf Tryz.func63 (by decide) rfl
theorem Zxc : Zk Tryz.prog (nat_lit 64):=Zf Tryz.func64 (by decide) rfl
theorem ZzT : Zk Tryz.prog (nat_lit 65):=Zf Tryz.func65 (by decide) rfl
theorem ZoK : Zk Tryz.prog (nat_lit 66):=Zf Tryz.func66 (by decide) rfl
theorem ZzU : Zk Tryz.prog (nat_lit 67):=Zf Tryz.func67 (by decide) rfl
theorem ZoL : Zk Tryz.prog (nat_lit 68):=Zf Tryz.func68 (by decide) rfl
theorem ZzV : Zk Tryz.prog (nat_lit 69):=Zf Tryz.func69 (by decide) rfl
theorem ZsB : Zk Tryz.prog (nat_lit 70):=Zf Tryz.func70 (by decide) rfl
theorem Zxd : Zk Tryz.prog (nat_lit 71):=Zf Tryz.func71 (by decide) rfl
theorem ZsC : Zk Tryz.prog (nat_lit 72):=Zf Tryz.func72 (by decide) rfl
theorem Zgf : Zk Tryz.prog (nat_lit 73):=Zf Tryz.func73 (by decide) rfl
theorem ZsD : Zk Tryz.prog (nat_lit 74):=Zf Tryz.func74 (by decide) rfl
theorem ZsE : Zk Tryz.prog (nat_lit 75):=Zf Tryz.func75 (by decide) rfl
theorem ZzW : Zk Tryz.prog (nat_lit 76):=Zf Tryz.func76 (by decide) rfl
theorem ZoM : Zk Tryz.prog (nat_lit 77):=Zf Tryz.func77 (by decide) rfl
theorem Zxe : Zk Tryz.prog (nat_lit 78):=Zf Tryz.func78 (by decide) rfl
theorem Zxf : Zk Tryz.prog (nat_lit 79):=Zf Tryz.func79 (by decide) rfl
theorem ZlV : Zk Tryz.prog (nat_lit 80):=Zf Tryz.func80 (by decide) rfl
theorem ZoN : Zk Tryz.prog (nat_lit 81):=Zf Tryz.func81 (by decide) rfl
theorem ZsF : Zk Tryz.prog (nat_lit 82):=Zf Tryz.func82 (by decide) rfl
theorem ZoO : Zk Tryz.prog (nat_lit 85):=Zf Tryz.func85 (by decide) rfl
theorem ZoP : Zk Tryz.prog (nat_lit 86):=Zf Tryz.func86 (by decide) rfl
theorem ZsG : Zk Tryz.prog (nat_lit 87):=Zf Tryz.func87 (by decide) rfl
theorem ZzX : Zk Tryz.prog (nat_lit 88):=Zf Tryz.func88 (by decide) rfl
theorem ZzY : Zk Tryz.prog (nat_lit 90):=Zf Tryz.func90 (by decide) rfl
theorem Zxg : Zk Tryz.prog (nat_lit 91):=Zf Tryz.func91 (by decide) rfl
theorem ZzZ : Zk Tryz.prog (nat_lit 93):=Zf Tryz.func93 (by decide) rfl
theorem Zxh : Zk Tryz.prog (nat_lit 94):=Zf Tryz.func94 (by decide) rfl
theorem Z0a : Zk Tryz.prog (nat_lit 95):=Zf Tryz.func95 (by decide) rfl
theorem ZsH : Zk Tryz.prog (nat_lit 97):=Zf Tryz.func97 (by decide) rfl
theorem ZlW : Zk Tryz.prog (nat_lit 99):=Zf Tryz.func99 (by decide) rfl
theorem Zy3 : Zk Tryz.prog (nat_lit 100):=Zf Tryz.func100 (by decide) rfl
theorem Zy4 : Zk Tryz.prog (nat_lit 104):=Zf Tryz.func104 (by decide) rfl
theorem Zy5 : Zk Tryz.prog (nat_lit 105):=Zf Tryz.func105 (by decide) rfl
theorem Zy6 : Zk Tryz.prog (nat_lit 106):=Zf Tryz.func106 (by decide) rfl
theorem Zuz : Zk Tryz.prog (nat_lit 108):=Zf Tryz.func108 (by decide) rfl
theorem Zy7 : Zk Tryz.prog (nat_lit 109):=Zf Tryz.func109 (by decide) rfl
theorem Zy8 : Zk Tryz.prog (nat_lit 110):=Zf Tryz.func110 (by decide) rfl
theorem Zy9 : Zk Tryz.prog (nat_lit 111):=Zf Tryz.func111 (by decide) rfl
theorem ZyA : Zk Tryz.prog (nat_lit 112):=Zf Tryz.func112 (by decide) rfl
theorem ZyB : Zk Tryz.prog (nat_lit 113):=Zf Tryz.func113 (by decide) rfl
theorem Zaz : Zk Tryz.prog (nat_lit 114):=Zf Tryz.func114 (by decide) rfl
theorem ZkY : Zk Tryz.prog (nat_lit 115):=Zf Tryz.func115 (by decide) rfl
theorem ZyC : Zk Tryz.prog (nat_lit 116):=Zf Tryz.func116 (by decide) rfl
theorem Zu0 : Zk Tryz.prog (nat_lit 117):=Zf Tryz.func117 (by decide) rfl
theorem ZoQ : Zk Tryz.prog (nat_lit 118):=Zf Tryz.func118 (by decide) rfl
theorem Zu1 : Zk Tryz.prog (nat_lit 119):=Zf Tryz.func119 (by decide) rfl
theorem Zu2 : Zk Tryz.prog (nat_lit 120):=Zf Tryz.func120 (by decide) rfl
theorem Zi0 : Zk Tryz.prog (nat_lit 121):=Zf Tryz.func121 (by decide) rfl
theorem ZoR : Zk Tryz.prog (nat_lit 122):=Zf Tryz.func122 (by decide) rfl
theorem ZyD : Zk Tryz.prog (nat_lit 123):=Zf Tryz.func123 (by decide) rfl
theorem Zcx : Zk Tryz.prog (nat_lit 124):=Zf Tryz.func124 (by decide) rfl
theorem ZyE : Zk Tryz.prog (nat_lit 125):=Zf Tryz.func125 (by decide) rfl
theorem ZyF : Zk Tryz.prog (nat_lit 126):=Zf Tryz.func126 (by decide) rfl
theorem ZyG : Zk Tryz.prog (nat_lit 127):=Zf Tryz.func127 (by decide) rfl
theorem Zu3 : Zk Tryz.prog (nat_lit 128):=Zf Tryz.func128 (by decide) rfl
theorem ZyH : Zk Tryz.prog (nat_lit 129):=Zf Tryz.func129 (by decide) rfl
theorem ZyI : Zk Tryz.prog (nat_lit 130):=Zf Tryz.func130 (by decide) rfl
theorem Zee : Zk Tryz.prog (nat_lit 131):=Zf Tryz.func131 (by decide) rfl
theorem ZyJ : Zk Tryz.prog (nat_lit 132):=Zf Tryz.func132 (by decide) rfl
theorem ZyK : Zk Tryz.prog (nat_lit 137):=Zf Tryz.func137 (by decide) rfl
theorem ZyL : Zk Tryz.prog (nat_lit 138):=Zf Tryz.func138 (by decide) rfl
theorem Zu4 : Zk Tryz.prog (nat_lit 140):=Zf Tryz.func140 (by decide) rfl
theorem ZyM : Zk Tryz.prog (nat_lit 141):=Zf Tryz.func141 (by decide) rfl
theorem ZyN : Zk Tryz.prog (nat_lit 142):=Zf Tryz.func142 (by decide) rfl
theorem ZyO : Zk Tryz.prog (nat_lit 143):=Zf Tryz.func143 (by decide) rfl
theorem Zu5 : Zk Tryz.prog (nat_lit 144):=Zf Tryz.func144 (by decide) rfl
theorem Zu6 : Zk Tryz.prog (nat_lit 145):=Zf Tryz.func145 (by decide) rfl
theorem Zu7 : Zk Tryz.prog (nat_lit 146):=Zf Tryz.func146 (by decide) rfl
theorem ZyP : Zk Tryz.prog (nat_lit 147):=Zf Tryz.func147 (by decide) rfl
theorem Zu8 : Zk Tryz.prog (nat_lit 153):=Zf Tryz.func153 (by decide) rfl
theorem ZyQ : Zk Tryz.prog (nat_lit 154):=Zf Tryz.func154 (by decide) rfl
theorem Zu9 : Zk Tryz.prog (nat_lit 155):=Zf Tryz.func155 (by decide) rfl
theorem ZyR : Zk Tryz.prog (nat_lit 158):=Zf Tryz.func158 (by decide) rfl
theorem ZuA : Zk Tryz.prog (nat_lit 159):=Zf Tryz.func159 (by decide) rfl
theorem ZyS : Zk Tryz.prog (nat_lit 160):=Zf Tryz.func160 (by decide) rfl
theorem ZyT : Zk Tryz.prog (nat_lit 162):=Zf Tryz.func162 (by decide) rfl
theorem ZkZ : Zk Tryz.prog (nat_lit 163):=Zf Tryz.func163 (by decide) rfl
theorem ZyU : Zk Tryz.prog (nat_lit 164):=Zf Tryz.func164 (by decide) rfl
theorem Zi1 : Zk Tryz.prog (nat_lit 165):=Zf Tryz.func165 (by decide) rfl
theorem ZuB : Zk Tryz.prog (nat_lit 168):=Zf Tryz.func168 (by decide) rfl
theorem Zla : Zk Tryz.prog (nat_lit 169):=Zf Tryz.func169 (by decide) rfl
theorem ZuC : Zk Tryz.prog (nat_lit 170):=Zf Tryz.func170 (by decide) rfl
theorem ZyV : Zk Tryz.prog (nat_lit 171):=Zf Tryz.func171 (by decide) rfl
theorem ZyW : Zk Tryz.prog (nat_lit 172):=Zf Tryz.func172 (by decide) rfl
theorem ZyX : Zk Tryz.prog (nat_lit 173):=Zf Tryz.func173 (by decide) rfl
theorem ZuD : Zk Tryz.prog (nat_lit 174):=Zf Tryz.func174 (by decide) rfl
theorem ZyY : Zk Tryz.prog (nat_lit 175):=Zf Tryz.func175 (by decide) rfl
theorem ZyZ : Zk Tryz.prog (nat_lit 176):=Zf Tryz.func176 (by decide) rfl
theorem Zza : Zk Tryz.prog (nat_lit 178):=Zf Tryz.func178 (by decide) rfl
theorem ZgH : Zk Tryz.prog (nat_lit 179):=Zf Tryz.func179 (by decide) rfl
theorem Zda : Zk Tryz.prog (nat_lit 180):=Zf Tryz.func180 (by decide) rfl
theorem ZuE : Zk Tryz.prog (nat_lit 181):=Zf Tryz.func181 (by decide) rfl
theorem Zzb : Zk Tryz.prog (nat_lit 184):=Zf Tryz.func184 (by decide) rfl
theorem Zzc : Zk Tryz.prog (nat_lit 186):=Zf Tryz.func186 (by decide) rfl
theorem Zzd : Zk Tryz.prog (nat_lit 187):=Zf Tryz.func187 (by decide) rfl
theorem Zze : Zk Tryz.prog (nat_lit 188):=Zf Tryz.func188 (by decide) rfl
theorem Zzf : Zk Tryz.prog (nat_lit 189):=Zf Tryz.func189 (by decide) rfl
theorem Zzg : Zk Tryz.prog (nat_lit 191):=Zf Tryz.func191 (by decide) rfl
theorem ZuF : Zk Tryz.prog (nat_lit 194):=Zf Tryz.func194 (by decide) rfl
theorem ZuG : Zk Tryz.prog (nat_lit 195):=Zf Tryz.func195 (by decide) rfl
theorem Zzh : Zk Tryz.prog (nat_lit 196):=Zf Tryz.func196 (by decide) rfl
theorem Zzi : Zk Tryz.prog (nat_lit 197):=Zf Tryz.func197 (by decide) rfl
theorem Zzj : Zk Tryz.prog (nat_lit 198):=Zf Tryz.func198 (by decide) rfl
theorem Zzk : Zk Tryz.prog (nat_lit 199):=Zf Tryz.func199 (by decide) rfl
theorem ZuH : Zk Tryz.prog (nat_lit 210):=Zf Tryz.func210 (by decide) rfl
theorem Zzl : Zk Tryz.prog (nat_lit 213):=Zf Tryz.func213 (by decide) rfl
theorem Zfm : Zk Tryz.prog (nat_lit 214):=Zf Tryz.func214 (by decide) rfl
theorem Zzm : Zk Tryz.prog (nat_lit 226):=Zf Tryz.func226 (by decide) rfl
theorem Zdb : Zk Tryz.prog (nat_lit 237):=Zf Tryz.func237 (by decide) rfl
theorem ZgI : Zk Tryz.prog (nat_lit 238):=Zf Tryz.func238 (by decide) rfl
theorem ZuI : Zk Tryz.prog (nat_lit 239):=Zf Tryz.func239 (by decide) rfl
theorem Zzn : Zk Tryz.prog (nat_lit 265):=Zf Tryz.func265 (by decide) rfl
theorem Zzo : Zk Tryz.prog (nat_lit 266):=Zf Tryz.func266 (by decide) rfl
theorem Zzp : Tryz.prog.eqGuardType Tryz.prog.depth (nat_lit 35) = false:=by kernel_rfl
set_option maxHeartbeats 1000000 in
theorem ZsI (x y : Rect) (w : World) : (Op.equalIn 10000 (nat_lit 35) (.agg #[S x.d.a,S x.d.b,S x.x.a,S x.x.b]) (.agg #[S y.d.a,S y.d.b,S y.x.a,S y.x.b])).run Tryz.prog w = .ok (decide (x = y)) w:=by
 have u3:=Tryz.underlying3
 have a3:=Tryz.isAgg3
 have z3:=Tryz.sizeOf3
 have u33:=Tryz.underlying33
 have a33:=Tryz.isAgg33
 have z33:=Tryz.sizeOf33
 have e33 : ∀ d xs ys,(Op.equalIn (d+1) (nat_lit 33) (.agg xs) (.agg ys)).run Tryz.prog w = (Op.eqFields d xs ys (Tryz.prog.fieldsOf (nat_lit 33)).toList).run Tryz.prog w:=fun d xs ys=>run_equalIn_agg w d (nat_lit 33) xs ys (by kernel_rfl) (by kernel_rfl)
 rw [show (10000 : Nat) = 9999 + 1 from U,run_equalIn_agg w 9999 (nat_lit 35) _ _ (by kernel_rfl) (by kernel_rfl)]
 simp only [Program.fieldsOf,Tryz.underlying35,Za] at e33 ⊢
 go_simp
 skip
 obtain ⟨⟨x1,x2⟩,⟨x3,x4⟩⟩:=x
 obtain ⟨⟨y1,y2⟩,⟨y3,y4⟩⟩:=y
 by_cases h1 : x1 = y1 <;> by_cases h2 : x2 = y2 <;> by_cases h3 : x3 = y3 <;> by_cases h4 : x4 = y4 <;> simp [h1,h2,h3,h4]
theorem Zlb : Tryz.prog.eqGuardType Tryz.prog.depth (nat_lit 33) = false:=by kernel_rfl
set_option maxHeartbeats 1000000 in
theorem Zfn (x y : Span) (w : World) : (Op.equalIn 10000 (nat_lit 33) (.agg #[S x.a,S x.b]) (.agg #[S y.a,S y.b])).run Tryz.prog w = .ok (decide (x = y)) w:=by
 have u3:=Tryz.underlying3
 have a3:=Tryz.isAgg3
 have z3:=Tryz.sizeOf3
 rw [show (10000 : Nat) = 9999 + 1 from U,run_equalIn_agg w 9999 (nat_lit 33) _ _ (by kernel_rfl) (by kernel_rfl)]
 simp only [Program.fieldsOf,Tryz.underlying33,Za]
 go_simp
 skip
 obtain ⟨x1,x2⟩:=x
 obtain ⟨y1,y2⟩:=y
 by_cases h1 : x1 = y1 <;> by_cases h2 : x2 = y2 <;> simp [h1,h2]
theorem Zbf : Tryz.prog.eqGuardType Tryz.prog.depth (nat_lit 58) = false:=by kernel_rfl
set_option maxHeartbeats 1000000 in
theorem QC (x y : Val) (w : World) : (Op.equalIn 10000 (nat_lit 58) (.agg #[S x.k,S x.n,Za x.s]) (.agg #[S y.k,S y.n,Za y.s])).run Tryz.prog w = .ok (decide (x = y)) w:=by
 have u3:=Tryz.underlying3
 have a3:=Tryz.isAgg3
 have z3:=Tryz.sizeOf3
 have u9:=Tryz.underlying9
 have a9:=Tryz.isAgg9
 have z9:=Tryz.sizeOf9
 rw [show (10000 : Nat) = 9999 + 1 from U,run_equalIn_agg w 9999 (nat_lit 58) _ _ (by kernel_rfl) (by kernel_rfl)]
 simp only [Program.fieldsOf,Tryz.underlying58,Za]
 go_simp
 skip
 obtain ⟨x1,x2,x3⟩:=x
 obtain ⟨y1,y2,y3⟩:=y
 by_cases h1 : x1 = y1 <;> by_cases h2 : x2 = y2 <;> by_cases h3 : x3 = y3 <;> simp [h1,h2,h3]
theorem mixed : Tryz.prog.follows .mixedOrders = true:=by kernel_rfl
theorem dr {N id : Nat} {Q : Exit → Env → World → Prop} {ρ : Env} {w w0 : World} {ops : List Oper} {X : List Nat} {G0 G : GH} {L : Own} (T : List (Nat × Bool)) (hv : List (Nat × Value)) (hS : (St w0 X G0 G L) w) (ho : ZdL Tryz.prog ops (St w0 X G0 G L) (T.map (·.1)) hv (XK ft ops (T.map (·.1)) hv 0 ops ρ) 0 ops)
  (hT : ∀ w,(St w0 X G0 G L) w → goT ft ops (St w0 X G0 G L) Q T (XK ft ops (T.map (·.1)) hv 0 ops ρ) w) (hN : ops.all (Zcj N) = true:=by kernel_rfl) (hp : ZkT ops (Zag ops (T.map (·.1))) = true:=by kernel_rfl)
  (hn : T.map (fun x=>QZ (Zag ops (T.map (·.1))) x.1) = T.map (·.2):=by kernel_rfl) (ha : Zcl ft ops (T.map (·.1)) hv (XK ft ops (T.map (·.1)) hv 0 ops ρ) 0 ops = Zcm (T.map (·.1)) hv (XK ft ops (T.map (·.1)) hv 0 ops ρ) 0 ops:=by exact U) : DR Tryz.prog N id ops.toArray Q ρ w:=
 DR.go _ T hv mixed hN hp hn ha hS.draw ho hT
theorem drT {N id : Nat} {Q : Exit → Env → World → Prop} {ρ : Env} {w w0 : World} {ops : List Oper} {X : List Nat} {G0 G : GH} {L : Own} (T : List Nat) (hv : List (Nat × Value)) (hS : (St w0 X G0 G L) w) (ho : ZdL Tryz.prog ops (St w0 X G0 G L) T hv (XK ft ops T hv 0 ops ρ) 0 ops)
  (hT : ∀ w,(St w0 X G0 G L) w → TG Tryz.prog ops.toArray (Zag ops T) (St w0 X G0 G L) Q T.length T (XK ft ops T hv 0 ops ρ) w) (hN : ops.all (Zcj N) = true:=by kernel_rfl) (hp : Zid ops (Zag ops T) = true:=by kernel_rfl)
  (ha : Zcl ft ops T hv (XK ft ops T hv 0 ops ρ) 0 ops = Zcm T hv (XK ft ops T hv 0 ops ρ) 0 ops:=by exact U) : DR Tryz.prog N id ops.toArray Q ρ w:=
 DR.goG _ T hv mixed hN hp ha hS.draw ho hT
theorem drD {N id : Nat} {Q : Exit → Env → World → Prop} {ρ : Env} {w : World} {ops : List Oper} {C : World → Prop} (hD : ∀ w,C w → C { w with drawn:=w.drawn + 1 }) (T : List (Nat × Bool)) (hv : List (Nat × Value)) (hS : C w) (ho : ZdL Tryz.prog ops C (T.map (·.1)) hv (XK ft ops (T.map (·.1)) hv 0 ops ρ) 0 ops)
  (hT : ∀ w,C w → goT ft ops C Q T (XK ft ops (T.map (·.1)) hv 0 ops ρ) w) (hN : ops.all (Zcj N) = true:=by kernel_rfl) (hp : ZkT ops (Zag ops (T.map (·.1))) = true:=by kernel_rfl)
  (hn : T.map (fun x=>QZ (Zag ops (T.map (·.1))) x.1) = T.map (·.2):=by kernel_rfl) (ha : Zcl ft ops (T.map (·.1)) hv (XK ft ops (T.map (·.1)) hv 0 ops ρ) 0 ops = Zcm (T.map (·.1)) hv (XK ft ops (T.map (·.1)) hv 0 ops ρ) 0 ops:=by exact U) : DR Tryz.prog N id ops.toArray Q ρ w:=
 DR.go _ T hv mixed hN hp hn ha (hD _ hS) ho hT
end Go.Civ
