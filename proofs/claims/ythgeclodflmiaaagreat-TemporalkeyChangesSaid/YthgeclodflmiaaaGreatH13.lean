/- Lemmas. -/
import Derived.Test.YthgeclodflmiaaaGreatH06
import Derived.Test.YthgeclodflmiaaaGreatH11
import Derived.Test.YthgeclodflmiaaaGreatProg
import Derived.KernelRfl
import Derived.WalkKit
set_option linter.unusedVariables false
set_option linter.unusedSimpArgs false
set_option maxRecDepth 100000
set_option maxHeartbeats 4000000
namespace Go.Civ
open Go.Proofs
theorem Zp : Yb Tryz.prog (nat_lit 3) = some ⟨false,1,8, .int .i64 0⟩:=by kernel_rfl
theorem ti4 : Yb Tryz.prog (nat_lit 4) = some ⟨false,1,1, .bool false⟩:=by kernel_rfl
theorem ti5 : Yb Tryz.prog (nat_lit 5) = some ⟨false,1,1, .int .u8 0⟩:=by kernel_rfl
theorem Yj : Yb Tryz.prog (nat_lit 9) = some ⟨false,1,16,Zb []⟩:=by kernel_rfl
theorem Zc2 : Yb Tryz.prog (nat_lit 22) = some ⟨false,1,24, .slice none 0 0⟩:=by kernel_rfl
theorem Zqi : Yb Tryz.prog (nat_lit 23) = some ⟨false,1,24, .slice none 0 0⟩:=by kernel_rfl
theorem ZbX : Yb Tryz.prog (nat_lit 25) = some ⟨true,4,72, .agg #[Zb [], .slice none 0 0, .int .i64 0, .slice none 0 0]⟩:=by kernel_rfl
theorem Xg : Yb Tryz.prog (nat_lit 26) = some ⟨false,1,24, .slice none 0 0⟩:=by kernel_rfl
theorem Zm : Yb Tryz.prog (nat_lit 28) = some ⟨true,6,104, .agg #[Zb [], .slice none 0 0, .int .i64 0, .slice none 0 0, .slice none 0 0, .int .i64 0]⟩:=by kernel_rfl
theorem ZH : Yb Tryz.prog (nat_lit 31) = some ⟨false,1,24, .slice none 0 0⟩:=by kernel_rfl
theorem Zu : Yb Tryz.prog (nat_lit 33) = some ⟨true,2,16, .agg #[.int .i64 0, .int .i64 0]⟩:=by kernel_rfl
theorem Zb8 : Yb Tryz.prog (nat_lit 35) = some ⟨true,4,32, .agg #[.int .i64 0, .int .i64 0, .int .i64 0, .int .i64 0]⟩:=by kernel_rfl
theorem Zt : Yb Tryz.prog (nat_lit 37) = some ⟨true,5,56, .agg #[.slice none 0 0, .int .i64 0, .int .i64 0, .int .i64 0, .int .i64 0]⟩:=by kernel_rfl
theorem Zqj : Yb Tryz.prog (nat_lit 42) = some ⟨false,1,8, .int .i64 0⟩:=by kernel_rfl
theorem ZmN : Yb Tryz.prog (nat_lit 48) = some ⟨false,1,24, .slice none 0 0⟩:=by kernel_rfl
theorem ZmO : Yb Tryz.prog (nat_lit 50) = some ⟨true,2,40, .agg #[.slice none 0 0,Zb []]⟩:=by kernel_rfl
theorem Z3 : Yb Tryz.prog (nat_lit 58) = some ⟨true,3,32, .agg #[.int .i64 0, .int .i64 0,Zb []]⟩:=by kernel_rfl
theorem ZmP : Yb Tryz.prog (nat_lit 71) = some ⟨false,1,24, .slice none 0 0⟩:=by kernel_rfl
theorem ZmQ : Yb Tryz.prog (nat_lit 73) = some ⟨true,3,40, .agg #[.slice none 0 0, .int .i64 0, .int .i64 0]⟩:=by kernel_rfl
theorem Ze4 : Yb Tryz.prog (nat_lit 85) = some ⟨false,1,24, .slice none 0 0⟩:=by kernel_rfl
theorem Xp : Yb Tryz.prog (nat_lit 87) = some ⟨true,7,96, .agg #[.int .i64 0,Zb [],Zb [], .int .i64 0, .int .i64 0,Zb [], .slice none 0 0]⟩:=by kernel_rfl
theorem ZmR : Yb Tryz.prog (nat_lit 88) = some ⟨false,1,24, .slice none 0 0⟩:=by kernel_rfl
theorem Zqk : Yb Tryz.prog (nat_lit 90) = some ⟨false,1,8, .pointer none⟩:=by kernel_rfl
theorem Zk3 : Yb Tryz.prog (nat_lit 92) = some ⟨true,13,176, .agg #[.int .i64 0, .int .i64 0, .slice none 0 0, .int .i64 0,Zb [],Zb [], .int .i64 0, .int .i64 0,Zb [], .slice none 0 0, .slice none 0 0, .int .i64 0, .int .i64 0]⟩:=by kernel_rfl
theorem Xr : Yb Tryz.prog (nat_lit 105) = some ⟨true,3,40, .agg #[.int .i64 0, .int .i64 0, .slice none 0 0]⟩:=by kernel_rfl
theorem Xi : Yb Tryz.prog (nat_lit 130) = some ⟨true,2,24, .agg #[Zb [], .int .i64 0]⟩:=by kernel_rfl
theorem XI : Yb Tryz.prog (nat_lit 136) = some ⟨true,2,48, .agg #[.slice none 0 0, .slice none 0 0]⟩:=by kernel_rfl
theorem Zw7 : fieldsOf Tryz.prog (nat_lit 25) = some [(0,1),(1,1),(2,1),(3,1)]:=by kernel_rfl
theorem XU : fieldsOf Tryz.prog (nat_lit 28) = some [(0,4),(4,1),(5,1)]:=by kernel_rfl
theorem X6 : fieldsOf Tryz.prog (nat_lit 33) = some [(0,1),(1,1)]:=by kernel_rfl
theorem Zdc : fieldsOf Tryz.prog (nat_lit 35) = some [(0,2),(2,2)]:=by kernel_rfl
theorem Zbr : fieldsOf Tryz.prog (nat_lit 37) = some [(0,1),(1,4)]:=by kernel_rfl
theorem Zql : fieldsOf Tryz.prog (nat_lit 58) = some [(0,1),(1,1),(2,1)]:=by kernel_rfl
theorem Zw8 : fieldsOf Tryz.prog (nat_lit 73) = some [(0,1),(1,2)]:=by kernel_rfl
theorem Zw9 : fieldsOf Tryz.prog (nat_lit 92) = some [(0,1),(1,1),(2,1),(3,7),(10,1),(11,2)]:=by kernel_rfl
theorem ZrU : fieldsOf Tryz.prog (nat_lit 105) = some [(0,1),(1,1),(2,1)]:=by kernel_rfl
theorem ZmS : fieldsOf Tryz.prog (nat_lit 130) = some [(0,1),(1,1)]:=by kernel_rfl
theorem Zv1 : fieldsOf Tryz.prog (nat_lit 136) = some [(0,1),(1,1)]:=by kernel_rfl
def ft : FTab Tryz.prog:=⟨[(nat_lit 25,[(0,1),(1,1),(2,1),(3,1)]),(nat_lit 28,[(0,4),(4,1),(5,1)]),(nat_lit 33,[(0,1),(1,1)]),(nat_lit 35,[(0,2),(2,2)]),(nat_lit 37,[(0,1),(1,4)]),(nat_lit 50,[(0,1),(1,1)]),(nat_lit 58,[(0,1),(1,1),(2,1)]),(nat_lit 73,[(0,1),(1,2)]),(nat_lit 87,[(0,1),(1,1),(2,1),(3,3),(6,1)]),(nat_lit 92,[(0,1),(1,1),(2,1),(3,7),(10,1),(11,2)]),(nat_lit 105,[(0,1),(1,1),(2,1)]),(nat_lit 130,[(0,1),(1,1)]),(nat_lit 136,[(0,1),(1,1)]),(nat_lit 139,[(0,6),(6,6),(12,2)])],fun x hx=>by simp only [List.mem_cons,List.not_mem_nil,or_false] at hx; rcases hx with rfl | rfl | rfl | rfl | rfl | rfl | rfl | rfl | rfl | rfl | rfl | rfl | rfl | rfl <;> kernel_rfl⟩
theorem XF : Tryz.prog.underlying (nat_lit 3) = some (.int .i64):=by kernel_rfl
theorem ul4 : Tryz.prog.underlying (nat_lit 4) = some (.bool):=by kernel_rfl
theorem ul5 : Tryz.prog.underlying (nat_lit 5) = some (.int .u8):=by kernel_rfl
theorem ul9 : Tryz.prog.underlying (nat_lit 9) = some (.string):=by kernel_rfl
theorem Qx : Tryz.prog.underlying (nat_lit 22) = some (.slice (nat_lit 130)):=by kernel_rfl
theorem ZmT : Tryz.prog.underlying (nat_lit 23) = some (.slice (nat_lit 50)):=by kernel_rfl
theorem Yq : Tryz.prog.underlying (nat_lit 26) = some (.slice (nat_lit 37)):=by kernel_rfl
theorem Yd : Tryz.prog.underlying (nat_lit 31) = some (.slice (nat_lit 58)):=by kernel_rfl
theorem Zb9 : Tryz.prog.underlying (nat_lit 48) = some (.slice (nat_lit 9)):=by kernel_rfl
theorem Qh : Tryz.prog.underlying (nat_lit 51) = some (.slice (nat_lit 31)):=by kernel_rfl
theorem ZmU : Tryz.prog.underlying (nat_lit 63) = some (.slice (nat_lit 73)):=by kernel_rfl
theorem YT : Tryz.prog.underlying (nat_lit 71) = some (.slice (nat_lit 33)):=by kernel_rfl
theorem Zc3 : Tryz.prog.underlying (nat_lit 85) = some (.slice (nat_lit 87)):=by kernel_rfl
theorem Zic : Tryz.prog.underlying (nat_lit 88) = some (.slice (nat_lit 4)):=by kernel_rfl
theorem Yz : Tryz.prog.underlying (nat_lit 113) = some (.slice (nat_lit 3)):=by kernel_rfl
theorem Zav : Tryz.prog.underlying (nat_lit 133) = some (.slice (nat_lit 136)):=by kernel_rfl
theorem ZmV : Tryz.prog.underlying (nat_lit 160) = some (.slice (nat_lit 105)):=by kernel_rfl
theorem ZmW : Tryz.prog.underlying (nat_lit 176) = some (.slice (nat_lit 42)):=by kernel_rfl
theorem ZrV : Tryz.prog.underlying (nat_lit 181) = some (.map (nat_lit 9) (nat_lit 3)):=by kernel_rfl
theorem ZrW : Tryz.prog.underlying (nat_lit 207) = some (.int .u64):=by kernel_rfl
theorem ZrX : Tryz.prog.underlying (nat_lit 220) = some (.slice (nat_lit 5)):=by kernel_rfl
theorem ZrY : Tryz.prog.underlying (nat_lit 245) = some (.int .u64):=by kernel_rfl
theorem QQ : Tryz.prog.underlying (nat_lit 262) = some (.map (nat_lit 3) (nat_lit 3)):=by kernel_rfl
theorem Zqm : TSl Tryz.prog (nat_lit 22) (nat_lit 130) ⟨true,2,24, .agg #[Zb [], .int .i64 0]⟩:=⟨Qx,Xi⟩
theorem Y4 : TSl Tryz.prog (nat_lit 26) (nat_lit 37) ⟨true,5,56, .agg #[.slice none 0 0, .int .i64 0, .int .i64 0, .int .i64 0, .int .i64 0]⟩:=⟨Yq,Zt⟩
theorem Zk4 : TSl Tryz.prog (nat_lit 31) (nat_lit 58) ⟨true,3,32, .agg #[.int .i64 0, .int .i64 0,Zb []]⟩:=⟨Yd,Z3⟩
theorem ZmX : TSl Tryz.prog (nat_lit 48) (nat_lit 9) ⟨false,1,16,Zb []⟩:=⟨Zb9,Yj⟩
theorem Q5 : TSl Tryz.prog (nat_lit 51) (nat_lit 31) ⟨false,1,24, .slice none 0 0⟩:=⟨Qh,ZH⟩
theorem Zuh : TSl Tryz.prog (nat_lit 63) (nat_lit 73) ⟨true,3,40, .agg #[.slice none 0 0, .int .i64 0, .int .i64 0]⟩:=⟨ZmU,ZmQ⟩
theorem YO : TSl Tryz.prog (nat_lit 71) (nat_lit 33) ⟨true,2,16, .agg #[.int .i64 0, .int .i64 0]⟩:=⟨YT,Zu⟩
theorem YU : TSl Tryz.prog (nat_lit 113) (nat_lit 3) ⟨false,1,8, .int .i64 0⟩:=⟨Yz,Zp⟩
theorem ZrZ : TSl Tryz.prog (nat_lit 133) (nat_lit 136) ⟨true,2,48, .agg #[.slice none 0 0, .slice none 0 0]⟩:=⟨Zav,XI⟩
theorem Zdz : TSl Tryz.prog (nat_lit 160) (nat_lit 105) ⟨true,3,40, .agg #[.int .i64 0, .int .i64 0, .slice none 0 0]⟩:=⟨ZmV,Xr⟩
theorem Zsa : TSl Tryz.prog (nat_lit 176) (nat_lit 42) ⟨false,1,8, .int .i64 0⟩:=⟨ZmW,Zqj⟩
theorem Zcj : TSl Tryz.prog (nat_lit 220) (nat_lit 5) ⟨false,1,1, .int .u8 0⟩:=⟨ZrX,ti5⟩
theorem YD : Zh Tryz.prog (nat_lit 11):=Ze Tryz.func11 (by decide) rfl
theorem YW : Zh Tryz.prog (nat_lit 12):=Ze Tryz.func12 (by decide) rfl
theorem Xj : Zh Tryz.prog (nat_lit 13):=Ze Tryz.func13 (by decide) rfl
theorem XD : Zh Tryz.prog (nat_lit 14):=Ze Tryz.func14 (by decide) rfl
theorem X7 : Zh Tryz.prog (nat_lit 15):=Ze Tryz.func15 (by decide) rfl
theorem Qi : Zh Tryz.prog (nat_lit 16):=Ze Tryz.func16 (by decide) rfl
theorem Qd : Zh Tryz.prog (nat_lit 17):=Ze Tryz.func17 (by decide) rfl
theorem Qn : Zh Tryz.prog (nat_lit 18):=Ze Tryz.func18 (by decide) rfl
theorem Q6 : Zh Tryz.prog (nat_lit 19):=Ze Tryz.func19 (by decide) rfl
theorem Zag : Zh Tryz.prog (nat_lit 20):=Ze Tryz.func20 (by decide) rfl
theorem Zah : Zh Tryz.prog (nat_lit 21):=Ze Tryz.func21 (by decide) rfl
theorem ZdM : Zh Tryz.prog (nat_lit 22):=Ze Tryz.func22 (by decide) rfl
theorem Zdd : Zh Tryz.prog (nat_lit 23):=Ze Tryz.func23 (by decide) rfl
theorem Zbs : Zh Tryz.prog (nat_lit 24):=Ze Tryz.func24 (by decide) rfl
theorem Zfq : Zh Tryz.prog (nat_lit 25):=Ze Tryz.func25 (by decide) rfl
theorem Zde : Zh Tryz.prog (nat_lit 26):=Ze Tryz.func26 (by decide) rfl
theorem Zg8 : Zh Tryz.prog (nat_lit 27):=Ze Tryz.func27 (by decide) rfl
theorem Zqn : Zh Tryz.prog (nat_lit 28):=Ze Tryz.func28 (by decide) rfl
theorem Zqo : Zh Tryz.prog (nat_lit 29):=Ze Tryz.func29 (by decide) rfl
theorem Zqp : Zh Tryz.prog (nat_lit 30):=Ze Tryz.func30 (by decide) rfl
theorem Zqq : Zh Tryz.prog (nat_lit 31):=Ze Tryz.func31 (by decide) rfl
theorem Zqr : Zh Tryz.prog (nat_lit 32):=Ze Tryz.func32 (by decide) rfl
theorem Zqs : Zh Tryz.prog (nat_lit 33):=Ze Tryz.func33 (by decide) rfl
theorem Zqt : Zh Tryz.prog (nat_lit 34):=Ze Tryz.func34 (by decide) rfl
theorem Zui : Zh Tryz.prog (nat_lit 35):=Ze Tryz.func35 (by decide) rfl
theorem Zfr : Zh Tryz.prog (nat_lit 36):=Ze Tryz.func36 (by decide) rfl
theorem Zfs : Zh Tryz.prog (nat_lit 37):=Ze Tryz.func37 (by decide) rfl
theorem Zft : Zh Tryz.prog (nat_lit 38):=Ze Tryz.func38 (by decide) rfl
theorem Zk5 : Zh Tryz.prog (nat_lit 39):=Ze Tryz.func39 (by decide) rfl
theorem Zqu : Zh Tryz.prog (nat_lit 40):=Ze Tryz.func40 (by decide) rfl
theorem Zuj : Zh Tryz.prog (nat_lit 41):=Ze Tryz.func41 (by decide) rfl
theorem Zuk : Zh Tryz.prog (nat_lit 42):=Ze Tryz.func42 (by decide) rfl
theorem ZmY : Zh Tryz.prog (nat_lit 43):=Ze Tryz.func43 (by decide) rfl
theorem ZmZ : Zh Tryz.prog (nat_lit 44):=Ze Tryz.func44 (by decide) rfl
theorem Zna : Zh Tryz.prog (nat_lit 45):=Ze Tryz.func45 (by decide) rfl
theorem Zul : Zh Tryz.prog (nat_lit 46):=Ze Tryz.func46 (by decide) rfl
theorem Zqv : Zh Tryz.prog (nat_lit 47):=Ze Tryz.func47 (by decide) rfl
theorem Zum : Zh Tryz.prog (nat_lit 48):=Ze Tryz.func48 (by decide) rfl
theorem Zid : Zh Tryz.prog (nat_lit 49):=Ze Tryz.func49 (by decide) rfl
theorem Zqw : Zh Tryz.prog (nat_lit 50):=Ze Tryz.func50 (by decide) rfl
theorem Zqx : Zh Tryz.prog (nat_lit 51):=Ze Tryz.func51 (by decide) rfl
theorem Zun : Zh Tryz.prog (nat_lit 52):=Ze Tryz.func52 (by decide) rfl
theorem Zuo : Zh Tryz.prog (nat_lit 53):=Ze Tryz.func53 (by decide) rfl
theorem Zup : Zh Tryz.prog (nat_lit 54):=Ze Tryz.func54 (by decide) rfl
theorem Zuq : Zh Tryz.prog (nat_lit 55):=Ze Tryz.func55 (by decide) rfl
theorem Zie : Zh Tryz.prog (nat_lit 56):=Ze Tryz.func56 (by decide) rfl
theorem Zur : Zh Tryz.prog (nat_lit 57):=Ze Tryz.func57 (by decide) rfl
theorem Zqy : Zh Tryz.prog (nat_lit 58):=Ze Tryz.func58 (by decide) rfl
theorem ZwA : Zh Tryz.prog (nat_lit 59):=Ze Tryz.func59 (by decide) rfl
theorem Zus : Zh Tryz.prog (nat_lit 60):=Ze Tryz.func60 (by decide) rfl
theorem ZwB : Zh Tryz.prog (nat_lit 61):=Ze Tryz.func61 (by decide) rfl
theorem Zqz : Zh Tryz.prog (nat_lit 62):=Ze Tryz.func62 (by decide) rfl
theorem Zut : Zh Tryz.prog (nat_lit 63):=Ze Tryz.func63 (by decide) rfl
theorem Zuu : Zh Tryz.prog (nat_lit 64):=Ze Tryz.func64 (by decide) rfl
theorem ZwC : Zh Tryz.prog (nat_lit 65):=Ze Tryz.func65 (by decide) rfl
theorem Znb : Zh Tryz.prog (nat_lit 66):=Ze Tryz.func66 (by decide) rfl
theorem ZwD : Zh Tryz.prog (nat_lit 67):=Ze Tryz.func67 (by decide) rfl
theorem Zuv : Zh Tryz.prog (nat_lit 68):=Ze Tryz.func68 (by decide) rfl
theorem ZwE : Zh Tryz.prog (nat_lit 69):=Ze Tryz.func69 (by decide) rfl
theorem ZwF : Zh Tryz.prog (nat_lit 70):=Ze Tryz.func70 (by decide) rfl
theorem ZwG : Zh Tryz.prog (nat_lit 71):=Ze Tryz.func71 (by decide) rfl
theorem Zq0 : Zh Tryz.prog (nat_lit 72):=Ze Tryz.func72 (by decide) rfl
theorem Ze5 : Zh Tryz.prog (nat_lit 73):=Ze Tryz.func73 (by decide) rfl
theorem Zuw : Zh Tryz.prog (nat_lit 74):=Ze Tryz.func74 (by decide) rfl
theorem Zq1 : Zh Tryz.prog (nat_lit 75):=Ze Tryz.func75 (by decide) rfl
theorem ZwH : Zh Tryz.prog (nat_lit 76):=Ze Tryz.func76 (by decide) rfl
theorem Zk6 : Zh Tryz.prog (nat_lit 77):=Ze Tryz.func77 (by decide) rfl
theorem Zux : Zh Tryz.prog (nat_lit 78):=Ze Tryz.func78 (by decide) rfl
theorem Zq2 : Zh Tryz.prog (nat_lit 79):=Ze Tryz.func79 (by decide) rfl
theorem Zk7 : Zh Tryz.prog (nat_lit 80):=Ze Tryz.func80 (by decide) rfl
theorem Znc : Zh Tryz.prog (nat_lit 81):=Ze Tryz.func81 (by decide) rfl
theorem Zuy : Zh Tryz.prog (nat_lit 82):=Ze Tryz.func82 (by decide) rfl
theorem Znd : Zh Tryz.prog (nat_lit 85):=Ze Tryz.func85 (by decide) rfl
theorem Zne : Zh Tryz.prog (nat_lit 86):=Ze Tryz.func86 (by decide) rfl
theorem Zq3 : Zh Tryz.prog (nat_lit 87):=Ze Tryz.func87 (by decide) rfl
theorem ZwI : Zh Tryz.prog (nat_lit 88):=Ze Tryz.func88 (by decide) rfl
theorem Zuz : Zh Tryz.prog (nat_lit 97):=Ze Tryz.func97 (by decide) rfl
theorem Zk8 : Zh Tryz.prog (nat_lit 99):=Ze Tryz.func99 (by decide) rfl
theorem Zv2 : Zh Tryz.prog (nat_lit 100):=Ze Tryz.func100 (by decide) rfl
theorem Zv3 : Zh Tryz.prog (nat_lit 104):=Ze Tryz.func104 (by decide) rfl
theorem Zv4 : Zh Tryz.prog (nat_lit 105):=Ze Tryz.func105 (by decide) rfl
theorem Zsb : Zh Tryz.prog (nat_lit 106):=Ze Tryz.func106 (by decide) rfl
theorem Zsc : Zh Tryz.prog (nat_lit 107):=Ze Tryz.func107 (by decide) rfl
theorem Zv5 : Zh Tryz.prog (nat_lit 108):=Ze Tryz.func108 (by decide) rfl
theorem Zv6 : Zh Tryz.prog (nat_lit 112):=Ze Tryz.func112 (by decide) rfl
theorem Zv7 : Zh Tryz.prog (nat_lit 113):=Ze Tryz.func113 (by decide) rfl
theorem Zaw : Zh Tryz.prog (nat_lit 114):=Ze Tryz.func114 (by decide) rfl
theorem ZjA : Zh Tryz.prog (nat_lit 115):=Ze Tryz.func115 (by decide) rfl
theorem Zv8 : Zh Tryz.prog (nat_lit 116):=Ze Tryz.func116 (by decide) rfl
theorem Znf : Zh Tryz.prog (nat_lit 118):=Ze Tryz.func118 (by decide) rfl
theorem Zsd : Zh Tryz.prog (nat_lit 119):=Ze Tryz.func119 (by decide) rfl
theorem Zse : Zh Tryz.prog (nat_lit 120):=Ze Tryz.func120 (by decide) rfl
theorem Zv9 : Zh Tryz.prog (nat_lit 121):=Ze Tryz.func121 (by decide) rfl
theorem Zng : Zh Tryz.prog (nat_lit 122):=Ze Tryz.func122 (by decide) rfl
theorem ZvA : Zh Tryz.prog (nat_lit 123):=Ze Tryz.func123 (by decide) rfl
theorem Zax : Zh Tryz.prog (nat_lit 124):=Ze Tryz.func124 (by decide) rfl
theorem ZvB : Zh Tryz.prog (nat_lit 125):=Ze Tryz.func125 (by decide) rfl
theorem ZvC : Zh Tryz.prog (nat_lit 126):=Ze Tryz.func126 (by decide) rfl
theorem ZvD : Zh Tryz.prog (nat_lit 127):=Ze Tryz.func127 (by decide) rfl
theorem Zsf : Zh Tryz.prog (nat_lit 128):=Ze Tryz.func128 (by decide) rfl
theorem ZvE : Zh Tryz.prog (nat_lit 129):=Ze Tryz.func129 (by decide) rfl
theorem ZvF : Zh Tryz.prog (nat_lit 130):=Ze Tryz.func130 (by decide) rfl
theorem Zd0 : Zh Tryz.prog (nat_lit 131):=Ze Tryz.func131 (by decide) rfl
theorem ZvG : Zh Tryz.prog (nat_lit 132):=Ze Tryz.func132 (by decide) rfl
theorem ZvH : Zh Tryz.prog (nat_lit 137):=Ze Tryz.func137 (by decide) rfl
theorem ZvI : Zh Tryz.prog (nat_lit 138):=Ze Tryz.func138 (by decide) rfl
theorem ZvJ : Zh Tryz.prog (nat_lit 140):=Ze Tryz.func140 (by decide) rfl
theorem ZvK : Zh Tryz.prog (nat_lit 145):=Ze Tryz.func145 (by decide) rfl
theorem ZvL : Zh Tryz.prog (nat_lit 146):=Ze Tryz.func146 (by decide) rfl
theorem Zsg : Zh Tryz.prog (nat_lit 153):=Ze Tryz.func153 (by decide) rfl
theorem ZvM : Zh Tryz.prog (nat_lit 154):=Ze Tryz.func154 (by decide) rfl
theorem Zsh : Zh Tryz.prog (nat_lit 155):=Ze Tryz.func155 (by decide) rfl
theorem ZvN : Zh Tryz.prog (nat_lit 158):=Ze Tryz.func158 (by decide) rfl
theorem Znh : Zh Tryz.prog (nat_lit 159):=Ze Tryz.func159 (by decide) rfl
theorem Zsi : Zh Tryz.prog (nat_lit 160):=Ze Tryz.func160 (by decide) rfl
theorem ZvO : Zh Tryz.prog (nat_lit 161):=Ze Tryz.func161 (by decide) rfl
theorem ZvP : Zh Tryz.prog (nat_lit 162):=Ze Tryz.func162 (by decide) rfl
theorem ZjB : Zh Tryz.prog (nat_lit 163):=Ze Tryz.func163 (by decide) rfl
theorem ZvQ : Zh Tryz.prog (nat_lit 164):=Ze Tryz.func164 (by decide) rfl
theorem Zhx : Zh Tryz.prog (nat_lit 165):=Ze Tryz.func165 (by decide) rfl
theorem Zsj : Zh Tryz.prog (nat_lit 168):=Ze Tryz.func168 (by decide) rfl
theorem ZjC : Zh Tryz.prog (nat_lit 169):=Ze Tryz.func169 (by decide) rfl
theorem Zsk : Zh Tryz.prog (nat_lit 170):=Ze Tryz.func170 (by decide) rfl
theorem ZvR : Zh Tryz.prog (nat_lit 171):=Ze Tryz.func171 (by decide) rfl
theorem ZvS : Zh Tryz.prog (nat_lit 172):=Ze Tryz.func172 (by decide) rfl
theorem ZvT : Zh Tryz.prog (nat_lit 173):=Ze Tryz.func173 (by decide) rfl
theorem Zsl : Zh Tryz.prog (nat_lit 174):=Ze Tryz.func174 (by decide) rfl
theorem ZvU : Zh Tryz.prog (nat_lit 175):=Ze Tryz.func175 (by decide) rfl
theorem ZvV : Zh Tryz.prog (nat_lit 176):=Ze Tryz.func176 (by decide) rfl
theorem ZvW : Zh Tryz.prog (nat_lit 178):=Ze Tryz.func178 (by decide) rfl
theorem ZfW : Zh Tryz.prog (nat_lit 179):=Ze Tryz.func179 (by decide) rfl
theorem Zck : Zh Tryz.prog (nat_lit 180):=Ze Tryz.func180 (by decide) rfl
theorem Zsm : Zh Tryz.prog (nat_lit 181):=Ze Tryz.func181 (by decide) rfl
theorem ZvX : Zh Tryz.prog (nat_lit 184):=Ze Tryz.func184 (by decide) rfl
theorem ZvY : Zh Tryz.prog (nat_lit 186):=Ze Tryz.func186 (by decide) rfl
theorem ZvZ : Zh Tryz.prog (nat_lit 187):=Ze Tryz.func187 (by decide) rfl
theorem Zwa : Zh Tryz.prog (nat_lit 188):=Ze Tryz.func188 (by decide) rfl
theorem Zwb : Zh Tryz.prog (nat_lit 189):=Ze Tryz.func189 (by decide) rfl
theorem Zsn : Zh Tryz.prog (nat_lit 194):=Ze Tryz.func194 (by decide) rfl
theorem Zso : Zh Tryz.prog (nat_lit 195):=Ze Tryz.func195 (by decide) rfl
theorem Zwc : Zh Tryz.prog (nat_lit 196):=Ze Tryz.func196 (by decide) rfl
theorem Zwd : Zh Tryz.prog (nat_lit 197):=Ze Tryz.func197 (by decide) rfl
theorem Zwe : Zh Tryz.prog (nat_lit 198):=Ze Tryz.func198 (by decide) rfl
theorem Zwf : Zh Tryz.prog (nat_lit 199):=Ze Tryz.func199 (by decide) rfl
theorem Zsp : Zh Tryz.prog (nat_lit 210):=Ze Tryz.func210 (by decide) rfl
theorem Zwg : Zh Tryz.prog (nat_lit 213):=Ze Tryz.func213 (by decide) rfl
theorem Ze6 : Zh Tryz.prog (nat_lit 214):=Ze Tryz.func214 (by decide) rfl
theorem Zwh : Zh Tryz.prog (nat_lit 226):=Ze Tryz.func226 (by decide) rfl
theorem Zcl : Zh Tryz.prog (nat_lit 237):=Ze Tryz.func237 (by decide) rfl
theorem ZfX : Zh Tryz.prog (nat_lit 238):=Ze Tryz.func238 (by decide) rfl
theorem Zsq : Zh Tryz.prog (nat_lit 239):=Ze Tryz.func239 (by decide) rfl
theorem Zwi : Zh Tryz.prog (nat_lit 265):=Ze Tryz.func265 (by decide) rfl
theorem Zwj : Zh Tryz.prog (nat_lit 266):=Ze Tryz.func266 (by decide) rfl
theorem Zwk : Tryz.prog.eqGuardType Tryz.prog.depth (nat_lit 35) = false:=by kernel_rfl
set_option maxHeartbeats 1000000 in
theorem Zq4 (x y : Rect) (w : World) : (Op.equalIn 10000 (nat_lit 35) (.agg #[.int .i64 x.d.a, .int .i64 x.d.b, .int .i64 x.x.a, .int .i64 x.x.b]) (.agg #[.int .i64 y.d.a, .int .i64 y.d.b, .int .i64 y.x.a, .int .i64 y.x.b])).run Tryz.prog w = .ok (decide (x = y)) w:=by
 have u3:=Tryz.underlying3
 have a3:=Tryz.isAgg3
 have z3:=Tryz.sizeOf3
 have u33:=Tryz.underlying33
 have a33:=Tryz.isAgg33
 have z33:=Tryz.sizeOf33
 have e33 : ∀ d xs ys,(Op.equalIn (d+1) (nat_lit 33) (.agg xs) (.agg ys)).run Tryz.prog w = (Op.eqFields d xs ys (Tryz.prog.fieldsOf (nat_lit 33)).toList).run Tryz.prog w:=fun d xs ys=>run_equalIn_agg w d (nat_lit 33) xs ys (by kernel_rfl) (by kernel_rfl)
 rw [show (10000 : Nat) = 9999 + 1 from rfl,run_equalIn_agg w 9999 (nat_lit 35) _ _ (by kernel_rfl) (by kernel_rfl)]
 simp only [Program.fieldsOf,Tryz.underlying35,Zb] at e33 ⊢
 go_simp
 skip
 obtain ⟨⟨x1,x2⟩,⟨x3,x4⟩⟩:=x
 obtain ⟨⟨y1,y2⟩,⟨y3,y4⟩⟩:=y
 by_cases h1 : x1 = y1 <;> by_cases h2 : x2 = y2 <;> by_cases h3 : x3 = y3 <;> by_cases h4 : x4 = y4 <;> simp [h1,h2,h3,h4]
theorem ZjD : Tryz.prog.eqGuardType Tryz.prog.depth (nat_lit 33) = false:=by kernel_rfl
set_option maxHeartbeats 1000000 in
theorem Ze7 (x y : Span) (w : World) : (Op.equalIn 10000 (nat_lit 33) (.agg #[.int .i64 x.a, .int .i64 x.b]) (.agg #[.int .i64 y.a, .int .i64 y.b])).run Tryz.prog w = .ok (decide (x = y)) w:=by
 have u3:=Tryz.underlying3
 have a3:=Tryz.isAgg3
 have z3:=Tryz.sizeOf3
 rw [show (10000 : Nat) = 9999 + 1 from rfl,run_equalIn_agg w 9999 (nat_lit 33) _ _ (by kernel_rfl) (by kernel_rfl)]
 simp only [Program.fieldsOf,Tryz.underlying33,Zb]
 go_simp
 skip
 obtain ⟨x1,x2⟩:=x
 obtain ⟨y1,y2⟩:=y
 by_cases h1 : x1 = y1 <;> by_cases h2 : x2 = y2 <;> simp [h1,h2]
theorem Zbp : Tryz.prog.eqGuardType Tryz.prog.depth (nat_lit 58) = false:=by kernel_rfl
set_option maxHeartbeats 1000000 in
theorem Q9 (x y : Val) (w : World) : (Op.equalIn 10000 (nat_lit 58) (.agg #[.int .i64 x.k, .int .i64 x.n,Zb x.s]) (.agg #[.int .i64 y.k, .int .i64 y.n,Zb y.s])).run Tryz.prog w = .ok (decide (x = y)) w:=by
 have u3:=Tryz.underlying3
 have a3:=Tryz.isAgg3
 have z3:=Tryz.sizeOf3
 have u9:=Tryz.underlying9
 have a9:=Tryz.isAgg9
 have z9:=Tryz.sizeOf9
 rw [show (10000 : Nat) = 9999 + 1 from rfl,run_equalIn_agg w 9999 (nat_lit 58) _ _ (by kernel_rfl) (by kernel_rfl)]
 simp only [Program.fieldsOf,Tryz.underlying58,Zb]
 go_simp
 skip
 obtain ⟨x1,x2,x3⟩:=x
 obtain ⟨y1,y2,y3⟩:=y
 by_cases h1 : x1 = y1 <;> by_cases h2 : x2 = y2 <;> by_cases h3 : x3 = y3 <;> simp [h1,h2,h3]
theorem mixed : Tryz.prog.follows .mixedOrders = true:=by kernel_rfl
theorem dr {N id : Nat} {Q : Exit → Env → World → Prop} {ρ : Env} {w w0 : World} {ops : List Oper} {X : List Nat} {G0 G : GH} {L : Own} (T : List (Nat × Bool)) (hv : List (Nat × Value)) (hS : (St w0 X G0 G L) w) (ho : ZcZ Tryz.prog ops (St w0 X G0 G L) (T.map (·.1)) hv (X3 ft ops (T.map (·.1)) hv 0 ops ρ) 0 ops)
  (hT : ∀ w,(St w0 X G0 G L) w → goT ft ops (St w0 X G0 G L) Q T (X3 ft ops (T.map (·.1)) hv 0 ops ρ) w) (hN : ops.all (Zb0 N) = true:=by kernel_rfl) (hp : Zj5 ops (QA ops (T.map (·.1))) = true:=by kernel_rfl)
  (hn : T.map (fun x=>Q1 (QA ops (T.map (·.1))) x.1) = T.map (·.2):=by kernel_rfl) (ha : Zb2 ft ops (T.map (·.1)) hv (X3 ft ops (T.map (·.1)) hv 0 ops ρ) 0 ops = Zb3 (T.map (·.1)) hv (X3 ft ops (T.map (·.1)) hv 0 ops ρ) 0 ops:=by exact rfl) : DR Tryz.prog N id ops.toArray Q ρ w:=
 DR.go _ T hv mixed hN hp hn ha hS.draw ho hT
theorem drT {N id : Nat} {Q : Exit → Env → World → Prop} {ρ : Env} {w w0 : World} {ops : List Oper} {X : List Nat} {G0 G : GH} {L : Own} (T : List Nat) (hv : List (Nat × Value)) (hS : (St w0 X G0 G L) w) (ho : ZcZ Tryz.prog ops (St w0 X G0 G L) T hv (X3 ft ops T hv 0 ops ρ) 0 ops)
  (hT : ∀ w,(St w0 X G0 G L) w → TG Tryz.prog ops.toArray (QA ops T) (St w0 X G0 G L) Q T.length T (X3 ft ops T hv 0 ops ρ) w) (hN : ops.all (Zb0 N) = true:=by kernel_rfl) (hp : Zha ops (QA ops T) = true:=by kernel_rfl)
  (ha : Zb2 ft ops T hv (X3 ft ops T hv 0 ops ρ) 0 ops = Zb3 T hv (X3 ft ops T hv 0 ops ρ) 0 ops:=by exact rfl) : DR Tryz.prog N id ops.toArray Q ρ w:=
 DR.goG _ T hv mixed hN hp ha hS.draw ho hT
theorem drD {N id : Nat} {Q : Exit → Env → World → Prop} {ρ : Env} {w : World} {ops : List Oper} {C : World → Prop} (hD : ∀ w,C w → C { w with drawn:=w.drawn + 1 }) (T : List (Nat × Bool)) (hv : List (Nat × Value)) (hS : C w) (ho : ZcZ Tryz.prog ops C (T.map (·.1)) hv (X3 ft ops (T.map (·.1)) hv 0 ops ρ) 0 ops)
  (hT : ∀ w,C w → goT ft ops C Q T (X3 ft ops (T.map (·.1)) hv 0 ops ρ) w) (hN : ops.all (Zb0 N) = true:=by kernel_rfl) (hp : Zj5 ops (QA ops (T.map (·.1))) = true:=by kernel_rfl)
  (hn : T.map (fun x=>Q1 (QA ops (T.map (·.1))) x.1) = T.map (·.2):=by kernel_rfl) (ha : Zb2 ft ops (T.map (·.1)) hv (X3 ft ops (T.map (·.1)) hv 0 ops ρ) 0 ops = Zb3 (T.map (·.1)) hv (X3 ft ops (T.map (·.1)) hv 0 ops ρ) 0 ops:=by exact rfl) : DR Tryz.prog N id ops.toArray Q ρ w:=
 DR.go _ T hv mixed hN hp hn ha (hD _ hS) ho hT
end Go.Civ
