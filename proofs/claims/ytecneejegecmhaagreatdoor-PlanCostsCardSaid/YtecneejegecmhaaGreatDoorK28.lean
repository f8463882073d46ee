/- Lemmas. -/
import Derived.Test.YtecneejegecmhaaGreatDoorK27
set_option linter.unusedVariables false
set_option linter.unusedSimpArgs false
set_option linter.unusedVariables false
set_option linter.unusedSimpArgs false
set_option maxRecDepth 100000
set_option maxHeartbeats 4000000
namespace Go.Civ
open Go.Proofs
theorem ZbV {G : GH} {w : World} (hG : G.In w) (y m d : Int) (hy : 1 ≤ y ∧ y ≤ 9999) (hm : 1 ≤ m ∧ m ≤ 12) (hd : 1 ≤ d ∧ d ≤ 31) : CL Tryz.prog (nat_lit 136) #[U y,U m,U d] [] w G fun _ _ r=>r = U (Yx y m d):=by
 refine Zg ft [] Tryz.func136 V V ?_
 have hy64 : Zj y:=⟨by omega,by omega⟩
 have hS:=St.start (X:=[]) hG
 refine X2 m 2 V V V (fun h1=>?_) (fun h1=>?_)
 ·have hi1 : Zj (y - 1):=by constructor <;> omega
  refine WL.ar .sub V y 1 V V V hi1 ?_
  have hi2 : Zj (m + 12):=by constructor <;> omega
  refine WL.ar .add V m 12 V V V hi2 ?_
  have hi3 : Zj (365 * (y - 1)):=by have:=hi1.1; have:=hi1.2; constructor <;> omega
  refine WL.ar .mul V 365 (y - 1) V V V hi3 ?_
  refine YZ (y - 1) 4 (by omega) (by omega) hi1 V V V ?_
  have hi4 : Zj ((365 * (y - 1)) + ((y - 1) / 4)):=by have:=hi3.1; have:=hi3.2; constructor <;> omega
  refine WL.ar .add V (365 * (y - 1)) ((y - 1) / 4) V V V hi4 ?_
  refine YZ (y - 1) 100 (by omega) (by omega) hi1 V V V ?_
  have hi5 : Zj (((365 * (y - 1)) + ((y - 1) / 4)) - ((y - 1) / 100)):=by have:=hi4.1; have:=hi4.2; constructor <;> omega
  refine WL.ar .sub V ((365 * (y - 1)) + ((y - 1) / 4)) ((y - 1) / 100) V V V hi5 ?_
  refine YZ (y - 1) 400 (by omega) (by omega) hi1 V V V ?_
  have hi6 : Zj ((((365 * (y - 1)) + ((y - 1) / 4)) - ((y - 1) / 100)) + ((y - 1) / 400)):=by have:=hi5.1; have:=hi5.2; constructor <;> omega
  refine WL.ar .add V (((365 * (y - 1)) + ((y - 1) / 4)) - ((y - 1) / 100)) ((y - 1) / 400) V V V hi6 ?_
  have hi7 : Zj ((m + 12) - 3):=by have:=hi2.1; have:=hi2.2; constructor <;> omega
  refine WL.ar .sub V (m + 12) 3 V V V hi7 ?_
  have hi8 : Zj (153 * ((m + 12) - 3)):=by have:=hi7.1; have:=hi7.2; constructor <;> omega
  refine WL.ar .mul V 153 ((m + 12) - 3) V V V hi8 ?_
  have hi9 : Zj ((153 * ((m + 12) - 3)) + 2):=by have:=hi8.1; have:=hi8.2; constructor <;> omega
  refine WL.ar .add V (153 * ((m + 12) - 3)) 2 V V V hi9 ?_
  refine YZ ((153 * ((m + 12) - 3)) + 2) 5 (by omega) (by omega) hi9 V V V ?_
  have hi10 : Zj (((((365 * (y - 1)) + ((y - 1) / 4)) - ((y - 1) / 100)) + ((y - 1) / 400)) + (((153 * ((m + 12) - 3)) + 2) / 5)):=by have:=hi6.1; have:=hi6.2; constructor <;> omega
  refine WL.ar .add V ((((365 * (y - 1)) + ((y - 1) / 4)) - ((y - 1) / 100)) + ((y - 1) / 400)) (((153 * ((m + 12) - 3)) + 2) / 5) V V V hi10 ?_
  have hi11 : Zj ((((((365 * (y - 1)) + ((y - 1) / 4)) - ((y - 1) / 100)) + ((y - 1) / 400)) + (((153 * ((m + 12) - 3)) + 2) / 5)) + d):=by have:=hi10.1; have:=hi10.2; constructor <;> omega
  refine WL.ar .add V (((((365 * (y - 1)) + ((y - 1) / 4)) - ((y - 1) / 100)) + ((y - 1) / 400)) + (((153 * ((m + 12) - 3)) + 2) / 5)) d V V V hi11 ?_
  have hi12 : Zj (((((((365 * (y - 1)) + ((y - 1) / 4)) - ((y - 1) / 100)) + ((y - 1) / 400)) + (((153 * ((m + 12) - 3)) + 2) / 5)) + d) - 307):=by have:=hi11.1; have:=hi11.2; constructor <;> omega
  refine WL.ar .sub V ((((((365 * (y - 1)) + ((y - 1) / 4)) - ((y - 1) / 100)) + ((y - 1) / 400)) + (((153 * ((m + 12) - 3)) + 2) / 5)) + d) 307 V V V hi12 ?_
  have hi13 : Zj ((((((((365 * (y - 1)) + ((y - 1) / 4)) - ((y - 1) / 100)) + ((y - 1) / 400)) + (((153 * ((m + 12) - 3)) + 2) / 5)) + d) - 307) + (-719162)):=by have:=hi12.1; have:=hi12.2; constructor <;> omega
  refine WL.ar .add V (((((((365 * (y - 1)) + ((y - 1) / 4)) - ((y - 1) / 100)) + ((y - 1) / 400)) + (((153 * ((m + 12) - 3)) + 2) / 5)) + d) - 307) (-719162) V V V hi13 ?_
  exact RI hS V (by exact Zwi (y:=y) (m:=m) (d:=d) ‹_› (by omega))
 have hi14 : Zj (365 * y):=by constructor <;> omega
 refine WL.ar .mul V 365 y V V V hi14 ?_
 refine YZ y 4 (by omega) (by omega) (by constructor <;> omega) V V V ?_
 have hi15 : Zj ((365 * y) + (y / 4)):=by have:=hi14.1; have:=hi14.2; constructor <;> omega
 refine WL.ar .add V (365 * y) (y / 4) V V V hi15 ?_
 refine YZ y 100 (by omega) (by omega) (by constructor <;> omega) V V V ?_
 have hi16 : Zj (((365 * y) + (y / 4)) - (y / 100)):=by have:=hi15.1; have:=hi15.2; constructor <;> omega
 refine WL.ar .sub V ((365 * y) + (y / 4)) (y / 100) V V V hi16 ?_
 refine YZ y 400 (by omega) (by omega) (by constructor <;> omega) V V V ?_
 have hi17 : Zj ((((365 * y) + (y / 4)) - (y / 100)) + (y / 400)):=by have:=hi16.1; have:=hi16.2; constructor <;> omega
 refine WL.ar .add V (((365 * y) + (y / 4)) - (y / 100)) (y / 400) V V V hi17 ?_
 have hi18 : Zj (m - 3):=by constructor <;> omega
 refine WL.ar .sub V m 3 V V V hi18 ?_
 have hi19 : Zj (153 * (m - 3)):=by have:=hi18.1; have:=hi18.2; constructor <;> omega
 refine WL.ar .mul V 153 (m - 3) V V V hi19 ?_
 have hi20 : Zj ((153 * (m - 3)) + 2):=by have:=hi19.1; have:=hi19.2; constructor <;> omega
 refine WL.ar .add V (153 * (m - 3)) 2 V V V hi20 ?_
 refine YZ ((153 * (m - 3)) + 2) 5 (by omega) (by omega) hi20 V V V ?_
 have hi21 : Zj (((((365 * y) + (y / 4)) - (y / 100)) + (y / 400)) + (((153 * (m - 3)) + 2) / 5)):=by have:=hi17.1; have:=hi17.2; constructor <;> omega
 refine WL.ar .add V ((((365 * y) + (y / 4)) - (y / 100)) + (y / 400)) (((153 * (m - 3)) + 2) / 5) V V V hi21 ?_
 have hi22 : Zj ((((((365 * y) + (y / 4)) - (y / 100)) + (y / 400)) + (((153 * (m - 3)) + 2) / 5)) + d):=by have:=hi21.1; have:=hi21.2; constructor <;> omega
 refine WL.ar .add V (((((365 * y) + (y / 4)) - (y / 100)) + (y / 400)) + (((153 * (m - 3)) + 2) / 5)) d V V V hi22 ?_
 have hi23 : Zj (((((((365 * y) + (y / 4)) - (y / 100)) + (y / 400)) + (((153 * (m - 3)) + 2) / 5)) + d) - 307):=by have:=hi22.1; have:=hi22.2; constructor <;> omega
 refine WL.ar .sub V ((((((365 * y) + (y / 4)) - (y / 100)) + (y / 400)) + (((153 * (m - 3)) + 2) / 5)) + d) 307 V V V hi23 ?_
 have hi24 : Zj ((((((((365 * y) + (y / 4)) - (y / 100)) + (y / 400)) + (((153 * (m - 3)) + 2) / 5)) + d) - 307) + (-719162)):=by have:=hi23.1; have:=hi23.2; constructor <;> omega
 refine WL.ar .add V (((((((365 * y) + (y / 4)) - (y / 100)) + (y / 400)) + (((153 * (m - 3)) + 2) / 5)) + d) - 307) (-719162) V V V hi24 ?_
 exact RI hS V (by exact Zwj (y:=y) (m:=m) (d:=d) (by omega))
theorem ZrA {G : GH} {w : World} (hG : G.In w) (d : Int) (hd : -719162 ≤ d ∧ d < 2932897) : CL Tryz.prog (nat_lit 135) #[U d] [] w G fun _ _ r=>r = .bool true:=by
 refine Zg ft [] Tryz.func135 V V ?_
 have hS:=St.start (X:=[]) hG
 refine ZM d (-719162) V V V (fun h1=>?_) (fun h1=>?_)
 ·refine Yd .lss V .i64 d 2932897 V V V ?_
  exact RB hS V (by simp_all [Cmp.b])
 exact RB hS V (by simp_all [Cmp.b] <;> (omega))
theorem Zx1 {G : GH} {w : World} (hG : G.In w) (d : Int) (hd : -719162 ≤ d ∧ d < 2932897) : CL Tryz.prog (nat_lit 91) #[U d] [] w G fun G' _ r=>∃ r0 r1,r = .tuple #[r0,r1] ∧ Is ZcN G' r0 (ZC d) ∧ r1 = U 0:=by
 refine Yw ft [] Tryz.func91 V V ?_
 have hd64 : Zj d:=⟨by omega,by omega⟩
 have hS:=St.start (X:=[]) hG
 refine WL.alloc hS Y2 V V (fun b1 w1 N1 S1=>?_)
 refine Zl S1 Zzd V V V (ZrA S1.imm d hd) (fun w2 G1 S2 L1=>?_)
 have hi1 : Zj (d - (-719162)):=by constructor <;> omega
 refine WL.ar .sub V d (-719162) V V V hi1 ?_
 refine YZ (d - (-719162)) 366 (by omega) (by omega) hi1 V V V ?_
 have hi2 : Zj (((d - (-719162)) / 366) + 1):=by constructor <;> omega
 refine WL.ar .add V ((d - (-719162)) / 366) 1 V V V hi2 ?_
 refine LP.go ft [] (fun m ρ1 w1=>∃ (yy : Int),∃ (G2 : GH),m = (9999 - yy).toNat ∧ G1.le G2 ∧ St w [] G G2 [some (b1,105,[U 0,U 0,U 0])] w1 ∧ FR ρ1 [(0,U d),(2, .pointer (some ⟨b1,0,none⟩)),(4,U yy)] ∧ (1 ≤ yy ∧ yy ≤ 9999) ∧ ZW yy ≤ d) _ ⟨(((d - (-719162)) / 366) + 1),G1,V,(G1.le_refl),S2,⟨V,V,V,trivial⟩,(by omega),(by exact Zsu hd.1)⟩ ?_
 rintro m ρ1 w3 ⟨yy,G2,rfl,L2,S3,F9,f1,f2⟩
 refine F9.set ?_
 clear F9
 have hyy64 : Zj yy:=⟨by omega,by omega⟩
 refine Zp yy 9999 V V V (fun h1=>?_) (fun h1=>?_)
 ·have hi3 : Zj (yy + 1):=by have:=hyy64.1; have:=hyy64.2; constructor <;> omega
  refine WL.ar .add V yy 1 V V V hi3 ?_
  refine Zl S3 ZdW V V V (ZbV S3.imm (yy + 1) 1 1 (by omega) (by omega) (by omega)) (fun w4 G3 S4 L3=>?_)
  refine X2 (Yx (yy + 1) 1 1) d V V V (fun h2=>?_) (fun h2=>?_)
  ·have hi4 : Zj (yy + 1):=by have:=hyy64.1; have:=hyy64.2; constructor <;> omega
   refine WL.ar .add V yy 1 V V V hi4 ?_
   exact BK.mk' _ ⟨(yy + 1),G3,V,(L2.trans L3),S4,⟨V,V,V,trivial⟩,(by omega),(by have h9:=@Zpk (yy + 1); omega)⟩ (show (9999 - (yy + 1)).toNat < (9999 - yy).toNat by omega)
  have hiy:=Zpl ‹_› (by exact .inr (by omega)) (by omega) (by omega)
  refine LP.go ft [] (fun m ρ1 w1=>∃ (mm : Int),∃ (G4 : GH),m = (12 - mm).toNat ∧ G3.le G4 ∧ St w [] G G4 [some (b1,105,[U 0,U 0,U 0])] w1 ∧ FR ρ1 [(0,U d),(2, .pointer (some ⟨b1,0,none⟩)),(4,U yy),(5,U mm)] ∧ (1 ≤ mm ∧ mm ≤ 12) ∧ Y3 (YV yy) mm ≤ d - ZW yy) _ ⟨1,G3,V,(G3.le_refl),S4,(ZS V),(by omega),(by rw [ZfQ]; omega)⟩ ?_
  rintro m ρ1 w5 ⟨mm,G4,rfl,L4,S5,F9,f3,f4⟩
  refine F9.set ?_
  clear F9
  have hmm64 : Zj mm:=⟨by omega,by omega⟩
  refine Zp mm 12 V V V (fun h3=>?_) (fun h3=>?_)
  ·have hi5 : Zj (mm + 1):=by have:=hmm64.1; have:=hmm64.2; constructor <;> omega
   refine WL.ar .add V mm 1 V V V hi5 ?_
   refine Zl S5 ZdW V V V (ZbV S5.imm yy (mm + 1) 1 (by omega) (by omega) (by omega)) (fun w6 G5 S6 L5=>?_)
   refine X2 (Yx yy (mm + 1) 1) d V V V (fun h4=>?_) (fun h4=>?_)
   ·have hi6 : Zj (mm + 1):=by have:=hmm64.1; have:=hmm64.2; constructor <;> omega
    refine WL.ar .add V mm 1 V V V hi6 ?_
    exact BK.mk' _ ⟨(mm + 1),G5,V,(L4.trans L5),S6,(ZS V),(by omega),(by exact Zwk ‹_›)⟩ (show (12 - (mm + 1)).toNat < (12 - mm).toNat by omega)
   have him:=ZhR hiy ‹_› (by exact .inr (by omega)) (by omega)
   have hbm:=ZdO (m:=mm) (by omega) (Zap yy)
   have hbf:=Zc9 (y:=yy) (by omega)
   have hbc : Yx yy mm 1 = ZW yy + Y3 (YV yy) mm + 1 - 1:=rfl
   refine Zl S6 ZdW V V V (ZbV S6.imm yy mm 1 (by omega) (by omega) (by omega)) (fun w7 G6 S7 L6=>?_)
   have hi7 : Zj (d - (Yx yy mm 1)):=by constructor <;> omega
   refine WL.ar .sub V d (Yx yy mm 1) V V V hi7 ?_
   have hi8 : Zj ((d - (Yx yy mm 1)) + 1):=by have:=hi7.1; have:=hi7.2; constructor <;> omega
   refine WL.ar .add V (d - (Yx yy mm 1)) 1 V V V hi8 <| WL.build _ [(0,[U yy]),(1,[U mm]),(2,[U ((d - (Yx yy mm 1)) + 1)])] [U yy,U mm,U ((d - (Yx yy mm 1)) + 1)] Y2 V ZbF V V V V ?_
   refine Z9 S7 0 [U yy,U mm,U ((d - (Yx yy mm 1)) + 1)] V V Y2 V V V V V V (fun w9 S8=>?_)
   exact Qk [.agg #[U yy,U mm,U ((d - (Yx yy mm 1)) + 1)],U 0] S8 ⟨_,_,_,V,V,S8.loadA 0 _ _ _ 0 [U yy,U mm,U ((d - (Yx yy mm 1)) + 1)] V V V Y2 V,⟨_,V,V⟩⟩ ⟨_,_,V,(Is.cast ⟨_,V,(Qw (Dat.mk yy mm ((d - (Yx yy mm 1)) + 1)) hyy64 hmm64 hi8)⟩ (by exact ZhQ hiy ‹_› (by omega))),(congrArg (Value.int .i64) (by rfl))⟩
  have him:=ZhR hiy ‹_› (by exact .inl (by omega)) (by omega)
  have hbm:=ZdO (m:=mm) (by omega) (Zap yy)
  have hbf:=Zc9 (y:=yy) (by omega)
  have hbc : Yx yy mm 1 = ZW yy + Y3 (YV yy) mm + 1 - 1:=rfl
  refine Zl S5 ZdW V V V (ZbV S5.imm yy mm 1 (by omega) (by omega) (by omega)) (fun w10 G7 S9 L7=>?_)
  have hi9 : Zj (d - (Yx yy mm 1)):=by constructor <;> omega
  refine WL.ar .sub V d (Yx yy mm 1) V V V hi9 ?_
  have hi10 : Zj ((d - (Yx yy mm 1)) + 1):=by have:=hi9.1; have:=hi9.2; constructor <;> omega
  refine WL.ar .add V (d - (Yx yy mm 1)) 1 V V V hi10 <| WL.build _ [(0,[U yy]),(1,[U mm]),(2,[U ((d - (Yx yy mm 1)) + 1)])] [U yy,U mm,U ((d - (Yx yy mm 1)) + 1)] Y2 V ZbF V V V V ?_
  refine Z9 S9 0 [U yy,U mm,U ((d - (Yx yy mm 1)) + 1)] V V Y2 V V V V V V (fun w11 S10=>?_)
  exact Qk [.agg #[U yy,U mm,U ((d - (Yx yy mm 1)) + 1)],U 0] S10 ⟨_,_,_,V,V,S10.loadA 0 _ _ _ 0 [U yy,U mm,U ((d - (Yx yy mm 1)) + 1)] V V V Y2 V,⟨_,V,V⟩⟩ ⟨_,_,V,(Is.cast ⟨_,V,(Qw (Dat.mk yy mm ((d - (Yx yy mm 1)) + 1)) hyy64 hmm64 hi10)⟩ (by exact ZhQ hiy ‹_› (by omega))),(congrArg (Value.int .i64) (by rfl))⟩
 have hiy:=Zpl ‹_› (by exact .inl (by omega)) (by omega) (by omega)
 refine LP.go ft [] (fun m ρ1 w1=>∃ (mm : Int),∃ (G9 : GH),m = (12 - mm).toNat ∧ G2.le G9 ∧ St w [] G G9 [some (b1,105,[U 0,U 0,U 0])] w1 ∧ FR ρ1 [(0,U d),(2, .pointer (some ⟨b1,0,none⟩)),(4,U yy),(5,U mm)] ∧ (1 ≤ mm ∧ mm ≤ 12) ∧ Y3 (YV yy) mm ≤ d - ZW yy) _ ⟨1,G2,V,(G2.le_refl),S3,(ZS V),(by omega),(by rw [ZfQ]; omega)⟩ ?_
 rintro m ρ1 w12 ⟨mm,G9,rfl,L9,S11,F9,f5,f6⟩
 refine F9.set ?_
 clear F9
 have hmm64 : Zj mm:=⟨by omega,by omega⟩
 refine Zp mm 12 V V V (fun h5=>?_) (fun h5=>?_)
 ·have hi11 : Zj (mm + 1):=by have:=hmm64.1; have:=hmm64.2; constructor <;> omega
  refine WL.ar .add V mm 1 V V V hi11 ?_
  refine Zl S11 ZdW V V V (ZbV S11.imm yy (mm + 1) 1 (by omega) (by omega) (by omega)) (fun w13 G10 S12 L10=>?_)
  refine X2 (Yx yy (mm + 1) 1) d V V V (fun h6=>?_) (fun h6=>?_)
  ·have hi12 : Zj (mm + 1):=by have:=hmm64.1; have:=hmm64.2; constructor <;> omega
   refine WL.ar .add V mm 1 V V V hi12 ?_
   exact BK.mk' _ ⟨(mm + 1),G10,V,(L9.trans L10),S12,(ZS V),(by omega),(by exact Zwk ‹_›)⟩ (show (12 - (mm + 1)).toNat < (12 - mm).toNat by omega)
  have him:=ZhR hiy ‹_› (by exact .inr (by omega)) (by omega)
  have hbm:=ZdO (m:=mm) (by omega) (Zap yy)
  have hbf:=Zc9 (y:=yy) (by omega)
  have hbc : Yx yy mm 1 = ZW yy + Y3 (YV yy) mm + 1 - 1:=rfl
  refine Zl S12 ZdW V V V (ZbV S12.imm yy mm 1 (by omega) (by omega) (by omega)) (fun w14 G11 S13 L11=>?_)
  have hi13 : Zj (d - (Yx yy mm 1)):=by constructor <;> omega
  refine WL.ar .sub V d (Yx yy mm 1) V V V hi13 ?_
  have hi14 : Zj ((d - (Yx yy mm 1)) + 1):=by have:=hi13.1; have:=hi13.2; constructor <;> omega
  refine WL.ar .add V (d - (Yx yy mm 1)) 1 V V V hi14 <| WL.build _ [(0,[U yy]),(1,[U mm]),(2,[U ((d - (Yx yy mm 1)) + 1)])] [U yy,U mm,U ((d - (Yx yy mm 1)) + 1)] Y2 V ZbF V V V V ?_
  refine Z9 S13 0 [U yy,U mm,U ((d - (Yx yy mm 1)) + 1)] V V Y2 V V V V V V (fun w15 S14=>?_)
  exact Qk [.agg #[U yy,U mm,U ((d - (Yx yy mm 1)) + 1)],U 0] S14 ⟨_,_,_,V,V,S14.loadA 0 _ _ _ 0 [U yy,U mm,U ((d - (Yx yy mm 1)) + 1)] V V V Y2 V,⟨_,V,V⟩⟩ ⟨_,_,V,(Is.cast ⟨_,V,(Qw (Dat.mk yy mm ((d - (Yx yy mm 1)) + 1)) hyy64 hmm64 hi14)⟩ (by exact ZhQ hiy ‹_› (by omega))),(congrArg (Value.int .i64) (by rfl))⟩
 have him:=ZhR hiy ‹_› (by exact .inl (by omega)) (by omega)
 have hbm:=ZdO (m:=mm) (by omega) (Zap yy)
 have hbf:=Zc9 (y:=yy) (by omega)
 have hbc : Yx yy mm 1 = ZW yy + Y3 (YV yy) mm + 1 - 1:=rfl
 refine Zl S11 ZdW V V V (ZbV S11.imm yy mm 1 (by omega) (by omega) (by omega)) (fun w16 G12 S15 L12=>?_)
 have hi15 : Zj (d - (Yx yy mm 1)):=by constructor <;> omega
 refine WL.ar .sub V d (Yx yy mm 1) V V V hi15 ?_
 have hi16 : Zj ((d - (Yx yy mm 1)) + 1):=by have:=hi15.1; have:=hi15.2; constructor <;> omega
 refine WL.ar .add V (d - (Yx yy mm 1)) 1 V V V hi16 <| WL.build _ [(0,[U yy]),(1,[U mm]),(2,[U ((d - (Yx yy mm 1)) + 1)])] [U yy,U mm,U ((d - (Yx yy mm 1)) + 1)] Y2 V ZbF V V V V ?_
 refine Z9 S15 0 [U yy,U mm,U ((d - (Yx yy mm 1)) + 1)] V V Y2 V V V V V V (fun w17 S16=>?_)
 exact Qk [.agg #[U yy,U mm,U ((d - (Yx yy mm 1)) + 1)],U 0] S16 ⟨_,_,_,V,V,S16.loadA 0 _ _ _ 0 [U yy,U mm,U ((d - (Yx yy mm 1)) + 1)] V V V Y2 V,⟨_,V,V⟩⟩ ⟨_,_,V,(Is.cast ⟨_,V,(Qw (Dat.mk yy mm ((d - (Yx yy mm 1)) + 1)) hyy64 hmm64 hi16)⟩ (by exact ZhQ hiy ‹_› (by omega))),(congrArg (Value.int .i64) (by rfl))⟩
end Go.Civ
set_option linter.unusedVariables false
set_option linter.unusedSimpArgs false
set_option maxRecDepth 100000
set_option maxHeartbeats 4000000
namespace Go.Civ
open Go.Proofs
theorem Zx2 {G : GH} {w : World} (hG : G.In w) (a : Int) (ha64 : Zj a) (ha : -62135596800 ≤ a) : CL Tryz.prog (nat_lit 134) #[U a,U 86400] [] w G fun _ _ r=>∃ r0 r1 r2,r = .tuple #[r0,r1,r2] ∧ r0 = U (a / 86400) ∧ r1 = U (a % 86400) ∧ r2 = U 0:=by
 refine Zg ft [] Tryz.func134 V V ?_
 have htd:=Znv a
 have hS:=St.start (X:=[]) hG
 refine Ze 86400 0 V V V (fun h1=>?_) (fun h1=>?_)
 ·omega
 refine Ze a (-9223372036854775808) V V V (fun h2=>?_) (fun h2=>?_)
 ·exfalso; omega
 refine dr [(6,false),(7,false)] [(21,U (Int.tdiv a 86400)),(24,U (Int.tmod a 86400))] hS ⟨fun _=>Zdi a 86400 (by omega) ha64 V V V <| nu V V,fun _=>Zgx a 86400 (by omega) V V V <| nu V V,trivial⟩ (fun w1 S1=>?_)
 refine Zz (Int.tmod a 86400) 0 V V V (fun h3=>?_) (fun h3=>?_)
 ·refine Yd .lss V .i64 (Int.tmod a 86400) 0 V V V <| Yd .lss V .i64 86400 0 V V V <| Zmt (Cmp.b .lss (Int.tmod a 86400) 0) (Cmp.b .lss 86400 0) ul4 V V V ?_
  refine ZgX (d:=32) V (fun (h4 : ((Cmp.b .lss (Int.tmod a 86400) 0) != (Cmp.b .lss 86400 0)) = true)=>?_) (fun (h4 : ((Cmp.b .lss (Int.tmod a 86400) 0) != (Cmp.b .lss 86400 0)) = false)=>?_)
  ·have hi1 : Zj ((Int.tdiv a 86400) - 1):=by have:=(Zdl (b:=86400) ha64 (by omega)).1; have:=(Zdl (b:=86400) ha64 (by omega)).2; constructor <;> omega
   refine WL.ar .sub V (Int.tdiv a 86400) 1 V V V hi1 ?_
   have hi2 : Zj ((Int.tmod a 86400) + 86400):=by have:=(ZbT (b:=86400) ha64 (by omega)).1; have:=(ZbT (b:=86400) ha64 (by omega)).2; constructor <;> omega
   refine WL.ar .add V (Int.tmod a 86400) 86400 V V V hi2 ?_
   exact RT S1 V ⟨_,_,_,V,(congrArg (Value.int .i64) (by exact (Znw (n:=a) (Znx ‹_›)).1)),(congrArg (Value.int .i64) (by exact (Znw (n:=a) (Znx ‹_›)).2)),(congrArg (Value.int .i64) (by rfl))⟩
  exact RT S1 V ⟨_,_,_,V,(congrArg (Value.int .i64) (by exact (ZfP (n:=a) (Zny ‹_›)).1)),(congrArg (Value.int .i64) (by exact (ZfP (n:=a) (Zny ‹_›)).2)),(congrArg (Value.int .i64) (by rfl))⟩
 exact RT S1 V ⟨_,_,_,V,(congrArg (Value.int .i64) (by exact (ZfP (n:=a) (by omega)).1)),(congrArg (Value.int .i64) (by exact (ZfP (n:=a) (by omega)).2)),(congrArg (Value.int .i64) (by rfl))⟩
theorem ZlI {G : GH} {w : World} (hG : G.In w) (a : Int) (ha64 : Zj a) (ha : -62135596800 ≤ a) : CL Tryz.prog (nat_lit 151) #[U a,U 86400] [] w G fun _ _ r=>∃ r0 r1 r2,r = .tuple #[r0,r1,r2] ∧ r0 = U (a / 86400) ∧ r1 = U (a % 86400) ∧ r2 = U 0:=by
 refine Zg ft [] Tryz.func151 V V ?_
 have htd:=Znv a
 have hS:=St.start (X:=[]) hG
 refine Ze 86400 0 V V V (fun h1=>?_) (fun h1=>?_)
 ·omega
 refine Ze a (-9223372036854775808) V V V (fun h2=>?_) (fun h2=>?_)
 ·exfalso; omega
 refine dr [(6,false),(7,false)] [(19,U (Int.tdiv a 86400)),(22,U (Int.tmod a 86400))] hS ⟨fun _=>Zdi a 86400 (by omega) ha64 V V V <| nu V V,fun _=>Zgx a 86400 (by omega) V V V <| nu V V,trivial⟩ (fun w1 S1=>?_)
 refine Zz (Int.tmod a 86400) 0 V V V (fun h3=>?_) (fun h3=>?_)
 ·refine Yd .lss V .i64 (Int.tmod a 86400) 0 V V V <| Yd .lss V .i64 86400 0 V V V <| Zmt (Cmp.b .lss (Int.tmod a 86400) 0) (Cmp.b .lss 86400 0) ul4 V V V ?_
  refine ZgX (d:=30) V (fun (h4 : ((Cmp.b .lss (Int.tmod a 86400) 0) != (Cmp.b .lss 86400 0)) = true)=>?_) (fun (h4 : ((Cmp.b .lss (Int.tmod a 86400) 0) != (Cmp.b .lss 86400 0)) = false)=>?_)
  ·have hi1 : Zj ((Int.tdiv a 86400) - 1):=by have:=(Zdl (b:=86400) ha64 (by omega)).1; have:=(Zdl (b:=86400) ha64 (by omega)).2; constructor <;> omega
   refine WL.ar .sub V (Int.tdiv a 86400) 1 V V V hi1 ?_
   have hi2 : Zj ((Int.tmod a 86400) + 86400):=by have:=(ZbT (b:=86400) ha64 (by omega)).1; have:=(ZbT (b:=86400) ha64 (by omega)).2; constructor <;> omega
   refine WL.ar .add V (Int.tmod a 86400) 86400 V V V hi2 ?_
   exact RT S1 V ⟨_,_,_,V,(congrArg (Value.int .i64) (by exact (Znw (n:=a) (Znx ‹_›)).1)),(congrArg (Value.int .i64) (by exact (Znw (n:=a) (Znx ‹_›)).2)),(congrArg (Value.int .i64) (by rfl))⟩
  exact RT S1 V ⟨_,_,_,V,(congrArg (Value.int .i64) (by exact (ZfP (n:=a) (Zny ‹_›)).1)),(congrArg (Value.int .i64) (by exact (ZfP (n:=a) (Zny ‹_›)).2)),(congrArg (Value.int .i64) (by rfl))⟩
 exact RT S1 V ⟨_,_,_,V,(congrArg (Value.int .i64) (by exact (ZfP (n:=a) (by omega)).1)),(congrArg (Value.int .i64) (by exact (ZfP (n:=a) (by omega)).2)),(congrArg (Value.int .i64) (by rfl))⟩
theorem ZnU {G : GH} {w : World} (hG : G.In w) (a : Int) (ha64 : Zj a) (ha : -62135596800 ≤ a) : CL Tryz.prog (nat_lit 216) #[U a,U 86400] [] w G fun _ _ r=>r = U (a / 86400):=by
 refine Zg ft [] Tryz.func216 V V ?_
 have hS:=St.start (X:=[]) hG
 refine Yq hS Zto V V V (ZlI hS.imm a ‹_› ‹_›) ?_
 rintro w1 G1 _ ⟨_,_,_,rfl,rfl,rfl,rfl⟩ S1 L1
 exact RI S1 V (by rfl)
theorem ZlJ {G : GH} {w : World} (hG : G.In w) (x : Dat) (cx : List Value) (hcx : ZcN.rep G x cx) (hx : 1 ≤ x.y ∧ x.y ≤ 9999) (U2 : 1 ≤ x.m ∧ x.m ≤ 12) (U3 : 1 ≤ x.d ∧ x.d ≤ 31) (U4 : x.d ≤ Xo x.y x.m) : CL Tryz.prog (nat_lit 141) #[.agg cx.toArray] [] w G fun _ _ r=>r = .bool true:=by
 refine Zg ft [] Tryz.func141 V V ?_
 have hS:=St.start (X:=[]) hG
 obtain ⟨rfl,B1,B2,Z7⟩:=QZ hcx
 refine Z4 [U x.y,U x.m,U x.d] _ hS V V V (fun p1 w1 G1 L1 M1 C1 S1=>?_)
 rcases Cmp.dec .geq x.d 1 with ⟨Z5,q1⟩ | ⟨Z5,q1⟩
 ·have h1 : 1 ≤ x.d:=q1
  clear q1
  refine dr [(13,false)] [(4,U x.d),(5, .bool true),(8,U x.d),(10,U x.y),(12,U x.m),(13,U (Xo x.y x.m)),(14, .bool (Cmp.b .leq x.d (Xo x.y x.m)))] S1 ⟨fun _ hSw=>Z hSw (Xh.drop 2 C1) Zk V V V <| nu V V,fun _=>WL.cmpV .geq V .i64 x.d 1 _ Z5 V V V <| nu V V,fun _ hSw=>Z hSw (Xh.drop 2 C1) Zk V V V <| nu V V,fun _ hSw=>Z hSw (Xh.drop 0 C1) Zk V V V <| nu V V,fun _ hSw=>Z hSw (Xh.drop 1 C1) Zk V V V <| nu V V,fun _ hSw=>ZB hSw Zz2 V V V (Zr9 hSw.imm x.y x.m hx U2) V,fun _=>Yd .leq V .i64 x.d (Xo x.y x.m) V V V <| nu V V,trivial⟩ (fun w2 S2=>?_)
  exact RB S2 V (by (simp [Cmp.b]; omega))
 have h1 : x.d < 1:=q1
 clear q1
 refine dr [(13,false)] [(4,U x.d),(5, .bool false)] S1 ⟨fun _ hSw=>Z hSw (Xh.drop 2 C1) Zk V V V <| nu V V,fun _=>WL.cmpV .geq V .i64 x.d 1 _ Z5 V V V <| nu V V,trivial⟩ (fun w3 S3=>?_)
 exact RB S3 V (by (simp [Cmp.b]; omega))
theorem ZnV {G : GH} {w : World} (hG : G.In w) (x : Dat) (cx : List Value) (hcx : ZcN.rep G x cx) (hx : 1 ≤ x.y ∧ x.y ≤ 9999) (U2 : 1 ≤ x.m ∧ x.m ≤ 12) (U3 : 1 ≤ x.d ∧ x.d ≤ 31) (U4 : x.d ≤ Xo x.y x.m) : CL Tryz.prog (nat_lit 214) #[.agg cx.toArray] [] w G fun _ _ r=>r = .bool true:=by
 refine Zg ft [] Tryz.func214 V V ?_
 have hS:=St.start (X:=[]) hG
 obtain ⟨rfl,B1,B2,Z7⟩:=QZ hcx
 refine Z4 [U x.y,U x.m,U x.d] _ hS V V V (fun p1 w1 G1 L1 M1 C1 S1=>?_)
 rcases Cmp.dec .geq x.d 1 with ⟨Z5,q1⟩ | ⟨Z5,q1⟩
 ·have h1 : 1 ≤ x.d:=q1
  clear q1
  refine dr [(13,false)] [(4,U x.d),(5, .bool true),(8,U x.d),(10,U x.y),(12,U x.m),(13,U (Xo x.y x.m)),(14, .bool (Cmp.b .leq x.d (Xo x.y x.m)))] S1 ⟨fun _ hSw=>Z hSw (Xh.drop 2 C1) Zk V V V <| nu V V,fun _=>WL.cmpV .geq V .i64 x.d 1 _ Z5 V V V <| nu V V,fun _ hSw=>Z hSw (Xh.drop 2 C1) Zk V V V <| nu V V,fun _ hSw=>Z hSw (Xh.drop 0 C1) Zk V V V <| nu V V,fun _ hSw=>Z hSw (Xh.drop 1 C1) Zk V V V <| nu V V,fun _ hSw=>ZB hSw ZnQ V V V (Zet hSw.imm x.y x.m hx U2) V,fun _=>Yd .leq V .i64 x.d (Xo x.y x.m) V V V <| nu V V,trivial⟩ (fun w2 S2=>?_)
  exact RB S2 V (by (simp [Cmp.b]; omega))
 have h1 : x.d < 1:=q1
 clear q1
 refine dr [(13,false)] [(4,U x.d),(5, .bool false)] S1 ⟨fun _ hSw=>Z hSw (Xh.drop 2 C1) Zk V V V <| nu V V,fun _=>WL.cmpV .geq V .i64 x.d 1 _ Z5 V V V <| nu V V,trivial⟩ (fun w3 S3=>?_)
 exact RB S3 V (by (simp [Cmp.b]; omega))
theorem Zx3 {G : GH} {w : World} (hG : G.In w) (x : Dat) (cx : List Value) (hcx : ZcN.rep G x cx) (hx : 1 ≤ x.y ∧ x.y ≤ 9999) (U2 : 1 ≤ x.m ∧ x.m ≤ 12) (U3 : 1 ≤ x.d ∧ x.d ≤ 31) (U4 : x.d ≤ Xo x.y x.m) : CL Tryz.prog (nat_lit 137) #[.agg cx.toArray] [] w G fun _ _ r=>∃ r0 r1,r = .tuple #[r0,r1] ∧ r0 = U (Yx x.y x.m x.d) ∧ r1 = U 0:=by
 refine Zg ft [] Tryz.func137 V V ?_
 have hS:=St.start (X:=[]) hG
 obtain ⟨rfl,B1,B2,Z7⟩:=QZ hcx
 refine Z4 [U x.y,U x.m,U x.d] _ hS V V V (fun p1 w1 G1 L1 M1 C1 S1=>?_)
 refine Zc S1 C1 [U x.y,U x.m,U x.d] Y2 V V V V V ?_
 refine Zl S1 Ztm V V V (ZlJ S1.imm x _ (Qw x B1 B2 Z7) hx U2 U3 U4) (fun w2 G2 S2 L2=>?_)
 refine Z S2 (Xh.drop 0 (C1.mono L2)) Zk V V V <| Z S2 (Xh.drop 1 (C1.mono L2)) Zk V V V <| Z S2 (Xh.drop 2 (C1.mono L2)) Zk V V V ?_
 refine Zl S2 ZdW V V V (ZbV S2.imm x.y x.m x.d hx U2 U3) (fun w3 G3 S3 L3=>?_)
 exact RT S3 V ⟨_,_,V,(congrArg (Value.int .i64) (by rfl)),(congrArg (Value.int .i64) (by rfl))⟩
theorem ZuB {G : GH} {w : World} (hG : G.In w) (x : Dat) (cx : List Value) (hcx : ZcN.rep G x cx) (hx : 1 ≤ x.y ∧ x.y ≤ 9999) (U2 : 1 ≤ x.m ∧ x.m ≤ 12) (U3 : 1 ≤ x.d ∧ x.d ≤ 31) (U4 : x.d ≤ Xo x.y x.m) : CL Tryz.prog (nat_lit 96) #[.agg cx.toArray] [] w G fun _ _ r=>r = Za (Qf x):=by
 refine Zg ft [] Tryz.func96 V V ?_
 have hS:=St.start (X:=[]) hG
 obtain ⟨rfl,B1,B2,Z7⟩:=QZ hcx
 refine Z4 [U x.y,U x.m,U x.d] _ hS V V V (fun p1 w1 G1 L1 M1 C1 S1=>?_)
 refine Zc S1 C1 [U x.y,U x.m,U x.d] Y2 V V V V V ?_
 refine Zl S1 Ztm V V V (ZlJ S1.imm x _ (Qw x B1 B2 Z7) hx U2 U3 U4) (fun w2 G2 S2 L2=>?_)
 refine dr [(13,false)] [(7,U x.y),(8,Za (Z8 x.y 4)),(9,Za ((Z8 x.y 4) ++ [45])),(11,U x.m),(12,Za (Z8 x.m 2)),(13,Za (((Z8 x.y 4) ++ [45]) ++ (Z8 x.m 2))),(14,Za ((((Z8 x.y 4) ++ [45]) ++ (Z8 x.m 2)) ++ [45])),(16,U x.d),(17,Za (Z8 x.d 2)),(18,Za (((((Z8 x.y 4) ++ [45]) ++ (Z8 x.m 2)) ++ [45]) ++ (Z8 x.d 2)))] S2 ⟨fun _ hSw=>Z hSw (Xh.drop 0 (C1.mono L2)) Zk V V V <| nu V V,fun _ hSw=>ZB hSw Zd5 V V V (ZcJ hSw.imm x.y 4 ‹_› (by omega)) V,fun _=>Zh (Z8 x.y 4) [45] (by have:=(ZK x.y 4 ‹_› (by omega)); (try simp only [Zo]); have:=Zb; omega) V V V <| nu V V,fun _ hSw=>Z hSw (Xh.drop 1 (C1.mono L2)) Zk V V V <| nu V V,fun _ hSw=>ZB hSw Zd5 V V V (ZcJ hSw.imm x.m 2 ‹_› (by omega)) V,fun _=>Zh ((Z8 x.y 4) ++ [45]) (Z8 x.m 2) (by have:=(ZK x.y 4 ‹_› (by omega)); have:=(ZK x.m 2 ‹_› (by omega)); (try simp only [Zo]); have:=Zb; omega) V V V <| nu V V,fun _=>Zh (((Z8 x.y 4) ++ [45]) ++ (Z8 x.m 2)) [45] (by have:=(ZK x.y 4 ‹_› (by omega)); have:=(ZK x.m 2 ‹_› (by omega)); (try simp only [Zo]); have:=Zb; omega) V V V <| nu V V,fun _ hSw=>Z hSw (Xh.drop 2 (C1.mono L2)) Zk V V V <| nu V V,fun _ hSw=>ZB hSw Zd5 V V V (ZcJ hSw.imm x.d 2 ‹_› (by omega)) V,fun _=>Zh ((((Z8 x.y 4) ++ [45]) ++ (Z8 x.m 2)) ++ [45]) (Z8 x.d 2) (by have:=(ZK x.y 4 ‹_› (by omega)); have:=(ZK x.m 2 ‹_› (by omega)); have:=(ZK x.d 2 ‹_› (by omega)); (try simp only [Zo]); have:=Zb; omega) V V V <| nu V V,trivial⟩ (fun w3 S3=>?_)
 exact RT S3 V (congrArg Za (by exact dtx hx U2 U3))
theorem ZpN {G : GH} {w : World} (hG : G.In w) (x : Dat) (cx : List Value) (hcx : ZcN.rep G x cx) (hx : 1 ≤ x.y ∧ x.y ≤ 9999) (U2 : 1 ≤ x.m ∧ x.m ≤ 12) (U3 : 1 ≤ x.d ∧ x.d ≤ 31) (U4 : x.d ≤ Xo x.y x.m) : CL Tryz.prog (nat_lit 190) #[.agg cx.toArray] [] w G fun _ _ r=>r = Za (Qf x):=by
 refine Zg ft [] Tryz.func190 V V ?_
 have hS:=St.start (X:=[]) hG
 obtain ⟨rfl,B1,B2,Z7⟩:=QZ hcx
 refine Z4 [U x.y,U x.m,U x.d] _ hS V V V (fun p1 w1 G1 L1 M1 C1 S1=>?_)
 refine Zc S1 C1 [U x.y,U x.m,U x.d] Y2 V V V V V ?_
 refine Zl S1 ZzD V V V (ZnV S1.imm x _ (Qw x B1 B2 Z7) hx U2 U3 U4) (fun w2 G2 S2 L2=>?_)
 refine dr [(13,false)] [(7,U x.y),(8,Za (ZA x.y.natAbs 4)),(9,Za ((ZA x.y.natAbs 4) ++ [45])),(11,U x.m),(12,Za (ZA x.m.natAbs 2)),(13,Za (((ZA x.y.natAbs 4) ++ [45]) ++ (ZA x.m.natAbs 2))),(14,Za ((((ZA x.y.natAbs 4) ++ [45]) ++ (ZA x.m.natAbs 2)) ++ [45])),(16,U x.d),(17,Za (ZA x.d.natAbs 2)),(18,Za (((((ZA x.y.natAbs 4) ++ [45]) ++ (ZA x.m.natAbs 2)) ++ [45]) ++ (ZA x.d.natAbs 2)))] S2 ⟨fun _ hSw=>Z hSw (Xh.drop 0 (C1.mono L2)) Zk V V V <| nu V V,fun _ hSw=>ZB hSw ZnP V V V (Zes hSw.imm x.y 4 ‹_› (by omega) (by omega) (by omega)) V,fun _=>Zh (ZA x.y.natAbs 4) [45] (by have:=(X0 x.y.natAbs 4 (by omega)); (try simp only [Zo]); have:=Zb; omega) V V V <| nu V V,fun _ hSw=>Z hSw (Xh.drop 1 (C1.mono L2)) Zk V V V <| nu V V,fun _ hSw=>ZB hSw ZnP V V V (Zes hSw.imm x.m 2 ‹_› (by omega) (by omega) (by omega)) V,fun _=>Zh ((ZA x.y.natAbs 4) ++ [45]) (ZA x.m.natAbs 2) (by have:=(X0 x.y.natAbs 4 (by omega)); have:=(X0 x.m.natAbs 2 (by omega)); (try simp only [Zo]); have:=Zb; omega) V V V <| nu V V,fun _=>Zh (((ZA x.y.natAbs 4) ++ [45]) ++ (ZA x.m.natAbs 2)) [45] (by have:=(X0 x.y.natAbs 4 (by omega)); have:=(X0 x.m.natAbs 2 (by omega)); (try simp only [Zo]); have:=Zb; omega) V V V <| nu V V,fun _ hSw=>Z hSw (Xh.drop 2 (C1.mono L2)) Zk V V V <| nu V V,fun _ hSw=>ZB hSw ZnP V V V (Zes hSw.imm x.d 2 ‹_› (by omega) (by omega) (by omega)) V,fun _=>Zh ((((ZA x.y.natAbs 4) ++ [45]) ++ (ZA x.m.natAbs 2)) ++ [45]) (ZA x.d.natAbs 2) (by have:=(X0 x.y.natAbs 4 (by omega)); have:=(X0 x.m.natAbs 2 (by omega)); have:=(X0 x.d.natAbs 2 (by omega)); (try simp only [Zo]); have:=Zb; omega) V V V <| nu V V,trivial⟩ (fun w3 S3=>?_)
 exact RT S3 V (congrArg Za (by rfl))
end Go.Civ
