/- Lemmas. -/
import Derived.Test.YtecneejegecmhaaGreatDoorK29
set_option linter.unusedVariables false
set_option linter.unusedSimpArgs false
set_option linter.unusedVariables false
set_option linter.unusedSimpArgs false
set_option maxRecDepth 100000
set_option maxHeartbeats 4000000
namespace Go.Civ
open Go.Proofs
theorem ZuE {G : GH} {w : World} (hG : G.In w) (d : Int) (hd : -719162 ≤ d ∧ d < 2932897) : CL Tryz.prog (nat_lit 219) #[U d] [] w G fun _ _ r=>r = .bool true:=by
 refine Zg ft [] Tryz.func219 V V ?_
 have hS:=St.start (X:=[]) hG
 refine ZM d (-719162) V V V (fun h1=>?_) (fun h1=>?_)
 ·refine Yd .lss V .i64 d 2932897 V V V ?_
  exact RB hS V (by simp_all [Cmp.b])
 exact RB hS V (by simp_all [Cmp.b] <;> (omega))
theorem Zjy {G : GH} {w : World} (hG : G.In w) (y : Int) (hy : 1 ≤ y ∧ y ≤ 9999) : CL Tryz.prog (nat_lit 221) #[U y] [] w G fun _ _ r=>r = .bool (XF y):=by
 refine Zg ft [] Tryz.func221 V V ?_
 have hy64 : Zj y:=⟨by omega,by omega⟩
 have hS:=St.start (X:=[]) hG
 refine XG y 4 (by omega) (by omega) V V V ?_
 refine Ze (y % 4) 0 V V V (fun h1=>?_) (fun h1=>?_)
 ·refine XG y 100 (by omega) (by omega) V V V ?_
  refine Zz (y % 100) 0 V V V (fun h2=>?_) (fun h2=>?_)
  ·exact RB hS V (by (unfold XF; simp_all [Cmp.b] <;> omega))
  refine XG y 400 (by omega) (by omega) V V V ?_
  refine Yd .eql V .i64 (y % 400) 0 V V V ?_
  exact RB hS V (by (rw [Bool.eq_iff_iff,ZbJ]; simp_all [Cmp.b] <;> omega))
 exact RB hS V (by (unfold XF; simp_all [Cmp.b] <;> omega))
theorem ZpR {G : GH} {w : World} (hG : G.In w) (y : Int) (hy : 1 ≤ y ∧ y ≤ 9999) : CL Tryz.prog (nat_lit 222) #[U y] [] w G fun _ _ r=>r = .bool (decide (y % 4 = 0)):=by
 refine Zg ft [] Tryz.func222 V V ?_
 have hy64 : Zj y:=⟨by omega,by omega⟩
 have hS:=St.start (X:=[]) hG
 refine ZM y 1 V V V (fun h1=>?_) (fun h1=>?_)
 ·refine X2 y 9999 V V V (fun h2=>?_) (fun h2=>?_)
  ·refine XG y 4 (by omega) (by omega) V V V ?_
   refine Yd .eql V .i64 (y % 4) 0 V V V ?_
   exact RB hS V (by (rw [Bool.eq_iff_iff]; simp [Cmp.b]))
  exact RB hS V (by (exfalso; omega))
 exact RB hS V (by (exfalso; omega))
theorem ZaP {G : GH} {w : World} (hG : G.In w) (y m : Int) (hy : 1 ≤ y ∧ y ≤ 9999) (hm : 1 ≤ m ∧ m ≤ 12) : CL Tryz.prog (nat_lit 220) #[U y,U m] [] w G fun _ _ r=>r = U (XB y m):=by
 refine Zg ft [] Tryz.func220 V V ?_
 have hS:=St.start (X:=[]) hG
 refine Zp y 1 V V V (fun h1=>?_) (fun h1=>?_)
 ·exact RI hS V (by (exfalso; omega))
 refine Z1 y 9999 V V V (fun h2=>?_) (fun h2=>?_)
 ·exact RI hS V (by (exfalso; omega))
 refine Zp m 1 V V V (fun h3=>?_) (fun h3=>?_)
 ·exact RI hS V (by (exfalso; omega))
 refine Z1 m 12 V V V (fun h4=>?_) (fun h4=>?_)
 ·exact RI hS V (by (exfalso; omega))
 refine Ze m 2 V V V (fun h5=>?_) (fun h5=>?_)
 ·refine XG y 4 (by omega) (by omega) V V V ?_
  refine Ze (y % 4) 0 V V V (fun h6=>?_) (fun h6=>?_)
  ·exact RI hS V (by exact Zwr ‹_› ‹_›)
  exact RI hS V (by exact Zws ‹_› ‹_›)
 refine Ze m 4 V V V (fun h7=>?_) (fun h7=>?_)
 ·exact RI hS V (by exact ZhV ‹_› (by omega))
 refine Ze m 6 V V V (fun h8=>?_) (fun h8=>?_)
 ·exact RI hS V (by exact ZhV ‹_› (by omega))
 refine Ze m 9 V V V (fun h9=>?_) (fun h9=>?_)
 ·exact RI hS V (by exact ZhV ‹_› (by omega))
 refine Ze m 11 V V V (fun h10=>?_) (fun h10=>?_)
 ·exact RI hS V (by exact ZhV ‹_› (by omega))
 exact RI hS V (by exact Zwt hm ‹_› (by omega))
theorem ZpS {G : GH} {w : World} (hG : G.In w) (d : Int) (hd : -719162 ≤ d ∧ d < 2932897) : CL Tryz.prog (nat_lit 195) #[U d] [] w G fun G' _ r=>∃ r0 r1,r = .tuple #[r0,r1] ∧ Is ZcN G' r0 (ZcO d) ∧ r1 = U 0:=by
 refine Yw ft [] Tryz.func195 V V ?_
 have hd64 : Zj d:=⟨by omega,by omega⟩
 have hS:=St.start (X:=[]) hG
 refine WL.alloc hS Y2 V V (fun b1 w1 N1 S1=>?_)
 refine Zl S1 ZzF V V V (ZuE S1.imm d hd) (fun w2 G1 S2 L1=>?_)
 have hi1 : Zj (d - (-719164)):=by constructor <;> omega
 refine WL.ar .sub V d (-719164) V V V hi1 ?_
 refine YZ (d - (-719164)) 1461 (by omega) (by omega) hi1 V V V ?_
 have hi2 : Zj (4 * ((d - (-719164)) / 1461)):=by constructor <;> omega
 refine WL.ar .mul V 4 ((d - (-719164)) / 1461) V V V hi2 ?_
 have hi3 : Zj ((4 * ((d - (-719164)) / 1461)) + 1):=by have:=hi2.1; have:=hi2.2; constructor <;> omega
 refine WL.ar .add V (4 * ((d - (-719164)) / 1461)) 1 V V V hi3 ?_
 refine XG (d - (-719164)) 1461 (by omega) (by omega) V V V ?_
 refine LP.go ft [] (fun m ρ1 w1=>∃ (k1 : Nat),∃ (yy : Int),∃ (nn : Int),∃ (G2 : GH),m = 3 - k1 ∧ G1.le G2 ∧ St w [] G G2 [some (b1,105,[U 0,U 0,U 0])] w1 ∧ FR ρ1 [(2, .pointer (some ⟨b1,0,none⟩)),(4,U nn),(5,U yy),(6,U (k1 : Int))] ∧ k1 ≤ 3 ∧ yy = 4 * ((d - -719164) / 1461) + 1 + k1 ∧ nn = (d - -719164) % 1461 - 365 * k1 ∧ 0 ≤ nn) _ ⟨0,((4 * ((d - (-719164)) / 1461)) + 1),((d - (-719164)) % 1461),G1,V,(G1.le_refl),S2,(ZS V),(by omega),(by omega),(by omega),(by omega)⟩ ?_
 rintro m ρ1 w3 ⟨k1,yy,nn,G2,rfl,L2,S3,F9,f1,f2,f3,f4⟩
 refine F9.set ?_
 clear F9
 have hyy64 : Zj yy:=⟨by omega,by omega⟩
 have hnn64 : Zj nn:=⟨by omega,by omega⟩
 refine Zp (k1 : Int) 3 V V V (fun h1=>?_) (fun h1=>?_)
 ·refine ZM nn 365 V V V (fun h2=>?_) (fun h2=>?_)
  ·have hi4 : Zj (yy + 1):=by have:=hyy64.1; have:=hyy64.2; constructor <;> omega
   refine WL.ar .add V yy 1 V V V hi4 ?_
   have hi5 : Zj (nn - 365):=by have:=hnn64.1; have:=hnn64.2; constructor <;> omega
   refine WL.ar .sub V nn 365 V V V hi5 ?_
   refine Zq k1 (by have:=Zb; omega) V V V ?_
   exact BK.mk' _ ⟨k1 + 1,(yy + 1),(nn - 365),G2,V,L2,S3,(ZS V),(by omega),(by omega),(by omega),(by omega)⟩ (show 3 - (k1 + 1) < 3 - k1 by omega)
  have hjy : yy = jY d ∧ nn = jR d:=Zsz (k:=k1) (by exact .inr (by omega)) (by omega) (by omega) (by omega)
  have hjb:=ZjO hd
  refine LP.go ft [] (fun m ρ1 w1=>∃ (mm : Int),∃ (nj : Int),∃ (G3 : GH),m = (12 - mm).toNat ∧ G2.le G3 ∧ St w [] G G3 [some (b1,105,[U 0,U 0,U 0])] w1 ∧ FR ρ1 [(2, .pointer (some ⟨b1,0,none⟩)),(4,U nj),(5,U yy),(7,U mm)] ∧ (1 ≤ mm ∧ mm ≤ 12) ∧ nj = jR d - Y3 (lpJ (jY d)) mm ∧ (0 ≤ nj ∧ nj ≤ 400)) _ ⟨1,nn,G2,V,(G2.le_refl),S3,(ZS V),(by omega),(by rw [ZfQ]; omega),(by omega)⟩ ?_
  rintro m ρ1 w4 ⟨mm,nj,G3,rfl,L3,S4,F9,f5,f6,f7⟩
  refine F9.set ?_
  clear F9
  have hmm64 : Zj mm:=⟨by omega,by omega⟩
  have hnj64 : Zj nj:=⟨by omega,by omega⟩
  have hlj:=@ZjN yy mm
  refine Zl S4 Zg9 V V V (ZaP S4.imm yy mm (by omega) (by omega)) (fun w5 G4 S5 L4=>?_)
  refine ZM nj (XB yy mm) V V V (fun h3=>?_) (fun h3=>?_)
  ·refine Zl S5 Zg9 V V V (ZaP S5.imm yy mm (by omega) (by omega)) (fun w6 G5 S6 L5=>?_)
   have hi6 : Zj (nj - (XB yy mm)):=by have:=hnj64.1; have:=hnj64.2; have:=(Zdm yy mm).1; have:=(Zdm yy mm).2; constructor <;> omega
   refine WL.ar .sub V nj (XB yy mm) V V V hi6 ?_
   have hi7 : Zj (mm + 1):=by have:=hmm64.1; have:=hmm64.2; constructor <;> omega
   refine WL.ar .add V mm 1 V V V hi7 ?_
   have hms:=Zs0 hd hjy.1 (by assumption : nj = jR d - Y3 (lpJ (jY d)) mm) (by omega) ‹_›
   exact BK.mk' _ ⟨(mm + 1),(nj - (XB yy mm)),G5,V,(L3.trans (L4.trans L5)),S6,(ZS V),(by omega),(by omega),(by omega)⟩ (show (12 - (mm + 1)).toNat < (12 - mm).toNat by omega)
  have hi8 : Zj (nj + 1):=by have:=hnj64.1; have:=hnj64.2; constructor <;> omega
  refine WL.ar .add V nj 1 V V V hi8 <| WL.build _ [(0,[U yy]),(1,[U mm]),(2,[U (nj + 1)])] [U yy,U mm,U (nj + 1)] Y2 V ZbF V V V V ?_
  refine Z9 S5 0 [U yy,U mm,U (nj + 1)] V V Y2 V V V V V V (fun w7 S7=>?_)
  exact Qk [.agg #[U yy,U mm,U (nj + 1)],U 0] S7 ⟨_,_,_,V,V,S7.loadA 0 _ _ _ 0 [U yy,U mm,U (nj + 1)] V V V Y2 V,⟨_,V,V⟩⟩ ⟨_,_,V,(Is.cast ⟨_,V,(Qw (Dat.mk yy mm (nj + 1)) hyy64 hmm64 hi8)⟩ (by exact Zs1 hd hjy.1 ‹_› (by omega) (by omega) (by omega))),(congrArg (Value.int .i64) (by rfl))⟩
 have hjy : yy = jY d ∧ nn = jR d:=Zsz (k:=k1) (by exact .inl (by omega)) (by omega) (by omega) (by omega)
 have hjb:=ZjO hd
 refine LP.go ft [] (fun m ρ1 w1=>∃ (mm : Int),∃ (nj : Int),∃ (G6 : GH),m = (12 - mm).toNat ∧ G2.le G6 ∧ St w [] G G6 [some (b1,105,[U 0,U 0,U 0])] w1 ∧ FR ρ1 [(2, .pointer (some ⟨b1,0,none⟩)),(4,U nj),(5,U yy),(7,U mm)] ∧ (1 ≤ mm ∧ mm ≤ 12) ∧ nj = jR d - Y3 (lpJ (jY d)) mm ∧ (0 ≤ nj ∧ nj ≤ 400)) _ ⟨1,nn,G2,V,(G2.le_refl),S3,(ZS V),(by omega),(by rw [ZfQ]; omega),(by omega)⟩ ?_
 rintro m ρ1 w9 ⟨mm,nj,G6,rfl,L6,S8,F9,f8,f9,f10⟩
 refine F9.set ?_
 clear F9
 have hmm64 : Zj mm:=⟨by omega,by omega⟩
 have hnj64 : Zj nj:=⟨by omega,by omega⟩
 have hlj:=@ZjN yy mm
 refine Zl S8 Zg9 V V V (ZaP S8.imm yy mm (by omega) (by omega)) (fun w10 G7 S9 L7=>?_)
 refine ZM nj (XB yy mm) V V V (fun h4=>?_) (fun h4=>?_)
 ·refine Zl S9 Zg9 V V V (ZaP S9.imm yy mm (by omega) (by omega)) (fun w11 G9 S10 L9=>?_)
  have hi9 : Zj (nj - (XB yy mm)):=by have:=hnj64.1; have:=hnj64.2; have:=(Zdm yy mm).1; have:=(Zdm yy mm).2; constructor <;> omega
  refine WL.ar .sub V nj (XB yy mm) V V V hi9 ?_
  have hi10 : Zj (mm + 1):=by have:=hmm64.1; have:=hmm64.2; constructor <;> omega
  refine WL.ar .add V mm 1 V V V hi10 ?_
  have hms:=Zs0 hd hjy.1 (by assumption : nj = jR d - Y3 (lpJ (jY d)) mm) (by omega) ‹_›
  exact BK.mk' _ ⟨(mm + 1),(nj - (XB yy mm)),G9,V,(L6.trans (L7.trans L9)),S10,(ZS V),(by omega),(by omega),(by omega)⟩ (show (12 - (mm + 1)).toNat < (12 - mm).toNat by omega)
 have hi11 : Zj (nj + 1):=by have:=hnj64.1; have:=hnj64.2; constructor <;> omega
 refine WL.ar .add V nj 1 V V V hi11 <| WL.build _ [(0,[U yy]),(1,[U mm]),(2,[U (nj + 1)])] [U yy,U mm,U (nj + 1)] Y2 V ZbF V V V V ?_
 refine Z9 S9 0 [U yy,U mm,U (nj + 1)] V V Y2 V V V V V V (fun w12 S11=>?_)
 exact Qk [.agg #[U yy,U mm,U (nj + 1)],U 0] S11 ⟨_,_,_,V,V,S11.loadA 0 _ _ _ 0 [U yy,U mm,U (nj + 1)] V V V Y2 V,⟨_,V,V⟩⟩ ⟨_,_,V,(Is.cast ⟨_,V,(Qw (Dat.mk yy mm (nj + 1)) hyy64 hmm64 hi11)⟩ (by exact Zs1 hd hjy.1 ‹_› (by omega) (by omega) (by omega))),(congrArg (Value.int .i64) (by rfl))⟩
theorem ZgP {G : GH} {w : World} (hG : G.In w) (y u : Int) (hx : 1 ≤ y ∧ y ≤ 9999) (U2 : 1 ≤ u ∧ u ≤ 12) : CL Tryz.prog (nat_lit 197) #[.agg (U y :: U u :: U 1 :: []).toArray] [] w G fun _ _ r=>∃ r0 r1,r = .tuple #[r0,r1] ∧ r0 = U (ZW y + Y3 (YV y) u) ∧ r1 = .bool true:=by
 refine Zg ft [4] Tryz.func197 V V ?_
 have hy64 : Zj y:=⟨by omega,by omega⟩
 have hu64 : Zj u:=⟨by omega,by omega⟩
 have hfb:=Zc9 (y:=y) (by omega)
 have hlj:=Zpp (y:=y) U2
 have hl01:=Zdw y
 have hS:=St.start (X:=[]) hG
 refine Z4 [U y,U u,U 1] _ hS V V V (fun p1 w1 G1 L1 M1 C1 S1=>?_)
 refine Z S1 (Xh.drop 0 C1) Zk V V V <| Z S1 (Xh.drop 1 C1) Zk V V V ?_
 refine Zl S1 Zg9 V V V (ZaP S1.imm y u hx (by omega)) (fun w2 G2 S2 L2=>?_)
 refine JN.go ft [4] (fun ρ1 w1=>∃ (ll : Int),∃ (G3 : GH),G2.le G3 ∧ St w [] G G3 [] w1 ∧ FR ρ1 [(1,ZP p1),(4,U ll)] ∧ 1 ≤ ll) ?_ ?_
 ·refine Z S2 (Xh.drop 1 (C1.mono L2)) Zk V V V ?_
  refine Ze u 2 V V V (fun h1=>?_) (fun h1=>?_)
  ·refine Z S2 (Xh.drop 0 (C1.mono L2)) Zk V V V ?_
   refine Zl S2 Zt1 V V V (Zjy S2.imm y hx) (fun w4 G4 S4 L4=>?_)
   refine WL.split (fun (h2 : (XF y) = true)=>?_) (fun (h2 : (XF y) = false)=>?_)
   ·exact ⟨(XB y u),G4,L4,S4,⟨V,V,trivial⟩,(by omega)⟩
   refine Z1 (XB y u) 0 V V V (fun h3=>?_) (fun h3=>?_)
   ·exact ⟨28,G4,L4,S4,⟨V,V,trivial⟩,(by omega)⟩
   exact ⟨(XB y u),G4,L4,S4,⟨V,V,trivial⟩,(by omega)⟩
  exact ⟨(XB y u),G2,(G2.le_refl),S2,⟨V,V,trivial⟩,(by omega)⟩
 rintro ρ1 w3 ⟨ll,G3,L3,S3,F9,f1⟩
 refine F9.set ?_
 have j1:=(L2.trans L3)
 refine Z S3 (Xh.drop 2 (C1.mono j1)) Zk V V V ?_
 refine Zp 1 1 V V V (fun h4=>?_) (fun h4=>?_)
 ·exact RT S3 V ⟨_,_,V,(congrArg (Value.int .i64) (by (exfalso; omega))),(congrArg Value.bool (by (exfalso; omega)))⟩
 refine Z S3 (Xh.drop 2 (C1.mono j1)) Zk V V V ?_
 refine Z1 1 ll V V V (fun h5=>?_) (fun h5=>?_)
 ·exact RT S3 V ⟨_,_,V,(congrArg (Value.int .i64) (by (exfalso; omega))),(congrArg Value.bool (by (exfalso; omega)))⟩
 refine Z S3 (Xh.drop 0 (C1.mono j1)) Zk V V V ?_
 have hi1 : Zj (y - 1):=by have:=hy64.1; have:=hy64.2; constructor <;> omega
 refine WL.ar .sub V y 1 V V V hi1 ?_
 have hi2 : Zj (365 * (y - 1)):=by have:=hi1.1; have:=hi1.2; constructor <;> omega
 refine WL.ar .mul V 365 (y - 1) V V V hi2 ?_
 have hi3 : Zj ((-719162) + (365 * (y - 1))):=by have:=hi2.1; have:=hi2.2; constructor <;> omega
 refine WL.ar .add V (-719162) (365 * (y - 1)) V V V hi3 ?_
 refine YZ (y - 1) 4 (by omega) (by omega) hi1 V V V ?_
 have hi4 : Zj (((-719162) + (365 * (y - 1))) + ((y - 1) / 4)):=by have:=hi3.1; have:=hi3.2; constructor <;> omega
 refine WL.ar .add V ((-719162) + (365 * (y - 1))) ((y - 1) / 4) V V V hi4 ?_
 refine YZ (y - 1) 100 (by omega) (by omega) hi1 V V V ?_
 have hi5 : Zj ((((-719162) + (365 * (y - 1))) + ((y - 1) / 4)) - ((y - 1) / 100)):=by have:=hi4.1; have:=hi4.2; constructor <;> omega
 refine WL.ar .sub V (((-719162) + (365 * (y - 1))) + ((y - 1) / 4)) ((y - 1) / 100) V V V hi5 ?_
 refine YZ (y - 1) 400 (by omega) (by omega) hi1 V V V ?_
 have hi6 : Zj (((((-719162) + (365 * (y - 1))) + ((y - 1) / 4)) - ((y - 1) / 100)) + ((y - 1) / 400)):=by have:=hi5.1; have:=hi5.2; constructor <;> omega
 refine WL.ar .add V ((((-719162) + (365 * (y - 1))) + ((y - 1) / 4)) - ((y - 1) / 100)) ((y - 1) / 400) V V V hi6 ?_
 refine LP.go ft [4] (fun m ρ1 w1=>∃ (mm : Int),∃ (nn : Int),∃ (G5 : GH),m = (u - mm).toNat ∧ G3.le G5 ∧ St w [] G G5 [] w1 ∧ FR ρ1 [(1,ZP p1),(6,U nn),(7,U mm)] ∧ (1 ≤ mm ∧ mm ≤ u) ∧ nn = ZW y + Y3 (lpJ y) mm) _ ⟨1,(((((-719162) + (365 * (y - 1))) + ((y - 1) / 4)) - ((y - 1) / 100)) + ((y - 1) / 400)),G3,V,(G3.le_refl),S3,⟨V,V,V,trivial⟩,(by omega),(by rw [ZfQ,← Zsw]; omega)⟩ ?_
 rintro m ρ1 w5 ⟨mm,nn,G5,rfl,L5,S5,F9,f2,f3⟩
 refine F9.set ?_
 clear F9
 have hmm64 : Zj mm:=⟨by omega,by omega⟩
 have hlb:=ZdO (m:=mm) (by omega) hl01
 have hnn64 : Zj nn:=⟨by omega,by omega⟩
 have hlj2:=@ZjN y mm
 have j2:=(j1.trans L5)
 refine Z S5 (Xh.drop 1 (C1.mono j2)) Zk V V V ?_
 refine Zp mm u V V V (fun h6=>?_) (fun h6=>?_)
 ·refine Z S5 (Xh.drop 0 (C1.mono j2)) Zk V V V ?_
  refine Zl S5 Zg9 V V V (ZaP S5.imm y mm hx (by omega)) (fun w6 G6 S6 L6=>?_)
  have hi7 : Zj (nn + (XB y mm)):=by have:=hnn64.1; have:=hnn64.2; have:=(Zdm y mm).1; have:=(Zdm y mm).2; constructor <;> omega
  refine WL.ar .add V nn (XB y mm) V V V hi7 ?_
  have hi8 : Zj (mm + 1):=by have:=hmm64.1; have:=hmm64.2; constructor <;> omega
  refine WL.ar .add V mm 1 V V V hi8 ?_
  exact BK.mk' _ ⟨(mm + 1),(nn + (XB y mm)),G6,V,(L5.trans L6),S6,⟨V,V,V,trivial⟩,(by omega),(by unfold XB; omega)⟩ (show (u - (mm + 1)).toNat < (u - mm).toNat by omega)
 refine Z S5 (Xh.drop 1 (C1.mono j2)) Zk V V V ?_
 refine Z1 u 2 V V V (fun h7=>?_) (fun h7=>?_)
 ·refine Z S5 (Xh.drop 0 (C1.mono j2)) Zk V V V ?_
  refine Zl S5 ZzG V V V (ZpR S5.imm y hx) (fun w7 G7 S7 L7=>?_)
  refine WL.split (fun (h8 : (decide (y % 4 = 0)) = true)=>?_) (fun (h8 : (decide (y % 4 = 0)) = false)=>?_)
  ·refine Z S7 (Xh.drop 0 (C1.mono (j2.trans L7))) Zk V V V ?_
   refine Zl S7 Zt1 V V V (Zjy S7.imm y hx) (fun w9 G9 S8 L9=>?_)
   refine WL.split (fun (h9 : (XF y) = true)=>?_) (fun (h9 : (XF y) = false)=>?_)
   ·refine Z S8 (Xh.drop 2 (C1.mono ((((L2.trans L3).trans L5).trans L7).trans L9))) Zk V V V ?_
    have hi9 : Zj (nn + 1):=by have:=hnn64.1; have:=hnn64.2; constructor <;> omega
    refine WL.ar .add V nn 1 V V V hi9 ?_
    have hi10 : Zj ((nn + 1) - 1):=by have:=hi9.1; have:=hi9.2; constructor <;> omega
    refine WL.ar .sub V (nn + 1) 1 V V V hi10 ?_
    exact RT S8 V ⟨_,_,V,(congrArg (Value.int .i64) (by exact Zn3 ‹_› (by omega) (by omega) (by exact .inr (.inr ‹_›)))),(congrArg Value.bool (by rfl))⟩
   have hi11 : Zj (nn - 1):=by have:=hnn64.1; have:=hnn64.2; constructor <;> omega
   refine WL.ar .sub V nn 1 V V V hi11 <| Z S8 (Xh.drop 2 (C1.mono ((((L2.trans L3).trans L5).trans L7).trans L9))) Zk V V V ?_
   have hi12 : Zj ((nn - 1) + 1):=by have:=hi11.1; have:=hi11.2; constructor <;> omega
   refine WL.ar .add V (nn - 1) 1 V V V hi12 ?_
   have hi13 : Zj (((nn - 1) + 1) - 1):=by have:=hi12.1; have:=hi12.2; constructor <;> omega
   refine WL.ar .sub V ((nn - 1) + 1) 1 V V V hi13 ?_
   exact RT S8 V ⟨_,_,V,(congrArg (Value.int .i64) (by exact Zym ‹_› (by omega) (by omega) (by omega) ‹_› ‹_›)),(congrArg Value.bool (by rfl))⟩
  refine Z S7 (Xh.drop 2 (C1.mono (j2.trans L7))) Zk V V V ?_
  have hi14 : Zj (nn + 1):=by have:=hnn64.1; have:=hnn64.2; constructor <;> omega
  refine WL.ar .add V nn 1 V V V hi14 ?_
  have hi15 : Zj ((nn + 1) - 1):=by have:=hi14.1; have:=hi14.2; constructor <;> omega
  refine WL.ar .sub V (nn + 1) 1 V V V hi15 ?_
  exact RT S7 V ⟨_,_,V,(congrArg (Value.int .i64) (by exact Zn3 ‹_› (by omega) (by omega) (by exact .inr (.inl ‹_›)))),(congrArg Value.bool (by rfl))⟩
 refine Z S5 (Xh.drop 2 (C1.mono j2)) Zk V V V ?_
 have hi16 : Zj (nn + 1):=by have:=hnn64.1; have:=hnn64.2; constructor <;> omega
 refine WL.ar .add V nn 1 V V V hi16 ?_
 have hi17 : Zj ((nn + 1) - 1):=by have:=hi16.1; have:=hi16.2; constructor <;> omega
 refine WL.ar .sub V (nn + 1) 1 V V V hi17 ?_
 exact RT S5 V ⟨_,_,V,(congrArg (Value.int .i64) (by exact Zn3 ‹_› (by omega) (by omega) (by exact .inl (by omega)))),(congrArg Value.bool (by rfl))⟩
theorem ZnY {G : GH} {w : World} (hG : G.In w) (y : Int) (hy : 1 ≤ y ∧ y ≤ 9999) : CL Tryz.prog (nat_lit 196) #[U y] [] w G fun _ _ r=>r = U (ZW y):=by
 refine Zg ft [] Tryz.func196 V V ?_
 have hy64 : Zj y:=⟨by omega,by omega⟩
 have hS:=St.start (X:=[]) hG
 refine WL.build _ [(0,[U y]),(1,[U 1]),(2,[U 1])] [U y,U 1,U 1] Y2 V ZbF V V V V ?_
 refine Yq hS Ztv V V V (ZgP hS.imm y 1 hy (show (1 : Int) ≤ 1 ∧ (1 : Int) ≤ 12 by decide)) ?_
 rintro w1 G1 _ ⟨_,_,rfl,rfl,rfl⟩ S1 L1
 exact RI S1 V (by exact Zyn y)
theorem ZrB {G : GH} {w : World} (hG : G.In w) (d : Int) (hd : -719162 ≤ d ∧ d < 2932897) : CL Tryz.prog (nat_lit 152) #[U d] [] w G fun G' _ r=>Is ZcN G' r (ZC d):=by
 refine Yw ft [] Tryz.func152 V V ?_
 have hd64 : Zj d:=⟨by omega,by omega⟩
 have hjl:=Zyl hd
 have hS:=St.start (X:=[]) hG
 refine WL.alloc hS Y2 V V (fun b1 w1 N1 S1=>?_)
 refine Yq S1 Zz7 V V V (ZpS S1.imm d hd) ?_
 rintro w2 G1 _ ⟨r2,_,rfl,A1,rfl⟩ S2 L1
 obtain ⟨D1,rfl,R1⟩:=A1
 obtain ⟨rfl,B1,B2,Z7⟩:=QZ R1
 refine WL.alloc S2 Y2 V V (fun b2 w3 N2 S3=>?_)
 refine Z9 S3 0 [U ((ZcO d).y),U ((ZcO d).m),U ((ZcO d).d)] V V Y2 V V V V V V (fun w4 S4=>?_)
 obtain ⟨G2,L2,C1,S5⟩:=S4.shutB N2
 refine Z S5 (Xh.drop 0 C1) Zk V V V ?_
 have hi1 : Zj (((ZcO d).y) + 1):=by have:=B1.1; have:=B1.2; constructor <;> omega
 refine WL.ar .add V ((ZcO d).y) 1 V V V hi1 ?_
 refine LP.go ft [] (fun m ρ1 w1=>∃ (yy : Int),∃ (G3 : GH),m = yy.toNat + 1 ∧ G2.le G3 ∧ St w [] G G3 [some (b1,105,[U 0,U 0,U 0])] w1 ∧ FR ρ1 [(0,U d),(2, .pointer (some ⟨b1,0,none⟩)),(5,U yy)] ∧ (1 ≤ yy ∧ yy ≤ 10000) ∧ yF d ≤ yy) _ ⟨(((ZcO d).y) + 1),G2,V,(G2.le_refl),S5,⟨V,V,V,trivial⟩,(by omega),(by omega)⟩ ?_
 rintro m ρ1 w5 ⟨yy,G3,rfl,L3,S6,F9,f1,f2⟩
 refine F9.set ?_
 clear F9
 have hyy64 : Zj yy:=⟨by omega,by omega⟩
 have hyf0:=(Zb7 hd).1
 refine Z1 yy 9999 V V V (fun h1=>?_) (fun h1=>?_)
 ·have hi2 : Zj (yy - 1):=by have:=hyy64.1; have:=hyy64.2; constructor <;> omega
  refine WL.ar .sub V yy 1 V V V hi2 ?_
  have hfs:=ZjP hd (by assumption : yF d ≤ yy) (by exact .inl (by omega))
  exact BK.mk' _ ⟨(yy - 1),G3,V,L3,S6,⟨V,V,V,trivial⟩,(by omega),(by exact ZjP hd ‹_› (by exact .inl (by omega)))⟩ (show (yy - 1).toNat + 1 < yy.toNat + 1 by omega)
 refine Zl S6 Zz8 V V V (ZnY S6.imm yy (by omega)) (fun w6 G4 S7 L4=>?_)
 refine Z1 (ZW yy) d V V V (fun h2=>?_) (fun h2=>?_)
 ·have hi3 : Zj (yy - 1):=by have:=hyy64.1; have:=hyy64.2; constructor <;> omega
  refine WL.ar .sub V yy 1 V V V hi3 ?_
  have hfs:=ZjP hd (by assumption : yF d ≤ yy) (by exact .inr ‹_›)
  exact BK.mk' _ ⟨(yy - 1),G4,V,(L3.trans L4),S7,⟨V,V,V,trivial⟩,(by omega),(by exact ZjP hd ‹_› (by exact .inr ‹_›))⟩ (show (yy - 1).toNat + 1 < yy.toNat + 1 by omega)
 have hyf:=Zyo hd (by omega : yy ≤ 9999) (by omega : ZW yy ≤ d) (by omega)
 have hdi:=Zb7 hd
 have hmm0:=hdi.2.2.2.2
 refine LP.go ft [] (fun m ρ1 w1=>∃ (mm : Int),∃ (G5 : GH),m = mm.toNat + 1 ∧ G4.le G5 ∧ St w [] G G5 [some (b1,105,[U 0,U 0,U 0])] w1 ∧ FR ρ1 [(0,U d),(2, .pointer (some ⟨b1,0,none⟩)),(5,U yy),(6,U mm)] ∧ (1 ≤ mm ∧ mm ≤ 12) ∧ mF d ≤ mm) _ ⟨12,G4,V,(G4.le_refl),S7,(ZS V),(by omega),(by omega)⟩ ?_
 rintro m ρ1 w7 ⟨mm,G5,rfl,L5,S8,F9,f3,f4⟩
 refine F9.set ?_
 clear F9
 have hmm64 : Zj mm:=⟨by omega,by omega⟩
 have hlb:=ZdO (m:=mm) (by omega) (Zap yy)
 have hfb:=Zc9 (y:=yy) (by omega)
 refine WL.build _ [(0,[U yy]),(1,[U mm]),(2,[U 1])] [U yy,U mm,U 1] Y2 V ZbF V V V V ?_
 refine Yq S8 Ztv V V V (ZgP S8.imm yy mm (by omega) (by omega)) ?_
 rintro w9 G6 _ ⟨_,_,rfl,rfl,rfl⟩ S9 L6
 refine X2 (ZW yy + Y3 (YV yy) mm) d V V V (fun h3=>?_) (fun h3=>?_)
 ·have hi4 : Zj (d - (ZW yy + Y3 (YV yy) mm)):=by have:=(Zpq yy mm (by omega) (by omega)).1; have:=(Zpq yy mm (by omega) (by omega)).2; constructor <;> omega
  refine WL.ar .sub V d (ZW yy + Y3 (YV yy) mm) V V V hi4 ?_
  have hi5 : Zj ((d - (ZW yy + Y3 (YV yy) mm)) + 1):=by have:=hi4.1; have:=hi4.2; constructor <;> omega
  refine WL.ar .add V (d - (ZW yy + Y3 (YV yy) mm)) 1 V V V hi5 <| WL.build _ [(0,[U yy]),(1,[U mm]),(2,[U ((d - (ZW yy + Y3 (YV yy) mm)) + 1)])] [U yy,U mm,U ((d - (ZW yy + Y3 (YV yy) mm)) + 1)] Y2 V ZbF V V V V ?_
  refine Z9 S9 0 [U yy,U mm,U ((d - (ZW yy + Y3 (YV yy) mm)) + 1)] V V Y2 V V V V V V (fun w10 S10=>?_)
  obtain ⟨G7,L7,C2,S11⟩:=S10.shutB N1
  exact Qk [.agg #[U yy,U mm,U ((d - (ZW yy + Y3 (YV yy) mm)) + 1)]] S11 ⟨_,_,_,V,V,S11.loadC C2 Y2 V V,V⟩ (Is.cast ⟨_,V,(Qw (Dat.mk yy mm ((d - (ZW yy + Y3 (YV yy) mm)) + 1)) hyy64 hmm64 hi5)⟩ (by exact Zyq hd hyf ‹_› (by omega) (by omega)))
 have hi6 : Zj (mm - 1):=by have:=hmm64.1; have:=hmm64.2; constructor <;> omega
 refine WL.ar .sub V mm 1 V V V hi6 ?_
 have hfm:=Zyp hd hyf (by assumption : mF d ≤ mm) ‹_›
 have hfm1:=hdi.2.2.2.1
 exact BK.mk' _ ⟨(mm - 1),G6,V,(L5.trans L6),S9,(ZS V),(by omega),(by exact hfm)⟩ (show (mm - 1).toNat + 1 < mm.toNat + 1 by omega)
theorem Zmc {G : GH} {w : World} (hG : G.In w) (t : Int) (ht64 : Zj t) (ht : -62135596800 ≤ t ∧ t < 253402300800) : CL Tryz.prog (nat_lit 106) #[U t] [] w G fun _ _ r=>r = Za (ZeQ (X7 t)):=by
 refine Zg ft [] Tryz.func106 V V ?_
 have hdf:=Zn0 (d:=t / 86400) (by omega)
 have hS:=St.start (X:=[]) hG
 refine Yq hS Zto V V V (ZlI hS.imm t ht64 (by omega)) ?_
 rintro w1 G1 _ ⟨_,_,_,rfl,rfl,rfl,rfl⟩ S1 L1
 refine Yq S1 Zzo V V V (ZrB S1.imm (t / 86400) (by omega)) (fun w2 G2 r5 P2 S2 L2=>?_)
 obtain ⟨D1,rfl,R1⟩:=P2
 obtain ⟨rfl,B1,B2,Z7⟩:=QZ R1
 refine WL.alloc S2 Y2 V V (fun b1 w3 N1 S3=>?_)
 refine Z9 S3 0 [U ((ZC (t / 86400)).y),U ((ZC (t / 86400)).m),U ((ZC (t / 86400)).d)] V V Y2 V V V V V V (fun w4 S4=>?_)
 obtain ⟨G3,L3,C1,S5⟩:=S4.shutB N1
 refine dr [(13,false)] [(17,U ((ZC (t / 86400)).y)),(18,Za (Z8 ((ZC (t / 86400)).y) 4)),(19,Za ((Z8 ((ZC (t / 86400)).y) 4) ++ [45])),(21,U ((ZC (t / 86400)).m)),(22,Za (Z8 ((ZC (t / 86400)).m) 2)),(23,Za (((Z8 ((ZC (t / 86400)).y) 4) ++ [45]) ++ (Z8 ((ZC (t / 86400)).m) 2))),(24,Za ((((Z8 ((ZC (t / 86400)).y) 4) ++ [45]) ++ (Z8 ((ZC (t / 86400)).m) 2)) ++ [45])),(26,U ((ZC (t / 86400)).d)),(27,Za (Z8 ((ZC (t / 86400)).d) 2)),(28,Za (((((Z8 ((ZC (t / 86400)).y) 4) ++ [45]) ++ (Z8 ((ZC (t / 86400)).m) 2)) ++ [45]) ++ (Z8 ((ZC (t / 86400)).d) 2)))] S5 ⟨fun _ hSw=>Z hSw (Xh.drop 0 C1) Zk V V V <| nu V V,fun _ hSw=>ZB hSw Xw V V V (Zab hSw.imm ((ZC (t / 86400)).y) 4 ‹_› (by omega)) V,fun _=>Zh (Z8 ((ZC (t / 86400)).y) 4) [45] (by have:=(ZK ((ZC (t / 86400)).y) 4 ‹_› (by omega)); (try simp only [Zo]); have:=Zb; omega) V V V <| nu V V,fun _ hSw=>Z hSw (Xh.drop 1 C1) Zk V V V <| nu V V,fun _ hSw=>ZB hSw Xw V V V (Zab hSw.imm ((ZC (t / 86400)).m) 2 ‹_› (by omega)) V,fun _=>Zh ((Z8 ((ZC (t / 86400)).y) 4) ++ [45]) (Z8 ((ZC (t / 86400)).m) 2) (by have:=(ZK ((ZC (t / 86400)).y) 4 ‹_› (by omega)); have:=(ZK ((ZC (t / 86400)).m) 2 ‹_› (by omega)); (try simp only [Zo]); have:=Zb; omega) V V V <| nu V V,fun _=>Zh (((Z8 ((ZC (t / 86400)).y) 4) ++ [45]) ++ (Z8 ((ZC (t / 86400)).m) 2)) [45] (by have:=(ZK ((ZC (t / 86400)).y) 4 ‹_› (by omega)); have:=(ZK ((ZC (t / 86400)).m) 2 ‹_› (by omega)); (try simp only [Zo]); have:=Zb; omega) V V V <| nu V V,fun _ hSw=>Z hSw (Xh.drop 2 C1) Zk V V V <| nu V V,fun _ hSw=>ZB hSw Xw V V V (Zab hSw.imm ((ZC (t / 86400)).d) 2 ‹_› (by omega)) V,fun _=>Zh ((((Z8 ((ZC (t / 86400)).y) 4) ++ [45]) ++ (Z8 ((ZC (t / 86400)).m) 2)) ++ [45]) (Z8 ((ZC (t / 86400)).d) 2) (by have:=(ZK ((ZC (t / 86400)).y) 4 ‹_› (by omega)); have:=(ZK ((ZC (t / 86400)).m) 2 ‹_› (by omega)); have:=(ZK ((ZC (t / 86400)).d) 2 ‹_› (by omega)); (try simp only [Zo]); have:=Zb; omega) V V V <| nu V V,trivial⟩ (fun w5 S6=>?_)
 refine Zh (((((Z8 ((ZC (t / 86400)).y) 4) ++ [45]) ++ (Z8 ((ZC (t / 86400)).m) 2)) ++ [45]) ++ (Z8 ((ZC (t / 86400)).d) 2)) [84] (by have:=(ZK ((ZC (t / 86400)).y) 4 ‹_› (by omega)); have:=(ZK ((ZC (t / 86400)).m) 2 ‹_› (by omega)); have:=(ZK ((ZC (t / 86400)).d) 2 ‹_› (by omega)); (try simp only [Zo]); have:=Zb; omega) V V V ?_
 refine YZ (t % 86400) 3600 (by omega) (by omega) (Zlj) V V V ?_
 refine Zl S6 Xw V V V (Zab S6.imm ((t % 86400) / 3600) 2 (by (constructor <;> omega)) (by omega)) (fun w6 G4 S7 L4=>?_)
 refine Zh ((((((Z8 ((ZC (t / 86400)).y) 4) ++ [45]) ++ (Z8 ((ZC (t / 86400)).m) 2)) ++ [45]) ++ (Z8 ((ZC (t / 86400)).d) 2)) ++ [84]) (Z8 ((t % 86400) / 3600) 2) (by have:=(ZK ((ZC (t / 86400)).y) 4 ‹_› (by omega)); have:=(ZK ((ZC (t / 86400)).m) 2 ‹_› (by omega)); have:=(ZK ((ZC (t / 86400)).d) 2 ‹_› (by omega)); have:=(ZK ((t % 86400) / 3600) 2 (by (constructor <;> omega)) (by omega)); (try simp only [Zo]); have:=Zb; omega) V V V ?_
 refine Zh (((((((Z8 ((ZC (t / 86400)).y) 4) ++ [45]) ++ (Z8 ((ZC (t / 86400)).m) 2)) ++ [45]) ++ (Z8 ((ZC (t / 86400)).d) 2)) ++ [84]) ++ (Z8 ((t % 86400) / 3600) 2)) [58] (by have:=(ZK ((ZC (t / 86400)).y) 4 ‹_› (by omega)); have:=(ZK ((ZC (t / 86400)).m) 2 ‹_› (by omega)); have:=(ZK ((ZC (t / 86400)).d) 2 ‹_› (by omega)); have:=(ZK ((t % 86400) / 3600) 2 (by (constructor <;> omega)) (by omega)); (try simp only [Zo]); have:=Zb; omega) V V V ?_
 refine YZ (t % 86400) 60 (by omega) (by omega) (Zlj) V V V ?_
 refine XG ((t % 86400) / 60) 60 (by omega) (by omega) V V V ?_
 refine Zl S7 Xw V V V (Zab S7.imm (((t % 86400) / 60) % 60) 2 (by (constructor <;> omega)) (by omega)) (fun w7 G5 S8 L5=>?_)
 refine Zh ((((((((Z8 ((ZC (t / 86400)).y) 4) ++ [45]) ++ (Z8 ((ZC (t / 86400)).m) 2)) ++ [45]) ++ (Z8 ((ZC (t / 86400)).d) 2)) ++ [84]) ++ (Z8 ((t % 86400) / 3600) 2)) ++ [58]) (Z8 (((t % 86400) / 60) % 60) 2) (by have:=(ZK ((ZC (t / 86400)).y) 4 ‹_› (by omega)); have:=(ZK ((ZC (t / 86400)).m) 2 ‹_› (by omega)); have:=(ZK ((ZC (t / 86400)).d) 2 ‹_› (by omega)); have:=(ZK ((t % 86400) / 3600) 2 (by (constructor <;> omega)) (by omega)); have:=(ZK (((t % 86400) / 60) % 60) 2 (by (constructor <;> omega)) (by omega)); (try simp only [Zo]); have:=Zb; omega) V V V ?_
 refine Zh (((((((((Z8 ((ZC (t / 86400)).y) 4) ++ [45]) ++ (Z8 ((ZC (t / 86400)).m) 2)) ++ [45]) ++ (Z8 ((ZC (t / 86400)).d) 2)) ++ [84]) ++ (Z8 ((t % 86400) / 3600) 2)) ++ [58]) ++ (Z8 (((t % 86400) / 60) % 60) 2)) [58] (by have:=(ZK ((ZC (t / 86400)).y) 4 ‹_› (by omega)); have:=(ZK ((ZC (t / 86400)).m) 2 ‹_› (by omega)); have:=(ZK ((ZC (t / 86400)).d) 2 ‹_› (by omega)); have:=(ZK ((t % 86400) / 3600) 2 (by (constructor <;> omega)) (by omega)); have:=(ZK (((t % 86400) / 60) % 60) 2 (by (constructor <;> omega)) (by omega)); (try simp only [Zo]); have:=Zb; omega) V V V ?_
 refine XG (t % 86400) 60 (by omega) (by omega) V V V ?_
 refine Zl S8 Xw V V V (Zab S8.imm ((t % 86400) % 60) 2 (by (constructor <;> omega)) (by omega)) (fun w9 G6 S9 L6=>?_)
 refine Zh ((((((((((Z8 ((ZC (t / 86400)).y) 4) ++ [45]) ++ (Z8 ((ZC (t / 86400)).m) 2)) ++ [45]) ++ (Z8 ((ZC (t / 86400)).d) 2)) ++ [84]) ++ (Z8 ((t % 86400) / 3600) 2)) ++ [58]) ++ (Z8 (((t % 86400) / 60) % 60) 2)) ++ [58]) (Z8 ((t % 86400) % 60) 2) (by have:=(ZK ((ZC (t / 86400)).y) 4 ‹_› (by omega)); have:=(ZK ((ZC (t / 86400)).m) 2 ‹_› (by omega)); have:=(ZK ((ZC (t / 86400)).d) 2 ‹_› (by omega)); have:=(ZK ((t % 86400) / 3600) 2 (by (constructor <;> omega)) (by omega)); have:=(ZK (((t % 86400) / 60) % 60) 2 (by (constructor <;> omega)) (by omega)); have:=(ZK ((t % 86400) % 60) 2 (by (constructor <;> omega)) (by omega)); (try simp only [Zo]); have:=Zb; omega) V V V ?_
 exact RT S9 V (congrArg Za (by exact Zyr ht))
theorem Zge {G : GH} {w : World} (hG : G.In w) (v : Val) (cv : List Value) (hcv : ValE.rep G v cv) (hv : Yo v = true) : CL Tryz.prog (nat_lit 67) #[.agg cv.toArray] [] w G fun _ _ r=>r = Za (QK v):=by
 refine Zg ft [] Tryz.func67 V V ?_
 have hvp:=Zn4 hv
 have hS:=St.start (X:=[]) hG
 obtain ⟨rfl,B1,B2,Z7⟩:=ZbO hcv
 refine Z4 [U v.k,U v.n,Za v.s] _ hS V V V (fun p1 w1 G1 L1 M1 C1 S1=>?_)
 refine Z S1 (Xh.drop 0 C1) Zk V V V ?_
 refine Ze v.k 1 V V V (fun h1=>?_) (fun h1=>?_)
 ·refine Z S1 (Xh.drop 1 C1) Zk V V V ?_
  refine Zl S1 Xw V V V (Zab S1.imm v.n 0 ‹_› (by omega)) (fun w2 G2 S2 L2=>?_)
  exact RT S2 V (congrArg Za (by exact Z0Q ‹_›))
 refine Ze v.k 3 V V V (fun h2=>?_) (fun h2=>?_)
 ·refine Z S1 (Xh.drop 1 C1) Zk V V V ?_
  refine Ze v.n 1 V V V (fun h3=>?_) (fun h3=>?_)
  ·exact RT S1 V (congrArg Za (by exact Zs2 ‹_› ‹_›))
  exact RT S1 V (congrArg Za (by exact Zs3 ‹_› ‹_›))
 refine Ze v.k 4 V V V (fun h4=>?_) (fun h4=>?_)
 ·refine Z S1 (Xh.drop 1 C1) Zk V V V ?_
  refine Ze v.n 253402300800 V V V (fun h5=>?_) (fun h5=>?_)
  ·exact RT S1 V (congrArg Za (by exact Zs4 ‹_› ‹_›))
  refine Z S1 (Xh.drop 1 C1) Zk V V V ?_
  refine Zl S1 Zfm V V V (Zmc S1.imm v.n ‹_› (by omega)) (fun w3 G3 S3 L3=>?_)
  exact RT S3 V (congrArg Za (by exact Zs5 ‹_› ‹_›))
 refine LP.go ft [] (fun m ρ1 w1=>∃ (k1 : Nat),∃ (ss : List UInt8),∃ (G4 : GH),m = v.s.length - k1 ∧ G1.le G4 ∧ St w [] G G4 [] w1 ∧ FR ρ1 [(1,ZP p1),(3,Za ss),(4,U (k1 : Int))] ∧ k1 ≤ v.s.length ∧ ss = [34] ++ ZbK (v.s.take k1) ∧ k1 ≤ 30) _ ⟨0,[34],G1,V,(G1.le_refl),S1,⟨V,V,V,trivial⟩,(by omega),(by rfl),(by omega)⟩ ?_
 rintro m ρ1 w4 ⟨k1,ss,G4,rfl,L4,S4,F9,f1,f2,f3⟩
 refine F9.set ?_
 clear F9
 have hsl:=Zyu (by assumption : ss = _) ‹_›
 refine Z S4 (Xh.drop 2 (C1.mono L4)) Zv V V V <| YN v.s X1 V V ?_
 refine Zp (k1 : Int) (v.s.length : Int) V V V (fun h6=>?_) (fun h6=>?_)
 ·refine Z S4 (Xh.drop 2 (C1.mono L4)) Zv V V V ?_
  refine YY v.s k1 (by omega) X1 V V V (fun c1 U1=>?_)
  refine Ze (c1.toNat : Int) 34 V V V (fun h7=>?_) (fun h7=>?_)
  ·refine Zh ss [92] (by have:=hsl; (try simp only [Zo]); have:=Zb; omega) V V V ?_
   refine Z S4 (Xh.drop 2 (C1.mono L4)) Zv V V V ?_
   refine Zq k1 (by have:=Zb; omega) V V V ?_
   refine Zhe v.s k1 c1 U1 X1 V V V V ?_
   refine Zh (ss ++ [92]) [c1] (by have:=hsl; (try simp only [Zo]); have:=Zb; omega) V V V ?_
   refine Zq k1 (by have:=Zb; omega) V V V ?_
   exact BK.mk' _ ⟨k1 + 1,((ss ++ [92]) ++ [c1]),G4,V,L4,S4,⟨V,V,V,trivial⟩,(by omega),(by exact Zs8 ‹_› ‹_› (.inl ‹_›)),(by omega)⟩ (show v.s.length - (k1 + 1) < v.s.length - k1 by omega)
  refine Z S4 (Xh.drop 2 (C1.mono L4)) Zv V V V ?_
  refine YY v.s k1 (by omega) X1 V V V (fun c2 U2=>?_)
  obtain rfl : c1 = c2:=Option.some.inj (U1.symm.trans U2)
  refine Ze (c1.toNat : Int) 92 V V V (fun h8=>?_) (fun h8=>?_)
  ·refine Zh ss [92] (by have:=hsl; (try simp only [Zo]); have:=Zb; omega) V V V ?_
   refine Z S4 (Xh.drop 2 (C1.mono L4)) Zv V V V ?_
   refine Zq k1 (by have:=Zb; omega) V V V ?_
   refine Zhe v.s k1 c1 U1 X1 V V V V ?_
   refine Zh (ss ++ [92]) [c1] (by have:=hsl; (try simp only [Zo]); have:=Zb; omega) V V V ?_
   refine Zq k1 (by have:=Zb; omega) V V V ?_
   exact BK.mk' _ ⟨k1 + 1,((ss ++ [92]) ++ [c1]),G4,V,L4,S4,⟨V,V,V,trivial⟩,(by omega),(by exact Zs8 ‹_› ‹_› (.inr ‹_›)),(by omega)⟩ (show v.s.length - (k1 + 1) < v.s.length - k1 by omega)
  refine Z S4 (Xh.drop 2 (C1.mono L4)) Zv V V V ?_
  refine Zq k1 (by have:=Zb; omega) V V V ?_
  refine Zhe v.s k1 c1 U1 X1 V V V V ?_
  refine Zh ss [c1] (by have:=hsl; (try simp only [Zo]); have:=Zb; omega) V V V ?_
  refine Zq k1 (by have:=Zb; omega) V V V ?_
  exact BK.mk' _ ⟨k1 + 1,(ss ++ [c1]),G4,V,L4,S4,⟨V,V,V,trivial⟩,(by omega),(by exact Zyt ‹_› ‹_› ‹_› ‹_›),(by omega)⟩ (show v.s.length - (k1 + 1) < v.s.length - k1 by omega)
 refine Zh ss [34] (by have:=hsl; (try simp only [Zo]); have:=Zb; omega) V V V ?_
 exact RT S4 V (congrArg Za (by exact Z0R ‹_› ‹_› ‹_› ‹_› (by omega)))
end Go.Civ
set_option linter.unusedVariables false
set_option linter.unusedSimpArgs false
set_option maxRecDepth 100000
set_option maxHeartbeats 4000000
namespace Go.Civ
open Go.Proofs
theorem ZrC {G : GH} {w : World} (hG : G.In w) : CL Tryz.prog (nat_lit 210) #[] [] w G fun _ _ r=>r = .agg ((relN : List Str).map Za).toArray:=by
 refine Yw ft [] Tryz.func210 V V ?_
 have hS:=St.start (X:=[]) hG
 refine WL.alloc hS Zkl V V (fun b1 w1 N1 S1=>?_)
 refine Zb5 _ [(0,[Za [98,101,102,111,114,101]]),(1,[Za [109,101,101,116,115]]),(2,[Za [111,118,101,114,108,97,112,115]]),(3,[Za [115,116,97,114,116,115]]),(4,[Za [100,117,114,105,110,103]]),(5,[Za [102,105,110,105,115,104,101,115]]),(6,[Za [101,113,117,97,108,115]]),(7,[Za [102,105,110,105,115,104,101,100,98,121]]),(8,[Za [99,111,110,116,97,105,110,115]]),(9,[Za [115,116,97,114,116,101,100,98,121]]),(10,[Za [111,118,101,114,108,97,112,112,101,100,98,121]]),(11,[Za [109,101,116,98,121]]),(12,[Za [97,102,116,101,114]])] [Za [98,101,102,111,114,101],Za [109,101,101,116,115],Za [111,118,101,114,108,97,112,115],Za [115,116,97,114,116,115],Za [100,117,114,105,110,103],Za [102,105,110,105,115,104,101,115],Za [101,113,117,97,108,115],Za [102,105,110,105,115,104,101,100,98,121],Za [99,111,110,116,97,105,110,115],Za [115,116,97,114,116,101,100,98,121],Za [111,118,101,114,108,97,112,112,101,100,98,121],Za [109,101,116,98,121],Za [97,102,116,101,114]] Zkl Zt4 Zv V V V V ?_
 refine Z9 S1 0 [Za [98,101,102,111,114,101],Za [109,101,101,116,115],Za [111,118,101,114,108,97,112,115],Za [115,116,97,114,116,115],Za [100,117,114,105,110,103],Za [102,105,110,105,115,104,101,115],Za [101,113,117,97,108,115],Za [102,105,110,105,115,104,101,100,98,121],Za [99,111,110,116,97,105,110,115],Za [115,116,97,114,116,101,100,98,121],Za [111,118,101,114,108,97,112,112,101,100,98,121],Za [109,101,116,98,121],Za [97,102,116,101,114]] V V Zkl V V V V V V (fun w2 S2=>?_)
 obtain ⟨G1,L1,C1,S3⟩:=S2.shutB N1
 exact Qk [.agg #[Za [98,101,102,111,114,101],Za [109,101,101,116,115],Za [111,118,101,114,108,97,112,115],Za [115,116,97,114,116,115],Za [100,117,114,105,110,103],Za [102,105,110,105,115,104,101,115],Za [101,113,117,97,108,115],Za [102,105,110,105,115,104,101,100,98,121],Za [99,111,110,116,97,105,110,115],Za [115,116,97,114,116,101,100,98,121],Za [111,118,101,114,108,97,112,112,101,100,98,121],Za [109,101,116,98,121],Za [97,102,116,101,114]]] S3 ⟨_,_,_,V,V,S3.loadC C1 Zkl V V,V⟩ V
theorem ZuG {G : GH} {w : World} (hG : G.In w) (nr : Int) (hr : 0 ≤ nr ∧ nr < 13) : CL Tryz.prog (nat_lit 187) #[U nr] [] w G fun _ _ r=>r = Za (Zah nr):=by
 refine Zg ft [] Tryz.func187 V V ?_
 have hS:=St.start (X:=[]) hG
 refine Zp nr 0 V V V (fun h1=>?_) (fun h1=>?_)
 ·exact RT hS V (congrArg Za (by (exfalso; omega)))
 refine Z1 nr 12 V V V (fun h2=>?_) (fun h2=>?_)
 ·exact RT hS V (congrArg Za (by (exfalso; omega)))
 refine Zl hS ZzA V V V (ZrC hS.imm) (fun w1 G1 S1 L1=>?_)
 refine Zdv ([[98,101,102,111,114,101],[109,101,101,116,115],[111,118,101,114,108,97,112,115],[115,116,97,114,116,115],[100,117,114,105,110,103],[102,105,110,105,115,104,101,115],[101,113,117,97,108,115],[102,105,110,105,115,104,101,100,98,121],[99,111,110,116,97,105,110,115],[115,116,97,114,116,101,100,98,121],[111,118,101,114,108,97,112,112,101,100,98,121],[109,101,116,98,121],[97,102,116,101,114]] : List Str) ((nr).toNat) (by (simp only [List.length_cons,List.length_nil]; omega)) Zt4 V Zv V V V V (congrArg (Value.int .i64) (Int.toNat_of_nonneg (show (0 : Int) ≤ nr by omega)).symm) (fun c1 U1=>?_)
 exact RT S1 V (congrArg Za (by exact Zpr ‹_›))
theorem ZnZ {G : GH} {w : World} (hG : G.In w) : CL Tryz.prog (nat_lit 150) #[] [] w G fun G' _ r=>Sl Enc.str 16 G' r relN:=by
 refine Zg ft [] Tryz.func150 V V ?_
 have hS:=St.start (X:=[]) hG
 refine WL.buildSlice _ [(0,[Za [98,101,102,111,114,101]]),(1,[Za [109,101,101,116,115]]),(2,[Za [111,118,101,114,108,97,112,115]]),(3,[Za [115,116,97,114,116,115]]),(4,[Za [100,117,114,105,110,103]]),(5,[Za [102,105,110,105,115,104,101,115]]),(6,[Za [101,113,117,97,108,115]]),(7,[Za [102,105,110,105,115,104,101,100,98,121]]),(8,[Za [99,111,110,116,97,105,110,115]]),(9,[Za [115,116,97,114,116,101,100,98,121]]),(10,[Za [111,118,101,114,108,97,112,112,101,100,98,121]]),(11,[Za [109,101,116,98,121]]),(12,[Za [97,102,116,101,114]])] [Za [98,101,102,111,114,101],Za [109,101,101,116,115],Za [111,118,101,114,108,97,112,115],Za [115,116,97,114,116,115],Za [100,117,114,105,110,103],Za [102,105,110,105,115,104,101,115],Za [101,113,117,97,108,115],Za [102,105,110,105,115,104,101,100,98,121],Za [99,111,110,116,97,105,110,115],Za [115,116,97,114,116,101,100,98,121],Za [111,118,101,114,108,97,112,112,101,100,98,121],Za [109,101,116,98,121],Za [97,102,116,101,114]] hS XI V V V V (Zwd (Za [98,101,102,111,114,101]) (Za [109,101,101,116,115]) (Za [111,118,101,114,108,97,112,115]) (Za [115,116,97,114,116,115]) (Za [100,117,114,105,110,103]) (Za [102,105,110,105,115,104,101,115]) (Za [101,113,117,97,108,115]) (Za [102,105,110,105,115,104,101,100,98,121]) (Za [99,111,110,116,97,105,110,115]) (Za [115,116,97,114,116,101,100,98,121]) (Za [111,118,101,114,108,97,112,112,101,100,98,121]) (Za [109,101,116,98,121]) (Za [97,102,116,101,114])) (fun b1 w1 N1 S1=>?_)
 obtain ⟨G1,L1,A1,S2⟩:=St.sealSl (E:=Enc.str) (by_:=16) (l:=([[98,101,102,111,114,101],[109,101,101,116,115],[111,118,101,114,108,97,112,115],[115,116,97,114,116,115],[100,117,114,105,110,103],[102,105,110,105,115,104,101,115],[101,113,117,97,108,115],[102,105,110,105,115,104,101,100,98,121],[99,111,110,116,97,105,110,115],[115,116,97,114,116,101,100,98,121],[111,118,101,114,108,97,112,112,101,100,98,121],[109,101,116,98,121],[97,102,116,101,114]] : List (List UInt8))) S1 N1 ⟨[Za [98,101,102,111,114,101]],_,V,⟨V,(by simp [reach])⟩,⟨[Za [109,101,101,116,115]],_,V,⟨V,(by simp [reach])⟩,⟨[Za [111,118,101,114,108,97,112,115]],_,V,⟨V,(by simp [reach])⟩,⟨[Za [115,116,97,114,116,115]],_,V,⟨V,(by simp [reach])⟩,⟨[Za [100,117,114,105,110,103]],_,V,⟨V,(by simp [reach])⟩,⟨[Za [102,105,110,105,115,104,101,115]],_,V,⟨V,(by simp [reach])⟩,⟨[Za [101,113,117,97,108,115]],_,V,⟨V,(by simp [reach])⟩,⟨[Za [102,105,110,105,115,104,101,100,98,121]],_,V,⟨V,(by simp [reach])⟩,⟨[Za [99,111,110,116,97,105,110,115]],_,V,⟨V,(by simp [reach])⟩,⟨[Za [115,116,97,114,116,101,100,98,121]],_,V,⟨V,(by simp [reach])⟩,⟨[Za [111,118,101,114,108,97,112,112,101,100,98,121]],_,V,⟨V,(by simp [reach])⟩,⟨[Za [109,101,116,98,121]],_,V,⟨V,(by simp [reach])⟩,⟨[Za [97,102,116,101,114]],_,V,⟨V,(by simp [reach])⟩,V⟩⟩⟩⟩⟩⟩⟩⟩⟩⟩⟩⟩⟩ V (by simp [reach]) (by simp [reach])
 exact RT S2 V (Sl.cast A1 (by rfl))
theorem ZpV {G : GH} {w : World} (hG : G.In w) (nr : Int) (hr : 0 ≤ nr ∧ nr < 13) : CL Tryz.prog (nat_lit 105) #[U nr] [] w G fun _ _ r=>r = Za (Zah nr):=by
 refine Zg ft [] Tryz.func105 V V ?_
 have hS:=St.start (X:=[]) hG
 refine Zp nr 0 V V V (fun h1=>?_) (fun h1=>?_)
 ·exact RT hS V (congrArg Za (by (exfalso; omega)))
 refine Z1 nr 12 V V V (fun h2=>?_) (fun h2=>?_)
 ·exact RT hS V (congrArg Za (by (exfalso; omega)))
 refine Yq hS Zzn V V V (ZnZ hS.imm) (fun w1 G1 r1 P1 S1 L1=>?_)
 refine WL.indexAddr P1 ((nr).toNat) (by (show _ < (13 : Nat); omega)) Yb Zv V V V (congrArg (Value.int .i64) (Int.toNat_of_nonneg (by omega)).symm) (fun p1 x1 U1 E1=>?_)
 obtain ⟨D1,C1,R1⟩:=E1
 obtain ⟨rfl,B1⟩:=R1
 refine Z S1 C1 Zv V V V ?_
 exact RT S1 V (congrArg Za (by exact Zpr ‹_›))
theorem ZiS {G : GH} {w : World} (hG : G.In w) (v : Val) (hg : Glob G) (cv : List Value) (hcv : ValE.rep G v cv) (hv : Yo v = true) (N64 : Zj v.n) : CL Tryz.prog (nat_lit 184) #[.agg cv.toArray] [] w G fun _ _ r=>r = Za (QK v):=by
 refine Zg ft [] Tryz.func184 V V ?_
 have hvp:=Zn4 hv
 have hS:=St.start (X:=[]) hG
 obtain ⟨rfl,B1,B2,Z7⟩:=ZbO hcv
 refine Z4 [U v.k,U v.n,Za v.s] _ hS V V V (fun p1 w1 G1 L1 M1 C1 S1=>?_)
 refine Zc S1 C1 [U v.k,U v.n,Za v.s] Xv V V V V V ?_
 refine Zl S1 Zdg V V V (ZaL S1.imm v _ (XX v B1 B2 Z7)) (fun w2 G2 S2 L2=>?_)
 refine WL.split (fun (h1 : (Yo v) = true)=>?_) (fun (h1 : (Yo v) = false)=>?_)
 ·refine Z S2 (Xh.drop 0 (C1.mono L2)) Zk V V V ?_
  refine Ze v.k 1 V V V (fun h2=>?_) (fun h2=>?_)
  ·refine Z S2 (Xh.drop 1 (C1.mono L2)) Zk V V V ?_
   refine Zl S2 Zd5 V V V (ZcJ S2.imm v.n 1 N64 (by omega)) (fun w3 G3 S3 L3=>?_)
   exact RT S3 V (congrArg Za (by exact Zys ‹_›))
  refine Ze v.k 2 V V V (fun h3=>?_) (fun h3=>?_)
  ·have A30 : v.s.length ≤ 30:=by omega
   refine Z S2 (Xh.drop 2 (C1.mono L2)) Zv V V V ?_
   refine Zl S2 Zty V V V (Zgg S2.imm (hg.mono (L1.trans L2)) v.s 92 [92,92] (by have h9:=A30; omega) V) (fun w4 G4 S4 L4=>?_)
   refine Zl S4 Zty V V V (Zgg S4.imm (hg.mono ((L1.trans L2).trans L4)) (v.s.flatMap fun x=>if x = 92 then [92,92] else [x]) 34 [92,34] (by have h9:=(ZfT v.s _ A30 92 92 92); omega) V) (fun w5 G5 S5 L5=>?_)
   refine Zh [34] ((v.s.flatMap fun x=>if x = 92 then [92,92] else [x]).flatMap fun x=>if x = 34 then [92,34] else [x]) (by have:=(ZfT (v.s.flatMap fun x=>if x = 92 then [92,92] else [x]) _ (ZfT v.s _ A30 92 92 92) 34 92 34); (try simp only [Zo]); have:=Zb; omega) V V V ?_
   refine Zh ([34] ++ ((v.s.flatMap fun x=>if x = 92 then [92,92] else [x]).flatMap fun x=>if x = 34 then [92,34] else [x])) [34] (by have:=(ZfT (v.s.flatMap fun x=>if x = 92 then [92,92] else [x]) _ (ZfT v.s _ A30 92 92 92) 34 92 34); (try simp only [Zo]); have:=Zb; omega) V V V ?_
   exact RT S5 V (congrArg Za (by exact Zyx ‹_›))
  refine Ze v.k 3 V V V (fun h4=>?_) (fun h4=>?_)
  ·refine Z S2 (Xh.drop 1 (C1.mono L2)) Zk V V V ?_
   refine Ze v.n 1 V V V (fun h5=>?_) (fun h5=>?_)
   ·exact RT S2 V (congrArg Za (by exact Zs2 ‹_› ‹_›))
   exact RT S2 V (congrArg Za (by exact Zs3 ‹_› ‹_›))
  refine Z S2 (Xh.drop 1 (C1.mono L2)) Zk V V V ?_
  refine Ze v.n 253402300800 V V V (fun h6=>?_) (fun h6=>?_)
  ·exact RT S2 V (congrArg Za (by exact Zs4 (by omega) ‹_›))
  refine Z S2 (Xh.drop 1 (C1.mono L2)) Zk V V V ?_
  refine Yq S2 Zej V V V (Zjv S2.imm v.n N64 (by omega)) ?_
  rintro w6 G6 _ ⟨r2,_,rfl,A1,rfl⟩ S6 L6
  obtain ⟨D1,rfl,R1⟩:=A1
  obtain ⟨rfl,Z5,ZD,hb6,hb7,ZV,hb9⟩:=ZbS R1
  refine WL.alloc S6 ZaK V V (fun b1 w7 N1 S7=>?_)
  refine Z9 S7 0 [U ((X7 v.n).d.y),U ((X7 v.n).d.m),U ((X7 v.n).d.d),U ((X7 v.n).t.h),U ((X7 v.n).t.m),U ((X7 v.n).t.s)] V V ZaK V V V V V V (fun w9 S8=>?_)
  obtain ⟨G7,L7,C2,S9⟩:=S8.shutB N1
  refine Zc S9 C2 [U ((X7 v.n).d.y),U ((X7 v.n).d.m),U ((X7 v.n).d.d),U ((X7 v.n).t.h),U ((X7 v.n).t.m),U ((X7 v.n).t.s)] ZaK V V V V V ?_
  refine Zl S9 Zek V V V (ZmU S9.imm (X7 v.n) _ (Zdk (X7 v.n) Z5 ZD hb6 hb7 ZV hb9) (ZhU (by omega))) (fun w10 G9 S10 L9=>?_)
  exact RT S10 V (congrArg Za (by exact Zs5 (by omega) ‹_›))
 exact RT S2 V (congrArg Za (by (exfalso; simp_all; done)))
end Go.Civ
