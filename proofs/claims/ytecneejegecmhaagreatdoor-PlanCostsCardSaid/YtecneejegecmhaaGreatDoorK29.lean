/- Lemmas. -/
import Derived.Test.YtecneejegecmhaaGreatDoorK28
set_option linter.unusedVariables false
set_option linter.unusedSimpArgs false
set_option linter.unusedVariables false
set_option linter.unusedSimpArgs false
set_option maxRecDepth 100000
set_option maxHeartbeats 4000000
namespace Go.Civ
open Go.Proofs
theorem ZuC {G : GH} {w : World} (hG : G.In w) (t : Int) (ht64 : Zj t) (ht : -62135596800 ≤ t ∧ t < 253402300800) : CL Tryz.prog (nat_lit 90) #[U t] [] w G fun _ _ r=>∃ r0 r1 r2,r = .tuple #[r0,r1,r2] ∧ r0 = U (t / 86400) ∧ r1 = U (t % 86400) ∧ r2 = U 0:=by
 refine Zg ft [] Tryz.func90 V V ?_
 have hS:=St.start (X:=[]) hG
 refine Zp t (-62135596800) V V V (fun h1=>?_) (fun h1=>?_)
 ·exact RT hS V ⟨_,_,_,V,(congrArg (Value.int .i64) (by (exfalso; omega))),(congrArg (Value.int .i64) (by (exfalso; omega))),(congrArg (Value.int .i64) (by (exfalso; omega)))⟩
 refine ZM t 253402300800 V V V (fun h2=>?_) (fun h2=>?_)
 ·exact RT hS V ⟨_,_,_,V,(congrArg (Value.int .i64) (by (exfalso; omega))),(congrArg (Value.int .i64) (by (exfalso; omega))),(congrArg (Value.int .i64) (by (exfalso; omega)))⟩
 refine Yq hS Zzc V V V (Zx2 hS.imm t ht64 (by omega)) ?_
 rintro w1 G1 _ ⟨_,_,_,rfl,rfl,rfl,rfl⟩ S1 L1
 exact RT S1 V ⟨_,_,_,V,(congrArg (Value.int .i64) (by rfl)),(congrArg (Value.int .i64) (by rfl)),(congrArg (Value.int .i64) (by rfl))⟩
theorem ZuD {G : GH} {w : World} (hG : G.In w) (s : Int) (hs : 0 ≤ s ∧ s < 86400) : CL Tryz.prog (nat_lit 92) #[U s] [] w G fun G' _ r=>∃ r0 r1,r = .tuple #[r0,r1] ∧ Is Zi7 G' r0 (X6 s) ∧ r1 = U 0:=by
 refine Yw ft [] Tryz.func92 V V ?_
 have A64 : Zj s:=⟨by omega,by omega⟩
 have hS:=St.start (X:=[]) hG
 refine WL.alloc hS Zai V V (fun b1 w1 N1 S1=>?_)
 refine Zp s 0 V V V (fun h1=>?_) (fun h1=>?_)
 ·refine WL.build _ [] [U 0,U 0,U 0] Zai V ZjX V V V V ?_
  refine Z9 S1 0 [U 0,U 0,U 0] V V Zai V V V V V V (fun w2 S2=>?_)
  exact Qk [.agg #[U 0,U 0,U 0],U 2] S2 ⟨_,_,_,V,V,S2.loadA 0 _ _ _ 0 [U 0,U 0,U 0] V V V Zai V,⟨_,V,V⟩⟩ ⟨_,_,V,(Is.cast ⟨_,V,(Zdj (Tim.mk 0 0 0) Yf Yf Yf)⟩ (by (exfalso; omega))),(congrArg (Value.int .i64) (by (exfalso; omega)))⟩
 refine ZM s 86400 V V V (fun h2=>?_) (fun h2=>?_)
 ·refine WL.build _ [] [U 0,U 0,U 0] Zai V ZjX V V V V ?_
  refine Z9 S1 0 [U 0,U 0,U 0] V V Zai V V V V V V (fun w3 S3=>?_)
  exact Qk [.agg #[U 0,U 0,U 0],U 2] S3 ⟨_,_,_,V,V,S3.loadA 0 _ _ _ 0 [U 0,U 0,U 0] V V V Zai V,⟨_,V,V⟩⟩ ⟨_,_,V,(Is.cast ⟨_,V,(Zdj (Tim.mk 0 0 0) Yf Yf Yf)⟩ (by (exfalso; omega))),(congrArg (Value.int .i64) (by (exfalso; omega)))⟩
 refine YZ s 3600 (by omega) (by omega) A64 V V V ?_
 refine YZ s 60 (by omega) (by omega) A64 V V V ?_
 refine XG (s / 60) 60 (by omega) (by omega) V V V ?_
 refine XG s 60 (by omega) (by omega) V V V ?_
 refine WL.build _ [(0,[U (s / 3600)]),(1,[U ((s / 60) % 60)]),(2,[U (s % 60)])] [U (s / 3600),U ((s / 60) % 60),U (s % 60)] Zai V ZjX V V V V ?_
 refine Z9 S1 0 [U (s / 3600),U ((s / 60) % 60),U (s % 60)] V V Zai V V V V V V (fun w4 S4=>?_)
 exact Qk [.agg #[U (s / 3600),U ((s / 60) % 60),U (s % 60)],U 0] S4 ⟨_,_,_,V,V,S4.loadA 0 _ _ _ 0 [U (s / 3600),U ((s / 60) % 60),U (s % 60)] V V V Zai V,⟨_,V,V⟩⟩ ⟨_,_,V,(Is.cast ⟨_,V,(Zdj (Tim.mk (s / 3600) ((s / 60) % 60) (s % 60)) (show Zj (s / 3600) from by constructor <;> omega) (show Zj ((s / 60) % 60) from by constructor <;> omega) (show Zj (s % 60) from by constructor <;> omega))⟩ (by rfl)),(congrArg (Value.int .i64) (by rfl))⟩
theorem Zjv {G : GH} {w : World} (hG : G.In w) (t : Int) (ht64 : Zj t) (ht : -62135596800 ≤ t ∧ t < 253402300800) : CL Tryz.prog (nat_lit 57) #[U t] [] w G fun G' _ r=>∃ r0 r1,r = .tuple #[r0,r1] ∧ Is Zhg G' r0 (X7 t) ∧ r1 = U 0:=by
 refine Yw ft [] Tryz.func57 V V ?_
 have hS:=St.start (X:=[]) hG
 refine WL.alloc hS ZaK V V (fun b1 w1 N1 S1=>?_)
 refine Yq S1 Zhs V V V (ZuC S1.imm t ht64 ht) ?_
 rintro w2 G1 _ ⟨_,_,_,rfl,rfl,rfl,rfl⟩ S2 L1
 refine Zz 0 0 V V V (fun h1=>?_) (fun h1=>?_)
 ·omega
 refine Yq S2 ZiQ V V V (Zx1 S2.imm (t / 86400) (by omega)) ?_
 rintro w3 G2 _ ⟨r6,_,rfl,A1,rfl⟩ S3 L2
 obtain ⟨D1,rfl,R1⟩:=A1
 obtain ⟨rfl,B1,B2,Z7⟩:=QZ R1
 refine WL.alloc S3 Y2 V V (fun b2 w4 N2 S4=>?_)
 refine Z9 S4 0 [U ((ZC (t / 86400)).y),U ((ZC (t / 86400)).m),U ((ZC (t / 86400)).d)] V V Y2 V V V V V V (fun w5 S5=>?_)
 obtain ⟨G3,L3,C1,S6⟩:=S5.shutB N2
 refine Zz 0 0 V V V (fun h2=>?_) (fun h2=>?_)
 ·omega
 refine Yq S6 ZiR V V V (ZuD S6.imm (t % 86400) (by omega)) ?_
 rintro w6 G4 _ ⟨r9,_,rfl,A2,rfl⟩ S7 L4
 obtain ⟨D2,rfl,R2⟩:=A2
 obtain ⟨rfl,Z5,ZD,hb6⟩:=ZdN R2
 refine WL.alloc S7 Zai V V (fun b3 w7 N3 S8=>?_)
 refine Z9 S8 0 [U ((X6 (t % 86400)).h),U ((X6 (t % 86400)).m),U ((X6 (t % 86400)).s)] V V Zai V V V V V V (fun w9 S9=>?_)
 obtain ⟨G5,L5,C2,S10⟩:=S9.shutB N3
 refine Zc S10 (C1.mono (L4.trans L5)) [U ((ZC (t / 86400)).y),U ((ZC (t / 86400)).m),U ((ZC (t / 86400)).d)] Y2 V V V V V <| Zc S10 C2 [U ((X6 (t % 86400)).h),U ((X6 (t % 86400)).m),U ((X6 (t % 86400)).s)] Zai V V V V V <| WL.build _ [(0,[U ((ZC (t / 86400)).y),U ((ZC (t / 86400)).m),U ((ZC (t / 86400)).d)]),(1,[U ((X6 (t % 86400)).h),U ((X6 (t % 86400)).m),U ((X6 (t % 86400)).s)])] [U ((ZC (t / 86400)).y),U ((ZC (t / 86400)).m),U ((ZC (t / 86400)).d),U ((X6 (t % 86400)).h),U ((X6 (t % 86400)).m),U ((X6 (t % 86400)).s)] ZaK V Ztf V V V V ?_
 refine Z9 S10 0 [U ((ZC (t / 86400)).y),U ((ZC (t / 86400)).m),U ((ZC (t / 86400)).d),U ((X6 (t % 86400)).h),U ((X6 (t % 86400)).m),U ((X6 (t % 86400)).s)] V V ZaK V V V V V V (fun w10 S11=>?_)
 exact Qk [.agg #[U ((ZC (t / 86400)).y),U ((ZC (t / 86400)).m),U ((ZC (t / 86400)).d),U ((X6 (t % 86400)).h),U ((X6 (t % 86400)).m),U ((X6 (t % 86400)).s)],U 0] S11 ⟨_,_,_,V,V,S11.loadA 0 _ _ _ 0 [U ((ZC (t / 86400)).y),U ((ZC (t / 86400)).m),U ((ZC (t / 86400)).d),U ((X6 (t % 86400)).h),U ((X6 (t % 86400)).m),U ((X6 (t % 86400)).s)] V V V ZaK V,⟨_,V,V⟩⟩ ⟨_,_,V,(Is.cast ⟨_,V,(Zdk (Mom.mk (ZC (t / 86400)) (X6 (t % 86400))) B1 B2 Z7 Z5 ZD hb6)⟩ (by rfl)),(congrArg (Value.int .i64) (by rfl))⟩
theorem ZnW {G : GH} {w : World} (hG : G.In w) (x : Tim) (cx : List Value) (hcx : Zi7.rep G x cx) (h1 : 0 ≤ x.h ∧ x.h < 24) (h2 : 0 ≤ x.m ∧ x.m < 60) (h3 : 0 ≤ x.s ∧ x.s < 60) : CL Tryz.prog (nat_lit 138) #[.agg cx.toArray] [] w G fun _ _ r=>∃ r0 r1,r = .tuple #[r0,r1] ∧ r0 = U (3600 * x.h + 60 * x.m + x.s) ∧ r1 = U 0:=by
 refine Zg ft [] Tryz.func138 V V ?_
 have hS:=St.start (X:=[]) hG
 obtain ⟨rfl,B1,B2,Z7⟩:=ZdN hcx
 refine Z4 [U x.h,U x.m,U x.s] _ hS V V V (fun p1 w1 G1 L1 M1 C1 S1=>?_)
 refine Z S1 (Xh.drop 0 C1) Zk V V V ?_
 refine Zp x.h 0 V V V (fun h1=>?_) (fun h1=>?_)
 ·exact RT S1 V ⟨_,_,V,(congrArg (Value.int .i64) (by (exfalso; omega))),(congrArg (Value.int .i64) (by (exfalso; omega)))⟩
 refine Z S1 (Xh.drop 0 C1) Zk V V V ?_
 refine Z1 x.h 23 V V V (fun h2=>?_) (fun h2=>?_)
 ·exact RT S1 V ⟨_,_,V,(congrArg (Value.int .i64) (by (exfalso; omega))),(congrArg (Value.int .i64) (by (exfalso; omega)))⟩
 refine Z S1 (Xh.drop 1 C1) Zk V V V ?_
 refine Zp x.m 0 V V V (fun h3=>?_) (fun h3=>?_)
 ·exact RT S1 V ⟨_,_,V,(congrArg (Value.int .i64) (by (exfalso; omega))),(congrArg (Value.int .i64) (by (exfalso; omega)))⟩
 refine Z S1 (Xh.drop 1 C1) Zk V V V ?_
 refine Z1 x.m 59 V V V (fun h4=>?_) (fun h4=>?_)
 ·exact RT S1 V ⟨_,_,V,(congrArg (Value.int .i64) (by (exfalso; omega))),(congrArg (Value.int .i64) (by (exfalso; omega)))⟩
 refine Z S1 (Xh.drop 2 C1) Zk V V V ?_
 refine Zp x.s 0 V V V (fun h5=>?_) (fun h5=>?_)
 ·exact RT S1 V ⟨_,_,V,(congrArg (Value.int .i64) (by (exfalso; omega))),(congrArg (Value.int .i64) (by (exfalso; omega)))⟩
 refine Z S1 (Xh.drop 2 C1) Zk V V V ?_
 refine Z1 x.s 59 V V V (fun h6=>?_) (fun h6=>?_)
 ·exact RT S1 V ⟨_,_,V,(congrArg (Value.int .i64) (by (exfalso; omega))),(congrArg (Value.int .i64) (by (exfalso; omega)))⟩
 refine Z S1 (Xh.drop 0 C1) Zk V V V ?_
 have hi1 : Zj (3600 * x.h):=by have:=B1.1; have:=B1.2; constructor <;> omega
 refine WL.ar .mul V 3600 x.h V V V hi1 <| Z S1 (Xh.drop 1 C1) Zk V V V ?_
 have hi2 : Zj (60 * x.m):=by have:=B2.1; have:=B2.2; constructor <;> omega
 refine WL.ar .mul V 60 x.m V V V hi2 ?_
 have hi3 : Zj ((3600 * x.h) + (60 * x.m)):=by have:=hi1.1; have:=hi1.2; have:=hi2.1; have:=hi2.2; constructor <;> omega
 refine WL.ar .add V (3600 * x.h) (60 * x.m) V V V hi3 <| Z S1 (Xh.drop 2 C1) Zk V V V ?_
 have hi4 : Zj (((3600 * x.h) + (60 * x.m)) + x.s):=by have:=hi3.1; have:=hi3.2; have:=Z7.1; have:=Z7.2; constructor <;> omega
 refine WL.ar .add V ((3600 * x.h) + (60 * x.m)) x.s V V V hi4 ?_
 exact RT S1 V ⟨_,_,V,(congrArg (Value.int .i64) (by rfl)),(congrArg (Value.int .i64) (by rfl))⟩
theorem ZzP {G : GH} {w : World} (hG : G.In w) (d s : Int) (hd : -719162 ≤ d ∧ d < 2932897) (hs : 0 ≤ s ∧ s < 86400) : CL Tryz.prog (nat_lit 139) #[U d,U s] [] w G fun _ _ r=>∃ r0 r1,r = .tuple #[r0,r1] ∧ r0 = U (d * 86400 + s) ∧ r1 = U 0:=by
 refine Zg ft [] Tryz.func139 V V ?_
 have A64 : Zj s:=⟨by omega,by omega⟩
 have hd64 : Zj d:=⟨by omega,by omega⟩
 have hS:=St.start (X:=[]) hG
 refine Zp d (-719162) V V V (fun h1=>?_) (fun h1=>?_)
 ·exact RT hS V ⟨_,_,V,(congrArg (Value.int .i64) (by (exfalso; omega))),(congrArg (Value.int .i64) (by (exfalso; omega)))⟩
 refine ZM d 2932897 V V V (fun h2=>?_) (fun h2=>?_)
 ·exact RT hS V ⟨_,_,V,(congrArg (Value.int .i64) (by (exfalso; omega))),(congrArg (Value.int .i64) (by (exfalso; omega)))⟩
 refine Zp s 0 V V V (fun h3=>?_) (fun h3=>?_)
 ·exact RT hS V ⟨_,_,V,(congrArg (Value.int .i64) (by (exfalso; omega))),(congrArg (Value.int .i64) (by (exfalso; omega)))⟩
 refine ZM s 86400 V V V (fun h4=>?_) (fun h4=>?_)
 ·exact RT hS V ⟨_,_,V,(congrArg (Value.int .i64) (by (exfalso; omega))),(congrArg (Value.int .i64) (by (exfalso; omega)))⟩
 have hi1 : Zj (d * 86400):=by have:=hd64.1; have:=hd64.2; constructor <;> omega
 refine WL.ar .mul V d 86400 V V V hi1 ?_
 have hi2 : Zj ((d * 86400) + s):=by have:=hi1.1; have:=hi1.2; have:=A64.1; have:=A64.2; constructor <;> omega
 refine WL.ar .add V (d * 86400) s V V V hi2 ?_
 exact RT hS V ⟨_,_,V,(congrArg (Value.int .i64) (by rfl)),(congrArg (Value.int .i64) (by rfl))⟩
theorem ZzQ {G : GH} {w : World} (hG : G.In w) (x : Mom) (cx : List Value) (hcx : Zhg.rep G x cx) (hx : ZhT x) : CL Tryz.prog (nat_lit 93) #[.agg cx.toArray] [] w G fun _ _ r=>∃ r0 r1,r = .tuple #[r0,r1] ∧ r0 = U (Yx x.d.y x.d.m x.d.d * 86400 + (3600 * x.t.h + 60 * x.t.m + x.t.s)) ∧ r1 = U 0:=by
 refine Zg ft [] Tryz.func93 V V ?_
 obtain ⟨U1,U2,U3,U4,U5,U6,U7⟩:=id hx
 have hcu:=Zyi U1 U2 U3 U7
 have hS:=St.start (X:=[]) hG
 obtain ⟨rfl,B1,B2,Z7,Z5,ZD,hb6⟩:=ZbS hcx
 refine Z4 [U x.d.y,U x.d.m,U x.d.d,U x.t.h,U x.t.m,U x.t.s] _ hS V V V (fun p1 w1 G1 L1 M1 C1 S1=>?_)
 refine Zc S1 (Xh.drop 0 C1) [U x.d.y,U x.d.m,U x.d.d] Y2 V V V V V <| Yq S1 Zze V V V (Zx3 S1.imm x.d _ (Qw x.d B1 B2 Z7) U1 U2 U3 U7) ?_
 rintro w2 G2 _ ⟨_,_,rfl,rfl,rfl⟩ S2 L2
 refine Zc S2 (Xh.drop 3 (C1.mono L2)) [U x.t.h,U x.t.m,U x.t.s] Zai V V V V V <| Yq S2 Zzf V V V (ZnW S2.imm x.t _ (Zdj x.t Z5 ZD hb6) U4 U5 U6) ?_
 rintro w3 G3 _ ⟨_,_,rfl,rfl,rfl⟩ S3 L3
 refine Zz 0 0 V V V (fun h1=>?_) (fun h1=>?_)
 ·omega
 refine Zz 0 0 V V V (fun h2=>?_) (fun h2=>?_)
 ·omega
 refine Yq S3 Zzg V V V (ZzP S3.imm (Yx x.d.y x.d.m x.d.d) (3600 * x.t.h + 60 * x.t.m + x.t.s) hcu (by omega)) ?_
 rintro w4 G4 _ ⟨_,_,rfl,rfl,rfl⟩ S4 L4
 exact RT S4 V ⟨_,_,V,(congrArg (Value.int .i64) (by rfl)),(congrArg (Value.int .i64) (by rfl))⟩
theorem Zhy {G : GH} {w : World} (hG : G.In w) (n : Int) (h0 : 0 ≤ n) (h1 : n < 100) : CL Tryz.prog (nat_lit 94) #[U n] [] w G fun _ _ r=>r = Za (ZA n.natAbs 2):=by
 refine Zg ft [] Tryz.func94 V V ?_
 have N64 : Zj n:=⟨by omega,by omega⟩
 have hS:=St.start (X:=[]) hG
 refine Zl hS Zd5 V V V (ZcJ hS.imm n 2 N64 (by omega)) (fun w1 G1 S1 L1=>?_)
 exact RT S1 V (congrArg Za (by exact ZeX h0 (by omega)))
theorem ZmU {G : GH} {w : World} (hG : G.In w) (x : Mom) (cx : List Value) (hcx : Zhg.rep G x cx) (hx : ZhT x) : CL Tryz.prog (nat_lit 58) #[.agg cx.toArray] [] w G fun _ _ r=>r = Za (ZeQ x):=by
 refine Zg ft [] Tryz.func58 V V ?_
 obtain ⟨U1,U2,U3,U4,U5,U6,U7⟩:=id hx
 have hS:=St.start (X:=[]) hG
 obtain ⟨rfl,B1,B2,Z7,Z5,ZD,hb6⟩:=ZbS hcx
 refine Z4 [U x.d.y,U x.d.m,U x.d.d,U x.t.h,U x.t.m,U x.t.s] _ hS V V V (fun p1 w1 G1 L1 M1 C1 S1=>?_)
 refine Zc S1 C1 [U x.d.y,U x.d.m,U x.d.d,U x.t.h,U x.t.m,U x.t.s] ZaK V V V V V <| Yq S1 Zht V V V (ZzQ S1.imm x _ (Zdk x B1 B2 Z7 Z5 ZD hb6) hx) ?_
 rintro w2 G2 _ ⟨_,_,rfl,rfl,rfl⟩ S2 L2
 refine Zz 0 0 V V V (fun h1=>?_) (fun h1=>?_)
 ·omega
 refine dr [(24,false)] [(14, .agg #[U x.d.y,U x.d.m,U x.d.d]),(15,Za (Qf x.d)),(16,Za ((Qf x.d) ++ [84])),(20,U x.t.h),(21,Za (ZA x.t.h.natAbs 2)),(22,Za (((Qf x.d) ++ [84]) ++ (ZA x.t.h.natAbs 2))),(23,Za ((((Qf x.d) ++ [84]) ++ (ZA x.t.h.natAbs 2)) ++ [58])),(27,U x.t.m),(28,Za (ZA x.t.m.natAbs 2)),(29,Za (((((Qf x.d) ++ [84]) ++ (ZA x.t.h.natAbs 2)) ++ [58]) ++ (ZA x.t.m.natAbs 2))),(30,Za ((((((Qf x.d) ++ [84]) ++ (ZA x.t.h.natAbs 2)) ++ [58]) ++ (ZA x.t.m.natAbs 2)) ++ [58])),(34,U x.t.s),(35,Za (ZA x.t.s.natAbs 2)),(36,Za (((((((Qf x.d) ++ [84]) ++ (ZA x.t.h.natAbs 2)) ++ [58]) ++ (ZA x.t.m.natAbs 2)) ++ [58]) ++ (ZA x.t.s.natAbs 2)))] S2 ⟨fun _ hSw=>Zc hSw (Xh.drop 0 (C1.mono L2)) [U x.d.y,U x.d.m,U x.d.d] Y2 V V V V V <| nu V V,fun _ hSw=>ZB hSw Zhu V V V (ZuB hSw.imm x.d _ (Qw x.d B1 B2 Z7) U1 U2 U3 U7) V,fun _=>Zh (Qf x.d) [84] (by have:=(Zak x.d (by omega) (by omega) (by omega)); (try simp only [Zo]); have:=Zb; omega) V V V <| nu V V,fun _ hSw=>Z hSw (Xh.drop 0 (Xh.drop 3 (C1.mono L2))) Zk V V V <| nu V V,fun _ hSw=>ZB hSw Zfl V V V (Zhy hSw.imm x.t.h (by omega) (by omega)) V,fun _=>Zh ((Qf x.d) ++ [84]) (ZA x.t.h.natAbs 2) (by have:=(Zak x.d (by omega) (by omega) (by omega)); have:=(X0 x.t.h.natAbs 2 (by omega)); (try simp only [Zo]); have:=Zb; omega) V V V <| nu V V,fun _=>Zh (((Qf x.d) ++ [84]) ++ (ZA x.t.h.natAbs 2)) [58] (by have:=(Zak x.d (by omega) (by omega) (by omega)); have:=(X0 x.t.h.natAbs 2 (by omega)); (try simp only [Zo]); have:=Zb; omega) V V V <| nu V V,fun _ hSw=>Z hSw (Xh.drop 1 (Xh.drop 3 (C1.mono L2))) Zk V V V <| nu V V,fun _ hSw=>ZB hSw Zfl V V V (Zhy hSw.imm x.t.m (by omega) (by omega)) V,fun _=>Zh ((((Qf x.d) ++ [84]) ++ (ZA x.t.h.natAbs 2)) ++ [58]) (ZA x.t.m.natAbs 2) (by have:=(Zak x.d (by omega) (by omega) (by omega)); have:=(X0 x.t.h.natAbs 2 (by omega)); have:=(X0 x.t.m.natAbs 2 (by omega)); (try simp only [Zo]); have:=Zb; omega) V V V <| nu V V,fun _=>Zh (((((Qf x.d) ++ [84]) ++ (ZA x.t.h.natAbs 2)) ++ [58]) ++ (ZA x.t.m.natAbs 2)) [58] (by have:=(Zak x.d (by omega) (by omega) (by omega)); have:=(X0 x.t.h.natAbs 2 (by omega)); have:=(X0 x.t.m.natAbs 2 (by omega)); (try simp only [Zo]); have:=Zb; omega) V V V <| nu V V,fun _ hSw=>Z hSw (Xh.drop 2 (Xh.drop 3 (C1.mono L2))) Zk V V V <| nu V V,fun _ hSw=>ZB hSw Zfl V V V (Zhy hSw.imm x.t.s (by omega) (by omega)) V,fun _=>Zh ((((((Qf x.d) ++ [84]) ++ (ZA x.t.h.natAbs 2)) ++ [58]) ++ (ZA x.t.m.natAbs 2)) ++ [58]) (ZA x.t.s.natAbs 2) (by have:=(Zak x.d (by omega) (by omega) (by omega)); have:=(X0 x.t.h.natAbs 2 (by omega)); have:=(X0 x.t.m.natAbs 2 (by omega)); have:=(X0 x.t.s.natAbs 2 (by omega)); (try simp only [Zo]); have:=Zb; omega) V V V <| nu V V,trivial⟩ (fun w3 S3=>?_)
 exact RT S3 V (congrArg Za (by rfl))
theorem Zjw {G : GH} {w : World} (hG : G.In w) (t : Int) (ht64 : Zj t) (ht : -62135596800 ≤ t ∧ t ≤ 253402300800) : CL Tryz.prog (nat_lit 26) #[U t] [] w G fun _ _ r=>r = Za (Yk t):=by
 refine Zg ft [] Tryz.func26 V V ?_
 have hS:=St.start (X:=[]) hG
 refine Ze t 253402300800 V V V (fun h1=>?_) (fun h1=>?_)
 ·exact RT hS V (congrArg Za (by exact Zn1 ‹_›))
 refine Yq hS Zej V V V (Zjv hS.imm t ht64 (by omega)) ?_
 rintro w1 G1 _ ⟨r2,_,rfl,A1,rfl⟩ S1 L1
 obtain ⟨D1,rfl,R1⟩:=A1
 obtain ⟨rfl,B1,B2,Z7,Z5,ZD,hb6⟩:=ZbS R1
 refine WL.alloc S1 ZaK V V (fun b1 w2 N1 S2=>?_)
 refine Z9 S2 0 [U ((X7 t).d.y),U ((X7 t).d.m),U ((X7 t).d.d),U ((X7 t).t.h),U ((X7 t).t.m),U ((X7 t).t.s)] V V ZaK V V V V V V (fun w3 S3=>?_)
 obtain ⟨G2,L2,C1,S4⟩:=S3.shutB N1
 refine Zc S4 C1 [U ((X7 t).d.y),U ((X7 t).d.m),U ((X7 t).d.d),U ((X7 t).t.h),U ((X7 t).t.m),U ((X7 t).t.s)] ZaK V V V V V ?_
 refine Zl S4 Zek V V V (ZmU S4.imm (X7 t) _ (Zdk (X7 t) B1 B2 Z7 Z5 ZD hb6) (ZhU (by omega))) (fun w4 G3 S5 L3=>?_)
 exact RT S5 V (congrArg Za (by exact Zn2 ‹_›))
theorem ZnX {G : GH} {w : World} (hG : G.In w) (t : Int) (ht64 : Zj t) (ht : -62135596800 ≤ t ∧ t < 253402300800) : CL Tryz.prog (nat_lit 192) #[U t] [] w G fun _ _ r=>∃ r0 r1,r = .tuple #[r0,r1] ∧ r0 = U (t / 86400) ∧ r1 = U (t % 86400):=by
 refine Zg ft [] Tryz.func192 V V ?_
 have hS:=St.start (X:=[]) hG
 refine Zl hS ZzE V V V (ZnU hS.imm t ht64 (by omega)) (fun w1 G1 S1 L1=>?_)
 have hi1 : Zj (86400 * (t / 86400)):=by have:=(Zli ‹_›).1; have:=(Zli ‹_›).2; constructor <;> omega
 refine WL.ar .mul V 86400 (t / 86400) V V V hi1 ?_
 have hi2 : Zj (t - (86400 * (t / 86400))):=by have:=ht64.1; have:=ht64.2; have:=hi1.1; have:=hi1.2; constructor <;> omega
 refine WL.ar .sub V t (86400 * (t / 86400)) V V V hi2 ?_
 exact RT S1 V ⟨_,_,V,(congrArg (Value.int .i64) (by rfl)),(congrArg (Value.int .i64) (by exact Zun t))⟩
theorem ZpO {G : GH} {w : World} (hG : G.In w) (s : Int) (hs : 0 ≤ s ∧ s < 86400) : CL Tryz.prog (nat_lit 194) #[U s] [] w G fun G' _ r=>Is Zi7 G' r (X6 s):=by
 refine Yw ft [] Tryz.func194 V V ?_
 have A64 : Zj s:=⟨by omega,by omega⟩
 have hS:=St.start (X:=[]) hG
 refine WL.alloc hS Zai V V (fun b1 w1 N1 S1=>?_)
 refine YZ s 3600 (by omega) (by omega) A64 V V V ?_
 refine YZ s 60 (by omega) (by omega) A64 V V V ?_
 refine XG (s / 60) 60 (by omega) (by omega) V V V ?_
 refine XG s 60 (by omega) (by omega) V V V ?_
 refine WL.build _ [(0,[U (s / 3600)]),(1,[U ((s / 60) % 60)]),(2,[U (s % 60)])] [U (s / 3600),U ((s / 60) % 60),U (s % 60)] Zai V ZjX V V V V ?_
 refine Z9 S1 0 [U (s / 3600),U ((s / 60) % 60),U (s % 60)] V V Zai V V V V V V (fun w2 S2=>?_)
 obtain ⟨G1,L1,C1,S3⟩:=S2.shutB N1
 exact Qk [.agg #[U (s / 3600),U ((s / 60) % 60),U (s % 60)]] S3 ⟨_,_,_,V,V,S3.loadC C1 Zai V V,V⟩ (Is.cast ⟨_,V,(Zdj (Tim.mk (s / 3600) ((s / 60) % 60) (s % 60)) (show Zj (s / 3600) from by constructor <;> omega) (show Zj ((s / 60) % 60) from by constructor <;> omega) (show Zj (s % 60) from by constructor <;> omega))⟩ (by rfl))
theorem ZmV {G : GH} {w : World} (hG : G.In w) (y : Int) (hy : 1 ≤ y ∧ y ≤ 10001) : CL Tryz.prog (nat_lit 217) #[U y] [] w G fun _ _ r=>r = U (ZW y):=by
 refine Zg ft [] Tryz.func217 V V ?_
 have hy64 : Zj y:=⟨by omega,by omega⟩
 have hS:=St.start (X:=[]) hG
 have hi1 : Zj (y - 1):=by have:=hy64.1; have:=hy64.2; constructor <;> omega
 refine WL.ar .sub V y 1 V V V hi1 ?_
 have hi2 : Zj (365 * (y - 1)):=by have:=hi1.1; have:=hi1.2; constructor <;> omega
 refine WL.ar .mul V 365 (y - 1) V V V hi2 ?_
 have hi3 : Zj ((-719162) + (365 * (y - 1))):=by have:=hi2.1; have:=hi2.2; constructor <;> omega
 refine WL.ar .add V (-719162) (365 * (y - 1)) V V V hi3 ?_
 refine YZ (y - 1) 4 (by omega) (by omega) hi1 V V V ?_
 have hi4 : Zj (((-719162) + (365 * (y - 1))) + ((y - 1) / 4)):=by have:=hi3.1; have:=hi3.2; constructor <;> omega
 refine WL.ar .add V ((-719162) + (365 * (y - 1))) ((y - 1) / 4) V V V hi4 ?_
 refine YZ (y - 1) 100 (by omega) (by omega) hi1 V V V ?_
 have hi5 : Zj ((((-719162) + (365 * (y - 1))) + ((y - 1) / 4)) - ((y - 1) / 100)):=by have:=hi4.1; have:=hi4.2; constructor <;> omega
 refine WL.ar .sub V (((-719162) + (365 * (y - 1))) + ((y - 1) / 4)) ((y - 1) / 100) V V V hi5 ?_
 refine YZ (y - 1) 400 (by omega) (by omega) hi1 V V V ?_
 have hi6 : Zj (((((-719162) + (365 * (y - 1))) + ((y - 1) / 4)) - ((y - 1) / 100)) + ((y - 1) / 400)):=by have:=hi5.1; have:=hi5.2; constructor <;> omega
 refine WL.ar .add V ((((-719162) + (365 * (y - 1))) + ((y - 1) / 4)) - ((y - 1) / 100)) ((y - 1) / 400) V V V hi6 ?_
 exact RI hS V (by exact Zsw y)
theorem ZpP {G : GH} {w : World} (hG : G.In w) (d : Int) (hd : -719162 ≤ d ∧ d < 2932897) : CL Tryz.prog (nat_lit 193) #[U d] [] w G fun G' _ r=>∃ r0 r1,r = .tuple #[r0,r1] ∧ Is ZcN G' r0 (ZC d) ∧ r1 = U 0:=by
 refine Yw ft [] Tryz.func193 V V ?_
 have hd64 : Zj d:=⟨by omega,by omega⟩
 have hS:=St.start (X:=[]) hG
 refine WL.alloc hS Y2 V V (fun b1 w1 N1 S1=>?_)
 refine Zp d (-719162) V V V (fun h1=>?_) (fun h1=>?_)
 ·refine WL.build _ [] [U 0,U 0,U 0] Y2 V ZbF V V V V ?_
  refine Z9 S1 0 [U 0,U 0,U 0] V V Y2 V V V V V V (fun w2 S2=>?_)
  exact Qk [.agg #[U 0,U 0,U 0],U 2] S2 ⟨_,_,_,V,V,S2.loadA 0 _ _ _ 0 [U 0,U 0,U 0] V V V Y2 V,⟨_,V,V⟩⟩ ⟨_,_,V,(Is.cast ⟨_,V,(Qw (Dat.mk 0 0 0) Yf Yf Yf)⟩ (by (exfalso; omega))),(congrArg (Value.int .i64) (by (exfalso; omega)))⟩
 refine ZM d 2932897 V V V (fun h2=>?_) (fun h2=>?_)
 ·refine WL.build _ [] [U 0,U 0,U 0] Y2 V ZbF V V V V ?_
  refine Z9 S1 0 [U 0,U 0,U 0] V V Y2 V V V V V V (fun w3 S3=>?_)
  exact Qk [.agg #[U 0,U 0,U 0],U 2] S3 ⟨_,_,_,V,V,S3.loadA 0 _ _ _ 0 [U 0,U 0,U 0] V V V Y2 V,⟨_,V,V⟩⟩ ⟨_,_,V,(Is.cast ⟨_,V,(Qw (Dat.mk 0 0 0) Yf Yf Yf)⟩ (by (exfalso; omega))),(congrArg (Value.int .i64) (by (exfalso; omega)))⟩
 have hi1 : Zj (d - (-719162)):=by constructor <;> omega
 refine WL.ar .sub V d (-719162) V V V hi1 ?_
 refine YZ (d - (-719162)) 366 (by omega) (by omega) hi1 V V V ?_
 have hi2 : Zj (((d - (-719162)) / 366) + 1):=by constructor <;> omega
 refine WL.ar .add V ((d - (-719162)) / 366) 1 V V V hi2 ?_
 refine LP.go ft [] (fun m ρ1 w1=>∃ (yy : Int),∃ (G1 : GH),m = (9999 - yy).toNat ∧ G.le G1 ∧ St w [] G G1 [some (b1,105,[U 0,U 0,U 0])] w1 ∧ FR ρ1 [(0,U d),(2, .pointer (some ⟨b1,0,none⟩)),(4,U yy)] ∧ (1 ≤ yy ∧ yy ≤ 9999) ∧ ZW yy ≤ d) _ ⟨(((d - (-719162)) / 366) + 1),G,V,(G.le_refl),S1,⟨V,V,V,trivial⟩,(by omega),(by exact Zsu hd.1)⟩ ?_
 rintro m ρ1 w4 ⟨yy,G1,rfl,L1,S4,F9,f1,f2⟩
 refine F9.set ?_
 clear F9
 have hyy64 : Zj yy:=⟨by omega,by omega⟩
 have hi3 : Zj (yy + 1):=by have:=hyy64.1; have:=hyy64.2; constructor <;> omega
 refine WL.ar .add V yy 1 V V V hi3 ?_
 refine Zl S4 Zt0 V V V (ZmV S4.imm (yy + 1) (by omega)) (fun w5 G2 S5 L2=>?_)
 refine X2 (ZW (yy + 1)) d V V V (fun h3=>?_) (fun h3=>?_)
 ·have hi4 : Zj (yy + 1):=by have:=hyy64.1; have:=hyy64.2; constructor <;> omega
  refine WL.ar .add V yy 1 V V V hi4 ?_
  have hfu:=Zsx ‹_› (by omega : d < 2932897) (by omega)
  exact BK.mk' _ ⟨(yy + 1),G2,V,(L1.trans L2),S5,⟨V,V,V,trivial⟩,(by exact Zsx ‹_› (by omega) (by omega)),‹_›⟩ (show (9999 - (yy + 1)).toNat < (9999 - yy).toNat by omega)
 have hiy:=(Zup ‹_› (by omega) : isY d yy)
 have hfb:=Zc9 (y:=yy) (by omega)
 refine Zl S5 Zt0 V V V (ZmV S5.imm yy (by omega)) (fun w6 G3 S6 L3=>?_)
 have hi5 : Zj (d - (ZW yy)):=by have:=(ZmH yy (by omega)).1; have:=(ZmH yy (by omega)).2; constructor <;> omega
 refine WL.ar .sub V d (ZW yy) V V V hi5 ?_
 have hi6 : Zj ((d - (ZW yy)) + 1):=by have:=hi5.1; have:=hi5.2; constructor <;> omega
 refine WL.ar .add V (d - (ZW yy)) 1 V V V hi6 ?_
 refine LP.go ft [] (fun m ρ1 w1=>∃ (mm : Int),∃ (nn : Int),∃ (G4 : GH),m = (12 - mm).toNat ∧ G3.le G4 ∧ St w [] G G4 [some (b1,105,[U 0,U 0,U 0])] w1 ∧ FR ρ1 [(2, .pointer (some ⟨b1,0,none⟩)),(4,U yy),(5,U nn),(6,U mm)] ∧ (1 ≤ mm ∧ mm ≤ 12) ∧ nn = d - ZW yy - Y3 (YV yy) mm + 1 ∧ (1 ≤ nn ∧ nn ≤ 400)) _ ⟨1,((d - (ZW yy)) + 1),G3,V,(G3.le_refl),S6,(ZS V),(by omega),(by rw [ZfQ]; omega),(by have h9:=Zwp hiy; omega)⟩ ?_
 rintro m ρ1 w7 ⟨mm,nn,G4,rfl,L4,S7,F9,f3,f4,f5⟩
 refine F9.set ?_
 clear F9
 have hmm64 : Zj mm:=⟨by omega,by omega⟩
 have hnn64 : Zj nn:=⟨by omega,by omega⟩
 have hlb:=@ZjK yy mm
 refine Zl S7 ZnQ V V V (Zet S7.imm yy mm (by omega) (by omega)) (fun w9 G5 S8 L5=>?_)
 refine Z1 nn (Xo yy mm) V V V (fun h4=>?_) (fun h4=>?_)
 ·refine Zl S8 ZnQ V V V (Zet S8.imm yy mm (by omega) (by omega)) (fun w10 G6 S9 L6=>?_)
  have hi7 : Zj (nn - (Xo yy mm)):=by have:=hnn64.1; have:=hnn64.2; have:=(ZmI yy mm).1; have:=(ZmI yy mm).2; constructor <;> omega
  refine WL.ar .sub V nn (Xo yy mm) V V V hi7 ?_
  have hi8 : Zj (mm + 1):=by have:=hmm64.1; have:=hmm64.2; constructor <;> omega
  refine WL.ar .add V mm 1 V V V hi8 ?_
  have hms:=Zyj hiy (by assumption : nn = d - ZW yy - Y3 (YV yy) mm + 1) (by omega) (by omega) ‹_›
  exact BK.mk' _ ⟨(mm + 1),(nn - (Xo yy mm)),G6,V,(L4.trans (L5.trans L6)),S9,(ZS V),(by omega),(by omega),(by omega)⟩ (show (12 - (mm + 1)).toNat < (12 - mm).toNat by omega)
 have him:=Zuq hiy (by assumption : nn = d - ZW yy - Y3 (YV yy) mm + 1) (by omega) (by omega) (by omega)
 refine WL.build _ [(0,[U yy]),(1,[U mm]),(2,[U nn])] [U yy,U mm,U nn] Y2 V ZbF V V V V ?_
 refine Z9 S8 0 [U yy,U mm,U nn] V V Y2 V V V V V V (fun w11 S10=>?_)
 exact Qk [.agg #[U yy,U mm,U nn],U 0] S10 ⟨_,_,_,V,V,S10.loadA 0 _ _ _ 0 [U yy,U mm,U nn] V V V Y2 V,⟨_,V,V⟩⟩ ⟨_,_,V,(Is.cast ⟨_,V,(Qw (Dat.mk yy mm nn) hyy64 hmm64 hnn64)⟩ (by exact Zyk hiy him ‹_› (by omega))),(congrArg (Value.int .i64) (by rfl))⟩
theorem Zmb {G : GH} {w : World} (hG : G.In w) (t : Int) (ht64 : Zj t) (ht : -62135596800 ≤ t ∧ t < 253402300800) : CL Tryz.prog (nat_lit 149) #[U t] [] w G fun G' _ r=>Is Zhg G' r (X7 t):=by
 refine Yw ft [] Tryz.func149 V V ?_
 have hS:=St.start (X:=[]) hG
 refine WL.alloc hS ZaK V V (fun b1 w1 N1 S1=>?_)
 refine Yq S1 Zz4 V V V (ZnX S1.imm t ht64 ht) ?_
 rintro w2 G1 _ ⟨_,_,rfl,rfl,rfl⟩ S2 L1
 refine Yq S2 Zz5 V V V (ZpP S2.imm (t / 86400) (by omega)) ?_
 rintro w3 G2 _ ⟨r5,_,rfl,A1,rfl⟩ S3 L2
 obtain ⟨D1,rfl,R1⟩:=A1
 obtain ⟨rfl,B1,B2,Z7⟩:=QZ R1
 refine WL.alloc S3 Y2 V V (fun b2 w4 N2 S4=>?_)
 refine Z9 S4 0 [U ((ZC (t / 86400)).y),U ((ZC (t / 86400)).m),U ((ZC (t / 86400)).d)] V V Y2 V V V V V V (fun w5 S5=>?_)
 obtain ⟨G3,L3,C1,S6⟩:=S5.shutB N2
 refine dr [(2,true),(3,false),(4,false)] [(17, .agg #[U ((ZC (t / 86400)).y),U ((ZC (t / 86400)).m),U ((ZC (t / 86400)).d)])] S6 ⟨fun _ hSw=>Zc hSw C1 [U ((ZC (t / 86400)).y),U ((ZC (t / 86400)).m),U ((ZC (t / 86400)).d)] Y2 V V V V V <| nu V V,trivial⟩ (fun w6 S7=>?_)
 refine Yq S7 Zz6 V V V (ZpO S7.imm (t % 86400) (by omega)) (fun w7 G4 r7 P3 S8 L4=>?_)
 obtain ⟨D2,rfl,R2⟩:=P3
 obtain ⟨rfl,Z5,ZD,hb6⟩:=ZdN R2
 refine ⟨S8.down S7.le L4,?_⟩
 refine WL.build _ [(0,[U ((ZC (t / 86400)).y),U ((ZC (t / 86400)).m),U ((ZC (t / 86400)).d)]),(1,[U ((X6 (t % 86400)).h),U ((X6 (t % 86400)).m),U ((X6 (t % 86400)).s)])] [U ((ZC (t / 86400)).y),U ((ZC (t / 86400)).m),U ((ZC (t / 86400)).d),U ((X6 (t % 86400)).h),U ((X6 (t % 86400)).m),U ((X6 (t % 86400)).s)] ZaK V Ztf V V V V ?_
 refine Z9 S8 0 [U ((ZC (t / 86400)).y),U ((ZC (t / 86400)).m),U ((ZC (t / 86400)).d),U ((X6 (t % 86400)).h),U ((X6 (t % 86400)).m),U ((X6 (t % 86400)).s)] V V ZaK V V V V V V (fun w9 S9=>?_)
 obtain ⟨G5,L5,C2,S10⟩:=S9.shutB N1
 exact Qk [.agg #[U ((ZC (t / 86400)).y),U ((ZC (t / 86400)).m),U ((ZC (t / 86400)).d),U ((X6 (t % 86400)).h),U ((X6 (t % 86400)).m),U ((X6 (t % 86400)).s)]] S10 ⟨_,_,_,V,V,S10.loadC C2 ZaK V V,V⟩ (Is.cast ⟨_,V,(Zdk (Mom.mk (ZC (t / 86400)) (X6 (t % 86400))) B1 B2 Z7 Z5 ZD hb6)⟩ (by rfl))
theorem ZpQ {G : GH} {w : World} (hG : G.In w) (x : Mom) (cx : List Value) (hcx : Zhg.rep G x cx) (hx : ZhT x) : CL Tryz.prog (nat_lit 148) #[.agg cx.toArray] [] w G fun _ _ r=>r = Za (ZeQ x):=by
 refine Zg ft [] Tryz.func148 V V ?_
 obtain ⟨U1,U2,U3,U4,U5,U6,U7⟩:=id hx
 have hS:=St.start (X:=[]) hG
 obtain ⟨rfl,B1,B2,Z7,Z5,ZD,hb6⟩:=ZbS hcx
 refine Z4 [U x.d.y,U x.d.m,U x.d.d,U x.t.h,U x.t.m,U x.t.s] _ hS V V V (fun p1 w1 G1 L1 M1 C1 S1=>?_)
 refine dr [(21,false)] [(4, .agg #[U x.d.y,U x.d.m,U x.d.d]),(5,Za (Qf x.d)),(6,Za ((Qf x.d) ++ [84])),(9,U x.t.h),(10,Za (ZA x.t.h.natAbs 2)),(11,Za (((Qf x.d) ++ [84]) ++ (ZA x.t.h.natAbs 2))),(12,Za ((((Qf x.d) ++ [84]) ++ (ZA x.t.h.natAbs 2)) ++ [58])),(15,U x.t.m),(16,Za (ZA x.t.m.natAbs 2)),(17,Za (((((Qf x.d) ++ [84]) ++ (ZA x.t.h.natAbs 2)) ++ [58]) ++ (ZA x.t.m.natAbs 2))),(18,Za ((((((Qf x.d) ++ [84]) ++ (ZA x.t.h.natAbs 2)) ++ [58]) ++ (ZA x.t.m.natAbs 2)) ++ [58])),(21,U x.t.s),(22,Za (ZA x.t.s.natAbs 2)),(23,Za (((((((Qf x.d) ++ [84]) ++ (ZA x.t.h.natAbs 2)) ++ [58]) ++ (ZA x.t.m.natAbs 2)) ++ [58]) ++ (ZA x.t.s.natAbs 2)))] S1 ⟨fun _ hSw=>Zc hSw (Xh.drop 0 C1) [U x.d.y,U x.d.m,U x.d.d] Y2 V V V V V <| nu V V,fun _ hSw=>ZB hSw Zz3 V V V (ZpN hSw.imm x.d _ (Qw x.d B1 B2 Z7) U1 U2 U3 U7) V,fun _=>Zh (Qf x.d) [84] (by have:=(Zak x.d (by omega) (by omega) (by omega)); (try simp only [Zo]); have:=Zb; omega) V V V <| nu V V,fun _ hSw=>Z hSw (Xh.drop 0 (Xh.drop 3 C1)) Zk V V V <| nu V V,fun _ hSw=>ZB hSw ZnO V V V (Zhx hSw.imm x.t.h (by omega) (by omega)) V,fun _=>Zh ((Qf x.d) ++ [84]) (ZA x.t.h.natAbs 2) (by have:=(Zak x.d (by omega) (by omega) (by omega)); have:=(X0 x.t.h.natAbs 2 (by omega)); (try simp only [Zo]); have:=Zb; omega) V V V <| nu V V,fun _=>Zh (((Qf x.d) ++ [84]) ++ (ZA x.t.h.natAbs 2)) [58] (by have:=(Zak x.d (by omega) (by omega) (by omega)); have:=(X0 x.t.h.natAbs 2 (by omega)); (try simp only [Zo]); have:=Zb; omega) V V V <| nu V V,fun _ hSw=>Z hSw (Xh.drop 1 (Xh.drop 3 C1)) Zk V V V <| nu V V,fun _ hSw=>ZB hSw ZnO V V V (Zhx hSw.imm x.t.m (by omega) (by omega)) V,fun _=>Zh ((((Qf x.d) ++ [84]) ++ (ZA x.t.h.natAbs 2)) ++ [58]) (ZA x.t.m.natAbs 2) (by have:=(Zak x.d (by omega) (by omega) (by omega)); have:=(X0 x.t.h.natAbs 2 (by omega)); have:=(X0 x.t.m.natAbs 2 (by omega)); (try simp only [Zo]); have:=Zb; omega) V V V <| nu V V,fun _=>Zh (((((Qf x.d) ++ [84]) ++ (ZA x.t.h.natAbs 2)) ++ [58]) ++ (ZA x.t.m.natAbs 2)) [58] (by have:=(Zak x.d (by omega) (by omega) (by omega)); have:=(X0 x.t.h.natAbs 2 (by omega)); have:=(X0 x.t.m.natAbs 2 (by omega)); (try simp only [Zo]); have:=Zb; omega) V V V <| nu V V,fun _ hSw=>Z hSw (Xh.drop 2 (Xh.drop 3 C1)) Zk V V V <| nu V V,fun _ hSw=>ZB hSw ZnO V V V (Zhx hSw.imm x.t.s (by omega) (by omega)) V,fun _=>Zh ((((((Qf x.d) ++ [84]) ++ (ZA x.t.h.natAbs 2)) ++ [58]) ++ (ZA x.t.m.natAbs 2)) ++ [58]) (ZA x.t.s.natAbs 2) (by have:=(Zak x.d (by omega) (by omega) (by omega)); have:=(X0 x.t.h.natAbs 2 (by omega)); have:=(X0 x.t.m.natAbs 2 (by omega)); have:=(X0 x.t.s.natAbs 2 (by omega)); (try simp only [Zo]); have:=Zb; omega) V V V <| nu V V,trivial⟩ (fun w2 S2=>?_)
 exact RT S2 V (congrArg Za (by rfl))
theorem Zjx {G : GH} {w : World} (hG : G.In w) (t : Int) (ht64 : Zj t) (ht : -62135596800 ≤ t ∧ t ≤ 253402300800) : CL Tryz.prog (nat_lit 104) #[U t] [] w G fun _ _ r=>r = Za (Yk t):=by
 refine Zg ft [] Tryz.func104 V V ?_
 have hS:=St.start (X:=[]) hG
 refine Ze t 253402300800 V V V (fun h1=>?_) (fun h1=>?_)
 ·exact RT hS V (congrArg Za (by exact Zn1 ‹_›))
 refine Yq hS Zzm V V V (Zmb hS.imm t ht64 (by omega)) (fun w1 G1 r1 P1 S1 L1=>?_)
 obtain ⟨D1,rfl,R1⟩:=P1
 obtain ⟨rfl,B1,B2,Z7,Z5,ZD,hb6⟩:=ZbS R1
 refine Zl S1 Zzl V V V (ZpQ S1.imm (X7 t) _ (Zdk (X7 t) B1 B2 Z7 Z5 ZD hb6) (ZhU (by omega))) (fun w2 G2 S2 L2=>?_)
 exact RT S2 V (congrArg Za (by exact Zn2 ‹_›))
end Go.Civ
