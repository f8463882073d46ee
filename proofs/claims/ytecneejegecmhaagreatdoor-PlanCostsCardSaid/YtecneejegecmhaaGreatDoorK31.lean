/- Lemmas. -/
import Derived.Test.YtecneejegecmhaaGreatDoorK30
set_option linter.unusedVariables false
set_option linter.unusedSimpArgs false
set_option linter.unnecessarySimpa false
set_option linter.unusedVariables false
set_option linter.unusedSimpArgs false
set_option maxRecDepth 100000
set_option maxHeartbeats 4000000
namespace Go.Civ
open Go.Proofs
def Z11 (n : Nat) : Prop:=∀ {G : GH} {w : World} (hG : G.In w) (c : Cond) (hg : Glob G) (cc : List Value) (hcc : CndE.rep G c cc) (hn : Qd c n) (hw : QU n c) (hb : (YL c).length ≤ 100000),CL Tryz.prog (nat_lit 175) #[.agg cc.toArray] [] w G fun _ _ r=>r = Za (YL c)
theorem Xm {G : GH} {w : World} (hG : G.In w) (n : Nat) (x : Cond) (ks : List Int) (hN : Z11 n) (hg : Glob G) (cx : List Value) (hcx : CndE.rep G x cx) (vk : Value) (hvk : Sl Enc.int 8 G vk ks) (hn : Qd x n) (hw : QU n x) (hb : (ZN ks x).length ≤ 100000) : CL Tryz.prog (nat_lit 207) #[.agg cx.toArray,vk] [] w G fun _ _ r=>r = Za (ZN ks x):=by
 refine Zg ft [] Tryz.func207 V V ?_
 have hbx : (YL x).length ≤ 100000:=Nat.le_trans Zps hb
 have hS:=St.start (X:=[]) hG
 obtain ⟨v1,rfl,B1,B2,Z7,Z5,ZD,hb6,A1⟩:=Yl hcx
 refine Z4 [U x.kind,Za x.col,Za x.oth,U x.v.k,U x.v.n,Za x.v.s,v1] _ hS V V V (fun p1 w1 G1 L1 M1 C1 S1=>?_)
 have V1:=hvk.bound
 refine Zm (hvk.mono L1) Xz V V ?_
 refine LP.go ft [] (fun m ρ1 w1=>∃ (k1 : Nat),∃ (G2 : GH),m = ks.length - k1 ∧ G1.le G2 ∧ St w [] G G2 [] w1 ∧ FR ρ1 [(2,ZP p1),(7,vk),(8,U (ks.length : Int)),(9,U (k1 : Int))] ∧ k1 ≤ ks.length ∧ ∀ j,j < k1 → ∀ z,ks[j]? = some z → ¬ x.kind = z) _ ⟨0,G1,V,(G1.le_refl),S1,(ZS V),(by omega),(by intro j hj; omega)⟩ ?_
 rintro m ρ1 w2 ⟨k1,G2,rfl,L2,S2,F9,f1,f2⟩
 refine F9.set ?_
 clear F9
 refine Zp (k1 : Int) (ks.length : Int) V V V (fun h1=>?_) (fun h1=>?_)
 ·have j1:=(L1.trans L2)
  refine WL.indexAddr (hvk.mono j1) k1 (by omega) Xz Zk V V V V (fun p2 x1 U1 E1=>?_)
  obtain ⟨D1,C2,R1⟩:=E1
  obtain ⟨rfl,hb7⟩:=R1
  refine Z S2 C2 Zk V V V <| Z S2 (Xh.drop 0 (C1.mono L2)) Zk V V V ?_
  refine Ze x.kind x1 V V V (fun h2=>?_) (fun h2=>?_)
  ·refine Zc S2 (C1.mono L2) [U x.kind,Za x.col,Za x.oth,U x.v.k,U x.v.n,Za x.v.s,v1] ZY V V V V V ?_
   refine Zl S2 ZnM V V V (hN S2.imm x (hg.mono j1) _ (ZR x B1 B2 Z7 Z5 ZD hb6 (A1.mono j1)) hn hw hbx) (fun w3 G3 S3 L3=>?_)
   refine Zh [40] (YL x) (by have:=(show (YL x).length ≤ 100000 by assumption); (try simp only [Zo]); have:=Zb; omega) V V V ?_
   refine Zh ([40] ++ (YL x)) [41] (by have:=(show (YL x).length ≤ 100000 by assumption); (try simp only [Zo]); have:=Zb; omega) V V V ?_
   exact RT S3 V (congrArg Za (by exact Zww ‹_› ‹_›))
  refine Zq k1 (by have:=Zb; omega) V V V ?_
  exact BK.mk' _ ⟨k1 + 1,G2,V,L2,S2,(ZS V),(by omega),(by exact Ys ‹_› ‹_› ‹_›)⟩ (show ks.length - (k1 + 1) < ks.length - k1 by omega)
 refine Zc S2 (C1.mono L2) [U x.kind,Za x.col,Za x.oth,U x.v.k,U x.v.n,Za x.v.s,v1] ZY V V V V V ?_
 have j2:=(L1.trans L2)
 refine Zl S2 ZnM V V V (hN S2.imm x (hg.mono j2) _ (ZR x B1 B2 Z7 Z5 ZD hb6 (A1.mono j2)) hn hw hbx) (fun w4 G4 S4 L4=>?_)
 exact RT S4 V (congrArg Za (by exact Zyv ‹_› (by omega)))
theorem ZpW (n : Nat) : ∀ {G : GH} {w : World} (hG : G.In w) (c : Cond) (hg : Glob G) (cc : List Value) (hcc : CndE.rep G c cc) (hn : Qd c n) (hw : QU n c) (hb : (YL c).length ≤ 100000),CL Tryz.prog (nat_lit 175) #[.agg cc.toArray] [] w G fun _ _ r=>r = Za (YL c):=by
 induction n
 ·intro G w hG c hg cc hcc hn hw hb; exact (ZaU hn).elim
 rename_i n ih
 intro G w hG c hg cc hcc hn hw hb
 refine Zg ft [] Tryz.func175 V V ?_
 have hS:=St.start (X:=[]) hG
 obtain ⟨v1,rfl,B1,B2,Z7,Z5,ZD,hb6,A1⟩:=Yl hcc
 refine Z4 [U c.kind,Za c.col,Za c.oth,U c.v.k,U c.v.n,Za c.v.s,v1] _ hS V V V (fun p1 w1 G1 L1 M1 C1 S1=>?_)
 refine Z S1 (Xh.drop 0 C1) Zk V V V ?_
 refine Ze c.kind 3 V V V (fun h1=>?_) (fun h1=>?_)
 ·exact RT S1 V (congrArg Za (by exact ZqS ‹_›))
 refine Ze c.kind 4 V V V (fun h2=>?_) (fun h2=>?_)
 ·have hl1:=Zo6 hw ‹_›
  obtain ⟨x0,U0⟩:=YG (l:=c.l) (k:=0) (by omega)
  have O0 : (ZN [5,6] x0).length ≤ 100000:=Nat.le_trans (Zs9 ‹_› U0) hb
  refine Z S1 (Xh.drop 6 C1) XD V V V ?_
  refine WL.indexAddr (A1.mono L1) 0 (by omega) Xr ZY V V V V (fun p2 x1 U1 E1=>?_)
  obtain rfl : x0 = x1:=Option.some.inj (U0.symm.trans U1)
  obtain ⟨D1,C2,R1⟩:=E1
  obtain ⟨v2,rfl,hb7,ZV,hb9,ZI,ZJ,ZL,A2⟩:=Yl R1
  refine Zc S1 C2 [U x0.kind,Za x0.col,Za x0.oth,U x0.v.k,U x0.v.n,Za x0.v.s,v2] ZY V V V V V ?_
  refine WL.buildSlice _ [(0,[U 5]),(1,[U 6])] [U 5,U 6] S1 Qr V V V V (fun z hz=>by match z,hz with | [z0,z1],_=>rfl) (fun b1 w2 N1 S2=>?_)
  obtain ⟨G2,L2,A3,S3⟩:=St.sealSl (E:=Enc.int) (by_:=8) (l:=([5,6] : List Int)) S2 N1 ⟨[U 5],_,V,⟨V,(show Zj 5 from by constructor <;> decide)⟩,⟨[U 6],_,V,⟨V,(show Zj 6 from by constructor <;> decide)⟩,V⟩⟩ V (by simp [reach]) (by simp [reach])
  refine Zl S3 Zaj V V V (Xm S3.imm n x0 [5,6] ih (hg.mono (L1.trans L2)) _ (ZR x0 hb7 ZV hb9 ZI ZJ ZL (A2.mono L2)) _ A3 (Xb hn (List.mem_of_getElem? ‹_›)) (XP hw (List.mem_of_getElem? ‹_›)) ‹_›) (fun w3 G3 S4 L3=>?_)
  refine Zh [110,111,116,32] (ZN [5,6] x0) (by have:=(show (ZN [5,6] x0).length ≤ 100000 by assumption); (try simp only [Zo]); have:=Zb; omega) V V V ?_
  exact RT S4 V (congrArg Za (by exact Znt ‹_› ‹_›))
 refine Ze c.kind 5 V V V (fun h3=>?_) (fun h3=>?_)
 ·have hl2:=Zo7 hw ‹_›
  obtain ⟨x0,U0⟩:=YG (l:=c.l) (k:=0) (by omega)
  obtain ⟨y0,hy0⟩:=YG (l:=c.l) (k:=1) (by omega)
  have O5:=ZsA ‹_› U0 hy0
  have O0 : (ZN [6] x0).length ≤ 100000:=Nat.le_trans O5.1 hb
  have O1 : (ZN [6,5] y0).length ≤ 100000:=Nat.le_trans O5.2 hb
  obtain ⟨p3,x2,U2,E2,W1⟩:=Sl.at (A1.mono L1) 0 (by omega)
  obtain rfl : x0 = x2:=Option.some.inj (U0.symm.trans U2)
  obtain ⟨D2,C3,R2⟩:=E2
  obtain ⟨v3,rfl,Y0,Y6,YA,Y9,Yr,YH,A4⟩:=Yl R2
  obtain ⟨p4,x3,U3,E3,W2⟩:=Sl.at (A1.mono L1) 1 (by omega)
  obtain rfl : y0 = x3:=Option.some.inj (hy0.symm.trans U3)
  obtain ⟨D3,C4,R3⟩:=E3
  obtain ⟨v4,rfl,YJ,YO,Xf,Xg,YK,Xc,A5⟩:=Yl R3
  refine drT [5,6,7,13,14,15,16] [(23,v1),(24,ZP p3),(25, .agg #[U x0.kind,Za x0.col,Za x0.oth,U x0.v.k,U x0.v.n,Za x0.v.s,v3]),(31,v1),(32,ZP p4),(33, .agg #[U y0.kind,Za y0.col,Za y0.oth,U y0.v.k,U y0.v.n,Za y0.v.s,v4])] S1 ⟨fun _ hSw=>Z hSw (Xh.drop 6 C1) XD V V V <| nu V V,fun _=>Zy 0 W1 Xr ZY V V V V <| nu V V,fun _ hSw=>Zc hSw C3 [U x0.kind,Za x0.col,Za x0.oth,U x0.v.k,U x0.v.n,Za x0.v.s,v3] ZY V V V V V <| nu V V,fun _ hSw=>Z hSw (Xh.drop 6 C1) XD V V V <| nu V V,fun _=>Zy 1 W2 Xr ZY V V V V <| nu V V,fun _ hSw=>Zc hSw C4 [U y0.kind,Za y0.col,Za y0.oth,U y0.v.k,U y0.v.n,Za y0.v.s,v4] ZY V V V V V <| nu V V,trivial⟩ (fun w4 S5=>?_)
  refine TG.fork 6 [5,6,7,13,14,15,16] [5,13] V V (by decide) (by decide) (TA.cons V ?_ (TA.cons V ?_ TA.nil))
  ·refine WL.buildSlice _ [(0,[U 6])] [U 6] S5 Qr V V V V (fun z hz=>by match z,hz with | [z0],_=>rfl) (fun b2 w5 N2 S6=>?_)
   refine ⟨fun _=>S6.tail.down S5.le (G1.le_refl),?_⟩
   refine TG.fork 5 [6,7,13,14,15,16] [6,13] V V (by decide) (by decide) (TA.cons V ?_ (TA.cons V ?_ TA.nil))
   ·obtain ⟨G4,L4,A6,S7⟩:=St.sealSl (E:=Enc.int) (by_:=8) (l:=([6] : List Int)) S6 N2 ⟨[U 6],_,V,⟨V,(show Zj 6 from by constructor <;> decide)⟩,V⟩ V (by simp [reach]) (by simp [reach])
    have j1:=(L1.trans L4)
    refine Zl S7 Zaj V V V (Xm S7.imm n x0 [6] ih (hg.mono j1) _ (ZR x0 Y0 Y6 YA Y9 Yr YH (A4.mono L4)) _ A6 (Xb hn (List.mem_of_getElem? ‹_›)) (XP hw (List.mem_of_getElem? ‹_›)) ‹_›) (fun w6 G5 S8 L5=>?_)
    have j2:=(L4.trans L5)
    refine ⟨fun _=>S8.down S5.le j2,?_⟩
    refine TG.fork 4 [7,13,14,15,16] [7,13] V V (by decide) (by decide) (TA.cons V ?_ (TA.cons V ?_ TA.nil))
    ·refine Zh (ZN [6] x0) [32,97,110,100,32] (by have:=(show (ZN [6] x0).length ≤ 100000 by assumption); (try simp only [Zo]); have:=Zb; omega) V V V ?_
     refine ⟨fun _=>S8.down S5.le j2,?_⟩
     refine TG.fork 3 [13,14,15,16] [13] V V (by decide) (by decide) (TA.cons V ?_ TA.nil)
     refine WL.buildSlice _ [(0,[U 6]),(1,[U 5])] [U 6,U 5] S8 Qr V V V V (fun z hz=>by match z,hz with | [z0,z1],_=>rfl) (fun b3 w7 N3 S9=>?_)
     refine ⟨fun _=>S9.tail.down S5.le j2,?_⟩
     refine TG.fork 2 [14,15,16] [14] V V (by decide) (by decide) (TA.cons V ?_ TA.nil)
     obtain ⟨G6,L6,A7,S10⟩:=St.sealSl (E:=Enc.int) (by_:=8) (l:=([6,5] : List Int)) S9 N3 ⟨[U 6],_,V,⟨V,(show Zj 6 from by constructor <;> decide)⟩,⟨[U 5],_,V,⟨V,(show Zj 5 from by constructor <;> decide)⟩,V⟩⟩ V (by simp [reach]) (by simp [reach])
     refine Zl S10 Zaj V V V (Xm S10.imm n y0 [6,5] ih (hg.mono ((j1.trans L5).trans L6)) _ (ZR y0 YJ YO Xf Xg YK Xc (A5.mono (j2.trans L6))) _ A7 (Xb hn (List.mem_of_getElem? ‹_›)) (XP hw (List.mem_of_getElem? ‹_›)) ‹_›) (fun w9 G7 S11 L7=>?_)
     refine ⟨fun h=>absurd h (by decide),?_⟩
     refine TG.quiet 1 [15,16] 15 V V V V V (by decide) (fun w9 K9 k9=>Zh ((ZN [6] x0) ++ [32,97,110,100,32]) (ZN [6,5] y0) (by have:=(show (ZN [6] x0).length ≤ 100000 by assumption); have:=(show (ZN [6,5] y0).length ≤ 100000 by assumption); (try simp only [Zo]); have:=Zb; omega) V V V k9) ?_
     refine TG.quiet 0 [16] 16 V V V V V (by decide) (fun w9 K9 k9=>WL.assign V k9) ?_
     refine TG.fin V ?_
     exact RT S11 V (congrArg Za (by exact Zed ‹_› (by assumption : c.l[0]? = some _) (by assumption : c.l[1]? = some _)))
    refine WL.buildSlice _ [(0,[U 6]),(1,[U 5])] [U 6,U 5] S8 Qr V V V V (fun z hz=>by match z,hz with | [z0,z1],_=>rfl) (fun b4 w10 N4 S12=>?_)
    refine ⟨fun _=>S12.tail.down S5.le j2,?_⟩
    refine TG.fork 3 [7,14,15,16] [7,14] V V (by decide) (by decide) (TA.cons V ?_ (TA.cons V ?_ TA.nil))
    ·refine Zh (ZN [6] x0) [32,97,110,100,32] (by have:=(show (ZN [6] x0).length ≤ 100000 by assumption); (try simp only [Zo]); have:=Zb; omega) V V V ?_
     refine ⟨fun _=>S12.tail.down S5.le j2,?_⟩
     refine TG.fork 2 [14,15,16] [14] V V (by decide) (by decide) (TA.cons V ?_ TA.nil)
     obtain ⟨G9,L9,A8,S13⟩:=St.sealSl (E:=Enc.int) (by_:=8) (l:=([6,5] : List Int)) S12 N4 ⟨[U 6],_,V,⟨V,(show Zj 6 from by constructor <;> decide)⟩,⟨[U 5],_,V,⟨V,(show Zj 5 from by constructor <;> decide)⟩,V⟩⟩ V (by simp [reach]) (by simp [reach])
     refine Zl S13 Zaj V V V (Xm S13.imm n y0 [6,5] ih (hg.mono (((L1.trans L4).trans L5).trans L9)) _ (ZR y0 YJ YO Xf Xg YK Xc (A5.mono ((L4.trans L5).trans L9))) _ A8 (Xb hn (List.mem_of_getElem? ‹_›)) (XP hw (List.mem_of_getElem? ‹_›)) ‹_›) (fun w11 G10 S14 L10=>?_)
     refine ⟨fun h=>absurd h (by decide),?_⟩
     refine TG.quiet 1 [15,16] 15 V V V V V (by decide) (fun w9 K9 k9=>Zh ((ZN [6] x0) ++ [32,97,110,100,32]) (ZN [6,5] y0) (by have:=(show (ZN [6] x0).length ≤ 100000 by assumption); have:=(show (ZN [6,5] y0).length ≤ 100000 by assumption); (try simp only [Zo]); have:=Zb; omega) V V V k9) ?_
     refine TG.quiet 0 [16] 16 V V V V V (by decide) (fun w9 K9 k9=>WL.assign V k9) ?_
     refine TG.fin V ?_
     exact RT S14 V (congrArg Za (by exact Zed ‹_› (by assumption : c.l[0]? = some _) (by assumption : c.l[1]? = some _)))
    obtain ⟨G11,L11,A9,S15⟩:=St.sealSl (E:=Enc.int) (by_:=8) (l:=([6,5] : List Int)) S12 N4 ⟨[U 6],_,V,⟨V,(show Zj 6 from by constructor <;> decide)⟩,⟨[U 5],_,V,⟨V,(show Zj 5 from by constructor <;> decide)⟩,V⟩⟩ V (by simp [reach]) (by simp [reach])
    refine Zl S15 Zaj V V V (Xm S15.imm n y0 [6,5] ih (hg.mono ((j1.trans L5).trans L11)) _ (ZR y0 YJ YO Xf Xg YK Xc (A5.mono (j2.trans L11))) _ A9 (Xb hn (List.mem_of_getElem? ‹_›)) (XP hw (List.mem_of_getElem? ‹_›)) ‹_›) (fun w12 G12 S16 L12=>?_)
    refine ⟨fun h=>absurd h (by decide),?_⟩
    refine TG.fork 2 [7,15,16] [7] V V (by decide) (by decide) (TA.cons V ?_ TA.nil)
    refine Zh (ZN [6] x0) [32,97,110,100,32] (by have:=(show (ZN [6] x0).length ≤ 100000 by assumption); (try simp only [Zo]); have:=Zb; omega) V V V ?_
    refine ⟨fun _=>S16.down S5.le ((j2.trans L11).trans L12),?_⟩
    refine TG.quiet 1 [15,16] 15 V V V V V (by decide) (fun w9 K9 k9=>Zh ((ZN [6] x0) ++ [32,97,110,100,32]) (ZN [6,5] y0) (by have:=(show (ZN [6] x0).length ≤ 100000 by assumption); have:=(show (ZN [6,5] y0).length ≤ 100000 by assumption); (try simp only [Zo]); have:=Zb; omega) V V V k9) ?_
    refine TG.quiet 0 [16] 16 V V V V V (by decide) (fun w9 K9 k9=>WL.assign V k9) ?_
    refine TG.fin V ?_
    exact RT S16 V (congrArg Za (by exact Zed ‹_› (by assumption : c.l[0]? = some _) (by assumption : c.l[1]? = some _)))
   refine WL.buildSlice _ [(0,[U 6]),(1,[U 5])] [U 6,U 5] S6 Qr V V V V (fun z hz=>by match z,hz with | [z0,z1],_=>rfl) (fun b5 w13 N5 S17=>?_)
   refine ⟨fun _=>S17.tail.tail.down S5.le (G1.le_refl),?_⟩
   refine TG.fork 4 [6,7,14,15,16] [6] V V (by decide) (by decide) (TA.cons V ?_ TA.nil)
   obtain ⟨G13,L13,A10,S18⟩:=St.sealSlAt (E:=Enc.int) (by_:=8) (l:=([6] : List Int)) S17 1 V N2 ⟨[U 6],_,V,⟨V,(show Zj 6 from by constructor <;> decide)⟩,V⟩ V (by simp [reach]) (by simp [reach])
   have j3:=(L1.trans L13)
   refine Zl S18 Zaj V V V (Xm S18.imm n x0 [6] ih (hg.mono j3) _ (ZR x0 Y0 Y6 YA Y9 Yr YH (A4.mono L13)) _ A10 (Xb hn (List.mem_of_getElem? ‹_›)) (XP hw (List.mem_of_getElem? ‹_›)) ‹_›) (fun w14 G14 S19 L14=>?_)
   have j4:=(L13.trans L14)
   refine ⟨fun _=>S19.tail.tail.down S5.le j4,?_⟩
   refine TG.fork 3 [7,14,15,16] [7,14] V V (by decide) (by decide) (TA.cons V ?_ (TA.cons V ?_ TA.nil))
   ·refine Zh (ZN [6] x0) [32,97,110,100,32] (by have:=(show (ZN [6] x0).length ≤ 100000 by assumption); (try simp only [Zo]); have:=Zb; omega) V V V ?_
    refine ⟨fun _=>S19.tail.tail.down S5.le j4,?_⟩
    refine TG.fork 2 [14,15,16] [14] V V (by decide) (by decide) (TA.cons V ?_ TA.nil)
    obtain ⟨G15,L15,A11,S20⟩:=St.sealSl (E:=Enc.int) (by_:=8) (l:=([6,5] : List Int)) S19 N5 ⟨[U 6],_,V,⟨V,(show Zj 6 from by constructor <;> decide)⟩,⟨[U 5],_,V,⟨V,(show Zj 5 from by constructor <;> decide)⟩,V⟩⟩ V (by simp [reach]) (by simp [reach])
    refine Zl S20 Zaj V V V (Xm S20.imm n y0 [6,5] ih (hg.mono ((j3.trans L14).trans L15)) _ (ZR y0 YJ YO Xf Xg YK Xc (A5.mono (j4.trans L15))) _ A11 (Xb hn (List.mem_of_getElem? ‹_›)) (XP hw (List.mem_of_getElem? ‹_›)) ‹_›) (fun w15 G16 S21 L16=>?_)
    refine ⟨fun h=>absurd h (by decide),?_⟩
    refine TG.quiet 1 [15,16] 15 V V V V V (by decide) (fun w9 K9 k9=>Zh ((ZN [6] x0) ++ [32,97,110,100,32]) (ZN [6,5] y0) (by have:=(show (ZN [6] x0).length ≤ 100000 by assumption); have:=(show (ZN [6,5] y0).length ≤ 100000 by assumption); (try simp only [Zo]); have:=Zb; omega) V V V k9) ?_
    refine TG.quiet 0 [16] 16 V V V V V (by decide) (fun w9 K9 k9=>WL.assign V k9) ?_
    refine TG.fin V ?_
    exact RT S21 V (congrArg Za (by exact Zed ‹_› (by assumption : c.l[0]? = some _) (by assumption : c.l[1]? = some _)))
   obtain ⟨G17,L17,A12,S22⟩:=St.sealSl (E:=Enc.int) (by_:=8) (l:=([6,5] : List Int)) S19 N5 ⟨[U 6],_,V,⟨V,(show Zj 6 from by constructor <;> decide)⟩,⟨[U 5],_,V,⟨V,(show Zj 5 from by constructor <;> decide)⟩,V⟩⟩ V (by simp [reach]) (by simp [reach])
   refine Zl S22 Zaj V V V (Xm S22.imm n y0 [6,5] ih (hg.mono ((j3.trans L14).trans L17)) _ (ZR y0 YJ YO Xf Xg YK Xc (A5.mono (j4.trans L17))) _ A12 (Xb hn (List.mem_of_getElem? ‹_›)) (XP hw (List.mem_of_getElem? ‹_›)) ‹_›) (fun w16 G18 S23 L18=>?_)
   refine ⟨fun h=>absurd h (by decide),?_⟩
   refine TG.fork 2 [7,15,16] [7] V V (by decide) (by decide) (TA.cons V ?_ TA.nil)
   refine Zh (ZN [6] x0) [32,97,110,100,32] (by have:=(show (ZN [6] x0).length ≤ 100000 by assumption); (try simp only [Zo]); have:=Zb; omega) V V V ?_
   refine ⟨fun _=>S23.tail.down S5.le ((j4.trans L17).trans L18),?_⟩
   refine TG.quiet 1 [15,16] 15 V V V V V (by decide) (fun w9 K9 k9=>Zh ((ZN [6] x0) ++ [32,97,110,100,32]) (ZN [6,5] y0) (by have:=(show (ZN [6] x0).length ≤ 100000 by assumption); have:=(show (ZN [6,5] y0).length ≤ 100000 by assumption); (try simp only [Zo]); have:=Zb; omega) V V V k9) ?_
   refine TG.quiet 0 [16] 16 V V V V V (by decide) (fun w9 K9 k9=>WL.assign V k9) ?_
   refine TG.fin V ?_
   exact RT S23 V (congrArg Za (by exact Zed ‹_› (by assumption : c.l[0]? = some _) (by assumption : c.l[1]? = some _)))
  refine WL.buildSlice _ [(0,[U 6]),(1,[U 5])] [U 6,U 5] S5 Qr V V V V (fun z hz=>by match z,hz with | [z0,z1],_=>rfl) (fun b6 w17 N6 S24=>?_)
  refine ⟨fun _=>S24.tail.down S5.le (G1.le_refl),?_⟩
  refine TG.fork 5 [5,6,7,14,15,16] [5] V V (by decide) (by decide) (TA.cons V ?_ TA.nil)
  refine WL.buildSlice _ [(0,[U 6])] [U 6] S24 Qr V V V V (fun z hz=>by match z,hz with | [z0],_=>rfl) (fun b7 w18 N7 S25=>?_)
  refine ⟨fun _=>S25.tail.tail.down S5.le (G1.le_refl),?_⟩
  refine TG.fork 4 [6,7,14,15,16] [6] V V (by decide) (by decide) (TA.cons V ?_ TA.nil)
  obtain ⟨G19,L19,A13,S26⟩:=St.sealSl (E:=Enc.int) (by_:=8) (l:=([6] : List Int)) S25 N7 ⟨[U 6],_,V,⟨V,(show Zj 6 from by constructor <;> decide)⟩,V⟩ V (by simp [reach]) (by simp [reach])
  have j5:=(L1.trans L19)
  refine Zl S26 Zaj V V V (Xm S26.imm n x0 [6] ih (hg.mono j5) _ (ZR x0 Y0 Y6 YA Y9 Yr YH (A4.mono L19)) _ A13 (Xb hn (List.mem_of_getElem? ‹_›)) (XP hw (List.mem_of_getElem? ‹_›)) ‹_›) (fun w19 G20 S27 L20=>?_)
  have j6:=(L19.trans L20)
  refine ⟨fun _=>S27.tail.down S5.le j6,?_⟩
  refine TG.fork 3 [7,14,15,16] [7,14] V V (by decide) (by decide) (TA.cons V ?_ (TA.cons V ?_ TA.nil))
  ·refine Zh (ZN [6] x0) [32,97,110,100,32] (by have:=(show (ZN [6] x0).length ≤ 100000 by assumption); (try simp only [Zo]); have:=Zb; omega) V V V ?_
   refine ⟨fun _=>S27.tail.down S5.le j6,?_⟩
   refine TG.fork 2 [14,15,16] [14] V V (by decide) (by decide) (TA.cons V ?_ TA.nil)
   obtain ⟨G21,L21,A14,S28⟩:=St.sealSl (E:=Enc.int) (by_:=8) (l:=([6,5] : List Int)) S27 N6 ⟨[U 6],_,V,⟨V,(show Zj 6 from by constructor <;> decide)⟩,⟨[U 5],_,V,⟨V,(show Zj 5 from by constructor <;> decide)⟩,V⟩⟩ V (by simp [reach]) (by simp [reach])
   refine Zl S28 Zaj V V V (Xm S28.imm n y0 [6,5] ih (hg.mono ((j5.trans L20).trans L21)) _ (ZR y0 YJ YO Xf Xg YK Xc (A5.mono (j6.trans L21))) _ A14 (Xb hn (List.mem_of_getElem? ‹_›)) (XP hw (List.mem_of_getElem? ‹_›)) ‹_›) (fun w20 G22 S29 L22=>?_)
   refine ⟨fun h=>absurd h (by decide),?_⟩
   refine TG.quiet 1 [15,16] 15 V V V V V (by decide) (fun w9 K9 k9=>Zh ((ZN [6] x0) ++ [32,97,110,100,32]) (ZN [6,5] y0) (by have:=(show (ZN [6] x0).length ≤ 100000 by assumption); have:=(show (ZN [6,5] y0).length ≤ 100000 by assumption); (try simp only [Zo]); have:=Zb; omega) V V V k9) ?_
   refine TG.quiet 0 [16] 16 V V V V V (by decide) (fun w9 K9 k9=>WL.assign V k9) ?_
   refine TG.fin V ?_
   exact RT S29 V (congrArg Za (by exact Zed ‹_› (by assumption : c.l[0]? = some _) (by assumption : c.l[1]? = some _)))
  obtain ⟨G23,L23,A15,S30⟩:=St.sealSl (E:=Enc.int) (by_:=8) (l:=([6,5] : List Int)) S27 N6 ⟨[U 6],_,V,⟨V,(show Zj 6 from by constructor <;> decide)⟩,⟨[U 5],_,V,⟨V,(show Zj 5 from by constructor <;> decide)⟩,V⟩⟩ V (by simp [reach]) (by simp [reach])
  refine Zl S30 Zaj V V V (Xm S30.imm n y0 [6,5] ih (hg.mono ((j5.trans L20).trans L23)) _ (ZR y0 YJ YO Xf Xg YK Xc (A5.mono (j6.trans L23))) _ A15 (Xb hn (List.mem_of_getElem? ‹_›)) (XP hw (List.mem_of_getElem? ‹_›)) ‹_›) (fun w21 G24 S31 L24=>?_)
  refine ⟨fun h=>absurd h (by decide),?_⟩
  refine TG.fork 2 [7,15,16] [7] V V (by decide) (by decide) (TA.cons V ?_ TA.nil)
  refine Zh (ZN [6] x0) [32,97,110,100,32] (by have:=(show (ZN [6] x0).length ≤ 100000 by assumption); (try simp only [Zo]); have:=Zb; omega) V V V ?_
  refine ⟨fun _=>S31.down S5.le ((j6.trans L23).trans L24),?_⟩
  refine TG.quiet 1 [15,16] 15 V V V V V (by decide) (fun w9 K9 k9=>Zh ((ZN [6] x0) ++ [32,97,110,100,32]) (ZN [6,5] y0) (by have:=(show (ZN [6] x0).length ≤ 100000 by assumption); have:=(show (ZN [6,5] y0).length ≤ 100000 by assumption); (try simp only [Zo]); have:=Zb; omega) V V V k9) ?_
  refine TG.quiet 0 [16] 16 V V V V V (by decide) (fun w9 K9 k9=>WL.assign V k9) ?_
  refine TG.fin V ?_
  exact RT S31 V (congrArg Za (by exact Zed ‹_› (by assumption : c.l[0]? = some _) (by assumption : c.l[1]? = some _)))
 refine Ze c.kind 6 V V V (fun h4=>?_) (fun h4=>?_)
 ·have hl2:=Zo8 hw ‹_›
  obtain ⟨x0,U0⟩:=YG (l:=c.l) (k:=0) (by omega)
  obtain ⟨y0,hy0⟩:=YG (l:=c.l) (k:=1) (by omega)
  have O5:=ZsB ‹_› U0 hy0
  have O0 : (ZN [] x0).length ≤ 100000:=Nat.le_trans O5.1 hb
  have O1 : (ZN [6] y0).length ≤ 100000:=Nat.le_trans O5.2 hb
  obtain ⟨p5,x4,U4,E4,W3⟩:=Sl.at (A1.mono L1) 0 (by omega)
  obtain rfl : x0 = x4:=Option.some.inj (U0.symm.trans U4)
  obtain ⟨D4,C5,R4⟩:=E4
  obtain ⟨v5,rfl,XR,Qa,Qh,Q0,Qs,Q1,A16⟩:=Yl R4
  obtain ⟨p6,x5,U5,E5,W4⟩:=Sl.at (A1.mono L1) 1 (by omega)
  obtain rfl : y0 = x5:=Option.some.inj (hy0.symm.trans U5)
  obtain ⟨D5,C6,R5⟩:=E5
  obtain ⟨v6,rfl,Qb,Xw,Qt,XS,Qc,Qu,A17⟩:=Yl R5
  refine drT [5,6,12,13,14,15] [(41,v1),(42,ZP p5),(43, .agg #[U x0.kind,Za x0.col,Za x0.oth,U x0.v.k,U x0.v.n,Za x0.v.s,v5]),(48,v1),(49,ZP p6),(50, .agg #[U y0.kind,Za y0.col,Za y0.oth,U y0.v.k,U y0.v.n,Za y0.v.s,v6])] S1 ⟨fun _ hSw=>Z hSw (Xh.drop 6 C1) XD V V V <| nu V V,fun _=>Zy 0 W3 Xr ZY V V V V <| nu V V,fun _ hSw=>Zc hSw C5 [U x0.kind,Za x0.col,Za x0.oth,U x0.v.k,U x0.v.n,Za x0.v.s,v5] ZY V V V V V <| nu V V,fun _ hSw=>Z hSw (Xh.drop 6 C1) XD V V V <| nu V V,fun _=>Zy 1 W4 Xr ZY V V V V <| nu V V,fun _ hSw=>Zc hSw C6 [U y0.kind,Za y0.col,Za y0.oth,U y0.v.k,U y0.v.n,Za y0.v.s,v6] ZY V V V V V <| nu V V,trivial⟩ (fun w22 S32=>?_)
  refine TG.fork 5 [5,6,12,13,14,15] [5,12] V V (by decide) (by decide) (TA.cons V ?_ (TA.cons V ?_ TA.nil))
  ·refine Zl S32 Zaj V V V (Xm S32.imm n x0 [] ih (hg.mono L1) _ (ZR x0 XR Qa Qh Q0 Qs Q1 A16) _ (Sl.nil Enc.int 8 G1) (Xb hn (List.mem_of_getElem? ‹_›)) (XP hw (List.mem_of_getElem? ‹_›)) ‹_›) (fun w23 G25 S33 L25=>?_)
   refine ⟨fun _=>S33.down S32.le L25,?_⟩
   refine TG.fork 4 [6,12,13,14,15] [6,12] V V (by decide) (by decide) (TA.cons V ?_ (TA.cons V ?_ TA.nil))
   ·refine Zh (ZN [] x0) [32,111,114,32] (by have:=(show (ZN [] x0).length ≤ 100000 by assumption); (try simp only [Zo]); have:=Zb; omega) V V V ?_
    refine ⟨fun _=>S33.down S32.le L25,?_⟩
    refine TG.fork 3 [12,13,14,15] [12] V V (by decide) (by decide) (TA.cons V ?_ TA.nil)
    refine WL.buildSlice _ [(0,[U 6])] [U 6] S33 Qr V V V V (fun z hz=>by match z,hz with | [z0],_=>rfl) (fun b8 w24 N8 S34=>?_)
    refine ⟨fun _=>S34.tail.down S32.le L25,?_⟩
    refine TG.fork 2 [13,14,15] [13] V V (by decide) (by decide) (TA.cons V ?_ TA.nil)
    obtain ⟨G26,L26,A18,S35⟩:=St.sealSl (E:=Enc.int) (by_:=8) (l:=([6] : List Int)) S34 N8 ⟨[U 6],_,V,⟨V,(show Zj 6 from by constructor <;> decide)⟩,V⟩ V (by simp [reach]) (by simp [reach])
    refine Zl S35 Zaj V V V (Xm S35.imm n y0 [6] ih (hg.mono ((L1.trans L25).trans L26)) _ (ZR y0 Qb Xw Qt XS Qc Qu (A17.mono (L25.trans L26))) _ A18 (Xb hn (List.mem_of_getElem? ‹_›)) (XP hw (List.mem_of_getElem? ‹_›)) ‹_›) (fun w25 G27 S36 L27=>?_)
    refine ⟨fun h=>absurd h (by decide),?_⟩
    refine TG.quiet 1 [14,15] 14 V V V V V (by decide) (fun w9 K9 k9=>Zh ((ZN [] x0) ++ [32,111,114,32]) (ZN [6] y0) (by have:=(show (ZN [] x0).length ≤ 100000 by assumption); have:=(show (ZN [6] y0).length ≤ 100000 by assumption); (try simp only [Zo]); have:=Zb; omega) V V V k9) ?_
    refine TG.quiet 0 [15] 15 V V V V V (by decide) (fun w9 K9 k9=>WL.assign V k9) ?_
    refine TG.fin V ?_
    exact RT S36 V (congrArg Za (by exact ZfL ‹_› (by assumption : c.l[0]? = some _) (by assumption : c.l[1]? = some _)))
   refine WL.buildSlice _ [(0,[U 6])] [U 6] S33 Qr V V V V (fun z hz=>by match z,hz with | [z0],_=>rfl) (fun b9 w26 N9 S37=>?_)
   refine ⟨fun _=>S37.tail.down S32.le L25,?_⟩
   refine TG.fork 3 [6,13,14,15] [6,13] V V (by decide) (by decide) (TA.cons V ?_ (TA.cons V ?_ TA.nil))
   ·refine Zh (ZN [] x0) [32,111,114,32] (by have:=(show (ZN [] x0).length ≤ 100000 by assumption); (try simp only [Zo]); have:=Zb; omega) V V V ?_
    refine ⟨fun _=>S37.tail.down S32.le L25,?_⟩
    refine TG.fork 2 [13,14,15] [13] V V (by decide) (by decide) (TA.cons V ?_ TA.nil)
    obtain ⟨G28,L28,A19,S38⟩:=St.sealSl (E:=Enc.int) (by_:=8) (l:=([6] : List Int)) S37 N9 ⟨[U 6],_,V,⟨V,(show Zj 6 from by constructor <;> decide)⟩,V⟩ V (by simp [reach]) (by simp [reach])
    refine Zl S38 Zaj V V V (Xm S38.imm n y0 [6] ih (hg.mono ((L1.trans L25).trans L28)) _ (ZR y0 Qb Xw Qt XS Qc Qu (A17.mono (L25.trans L28))) _ A19 (Xb hn (List.mem_of_getElem? ‹_›)) (XP hw (List.mem_of_getElem? ‹_›)) ‹_›) (fun w27 G29 S39 L29=>?_)
    refine ⟨fun h=>absurd h (by decide),?_⟩
    refine TG.quiet 1 [14,15] 14 V V V V V (by decide) (fun w9 K9 k9=>Zh ((ZN [] x0) ++ [32,111,114,32]) (ZN [6] y0) (by have:=(show (ZN [] x0).length ≤ 100000 by assumption); have:=(show (ZN [6] y0).length ≤ 100000 by assumption); (try simp only [Zo]); have:=Zb; omega) V V V k9) ?_
    refine TG.quiet 0 [15] 15 V V V V V (by decide) (fun w9 K9 k9=>WL.assign V k9) ?_
    refine TG.fin V ?_
    exact RT S39 V (congrArg Za (by exact ZfL ‹_› (by assumption : c.l[0]? = some _) (by assumption : c.l[1]? = some _)))
   obtain ⟨G30,L30,A20,S40⟩:=St.sealSl (E:=Enc.int) (by_:=8) (l:=([6] : List Int)) S37 N9 ⟨[U 6],_,V,⟨V,(show Zj 6 from by constructor <;> decide)⟩,V⟩ V (by simp [reach]) (by simp [reach])
   have j7:=(L25.trans L30)
   refine Zl S40 Zaj V V V (Xm S40.imm n y0 [6] ih (hg.mono ((L1.trans L25).trans L30)) _ (ZR y0 Qb Xw Qt XS Qc Qu (A17.mono j7)) _ A20 (Xb hn (List.mem_of_getElem? ‹_›)) (XP hw (List.mem_of_getElem? ‹_›)) ‹_›) (fun w28 G31 S41 L31=>?_)
   refine ⟨fun h=>absurd h (by decide),?_⟩
   refine TG.fork 2 [6,14,15] [6] V V (by decide) (by decide) (TA.cons V ?_ TA.nil)
   refine Zh (ZN [] x0) [32,111,114,32] (by have:=(show (ZN [] x0).length ≤ 100000 by assumption); (try simp only [Zo]); have:=Zb; omega) V V V ?_
   refine ⟨fun _=>S41.down S32.le (j7.trans L31),?_⟩
   refine TG.quiet 1 [14,15] 14 V V V V V (by decide) (fun w9 K9 k9=>Zh ((ZN [] x0) ++ [32,111,114,32]) (ZN [6] y0) (by have:=(show (ZN [] x0).length ≤ 100000 by assumption); have:=(show (ZN [6] y0).length ≤ 100000 by assumption); (try simp only [Zo]); have:=Zb; omega) V V V k9) ?_
   refine TG.quiet 0 [15] 15 V V V V V (by decide) (fun w9 K9 k9=>WL.assign V k9) ?_
   refine TG.fin V ?_
   exact RT S41 V (congrArg Za (by exact ZfL ‹_› (by assumption : c.l[0]? = some _) (by assumption : c.l[1]? = some _)))
  refine WL.buildSlice _ [(0,[U 6])] [U 6] S32 Qr V V V V (fun z hz=>by match z,hz with | [z0],_=>rfl) (fun b10 w29 N10 S42=>?_)
  refine ⟨fun _=>S42.tail.down S32.le (G1.le_refl),?_⟩
  refine TG.fork 4 [5,6,13,14,15] [5] V V (by decide) (by decide) (TA.cons V ?_ TA.nil)
  refine Zl S42 Zaj V V V (Xm S42.imm n x0 [] ih (hg.mono L1) _ (ZR x0 XR Qa Qh Q0 Qs Q1 A16) _ (Sl.nil Enc.int 8 G1) (Xb hn (List.mem_of_getElem? ‹_›)) (XP hw (List.mem_of_getElem? ‹_›)) ‹_›) (fun w30 G32 S43 L32=>?_)
  refine ⟨fun _=>S43.tail.down S32.le L32,?_⟩
  refine TG.fork 3 [6,13,14,15] [6,13] V V (by decide) (by decide) (TA.cons V ?_ (TA.cons V ?_ TA.nil))
  ·refine Zh (ZN [] x0) [32,111,114,32] (by have:=(show (ZN [] x0).length ≤ 100000 by assumption); (try simp only [Zo]); have:=Zb; omega) V V V ?_
   refine ⟨fun _=>S43.tail.down S32.le L32,?_⟩
   refine TG.fork 2 [13,14,15] [13] V V (by decide) (by decide) (TA.cons V ?_ TA.nil)
   obtain ⟨G33,L33,A21,S44⟩:=St.sealSl (E:=Enc.int) (by_:=8) (l:=([6] : List Int)) S43 N10 ⟨[U 6],_,V,⟨V,(show Zj 6 from by constructor <;> decide)⟩,V⟩ V (by simp [reach]) (by simp [reach])
   refine Zl S44 Zaj V V V (Xm S44.imm n y0 [6] ih (hg.mono ((L1.trans L32).trans L33)) _ (ZR y0 Qb Xw Qt XS Qc Qu (A17.mono (L32.trans L33))) _ A21 (Xb hn (List.mem_of_getElem? ‹_›)) (XP hw (List.mem_of_getElem? ‹_›)) ‹_›) (fun w31 G34 S45 L34=>?_)
   refine ⟨fun h=>absurd h (by decide),?_⟩
   refine TG.quiet 1 [14,15] 14 V V V V V (by decide) (fun w9 K9 k9=>Zh ((ZN [] x0) ++ [32,111,114,32]) (ZN [6] y0) (by have:=(show (ZN [] x0).length ≤ 100000 by assumption); have:=(show (ZN [6] y0).length ≤ 100000 by assumption); (try simp only [Zo]); have:=Zb; omega) V V V k9) ?_
   refine TG.quiet 0 [15] 15 V V V V V (by decide) (fun w9 K9 k9=>WL.assign V k9) ?_
   refine TG.fin V ?_
   exact RT S45 V (congrArg Za (by exact ZfL ‹_› (by assumption : c.l[0]? = some _) (by assumption : c.l[1]? = some _)))
  obtain ⟨G35,L35,A22,S46⟩:=St.sealSl (E:=Enc.int) (by_:=8) (l:=([6] : List Int)) S43 N10 ⟨[U 6],_,V,⟨V,(show Zj 6 from by constructor <;> decide)⟩,V⟩ V (by simp [reach]) (by simp [reach])
  have j8:=(L32.trans L35)
  refine Zl S46 Zaj V V V (Xm S46.imm n y0 [6] ih (hg.mono ((L1.trans L32).trans L35)) _ (ZR y0 Qb Xw Qt XS Qc Qu (A17.mono j8)) _ A22 (Xb hn (List.mem_of_getElem? ‹_›)) (XP hw (List.mem_of_getElem? ‹_›)) ‹_›) (fun w32 G36 S47 L36=>?_)
  refine ⟨fun h=>absurd h (by decide),?_⟩
  refine TG.fork 2 [6,14,15] [6] V V (by decide) (by decide) (TA.cons V ?_ TA.nil)
  refine Zh (ZN [] x0) [32,111,114,32] (by have:=(show (ZN [] x0).length ≤ 100000 by assumption); (try simp only [Zo]); have:=Zb; omega) V V V ?_
  refine ⟨fun _=>S47.down S32.le (j8.trans L36),?_⟩
  refine TG.quiet 1 [14,15] 14 V V V V V (by decide) (fun w9 K9 k9=>Zh ((ZN [] x0) ++ [32,111,114,32]) (ZN [6] y0) (by have:=(show (ZN [] x0).length ≤ 100000 by assumption); have:=(show (ZN [6] y0).length ≤ 100000 by assumption); (try simp only [Zo]); have:=Zb; omega) V V V k9) ?_
  refine TG.quiet 0 [15] 15 V V V V V (by decide) (fun w9 K9 k9=>WL.assign V k9) ?_
  refine TG.fin V ?_
  exact RT S47 V (congrArg Za (by exact ZfL ‹_› (by assumption : c.l[0]? = some _) (by assumption : c.l[1]? = some _)))
 refine Z S1 (Xh.drop 0 C1) Zk V V V ?_
 refine Ze c.kind 1 V V V (fun h5=>?_) (fun h5=>?_)
 ·refine Z S1 (Xh.drop 2 C1) Zv V V V <| Zn .neq V c.oth [] V V V ?_
  refine WL.split (fun h0=>?_) (fun h0=>?_)
  ·have h6 : c.oth ≠ []:=by simpa [SCmp.b] using h0
   clear h0
   refine Z S1 (Xh.drop 1 C1) Zv V V V ?_
   refine Zh c.col [32,61,32] (by have:=B2; (try simp only [Zo]); have:=Zb; omega) V V V ?_
   refine Z S1 (Xh.drop 2 C1) Zv V V V ?_
   refine Zh (c.col ++ [32,61,32]) c.oth (by have:=B2; have:=Z7; (try simp only [Zo]); have:=Zb; omega) V V V ?_
   exact RT S1 V (congrArg Za (by exact Zwx ‹_› ‹_› ‹_› ‹_› ‹_› ‹_›))
  have h6 : c.oth = []:=by simpa [SCmp.b] using h0
  clear h0
  have hvv:=ZfS hw ‹_› ‹_› ‹_› ‹_› ‹_›
  refine dr [(8,false)] [(68,Za c.col),(70,Za (c.col ++ [32,61,32])),(72, .agg #[U c.v.k,U c.v.n,Za c.v.s]),(73,Za (QK c.v)),(74,Za ((c.col ++ [32,61,32]) ++ (QK c.v)))] S1 ⟨fun _ hSw=>Z hSw (Xh.drop 1 C1) Zv V V V <| nu V V,fun _=>Zh c.col [32,61,32] (by have:=B2; (try simp only [Zo]); have:=Zb; omega) V V V <| nu V V,fun _ hSw=>Zc hSw (Xh.drop 3 C1) [U c.v.k,U c.v.n,Za c.v.s] Xv V V V V V <| nu V V,fun _ hSw=>ZB hSw ZnN V V V (ZiS hSw.imm c.v (hg.mono L1) _ (XX c.v Z5 ZD hb6) hvv ‹_›) V,fun _=>Zh (c.col ++ [32,61,32]) (QK c.v) (by have:=B2; have:=(ZfR c.v ‹_› ‹_›); (try simp only [Zo]); have:=Zb; omega) V V V <| nu V V,trivial⟩ (fun w33 S48=>?_)
  exact RT S48 V (congrArg Za (by exact Zwz ‹_› ‹_› ‹_› ‹_› ‹_› ‹_›))
 refine Z S1 (Xh.drop 2 C1) Zv V V V <| Zn .neq V c.oth [] V V V ?_
 refine WL.split (fun h0=>?_) (fun h0=>?_)
 ·have h7 : c.oth ≠ []:=by simpa [SCmp.b] using h0
  clear h0
  refine Z S1 (Xh.drop 1 C1) Zv V V V ?_
  refine Zh c.col [32,60,32] (by have:=B2; (try simp only [Zo]); have:=Zb; omega) V V V ?_
  refine Z S1 (Xh.drop 2 C1) Zv V V V ?_
  refine Zh (c.col ++ [32,60,32]) c.oth (by have:=B2; have:=Z7; (try simp only [Zo]); have:=Zb; omega) V V V ?_
  exact RT S1 V (congrArg Za (by exact Zwy ‹_› ‹_› ‹_› ‹_› ‹_› ‹_›))
 have h7 : c.oth = []:=by simpa [SCmp.b] using h0
 clear h0
 have hvv:=ZfS hw ‹_› ‹_› ‹_› ‹_› ‹_›
 refine dr [(8,false)] [(68,Za c.col),(70,Za (c.col ++ [32,60,32])),(72, .agg #[U c.v.k,U c.v.n,Za c.v.s]),(73,Za (QK c.v)),(74,Za ((c.col ++ [32,60,32]) ++ (QK c.v)))] S1 ⟨fun _ hSw=>Z hSw (Xh.drop 1 C1) Zv V V V <| nu V V,fun _=>Zh c.col [32,60,32] (by have:=B2; (try simp only [Zo]); have:=Zb; omega) V V V <| nu V V,fun _ hSw=>Zc hSw (Xh.drop 3 C1) [U c.v.k,U c.v.n,Za c.v.s] Xv V V V V V <| nu V V,fun _ hSw=>ZB hSw ZnN V V V (ZiS hSw.imm c.v (hg.mono L1) _ (XX c.v Z5 ZD hb6) hvv ‹_›) V,fun _=>Zh (c.col ++ [32,60,32]) (QK c.v) (by have:=B2; have:=(ZfR c.v ‹_› ‹_›); (try simp only [Zo]); have:=Zb; omega) V V V <| nu V V,trivial⟩ (fun w34 S49=>?_)
 exact RT S49 V (congrArg Za (by exact Zw0 ‹_› ‹_› ‹_› ‹_› ‹_› ‹_›))
def Z12 (n : Nat) : Prop:=∀ {G : GH} {w : World} (hG : G.In w) (c : Cond) (cc : List Value) (hcc : CndE.rep G c cc) (hn : Qd c n) (hw : QU n c) (hb : (YL c).length ≤ 100000),CL Tryz.prog (nat_lit 101) #[.agg cc.toArray] [] w G fun _ _ r=>r = Za (YL c)
theorem Zcp {G : GH} {w : World} (hG : G.In w) (n : Nat) (x : Cond) (a b : Int) (hN : Z12 n) (cx : List Value) (hcx : CndE.rep G x cx) (hn : Qd x n) (hw : QU n x) (hb : (ZN [a,b] x).length ≤ 100000) : CL Tryz.prog (nat_lit 147) #[.agg cx.toArray,U a,U b] [] w G fun _ _ r=>r = Za (ZN [a,b] x):=by
 refine Zg ft [] Tryz.func147 V V ?_
 have hbx : (YL x).length ≤ 100000:=Nat.le_trans Zps hb
 have hS:=St.start (X:=[]) hG
 obtain ⟨v1,rfl,B1,B2,Z7,Z5,ZD,hb6,A1⟩:=Yl hcx
 refine Z4 [U x.kind,Za x.col,Za x.oth,U x.v.k,U x.v.n,Za x.v.s,v1] _ hS V V V (fun p1 w1 G1 L1 M1 C1 S1=>?_)
 refine Z S1 (Xh.drop 0 C1) Zk V V V ?_
 refine Ze x.kind a V V V (fun h1=>?_) (fun h1=>?_)
 ·refine Zc S1 C1 [U x.kind,Za x.col,Za x.oth,U x.v.k,U x.v.n,Za x.v.s,v1] ZY V V V V V ?_
  refine Zl S1 ZdR V V V (hN S1.imm x _ (ZR x B1 B2 Z7 Z5 ZD hb6 (A1.mono L1)) hn hw hbx) (fun w2 G2 S2 L2=>?_)
  refine Zh [40] (YL x) (by have:=(show (YL x).length ≤ 100000 by assumption); (try simp only [Zo]); have:=Zb; omega) V V V ?_
  refine Zh ([40] ++ (YL x)) [41] (by have:=(show (YL x).length ≤ 100000 by assumption); (try simp only [Zo]); have:=Zb; omega) V V V ?_
  exact RT S2 V (congrArg Za (by exact ZsC (.inl ‹_›)))
 refine Z S1 (Xh.drop 0 C1) Zk V V V ?_
 refine Ze x.kind b V V V (fun h2=>?_) (fun h2=>?_)
 ·refine Zc S1 C1 [U x.kind,Za x.col,Za x.oth,U x.v.k,U x.v.n,Za x.v.s,v1] ZY V V V V V ?_
  refine Zl S1 ZdR V V V (hN S1.imm x _ (ZR x B1 B2 Z7 Z5 ZD hb6 (A1.mono L1)) hn hw hbx) (fun w3 G3 S3 L3=>?_)
  refine Zh [40] (YL x) (by have:=(show (YL x).length ≤ 100000 by assumption); (try simp only [Zo]); have:=Zb; omega) V V V ?_
  refine Zh ([40] ++ (YL x)) [41] (by have:=(show (YL x).length ≤ 100000 by assumption); (try simp only [Zo]); have:=Zb; omega) V V V ?_
  exact RT S3 V (congrArg Za (by exact ZsC (.inr ‹_›)))
 refine Zc S1 C1 [U x.kind,Za x.col,Za x.oth,U x.v.k,U x.v.n,Za x.v.s,v1] ZY V V V V V ?_
 refine Zl S1 ZdR V V V (hN S1.imm x _ (ZR x B1 B2 Z7 Z5 ZD hb6 (A1.mono L1)) hn hw hbx) (fun w4 G4 S4 L4=>?_)
 exact RT S4 V (congrArg Za (by exact Zyw ‹_› ‹_›))
theorem Zoa (n : Nat) : ∀ {G : GH} {w : World} (hG : G.In w) (c : Cond) (cc : List Value) (hcc : CndE.rep G c cc) (hn : Qd c n) (hw : QU n c) (hb : (YL c).length ≤ 100000),CL Tryz.prog (nat_lit 101) #[.agg cc.toArray] [] w G fun _ _ r=>r = Za (YL c):=by
 induction n
 ·intro G w hG c cc hcc hn hw hb; exact (ZaU hn).elim
 rename_i n ih
 intro G w hG c cc hcc hn hw hb
 refine Zg ft [] Tryz.func101 V V ?_
 have hS:=St.start (X:=[]) hG
 obtain ⟨v1,rfl,B1,B2,Z7,Z5,ZD,hb6,A1⟩:=Yl hcc
 refine Z4 [U c.kind,Za c.col,Za c.oth,U c.v.k,U c.v.n,Za c.v.s,v1] _ hS V V V (fun p1 w1 G1 L1 M1 C1 S1=>?_)
 refine Z S1 (Xh.drop 0 C1) Zk V V V ?_
 refine Ze c.kind 3 V V V (fun h1=>?_) (fun h1=>?_)
 ·exact RT S1 V (congrArg Za (by exact ZqS ‹_›))
 refine Ze c.kind 4 V V V (fun h2=>?_) (fun h2=>?_)
 ·have hl1:=Zo6 hw ‹_›
  obtain ⟨x0,U0⟩:=YG (l:=c.l) (k:=0) (by omega)
  have O0 : (ZN [5,6] x0).length ≤ 100000:=Nat.le_trans (Zs9 ‹_› U0) hb
  refine Z S1 (Xh.drop 6 C1) XD V V V ?_
  refine WL.indexAddr (A1.mono L1) 0 (by omega) Xr ZY V V V V (fun p2 x1 U1 E1=>?_)
  obtain rfl : x0 = x1:=Option.some.inj (U0.symm.trans U1)
  obtain ⟨D1,C2,R1⟩:=E1
  obtain ⟨v2,rfl,hb7,ZV,hb9,ZI,ZJ,ZL,A2⟩:=Yl R1
  refine Zc S1 C2 [U x0.kind,Za x0.col,Za x0.oth,U x0.v.k,U x0.v.n,Za x0.v.s,v2] ZY V V V V V ?_
  refine Zl S1 Zio V V V (Zcp S1.imm n x0 5 6 ih _ (ZR x0 hb7 ZV hb9 ZI ZJ ZL A2) (Xb hn (List.mem_of_getElem? ‹_›)) (XP hw (List.mem_of_getElem? ‹_›)) ‹_›) (fun w2 G2 S2 L2=>?_)
  refine Zh [110,111,116,32] (ZN [5,6] x0) (by have:=(show (ZN [5,6] x0).length ≤ 100000 by assumption); (try simp only [Zo]); have:=Zb; omega) V V V ?_
  exact RT S2 V (congrArg Za (by exact Znt ‹_› ‹_›))
 refine Ze c.kind 5 V V V (fun h3=>?_) (fun h3=>?_)
 ·have hl2:=Zo7 hw ‹_›
  obtain ⟨x0,U0⟩:=YG (l:=c.l) (k:=0) (by omega)
  obtain ⟨y0,hy0⟩:=YG (l:=c.l) (k:=1) (by omega)
  have O5:=ZsA ‹_› U0 hy0
  have O0 : (ZN [6] x0).length ≤ 100000:=Nat.le_trans O5.1 hb
  have O1 : (ZN [6,5] y0).length ≤ 100000:=Nat.le_trans O5.2 hb
  have O2 : (ZN [6,6] x0).length ≤ 100000:=by rw [ZhW]; exact O0
  have O3 : (ZN [5,6] y0).length ≤ 100000:=by rw [Zpg]; exact O1
  obtain ⟨p3,x2,U2,E2,W1⟩:=Sl.at (A1.mono L1) 0 (by omega)
  obtain rfl : x0 = x2:=Option.some.inj (U0.symm.trans U2)
  obtain ⟨D2,C3,R2⟩:=E2
  obtain ⟨v3,rfl,Y0,Y6,YA,Y9,Yr,YH,A3⟩:=Yl R2
  obtain ⟨p4,x3,U3,E3,W2⟩:=Sl.at (A1.mono L1) 1 (by omega)
  obtain rfl : y0 = x3:=Option.some.inj (hy0.symm.trans U3)
  obtain ⟨D3,C4,R3⟩:=E3
  obtain ⟨v4,rfl,YJ,YO,Xf,Xg,YK,Xc,A4⟩:=Yl R3
  refine dr [(12,false)] [(19,v1),(20,ZP p3),(21, .agg #[U x0.kind,Za x0.col,Za x0.oth,U x0.v.k,U x0.v.n,Za x0.v.s,v3]),(22,Za (ZN [6,6] x0)),(23,Za ((ZN [6,6] x0) ++ [32,97,110,100,32])),(25,v1),(26,ZP p4),(27, .agg #[U y0.kind,Za y0.col,Za y0.oth,U y0.v.k,U y0.v.n,Za y0.v.s,v4]),(28,Za (ZN [5,6] y0)),(29,Za (((ZN [6,6] x0) ++ [32,97,110,100,32]) ++ (ZN [5,6] y0)))] S1 ⟨fun _ hSw=>Z hSw (Xh.drop 6 C1) XD V V V <| nu V V,fun _=>Zy 0 W1 Xr ZY V V V V <| nu V V,fun _ hSw=>Zc hSw C3 [U x0.kind,Za x0.col,Za x0.oth,U x0.v.k,U x0.v.n,Za x0.v.s,v3] ZY V V V V V <| nu V V,fun _ hSw=>ZB hSw Zio V V V (Zcp hSw.imm n x0 6 6 ih _ (ZR x0 Y0 Y6 YA Y9 Yr YH A3) (Xb hn (List.mem_of_getElem? ‹_›)) (XP hw (List.mem_of_getElem? ‹_›)) ‹_›) V,fun _=>Zh (ZN [6,6] x0) [32,97,110,100,32] (by have:=(show (ZN [6,6] x0).length ≤ 100000 by assumption); (try simp only [Zo]); have:=Zb; omega) V V V <| nu V V,fun _ hSw=>Z hSw (Xh.drop 6 C1) XD V V V <| nu V V,fun _=>Zy 1 W2 Xr ZY V V V V <| nu V V,fun _ hSw=>Zc hSw C4 [U y0.kind,Za y0.col,Za y0.oth,U y0.v.k,U y0.v.n,Za y0.v.s,v4] ZY V V V V V <| nu V V,fun _ hSw=>ZB hSw Zio V V V (Zcp hSw.imm n y0 5 6 ih _ (ZR y0 YJ YO Xf Xg YK Xc A4) (Xb hn (List.mem_of_getElem? ‹_›)) (XP hw (List.mem_of_getElem? ‹_›)) ‹_›) V,fun _=>Zh ((ZN [6,6] x0) ++ [32,97,110,100,32]) (ZN [5,6] y0) (by have:=(show (ZN [6,6] x0).length ≤ 100000 by assumption); have:=(show (ZN [5,6] y0).length ≤ 100000 by assumption); (try simp only [Zo]); have:=Zb; omega) V V V <| nu V V,trivial⟩ (fun w3 S3=>?_)
  exact RT S3 V (congrArg Za (by (rw [ZhW,Zpg]; exact Zed ‹_› (by assumption : c.l[0]? = some _) (by assumption : c.l[1]? = some _))))
 refine Ze c.kind 6 V V V (fun h4=>?_) (fun h4=>?_)
 ·have hl2:=Zo8 hw ‹_›
  obtain ⟨x0,U0⟩:=YG (l:=c.l) (k:=0) (by omega)
  obtain ⟨y0,hy0⟩:=YG (l:=c.l) (k:=1) (by omega)
  have O5:=ZsB ‹_› U0 hy0
  have O0 : (ZN [] x0).length ≤ 100000:=Nat.le_trans O5.1 hb
  have O1 : (ZN [6] y0).length ≤ 100000:=Nat.le_trans O5.2 hb
  have hk0:=Zi8 (XP hw (List.mem_of_getElem? U0)) (fun e=>Zwv hn U0 e)
  have O2 : (ZN [0,0] x0).length ≤ 100000:=by rw [Zpt (by omega)]; exact O0
  have O3 : (ZN [6,6] y0).length ≤ 100000:=by rw [ZhW]; exact O1
  obtain ⟨p5,x4,U4,E4,W3⟩:=Sl.at (A1.mono L1) 0 (by omega)
  obtain rfl : x0 = x4:=Option.some.inj (U0.symm.trans U4)
  obtain ⟨D4,C5,R4⟩:=E4
  obtain ⟨v5,rfl,XR,Qa,Qh,Q0,Qs,Q1,A5⟩:=Yl R4
  obtain ⟨p6,x5,U5,E5,W4⟩:=Sl.at (A1.mono L1) 1 (by omega)
  obtain rfl : y0 = x5:=Option.some.inj (hy0.symm.trans U5)
  obtain ⟨D5,C6,R5⟩:=E5
  obtain ⟨v6,rfl,Qb,Xw,Qt,XS,Qc,Qu,A6⟩:=Yl R5
  refine dr [(12,false)] [(33,v1),(34,ZP p5),(35, .agg #[U x0.kind,Za x0.col,Za x0.oth,U x0.v.k,U x0.v.n,Za x0.v.s,v5]),(36,Za (ZN [0,0] x0)),(37,Za ((ZN [0,0] x0) ++ [32,111,114,32])),(39,v1),(40,ZP p6),(41, .agg #[U y0.kind,Za y0.col,Za y0.oth,U y0.v.k,U y0.v.n,Za y0.v.s,v6]),(42,Za (ZN [6,6] y0)),(43,Za (((ZN [0,0] x0) ++ [32,111,114,32]) ++ (ZN [6,6] y0)))] S1 ⟨fun _ hSw=>Z hSw (Xh.drop 6 C1) XD V V V <| nu V V,fun _=>Zy 0 W3 Xr ZY V V V V <| nu V V,fun _ hSw=>Zc hSw C5 [U x0.kind,Za x0.col,Za x0.oth,U x0.v.k,U x0.v.n,Za x0.v.s,v5] ZY V V V V V <| nu V V,fun _ hSw=>ZB hSw Zio V V V (Zcp hSw.imm n x0 0 0 ih _ (ZR x0 XR Qa Qh Q0 Qs Q1 A5) (Xb hn (List.mem_of_getElem? ‹_›)) (XP hw (List.mem_of_getElem? ‹_›)) ‹_›) V,fun _=>Zh (ZN [0,0] x0) [32,111,114,32] (by have:=(show (ZN [0,0] x0).length ≤ 100000 by assumption); (try simp only [Zo]); have:=Zb; omega) V V V <| nu V V,fun _ hSw=>Z hSw (Xh.drop 6 C1) XD V V V <| nu V V,fun _=>Zy 1 W4 Xr ZY V V V V <| nu V V,fun _ hSw=>Zc hSw C6 [U y0.kind,Za y0.col,Za y0.oth,U y0.v.k,U y0.v.n,Za y0.v.s,v6] ZY V V V V V <| nu V V,fun _ hSw=>ZB hSw Zio V V V (Zcp hSw.imm n y0 6 6 ih _ (ZR y0 Qb Xw Qt XS Qc Qu A6) (Xb hn (List.mem_of_getElem? ‹_›)) (XP hw (List.mem_of_getElem? ‹_›)) ‹_›) V,fun _=>Zh ((ZN [0,0] x0) ++ [32,111,114,32]) (ZN [6,6] y0) (by have:=(show (ZN [0,0] x0).length ≤ 100000 by assumption); have:=(show (ZN [6,6] y0).length ≤ 100000 by assumption); (try simp only [Zo]); have:=Zb; omega) V V V <| nu V V,trivial⟩ (fun w4 S4=>?_)
  exact RT S4 V (congrArg Za (by (rw [Zpt (by omega),ZhW]; exact ZfL ‹_› (by assumption : c.l[0]? = some _) (by assumption : c.l[1]? = some _))))
 refine Z S1 (Xh.drop 1 C1) Zv V V V ?_
 refine Zh c.col [32,60,32] (by have:=B2; (try simp only [Zo]); have:=Zb; omega) V V V ?_
 refine Z S1 (Xh.drop 0 C1) Zk V V V ?_
 refine Ze c.kind 1 V V V (fun h5=>?_) (fun h5=>?_)
 ·refine Z S1 (Xh.drop 1 C1) Zv V V V ?_
  refine Zh c.col [32,61,32] (by have:=B2; (try simp only [Zo]); have:=Zb; omega) V V V ?_
  refine Z S1 (Xh.drop 2 C1) Zv V V V <| Zn .neq V c.oth [] V V V ?_
  refine WL.split (fun h0=>?_) (fun h0=>?_)
  ·have h6 : c.oth ≠ []:=by simpa [SCmp.b] using h0
   clear h0
   refine Z S1 (Xh.drop 2 C1) Zv V V V ?_
   refine Zh (c.col ++ [32,61,32]) c.oth (by have:=B2; have:=Z7; (try simp only [Zo]); have:=Zb; omega) V V V ?_
   exact RT S1 V (congrArg Za (by exact Zwx ‹_› ‹_› ‹_› ‹_› ‹_› ‹_›))
  have h6 : c.oth = []:=by simpa [SCmp.b] using h0
  clear h0
  have hvv:=ZfS hw ‹_› ‹_› ‹_› ‹_› ‹_›
  refine Zc S1 (Xh.drop 3 C1) [U c.v.k,U c.v.n,Za c.v.s] Xv V V V V V ?_
  refine Zl S1 Zd3 V V V (Zge S1.imm c.v _ (XX c.v Z5 ZD hb6) hvv) (fun w5 G3 S5 L3=>?_)
  refine Zh (c.col ++ [32,61,32]) (QK c.v) (by have:=B2; have:=(ZfR c.v ‹_› ‹_›); (try simp only [Zo]); have:=Zb; omega) V V V ?_
  exact RT S5 V (congrArg Za (by exact Zwz ‹_› ‹_› ‹_› ‹_› ‹_› ‹_›))
 refine Z S1 (Xh.drop 2 C1) Zv V V V <| Zn .neq V c.oth [] V V V ?_
 refine WL.split (fun h0=>?_) (fun h0=>?_)
 ·have h7 : c.oth ≠ []:=by simpa [SCmp.b] using h0
  clear h0
  refine Z S1 (Xh.drop 2 C1) Zv V V V ?_
  refine Zh (c.col ++ [32,60,32]) c.oth (by have:=B2; have:=Z7; (try simp only [Zo]); have:=Zb; omega) V V V ?_
  exact RT S1 V (congrArg Za (by exact Zwy ‹_› ‹_› ‹_› ‹_› ‹_› ‹_›))
 have h7 : c.oth = []:=by simpa [SCmp.b] using h0
 clear h0
 have hvv:=ZfS hw ‹_› ‹_› ‹_› ‹_› ‹_›
 refine Zc S1 (Xh.drop 3 C1) [U c.v.k,U c.v.n,Za c.v.s] Xv V V V V V ?_
 refine Zl S1 Zd3 V V V (Zge S1.imm c.v _ (XX c.v Z5 ZD hb6) hvv) (fun w6 G4 S6 L4=>?_)
 refine Zh (c.col ++ [32,60,32]) (QK c.v) (by have:=B2; have:=(ZfR c.v ‹_› ‹_›); (try simp only [Zo]); have:=Zb; omega) V V V ?_
 exact RT S6 V (congrArg Za (by exact Zw0 ‹_› ‹_› ‹_› ‹_› ‹_› ‹_›))
end Go.Civ
