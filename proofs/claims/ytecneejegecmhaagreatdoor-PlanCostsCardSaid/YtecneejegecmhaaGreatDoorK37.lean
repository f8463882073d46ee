/- Lemmas. -/
import Derived.Test.YtecneejegecmhaaGreatDoorK36
set_option linter.unusedVariables false
set_option linter.unusedSimpArgs false
set_option linter.unusedVariables false
set_option linter.unusedSimpArgs false
set_option maxRecDepth 100000
set_option maxHeartbeats 4000000
namespace Go.Civ
open Go.Proofs
theorem Zqc {G : GH} {w : World} (hG : G.In w) : CL Tryz.prog (nat_lit 132) #[] [] w G fun G' _ r=>Sl Zw2 8 G' r wrL:=by
 refine Zg ft [] Tryz.func132 V V ?_
 have hS:=St.start (X:=[]) hG
 refine Zc1 _ [(1,[.func (.func 173) #[] #[]]),(2,[.func (.func 174) #[] #[]]),(3,[.func (.func 176) #[] #[]]),(4,[.func (.func 178) #[] #[]]),(5,[.func (.func 179) #[] #[]]),(6,[.func (.func 180) #[] #[]]),(7,[.func (.func 181) #[] #[]]),(8,[.func (.func 182) #[] #[]]),(9,[.func (.func 185) #[] #[]]),(10,[.func (.func 186) #[] #[]])] .nilFunc [.func (.func 173) #[] #[], .func (.func 174) #[] #[], .func (.func 176) #[] #[], .func (.func 178) #[] #[], .func (.func 179) #[] #[], .func (.func 180) #[] #[], .func (.func 181) #[] #[], .func (.func 182) #[] #[], .func (.func 185) #[] #[], .func (.func 186) #[] #[]] hS ZyZ V V V V V V (Zuj (.func (.func 173) #[] #[]) (.func (.func 174) #[] #[]) (.func (.func 176) #[] #[]) (.func (.func 178) #[] #[]) (.func (.func 179) #[] #[]) (.func (.func 180) #[] #[]) (.func (.func 181) #[] #[]) (.func (.func 182) #[] #[]) (.func (.func 185) #[] #[]) (.func (.func 186) #[] #[])) (fun b1 w1 N1 S1=>?_)
 obtain ⟨G1,L1,A1,S2⟩:=St.sealSl (E:=Zw2) (by_:=8) (l:=([0,173,174,176,178,179,180,181,182,185,186] : List Nat)) S1 N1 ⟨[.nilFunc],_,V,V,⟨[.func (.func 173) #[] #[]],_,V,V,⟨[.func (.func 174) #[] #[]],_,V,V,⟨[.func (.func 176) #[] #[]],_,V,V,⟨[.func (.func 178) #[] #[]],_,V,V,⟨[.func (.func 179) #[] #[]],_,V,V,⟨[.func (.func 180) #[] #[]],_,V,V,⟨[.func (.func 181) #[] #[]],_,V,V,⟨[.func (.func 182) #[] #[]],_,V,V,⟨[.func (.func 185) #[] #[]],_,V,V,⟨[.func (.func 186) #[] #[]],_,V,V,V⟩⟩⟩⟩⟩⟩⟩⟩⟩⟩⟩ V (by simp [reach]) (by simp [reach])
 exact RT S2 V (Sl.cast A1 (by rfl))
theorem ZuM (n : Nat) : ∀ {G : GH} {w : World} (hG : G.In w) (q : Query) (hg : Glob G) (cq : List Value) (hcq : QryE.rep G q cq) (hn : Xx q n) (hx : TxQ n q) (hb : (Z0 q).length ≤ 300000),CL Tryz.prog (nat_lit 87) #[.agg cq.toArray] [] w G fun _ _ r=>r = Za (Z0 q):=by
 induction n
 ·intro G w hG q hg cq hcq hn hx hb; exact (ZaH hn).elim
 rename_i n ih
 intro G w hG q hg cq hcq hn hx hb
 refine Zg ft [] Tryz.func87 V V ?_
 have ht:=hx.1
 have hdb : (Ya q).length ≤ 100000:=ht.ln
 have hkd:=ht.kd
 have hS:=St.start (X:=[]) hG
 obtain ⟨v1,v2,v3,v4,rfl,B1,B2,A1,A2,Z7,Z5,ZD,hb6,hb7,ZV,A3,hb9,ZI,ZJ,ZL,A4⟩:=Zs hcq
 refine Z4 (QV q v1 v2 v3 v4) _ hS V V V (fun p1 w1 G1 L1 M1 C1 S1=>?_)
 refine dr [(0,true),(3,true),(4,true),(6,false),(7,false)] [(6,U q.kind),(9, .agg (QV q v1 v2 v3 v4).toArray)] S1 ⟨fun _ hSw=>Z hSw (Xh.drop 0 C1) Zk V V V <| nu V V,fun _ hSw=>Zc hSw C1 (QV q v1 v2 v3 v4) Zt V V V V V <| nu V V,trivial⟩ (fun w2 S2=>?_)
 refine Yq S2 Zzb V V V (Zqc S2.imm) (fun w3 G2 r1 P1 S3 L2=>?_)
 refine ⟨S3.down S2.le L2,?_⟩
 refine WL.indexAddr P1 ((q.kind).toNat) (by (show _ < (11 : Nat); omega)) Zth Zr2 V V V (congrArg (Value.int .i64) (Int.toNat_of_nonneg (by omega)).symm) (fun p2 x1 U1 E1=>?_)
 obtain ⟨D1,C2,R1⟩:=E1
 obtain rfl:=R1
 refine ⟨S3.down S2.le L2,?_⟩
 refine Z S3 C2 Zr2 V V V ?_
 refine ⟨S3.down S2.le L2,?_⟩
 have j1:=(L1.trans L2)
 refine Zl S3 (ZrD S3.imm (hg.mono j1) (n + 1) q _ (Zr q B1 B2 (A1.mono j1) (A2.mono j1) Z7 Z5 ZD hb6 hb7 ZV (A3.mono j1) hb9 ZI ZJ ZL (A4.mono j1)) hn ht hdb ‹_›).2.1 V (ZrD S3.imm (hg.mono j1) (n + 1) q _ (Zr q B1 B2 (A1.mono j1) (A2.mono j1) Z7 Z5 ZD hb6 hb7 ZV (A3.mono j1) hb9 ZI ZJ ZL (A4.mono j1)) hn ht hdb ‹_›).1 V (ZrD S3.imm (hg.mono j1) (n + 1) q _ (Zr q B1 B2 (A1.mono j1) (A2.mono j1) Z7 Z5 ZD hb6 hb7 ZV (A3.mono j1) hb9 ZI ZJ ZL (A4.mono j1)) hn ht hdb ‹_›).2.2 (fun w4 G3 S4 L3=>?_)
 have j2:=(L2.trans L3)
 refine Z S4 (Xh.drop 15 (C1.mono j2)) Yu V V V ?_
 have V1:=A4.bound
 have j3:=(j1.trans L3)
 refine Zm (A4.mono j3) Y1 V V ?_
 refine Ze (q.l.length : Int) 1 V V V (fun h1=>?_) (fun h1=>?_)
 ·obtain ⟨x0,U0⟩:=YG (l:=q.l) (k:=0) (by omega)
  have htl:=Zdb ‹_› U0
  have htx : (Z0 x0).length ≤ 300000:=by omega
  refine Zh (Ya q) [32,111,102,32] (by have:=hdb; (try simp only [Zo]); have:=Zb; omega) V V V ?_
  refine Z S4 (Xh.drop 15 (C1.mono j2)) Yu V V V ?_
  refine WL.indexAddr (A4.mono j3) 0 (by omega) Y1 Zt V V V V (fun p3 x2 U2 E2=>?_)
  obtain rfl : x0 = x2:=Option.some.inj (U0.symm.trans U2)
  obtain ⟨D2,C3,R2⟩:=E2
  obtain ⟨v5,v6,v7,v9,rfl,Y0,Y6,A5,A6,YA,Y9,Yr,YH,YJ,YO,A7,Xf,Xg,YK,Xc,A8⟩:=Zs R2
  refine Zc S4 C3 (QV x0 v5 v6 v7 v9) Zt V V V V V ?_
  refine Zl S4 Zer V V V (ih S4.imm x0 (hg.mono j3) _ (Zr x0 Y0 Y6 A5 A6 YA Y9 Yr YH YJ YO A7 Xf Xg YK Xc A8) (XN hn (List.mem_of_getElem? ‹_›)) (Za5 hx (List.mem_of_getElem? ‹_›)) ‹_›) (fun w5 G4 S5 L4=>?_)
  refine Zh ((Ya q) ++ [32,111,102,32]) (Z0 x0) (by have:=hdb; have:=(show (Z0 x0).length ≤ 300000 by assumption); (try simp only [Zo]); have:=Zb; omega) V V V ?_
  exact RT S5 V (congrArg Za (by exact ZqU ‹_› (by assumption : q.l[0]? = some _)))
 refine Ze (q.l.length : Int) 2 V V V (fun h2=>?_) (fun h2=>?_)
 ·obtain ⟨x0,U0⟩:=YG (l:=q.l) (k:=0) (by omega)
  obtain ⟨y0,hy0⟩:=YG (l:=q.l) (k:=1) (by omega)
  have htl:=ZhY U0 hy0
  have htx : (Z0 x0).length ≤ 300000:=by omega
  have hty : (Z0 y0).length ≤ 300000:=by omega
  obtain ⟨p4,x3,U3,E3,W1⟩:=Sl.at (A4.mono j3) 0 (by omega)
  obtain rfl : x0 = x3:=Option.some.inj (U0.symm.trans U3)
  obtain ⟨D3,C4,R3⟩:=E3
  obtain ⟨v10,v11,v12,v13,rfl,XR,Qa,A9,A10,Qh,Q0,Qs,Q1,Qb,Xw,A11,Qt,XS,Qc,Qu,A12⟩:=Zs R3
  obtain ⟨p5,x4,U4,E4,W2⟩:=Sl.at (A4.mono j3) 1 (by omega)
  obtain rfl : y0 = x4:=Option.some.inj (hy0.symm.trans U4)
  obtain ⟨D4,C5,R4⟩:=E4
  obtain ⟨v14,v15,v16,v17,rfl,Zbc,ZcR,A13,A14,Zbd,Zck,Zb0,Zb1,Zb2,Zb3,A15,Zbe,Zcl,Zcm,Zc2,A16⟩:=Zs R4
  refine dr [(16,false)] [(27,Za ((Ya q) ++ [32,40])),(29,v4),(30,ZP p4),(31, .agg (QV x0 v10 v11 v12 v13).toArray),(32,Za (Z0 x0)),(33,Za (((Ya q) ++ [32,40]) ++ (Z0 x0))),(34,Za ((((Ya q) ++ [32,40]) ++ (Z0 x0)) ++ [44,32])),(36,v4),(37,ZP p5),(38, .agg (QV y0 v14 v15 v16 v17).toArray),(39,Za (Z0 y0)),(40,Za (((((Ya q) ++ [32,40]) ++ (Z0 x0)) ++ [44,32]) ++ (Z0 y0))),(41,Za ((((((Ya q) ++ [32,40]) ++ (Z0 x0)) ++ [44,32]) ++ (Z0 y0)) ++ [41]))] S4 ⟨fun _=>Zh (Ya q) [32,40] (by have:=hdb; (try simp only [Zo]); have:=Zb; omega) V V V <| nu V V,fun _ hSw=>Z hSw (Xh.drop 15 (C1.mono j2)) Yu V V V <| nu V V,fun _=>Zy 0 W1 Y1 Zt V V V V <| nu V V,fun _ hSw=>Zc hSw C4 (QV x0 v10 v11 v12 v13) Zt V V V V V <| nu V V,fun _ hSw=>ZB hSw Zer V V V (ih hSw.imm x0 (hg.mono j3) _ (Zr x0 XR Qa A9 A10 Qh Q0 Qs Q1 Qb Xw A11 Qt XS Qc Qu A12) (XN hn (List.mem_of_getElem? ‹_›)) (Za5 hx (List.mem_of_getElem? ‹_›)) ‹_›) V,fun _=>Zh ((Ya q) ++ [32,40]) (Z0 x0) (by have:=hdb; have:=(show (Z0 x0).length ≤ 300000 by assumption); (try simp only [Zo]); have:=Zb; omega) V V V <| nu V V,fun _=>Zh (((Ya q) ++ [32,40]) ++ (Z0 x0)) [44,32] (by have:=hdb; have:=(show (Z0 x0).length ≤ 300000 by assumption); (try simp only [Zo]); have:=Zb; omega) V V V <| nu V V,fun _ hSw=>Z hSw (Xh.drop 15 (C1.mono j2)) Yu V V V <| nu V V,fun _=>Zy 1 W2 Y1 Zt V V V V <| nu V V,fun _ hSw=>Zc hSw C5 (QV y0 v14 v15 v16 v17) Zt V V V V V <| nu V V,fun _ hSw=>ZB hSw Zer V V V (ih hSw.imm y0 (hg.mono j3) _ (Zr y0 Zbc ZcR A13 A14 Zbd Zck Zb0 Zb1 Zb2 Zb3 A15 Zbe Zcl Zcm Zc2 A16) (XN hn (List.mem_of_getElem? ‹_›)) (Za5 hx (List.mem_of_getElem? ‹_›)) ‹_›) V,fun _=>Zh ((((Ya q) ++ [32,40]) ++ (Z0 x0)) ++ [44,32]) (Z0 y0) (by have:=hdb; have:=(show (Z0 x0).length ≤ 300000 by assumption); have:=(show (Z0 y0).length ≤ 300000 by assumption); (try simp only [Zo]); have:=Zb; omega) V V V <| nu V V,fun _=>Zh (((((Ya q) ++ [32,40]) ++ (Z0 x0)) ++ [44,32]) ++ (Z0 y0)) [41] (by have:=hdb; have:=(show (Z0 x0).length ≤ 300000 by assumption); have:=(show (Z0 y0).length ≤ 300000 by assumption); (try simp only [Zo]); have:=Zb; omega) V V V <| nu V V,trivial⟩ (fun w6 S6=>?_)
  exact RT S6 V (congrArg Za (by exact ZqV (by assumption : q.l[0]? = some _) (by assumption : q.l[1]? = some _)))
 have ha9 : (q.l.length : Int) = 0:=by have h9:=ht.kd; have h0:=ht.a0; have h2:=ht.a2; have h1:=ht.a1; omega
 exact RT S4 V (congrArg Za (by exact ZqT ha9))
theorem ZuN {G : GH} {w : World} (hG : G.In w) (n : Nat) (q : Query) (hg : Glob G) (cq : List Value) (hcq : QryE.rep G q cq) (hn : Xx q n) (hx : TxQ n q) (hb : (Z0 q).length ≤ 300000) (hv : X8 n q = true) : CL Tryz.prog (nat_lit 54) #[.agg cq.toArray] [] w G fun _ _ r=>∃ r0 r1,r = .tuple #[r0,r1] ∧ r0 = Za (Z0 q) ∧ r1 = U 0:=by
 refine Zg ft [] Tryz.func54 V V ?_
 have hS:=St.start (X:=[]) hG
 obtain ⟨v1,v2,v3,v4,rfl,B1,B2,A1,A2,Z7,Z5,ZD,hb6,hb7,ZV,A3,hb9,ZI,ZJ,ZL,A4⟩:=Zs hcq
 refine Z4 (QV q v1 v2 v3 v4) _ hS V V V (fun p1 w1 G1 L1 M1 C1 S1=>?_)
 refine Zc S1 C1 (QV q v1 v2 v3 v4) Zt V V V V V ?_
 refine Zl S1 Zbd V V V (Zfu S1.imm n q (hg.mono L1) _ (Zr q B1 B2 (A1.mono L1) (A2.mono L1) Z7 Z5 ZD hb6 hb7 ZV (A3.mono L1) hb9 ZI ZJ ZL (A4.mono L1)) hn) (fun w2 G2 S2 L2=>?_)
 refine WL.split (fun (h1 : (X8 n q) = true)=>?_) (fun (h1 : (X8 n q) = false)=>?_)
 ·refine Zc S2 (C1.mono L2) (QV q v1 v2 v3 v4) Zt V V V V V ?_
  have j1:=(L1.trans L2)
  refine Zl S2 Zer V V V (ZuM n S2.imm q (hg.mono j1) _ (Zr q B1 B2 (A1.mono j1) (A2.mono j1) Z7 Z5 ZD hb6 hb7 ZV (A3.mono j1) hb9 ZI ZJ ZL (A4.mono j1)) hn hx hb) (fun w3 G3 S3 L3=>?_)
  exact RT S3 V ⟨_,_,V,(congrArg Za (by rfl)),(congrArg (Value.int .i64) (by rfl))⟩
 exact RT S2 V ⟨_,_,V,(congrArg Za (by (exfalso; simp_all; done))),(congrArg (Value.int .i64) (by (exfalso; simp_all; done)))⟩
end Go.Civ
set_option linter.unusedVariables false
set_option linter.unusedSimpArgs false
set_option maxRecDepth 100000
set_option maxHeartbeats 4000000
namespace Go.Civ
open Go.Proofs
def Zol (n : Nat) : Prop:=∀ {G : GH} {w : World} (hG : G.In w) (c : Cond) (dep u : Int) (cc : List Value) (hcc : CndE.rep G c cc) (pb : Nat) (hpb : QJ w G (some (pb,(nat_lit 3),[U u]))) (hdep : 0 ≤ dep ∧ dep ≤ 21) (hu : 0 ≤ u ∧ u ≤ 120) (hn : Qd c n),CL Tryz.prog (nat_lit 16) #[.agg cc.toArray,U dep, .pointer (some ⟨pb,0,none⟩)] [pb] w G fun G' w' r=>(r = .bool ((Y8 n c dep u).1)) ∧ QJ w' G' (some (pb,(nat_lit 3),[U ((Y8 n c dep u).2)]))
theorem ZuR {G : GH} {w : World} (hG : G.In w) (n : Nat) (x : Cond) (dep u : Int) (hN : Zol n) (pb : Nat) (hpb : QJ w G (some (pb,(nat_lit 3),[U u]))) (cx : List Value) (hcx : CndE.rep G x cx) (pd : Addr) (hpd : Xh G pd [U dep]) (pn : Addr) (hpn : Xh G pn [.pointer (some ⟨pb,0,none⟩)]) (hdep : 0 ≤ dep ∧ dep ≤ 20) (hu : 0 ≤ u ∧ u ≤ 120) (hn : Qd x n) : CL Tryz.prog (nat_lit 42) #[.agg cx.toArray,ZP pd,ZP pn] [pb] w G fun G' w' r=>(r = .bool (!(Y8 n x (dep + 1) u).1)) ∧ QJ w' G' (some (pb,(nat_lit 3),[U ((Y8 n x (dep + 1) u).2)])):=by
 refine Zg ft [] Tryz.func42 V V ?_
 have hdep64 : Zj dep:=⟨by omega,by omega⟩
 have hu64 : Zj u:=⟨by omega,by omega⟩
 have hS:=St.lentO hG hpb
 obtain ⟨v1,rfl,B1,B2,Z7,Z5,ZD,hb6,A1⟩:=Yl hcx
 refine Z4 [U x.kind,Za x.col,Za x.oth,U x.v.k,U x.v.n,Za x.v.s,v1] _ hS V V V (fun p1 w1 G1 L1 M1 C1 S1=>?_)
 refine Zc S1 C1 [U x.kind,Za x.col,Za x.oth,U x.v.k,U x.v.n,Za x.v.s,v1] ZY V V V V V <| Z S1 (hpd.mono L1) Zk V V V ?_
 have hi1 : Zj (dep + 1):=by have:=hdep64.1; have:=hdep64.2; constructor <;> omega
 refine WL.ar .add V dep 1 V V V hi1 <| Z S1 (hpn.mono L1) Zhn V V V ?_
 refine Zax Y9 V V V (hN S1.imm x (dep + 1) u _ (ZR x B1 B2 Z7 Z5 ZD hb6 (A1.mono L1)) _ (S1.lentAt 0 V) (by omega) (by omega) hn) (fun w2 G2 r1 hres1 ⟨P1,hlc1⟩=>?_)
 have S2 : St w [pb] G G2 [some (pb,(nat_lit 3),[U ((Y8 n x (dep + 1) u).2)])] w2:=S1.callX 0 V [U ((Y8 n x (dep + 1) u).2)] hres1 (hlc1 _ V).1
 have L2:=hres1.le
 subst P1
 exact RT S2 V ⟨(congrArg Value.bool (by rfl)),(S2.lentAt 0 V).cast (by rfl)⟩
theorem ZuS {G : GH} {w : World} (hG : G.In w) (n : Nat) (l : List Cond) (dep u : Int) (hN : Zol n) (pb : Nat) (hpb : QJ w G (some (pb,(nat_lit 3),[U u]))) (vl : Value) (hvl : Sl CndE 96 G vl l) (pd : Addr) (hpd : Xh G pd [U dep]) (pn : Addr) (hpn : Xh G pn [.pointer (some ⟨pb,0,none⟩)]) (hdep : 0 ≤ dep ∧ dep ≤ 20) (hu : 0 ≤ u ∧ u ≤ 120) (hl : ∀ x ∈ l,Qd x n) : CL Tryz.prog (nat_lit 80) #[vl, .func (.func 42) #[] #[ZP pd,ZP pn]] [pb] w G fun G' w' r=>(r = U (ZcP (fun x i=>Y8 n x (dep + 1) i) l u 0)) ∧ QJ w' G' (some (pb,(nat_lit 3),[U ((YM (fun x i=>Y8 n x (dep + 1) i) l u).2)])):=by
 refine Zg ft [] Tryz.func80 V V ?_
 have hdep64 : Zj dep:=⟨by omega,by omega⟩
 have hu64 : Zj u:=⟨by omega,by omega⟩
 have hS:=St.lentO hG hpb
 have V1:=hvl.bound
 refine Zm hvl Xr V V ?_
 refine LP.go ft [] (fun m ρ1 w1=>∃ (k1 : Nat),∃ (mm : Int),∃ (G1 : GH),m = l.length - k1 ∧ G.le G1 ∧ St w [pb] G G1 [some (pb,(nat_lit 3),[U mm])] w1 ∧ FR ρ1 [(0,vl),(1, .func (.func 42) #[] #[ZP pd,ZP pn]),(7,U (l.length : Int)),(8,U (k1 : Int))] ∧ k1 ≤ l.length ∧ ((YM (fun x i=>Y8 n x (dep + 1) i) (l.take k1) u).1 = true ∧ mm = (YM (fun x i=>Y8 n x (dep + 1) i) (l.take k1) u).2) ∧ (0 ≤ mm ∧ mm ≤ 120)) _ ⟨0,u,G,V,(G.le_refl),hS,(ZS V),(by omega),(by exact ⟨V,V⟩),(by omega)⟩ ?_
 rintro m ρ1 w1 ⟨k1,mm,G1,rfl,L1,S1,F9,f1,f2,f3⟩
 refine F9.set ?_
 clear F9
 have hmm64 : Zj mm:=⟨by omega,by omega⟩
 have h9k:=(by assumption : (YM (fun x i=>Y8 n x (dep + 1) i) (l.take k1) u).1 = true ∧ mm = (YM (fun x i=>Y8 n x (dep + 1) i) (l.take k1) u).2)
 refine Zp (k1 : Int) (l.length : Int) V V V (fun h1=>?_) (fun h1=>?_)
 ·refine WL.indexAddr (hvl.mono L1) k1 (by omega) Xr ZY V V V V (fun p1 x1 U1 E1=>?_)
  obtain ⟨D1,C1,R1⟩:=E1
  obtain ⟨v1,rfl,B1,B2,Z7,Z5,ZD,hb6,A1⟩:=Yl R1
  refine Zc S1 C1 [U x1.kind,Za x1.col,Za x1.oth,U x1.v.k,U x1.v.n,Za x1.v.s,v1] ZY V V V V V ?_
  refine Zax Zb1 V V V (ZuR S1.imm n x1 dep mm hN _ (S1.lentAt 0 V) _ (ZR x1 B1 B2 Z7 Z5 ZD hb6 A1) _ (hpd.mono L1) _ (hpn.mono L1) (by omega) (by omega) (hl _ (List.mem_of_getElem? ‹_›))) (fun w2 G2 r1 hres1 ⟨P1,hlc1⟩=>?_)
  have S2 : St w [pb] G G2 [some (pb,(nat_lit 3),[U ((Y8 n x1 (dep + 1) mm).2)])] w2:=S1.callX 0 V [U ((Y8 n x1 (dep + 1) mm).2)] hres1 (hlc1 _ V).1
  have L2:=hres1.le
  subst P1
  refine WL.split (fun (h2 : (!(Y8 n x1 (dep + 1) mm).1) = true)=>?_) (fun (h2 : (!(Y8 n x1 (dep + 1) mm).1) = false)=>?_)
  ·exact RT S2 V ⟨(congrArg (Value.int .i64) (by exact (ZeZ h9k.1 h9k.2 ‹_› ‹_›).1)),(S2.lentAt 0 V).cast (by exact congrArg (fun v=>[Value.int .i64 v]) (ZeZ h9k.1 h9k.2 ‹_› ‹_›).2)⟩
  refine Zq k1 (by have:=Zb; omega) V V V ?_
  exact BK.mk' _ ⟨k1 + 1,(Y8 n x1 (dep + 1) mm).2,G2,V,(L1.trans L2),S2,(ZS V),(by omega),(by exact Zp4 h9k.1 h9k.2 ‹_› ‹_›),(by exact Zuw ‹_› ‹_›)⟩ (show l.length - (k1 + 1) < l.length - k1 by omega)
 exact RT S1 V ⟨(congrArg (Value.int .i64) (by exact (Zgz h9k.1 h9k.2 (by omega)).1)),(S1.lentAt 0 V).cast (by exact congrArg (fun v=>[Value.int .i64 v]) (Zgz h9k.1 h9k.2 (by omega)).2)⟩
theorem ZuT {G : GH} {w : World} (hG : G.In w) (n : Nat) (l : List Cond) (dep u : Int) (hN : Zol n) (pb : Nat) (hpb : QJ w G (some (pb,(nat_lit 3),[U u]))) (vl : Value) (hvl : Sl CndE 96 G vl l) (pd : Addr) (hpd : Xh G pd [U dep]) (pn : Addr) (hpn : Xh G pn [.pointer (some ⟨pb,0,none⟩)]) (hdep : 0 ≤ dep ∧ dep ≤ 20) (hu : 0 ≤ u ∧ u ≤ 120) (hl : ∀ x ∈ l,Qd x n) : CL Tryz.prog (nat_lit 41) #[vl, .func (.func 42) #[] #[ZP pd,ZP pn]] [pb] w G fun G' w' r=>(r = .bool (!(YM (fun x i=>Y8 n x (dep + 1) i) l u).1)) ∧ QJ w' G' (some (pb,(nat_lit 3),[U ((YM (fun x i=>Y8 n x (dep + 1) i) l u).2)])):=by
 refine Zg ft [] Tryz.func41 V V ?_
 have hdep64 : Zj dep:=⟨by omega,by omega⟩
 have hu64 : Zj u:=⟨by omega,by omega⟩
 have hS:=St.lentO hG hpb
 refine Zax Zep V V V (ZuS hS.imm n l dep u hN _ (hS.lentAt 0 V) _ hvl _ hpd _ hpn (by omega) (by omega) hl) (fun w1 G1 r1 hres1 ⟨P1,hlc1⟩=>?_)
 have S1 : St w [pb] G G1 [some (pb,(nat_lit 3),[U ((YM (fun x i=>Y8 n x (dep + 1) i) l u).2)])] w1:=hS.callX 0 V [U ((YM (fun x i=>Y8 n x (dep + 1) i) l u).2)] hres1 (hlc1 _ V).1
 have L1:=hres1.le
 subst P1
 refine Yd .geq V .i64 (ZcP (fun x i=>Y8 n x (dep + 1) i) l u 0) 0 V V V ?_
 exact RT S1 V ⟨(congrArg Value.bool (by exact ZiC (by omega))),(S1.lentAt 0 V).cast (by rfl)⟩
theorem ZxA (n : Nat) : ∀ {G : GH} {w : World} (hG : G.In w) (c : Cond) (dep u : Int) (cc : List Value) (hcc : CndE.rep G c cc) (pb : Nat) (hpb : QJ w G (some (pb,(nat_lit 3),[U u]))) (hdep : 0 ≤ dep ∧ dep ≤ 21) (hu : 0 ≤ u ∧ u ≤ 120) (hn : Qd c n),CL Tryz.prog (nat_lit 16) #[.agg cc.toArray,U dep, .pointer (some ⟨pb,0,none⟩)] [pb] w G fun G' w' r=>(r = .bool ((Y8 n c dep u).1)) ∧ QJ w' G' (some (pb,(nat_lit 3),[U ((Y8 n c dep u).2)])):=by
 induction n
 ·intro G w hG c dep u cc hcc pb hpb hdep hu hn; exact (ZaU hn).elim
 rename_i n ih
 intro G w hG c dep u cc hcc pb hpb hdep hu hn
 refine Zg ft [] Tryz.func16 V V ?_
 have hdep64 : Zj dep:=⟨by omega,by omega⟩
 have hu64 : Zj u:=⟨by omega,by omega⟩
 have hS:=St.lentO hG hpb
 obtain ⟨v1,rfl,B1,B2,Z7,Z5,ZD,hb6,A1⟩:=Yl hcc
 refine Z4 [U c.kind,Za c.col,Za c.oth,U c.v.k,U c.v.n,Za c.v.s,v1] _ hS V V V (fun p1 w1 G1 L1 M1 C1 S1=>?_)
 refine Z4 [U dep] _ S1 V V V (fun p2 w2 G2 L2 M2 C2 S2=>?_)
 refine Z4 [.pointer (some ⟨pb,0,none⟩)] _ S2 V V V (fun p3 w3 G3 L3 M3 C3 S3=>?_)
 refine Z S3 C3 Zhn V V V <| WL.nilCheck _ V V <| Yz S3 0 _ _ _ 0 _ V V Zk V V V ?_
 have hi1 : Zj (u - 1):=by have:=hu64.1; have:=hu64.2; constructor <;> omega
 refine WL.ar .sub V u 1 V V V hi1 <| WL.nilCheck _ V V ?_
 refine Z9 S3 0 [U (u - 1)] V V Zk V V V V V V (fun w4 S4=>?_)
 refine Z S4 C3 Zhn V V V <| WL.nilCheck _ V V <| Yz S4 0 _ _ _ 0 _ V V Zk V V V ?_
 refine ZM (u - 1) 0 V V V (fun h1=>?_) (fun h1=>?_)
 ·refine Z S4 (C2.mono L3) Zk V V V ?_
  refine X2 dep 20 V V V (fun h2=>?_) (fun h2=>?_)
  ·have j1:=(L2.trans L3)
   refine Z S4 (Xh.drop 1 (C1.mono j1)) Zv V V V <| YN c.col X1 V V ?_
   refine X2 (c.col.length : Int) 60 V V V (fun h3=>?_) (fun h3=>?_)
   ·refine Z S4 (Xh.drop 2 (C1.mono j1)) Zv V V V <| YN c.oth X1 V V ?_
    refine X2 (c.oth.length : Int) 60 V V V (fun h4=>?_) (fun h4=>?_)
    ·refine Z S4 (Xh.drop 2 (Xh.drop 3 (C1.mono j1))) Zv V V V <| YN c.v.s X1 V V ?_
     refine X2 (c.v.s.length : Int) 60 V V V (fun h5=>?_) (fun h5=>?_)
     ·refine Z S4 (Xh.drop 6 (C1.mono j1)) XD V V V ?_
      refine Zax Zb0 V V V (ZuT S4.imm n c.l dep (u - 1) ih _ (S4.lentAt 0 V) _ (A1.mono ((L1.trans L2).trans L3)) _ (C2.mono L3) _ C3 (by omega) (by omega) (fun x hx=>Xb hn hx)) (fun w5 G4 r1 hres1 ⟨P1,hlc1⟩=>?_)
      have S5 : St w [pb] G G4 [some (pb,(nat_lit 3),[U ((YM (fun x i=>Y8 n x (dep + 1) i) c.l (u - 1)).2)])] w5:=S4.callX 0 V [U ((YM (fun x i=>Y8 n x (dep + 1) i) c.l (u - 1)).2)] hres1 (hlc1 _ V).1
      have L4:=hres1.le
      subst P1
      exact RT S5 V ⟨(congrArg Value.bool (by (rw [Bool.not_not]; exact congrArg Prod.fst (ZmN ⟨by omega,by omega,by omega,by omega,by omega⟩)))),(S5.lentAt 0 V).cast (by exact congrArg (fun v=>[Value.int .i64 v]) (congrArg Prod.snd (ZmN ⟨by omega,by omega,by omega,by omega,by omega⟩)))⟩
     exact RT S4 V ⟨(congrArg Value.bool (by exact (Zb9 (by omega)).1)),(S4.lentAt 0 V).cast (by exact congrArg (fun v=>[Value.int .i64 v]) (Zb9 (by omega)).2)⟩
    exact RT S4 V ⟨(congrArg Value.bool (by exact (Zb9 (by omega)).1)),(S4.lentAt 0 V).cast (by exact congrArg (fun v=>[Value.int .i64 v]) (Zb9 (by omega)).2)⟩
   exact RT S4 V ⟨(congrArg Value.bool (by exact (Zb9 (by omega)).1)),(S4.lentAt 0 V).cast (by exact congrArg (fun v=>[Value.int .i64 v]) (Zb9 (by omega)).2)⟩
  exact RT S4 V ⟨(congrArg Value.bool (by exact (Zb9 (by omega)).1)),(S4.lentAt 0 V).cast (by exact congrArg (fun v=>[Value.int .i64 v]) (Zb9 (by omega)).2)⟩
 exact RT S4 V ⟨(congrArg Value.bool (by exact (Zb9 (by omega)).1)),(S4.lentAt 0 V).cast (by exact congrArg (fun v=>[Value.int .i64 v]) (Zb9 (by omega)).2)⟩
end Go.Civ
set_option linter.unusedVariables false
set_option linter.unusedSimpArgs false
set_option maxRecDepth 100000
set_option maxHeartbeats 4000000
namespace Go.Civ
open Go.Proofs
theorem Z0j {G : GH} {w : World} (hG : G.In w) (q : Query) (l : List Schema) (hg : Glob G) (cq : List Value) (hcq : QryE.rep G q cq) (vl : Value) (hvl : Sl Qv 72 G vl l) (hsm : smQ (Y7 q) q) (hs : Sim q) : CL Tryz.prog (nat_lit 13) #[.agg cq.toArray,vl] [] w G fun G' _ r=>∃ r0 r1,r = .tuple #[r0,r1] ∧ Is PlnE G' r0 ((ofT q l).1) ∧ r1 = U ((ofT q l).2):=by
 refine Yw ft [] Tryz.func13 V V ?_
 have hg0:=hg
 obtain ⟨⟨rv,hrc,hrs⟩,hac⟩:=hg0
 have hS:=St.start (X:=[]) hG
 have T1:=Zs hcq
 obtain ⟨v1,v2,v3,v4,rfl,B1,B2,A1,A2,Z7,Z5,ZD,hb6,hb7,ZV,A3,hb9,ZI,ZJ,ZL,A4⟩:=T1
 refine Z4 (QV q v1 v2 v3 v4) _ hS V V V (fun p1 w1 G1 L1 M1 C1 S1=>?_)
 refine WL.alloc S1 Zat V V (fun b1 w2 N1 S2=>?_)
 refine Zc S2 C1 (QV q v1 v2 v3 v4) Zt V V V V V <| Yq S2 Qu V V V (Zix S2.imm (Y7 q) q l (hg.mono L1) _ (Zr q B1 B2 (A1.mono L1) (A2.mono L1) Z7 Z5 ZD hb6 hb7 ZV (A3.mono L1) hb9 ZI ZJ ZL (A4.mono L1)) _ (hvl.mono L1) (QI _) hsm hs) ?_
 rintro w3 G2 _ ⟨r2,_,rfl,A5,rfl⟩ S3 L2
 refine Zz ((X9 (Y7 q) q l).2) 0 V V V (fun h1=>?_) (fun h1=>?_)
 ·refine WL.build _ [] [Zf,Zf] Zat V Zxq V V V V ?_
  refine Z9 S3 0 [Zf,Zf] V V Zat V V V V V V (fun w4 S4=>?_)
  exact Qk [.agg #[Zf,Zf],U ((X9 (Y7 q) q l).2)] S4 ⟨_,_,_,V,V,S4.loadA 0 _ _ _ 0 [Zf,Zf] V V V Zat V,⟨_,V,V⟩⟩ ⟨_,_,V,(Is.cast ⟨_,V,(QN (Pln.mk [] []) (Sl.nil StpE 280 G2) (Sl.nil ColE 24 G2))⟩ (by exact (Zw6 ‹_›).1)),(congrArg (Value.int .i64) (by exact (Zw6 ‹_›).2))⟩
 have j1:=(L1.trans L2)
 refine WL.build _ [(0,[vl])] [vl,Zf] Zr3 V Z1u V V (by show [(0,(vl : Value).cells.toList)] = _; simp only [(hvl.mono j1).cells1] <;> rfl) V ?_
 refine WL.alloc S3 Zr3 V V (fun b2 w5 N2 S5=>?_)
 refine Z9 S5 0 [vl,Zf] V V Zr3 V V (by simp only [YE,(hvl.mono j1).oneC] <;> rfl) V V V (fun w6 S6=>?_)
 have S7:=S6.pad
 refine Zc S7 (C1.mono L2) (QV q v1 v2 v3 v4) Zt V V V V V <| Zc S7 (hac.mono j1) [U (-62135596800),U 253402300800] Y5 V V V V V ?_
 have hP1 : St w [] G G2 [some (b2,89,[vl,(Zf)]),none,some (b1,25,[Zf,Zf])] w6:=S7.pick [1,0,2]
 refine X3 [.pointer (some ⟨b2,0,none⟩), .agg (QV q v1 v2 v3 v4).toArray, .agg #[U (-62135596800),U 253402300800], .bool true] #[] Zbc V V V ((ZxC (Y7 q) q (Span.mk (-62135596800) 253402300800) true l ([] : List Stp) _ _ _ _ (hvl.mono j1) (YX.nil StpE 280 42 G2) hP1 (hg.mono j1) _ (Zr q B1 B2 (A1.mono j1) (A2.mono j1) Z7 Z5 ZD hb6 hb7 ZV (A3.mono j1) hb9 ZI ZJ ZL (A4.mono j1)) _ (QD (Span.mk (-62135596800) 253402300800) (show Zj (-62135596800) from by constructor <;> decide) (show Zj 253402300800 from by constructor <;> decide)) (QI _) (Zpc (Zpz (by assumption : (X9 (Y7 q) q l).2 = 0)).2 hsm) (by have h9:=Zy1 (S:=l) (p:=(Span.mk (-62135596800) 253402300800)) (s:=true) (k:=([] : List Stp).length) (Zpz (by assumption : (X9 (Y7 q) q l).2 = 0)).2; simp only [List.length_nil] at h9 ⊢; omega) hs).mono ?_)
 rintro e1 w7 ⟨G3,v5,o1,rfl,L3,S8,R1⟩
 refine ⟨_,V,?_⟩
 refine Yz S8 0 _ _ _ 1 _ V V QG V V V ?_
 have T2:=YX.freeze R1 S8 1 V
 obtain ⟨G4,L4,A6,S9⟩:=T2
 have j2:=(L3.trans L4)
 refine WL.build _ [(0,[v5]),(1,[r2])] [v5,r2] Zat V Zxq V V (by show [(0,(v5 : Value).cells.toList),(1,(r2 : Value).cells.toList)] = _; simp only [A6.cells1,(A5.mono j2).cells1] <;> rfl) V ?_
 refine Z9 S9 2 [v5,r2] V V Zat V V (by simp only [YE,A6.oneC,(A5.mono j2).oneC] <;> rfl) V V V (fun w9 S10=>?_)
 exact Qk [.agg #[v5,r2],U 0] S10 ⟨_,_,_,V,V,S10.loadA 2 _ _ _ 0 [v5,r2] V V V Zat V,⟨_,V,V⟩⟩ ⟨_,_,V,(Is.cast ⟨_,V,(QN (Pln.mk (([] : List Stp) ++ YS l (Y7 q) q (Span.mk (-62135596800) 253402300800) true ([] : List Stp).length) ((X9 (Y7 q) q l).1)) A6 (A5.mono j2))⟩ (by exact (Zrs ‹_›).1)),(congrArg (Value.int .i64) (by exact (Zrs ‹_›).2))⟩
theorem ZeB {G : GH} {w : World} (hG : G.In w) (hg : Glob G) : CL Tryz.prog (nat_lit 4) #[] [] w G fun _ _ r=>r = .bool true:=by
 refine Zg ft [] Tryz.func4 V V ?_
 have hS:=St.start (X:=[]) hG
 refine WL.build _ [(0,[Za [97]]),(1,[U 1])] [Za [97],U 1] Q9 V Z1t V V V V ?_
 refine WL.buildSlice _ [(0,[Za [97],U 1])] [Za [97],U 1] hS Zr6 V V V V (fun z hz=>by match z,hz with | [z0,z1],_=>rfl) (fun b1 w1 N1 S1=>?_)
 have T1:=St.sealSl (E:=ColE) (by_:=24) (l:=([(Col.mk [97] 1)] : List Col)) S1 N1 ⟨[Za [97],U 1],_,V,(Zmj (Col.mk [97] 1) (by simp [reach]) (show Zj 1 from by constructor <;> decide)),V⟩ V (by simp [reach]) (by simp [reach])
 obtain ⟨G1,L1,A1,S2⟩:=T1
 refine WL.build _ [(0,[Za [116]]),(1,[.slice (some ⟨b1,0,none⟩) 1 1]),(2,[U 1])] [Za [116], .slice (some ⟨b1,0,none⟩) 1 1,U 1,Zf] Qz V Zxr V V V V ?_
 refine WL.buildSlice _ [(0,[Za [116], .slice (some ⟨b1,0,none⟩) 1 1,U 1,Zf])] [Za [116], .slice (some ⟨b1,0,none⟩) 1 1,U 1,Zf] S2 Z1v V V V V (fun z hz=>by match z,hz with | [z0,z1,z2,z3],_=>rfl) (fun b2 w2 N2 S3=>?_)
 refine WL.build _ [(0,[U 0]),(1,[U 10])] [U 0,U 10] Y5 V ZbL V V V V ?_
 refine WL.alloc S3 Y5 V V (fun b3 w3 N3 S4=>?_)
 refine Z9 S4 0 [U 0,U 10] V V Y5 V V V V V V (fun w4 S5=>?_)
 have T2:=S5.shutB N3
 obtain ⟨G2,L2,C1,S6⟩:=T2
 refine WL.build _ [(0,[U 1]),(1,[Za [116]])] [U 1,Za [116],Zf,Zf,U 0,Za [],Za [],U 0,U 0,Za [],Zf,U 0,U 0,U 0,U 0,Zf] Zt V ZfZ V V V V ?_
 refine WL.alloc S6 Zt V V (fun b4 w5 N4 S7=>?_)
 refine Z9 S7 0 [U 1,Za [116],Zf,Zf,U 0,Za [],Za [],U 0,U 0,Za [],Zf,U 0,U 0,U 0,U 0,Zf] V V Zt V V V V V V (fun w6 S8=>?_)
 have T3:=S8.shutB N4
 obtain ⟨G3,L3,C2,S9⟩:=T3
 refine WL.build _ [(0,[U 1]),(1,[U 3])] [U 1,U 3,Za []] Xv V ZiI V V V V <| WL.build _ [(0,[U 2]),(1,[Za [97]]),(3,[U 1,U 3,Za []])] [U 2,Za [97],Za [],U 1,U 3,Za [],Zf] ZY V Zr4 V V V V ?_
 refine WL.alloc S9 ZY V V (fun b5 w7 N5 S10=>?_)
 refine Z9 S10 0 [U 2,Za [97],Za [],U 1,U 3,Za [],Zf] V V ZY V V V V V V (fun w9 S11=>?_)
 have T4:=S11.shutB N5
 obtain ⟨G4,L4,C3,S12⟩:=T4
 refine Zc S12 (C1.mono (L3.trans L4)) [U 0,U 10] Y5 V V V V V <| Zc S12 C3 [U 2,Za [97],Za [],U 1,U 3,Za [],Zf] ZY V V V V V <| Zc S12 (C2.mono L4) [U 1,Za [116],Zf,Zf,U 0,Za [],Za [],U 0,U 0,Za [],Zf,U 0,U 0,U 0,U 0,Zf] Zt V V V V V ?_
 refine WL.buildSlice _ [(0,[U 1,Za [116],Zf,Zf,U 0,Za [],Za [],U 0,U 0,Za [],Zf,U 0,U 0,U 0,U 0,Zf])] [U 1,Za [116],Zf,Zf,U 0,Za [],Za [],U 0,U 0,Za [],Zf,U 0,U 0,U 0,U 0,Zf] S12 Zbb V V V V (fun z hz=>by match z,hz with | [z0,z1,z2,z3,z4,z5,z6,z7,z8,z9,z10,z11,z12,z13,z14,z15],_=>rfl) (fun b6 w10 N6 S13=>?_)
 have T5:=St.sealSl (E:=QryE) (by_:=224) (l:=([(Query.mk 1 [116] [] [] (Cond.mk 0 [] [] (Val.mk 0 0 []) []) 0 0 (Span.mk 0 0) [])] : List Query)) S13 N6 ⟨[U 1,Za [116],Zf,Zf,U 0,Za [],Za [],U 0,U 0,Za [],Zf,U 0,U 0,U 0,U 0,Zf],_,V,(Zr (Query.mk 1 [116] [] [] (Cond.mk 0 [] [] (Val.mk 0 0 []) []) 0 0 (Span.mk 0 0) []) (show Zj 1 from by constructor <;> decide) (by simp [reach]) (Sl.nil Enc.str 16 G4) (Sl.nil Enc.str 16 G4) Yf (by simp [reach]) (by simp [reach]) Yf Yf (by simp [reach]) (Sl.nil CndE 96 G4) Yf Yf Yf Yf (Sl.nil QryE 224 G4)),V⟩ V (by simp [reach]) (by simp [reach])
 obtain ⟨G5,L5,A2,S14⟩:=T5
 refine WL.build _ [(0,[U 2]),(4,[U 2,Za [97],Za [],U 1,U 3,Za [],Zf]),(8,[.slice (some ⟨b6,0,none⟩) 1 1])] [U 2,Za [],Zf,Zf,U 2,Za [97],Za [],U 1,U 3,Za [],Zf,U 0,U 0,U 0,U 0, .slice (some ⟨b6,0,none⟩) 1 1] Zt V ZfZ V V V V ?_
 refine WL.buildSlice _ [(0,[U 2,Za [],Zf,Zf,U 2,Za [97],Za [],U 1,U 3,Za [],Zf,U 0,U 0,U 0,U 0, .slice (some ⟨b6,0,none⟩) 1 1])] [U 2,Za [],Zf,Zf,U 2,Za [97],Za [],U 1,U 3,Za [],Zf,U 0,U 0,U 0,U 0, .slice (some ⟨b6,0,none⟩) 1 1] S14 Zbb V V V V (fun z hz=>by match z,hz with | [z0,z1,z2,z3,z4,z5,z6,z7,z8,z9,z10,z11,z12,z13,z14,z15],_=>rfl) (fun b7 w11 N7 S15=>?_)
 have T6:=St.sealSl (E:=QryE) (by_:=224) (l:=([(Query.mk 2 [] [] [] (Cond.mk 2 [97] [] (Val.mk 1 3 []) []) 0 0 (Span.mk 0 0) [(Query.mk 1 [116] [] [] (Cond.mk 0 [] [] (Val.mk 0 0 []) []) 0 0 (Span.mk 0 0) [])])] : List Query)) S15 N7 ⟨[U 2,Za [],Zf,Zf,U 2,Za [97],Za [],U 1,U 3,Za [],Zf,U 0,U 0,U 0,U 0, .slice (some ⟨b6,0,none⟩) 1 1],_,V,(Zr (Query.mk 2 [] [] [] (Cond.mk 2 [97] [] (Val.mk 1 3 []) []) 0 0 (Span.mk 0 0) [(Query.mk 1 [116] [] [] (Cond.mk 0 [] [] (Val.mk 0 0 []) []) 0 0 (Span.mk 0 0) [])]) (show Zj 2 from by constructor <;> decide) (by simp [reach]) (Sl.nil Enc.str 16 G5) (Sl.nil Enc.str 16 G5) (show Zj 2 from by constructor <;> decide) (by simp [reach]) (by simp [reach]) (show Zj 1 from by constructor <;> decide) (show Zj 3 from by constructor <;> decide) (by simp [reach]) (Sl.nil CndE 96 G5) Yf Yf Yf Yf A2),V⟩ V (by simp [reach]) (by simp [reach])
 obtain ⟨G6,L6,A3,S16⟩:=T6
 refine WL.build _ [(0,[U 8]),(7,[U 0,U 10]),(8,[.slice (some ⟨b7,0,none⟩) 1 1])] [U 8,Za [],Zf,Zf,U 0,Za [],Za [],U 0,U 0,Za [],Zf,U 0,U 0,U 0,U 10, .slice (some ⟨b7,0,none⟩) 1 1] Zt V ZfZ V V V V ?_
 refine WL.alloc S16 Zt V V (fun b8 w12 N8 S17=>?_)
 refine Z9 S17 0 [U 8,Za [],Zf,Zf,U 0,Za [],Za [],U 0,U 0,Za [],Zf,U 0,U 0,U 0,U 10, .slice (some ⟨b7,0,none⟩) 1 1] V V Zt V V (by simp only [YE,A3.oneC] <;> rfl) V V V (fun w13 S18=>?_)
 have T7:=S18.shutB N8
 obtain ⟨G7,L7,C4,S19⟩:=T7
 refine Zc S19 C4 [U 8,Za [],Zf,Zf,U 0,Za [],Za [],U 0,U 0,Za [],Zf,U 0,U 0,U 0,U 10, .slice (some ⟨b7,0,none⟩) 1 1] Zt V V V V V ?_
 have T8:=St.sealSl (E:=Qv) (by_:=72) (l:=([(Schema.mk [116] [(Col.mk [97] 1)] 1 [])] : List Schema)) S19 N2 ⟨[Za [116], .slice (some ⟨b1,0,none⟩) 1 1,U 1,Zf],_,V,(Zan (Schema.mk [116] [(Col.mk [97] 1)] 1 []) (by simp [reach]) (A1.mono (((((L2.trans L3).trans L4).trans L5).trans L6).trans L7)) (show Zj 1 from by constructor <;> decide) (Sl.nil Zcx 40 G7)),V⟩ V (by simp [reach]) (by simp [reach])
 obtain ⟨G9,L9,A4,S20⟩:=T8
 refine Yq S20 Y0 V V V (Z0j S20.imm (Query.mk 8 [] [] [] (Cond.mk 0 [] [] (Val.mk 0 0 []) []) 0 0 (Span.mk 0 10) [(Query.mk 2 [] [] [] (Cond.mk 2 [97] [] (Val.mk 1 3 []) []) 0 0 (Span.mk 0 0) [(Query.mk 1 [116] [] [] (Cond.mk 0 [] [] (Val.mk 0 0 []) []) 0 0 (Span.mk 0 0) [])])]) [(Schema.mk [116] [(Col.mk [97] 1)] 1 [])] (hg.mono (((((((L1.trans L2).trans L3).trans L4).trans L5).trans L6).trans L7).trans L9)) _ (Zr (Query.mk 8 [] [] [] (Cond.mk 0 [] [] (Val.mk 0 0 []) []) 0 0 (Span.mk 0 10) [(Query.mk 2 [] [] [] (Cond.mk 2 [97] [] (Val.mk 1 3 []) []) 0 0 (Span.mk 0 0) [(Query.mk 1 [116] [] [] (Cond.mk 0 [] [] (Val.mk 0 0 []) []) 0 0 (Span.mk 0 0) [])])]) (show Zj 8 from by constructor <;> decide) (by simp [reach]) (Sl.nil Enc.str 16 G9) (Sl.nil Enc.str 16 G9) Yf (by simp [reach]) (by simp [reach]) Yf Yf (by simp [reach]) (Sl.nil CndE 96 G9) Yf Yf (show Zj 0 from by constructor <;> decide) (show Zj 10 from by constructor <;> decide) (A3.mono (L7.trans L9))) _ A4 (Zt5 _) Zql) ?_
 rintro w14 G10 _ ⟨r2,_,rfl,A5,rfl⟩ S21 L10
 obtain ⟨D1,rfl,R1⟩:=A5
 have T9:=Za8 R1
 obtain ⟨v1,v2,rfl,A6,A7⟩:=T9
 refine WL.alloc S21 Zat V V (fun b9 w15 N9 S22=>?_)
 refine Z9 S22 0 [v1,v2] V V Zat V V (by simp only [YE,A6.oneC,A7.oneC] <;> rfl) V V V (fun w16 S23=>?_)
 have T10:=S23.shutB N9
 obtain ⟨G11,L11,C5,S24⟩:=T10
 refine Zc S24 (C4.mono ((L9.trans L10).trans L11)) [U 8,Za [],Zf,Zf,U 0,Za [],Za [],U 0,U 0,Za [],Zf,U 0,U 0,U 0,U 10, .slice (some ⟨b7,0,none⟩) 1 1] Zt V V V V V ?_
 refine Yq S24 Y6 V V V (ZuQ S24.imm (Query.mk 8 [] [] [] (Cond.mk 0 [] [] (Val.mk 0 0 []) []) 0 0 (Span.mk 0 10) [(Query.mk 2 [] [] [] (Cond.mk 2 [97] [] (Val.mk 1 3 []) []) 0 0 (Span.mk 0 0) [(Query.mk 1 [116] [] [] (Cond.mk 0 [] [] (Val.mk 0 0 []) []) 0 0 (Span.mk 0 0) [])])]) [(Schema.mk [116] [(Col.mk [97] 1)] 1 [])] (hg.mono (((((((((L1.trans L2).trans L3).trans L4).trans L5).trans L6).trans L7).trans L9).trans L10).trans L11)) _ (Zr (Query.mk 8 [] [] [] (Cond.mk 0 [] [] (Val.mk 0 0 []) []) 0 0 (Span.mk 0 10) [(Query.mk 2 [] [] [] (Cond.mk 2 [97] [] (Val.mk 1 3 []) []) 0 0 (Span.mk 0 0) [(Query.mk 1 [116] [] [] (Cond.mk 0 [] [] (Val.mk 0 0 []) []) 0 0 (Span.mk 0 0) [])])]) (show Zj 8 from by constructor <;> decide) (by simp [reach]) (Sl.nil Enc.str 16 G11) (Sl.nil Enc.str 16 G11) Yf (by simp [reach]) (by simp [reach]) Yf Yf (by simp [reach]) (Sl.nil CndE 96 G11) Yf Yf (show Zj 0 from by constructor <;> decide) (show Zj 10 from by constructor <;> decide) (A3.mono (((L7.trans L9).trans L10).trans L11))) _ (A4.mono (L10.trans L11)) (Zt5 _) Zql) ?_
 rintro w17 G12 _ ⟨r5,_,rfl,A8,rfl⟩ S25 L12
 obtain ⟨D2,rfl,R2⟩:=A8
 have T11:=Zs R2
 obtain ⟨v3,v4,v5,v6,rfl,B1,B2,A9,A10,Z7,Z5,ZD,hb6,hb7,ZV,A11,hb9,ZI,ZJ,ZL,A12⟩:=T11
 refine WL.alloc S25 Zt V V (fun b10 w18 N10 S26=>?_)
 refine WL.store S26 0 _ _ _ 0 _ (QV ((XZ (Query.mk 8 [] [] [] (Cond.mk 0 [] [] (Val.mk 0 0 []) []) 0 0 (Span.mk 0 10) [(Query.mk 2 [] [] [] (Cond.mk 2 [97] [] (Val.mk 1 3 []) []) 0 0 (Span.mk 0 0) [(Query.mk 1 [116] [] [] (Cond.mk 0 [] [] (Val.mk 0 0 []) []) 0 0 (Span.mk 0 0) [])])]) [(Schema.mk [116] [(Col.mk [97] 1)] 1 [])]).1) v3 v4 v5 v6) (QV ((XZ (Query.mk 8 [] [] [] (Cond.mk 0 [] [] (Val.mk 0 0 []) []) 0 0 (Span.mk 0 10) [(Query.mk 2 [] [] [] (Cond.mk 2 [97] [] (Val.mk 1 3 []) []) 0 0 (Span.mk 0 0) [(Query.mk 1 [116] [] [] (Cond.mk 0 [] [] (Val.mk 0 0 []) []) 0 0 (Span.mk 0 0) [])])]) [(Schema.mk [116] [(Col.mk [97] 1)] 1 [])]).1) v3 v4 v5 v6) _ V V Zt V (ZZ V) (by simp only [YE,A9.oneC,A10.oneC,A11.oneC,A12.oneC] <;> rfl) V V V V V (fun w19 S27=>?_)
 have T12:=S27.shutB N10
 obtain ⟨G13,L13,C6,S28⟩:=T12
 have T13:=Cmp.dec .eql ((ofT (Query.mk 8 [] [] [] (Cond.mk 0 [] [] (Val.mk 0 0 []) []) 0 0 (Span.mk 0 10) [(Query.mk 2 [] [] [] (Cond.mk 2 [97] [] (Val.mk 1 3 []) []) 0 0 (Span.mk 0 0) [(Query.mk 1 [116] [] [] (Cond.mk 0 [] [] (Val.mk 0 0 []) []) 0 0 (Span.mk 0 0) [])])]) [(Schema.mk [116] [(Col.mk [97] 1)] 1 [])]).2) 0
 rcases T13 with ⟨YA,q1⟩ | ⟨YA,q1⟩
 ·have h1 : ((ofT (Query.mk 8 [] [] [] (Cond.mk 0 [] [] (Val.mk 0 0 []) []) 0 0 (Span.mk 0 10) [(Query.mk 2 [] [] [] (Cond.mk 2 [97] [] (Val.mk 1 3 []) []) 0 0 (Span.mk 0 0) [(Query.mk 1 [116] [] [] (Cond.mk 0 [] [] (Val.mk 0 0 []) []) 0 0 (Span.mk 0 0) [])])]) [(Schema.mk [116] [(Col.mk [97] 1)] 1 [])]).2) = 0:=q1
  clear q1
  have T14:=Cmp.dec .eql ((XZ (Query.mk 8 [] [] [] (Cond.mk 0 [] [] (Val.mk 0 0 []) []) 0 0 (Span.mk 0 10) [(Query.mk 2 [] [] [] (Cond.mk 2 [97] [] (Val.mk 1 3 []) []) 0 0 (Span.mk 0 0) [(Query.mk 1 [116] [] [] (Cond.mk 0 [] [] (Val.mk 0 0 []) []) 0 0 (Span.mk 0 0) [])])]) [(Schema.mk [116] [(Col.mk [97] 1)] 1 [])]).2) 0
  rcases T14 with ⟨Y9,q2⟩ | ⟨Y9,q2⟩
  ·have h2 : ((XZ (Query.mk 8 [] [] [] (Cond.mk 0 [] [] (Val.mk 0 0 []) []) 0 0 (Span.mk 0 10) [(Query.mk 2 [] [] [] (Cond.mk 2 [97] [] (Val.mk 1 3 []) []) 0 0 (Span.mk 0 0) [(Query.mk 1 [116] [] [] (Cond.mk 0 [] [] (Val.mk 0 0 []) []) 0 0 (Span.mk 0 0) [])])]) [(Schema.mk [116] [(Col.mk [97] 1)] 1 [])]).2) = 0:=q2
   clear q2
   have V1:=A6.bound
   have T15:=Cmp.dec .eql (((((ofT (Query.mk 8 [] [] [] (Cond.mk 0 [] [] (Val.mk 0 0 []) []) 0 0 (Span.mk 0 10) [(Query.mk 2 [] [] [] (Cond.mk 2 [97] [] (Val.mk 1 3 []) []) 0 0 (Span.mk 0 0) [(Query.mk 1 [116] [] [] (Cond.mk 0 [] [] (Val.mk 0 0 []) []) 0 0 (Span.mk 0 0) [])])]) [(Schema.mk [116] [(Col.mk [97] 1)] 1 [])]).1).steps).length : Nat) : Int) 3
   rcases T15 with ⟨Yr,q3⟩ | ⟨Yr,q3⟩
   ·have h3 : (((((ofT (Query.mk 8 [] [] [] (Cond.mk 0 [] [] (Val.mk 0 0 []) []) 0 0 (Span.mk 0 10) [(Query.mk 2 [] [] [] (Cond.mk 2 [97] [] (Val.mk 1 3 []) []) 0 0 (Span.mk 0 0) [(Query.mk 1 [116] [] [] (Cond.mk 0 [] [] (Val.mk 0 0 []) []) 0 0 (Span.mk 0 0) [])])]) [(Schema.mk [116] [(Col.mk [97] 1)] 1 [])]).1).steps).length : Nat) : Int) = 3:=q3
    clear q3
    have j1:=((L11.trans L12).trans L13)
    have T16:=Sl.at (A6.mono j1) 0 (by omega)
    obtain ⟨p1,x1,U1,E1,W1⟩:=T16
    obtain ⟨D3,C7,R3⟩:=E1
    have T17:=Q8 R3
    obtain ⟨v7,v9,v10,v11,v12,rfl,YH,YJ,A13,A14,YO,Xf,Xg,YK,Xc,XR,A15,Qa,Qh,Q0,Qs,A16,Q1,Qb,A17,Xw,Qt⟩:=T17
    have T18:=Classical.em (x1.span = (Span.mk 0 10))
    rcases T18 with h4 | h4
    ·have T19:=Cmp.dec .eql (((XZ (Query.mk 8 [] [] [] (Cond.mk 0 [] [] (Val.mk 0 0 []) []) 0 0 (Span.mk 0 10) [(Query.mk 2 [] [] [] (Cond.mk 2 [97] [] (Val.mk 1 3 []) []) 0 0 (Span.mk 0 0) [(Query.mk 1 [116] [] [] (Cond.mk 0 [] [] (Val.mk 0 0 []) []) 0 0 (Span.mk 0 0) [])])]) [(Schema.mk [116] [(Col.mk [97] 1)] 1 [])]).1).kind) 2
     rcases T19 with ⟨XS,q4⟩ | ⟨XS,q4⟩
     ·have h5 : ((XZ (Query.mk 8 [] [] [] (Cond.mk 0 [] [] (Val.mk 0 0 []) []) 0 0 (Span.mk 0 10) [(Query.mk 2 [] [] [] (Cond.mk 2 [97] [] (Val.mk 1 3 []) []) 0 0 (Span.mk 0 0) [(Query.mk 1 [116] [] [] (Cond.mk 0 [] [] (Val.mk 0 0 []) []) 0 0 (Span.mk 0 0) [])])]) [(Schema.mk [116] [(Col.mk [97] 1)] 1 [])]).1).kind = 2:=q4
      clear q4
      have V2:=A12.bound
      have T20:=Cmp.dec .eql (((((XZ (Query.mk 8 [] [] [] (Cond.mk 0 [] [] (Val.mk 0 0 []) []) 0 0 (Span.mk 0 10) [(Query.mk 2 [] [] [] (Cond.mk 2 [97] [] (Val.mk 1 3 []) []) 0 0 (Span.mk 0 0) [(Query.mk 1 [116] [] [] (Cond.mk 0 [] [] (Val.mk 0 0 []) []) 0 0 (Span.mk 0 0) [])])]) [(Schema.mk [116] [(Col.mk [97] 1)] 1 [])]).1).l).length : Nat) : Int) 1
      rcases T20 with ⟨Qc,q5⟩ | ⟨Qc,q5⟩
      ·have h6 : (((((XZ (Query.mk 8 [] [] [] (Cond.mk 0 [] [] (Val.mk 0 0 []) []) 0 0 (Span.mk 0 10) [(Query.mk 2 [] [] [] (Cond.mk 2 [97] [] (Val.mk 1 3 []) []) 0 0 (Span.mk 0 0) [(Query.mk 1 [116] [] [] (Cond.mk 0 [] [] (Val.mk 0 0 []) []) 0 0 (Span.mk 0 0) [])])]) [(Schema.mk [116] [(Col.mk [97] 1)] 1 [])]).1).l).length : Nat) : Int) = 1:=q5
       clear q5
       have T21:=Sl.at (A12.mono L13) 0 (by omega)
       obtain ⟨p2,x2,U2,E2,W2⟩:=T21
       obtain ⟨D4,C8,R4⟩:=E2
       have T22:=Zs R4
       obtain ⟨v13,v14,v15,v16,rfl,Qu,Zbc,A18,A19,ZcR,Zbd,Zck,Zb0,Zb1,Zb2,A20,Zb3,Zbe,Zcl,Zcm,A21⟩:=T22
       refine dr [(40,false)] [(38, .bool true),(41, .bool true),(45,v1),(46,U (((((ofT (Query.mk 8 [] [] [] (Cond.mk 0 [] [] (Val.mk 0 0 []) []) 0 0 (Span.mk 0 10) [(Query.mk 2 [] [] [] (Cond.mk 2 [97] [] (Val.mk 1 3 []) []) 0 0 (Span.mk 0 0) [(Query.mk 1 [116] [] [] (Cond.mk 0 [] [] (Val.mk 0 0 []) []) 0 0 (Span.mk 0 0) [])])]) [(Schema.mk [116] [(Col.mk [97] 1)] 1 [])]).1).steps).length : Nat) : Int)),(47, .bool true),(51,v1),(52,ZP p1),(54, .agg #[U x1.span.a,U x1.span.b]),(55, .agg #[U 0,U 10]),(56, .bool true),(60,U (((XZ (Query.mk 8 [] [] [] (Cond.mk 0 [] [] (Val.mk 0 0 []) []) 0 0 (Span.mk 0 10) [(Query.mk 2 [] [] [] (Cond.mk 2 [97] [] (Val.mk 1 3 []) []) 0 0 (Span.mk 0 0) [(Query.mk 1 [116] [] [] (Cond.mk 0 [] [] (Val.mk 0 0 []) []) 0 0 (Span.mk 0 0) [])])]) [(Schema.mk [116] [(Col.mk [97] 1)] 1 [])]).1).kind)),(61, .bool true),(65,v6),(66,U (((((XZ (Query.mk 8 [] [] [] (Cond.mk 0 [] [] (Val.mk 0 0 []) []) 0 0 (Span.mk 0 10) [(Query.mk 2 [] [] [] (Cond.mk 2 [97] [] (Val.mk 1 3 []) []) 0 0 (Span.mk 0 0) [(Query.mk 1 [116] [] [] (Cond.mk 0 [] [] (Val.mk 0 0 []) []) 0 0 (Span.mk 0 0) [])])]) [(Schema.mk [116] [(Col.mk [97] 1)] 1 [])]).1).l).length : Nat) : Int)),(67, .bool true),(71,v6),(72,ZP p2),(74,U x2.kind),(75, .bool (Cmp.b .eql x2.kind 8))] S28 ⟨fun _=>WL.cmpV .eql V .i64 ((ofT (Query.mk 8 [] [] [] (Cond.mk 0 [] [] (Val.mk 0 0 []) []) 0 0 (Span.mk 0 10) [(Query.mk 2 [] [] [] (Cond.mk 2 [97] [] (Val.mk 1 3 []) []) 0 0 (Span.mk 0 0) [(Query.mk 1 [116] [] [] (Cond.mk 0 [] [] (Val.mk 0 0 []) []) 0 0 (Span.mk 0 0) [])])]) [(Schema.mk [116] [(Col.mk [97] 1)] 1 [])]).2) 0 _ YA V V V <| nu V V,fun _=>WL.cmpV .eql V .i64 ((XZ (Query.mk 8 [] [] [] (Cond.mk 0 [] [] (Val.mk 0 0 []) []) 0 0 (Span.mk 0 10) [(Query.mk 2 [] [] [] (Cond.mk 2 [97] [] (Val.mk 1 3 []) []) 0 0 (Span.mk 0 0) [(Query.mk 1 [116] [] [] (Cond.mk 0 [] [] (Val.mk 0 0 []) []) 0 0 (Span.mk 0 0) [])])]) [(Schema.mk [116] [(Col.mk [97] 1)] 1 [])]).2) 0 _ Y9 V V V <| nu V V,fun _ hSw=>Z hSw (Xh.drop 0 (C5.mono (L12.trans L13))) QG V V V <| nu V V,fun _=>Zm (A6.mono j1) QS V V <| nu V V,fun _=>WL.cmpV .eql V .i64 (((((ofT (Query.mk 8 [] [] [] (Cond.mk 0 [] [] (Val.mk 0 0 []) []) 0 0 (Span.mk 0 10) [(Query.mk 2 [] [] [] (Cond.mk 2 [97] [] (Val.mk 1 3 []) []) 0 0 (Span.mk 0 0) [(Query.mk 1 [116] [] [] (Cond.mk 0 [] [] (Val.mk 0 0 []) []) 0 0 (Span.mk 0 0) [])])]) [(Schema.mk [116] [(Col.mk [97] 1)] 1 [])]).1).steps).length : Nat) : Int) 3 _ Yr V V V <| nu V V,fun _ hSw=>Z hSw (Xh.drop 0 (C5.mono (L12.trans L13))) QG V V V <| nu V V,fun _=>Zy 0 W1 QS XQ V V V V <| nu V V,fun _ hSw=>Zc hSw (Xh.drop 19 C7) [U x1.span.a,U x1.span.b] Y5 V V V V V <| nu V V,fun _ hSw=>Zc hSw (C1.mono (((((((((L3.trans L4).trans L5).trans L6).trans L7).trans L9).trans L10).trans L11).trans L12).trans L13)) [U 0,U 10] Y5 V V V V V <| nu V V,fun _=>Zjb true (QT x1.span (Span.mk 0 10)) ZbG (by simp [h4]) V V V <| nu V V,fun _ hSw=>Z hSw (Xh.drop 0 C6) Zk V V V <| nu V V,fun _=>WL.cmpV .eql V .i64 (((XZ (Query.mk 8 [] [] [] (Cond.mk 0 [] [] (Val.mk 0 0 []) []) 0 0 (Span.mk 0 10) [(Query.mk 2 [] [] [] (Cond.mk 2 [97] [] (Val.mk 1 3 []) []) 0 0 (Span.mk 0 0) [(Query.mk 1 [116] [] [] (Cond.mk 0 [] [] (Val.mk 0 0 []) []) 0 0 (Span.mk 0 0) [])])]) [(Schema.mk [116] [(Col.mk [97] 1)] 1 [])]).1).kind) 2 _ XS V V V <| nu V V,fun _ hSw=>Z hSw (Xh.drop 15 C6) Yu V V V <| nu V V,fun _=>Zm (A12.mono L13) Y1 V V <| nu V V,fun _=>WL.cmpV .eql V .i64 (((((XZ (Query.mk 8 [] [] [] (Cond.mk 0 [] [] (Val.mk 0 0 []) []) 0 0 (Span.mk 0 10) [(Query.mk 2 [] [] [] (Cond.mk 2 [97] [] (Val.mk 1 3 []) []) 0 0 (Span.mk 0 0) [(Query.mk 1 [116] [] [] (Cond.mk 0 [] [] (Val.mk 0 0 []) []) 0 0 (Span.mk 0 0) [])])]) [(Schema.mk [116] [(Col.mk [97] 1)] 1 [])]).1).l).length : Nat) : Int) 1 _ Qc V V V <| nu V V,fun _ hSw=>Z hSw (Xh.drop 15 C6) Yu V V V <| nu V V,fun _=>Zy 0 W2 Y1 Zt V V V V <| nu V V,fun _ hSw=>Z hSw (Xh.drop 0 C8) Zk V V V <| nu V V,fun _=>Yd .eql V .i64 x2.kind 8 V V V <| nu V V,trivial⟩ (fun w20 S29=>?_)
       exact RB S29 V (by (rw [Z1O ‹_›]; rfl))
      have h6 : (((((XZ (Query.mk 8 [] [] [] (Cond.mk 0 [] [] (Val.mk 0 0 []) []) 0 0 (Span.mk 0 10) [(Query.mk 2 [] [] [] (Cond.mk 2 [97] [] (Val.mk 1 3 []) []) 0 0 (Span.mk 0 0) [(Query.mk 1 [116] [] [] (Cond.mk 0 [] [] (Val.mk 0 0 []) []) 0 0 (Span.mk 0 0) [])])]) [(Schema.mk [116] [(Col.mk [97] 1)] 1 [])]).1).l).length : Nat) : Int) ≠ 1:=q5
      clear q5
      (exfalso; exact Z1N h6)
     have h5 : ((XZ (Query.mk 8 [] [] [] (Cond.mk 0 [] [] (Val.mk 0 0 []) []) 0 0 (Span.mk 0 10) [(Query.mk 2 [] [] [] (Cond.mk 2 [97] [] (Val.mk 1 3 []) []) 0 0 (Span.mk 0 0) [(Query.mk 1 [116] [] [] (Cond.mk 0 [] [] (Val.mk 0 0 []) []) 0 0 (Span.mk 0 0) [])])]) [(Schema.mk [116] [(Col.mk [97] 1)] 1 [])]).1).kind ≠ 2:=q4
     clear q4
     (exfalso; exact Z1L h5)
    refine dr [(40,false)] [(38, .bool true),(41, .bool true),(45,v1),(46,U (((((ofT (Query.mk 8 [] [] [] (Cond.mk 0 [] [] (Val.mk 0 0 []) []) 0 0 (Span.mk 0 10) [(Query.mk 2 [] [] [] (Cond.mk 2 [97] [] (Val.mk 1 3 []) []) 0 0 (Span.mk 0 0) [(Query.mk 1 [116] [] [] (Cond.mk 0 [] [] (Val.mk 0 0 []) []) 0 0 (Span.mk 0 0) [])])]) [(Schema.mk [116] [(Col.mk [97] 1)] 1 [])]).1).steps).length : Nat) : Int)),(47, .bool true),(51,v1),(52,ZP p1),(54, .agg #[U x1.span.a,U x1.span.b]),(55, .agg #[U 0,U 10]),(56, .bool false)] S28 ⟨fun _=>WL.cmpV .eql V .i64 ((ofT (Query.mk 8 [] [] [] (Cond.mk 0 [] [] (Val.mk 0 0 []) []) 0 0 (Span.mk 0 10) [(Query.mk 2 [] [] [] (Cond.mk 2 [97] [] (Val.mk 1 3 []) []) 0 0 (Span.mk 0 0) [(Query.mk 1 [116] [] [] (Cond.mk 0 [] [] (Val.mk 0 0 []) []) 0 0 (Span.mk 0 0) [])])]) [(Schema.mk [116] [(Col.mk [97] 1)] 1 [])]).2) 0 _ YA V V V <| nu V V,fun _=>WL.cmpV .eql V .i64 ((XZ (Query.mk 8 [] [] [] (Cond.mk 0 [] [] (Val.mk 0 0 []) []) 0 0 (Span.mk 0 10) [(Query.mk 2 [] [] [] (Cond.mk 2 [97] [] (Val.mk 1 3 []) []) 0 0 (Span.mk 0 0) [(Query.mk 1 [116] [] [] (Cond.mk 0 [] [] (Val.mk 0 0 []) []) 0 0 (Span.mk 0 0) [])])]) [(Schema.mk [116] [(Col.mk [97] 1)] 1 [])]).2) 0 _ Y9 V V V <| nu V V,fun _ hSw=>Z hSw (Xh.drop 0 (C5.mono (L12.trans L13))) QG V V V <| nu V V,fun _=>Zm (A6.mono j1) QS V V <| nu V V,fun _=>WL.cmpV .eql V .i64 (((((ofT (Query.mk 8 [] [] [] (Cond.mk 0 [] [] (Val.mk 0 0 []) []) 0 0 (Span.mk 0 10) [(Query.mk 2 [] [] [] (Cond.mk 2 [97] [] (Val.mk 1 3 []) []) 0 0 (Span.mk 0 0) [(Query.mk 1 [116] [] [] (Cond.mk 0 [] [] (Val.mk 0 0 []) []) 0 0 (Span.mk 0 0) [])])]) [(Schema.mk [116] [(Col.mk [97] 1)] 1 [])]).1).steps).length : Nat) : Int) 3 _ Yr V V V <| nu V V,fun _ hSw=>Z hSw (Xh.drop 0 (C5.mono (L12.trans L13))) QG V V V <| nu V V,fun _=>Zy 0 W1 QS XQ V V V V <| nu V V,fun _ hSw=>Zc hSw (Xh.drop 19 C7) [U x1.span.a,U x1.span.b] Y5 V V V V V <| nu V V,fun _ hSw=>Zc hSw (C1.mono (((((((((L3.trans L4).trans L5).trans L6).trans L7).trans L9).trans L10).trans L11).trans L12).trans L13)) [U 0,U 10] Y5 V V V V V <| nu V V,fun _=>Zjb false (QT x1.span (Span.mk 0 10)) ZbG (by simp [h4]) V V V <| nu V V,trivial⟩ (fun w21 S30=>?_)
    exact RB S30 V (by exact absurd (Z1K ‹_›) ‹_›)
   have h3 : (((((ofT (Query.mk 8 [] [] [] (Cond.mk 0 [] [] (Val.mk 0 0 []) []) 0 0 (Span.mk 0 10) [(Query.mk 2 [] [] [] (Cond.mk 2 [97] [] (Val.mk 1 3 []) []) 0 0 (Span.mk 0 0) [(Query.mk 1 [116] [] [] (Cond.mk 0 [] [] (Val.mk 0 0 []) []) 0 0 (Span.mk 0 0) [])])]) [(Schema.mk [116] [(Col.mk [97] 1)] 1 [])]).1).steps).length : Nat) : Int) ≠ 3:=q3
   clear q3
   (exfalso; exact Z1J h3)
  have h2 : ((XZ (Query.mk 8 [] [] [] (Cond.mk 0 [] [] (Val.mk 0 0 []) []) 0 0 (Span.mk 0 10) [(Query.mk 2 [] [] [] (Cond.mk 2 [97] [] (Val.mk 1 3 []) []) 0 0 (Span.mk 0 0) [(Query.mk 1 [116] [] [] (Cond.mk 0 [] [] (Val.mk 0 0 []) []) 0 0 (Span.mk 0 0) [])])]) [(Schema.mk [116] [(Col.mk [97] 1)] 1 [])]).2) ≠ 0:=q2
  clear q2
  (exfalso; exact Z1H h2)
 have h1 : ((ofT (Query.mk 8 [] [] [] (Cond.mk 0 [] [] (Val.mk 0 0 []) []) 0 0 (Span.mk 0 10) [(Query.mk 2 [] [] [] (Cond.mk 2 [97] [] (Val.mk 1 3 []) []) 0 0 (Span.mk 0 0) [(Query.mk 1 [116] [] [] (Cond.mk 0 [] [] (Val.mk 0 0 []) []) 0 0 (Span.mk 0 0) [])])]) [(Schema.mk [116] [(Col.mk [97] 1)] 1 [])]).2) ≠ 0:=q1
 clear q1
 (exfalso; exact Z1G h1)
end Go.Civ
