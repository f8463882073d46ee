/- Lemmas. -/
import Derived.Test.YtecneejegecmhaaGreatDoorK39
set_option linter.unusedVariables false
set_option linter.unusedSimpArgs false
set_option linter.unusedVariables false
set_option linter.unusedSimpArgs false
set_option maxRecDepth 100000
set_option maxHeartbeats 4000000
namespace Go.Civ
open Go.Proofs
def Zom (n : Nat) : Prop:=∀ {G : GH} {w : World} (hG : G.In w) (q : Query) (dep u : Int) (cc : List Value) (hcc : QryE.rep G q cc) (pb : Nat) (hpb : QJ w G (some (pb,(nat_lit 3),[U u]))) (hdep : 0 ≤ dep ∧ dep ≤ 21) (hu : 0 ≤ u ∧ u ≤ 120) (hn : Xx q n),CL Tryz.prog (nat_lit 7) #[.agg cc.toArray,U dep, .pointer (some ⟨pb,0,none⟩)] [pb] w G fun G' w' r=>(r = .bool ((YW n q dep u).1)) ∧ QJ w' G' (some (pb,(nat_lit 3),[U ((YW n q dep u).2)]))
theorem ZuU {G : GH} {w : World} (hG : G.In w) (n : Nat) (x : Query) (dep u : Int) (hN : Zom n) (pb : Nat) (hpb : QJ w G (some (pb,(nat_lit 3),[U u]))) (cx : List Value) (hcx : QryE.rep G x cx) (pd : Addr) (hpd : Xh G pd [U dep]) (pn : Addr) (hpn : Xh G pn [.pointer (some ⟨pb,0,none⟩)]) (hdep : 0 ≤ dep ∧ dep ≤ 20) (hu : 0 ≤ u ∧ u ≤ 120) (hn : Xx x n) : CL Tryz.prog (nat_lit 21) #[.agg cx.toArray,ZP pd,ZP pn] [pb] w G fun G' w' r=>(r = .bool (!(YW n x (dep + 1) u).1)) ∧ QJ w' G' (some (pb,(nat_lit 3),[U ((YW n x (dep + 1) u).2)])):=by
 refine Zg ft [] Tryz.func21 V V ?_
 have hdep64 : Zj dep:=⟨by omega,by omega⟩
 have hu64 : Zj u:=⟨by omega,by omega⟩
 have hS:=St.lentO hG hpb
 obtain ⟨v1,v2,v3,v4,rfl,B1,B2,A1,A2,Z7,Z5,ZD,hb6,ZV,hb9,A3,ZI,ZJ,ZL,Y0,A4⟩:=Zs hcx
 refine Z4 (QV x v1 v2 v3 v4) _ hS V V V (fun p1 w1 G1 L1 M1 C1 S1=>?_)
 refine Zc S1 C1 (QV x v1 v2 v3 v4) Zt V V V V V <| Z S1 (hpd.mono L1) Zk V V V ?_
 have hi1 : Zj (dep + 1):=by have:=hdep64.1; have:=hdep64.2; constructor <;> omega
 refine WL.ar .add V dep 1 V V V hi1 <| Z S1 (hpn.mono L1) Zhn V V V ?_
 refine Zax hb7 V V V (hN S1.imm x (dep + 1) u _ (Zr x B1 B2 (A1.mono L1) (A2.mono L1) Z7 Z5 ZD hb6 ZV hb9 (A3.mono L1) ZI ZJ ZL Y0 (A4.mono L1)) _ (S1.lentAt 0 V) (by omega) (by omega) hn) (fun w2 G2 r1 hres1 ⟨P1,hlc1⟩=>?_)
 have S2 : St w [pb] G G2 [some (pb,(nat_lit 3),[U ((YW n x (dep + 1) u).2)])] w2:=S1.callX 0 V [U ((YW n x (dep + 1) u).2)] hres1 (hlc1 _ V).1
 have L2:=hres1.le
 subst P1
 exact RT S2 V ⟨(congrArg Value.bool (by rfl)),(S2.lentAt 0 V).cast (by rfl)⟩
theorem ZuV {G : GH} {w : World} (hG : G.In w) (n : Nat) (l : List Query) (dep u : Int) (hN : Zom n) (pb : Nat) (hpb : QJ w G (some (pb,(nat_lit 3),[U u]))) (vl : Value) (hvl : Sl QryE 224 G vl l) (pd : Addr) (hpd : Xh G pd [U dep]) (pn : Addr) (hpn : Xh G pn [.pointer (some ⟨pb,0,none⟩)]) (hdep : 0 ≤ dep ∧ dep ≤ 20) (hu : 0 ≤ u ∧ u ≤ 120) (hl : ∀ x ∈ l,Xx x n) : CL Tryz.prog (nat_lit 44) #[vl, .func (.func 21) #[] #[ZP pd,ZP pn]] [pb] w G fun G' w' r=>(r = U (ZcP (fun x i=>YW n x (dep + 1) i) l u 0)) ∧ QJ w' G' (some (pb,(nat_lit 3),[U ((YM (fun x i=>YW n x (dep + 1) i) l u).2)])):=by
 refine Zg ft [] Tryz.func44 V V ?_
 have hdep64 : Zj dep:=⟨by omega,by omega⟩
 have hu64 : Zj u:=⟨by omega,by omega⟩
 have hS:=St.lentO hG hpb
 have V1:=hvl.bound
 refine Zm hvl Y1 V V ?_
 refine LP.go ft [] (fun m ρ1 w1=>∃ (k1 : Nat),∃ (mm : Int),∃ (G1 : GH),m = l.length - k1 ∧ G.le G1 ∧ St w [pb] G G1 [some (pb,(nat_lit 3),[U mm])] w1 ∧ FR ρ1 [(0,vl),(1, .func (.func 21) #[] #[ZP pd,ZP pn]),(7,U (l.length : Int)),(8,U (k1 : Int))] ∧ k1 ≤ l.length ∧ ((YM (fun x i=>YW n x (dep + 1) i) (l.take k1) u).1 = true ∧ mm = (YM (fun x i=>YW n x (dep + 1) i) (l.take k1) u).2) ∧ (0 ≤ mm ∧ mm ≤ 120)) _ ⟨0,u,G,V,(G.le_refl),hS,(ZS V),(by omega),(by exact ⟨V,V⟩),(by omega)⟩ ?_
 rintro m ρ1 w1 ⟨k1,mm,G1,rfl,L1,S1,F9,f1,f2,f3⟩
 refine F9.set ?_
 clear F9
 have hmm64 : Zj mm:=⟨by omega,by omega⟩
 have h9k:=(by assumption : (YM (fun x i=>YW n x (dep + 1) i) (l.take k1) u).1 = true ∧ mm = (YM (fun x i=>YW n x (dep + 1) i) (l.take k1) u).2)
 refine Zp (k1 : Int) (l.length : Int) V V V (fun h1=>?_) (fun h1=>?_)
 ·refine WL.indexAddr (hvl.mono L1) k1 (by omega) Y1 Zt V V V V (fun p1 x1 U1 E1=>?_)
  obtain ⟨D1,C1,R1⟩:=E1
  obtain ⟨v1,v2,v3,v4,rfl,B1,B2,A1,A2,Z7,Z5,ZD,hb6,hb7,ZV,A3,hb9,ZI,ZJ,ZL,A4⟩:=Zs R1
  refine Zc S1 C1 (QV x1 v1 v2 v3 v4) Zt V V V V V ?_
  refine Zax Xf V V V (ZuU S1.imm n x1 dep mm hN _ (S1.lentAt 0 V) _ (Zr x1 B1 B2 A1 A2 Z7 Z5 ZD hb6 hb7 ZV A3 hb9 ZI ZJ ZL A4) _ (hpd.mono L1) _ (hpn.mono L1) (by omega) (by omega) (hl _ (List.mem_of_getElem? ‹_›))) (fun w2 G2 r1 hres1 ⟨P1,hlc1⟩=>?_)
  have S2 : St w [pb] G G2 [some (pb,(nat_lit 3),[U ((YW n x1 (dep + 1) mm).2)])] w2:=S1.callX 0 V [U ((YW n x1 (dep + 1) mm).2)] hres1 (hlc1 _ V).1
  have L2:=hres1.le
  subst P1
  refine WL.split (fun (h2 : (!(YW n x1 (dep + 1) mm).1) = true)=>?_) (fun (h2 : (!(YW n x1 (dep + 1) mm).1) = false)=>?_)
  ·exact RT S2 V ⟨(congrArg (Value.int .i64) (by exact (ZeZ h9k.1 h9k.2 ‹_› ‹_›).1)),(S2.lentAt 0 V).cast (by exact congrArg (fun v=>[Value.int .i64 v]) (ZeZ h9k.1 h9k.2 ‹_› ‹_›).2)⟩
  refine Zq k1 (by have:=Zb; omega) V V V ?_
  exact BK.mk' _ ⟨k1 + 1,(YW n x1 (dep + 1) mm).2,G2,V,(L1.trans L2),S2,(ZS V),(by omega),(by exact Zp4 h9k.1 h9k.2 ‹_› ‹_›),(by exact Zux ‹_› ‹_›)⟩ (show l.length - (k1 + 1) < l.length - k1 by omega)
 exact RT S1 V ⟨(congrArg (Value.int .i64) (by exact (Zgz h9k.1 h9k.2 (by omega)).1)),(S1.lentAt 0 V).cast (by exact congrArg (fun v=>[Value.int .i64 v]) (Zgz h9k.1 h9k.2 (by omega)).2)⟩
theorem ZuW {G : GH} {w : World} (hG : G.In w) (n : Nat) (l : List Query) (dep u : Int) (hN : Zom n) (pb : Nat) (hpb : QJ w G (some (pb,(nat_lit 3),[U u]))) (vl : Value) (hvl : Sl QryE 224 G vl l) (pd : Addr) (hpd : Xh G pd [U dep]) (pn : Addr) (hpn : Xh G pn [.pointer (some ⟨pb,0,none⟩)]) (hdep : 0 ≤ dep ∧ dep ≤ 20) (hu : 0 ≤ u ∧ u ≤ 120) (hl : ∀ x ∈ l,Xx x n) : CL Tryz.prog (nat_lit 20) #[vl, .func (.func 21) #[] #[ZP pd,ZP pn]] [pb] w G fun G' w' r=>(r = .bool (!(YM (fun x i=>YW n x (dep + 1) i) l u).1)) ∧ QJ w' G' (some (pb,(nat_lit 3),[U ((YM (fun x i=>YW n x (dep + 1) i) l u).2)])):=by
 refine Zg ft [] Tryz.func20 V V ?_
 have hdep64 : Zj dep:=⟨by omega,by omega⟩
 have hu64 : Zj u:=⟨by omega,by omega⟩
 have hS:=St.lentO hG hpb
 refine Zax Zb3 V V V (ZuV hS.imm n l dep u hN _ (hS.lentAt 0 V) _ hvl _ hpd _ hpn (by omega) (by omega) hl) (fun w1 G1 r1 hres1 ⟨P1,hlc1⟩=>?_)
 have S1 : St w [pb] G G1 [some (pb,(nat_lit 3),[U ((YM (fun x i=>YW n x (dep + 1) i) l u).2)])] w1:=hS.callX 0 V [U ((YM (fun x i=>YW n x (dep + 1) i) l u).2)] hres1 (hlc1 _ V).1
 have L1:=hres1.le
 subst P1
 refine Yd .geq V .i64 (ZcP (fun x i=>YW n x (dep + 1) i) l u 0) 0 V V V ?_
 exact RT S1 V ⟨(congrArg Value.bool (by exact ZiC (by omega))),(S1.lentAt 0 V).cast (by rfl)⟩
theorem Zqo {G : GH} {w : World} (hG : G.In w) (s : List UInt8) : CL Tryz.prog (nat_lit 19) #[Za s] [] w G fun _ _ r=>r = .bool (decide (60 < (s.length : Int))):=by
 refine Zg ft [] Tryz.func19 V V ?_
 have hS:=St.start (X:=[]) hG
 refine YN s X1 V V <| Yd .gtr V .i64 (s.length : Int) 60 V V V ?_
 exact RB hS V (by rfl)
theorem ZxB (n : Nat) : ∀ {G : GH} {w : World} (hG : G.In w) (q : Query) (dep u : Int) (cc : List Value) (hcc : QryE.rep G q cc) (pb : Nat) (hpb : QJ w G (some (pb,(nat_lit 3),[U u]))) (hdep : 0 ≤ dep ∧ dep ≤ 21) (hu : 0 ≤ u ∧ u ≤ 120) (hn : Xx q n),CL Tryz.prog (nat_lit 7) #[.agg cc.toArray,U dep, .pointer (some ⟨pb,0,none⟩)] [pb] w G fun G' w' r=>(r = .bool ((YW n q dep u).1)) ∧ QJ w' G' (some (pb,(nat_lit 3),[U ((YW n q dep u).2)])):=by
 induction n
 ·intro G w hG q dep u cc hcc pb hpb hdep hu hn; exact (ZaH hn).elim
 rename_i n ih
 intro G w hG q dep u cc hcc pb hpb hdep hu hn
 refine Zg ft [] Tryz.func7 V V ?_
 have hdep64 : Zj dep:=⟨by omega,by omega⟩
 have hu64 : Zj u:=⟨by omega,by omega⟩
 have hS:=St.lentO hG hpb
 obtain ⟨v1,v2,v3,v4,rfl,B1,B2,A1,A2,Z7,Z5,ZD,hb6,hb7,ZV,A3,hb9,ZI,ZJ,ZL,A4⟩:=Zs hcc
 refine Z4 (QV q v1 v2 v3 v4) _ hS V V V (fun p1 w1 G1 L1 M1 C1 S1=>?_)
 refine Z4 [U dep] _ S1 V V V (fun p2 w2 G2 L2 M2 C2 S2=>?_)
 refine Z4 [.pointer (some ⟨pb,0,none⟩)] _ S2 V V V (fun p3 w3 G3 L3 M3 C3 S3=>?_)
 refine Z S3 C3 Zhn V V V <| WL.nilCheck _ V V <| Yz S3 0 _ _ _ 0 _ V V Zk V V V ?_
 have hi1 : Zj (u - 1):=by have:=hu64.1; have:=hu64.2; constructor <;> omega
 refine WL.ar .sub V u 1 V V V hi1 <| WL.nilCheck _ V V ?_
 refine Z9 S3 0 [U (u - 1)] V V Zk V V V V V V (fun w4 S4=>?_)
 refine Z S4 C3 Zhn V V V <| WL.nilCheck _ V V <| Yz S4 0 _ _ _ 0 _ V V Zk V V V ?_
 refine Zp (u - 1) 0 V V V (fun h1=>?_) (fun h1=>?_)
 ·exact RT S4 V ⟨(congrArg Value.bool (by exact (ZbA (by omega)).1)),(S4.lentAt 0 V).cast (by exact congrArg (fun v=>[Value.int .i64 v]) (ZbA (by omega)).2)⟩
 refine Z S4 (C2.mono L3) Zk V V V ?_
 refine Z1 dep 20 V V V (fun h2=>?_) (fun h2=>?_)
 ·exact RT S4 V ⟨(congrArg Value.bool (by exact (ZbA (by omega)).1)),(S4.lentAt 0 V).cast (by exact congrArg (fun v=>[Value.int .i64 v]) (ZbA (by omega)).2)⟩
 have j1:=(L2.trans L3)
 refine Z S4 (Xh.drop 1 (C1.mono j1)) Zv V V V <| YN q.table X1 V V ?_
 refine Z1 (q.table.length : Int) 60 V V V (fun h3=>?_) (fun h3=>?_)
 ·exact RT S4 V ⟨(congrArg Value.bool (by exact (ZbA (by omega)).1)),(S4.lentAt 0 V).cast (by exact congrArg (fun v=>[Value.int .i64 v]) (ZbA (by omega)).2)⟩
 refine Z S4 (Xh.drop 2 (C1.mono j1)) ZH V V V ?_
 have V1:=A1.bound
 have j2:=((L1.trans L2).trans L3)
 refine Zm (A1.mono j2) Yb V V ?_
 refine Z1 (q.cols.length : Int) 20 V V V (fun h4=>?_) (fun h4=>?_)
 ·exact RT S4 V ⟨(congrArg Value.bool (by exact (ZbA (by omega)).1)),(S4.lentAt 0 V).cast (by exact congrArg (fun v=>[Value.int .i64 v]) (ZbA (by omega)).2)⟩
 refine Z S4 (Xh.drop 3 (C1.mono j1)) ZH V V V ?_
 have V2:=A2.bound
 refine Zm (A2.mono j2) Yb V V ?_
 refine Z1 (q.names.length : Int) 20 V V V (fun h5=>?_) (fun h5=>?_)
 ·exact RT S4 V ⟨(congrArg Value.bool (by exact (ZbA (by omega)).1)),(S4.lentAt 0 V).cast (by exact congrArg (fun v=>[Value.int .i64 v]) (ZbA (by omega)).2)⟩
 refine Zc S4 (Xh.drop 4 (C1.mono j1)) [U q.cond.kind,Za q.cond.col,Za q.cond.oth,U q.cond.v.k,U q.cond.v.n,Za q.cond.v.s,v3] ZY V V V V V <| Z S4 C3 Zhn V V V ?_
 refine Zax Y9 V V V (ZxA (n + 1) S4.imm q.cond 0 (u - 1) _ (ZR q.cond Z7 Z5 ZD hb6 hb7 ZV (A3.mono j2)) _ (S4.lentAt 0 V) (by omega) (by omega) (Zaz hn)) (fun w5 G4 r1 hres1 ⟨P1,hlc1⟩=>?_)
 have S5 : St w [pb] G G4 [some (pb,(nat_lit 3),[U ((Y8 (n + 1) q.cond 0 (u - 1)).2)])] w5:=S4.callX 0 V [U ((Y8 (n + 1) q.cond 0 (u - 1)).2)] hres1 (hlc1 _ V).1
 have L4:=hres1.le
 subst P1
 refine WL.split (fun (h6 : ((Y8 (n + 1) q.cond 0 (u - 1)).1) = true)=>?_) (fun (h6 : ((Y8 (n + 1) q.cond 0 (u - 1)).1) = false)=>?_)
 ·have hb9:=Ze5 (n + 1) q.cond 0 (u - 1) (by omega) (by omega)
  have hb7:=Zw9 (m:=u) (i:=u) hb9 ‹_›
  have hb6:=ZwA hb9
  have j3:=(j1.trans L4)
  refine drT [2,5,6,7,8,9,10,11,12,13,14,15] [(46,v1),(49,v2)] S5 ⟨fun _ hSw=>Z hSw (Xh.drop 2 (C1.mono j3)) ZH V V V <| nu V V,fun _ hSw=>Z hSw (Xh.drop 3 (C1.mono j3)) ZH V V V <| nu V V,trivial⟩ (fun w6 S6=>?_)
  refine TG.fork 11 [2,5,6,7,8,9,10,11,12,13,14,15] [2] V V (by decide) (by decide) (TA.cons V ?_ TA.nil)
  have j4:=(j2.trans L4)
  refine Zax YH V V V (Zfv S6.imm q.cols _ (A1.mono j4)) (fun w7 G5 r2 hres2 P2=>?_)
  have S7:=S6.call hres2
  have L5:=hres2.le
  obtain ⟨o1,R1,hf1⟩:=P2
  have S8:=S6.adoptO hres2 hf1
  refine ⟨fun _=>S8.tail.down S6.le L5,?_⟩
  refine TG.fork 10 [5,6,7,8,9,10,11,12,13,14,15] [5] V V (by decide) (by decide) (TA.cons V ?_ TA.nil)
  refine Zf4 XI V V V R1 S8 0 V (A2.mono (j4.trans L5)) (by have:=Zb; (simp only [List.length_append]; omega)) (by have:=Zb; omega) V V V (fun v5 o2 w9 R2 S9=>?_)
  refine ⟨fun h=>absurd h (by decide),?_⟩
  refine TG.fork 9 [6,7,8,9,10,11,12,13,14,15] [6] V V (by decide) (by decide) (TA.cons V ?_ TA.nil)
  obtain ⟨G6,L6,A5,S10⟩:=YX.freezeL R2 S9 0 1 V V
  refine Zl S10 Yr V V V (ZbH S10.imm (q.cols ++ q.names) (fun x8=>decide (60 < (x8.length : Int))) _ A5 19 #[] ⟨YJ,fun G8 w8 v8 x8 L8 hG8 hon8 hA8=>by obtain ⟨rfl,hi_x8⟩:=hA8; exact Zqo hG8 x8⟩) (fun w10 G7 S11 L7=>?_)
  refine WL.split (fun (h7 : ((q.cols ++ q.names).any (fun x8=>decide (60 < (x8.length : Int)))) = true)=>?_) (fun (h7 : ((q.cols ++ q.names).any (fun x8=>decide (60 < (x8.length : Int)))) = false)=>?_)
  ·refine ⟨fun h=>absurd h (by decide),?_⟩
   refine TG.quiet 8 [7,8,9,10,11,12,13,14,15] 7 V V V V V (by decide) (fun w9 K9 k9=>WL.not true V V k9) ?_
   refine TG.quiet 7 [8,9,10,11,12,13,14,15] 8 V V V V V (by decide) (fun w9 K9 k9=>WL.move V k9) ?_
   refine TG.fork 6 [9,10,11,12,13,14,15] [9,11] V V (by decide) (by decide) (TA.cons V ?_ (TA.cons V ?_ TA.nil))
   ·refine WL.no V V ?_
    refine ⟨fun h=>absurd h (by decide),?_⟩
    refine TG.fork 5 [10,11,12,13,14,15] [10,11] V V (by decide) (by decide) (TA.cons V ?_ (TA.cons V ?_ TA.nil))
    ·refine WL.no V V ?_
     refine ⟨fun h=>absurd h (by decide),?_⟩
     refine TG.fork 4 [11,12,13,14,15] [11] V V (by decide) (by decide) (TA.cons V ?_ TA.nil)
     refine WL.no V V ?_
     refine ⟨fun h=>absurd h (by decide),?_⟩
     refine TG.fork 3 [12,13,14,15] [12] V V (by decide) (by decide) (TA.cons V ?_ TA.nil)
     refine WL.no V V ?_
     refine ⟨fun h=>absurd h (by decide),?_⟩
     refine TG.fork 2 [13,14,15] [13] V V (by decide) (by decide) (TA.cons V ?_ TA.nil)
     refine WL.no V V ?_
     refine ⟨fun h=>absurd h (by decide),?_⟩
     refine TG.quiet 1 [14,15] 14 V V V V V (by decide) (fun w9 K9 k9=>ZgV V V k9) ?_
     refine TG.quiet 0 [15] 15 V V V V V (by decide) (fun w9 K9 k9=>WL.assign V k9) ?_
     refine TG.fin V ?_
     exact RT S11 V ⟨(congrArg Value.bool (by exact (Zg0 ⟨by omega,by omega,by omega,by omega,by omega⟩ ‹_› ‹_›).1)),(S11.lentAt 1 V).cast (by exact congrArg (fun v=>[Value.int .i64 v]) (Zg0 ⟨by omega,by omega,by omega,by omega,by omega⟩ ‹_› ‹_›).2)⟩
    refine WL.no V V ?_
    refine ⟨fun h=>absurd h (by decide),?_⟩
    refine TG.fork 4 [10,12,13,14,15] [10] V V (by decide) (by decide) (TA.cons V ?_ TA.nil)
    refine WL.no V V ?_
    refine ⟨fun h=>absurd h (by decide),?_⟩
    refine TG.fork 3 [12,13,14,15] [12] V V (by decide) (by decide) (TA.cons V ?_ TA.nil)
    refine WL.no V V ?_
    refine ⟨fun h=>absurd h (by decide),?_⟩
    refine TG.fork 2 [13,14,15] [13] V V (by decide) (by decide) (TA.cons V ?_ TA.nil)
    refine WL.no V V ?_
    refine ⟨fun h=>absurd h (by decide),?_⟩
    refine TG.quiet 1 [14,15] 14 V V V V V (by decide) (fun w9 K9 k9=>ZgV V V k9) ?_
    refine TG.quiet 0 [15] 15 V V V V V (by decide) (fun w9 K9 k9=>WL.assign V k9) ?_
    refine TG.fin V ?_
    exact RT S11 V ⟨(congrArg Value.bool (by exact (Zg0 ⟨by omega,by omega,by omega,by omega,by omega⟩ ‹_› ‹_›).1)),(S11.lentAt 1 V).cast (by exact congrArg (fun v=>[Value.int .i64 v]) (Zg0 ⟨by omega,by omega,by omega,by omega,by omega⟩ ‹_› ‹_›).2)⟩
   refine WL.no V V ?_
   refine ⟨fun h=>absurd h (by decide),?_⟩
   refine TG.fork 5 [9,10,12,13,14,15] [9] V V (by decide) (by decide) (TA.cons V ?_ TA.nil)
   refine WL.no V V ?_
   refine ⟨fun h=>absurd h (by decide),?_⟩
   refine TG.fork 4 [10,12,13,14,15] [10] V V (by decide) (by decide) (TA.cons V ?_ TA.nil)
   refine WL.no V V ?_
   refine ⟨fun h=>absurd h (by decide),?_⟩
   refine TG.fork 3 [12,13,14,15] [12] V V (by decide) (by decide) (TA.cons V ?_ TA.nil)
   refine WL.no V V ?_
   refine ⟨fun h=>absurd h (by decide),?_⟩
   refine TG.fork 2 [13,14,15] [13] V V (by decide) (by decide) (TA.cons V ?_ TA.nil)
   refine WL.no V V ?_
   refine ⟨fun h=>absurd h (by decide),?_⟩
   refine TG.quiet 1 [14,15] 14 V V V V V (by decide) (fun w9 K9 k9=>ZgV V V k9) ?_
   refine TG.quiet 0 [15] 15 V V V V V (by decide) (fun w9 K9 k9=>WL.assign V k9) ?_
   refine TG.fin V ?_
   exact RT S11 V ⟨(congrArg Value.bool (by exact (Zg0 ⟨by omega,by omega,by omega,by omega,by omega⟩ ‹_› ‹_›).1)),(S11.lentAt 1 V).cast (by exact congrArg (fun v=>[Value.int .i64 v]) (Zg0 ⟨by omega,by omega,by omega,by omega,by omega⟩ ‹_› ‹_›).2)⟩
  refine ⟨fun h=>absurd h (by decide),?_⟩
  refine TG.quiet 8 [7,8,9,10,11,12,13,14,15] 7 V V V V V (by decide) (fun w9 K9 k9=>WL.not false V V k9) ?_
  refine TG.quiet 7 [8,9,10,11,12,13,14,15] 8 V V V V V (by decide) (fun w9 K9 k9=>WL.move V k9) ?_
  refine TG.quiet 6 [9,10,11,12,13,14,15] 9 V V V V V (by decide) (fun w9 K9 k9=>WL.fieldAddr _ 15 _ ZfZ V V V k9) ?_
  refine TG.quiet 5 [10,11,12,13,14,15] 11 V V V V V (by decide) (fun w9 K9 k9=>WL.makeFunc _ V V k9) ?_
  refine TG.fork 4 [10,12,13,14,15] [10] V V (by decide) (by decide) (TA.cons V ?_ TA.nil)
  refine Z S11 (Xh.drop 15 (C1.mono (((j3.trans L5).trans L6).trans L7))) Yu V V V ?_
  refine ⟨fun h=>absurd h (by decide),?_⟩
  refine TG.fork 3 [12,13,14,15] [12] V V (by decide) (by decide) (TA.cons V ?_ TA.nil)
  refine Zax YO V V V (ZuW S11.imm n q.l dep ((Y8 (n + 1) q.cond 0 (u - 1)).2) ih _ (S11.lentAt 1 V) _ (A4.mono (((j4.trans L5).trans L6).trans L7)) _ (C2.mono ((((L3.trans L4).trans L5).trans L6).trans L7)) _ (C3.mono (((L4.trans L5).trans L6).trans L7)) (by omega) hb7 (fun x hx=>XN hn hx)) (fun w11 G9 r3 hres3 ⟨P3,hlc2⟩=>?_)
  have S12 : St w [pb] G G9 [none,some (pb,(nat_lit 3),[U ((YM (fun x i=>YW n x (dep + 1) i) q.l ((Y8 (n + 1) q.cond 0 (u - 1)).2)).2)])] w11:=S11.callX 1 V [U ((YM (fun x i=>YW n x (dep + 1) i) q.l ((Y8 (n + 1) q.cond 0 (u - 1)).2)).2)] hres3 (hlc2 _ V).1
  have L9:=hres3.le
  subst P3
  refine ⟨fun h=>absurd h (by decide),?_⟩
  refine TG.quiet 2 [13,14,15] 13 V V V V V (by decide) (fun w9 K9 k9=>WL.not (!(YM (fun x i=>YW n x (dep + 1) i) q.l ((Y8 (n + 1) q.cond 0 (u - 1)).2)).1) V V k9) ?_
  refine TG.quiet 1 [14,15] 14 V V V V V (by decide) (fun w9 K9 k9=>WL.pickT V V k9) ?_
  refine TG.quiet 0 [15] 15 V V V V V (by decide) (fun w9 K9 k9=>WL.assign V k9) ?_
  refine TG.fin V ?_
  exact RT S12 V ⟨(congrArg Value.bool (by (rw [Bool.not_not]; exact congrArg Prod.fst (ZmO ⟨by omega,by omega,by omega,by omega,by omega⟩ ‹_› ‹_›)))),(S12.lentAt 1 V).cast (by exact congrArg (fun v=>[Value.int .i64 v]) (congrArg Prod.snd (ZmO ⟨by omega,by omega,by omega,by omega,by omega⟩ ‹_› ‹_›)))⟩
 exact RT S5 V ⟨(congrArg Value.bool (by exact (ZsP ⟨by omega,by omega,by omega,by omega,by omega⟩ ‹_›).1)),(S5.lentAt 0 V).cast (by exact congrArg (fun v=>[Value.int .i64 v]) (ZsP ⟨by omega,by omega,by omega,by omega,by omega⟩ ‹_›).2)⟩
end Go.Civ
set_option linter.unusedVariables false
set_option linter.unusedSimpArgs false
set_option maxRecDepth 100000
set_option maxHeartbeats 4000000
namespace Go.Civ
open Go.Proofs
theorem ZgA {G : GH} {w : World} (hG : G.In w) (p : Pln) (f : List UInt8 → Int) (hg : Glob G) (cp : List Value) (hcp : PlnE.rep G p cp) (vm : Value) (hvm : Zhf Tryz.prog (nat_lit 26) G vm f) : CL Tryz.prog (nat_lit 10) #[.agg cp.toArray,vm] [] w G fun _ _ r=>r = U (Qp f p):=by
 refine Zg ft [] Tryz.func10 V V ?_
 have hS:=St.start (X:=[]) hG
 have T1:=Za8 hcp
 obtain ⟨v1,v2,rfl,A1,A2⟩:=T1
 refine Z4 [v1,v2] _ hS V V V (fun p1 w1 G1 L1 M1 C1 S1=>?_)
 refine Zc S1 C1 [v1,v2] Zat V V V V V ?_
 refine Zl S1 Xg V V V (ZlT S1.imm p (hg.mono L1) _ (QN p (A1.mono L1) (A2.mono L1))) (fun w2 G2 S2 L2=>?_)
 refine WL.split (fun (h1 : (XC p) = true)=>?_) (fun (h1 : (XC p) = false)=>?_)
 ·have hp60:=Zig ‹_›
  refine Z S2 (Xh.drop 0 (C1.mono L2)) QG V V V ?_
  have V1:=A1.bound
  have j1:=(L1.trans L2)
  refine Zm (A1.mono j1) QS V V ?_
  refine Zeh Qr V V V p.steps.length (by omega) S2 V V V (fun v3 o1 w3 R1 S3=>?_)
  refine Z S3 (Xh.drop 0 (C1.mono L2)) QG V V V ?_
  have V2:=A1.bound
  refine Zm (A1.mono j1) QS V V ?_
  refine LP.go ft [] (fun m ρ1 w1=>∃ (k1 : Nat),∃ (ss : Int),∃ (v4 : Value) (o2 : OB),∃ (G3 : GH),m = p.steps.length - k1 ∧ G2.le G3 ∧ St w [] G G3 [o2] w1 ∧ YX Enc.int 8 3 G3 v4 (Zas f p.steps k1) o2 ∧ FR ρ1 [(1,vm),(5,U ss),(6,v4),(20,v1),(21,U (p.steps.length : Int)),(22,U (k1 : Int))] ∧ k1 ≤ p.steps.length ∧ ss = (YF f (p.steps.take k1)).2) _ ⟨0,0,v3,o1,G2,V,(G2.le_refl),S3,(YX.cast R1 (by exact ZwN)),(ZS V),(by omega),(rfl)⟩ ?_
  rintro m ρ1 w4 ⟨k1,ss,v4,o2,G3,rfl,L3,S4,R2,F9,f1,f2⟩
  refine F9.set ?_
  clear F9
  have hel:=Zci (f:=f) (l:=p.steps) (k:=k1) (by omega)
  have hssm : Xs ss:=by rw [show ss = (YF f (p.steps.take k1)).2 by assumption]; exact (Xj k1).2
  have hss64:=Zde hssm
  obtain ⟨hss0,hss1⟩:=hssm
  refine Zp (k1 : Int) (p.steps.length : Int) V V V (fun h2=>?_) (fun h2=>?_)
  ·refine WL.indexAddr (A1.mono (j1.trans L3)) k1 (by omega) QS XQ V V V V (fun p2 x1 U1 E1=>?_)
   obtain ⟨D1,C2,R3⟩:=E1
   have T2:=Q8 R3
   obtain ⟨v5,v6,v7,v9,v10,rfl,B1,B2,A3,A4,Z7,Z5,ZD,hb6,hb7,ZV,A5,hb9,ZI,ZJ,ZL,A6,Y0,Y6,A7,YA,Y9⟩:=T2
   refine Zc S4 C2 (SV x1.q v5 v6 v7 v9 (U x1.a) (U x1.b) v10 (U x1.span.a) (U x1.span.b)) XQ V V V V V ?_
   refine WL.alloc S4 XQ V V (fun b1 w5 N1 S5=>?_)
   refine WL.store S5 0 _ _ _ 0 _ (SV x1.q v5 v6 v7 v9 (U x1.a) (U x1.b) v10 (U x1.span.a) (U x1.span.b)) (SV x1.q v5 v6 v7 v9 (U x1.a) (U x1.b) v10 (U x1.span.a) (U x1.span.b)) _ V V XQ V (ZZ V) (by simp only [YE,A3.oneC,A4.oneC,A5.oneC,A6.oneC,A7.oneC] <;> rfl) V V V V V (fun w6 S6=>?_)
   have T3:=S6.shutB N1
   obtain ⟨G4,L4,C3,S7⟩:=T3
   have T4:=Ze9 (Zdx ‹_› (by assumption : p.steps[k1]? = some x1))
   obtain ⟨hiA,hiB,hiC,hiD⟩:=T4
   refine Z S7 (Xh.drop 16 C3) Zk V V V ?_
   refine ZM x1.a 0 V V V (fun h3=>?_) (fun h3=>?_)
   ·refine Z S7 (Xh.drop 16 C3) Zk V V V ?_
    refine Yh (R2.mono L4) ((x1.a).toNat) (by omega) Xz Zk V V V (congrArg (Value.int .i64) (Int.toNat_of_nonneg (by omega)).symm) (fun p3 x2 ec1 U2 R4 ra1=>?_)
    obtain ⟨rfl,Yr⟩:=R4
    refine X4 ra1 S7 0 V _ V Zk V V V <| Z S7 (Xh.drop 17 C3) Zk V V V ?_
    refine ZM x1.b 0 V V V (fun h4=>?_) (fun h4=>?_)
    ·refine Z S7 (Xh.drop 17 C3) Zk V V V ?_
     refine Yh (R2.mono L4) ((x1.b).toNat) (by omega) Xz Zk V V V (congrArg (Value.int .i64) (Int.toNat_of_nonneg (by omega)).symm) (fun p4 x3 ec2 U3 R5 ra2=>?_)
     obtain ⟨rfl,YH⟩:=R5
     refine X4 ra2 S7 0 V _ V Zk V V V ?_
     have hva : x2 = YI (YF f (p.steps.take k1)).1 x1.a:=by exact ZiF (by omega) (by omega) (by omega) ‹_›
     have hma : Xs x2:=by rw [hva]; exact Qe (Xj k1).1
     obtain ⟨hma0,hma1⟩:=hma
     have hvb : x3 = YI (YF f (p.steps.take k1)).1 x1.b:=by exact ZiF (by omega) (by omega) (by omega) ‹_›
     have hmb : Xs x3:=by rw [hvb]; exact Qe (Xj k1).1
     obtain ⟨hmb0,hmb1⟩:=hmb
     refine Z S7 (Xh.drop 0 (Xh.drop 0 C3)) Zk V V V ?_
     refine Ze x1.q.kind 1 V V V (fun h5=>?_) (fun h5=>?_)
     ·exfalso; omega
     refine Ze x1.q.kind 2 V V V (fun h6=>?_) (fun h6=>?_)
     ·exfalso; omega
     refine Ze x1.q.kind 5 V V V (fun h7=>?_) (fun h7=>?_)
     ·refine ZbN x2 x3 V V V <| Z S7 (Xh.drop 18 C3) QX V V V ?_
      have V3:=A7.bound
      refine Zm (A7.mono L4) QM V V ?_
      refine Ze (x1.keys.length : Int) 0 V V V (fun h8=>?_) (fun h8=>?_)
      ·refine Zl S7 Q1 V V V (Ziy S7.imm x2 x3 ⟨by omega,by omega⟩ ⟨by omega,by omega⟩) (fun w7 G5 S8 L5=>?_)
       have hee : min (Yv x2 x3) 4398046511104 = YT f (YF f (p.steps.take k1)).1 x1:=by exact ZyE ‹_› ‹_› (Xj k1).1 hva hvb
       have hmi : Xs (min (Yv x2 x3) 4398046511104):=by rw [hee]; exact QB (Xj k1).1
       obtain ⟨hmi0,hmi1⟩:=hmi
       refine YR (Yv x2 x3) 4398046511104 V V V ?_
       have j2:=(L4.trans L5)
       refine Yh (R2.mono j2) k1 (by omega) Xz Zk V V V V (fun p5 x4 ec3 U4 R6 ra3=>?_)
       obtain ⟨rfl,YJ⟩:=R6
       refine XJ (R2.mono j2) ra3 S8 0 V (by omega) V 0 _ [U (min (Yv x2 x3) 4398046511104)] (min (Yv x2 x3) 4398046511104) [U (min (Yv x2 x3) 4398046511104)] V Zk V (ZZ V) V V ⟨V,(Zbj (Zl9 x2 x3 (by exact ⟨by omega,by omega⟩) (by exact ⟨by omega,by omega⟩)) (show Zj 4398046511104 from by constructor <;> decide))⟩ V V V V (fun o3 w9 R7 S9=>?_)
       have hrr1:=YX.cast (l':=Zas f p.steps (k1 + 1)) R7 (by exact ZcH (by assumption : p.steps[k1]? = some x1) hee)
       have hel2:=Zci (f:=f) (l:=p.steps) (k:=k1 + 1) (by omega)
       refine Yh hrr1 k1 (by omega) Xz Zk V V V V (fun p6 x5 ec4 U5 R8 ra4=>?_)
       obtain ⟨rfl,YO⟩:=R8
       refine X4 ra4 S9 0 V _ V Zk V V V ?_
       have hi1 : Zj (ss + x5):=by (try have U9:=ZbB ‹_› ‹_›); have:=hss64.1; have:=hss64.2; have:=YO.1; have:=YO.2; constructor <;> omega
       refine WL.ar .add V ss x5 V V V hi1 <| YR (ss + x5) 4398046511104 V V V ?_
       refine Zq k1 (by have:=Zb; omega) V V V ?_
       exact BK.mk' _ ⟨k1 + 1,(min (ss + x5) 4398046511104),v4,o3,G5,V,(L3.trans j2),S9,(YX.cast hrr1 (by rfl)),(ZS V),(by omega),(by exact Za0 ‹_› ‹_› (Zcj ‹_› ‹_›))⟩ (show p.steps.length - (k1 + 1) < p.steps.length - k1 by omega)
      have hee : min (max x2 x3) 4398046511104 = YT f (YF f (p.steps.take k1)).1 x1:=by exact ZyF ‹_› ‹_› (Xj k1).1 hva hvb
      have hmi : Xs (min (max x2 x3) 4398046511104):=by rw [hee]; exact QB (Xj k1).1
      obtain ⟨hmi0,hmi1⟩:=hmi
      refine YR (max x2 x3) 4398046511104 V V V ?_
      refine Yh (R2.mono L4) k1 (by omega) Xz Zk V V V V (fun p7 x6 ec5 U6 R9 ra5=>?_)
      obtain ⟨rfl,Xf⟩:=R9
      refine XJ (R2.mono L4) ra5 S7 0 V (by omega) V 0 _ [U (min (max x2 x3) 4398046511104)] (min (max x2 x3) 4398046511104) [U (min (max x2 x3) 4398046511104)] V Zk V (ZZ V) V V ⟨V,(Zbj (Ziz Yr YH) (show Zj 4398046511104 from by constructor <;> decide))⟩ V V V V (fun o4 w10 R10 S10=>?_)
      have hrr2:=YX.cast (l':=Zas f p.steps (k1 + 1)) R10 (by exact ZcH (by assumption : p.steps[k1]? = some x1) hee)
      have hel2:=Zci (f:=f) (l:=p.steps) (k:=k1 + 1) (by omega)
      refine Yh hrr2 k1 (by omega) Xz Zk V V V V (fun p8 x7 ec6 U7 R11 ra6=>?_)
      obtain ⟨rfl,YK⟩:=R11
      refine X4 ra6 S10 0 V _ V Zk V V V ?_
      have hi2 : Zj (ss + x7):=by (try have U9:=ZbB ‹_› ‹_›); have:=hss64.1; have:=hss64.2; have:=YK.1; have:=YK.2; constructor <;> omega
      refine WL.ar .add V ss x7 V V V hi2 <| YR (ss + x7) 4398046511104 V V V ?_
      refine Zq k1 (by have:=Zb; omega) V V V ?_
      exact BK.mk' _ ⟨k1 + 1,(min (ss + x7) 4398046511104),v4,o4,G4,V,(L3.trans L4),S10,(YX.cast hrr2 (by rfl)),(ZS V),(by omega),(by exact Za0 ‹_› ‹_› (Zcj ‹_› ‹_›))⟩ (show p.steps.length - (k1 + 1) < p.steps.length - k1 by omega)
     refine Ze x1.q.kind 6 V V V (fun h9=>?_) (fun h9=>?_)
     ·have hi3 : Zj (x2 + x3):=by (try have U9:=ZbB ‹_› ‹_›); have:=Yr.1; have:=Yr.2; have:=YH.1; have:=YH.2; constructor <;> omega
      refine WL.ar .add V x2 x3 V V V hi3 ?_
      have hee : min (x2 + x3) 4398046511104 = YT f (YF f (p.steps.take k1)).1 x1:=by exact ZwS ‹_› hva hvb
      have hmi : Xs (min (x2 + x3) 4398046511104):=by rw [hee]; exact QB (Xj k1).1
      obtain ⟨hmi0,hmi1⟩:=hmi
      refine YR (x2 + x3) 4398046511104 V V V ?_
      refine Yh (R2.mono L4) k1 (by omega) Xz Zk V V V V (fun p9 x9 ec7 U8 R12 ra7=>?_)
      obtain ⟨rfl,Xc⟩:=R12
      refine XJ (R2.mono L4) ra7 S7 0 V (by omega) V 0 _ [U (min (x2 + x3) 4398046511104)] (min (x2 + x3) 4398046511104) [U (min (x2 + x3) 4398046511104)] V Zk V (ZZ V) V V ⟨V,(Zbj hi3 (show Zj 4398046511104 from by constructor <;> decide))⟩ V V V V (fun o5 w11 R13 S11=>?_)
      have hrr3:=YX.cast (l':=Zas f p.steps (k1 + 1)) R13 (by exact ZcH (by assumption : p.steps[k1]? = some x1) hee)
      have hel2:=Zci (f:=f) (l:=p.steps) (k:=k1 + 1) (by omega)
      refine Yh hrr3 k1 (by omega) Xz Zk V V V V (fun p10 x10 ec8 U9 R14 ra8=>?_)
      obtain ⟨rfl,XR⟩:=R14
      refine X4 ra8 S11 0 V _ V Zk V V V ?_
      have hi4 : Zj (ss + x10):=by (try have U9:=ZbB ‹_› ‹_›); have:=hss64.1; have:=hss64.2; have:=XR.1; have:=XR.2; constructor <;> omega
      refine WL.ar .add V ss x10 V V V hi4 <| YR (ss + x10) 4398046511104 V V V ?_
      refine Zq k1 (by have:=Zb; omega) V V V ?_
      exact BK.mk' _ ⟨k1 + 1,(min (ss + x10) 4398046511104),v4,o5,G4,V,(L3.trans L4),S11,(YX.cast hrr3 (by rfl)),(ZS V),(by omega),(by exact Za0 ‹_› ‹_› (Zcj ‹_› ‹_›))⟩ (show p.steps.length - (k1 + 1) < p.steps.length - k1 by omega)
     refine Ze x1.q.kind 10 V V V (fun h10=>?_) (fun h10=>?_)
     ·refine Zl S7 Q1 V V V (Ziy S7.imm x2 x3 ⟨by omega,by omega⟩ ⟨by omega,by omega⟩) (fun w12 G6 S12 L6=>?_)
      have hee : min (Yv x2 x3) 4398046511104 = YT f (YF f (p.steps.take k1)).1 x1:=by exact ZyG ‹_› (Xj k1).1 hva hvb
      have hmi : Xs (min (Yv x2 x3) 4398046511104):=by rw [hee]; exact QB (Xj k1).1
      obtain ⟨hmi0,hmi1⟩:=hmi
      refine YR (Yv x2 x3) 4398046511104 V V V ?_
      have j3:=(L4.trans L6)
      refine Yh (R2.mono j3) k1 (by omega) Xz Zk V V V V (fun p11 x11 ec9 U10 R15 ra9=>?_)
      obtain ⟨rfl,Qa⟩:=R15
      refine XJ (R2.mono j3) ra9 S12 0 V (by omega) V 0 _ [U (min (Yv x2 x3) 4398046511104)] (min (Yv x2 x3) 4398046511104) [U (min (Yv x2 x3) 4398046511104)] V Zk V (ZZ V) V V ⟨V,(Zbj (Zl9 x2 x3 (by exact ⟨by omega,by omega⟩) (by exact ⟨by omega,by omega⟩)) (show Zj 4398046511104 from by constructor <;> decide))⟩ V V V V (fun o6 w13 R16 S13=>?_)
      have hrr4:=YX.cast (l':=Zas f p.steps (k1 + 1)) R16 (by exact ZcH (by assumption : p.steps[k1]? = some x1) hee)
      have hel2:=Zci (f:=f) (l:=p.steps) (k:=k1 + 1) (by omega)
      refine Yh hrr4 k1 (by omega) Xz Zk V V V V (fun p12 x12 ec10 U11 R17 ra10=>?_)
      obtain ⟨rfl,Qh⟩:=R17
      refine X4 ra10 S13 0 V _ V Zk V V V ?_
      have hi5 : Zj (ss + x12):=by (try have U9:=ZbB ‹_› ‹_›); have:=hss64.1; have:=hss64.2; have:=Qh.1; have:=Qh.2; constructor <;> omega
      refine WL.ar .add V ss x12 V V V hi5 <| YR (ss + x12) 4398046511104 V V V ?_
      refine Zq k1 (by have:=Zb; omega) V V V ?_
      exact BK.mk' _ ⟨k1 + 1,(min (ss + x12) 4398046511104),v4,o6,G6,V,(L3.trans j3),S13,(YX.cast hrr4 (by rfl)),(ZS V),(by omega),(by exact Za0 ‹_› ‹_› (Zcj ‹_› ‹_›))⟩ (show p.steps.length - (k1 + 1) < p.steps.length - k1 by omega)
     have hee : min x2 4398046511104 = YT f (YF f (p.steps.take k1)).1 x1:=by exact ZwR ‹_› ‹_› ‹_› ‹_› ‹_› (Xj k1).1 hva
     have hmi : Xs (min x2 4398046511104):=by rw [hee]; exact QB (Xj k1).1
     obtain ⟨hmi0,hmi1⟩:=hmi
     refine YR x2 4398046511104 V V V ?_
     refine Yh (R2.mono L4) k1 (by omega) Xz Zk V V V V (fun p13 x13 ec11 U12 R18 ra11=>?_)
     obtain ⟨rfl,Q0⟩:=R18
     refine XJ (R2.mono L4) ra11 S7 0 V (by omega) V 0 _ [U (min x2 4398046511104)] (min x2 4398046511104) [U (min x2 4398046511104)] V Zk V (ZZ V) V V ⟨V,(Zbj Yr (show Zj 4398046511104 from by constructor <;> decide))⟩ V V V V (fun o7 w14 R19 S14=>?_)
     have hrr5:=YX.cast (l':=Zas f p.steps (k1 + 1)) R19 (by exact ZcH (by assumption : p.steps[k1]? = some x1) hee)
     have hel2:=Zci (f:=f) (l:=p.steps) (k:=k1 + 1) (by omega)
     refine Yh hrr5 k1 (by omega) Xz Zk V V V V (fun p14 x14 ec12 U13 R20 ra12=>?_)
     obtain ⟨rfl,Qs⟩:=R20
     refine X4 ra12 S14 0 V _ V Zk V V V ?_
     have hi6 : Zj (ss + x14):=by (try have U9:=ZbB ‹_› ‹_›); have:=hss64.1; have:=hss64.2; have:=Qs.1; have:=Qs.2; constructor <;> omega
     refine WL.ar .add V ss x14 V V V hi6 <| YR (ss + x14) 4398046511104 V V V ?_
     refine Zq k1 (by have:=Zb; omega) V V V ?_
     exact BK.mk' _ ⟨k1 + 1,(min (ss + x14) 4398046511104),v4,o7,G4,V,(L3.trans L4),S14,(YX.cast hrr5 (by rfl)),(ZS V),(by omega),(by exact Za0 ‹_› ‹_› (Zcj ‹_› ‹_›))⟩ (show p.steps.length - (k1 + 1) < p.steps.length - k1 by omega)
    have hva : x2 = YI (YF f (p.steps.take k1)).1 x1.a:=by exact ZiF (by omega) (by omega) (by omega) ‹_›
    have hma : Xs x2:=by rw [hva]; exact Qe (Xj k1).1
    obtain ⟨hma0,hma1⟩:=hma
    have hvb : 0 = YI (YF f (p.steps.take k1)).1 x1.b:=by exact Ze8 (by omega)
    have hmb : Xs 0:=by rw [hvb]; exact Qe (Xj k1).1
    obtain ⟨hmb0,hmb1⟩:=hmb
    refine Z S7 (Xh.drop 0 (Xh.drop 0 C3)) Zk V V V ?_
    refine Ze x1.q.kind 1 V V V (fun h11=>?_) (fun h11=>?_)
    ·exfalso; omega
    refine Ze x1.q.kind 2 V V V (fun h12=>?_) (fun h12=>?_)
    ·have hi7 : Zj (x2 + 1):=by (try have U9:=ZbB ‹_› ‹_›); have:=Yr.1; have:=Yr.2; constructor <;> omega
     refine WL.ar .add V x2 1 V V V hi7 ?_
     refine YZ (x2 + 1) 2 (by omega) (by omega) hi7 V V V ?_
     have hee : min ((x2 + 1) / 2) 4398046511104 = YT f (YF f (p.steps.take k1)).1 x1:=by exact Z0Y ‹_› (Xj k1).1 hva
     have hmi : Xs (min ((x2 + 1) / 2) 4398046511104):=by rw [hee]; exact QB (Xj k1).1
     obtain ⟨hmi0,hmi1⟩:=hmi
     refine YR ((x2 + 1) / 2) 4398046511104 V V V ?_
     refine Yh (R2.mono L4) k1 (by omega) Xz Zk V V V V (fun p15 x15 ec13 U14 R21 ra13=>?_)
     obtain ⟨rfl,Qb⟩:=R21
     refine XJ (R2.mono L4) ra13 S7 0 V (by omega) V 0 _ [U (min ((x2 + 1) / 2) 4398046511104)] (min ((x2 + 1) / 2) 4398046511104) [U (min ((x2 + 1) / 2) 4398046511104)] V Zk V (ZZ V) V V ⟨V,(Zbj (show Zj ((x2 + 1) / 2) from by constructor <;> omega) (show Zj 4398046511104 from by constructor <;> decide))⟩ V V V V (fun o8 w15 R22 S15=>?_)
     have hrr6:=YX.cast (l':=Zas f p.steps (k1 + 1)) R22 (by exact ZcH (by assumption : p.steps[k1]? = some x1) hee)
     have hel2:=Zci (f:=f) (l:=p.steps) (k:=k1 + 1) (by omega)
     refine Yh hrr6 k1 (by omega) Xz Zk V V V V (fun p16 x16 ec14 U15 R23 ra14=>?_)
     obtain ⟨rfl,Xw⟩:=R23
     refine X4 ra14 S15 0 V _ V Zk V V V ?_
     have hi8 : Zj (ss + x16):=by (try have U9:=ZbB ‹_› ‹_›); have:=hss64.1; have:=hss64.2; have:=Xw.1; have:=Xw.2; constructor <;> omega
     refine WL.ar .add V ss x16 V V V hi8 <| YR (ss + x16) 4398046511104 V V V ?_
     refine Zq k1 (by have:=Zb; omega) V V V ?_
     exact BK.mk' _ ⟨k1 + 1,(min (ss + x16) 4398046511104),v4,o8,G4,V,(L3.trans L4),S15,(YX.cast hrr6 (by rfl)),(ZS V),(by omega),(by exact Za0 ‹_› ‹_› (Zcj ‹_› ‹_›))⟩ (show p.steps.length - (k1 + 1) < p.steps.length - k1 by omega)
    refine Ze x1.q.kind 5 V V V (fun h13=>?_) (fun h13=>?_)
    ·exfalso; omega
    refine Ze x1.q.kind 6 V V V (fun h14=>?_) (fun h14=>?_)
    ·exfalso; omega
    refine Ze x1.q.kind 10 V V V (fun h15=>?_) (fun h15=>?_)
    ·exfalso; omega
    have hee : min x2 4398046511104 = YT f (YF f (p.steps.take k1)).1 x1:=by exact ZwR ‹_› ‹_› ‹_› ‹_› ‹_› (Xj k1).1 hva
    have hmi : Xs (min x2 4398046511104):=by rw [hee]; exact QB (Xj k1).1
    obtain ⟨hmi0,hmi1⟩:=hmi
    refine YR x2 4398046511104 V V V ?_
    refine Yh (R2.mono L4) k1 (by omega) Xz Zk V V V V (fun p17 x17 ec15 U16 R24 ra15=>?_)
    obtain ⟨rfl,Qt⟩:=R24
    refine XJ (R2.mono L4) ra15 S7 0 V (by omega) V 0 _ [U (min x2 4398046511104)] (min x2 4398046511104) [U (min x2 4398046511104)] V Zk V (ZZ V) V V ⟨V,(Zbj Yr (show Zj 4398046511104 from by constructor <;> decide))⟩ V V V V (fun o9 w16 R25 S16=>?_)
    have hrr7:=YX.cast (l':=Zas f p.steps (k1 + 1)) R25 (by exact ZcH (by assumption : p.steps[k1]? = some x1) hee)
    have hel2:=Zci (f:=f) (l:=p.steps) (k:=k1 + 1) (by omega)
    refine Yh hrr7 k1 (by omega) Xz Zk V V V V (fun p18 x18 ec16 U17 R26 ra16=>?_)
    obtain ⟨rfl,XS⟩:=R26
    refine X4 ra16 S16 0 V _ V Zk V V V ?_
    have hi9 : Zj (ss + x18):=by (try have U9:=ZbB ‹_› ‹_›); have:=hss64.1; have:=hss64.2; have:=XS.1; have:=XS.2; constructor <;> omega
    refine WL.ar .add V ss x18 V V V hi9 <| YR (ss + x18) 4398046511104 V V V ?_
    refine Zq k1 (by have:=Zb; omega) V V V ?_
    exact BK.mk' _ ⟨k1 + 1,(min (ss + x18) 4398046511104),v4,o9,G4,V,(L3.trans L4),S16,(YX.cast hrr7 (by rfl)),(ZS V),(by omega),(by exact Za0 ‹_› ‹_› (Zcj ‹_› ‹_›))⟩ (show p.steps.length - (k1 + 1) < p.steps.length - k1 by omega)
   refine Z S7 (Xh.drop 17 C3) Zk V V V ?_
   refine ZM x1.b 0 V V V (fun h16=>?_) (fun h16=>?_)
   ·omega
   have hva : 0 = YI (YF f (p.steps.take k1)).1 x1.a:=by exact Ze8 (by omega)
   have hma : Xs 0:=by rw [hva]; exact Qe (Xj k1).1
   obtain ⟨hma0,hma1⟩:=hma
   have hvb : 0 = YI (YF f (p.steps.take k1)).1 x1.b:=by exact Ze8 (by omega)
   have hmb : Xs 0:=by rw [hvb]; exact Qe (Xj k1).1
   obtain ⟨hmb0,hmb1⟩:=hmb
   refine Z S7 (Xh.drop 0 (Xh.drop 0 C3)) Zk V V V ?_
   refine Ze x1.q.kind 1 V V V (fun h17=>?_) (fun h17=>?_)
   ·refine Z S7 (Xh.drop 1 (Xh.drop 0 C3)) Zv V V V ?_
    refine ZhP x1.q.table (hvm.mono ((j1.trans L3).trans L4)) S7 B2 V V V (fun hi10=>?_)
    refine ZbN (f x1.q.table) 0 V V V ?_
    have hee : min (max (f x1.q.table) 0) 4398046511104 = YT f (YF f (p.steps.take k1)).1 x1:=by exact ZwO ‹_›
    have hmi : Xs (min (max (f x1.q.table) 0) 4398046511104):=by rw [hee]; exact QB (Xj k1).1
    obtain ⟨hmi0,hmi1⟩:=hmi
    refine YR (max (f x1.q.table) 0) 4398046511104 V V V ?_
    refine Yh (R2.mono L4) k1 (by omega) Xz Zk V V V V (fun p19 x19 ec17 U18 R27 ra17=>?_)
    obtain ⟨rfl,Qc⟩:=R27
    refine XJ (R2.mono L4) ra17 S7 0 V (by omega) V 0 _ [U (min (max (f x1.q.table) 0) 4398046511104)] (min (max (f x1.q.table) 0) 4398046511104) [U (min (max (f x1.q.table) 0) 4398046511104)] V Zk V (ZZ V) V V ⟨V,(Zbj (Ziz hi10 (show Zj 0 from by constructor <;> decide)) (show Zj 4398046511104 from by constructor <;> decide))⟩ V V V V (fun o10 w17 R28 S17=>?_)
    have hrr8:=YX.cast (l':=Zas f p.steps (k1 + 1)) R28 (by exact ZcH (by assumption : p.steps[k1]? = some x1) hee)
    have hel2:=Zci (f:=f) (l:=p.steps) (k:=k1 + 1) (by omega)
    refine Yh hrr8 k1 (by omega) Xz Zk V V V V (fun p20 x20 ec18 U19 R29 ra18=>?_)
    obtain ⟨rfl,Qu⟩:=R29
    refine X4 ra18 S17 0 V _ V Zk V V V ?_
    have hi11 : Zj (ss + x20):=by (try have U9:=ZbB ‹_› ‹_›); have:=hss64.1; have:=hss64.2; have:=Qu.1; have:=Qu.2; constructor <;> omega
    refine WL.ar .add V ss x20 V V V hi11 <| YR (ss + x20) 4398046511104 V V V ?_
    refine Zq k1 (by have:=Zb; omega) V V V ?_
    exact BK.mk' _ ⟨k1 + 1,(min (ss + x20) 4398046511104),v4,o10,G4,V,(L3.trans L4),S17,(YX.cast hrr8 (by rfl)),(ZS V),(by omega),(by exact Za0 ‹_› ‹_› (Zcj ‹_› ‹_›))⟩ (show p.steps.length - (k1 + 1) < p.steps.length - k1 by omega)
   exfalso; omega
  exact RI S4 V (by exact (ZsX ‹_› (by omega)).trans (ZwU ‹_›))
 exact RI S2 V (by exact ZwT ‹_›)
end Go.Civ
