/- Lemmas. -/
import Derived.Test.YtcopkjhdncdnmaaGreatDoorP41
set_option linter.unusedVariables false
set_option linter.unusedSimpArgs false
set_option maxRecDepth 100000
set_option maxHeartbeats 4000000
namespace Go.Civ
open Go.Proofs
theorem ZrG {G : GH} {w : World} (hG : G.In w) (x : Col) (nm : List UInt8) (z1 : Int) (cx : List Value) (hcx : ColE.rep G x cx) (pn : Addr) (hpn : YC G pn [Zb nm,U z1]) : CL Tryz.prog (nat_lit 163) #[.agg cx.toArray,Zu pn] [] w G fun _ _ r=>r = .bool (decide (x.name = nm)):=by
 refine Zo ft [] Tryz.func163 V V ?_
 have hS:=St.start (X:=[]) hG
 obtain ⟨rfl,B1,B2⟩:=Yh hcx
 refine ZL [Zb x.name,U x.kind] _ hS V V V (fun p1 w1 G1 L1 M1 C1 S1=>?_)
 refine Za S1 (YC.drop 0 C1) Zy V V V <| Za S1 (YC.drop 0 (hpn.mono L1)) Zy V V V <| Zn .eql V x.name nm V V V ?_
 exact RB S1 V (by simp [SCmp.b])
theorem ZsC (n : Nat) : ∀ {w0 : World} {G0 G : GH} {w : World} {R : Own} (q : Query) (sp : Span) (sm : Bool) (l : List Schema) (acc : List Stp) (bb : Nat) (vl vo : Value) (ro : OB) (hvl : Sl SchemaE 72 G vl l) (hvo : YH ZeK 280 (nat_lit 56) G vo acc ro) (hS : St w0 [] G0 G (some (bb,(nat_lit 134),[vl,vo]) :: ro :: R) w) (hg : Glob G) (cq : List Value) (hcq : QryE.rep G q cq) (cp : List Value) (hcp : SpanE.rep G sp cp) (hn : Xx q n) (hok : okQ n q) (hle : acc.length + (ZF l n q sp sm acc.length).length ≤ 1000000),Calls Tryz.prog (nat_lit 78) #[.pointer (some ⟨bb,0,none⟩), .agg cq.toArray, .agg cp.toArray, .bool sm] w fun e9 w9=>∃ (G9 : GH) (v9 : Value) (o9 : OB),e9 = .returned (U (((acc ++ (ZF l n q sp sm acc.length)).length - 1 : Nat) : Int)) ∧ G.le G9 ∧ St w0 [] G0 G9 (some (bb,(nat_lit 134),[vl,v9]) :: o9 :: R) w9 ∧ YH ZeK 280 (nat_lit 56) G9 v9 (acc ++ (ZF l n q sp sm acc.length)) o9:=by
 induction n
 ·intro w0 G0 G w R q sp sm l acc bb vl vo ro hvl hvo hS hg cq hcq cp hcp hn hok hle; exact (hok).elim
 rename_i n ih
 intro w0 G0 G w R q sp sm l acc bb vl vo ro hvl hvo hS hg cq hcq cp hcp hn hok hle
 have hg0:=hg
 obtain ⟨⟨rv,hrc,hrs⟩,hac⟩:=hg0
 have hpl:=Zmc hok
 have har:=ZsA hpl
 have T1:=Ze hcq
 obtain ⟨v1,v2,v3,v4,rfl,B1,B2,A1,A2,B3,B4,B5,B6,B7,ZK,A3,hb9,Z9,Z7,Z6,A4⟩:=T1
 have T2:=Ql hcp
 obtain ⟨rfl,ZV,Yd⟩:=T2
 refine Zkx ft 25 (fun ρ1 w1=>∃ (b9 : Nat),∃ (wA : Value),∃ (wB : Value),∃ (wC : Value),∃ (wD : Value),∃ (aA : Int),∃ (bB : Int),∃ (kv : Value),∃ (ks : List (Int × Int)),∃ (sA : Int),∃ (sB : Int),∃ (vR : Value),∃ (oR9 : OB),∃ (aL : List Stp),∃ (G1 : GH),G.le G1 ∧ St w0 [] G0 G1 (some (b9,56,(SV (ZA q) wA wB wC wD (U aA) (U bB) kv (U sA) (U sB))) :: some (bb,(nat_lit 134),[vl,vR]) :: oR9 :: R) w1 ∧ FR ρ1 [(0, .pointer (some ⟨bb,0,none⟩)),(9, .pointer (some ⟨b9,0,none⟩))] ∧ Sl Enc.str 16 G1 wA (ZA q).cols ∧ Sl Enc.str 16 G1 wB (ZA q).names ∧ Sl CndE 96 G1 wC (ZA q).cond.l ∧ Sl QryE 224 G1 wD (ZA q).l ∧ Sl ZaZ 16 G1 kv ks ∧ YH ZeK 280 (nat_lit 56) G1 vR aL oR9 ∧ aL ++ [Stp.mk (ZA q) aA bB ks (Span.mk sA sB)] = acc ++ (ZF l (n + 1) q sp sm acc.length) ∧ (ZM aA ∧ ZM bB ∧ ZM sA ∧ ZM sB)) Tryz.func78 V V V ?_ ?_
 ·refine ZL (QV q v1 v2 v3 v4) _ hS V V V (fun p1 w2 G2 L2 M1 C1 S2=>?_)
  refine WL.box [U sp.a,U sp.b] _ S2 V V V (fun b1 w3 N1 S3=>?_)
  refine Zc S3 C1 (QV q v1 v2 v3 v4) Zg V V V V V ?_
  refine Zv S3 ZaE V V V (Zib S3.imm q _ (Zd q B1 B2 (A1.mono L2) (A2.mono L2) B3 B4 B5 B6 B7 ZK (A3.mono L2) hb9 Z9 Z7 Z6 (A4.mono L2))) (fun w4 G3 r1 P1 S4 L3=>?_)
  obtain ⟨D1,rfl,R1⟩:=P1
  have T3:=Ze R1
  obtain ⟨v5,v6,v7,v9,rfl,B16,B17,A5,A6,Yf,B19,B20,B21,B22,B23,A7,B24,X6,B26,B27,A8⟩:=T3
  refine Zv S4 Zad V V V (ZeI (Yc (ZA q)) S4.imm (ZA q) _ (Zd (ZA q) B16 B17 A5 A6 Yf B19 B20 B21 B22 B23 A7 B24 X6 B26 B27 A8) (YU _)) (fun w5 G4 r2 P2 S5 L4=>?_)
  obtain ⟨D2,rfl,R2⟩:=P2
  have T4:=Ze R2
  obtain ⟨v10,v11,v12,v13,rfl,B28,B29,A9,A10,B30,B31,B32,B33,XM,B35,A11,B36,B37,B38,Qj,A12⟩:=T4
  refine WL.build _ [(0,(QV (ZA q) v10 v11 v12 v13)),(1,[U (-1)]),(2,[U (-1)])] (SV (ZA q) v10 v11 v12 v13 (U (-1)) (U (-1)) (Zh) (U 0) (U 0)) ZfD V Zti V V V V ?_
  refine WL.alloc S5 ZfD V V (fun b2 w6 N2 S6=>?_)
  refine WL.store S6 0 _ _ _ 0 _ (SV (ZA q) v10 v11 v12 v13 (U (-1)) (U (-1)) (Zh) (U 0) (U 0)) (SV (ZA q) v10 v11 v12 v13 (U (-1)) (U (-1)) (Zh) (U 0) (U 0)) _ V V ZfD V (ZN V) (by simp only [ZW,A9.oneC,A10.oneC,A11.oneC,A12.oneC] <;> rfl) V V V V V (fun w7 S7=>?_)
  have j1:=(L3.trans L4)
  refine Za S7 (YC.drop 0 (C1.mono j1)) Z3 V V V ?_
  refine Zj q.kind 1 V V V (fun h1=>?_) (fun h1=>?_)
  ·refine ZgB (d:=3) V (fun (h2 : sm = true)=>?_) (fun (h2 : sm = false)=>?_)
   ·refine Zs S7 1 _ _ _ 0 [U sp.a,U sp.b] V V V Y7 V V V ?_
    refine WL.store S7 0 _ _ _ 19 _ [U sp.a,U sp.b] (SV (ZA q) v10 v11 v12 v13 (U (-1)) (U (-1)) (Zh) (U sp.a) (U sp.b)) _ V V Y7 V (ZN V) V V V V V V (fun w9 S8=>?_)
    refine Za S8 (YC.drop 15 (C1.mono j1)) ZX V V V ?_
    have V1:=A4.bound
    have j2:=((L2.trans L3).trans L4)
    refine Zl (A4.mono j2) ZS V V ?_
    refine Yk (q.l.length : Int) 0 V V V (fun h3=>?_) (fun h3=>?_)
    ·exfalso; omega
    refine Za S8 (YC.drop 15 (C1.mono j1)) ZX V V V ?_
    have V2:=A4.bound
    refine Zl (A4.mono j2) ZS V V ?_
    refine Yk (q.l.length : Int) 1 V V V (fun h4=>?_) (fun h4=>?_)
    ·exfalso; omega
    refine Za S8 (YC.drop 0 (C1.mono j1)) Z3 V V V ?_
    refine Zj q.kind 5 V V V (fun h5=>?_) (fun h5=>?_)
    ·exfalso; omega
    have hP1 : St w0 [] G0 G4 (some (b1,29,[U sp.a,U sp.b]) :: some (b2,56,(SV (ZA q) v10 v11 v12 v13 (U (-1)) (U (-1)) (Zh) (U sp.a) (U sp.b))) :: some (bb,(nat_lit 134),[vl,vo]) :: ro :: R) w9:=St.pickT (A:=[some (b2,56,(SV (ZA q) v10 v11 v12 v13 (U (-1)) (U (-1)) (Zh) (U sp.a) (U sp.b))),some (b1,29,[U sp.a,U sp.b]),some (bb,(nat_lit 134),[vl,vo]),ro]) (R:=R) S8 [1,0,2,3]
    have S9:=hP1.tail
    exact ⟨b2,v10,v11,v12,v13,(-1),(-1),Zh,[],sp.a,sp.b,vo,ro,acc,G4,j2,S9,⟨V,V,trivial⟩,(A9),(A10),(A11),(A12),((Sl.nil ZaZ 16 G4)),((hvo.mono j2)),(by have hk9 : Zb4 l q = []:=Zfw (by omega); have A9 : spT q sp sm = sp:=Zt0 ‹_› ‹_›; have e9:=Zp6 (q:=q) (S:=l) (n:=n) (p:=sp) (s:=sm) (acc:=acc) (by omega) ; rw [hk9,A9] at e9; exact e9),(⟨(show ZM (-1) from by constructor <;> decide),(show ZM (-1) from by constructor <;> decide),ZV,Yd⟩)⟩
   refine Za S7 (YC.drop 15 (C1.mono j1)) ZX V V V ?_
   have V3:=A4.bound
   have j3:=((L2.trans L3).trans L4)
   refine Zl (A4.mono j3) ZS V V ?_
   refine Yk (q.l.length : Int) 0 V V V (fun h6=>?_) (fun h6=>?_)
   ·exfalso; omega
   refine Za S7 (YC.drop 15 (C1.mono j1)) ZX V V V ?_
   have V4:=A4.bound
   refine Zl (A4.mono j3) ZS V V ?_
   refine Yk (q.l.length : Int) 1 V V V (fun h7=>?_) (fun h7=>?_)
   ·exfalso; omega
   refine Za S7 (YC.drop 0 (C1.mono j1)) Z3 V V V ?_
   refine Zj q.kind 5 V V V (fun h8=>?_) (fun h8=>?_)
   ·exfalso; omega
   have hP2 : St w0 [] G0 G4 (some (b1,29,[U sp.a,U sp.b]) :: some (b2,56,(SV (ZA q) v10 v11 v12 v13 (U (-1)) (U (-1)) (Zh) (U 0) (U 0))) :: some (bb,(nat_lit 134),[vl,vo]) :: ro :: R) w7:=St.pickT (A:=[some (b2,56,(SV (ZA q) v10 v11 v12 v13 (U (-1)) (U (-1)) (Zh) (U 0) (U 0))),some (b1,29,[U sp.a,U sp.b]),some (bb,(nat_lit 134),[vl,vo]),ro]) (R:=R) S7 [1,0,2,3]
   have S10:=hP2.tail
   exact ⟨b2,v10,v11,v12,v13,(-1),(-1),Zh,[],0,0,vo,ro,acc,G4,j3,S10,⟨V,V,trivial⟩,(A9),(A10),(A11),(A12),((Sl.nil ZaZ 16 G4)),((hvo.mono j3)),(by have hk9 : Zb4 l q = []:=Zfw (by omega); have A9 : spT q sp sm = (Span.mk 0 0):=(by exact ZgU (.inr ‹_›)); have e9:=Zp6 (q:=q) (S:=l) (n:=n) (p:=sp) (s:=sm) (acc:=acc) (by omega) ; rw [hk9,A9] at e9; exact e9),(⟨(show ZM (-1) from by constructor <;> decide),(show ZM (-1) from by constructor <;> decide),Yr,Yr⟩)⟩
  refine Zj q.kind 8 V V V (fun h9=>?_) (fun h9=>?_)
  ·refine ZgB (d:=3) V (fun (h10 : sm = true)=>?_) (fun (h10 : sm = false)=>?_)
   ·refine Zs S7 1 _ _ _ 0 [U sp.a,U sp.b] V V V Y7 V V V <| Zc S7 (YC.drop 13 (C1.mono j1)) [U q.span.a,U q.span.b] Y7 V V V V V <| Zv S7 Zek V V V (Zlr S7.imm sp q.span _ (X2 sp ZV Yd) _ (X2 q.span Z7 Z6)) ?_
    rintro w10 G5 _ ⟨r4,_,rfl,A13,rfl⟩ S11 L5
    obtain ⟨D3,rfl,R3⟩:=A13
    have T5:=Ql R3
    obtain ⟨rfl,Qk,XN⟩:=T5
    refine ZY S11 1 [U (((ZR sp q.span).1).a),U (((ZR sp q.span).1).b)] V V Y7 V V V V V V (fun w11 S12=>?_)
    have j4:=(j1.trans L5)
    refine Za S12 (YC.drop 15 (C1.mono j4)) ZX V V V ?_
    have V5:=A4.bound
    have j5:=(((L2.trans L3).trans L4).trans L5)
    refine Zl (A4.mono j5) ZS V V ?_
    refine Yk (q.l.length : Int) 0 V V V (fun h11=>?_) (fun h11=>?_)
    ·have T6:=Sl.at (A4.mono j5) 0 (by omega)
     obtain ⟨p2,x1,U1,E1,W1⟩:=T6
     obtain ⟨D4,C2,R4⟩:=E1
     have T7:=Ze R4
     obtain ⟨v14,v15,v16,v17,rfl,Qo,Zac,A14,A15,Q5,Qt,QJ,Zav,Zaw,QK,A16,Zax,QL,ZaT,B54,A17⟩:=T7
     refine dr [(7,false),(9,false)] [(47,v4),(48,Zu p2),(49, .agg (QV x1 v14 v15 v16 v17).toArray),(50, .agg #[U (((ZR sp q.span).1).a),U (((ZR sp q.span).1).b)])] S12 ⟨fun _ hSw=>Za hSw (YC.drop 15 (C1.mono j4)) ZX V V V <| nu V V,fun _=>Zf 0 W1 ZS Zg V V V V <| nu V V,fun _ hSw=>Zc hSw C2 (QV x1 v14 v15 v16 v17) Zg V V V V V <| nu V V,fun _ hSw=>Zs hSw 1 _ _ _ 0 [U (((ZR sp q.span).1).a),U (((ZR sp q.span).1).b)] V V V Y7 V V V <| nu V V,trivial⟩ (fun w12 S13=>?_)
     have hP3 : St w0 [] G0 G5 (some (bb,(nat_lit 134),[vl,vo]) :: ro :: some (b2,56,(SV (ZA q) v10 v11 v12 v13 (U (-1)) (U (-1)) (Zh) (U 0) (U 0))) :: some (b1,29,[U (((ZR sp q.span).1).a),U (((ZR sp q.span).1).b)]) :: R) w12:=St.pickT (A:=[some (b2,56,(SV (ZA q) v10 v11 v12 v13 (U (-1)) (U (-1)) (Zh) (U 0) (U 0))),some (b1,29,[U (((ZR sp q.span).1).a),U (((ZR sp q.span).1).b)]),some (bb,(nat_lit 134),[vl,vo]),ro]) (R:=R) S13 [2,3,0,1]
     have hq1 : acc.length + (ZF l n x1 ((ZR sp q.span).1) ((ZR sp q.span).2) acc.length).length ≤ 999999:=by exact Zgq (q:=q) (by assumption : q.l[0]? = some x1) (p':=((ZR sp q.span).1)) (s':=((ZR sp q.span).2)) (by exact Zp4 ‹_› ‹_›) hle
     have hv1 : (acc ++ ZF l n x1 ((ZR sp q.span).1) ((ZR sp q.span).2) acc.length).length ≤ 999999:=by rw [List.length_append]; exact hq1
     refine XJ [.pointer (some ⟨bb,0,none⟩), .agg (QV x1 v14 v15 v16 v17).toArray, .agg #[U (((ZR sp q.span).1).a),U (((ZR sp q.span).1).b)], .bool ((ZR sp q.span).2)] #[] Zae V V V ((ih x1 ((ZR sp q.span).1) ((ZR sp q.span).2) l acc _ _ _ _ (hvl.mono j5) (hvo.mono j5) hP3 (hg.mono j5) _ (Zd x1 Qo Zac A14 A15 Q5 Qt QJ Zav Zaw QK A16 Zax QL ZaT B54 A17) _ (X2 ((ZR sp q.span).1) Qk XN) (Yp hn (List.mem_of_getElem? (by assumption : q.l[0]? = some x1))) (hok.2.2.2 _ (List.mem_of_getElem? (by assumption : q.l[0]? = some x1))) (Nat.le_trans hq1 (by decide))).mono ?_)
     rintro e3 w13 ⟨G6,v18,o1,rfl,L6,S14,R5⟩
     refine ⟨_,V,?_⟩
     refine WL.store S14 2 _ _ _ 16 _ [U ((((acc ++ ZF l n x1 ((ZR sp q.span).1) ((ZR sp q.span).2) acc.length).length - 1) : Nat) : Int)] (SV (ZA q) v10 v11 v12 v13 (U ((((acc ++ ZF l n x1 ((ZR sp q.span).1) ((ZR sp q.span).2) acc.length).length - 1) : Nat) : Int)) (U (-1)) (Zh) (U 0) (U 0)) _ V V Z3 V (ZN V) V V V V V V (fun w14 S15=>?_)
     refine Za S15 (YC.drop 15 (C1.mono (j4.trans L6))) ZX V V V ?_
     have V6:=A4.bound
     refine Zl (A4.mono (j5.trans L6)) ZS V V ?_
     refine Yk (q.l.length : Int) 1 V V V (fun h12=>?_) (fun h12=>?_)
     ·exfalso; omega
     refine Za S15 (YC.drop 0 (C1.mono (j4.trans L6))) Z3 V V V ?_
     refine Zj q.kind 5 V V V (fun h13=>?_) (fun h13=>?_)
     ·exfalso; omega
     have hP4 : St w0 [] G0 G6 (some (b1,29,[U (((ZR sp q.span).1).a),U (((ZR sp q.span).1).b)]) :: some (b2,56,(SV (ZA q) v10 v11 v12 v13 (U ((((acc ++ ZF l n x1 ((ZR sp q.span).1) ((ZR sp q.span).2) acc.length).length - 1) : Nat) : Int)) (U (-1)) (Zh) (U 0) (U 0))) :: some (bb,(nat_lit 134),[vl,v18]) :: o1 :: R) w14:=St.pickT (A:=[some (bb,(nat_lit 134),[vl,v18]),o1,some (b2,56,(SV (ZA q) v10 v11 v12 v13 (U ((((acc ++ ZF l n x1 ((ZR sp q.span).1) ((ZR sp q.span).2) acc.length).length - 1) : Nat) : Int)) (U (-1)) (Zh) (U 0) (U 0))),some (b1,29,[U (((ZR sp q.span).1).a),U (((ZR sp q.span).1).b)])]) (R:=R) S15 [3,2,0,1]
     have S16:=hP4.tail
     have j6:=(L5.trans L6)
     exact ⟨b2,v10,v11,v12,v13,((((acc ++ ZF l n x1 ((ZR sp q.span).1) ((ZR sp q.span).2) acc.length).length - 1) : Nat) : Int),(-1),Zh,[],0,0,v18,o1,(acc ++ ZF l n x1 ((ZR sp q.span).1) ((ZR sp q.span).2) acc.length),G6,(j5.trans L6),S16,⟨V,V,trivial⟩,((A9.mono j6)),((A10.mono j6)),((A11.mono j6)),((A12.mono j6)),((Sl.nil ZaZ 16 G6)),(R5),(by have hk9 : Zb4 l q = []:=Zfw (by omega); have A9 : spT q sp sm = (Span.mk 0 0):=(by exact ZgU (.inl (by omega))); have hd9 : ndT q sp sm = (((ZR sp q.span).1),((ZR sp q.span).2)):=(by exact Zp4 ‹_› ‹_›); have e9:=Zms (q:=q) (S:=l) (n:=n) (p:=sp) (s:=sm) (acc:=acc) (by omega) (by assumption : q.l[0]? = some x1) hd9; rw [hk9,A9] at e9; exact e9),(⟨(by constructor <;> omega),(show ZM (-1) from by constructor <;> decide),Yr,Yr⟩)⟩
    exfalso; omega
   refine Za S7 (YC.drop 15 (C1.mono j1)) ZX V V V ?_
   have V7:=A4.bound
   have j7:=((L2.trans L3).trans L4)
   refine Zl (A4.mono j7) ZS V V ?_
   refine Yk (q.l.length : Int) 0 V V V (fun h14=>?_) (fun h14=>?_)
   ·have T8:=Sl.at (A4.mono j7) 0 (by omega)
    obtain ⟨p3,x2,U2,E2,W2⟩:=T8
    obtain ⟨D5,C3,R6⟩:=E2
    have T9:=Ze R6
    obtain ⟨v19,v20,v21,v22,rfl,ZaU,Zay,A18,A19,ZaB,Zbg,Zbh,Zbi,B61,B62,A20,B63,B64,B65,B66,A21⟩:=T9
    refine dr [(7,false),(9,false)] [(47,v4),(48,Zu p3),(49, .agg (QV x2 v19 v20 v21 v22).toArray),(50, .agg #[U sp.a,U sp.b])] S7 ⟨fun _ hSw=>Za hSw (YC.drop 15 (C1.mono j1)) ZX V V V <| nu V V,fun _=>Zf 0 W2 ZS Zg V V V V <| nu V V,fun _ hSw=>Zc hSw C3 (QV x2 v19 v20 v21 v22) Zg V V V V V <| nu V V,fun _ hSw=>Zs hSw 1 _ _ _ 0 [U sp.a,U sp.b] V V V Y7 V V V <| nu V V,trivial⟩ (fun w15 S17=>?_)
    have hP5 : St w0 [] G0 G4 (some (bb,(nat_lit 134),[vl,vo]) :: ro :: some (b2,56,(SV (ZA q) v10 v11 v12 v13 (U (-1)) (U (-1)) (Zh) (U 0) (U 0))) :: some (b1,29,[U sp.a,U sp.b]) :: R) w15:=St.pickT (A:=[some (b2,56,(SV (ZA q) v10 v11 v12 v13 (U (-1)) (U (-1)) (Zh) (U 0) (U 0))),some (b1,29,[U sp.a,U sp.b]),some (bb,(nat_lit 134),[vl,vo]),ro]) (R:=R) S17 [2,3,0,1]
    have hq2 : acc.length + (ZF l n x2 sp false acc.length).length ≤ 999999:=by exact Zgq (q:=q) (by assumption : q.l[0]? = some x2) (p':=sp) (s':=false) (by exact Zp5 ‹_› ‹_›) hle
    have hv2 : (acc ++ ZF l n x2 sp false acc.length).length ≤ 999999:=by rw [List.length_append]; exact hq2
    refine XJ [.pointer (some ⟨bb,0,none⟩), .agg (QV x2 v19 v20 v21 v22).toArray, .agg #[U sp.a,U sp.b], .bool false] #[] Zae V V V ((ih x2 sp false l acc _ _ _ _ (hvl.mono j7) (hvo.mono j7) hP5 (hg.mono j7) _ (Zd x2 ZaU Zay A18 A19 ZaB Zbg Zbh Zbi B61 B62 A20 B63 B64 B65 B66 A21) _ (X2 sp ZV Yd) (Yp hn (List.mem_of_getElem? (by assumption : q.l[0]? = some x2))) (hok.2.2.2 _ (List.mem_of_getElem? (by assumption : q.l[0]? = some x2))) (Nat.le_trans hq2 (by decide))).mono ?_)
    rintro e4 w16 ⟨G7,v23,o2,rfl,L7,S18,R7⟩
    refine ⟨_,V,?_⟩
    refine WL.store S18 2 _ _ _ 16 _ [U ((((acc ++ ZF l n x2 sp false acc.length).length - 1) : Nat) : Int)] (SV (ZA q) v10 v11 v12 v13 (U ((((acc ++ ZF l n x2 sp false acc.length).length - 1) : Nat) : Int)) (U (-1)) (Zh) (U 0) (U 0)) _ V V Z3 V (ZN V) V V V V V V (fun w17 S19=>?_)
    refine Za S19 (YC.drop 15 (C1.mono (j1.trans L7))) ZX V V V ?_
    have V8:=A4.bound
    refine Zl (A4.mono (j7.trans L7)) ZS V V ?_
    refine Yk (q.l.length : Int) 1 V V V (fun h15=>?_) (fun h15=>?_)
    ·exfalso; omega
    refine Za S19 (YC.drop 0 (C1.mono (j1.trans L7))) Z3 V V V ?_
    refine Zj q.kind 5 V V V (fun h16=>?_) (fun h16=>?_)
    ·exfalso; omega
    have hP6 : St w0 [] G0 G7 (some (b1,29,[U sp.a,U sp.b]) :: some (b2,56,(SV (ZA q) v10 v11 v12 v13 (U ((((acc ++ ZF l n x2 sp false acc.length).length - 1) : Nat) : Int)) (U (-1)) (Zh) (U 0) (U 0))) :: some (bb,(nat_lit 134),[vl,v23]) :: o2 :: R) w17:=St.pickT (A:=[some (bb,(nat_lit 134),[vl,v23]),o2,some (b2,56,(SV (ZA q) v10 v11 v12 v13 (U ((((acc ++ ZF l n x2 sp false acc.length).length - 1) : Nat) : Int)) (U (-1)) (Zh) (U 0) (U 0))),some (b1,29,[U sp.a,U sp.b])]) (R:=R) S19 [3,2,0,1]
    have S20:=hP6.tail
    exact ⟨b2,v10,v11,v12,v13,((((acc ++ ZF l n x2 sp false acc.length).length - 1) : Nat) : Int),(-1),Zh,[],0,0,v23,o2,(acc ++ ZF l n x2 sp false acc.length),G7,(j7.trans L7),S20,⟨V,V,trivial⟩,((A9.mono L7)),((A10.mono L7)),((A11.mono L7)),((A12.mono L7)),((Sl.nil ZaZ 16 G7)),(R7),(by have hk9 : Zb4 l q = []:=Zfw (by omega); have A9 : spT q sp sm = (Span.mk 0 0):=(by exact ZgU (.inl (by omega))); have hd9 : ndT q sp sm = (sp,false):=(by exact Zp5 ‹_› ‹_›); have e9:=Zms (q:=q) (S:=l) (n:=n) (p:=sp) (s:=sm) (acc:=acc) (by omega) (by assumption : q.l[0]? = some x2) hd9; rw [hk9,A9] at e9; exact e9),(⟨(by constructor <;> omega),(show ZM (-1) from by constructor <;> decide),Yr,Yr⟩)⟩
   exfalso; omega
  refine Zj q.kind 10 V V V (fun h17=>?_) (fun h17=>?_)
  ·have j8:=((L2.trans L3).trans L4)
   refine Zc S7 (hac.mono j8) [U (-62135596800),U 253402300800] Y7 V V V V V ?_
   refine ZY S7 1 [U (-62135596800),U 253402300800] V V Y7 V V V V V V (fun w18 S21=>?_)
   refine Za S21 (YC.drop 15 (C1.mono j1)) ZX V V V ?_
   have V9:=A4.bound
   refine Zl (A4.mono j8) ZS V V ?_
   refine Yk (q.l.length : Int) 0 V V V (fun h18=>?_) (fun h18=>?_)
   ·have T10:=Sl.at (A4.mono j8) 0 (by omega)
    obtain ⟨p4,x3,U3,E3,W3⟩:=T10
    obtain ⟨D6,C4,R8⟩:=E3
    have T11:=Ze R8
    obtain ⟨v24,v25,v26,v27,rfl,B67,B68,A22,A23,B69,B70,B71,B72,B73,B74,A24,B75,B76,B77,B79,A25⟩:=T11
    refine dr [(7,false),(9,false)] [(47,v4),(48,Zu p4),(49, .agg (QV x3 v24 v25 v26 v27).toArray),(50, .agg #[U (-62135596800),U 253402300800])] S21 ⟨fun _ hSw=>Za hSw (YC.drop 15 (C1.mono j1)) ZX V V V <| nu V V,fun _=>Zf 0 W3 ZS Zg V V V V <| nu V V,fun _ hSw=>Zc hSw C4 (QV x3 v24 v25 v26 v27) Zg V V V V V <| nu V V,fun _ hSw=>Zs hSw 1 _ _ _ 0 [U (-62135596800),U 253402300800] V V V Y7 V V V <| nu V V,trivial⟩ (fun w19 S22=>?_)
    have hP7 : St w0 [] G0 G4 (some (bb,(nat_lit 134),[vl,vo]) :: ro :: some (b2,56,(SV (ZA q) v10 v11 v12 v13 (U (-1)) (U (-1)) (Zh) (U 0) (U 0))) :: some (b1,29,[U (-62135596800),U 253402300800]) :: R) w19:=St.pickT (A:=[some (b2,56,(SV (ZA q) v10 v11 v12 v13 (U (-1)) (U (-1)) (Zh) (U 0) (U 0))),some (b1,29,[U (-62135596800),U 253402300800]),some (bb,(nat_lit 134),[vl,vo]),ro]) (R:=R) S22 [2,3,0,1]
    have hq3 : acc.length + (ZF l n x3 (Span.mk (-62135596800) 253402300800) true acc.length).length ≤ 999999:=by exact Zgq (q:=q) (by assumption : q.l[0]? = some x3) (p':=(Span.mk (-62135596800) 253402300800)) (s':=true) (by exact Zmr ‹_›) hle
    have hv3 : (acc ++ ZF l n x3 (Span.mk (-62135596800) 253402300800) true acc.length).length ≤ 999999:=by rw [List.length_append]; exact hq3
    refine XJ [.pointer (some ⟨bb,0,none⟩), .agg (QV x3 v24 v25 v26 v27).toArray, .agg #[U (-62135596800),U 253402300800], .bool true] #[] Zae V V V ((ih x3 (Span.mk (-62135596800) 253402300800) true l acc _ _ _ _ (hvl.mono j8) (hvo.mono j8) hP7 (hg.mono j8) _ (Zd x3 B67 B68 A22 A23 B69 B70 B71 B72 B73 B74 A24 B75 B76 B77 B79 A25) _ (X2 (Span.mk (-62135596800) 253402300800) (show ZM (-62135596800) from by constructor <;> decide) (show ZM 253402300800 from by constructor <;> decide)) (Yp hn (List.mem_of_getElem? (by assumption : q.l[0]? = some x3))) (hok.2.2.2 _ (List.mem_of_getElem? (by assumption : q.l[0]? = some x3))) (Nat.le_trans hq3 (by decide))).mono ?_)
    rintro e5 w20 ⟨G9,v28,o3,rfl,L9,S23,R9⟩
    refine ⟨_,V,?_⟩
    refine WL.store S23 2 _ _ _ 16 _ [U ((((acc ++ ZF l n x3 (Span.mk (-62135596800) 253402300800) true acc.length).length - 1) : Nat) : Int)] (SV (ZA q) v10 v11 v12 v13 (U ((((acc ++ ZF l n x3 (Span.mk (-62135596800) 253402300800) true acc.length).length - 1) : Nat) : Int)) (U (-1)) (Zh) (U 0) (U 0)) _ V V Z3 V (ZN V) V V V V V V (fun w21 S24=>?_)
    refine Za S24 (YC.drop 15 (C1.mono ((L3.trans L4).trans L9))) ZX V V V ?_
    have V10:=A4.bound
    refine Zl (A4.mono (((L2.trans L3).trans L4).trans L9)) ZS V V ?_
    refine Yk (q.l.length : Int) 1 V V V (fun h19=>?_) (fun h19=>?_)
    ·have T12:=Sl.at (A4.mono (((L2.trans L3).trans L4).trans L9)) 1 (by omega)
     obtain ⟨p5,x4,U4,E4,W4⟩:=T12
     obtain ⟨D7,C5,R10⟩:=E4
     have T13:=Ze R10
     obtain ⟨v29,v30,v31,v32,rfl,B80,B81,A26,A27,B82,B83,B85,ZaV,B87,B88,A28,B89,B90,B91,B92,A29⟩:=T13
     refine dr [(7,false),(9,false)] [(60,v4),(61,Zu p5),(62, .agg (QV x4 v29 v30 v31 v32).toArray),(63, .agg #[U (-62135596800),U 253402300800])] S24 ⟨fun _ hSw=>Za hSw (YC.drop 15 (C1.mono ((L3.trans L4).trans L9))) ZX V V V <| nu V V,fun _=>Zf 1 W4 ZS Zg V V V V <| nu V V,fun _ hSw=>Zc hSw C5 (QV x4 v29 v30 v31 v32) Zg V V V V V <| nu V V,fun _ hSw=>Zs hSw 3 _ _ _ 0 [U (-62135596800),U 253402300800] V V V Y7 V V V <| nu V V,trivial⟩ (fun w22 S25=>?_)
     have hq4 : (acc ++ ZF l n x3 (Span.mk (-62135596800) 253402300800) true acc.length).length + (ZF l n x4 (Span.mk (-62135596800) 253402300800) true (acc ++ ZF l n x3 (Span.mk (-62135596800) 253402300800) true acc.length).length).length ≤ 999999:=by exact (Zlv (q:=q) (by omega) (by assumption : q.l[0]? = some _) (by assumption : q.l[1]? = some _) (p':=(Span.mk (-62135596800) 253402300800)) (s':=true) (by exact Zmr ‹_›) hle).2
     have hv4 : ((acc ++ ZF l n x3 (Span.mk (-62135596800) 253402300800) true acc.length) ++ ZF l n x4 (Span.mk (-62135596800) 253402300800) true (acc ++ ZF l n x3 (Span.mk (-62135596800) 253402300800) true acc.length).length).length ≤ 999999:=by rw [List.length_append]; exact hq4
     refine XJ [.pointer (some ⟨bb,0,none⟩), .agg (QV x4 v29 v30 v31 v32).toArray, .agg #[U (-62135596800),U 253402300800], .bool true] #[] Zae V V V ((ih x4 (Span.mk (-62135596800) 253402300800) true l (acc ++ ZF l n x3 (Span.mk (-62135596800) 253402300800) true acc.length) _ _ _ _ (hvl.mono (((L2.trans L3).trans L4).trans L9)) R9 S25 (hg.mono (((L2.trans L3).trans L4).trans L9)) _ (Zd x4 B80 B81 A26 A27 B82 B83 B85 ZaV B87 B88 A28 B89 B90 B91 B92 A29) _ (X2 (Span.mk (-62135596800) 253402300800) (show ZM (-62135596800) from by constructor <;> decide) (show ZM 253402300800 from by constructor <;> decide)) (Yp hn (List.mem_of_getElem? (by assumption : q.l[1]? = some x4))) (hok.2.2.2 _ (List.mem_of_getElem? (by assumption : q.l[1]? = some x4))) (Nat.le_trans hq4 (by decide))).mono ?_)
     rintro e6 w23 ⟨G10,v33,o4,rfl,L10,S26,R11⟩
     refine ⟨_,V,?_⟩
     refine WL.store S26 2 _ _ _ 17 _ [U (((((acc ++ ZF l n x3 (Span.mk (-62135596800) 253402300800) true acc.length) ++ ZF l n x4 (Span.mk (-62135596800) 253402300800) true (acc ++ ZF l n x3 (Span.mk (-62135596800) 253402300800) true acc.length).length).length - 1) : Nat) : Int)] (SV (ZA q) v10 v11 v12 v13 (U ((((acc ++ ZF l n x3 (Span.mk (-62135596800) 253402300800) true acc.length).length - 1) : Nat) : Int)) (U (((((acc ++ ZF l n x3 (Span.mk (-62135596800) 253402300800) true acc.length) ++ ZF l n x4 (Span.mk (-62135596800) 253402300800) true (acc ++ ZF l n x3 (Span.mk (-62135596800) 253402300800) true acc.length).length).length - 1) : Nat) : Int)) (Zh) (U 0) (U 0)) _ V V Z3 V (ZN V) V V V V V V (fun w24 S27=>?_)
     refine Za S27 (YC.drop 0 (C1.mono (((L3.trans L4).trans L9).trans L10))) Z3 V V V ?_
     refine Zj q.kind 5 V V V (fun h20=>?_) (fun h20=>?_)
     ·exfalso; omega
     have hP8 : St w0 [] G0 G10 (some (b1,29,[U (-62135596800),U 253402300800]) :: some (b2,56,(SV (ZA q) v10 v11 v12 v13 (U ((((acc ++ ZF l n x3 (Span.mk (-62135596800) 253402300800) true acc.length).length - 1) : Nat) : Int)) (U (((((acc ++ ZF l n x3 (Span.mk (-62135596800) 253402300800) true acc.length) ++ ZF l n x4 (Span.mk (-62135596800) 253402300800) true (acc ++ ZF l n x3 (Span.mk (-62135596800) 253402300800) true acc.length).length).length - 1) : Nat) : Int)) (Zh) (U 0) (U 0))) :: some (bb,(nat_lit 134),[vl,v33]) :: o4 :: R) w24:=St.pickT (A:=[some (bb,(nat_lit 134),[vl,v33]),o4,some (b2,56,(SV (ZA q) v10 v11 v12 v13 (U ((((acc ++ ZF l n x3 (Span.mk (-62135596800) 253402300800) true acc.length).length - 1) : Nat) : Int)) (U (((((acc ++ ZF l n x3 (Span.mk (-62135596800) 253402300800) true acc.length) ++ ZF l n x4 (Span.mk (-62135596800) 253402300800) true (acc ++ ZF l n x3 (Span.mk (-62135596800) 253402300800) true acc.length).length).length - 1) : Nat) : Int)) (Zh) (U 0) (U 0))),some (b1,29,[U (-62135596800),U 253402300800])]) (R:=R) S27 [3,2,0,1]
     have S28:=hP8.tail
     exact ⟨b2,v10,v11,v12,v13,((((acc ++ ZF l n x3 (Span.mk (-62135596800) 253402300800) true acc.length).length - 1) : Nat) : Int),(((((acc ++ ZF l n x3 (Span.mk (-62135596800) 253402300800) true acc.length) ++ ZF l n x4 (Span.mk (-62135596800) 253402300800) true (acc ++ ZF l n x3 (Span.mk (-62135596800) 253402300800) true acc.length).length).length - 1) : Nat) : Int),Zh,[],0,0,v33,o4,((acc ++ ZF l n x3 (Span.mk (-62135596800) 253402300800) true acc.length) ++ ZF l n x4 (Span.mk (-62135596800) 253402300800) true (acc ++ ZF l n x3 (Span.mk (-62135596800) 253402300800) true acc.length).length),G10,((((L2.trans L3).trans L4).trans L9).trans L10),S28,⟨V,V,trivial⟩,((A9.mono (L9.trans L10))),((A10.mono (L9.trans L10))),((A11.mono (L9.trans L10))),((A12.mono (L9.trans L10))),((Sl.nil ZaZ 16 G10)),(R11),(by have hk9 : Zb4 l q = []:=Zfw (by omega); have A9 : spT q sp sm = (Span.mk 0 0):=(by exact ZgU (.inl (by omega))); have hd9 : ndT q sp sm = ((Span.mk (-62135596800) 253402300800),true):=(by exact Zmr ‹_›); have e9:=Zje (q:=q) (S:=l) (n:=n) (p:=sp) (s:=sm) (acc:=acc) (by omega) (by assumption : q.l[0]? = some x3) (by assumption : q.l[1]? = some x4) hd9; rw [hk9,A9] at e9; exact e9),(⟨(by constructor <;> omega),(by constructor <;> omega),Yr,Yr⟩)⟩
    exfalso; omega
   exfalso; omega
  refine Za S7 (YC.drop 15 (C1.mono j1)) ZX V V V ?_
  have V11:=A4.bound
  have j9:=((L2.trans L3).trans L4)
  refine Zl (A4.mono j9) ZS V V ?_
  refine Yk (q.l.length : Int) 0 V V V (fun h21=>?_) (fun h21=>?_)
  ·have T14:=Sl.at (A4.mono j9) 0 (by omega)
   obtain ⟨p6,x5,U5,E5,W5⟩:=T14
   obtain ⟨D8,C6,R12⟩:=E5
   have T15:=Ze R12
   obtain ⟨v34,v35,v36,v37,rfl,B93,B94,A30,A31,B95,B96,B97,B98,B99,QA,A32,ZaD,B102,B103,B104,A33⟩:=T15
   refine dr [(7,false),(9,false)] [(47,v4),(48,Zu p6),(49, .agg (QV x5 v34 v35 v36 v37).toArray),(50, .agg #[U sp.a,U sp.b])] S7 ⟨fun _ hSw=>Za hSw (YC.drop 15 (C1.mono j1)) ZX V V V <| nu V V,fun _=>Zf 0 W5 ZS Zg V V V V <| nu V V,fun _ hSw=>Zc hSw C6 (QV x5 v34 v35 v36 v37) Zg V V V V V <| nu V V,fun _ hSw=>Zs hSw 1 _ _ _ 0 [U sp.a,U sp.b] V V V Y7 V V V <| nu V V,trivial⟩ (fun w25 S29=>?_)
   have hP9 : St w0 [] G0 G4 (some (bb,(nat_lit 134),[vl,vo]) :: ro :: some (b2,56,(SV (ZA q) v10 v11 v12 v13 (U (-1)) (U (-1)) (Zh) (U 0) (U 0))) :: some (b1,29,[U sp.a,U sp.b]) :: R) w25:=St.pickT (A:=[some (b2,56,(SV (ZA q) v10 v11 v12 v13 (U (-1)) (U (-1)) (Zh) (U 0) (U 0))),some (b1,29,[U sp.a,U sp.b]),some (bb,(nat_lit 134),[vl,vo]),ro]) (R:=R) S29 [2,3,0,1]
   have hq5 : acc.length + (ZF l n x5 sp sm acc.length).length ≤ 999999:=by exact Zgq (q:=q) (by assumption : q.l[0]? = some x5) (p':=sp) (s':=sm) (by exact Zkw (by omega) (by omega)) hle
   have hv5 : (acc ++ ZF l n x5 sp sm acc.length).length ≤ 999999:=by rw [List.length_append]; exact hq5
   refine XJ [.pointer (some ⟨bb,0,none⟩), .agg (QV x5 v34 v35 v36 v37).toArray, .agg #[U sp.a,U sp.b], .bool sm] #[] Zae V V V ((ih x5 sp sm l acc _ _ _ _ (hvl.mono j9) (hvo.mono j9) hP9 (hg.mono j9) _ (Zd x5 B93 B94 A30 A31 B95 B96 B97 B98 B99 QA A32 ZaD B102 B103 B104 A33) _ (X2 sp ZV Yd) (Yp hn (List.mem_of_getElem? (by assumption : q.l[0]? = some x5))) (hok.2.2.2 _ (List.mem_of_getElem? (by assumption : q.l[0]? = some x5))) (Nat.le_trans hq5 (by decide))).mono ?_)
   rintro e7 w26 ⟨G11,v38,o5,rfl,L11,S30,R13⟩
   refine ⟨_,V,?_⟩
   refine WL.store S30 2 _ _ _ 16 _ [U ((((acc ++ ZF l n x5 sp sm acc.length).length - 1) : Nat) : Int)] (SV (ZA q) v10 v11 v12 v13 (U ((((acc ++ ZF l n x5 sp sm acc.length).length - 1) : Nat) : Int)) (U (-1)) (Zh) (U 0) (U 0)) _ V V Z3 V (ZN V) V V V V V V (fun w27 S31=>?_)
   have j10:=(j1.trans L11)
   refine Za S31 (YC.drop 15 (C1.mono j10)) ZX V V V ?_
   have V12:=A4.bound
   have j11:=(j9.trans L11)
   refine Zl (A4.mono j11) ZS V V ?_
   refine Yk (q.l.length : Int) 1 V V V (fun h22=>?_) (fun h22=>?_)
   ·have T16:=Sl.at (A4.mono j11) 1 (by omega)
    obtain ⟨p7,x6,U6,E6,W6⟩:=T16
    obtain ⟨D9,C7,R14⟩:=E6
    have T17:=Ze R14
    obtain ⟨v39,v40,v41,v42,rfl,XV,XQ,A34,A35,Xi,QB,Zal,QS,Zam,Zan,A36,ZaF,Zao,ZaG,XW,A37⟩:=T17
    refine dr [(7,false),(9,false)] [(60,v4),(61,Zu p7),(62, .agg (QV x6 v39 v40 v41 v42).toArray),(63, .agg #[U sp.a,U sp.b])] S31 ⟨fun _ hSw=>Za hSw (YC.drop 15 (C1.mono j10)) ZX V V V <| nu V V,fun _=>Zf 1 W6 ZS Zg V V V V <| nu V V,fun _ hSw=>Zc hSw C7 (QV x6 v39 v40 v41 v42) Zg V V V V V <| nu V V,fun _ hSw=>Zs hSw 3 _ _ _ 0 [U sp.a,U sp.b] V V V Y7 V V V <| nu V V,trivial⟩ (fun w28 S32=>?_)
    have hq6 : (acc ++ ZF l n x5 sp sm acc.length).length + (ZF l n x6 sp sm (acc ++ ZF l n x5 sp sm acc.length).length).length ≤ 999999:=by exact (Zlv (q:=q) (by omega) (by assumption : q.l[0]? = some _) (by assumption : q.l[1]? = some _) (p':=sp) (s':=sm) (by exact Zkw (by omega) (by omega)) hle).2
    have hv6 : ((acc ++ ZF l n x5 sp sm acc.length) ++ ZF l n x6 sp sm (acc ++ ZF l n x5 sp sm acc.length).length).length ≤ 999999:=by rw [List.length_append]; exact hq6
    refine XJ [.pointer (some ⟨bb,0,none⟩), .agg (QV x6 v39 v40 v41 v42).toArray, .agg #[U sp.a,U sp.b], .bool sm] #[] Zae V V V ((ih x6 sp sm l (acc ++ ZF l n x5 sp sm acc.length) _ _ _ _ (hvl.mono j11) R13 S32 (hg.mono j11) _ (Zd x6 XV XQ A34 A35 Xi QB Zal QS Zam Zan A36 ZaF Zao ZaG XW A37) _ (X2 sp ZV Yd) (Yp hn (List.mem_of_getElem? (by assumption : q.l[1]? = some x6))) (hok.2.2.2 _ (List.mem_of_getElem? (by assumption : q.l[1]? = some x6))) (Nat.le_trans hq6 (by decide))).mono ?_)
    rintro e8 w29 ⟨G12,v43,o6,rfl,L12,S33,R15⟩
    refine ⟨_,V,?_⟩
    refine WL.store S33 2 _ _ _ 17 _ [U (((((acc ++ ZF l n x5 sp sm acc.length) ++ ZF l n x6 sp sm (acc ++ ZF l n x5 sp sm acc.length).length).length - 1) : Nat) : Int)] (SV (ZA q) v10 v11 v12 v13 (U ((((acc ++ ZF l n x5 sp sm acc.length).length - 1) : Nat) : Int)) (U (((((acc ++ ZF l n x5 sp sm acc.length) ++ ZF l n x6 sp sm (acc ++ ZF l n x5 sp sm acc.length).length).length - 1) : Nat) : Int)) (Zh) (U 0) (U 0)) _ V V Z3 V (ZN V) V V V V V V (fun w30 S34=>?_)
    have j12:=(j10.trans L12)
    refine Za S34 (YC.drop 0 (C1.mono j12)) Z3 V V V ?_
    refine Zj q.kind 5 V V V (fun h23=>?_) (fun h23=>?_)
    ·have j13:=(j11.trans L12)
     have T18:=Sl.at (A4.mono j13) 0 (by omega)
     obtain ⟨p8,x7,U7,E7,W7⟩:=T18
     have T19 : x5 = x7:=Option.some.inj (U5.symm.trans U7)
     obtain rfl:=T19
     obtain ⟨D10,C8,R16⟩:=E7
     have T20:=Ze R16
     obtain ⟨v44,v45,v46,v47,rfl,XR,Xj,A38,A39,ZaH,QT,Zap,Zaq,ZaI,ZaJ,A40,Zbt,Zbu,Qm,QU,A41⟩:=T20
     refine drT [8,9,10,11,12,13] [(72,v4),(73,Zu p8),(74, .agg (QV x5 v44 v45 v46 v47).toArray),(76, .pointer (some ⟨bb,0,none⟩)),(78,vl)] S34 ⟨fun _ hSw=>Za hSw (YC.drop 15 (C1.mono j12)) ZX V V V <| nu V V,fun _=>Zf 0 W7 ZS Zg V V V V <| nu V V,fun _ hSw=>Zc hSw C8 (QV x5 v44 v45 v46 v47) Zg V V V V V <| nu V V,fun _=>WL.nilCheck _ V V <| nu V V,fun _ hSw=>ZT hSw 0 _ _ _ 0 _ V V ZqU V V V <| nu V V,trivial⟩ (fun w31 S35=>?_)
     refine TG.fork 5 [8,9,10,11,12,13] [8] V V (by decide) (by decide) (TA.cons V ?_ TA.nil)
     refine Zv S35 Ye V V V (ZaN S35.imm (Yc x5) x5 l (hg.mono j13) _ (Zd x5 XR Xj A38 A39 ZaH QT Zap Zaq ZaI ZaJ A40 Zbt Zbu Qm QU A41) _ (hvl.mono j13) (YU _) (Zgo (Yp hn (List.mem_of_getElem? ‹_›)) (hok.2.2.2 _ (List.mem_of_getElem? ‹_›))).sm) ?_
     rintro w32 G13 _ ⟨r7,_,rfl,A42,rfl⟩ S36 L13
     refine ⟨fun h=>absurd h (by decide),?_⟩
     refine TG.quiet 4 [9,10,11,12,13] 9 V V V V V (by decide) (fun w9 K9 k9=>WL.move V k9) ?_
     refine TG.quiet 3 [10,11,12,13] 10 V V V V V (by decide) (fun w9 K9 k9=>WL.extract _ _ V V V k9) ?_
     refine TG.quiet 2 [11,12,13] 11 V V V V V (by decide) (fun w9 K9 k9=>WL.extract _ _ V V V k9) ?_
     refine TG.quiet 1 [12,13] 12 V V V V V (by decide) (fun w9 K9 k9=>WL.assign V k9) ?_
     refine TG.quiet 0 [13] 13 V V V V V (by decide) (fun w9 K9 k9=>WL.assign V k9) ?_
     refine TG.fin V ?_
     have j14:=(j13.trans L13)
     have T21:=Sl.at (A4.mono j14) 1 (by omega)
     obtain ⟨p9,x9,U8,E8,W8⟩:=T21
     have T22 : x6 = x9:=Option.some.inj (U6.symm.trans U8)
     obtain rfl:=T22
     obtain ⟨D11,C9,R17⟩:=E8
     have T23:=Ze R17
     obtain ⟨v48,v49,v50,v51,rfl,Zbv,ZbD,A43,A44,Zcb,Zcc,Zcd,B135,B136,B137,A45,B138,B139,B140,B141,A46⟩:=T23
     refine drT [8,9,10,11,12,13] [(84,v4),(85,Zu p9),(86, .agg (QV x6 v48 v49 v50 v51).toArray),(88, .pointer (some ⟨bb,0,none⟩)),(90,vl)] S36 ⟨fun _ hSw=>Za hSw (YC.drop 15 (C1.mono (j12.trans L13))) ZX V V V <| nu V V,fun _=>Zf 1 W8 ZS Zg V V V V <| nu V V,fun _ hSw=>Zc hSw C9 (QV x6 v48 v49 v50 v51) Zg V V V V V <| nu V V,fun _=>WL.nilCheck _ V V <| nu V V,fun _ hSw=>ZT hSw 0 _ _ _ 0 _ V V ZqU V V V <| nu V V,trivial⟩ (fun w33 S37=>?_)
     refine TG.fork 5 [8,9,10,11,12,13] [8] V V (by decide) (by decide) (TA.cons V ?_ TA.nil)
     refine Zv S37 Ye V V V (ZaN S37.imm (Yc x6) x6 l (hg.mono j14) _ (Zd x6 Zbv ZbD A43 A44 Zcb Zcc Zcd B135 B136 B137 A45 B138 B139 B140 B141 A46) _ (hvl.mono j14) (YU _) (Zgo (Yp hn (List.mem_of_getElem? ‹_›)) (hok.2.2.2 _ (List.mem_of_getElem? ‹_›))).sm) ?_
     rintro w34 G14 _ ⟨r10,_,rfl,A47,rfl⟩ S38 L14
     refine ⟨fun h=>absurd h (by decide),?_⟩
     refine TG.quiet 4 [9,10,11,12,13] 9 V V V V V (by decide) (fun w9 K9 k9=>WL.move V k9) ?_
     refine TG.quiet 3 [10,11,12,13] 10 V V V V V (by decide) (fun w9 K9 k9=>WL.extract _ _ V V V k9) ?_
     refine TG.quiet 2 [11,12,13] 11 V V V V V (by decide) (fun w9 K9 k9=>WL.extract _ _ V V V k9) ?_
     refine TG.quiet 1 [12,13] 12 V V V V V (by decide) (fun w9 K9 k9=>WL.assign V k9) ?_
     refine TG.quiet 0 [13] 13 V V V V V (by decide) (fun w9 K9 k9=>WL.assign V k9) ?_
     refine TG.fin V ?_
     have S39:=S38.pad
     have V13:=A47.bound
     refine Zl A47 Yx V V ?_
     refine LP.go ft [] (fun m ρ1 w1=>∃ (k1 : Nat),∃ (v52 : Value) (o7 : OB),∃ (G15 : GH),m = (ZP (Yc x6) x6 l).1.length - k1 ∧ G14.le G15 ∧ St w0 [] G0 G15 (o7 :: some (bb,(nat_lit 134),[vl,v43]) :: o6 :: some (b2,56,(SV (ZA q) v10 v11 v12 v13 (U ((((acc ++ ZF l n x5 sp sm acc.length).length - 1) : Nat) : Int)) (U (((((acc ++ ZF l n x5 sp sm acc.length) ++ ZF l n x6 sp sm (acc ++ ZF l n x5 sp sm acc.length).length).length - 1) : Nat) : Int)) v52 (U 0) (U 0))) :: some (b1,29,[U sp.a,U sp.b]) :: R) w1 ∧ YH ZaZ 16 146 G15 v52 (Zag (ZP (Yc x5) x5 l).1 ((ZP (Yc x6) x6 l).1.take k1) 0) o7 ∧ FR ρ1 [(0, .pointer (some ⟨bb,0,none⟩)),(9, .pointer (some ⟨b2,0,none⟩)),(10,r7),(94,r10),(95,U ((((ZP (Yc x6) x6 l).1).length : Nat) : Int)),(96,U (k1 : Int))] ∧ k1 ≤ (ZP (Yc x6) x6 l).1.length) _ ⟨0,(Zh),none,G14,V,(G14.le_refl),S39,(YH.cast (YH.nil ZaZ 16 146 G14) (by rfl)),(Yt V),(by omega)⟩ ?_
     rintro m ρ1 w35 ⟨k1,v52,o7,G15,rfl,L15,S40,R18,F9,f9⟩
     refine F9.set ?_
     clear F9
     have hky9:=@Zkv (ZP (Yc x5) x5 l).1 ((ZP (Yc x6) x6 l).1.take k1) 0
     have hlt9:=List.length_take_le' k1 (ZP (Yc x6) x6 l).1
     have hcl9:=ZhC (l:=l) (q:=x6) (n:=Yc x6) (Zgo (Yp hn (List.mem_of_getElem? (by assumption : _ = some x6))) (hok.2.2.2 _ (List.mem_of_getElem? (by assumption : _ = some x6)))).sm
     have hcl8:=ZhC (l:=l) (q:=x5) (n:=Yc x5) (Zgo (Yp hn (List.mem_of_getElem? (by assumption : _ = some x5))) (hok.2.2.2 _ (List.mem_of_getElem? (by assumption : _ = some x5)))).sm
     refine Z1 (k1 : Int) ((((ZP (Yc x6) x6 l).1).length : Nat) : Int) V V V (fun h24=>?_) (fun h24=>?_)
     ·refine WL.indexAddr (A47.mono L15) k1 (by omega) Yx Ym V V V V (fun p10 x10 U9 E9=>?_)
      obtain ⟨D12,C10,R19⟩:=E9
      have T24:=Yh R19
      obtain ⟨rfl,B142,B143⟩:=T24
      refine Zc S40 C10 [Zb x10.name,U x10.kind] Ym V V V V V ?_
      refine WL.alloc S40 Ym V V (fun b3 w36 N3 S41=>?_)
      refine ZY S41 0 [Zb x10.name,U x10.kind] V V Ym V V V V V V (fun w37 S42=>?_)
      have T25:=S42.shutB N3
      obtain ⟨G16,L16,C11,S43⟩:=T25
      refine Zw S43 ZaC V V V (Zfk S43.imm ((ZP (Yc x5) x5 l).1) (fun x8=>decide (x8.name = x10.name)) _ (A42.mono ((L14.trans L15).trans L16)) 163 #[.pointer (some (⟨b3,0,none⟩ : Addr))] ⟨Zdi,fun G8 w8 v8 x8 L8 hG8 hon8 hA8=>by obtain ⟨cs_x8,rfl,hr_x8⟩:=hA8; exact ZrG hG8 x8 x10.name x10.kind cs_x8 hr_x8 (⟨b3,0,none⟩ : Addr) (C11.mono L8)⟩) (fun w38 G17 S44 L17=>?_)
      refine Y9 (YP (fun x8=>decide (x8.name = x10.name)) ((ZP (Yc x5) x5 l).1)) 0 V V V (fun h25=>?_) (fun h25=>?_)
      ·have hib9 : ZM (YP (fun x8=>decide (x8.name = x10.name)) ((ZP (Yc x5) x5 l).1)):=ZoN hcl8
       refine ZT S44 3 _ _ _ 18 _ V V ZqV V V V ?_
       refine ZkG _ [(0,[U (YP (fun x8=>decide (x8.name = x10.name)) ((ZP (Yc x5) x5 l).1))]),(1,[U (k1 : Int)])] [U (YP (fun x8=>decide (x8.name = x10.name)) ((ZP (Yc x5) x5 l).1)),U (k1 : Int)] Zph Zsv Z3 V V V V ?_
       refine WL.buildSlice _ [(0,[U (YP (fun x8=>decide (x8.name = x10.name)) ((ZP (Yc x5) x5 l).1)),U (k1 : Int)])] [U (YP (fun x8=>decide (x8.name = x10.name)) ((ZP (Yc x5) x5 l).1)),U (k1 : Int)] S44 ZqY V V V V (fun z hz=>by match z,hz with | [z0,z1],_=>rfl) (fun b4 w39 N4 S45=>?_)
       refine WL.push (m:=([((YP (fun x8=>decide (x8.name = x10.name)) ((ZP (Yc x5) x5 l).1)),(k1 : Int))] : List (Int × Int))) ZqY V V V (R18.mono (L16.trans L17)) S45 1 V 0 _ _ _ _ _ V ⟨[U (YP (fun x8=>decide (x8.name = x10.name)) ((ZP (Yc x5) x5 l).1)),U (k1 : Int)],_,V,(Zoi ((YP (fun x8=>decide (x8.name = x10.name)) ((ZP (Yc x5) x5 l).1)),(k1 : Int)) hib9 (by (constructor <;> omega))),V⟩ V (by have:=Zm; simp only [Zau]; omega) (by have:=Zm; simp only [Zau]; omega) V V V (fun v53 o8 w40 R20 S46=>?_)
       have S47:=S46.tail
       refine WL.store S47 3 _ _ _ 18 _ [v53] (SV (ZA q) v10 v11 v12 v13 (U ((((acc ++ ZF l n x5 sp sm acc.length).length - 1) : Nat) : Int)) (U (((((acc ++ ZF l n x5 sp sm acc.length) ++ ZF l n x6 sp sm (acc ++ ZF l n x5 sp sm acc.length).length).length - 1) : Nat) : Int)) v53 (U 0) (U 0)) _ V R20.cells1 ZqV V (ZN V) (by simp only [ZW,R20.oneC] <;> rfl) V V V V V (fun w41 S48=>?_)
       refine ZC k1 (by have:=Zm; omega) V V V ?_
       exact BK.mk' _ ⟨k1 + 1,v53,o8,G17,V,(L15.trans (L16.trans L17)),S48,(YH.cast R20 (by (exact (ZrE ‹_› ‹_›).symm))),(Yt V),(by omega)⟩ (show (ZP (Yc x6) x6 l).1.length - (k1 + 1) < (ZP (Yc x6) x6 l).1.length - k1 by omega)
      refine ZC k1 (by have:=Zm; omega) V V V ?_
      exact BK.mk' _ ⟨k1 + 1,v52,o7,G17,V,(L15.trans (L16.trans L17)),S44,(YH.cast (R18.mono (L16.trans L17)) (by (exact (ZrF ‹_› ‹_›).symm))),(Yt V),(by omega)⟩ (show (ZP (Yc x6) x6 l).1.length - (k1 + 1) < (ZP (Yc x6) x6 l).1.length - k1 by omega)
     have T26:=YH.freeze R18 S40 0 V
     obtain ⟨G18,L18,A48,S49⟩:=T26
     have hP10 : St w0 [] G0 G18 (none :: some (b1,29,[U sp.a,U sp.b]) :: some (b2,56,(SV (ZA q) v10 v11 v12 v13 (U ((((acc ++ ZF l n x5 sp sm acc.length).length - 1) : Nat) : Int)) (U (((((acc ++ ZF l n x5 sp sm acc.length) ++ ZF l n x6 sp sm (acc ++ ZF l n x5 sp sm acc.length).length).length - 1) : Nat) : Int)) v52 (U 0) (U 0))) :: some (bb,(nat_lit 134),[vl,v43]) :: o6 :: R) w35:=St.pickT (A:=[none,some (bb,(nat_lit 134),[vl,v43]),o6,some (b2,56,(SV (ZA q) v10 v11 v12 v13 (U ((((acc ++ ZF l n x5 sp sm acc.length).length - 1) : Nat) : Int)) (U (((((acc ++ ZF l n x5 sp sm acc.length) ++ ZF l n x6 sp sm (acc ++ ZF l n x5 sp sm acc.length).length).length - 1) : Nat) : Int)) v52 (U 0) (U 0))),some (b1,29,[U sp.a,U sp.b])]) (R:=R) S49 [0,4,3,1,2]
     have S50:=hP10.tail
     have S51:=S50.tail
     have j15:=(((((L11.trans L12).trans L13).trans L14).trans L15).trans L18)
     exact ⟨b2,v10,v11,v12,v13,((((acc ++ ZF l n x5 sp sm acc.length).length - 1) : Nat) : Int),(((((acc ++ ZF l n x5 sp sm acc.length) ++ ZF l n x6 sp sm (acc ++ ZF l n x5 sp sm acc.length).length).length - 1) : Nat) : Int),v52,Zag (ZP (Yc x5) x5 l).1 ((ZP (Yc x6) x6 l).1.take k1) 0,0,0,v43,o6,((acc ++ ZF l n x5 sp sm acc.length) ++ ZF l n x6 sp sm (acc ++ ZF l n x5 sp sm acc.length).length),G18,(((j14.trans L14).trans L15).trans L18),S51,⟨V,V,trivial⟩,((A9.mono j15)),((A10.mono j15)),((A11.mono j15)),((A12.mono j15)),(A48),((R15.mono (((L13.trans L14).trans L15).trans L18))),(by have hk9 : Zb4 l q = Zag (ZP (Yc x5) x5 l).1 ((ZP (Yc x6) x6 l).1.take k1) 0:=(by rw [List.take_of_length_le (by omega)]; exact ZsB ‹_› ‹_› ‹_›); have A9 : spT q sp sm = (Span.mk 0 0):=(by exact ZgU (.inl (by omega))); have hd9 : ndT q sp sm = (sp,sm):=(by exact Zkw (by omega) (by omega)); have e9:=Zje (q:=q) (S:=l) (n:=n) (p:=sp) (s:=sm) (acc:=acc) (by omega) (by assumption : q.l[0]? = some x5) (by assumption : q.l[1]? = some x6) hd9; rw [hk9,A9] at e9; exact e9),(⟨(by constructor <;> omega),(by constructor <;> omega),Yr,Yr⟩)⟩
    have hP11 : St w0 [] G0 G12 (some (b1,29,[U sp.a,U sp.b]) :: some (b2,56,(SV (ZA q) v10 v11 v12 v13 (U ((((acc ++ ZF l n x5 sp sm acc.length).length - 1) : Nat) : Int)) (U (((((acc ++ ZF l n x5 sp sm acc.length) ++ ZF l n x6 sp sm (acc ++ ZF l n x5 sp sm acc.length).length).length - 1) : Nat) : Int)) (Zh) (U 0) (U 0))) :: some (bb,(nat_lit 134),[vl,v43]) :: o6 :: R) w30:=St.pickT (A:=[some (bb,(nat_lit 134),[vl,v43]),o6,some (b2,56,(SV (ZA q) v10 v11 v12 v13 (U ((((acc ++ ZF l n x5 sp sm acc.length).length - 1) : Nat) : Int)) (U (((((acc ++ ZF l n x5 sp sm acc.length) ++ ZF l n x6 sp sm (acc ++ ZF l n x5 sp sm acc.length).length).length - 1) : Nat) : Int)) (Zh) (U 0) (U 0))),some (b1,29,[U sp.a,U sp.b])]) (R:=R) S34 [3,2,0,1]
    have S52:=hP11.tail
    have j16:=(L11.trans L12)
    exact ⟨b2,v10,v11,v12,v13,((((acc ++ ZF l n x5 sp sm acc.length).length - 1) : Nat) : Int),(((((acc ++ ZF l n x5 sp sm acc.length) ++ ZF l n x6 sp sm (acc ++ ZF l n x5 sp sm acc.length).length).length - 1) : Nat) : Int),Zh,[],0,0,v43,o6,((acc ++ ZF l n x5 sp sm acc.length) ++ ZF l n x6 sp sm (acc ++ ZF l n x5 sp sm acc.length).length),G12,(j11.trans L12),S52,⟨V,V,trivial⟩,((A9.mono j16)),((A10.mono j16)),((A11.mono j16)),((A12.mono j16)),((Sl.nil ZaZ 16 G12)),(R15),(by have hk9 : Zb4 l q = []:=Zfw (by omega); have A9 : spT q sp sm = (Span.mk 0 0):=(by exact ZgU (.inl (by omega))); have hd9 : ndT q sp sm = (sp,sm):=(by exact Zkw (by omega) (by omega)); have e9:=Zje (q:=q) (S:=l) (n:=n) (p:=sp) (s:=sm) (acc:=acc) (by omega) (by assumption : q.l[0]? = some x5) (by assumption : q.l[1]? = some x6) hd9; rw [hk9,A9] at e9; exact e9),(⟨(by constructor <;> omega),(by constructor <;> omega),Yr,Yr⟩)⟩
   refine Za S31 (YC.drop 0 (C1.mono j10)) Z3 V V V ?_
   refine Zj q.kind 5 V V V (fun h26=>?_) (fun h26=>?_)
   ·exfalso; omega
   have hP12 : St w0 [] G0 G11 (some (b1,29,[U sp.a,U sp.b]) :: some (b2,56,(SV (ZA q) v10 v11 v12 v13 (U ((((acc ++ ZF l n x5 sp sm acc.length).length - 1) : Nat) : Int)) (U (-1)) (Zh) (U 0) (U 0))) :: some (bb,(nat_lit 134),[vl,v38]) :: o5 :: R) w27:=St.pickT (A:=[some (bb,(nat_lit 134),[vl,v38]),o5,some (b2,56,(SV (ZA q) v10 v11 v12 v13 (U ((((acc ++ ZF l n x5 sp sm acc.length).length - 1) : Nat) : Int)) (U (-1)) (Zh) (U 0) (U 0))),some (b1,29,[U sp.a,U sp.b])]) (R:=R) S31 [3,2,0,1]
   have S53:=hP12.tail
   exact ⟨b2,v10,v11,v12,v13,((((acc ++ ZF l n x5 sp sm acc.length).length - 1) : Nat) : Int),(-1),Zh,[],0,0,v38,o5,(acc ++ ZF l n x5 sp sm acc.length),G11,j11,S53,⟨V,V,trivial⟩,((A9.mono L11)),((A10.mono L11)),((A11.mono L11)),((A12.mono L11)),((Sl.nil ZaZ 16 G11)),(R13),(by have hk9 : Zb4 l q = []:=Zfw (by omega); have A9 : spT q sp sm = (Span.mk 0 0):=(by exact ZgU (.inl (by omega))); have hd9 : ndT q sp sm = (sp,sm):=(by exact Zkw (by omega) (by omega)); have e9:=Zms (q:=q) (S:=l) (n:=n) (p:=sp) (s:=sm) (acc:=acc) (by omega) (by assumption : q.l[0]? = some x5) hd9; rw [hk9,A9] at e9; exact e9),(⟨(by constructor <;> omega),(show ZM (-1) from by constructor <;> decide),Yr,Yr⟩)⟩
  exfalso; omega
 rintro ρ1 w1 ⟨b9,wA,wB,wC,wD,aA,bB,kv,ks,sA,sB,vR,oR9,aL,G1,L1,S1,F9,f1,f2,f3,f4,f5,f6,f7,f8⟩
 refine F9.set ?_
 obtain ⟨haA,hbB,hsA,hsB⟩:=f8
 have hst9:=f7
 have hal9:=congrArg List.length hst9
 simp only [Zau] at hal9
 refine drT [4,5,6,7,10] [(117, .pointer (some ⟨bb,0,none⟩)),(123, .pointer (some ⟨bb,0,none⟩))] S1 ⟨fun _=>WL.nilCheck _ V V <| nu V V,fun _=>WL.nilCheck _ V V <| nu V V,trivial⟩ (fun w42 S54=>?_)
 refine TG.fork 4 [4,5,6,7,10] [4,5] V V (by decide) (by decide) (TA.cons V ?_ (TA.cons V ?_ TA.nil))
 ·refine ZT S54 1 _ _ _ 1 _ V V Zca V V V ?_
  refine ⟨fun h=>absurd h (by decide),?_⟩
  refine TG.fork 3 [5,6,7,10] [5] V V (by decide) (by decide) (TA.cons V ?_ TA.nil)
  refine Zs S54 0 _ _ _ 0 (SV (ZA q) wA wB wC wD (U aA) (U bB) kv (U sA) (U sB)) V V V ZfD V V V ?_
  refine ⟨fun h=>absurd h (by decide),?_⟩
  refine TG.fork 2 [6,7,10] [6] V V (by decide) (by decide) (TA.cons V ?_ TA.nil)
  refine WL.buildSlice _ [(0,(SV (ZA q) wA wB wC wD (U aA) (U bB) kv (U sA) (U sB)))] (SV (ZA q) wA wB wC wD (U aA) (U bB) kv (U sA) (U sB)) S54 ZhS V V V V (fun z hz=>by match z,hz with | [z0,z1,z2,z3,z4,z5,z6,z7,z8,z9,z10,z11,z12,z13,z14,z15,z16,z17,z18,z19,z20],_=>rfl) (fun b5 w43 N5 S55=>?_)
  refine ⟨fun h=>absurd h (by decide),?_⟩
  refine TG.fork 1 [7,10] [7] V V (by decide) (by decide) (TA.cons V ?_ TA.nil)
  refine WL.push (m:=([(Stp.mk (ZA q) aA bB ks (Span.mk sA sB))] : List Stp)) ZhS V V V f6 S55 3 V 0 _ _ _ _ _ V ⟨(SV (ZA q) wA wB wC wD (U aA) (U bB) kv (U sA) (U sB)),_,V,(Zih (Stp.mk (ZA q) aA bB ks (Span.mk sA sB)) B1 B2 f1 f2 B3 B4 B5 B6 B7 ZK f3 hb9 Z9 Z7 Z6 f4 haA hbB f5 hsA hsB),V⟩ V (by have:=Zm; simp only [Zau]; omega) (by have:=Zm; simp only [Zau]; omega) V V V (fun v54 o9 w44 R21 S56=>?_)
  have S57:=S56.tail
  refine ⟨fun h=>absurd h (by decide),?_⟩
  refine TG.fork 0 [10] [10] V V (by decide) (by decide) (TA.cons V ?_ TA.nil)
  refine WL.store S57 1 _ _ _ 1 _ [v54] [vl,v54] _ V R21.cells1 Zca V (ZN V) (by simp only [ZW,R21.oneC] <;> rfl) V V V V V (fun w45 S58=>?_)
  refine ⟨fun h=>absurd h (by decide),?_⟩
  refine TG.fin V ?_
  refine WL.nilCheck _ V V <| ZT S58 1 _ _ _ 1 _ V V Zca V V V ?_
  have V14:=R21.bound
  refine ZdS R21 ZfF V V ?_
  refine ZeL ((aL ++ [(Stp.mk (ZA q) aA bB ks (Span.mk sA sB))]).length) (by simp only [List.length_append,List.length_cons]; omega) (by have:=Zm; simp only [Zau]; omega) V V V ?_
  have S59:=S58.tail
  exact ⟨_,V,G1,v54,o9,(congrArg (fun x9=>Ending.returned (Value.int .i64 x9)) (by rw [hst9])),L1,S59,(YH.cast R21 (by exact hst9))⟩
 refine Zs S54 0 _ _ _ 0 (SV (ZA q) wA wB wC wD (U aA) (U bB) kv (U sA) (U sB)) V V V ZfD V V V ?_
 refine ⟨fun h=>absurd h (by decide),?_⟩
 refine TG.fork 3 [4,6,7,10] [4,6] V V (by decide) (by decide) (TA.cons V ?_ (TA.cons V ?_ TA.nil))
 ·refine ZT S54 1 _ _ _ 1 _ V V Zca V V V ?_
  refine ⟨fun h=>absurd h (by decide),?_⟩
  refine TG.fork 2 [6,7,10] [6] V V (by decide) (by decide) (TA.cons V ?_ TA.nil)
  refine WL.buildSlice _ [(0,(SV (ZA q) wA wB wC wD (U aA) (U bB) kv (U sA) (U sB)))] (SV (ZA q) wA wB wC wD (U aA) (U bB) kv (U sA) (U sB)) S54 ZhS V V V V (fun z hz=>by match z,hz with | [z0,z1,z2,z3,z4,z5,z6,z7,z8,z9,z10,z11,z12,z13,z14,z15,z16,z17,z18,z19,z20],_=>rfl) (fun b6 w46 N6 S60=>?_)
  refine ⟨fun h=>absurd h (by decide),?_⟩
  refine TG.fork 1 [7,10] [7] V V (by decide) (by decide) (TA.cons V ?_ TA.nil)
  refine WL.push (m:=([(Stp.mk (ZA q) aA bB ks (Span.mk sA sB))] : List Stp)) ZhS V V V f6 S60 3 V 0 _ _ _ _ _ V ⟨(SV (ZA q) wA wB wC wD (U aA) (U bB) kv (U sA) (U sB)),_,V,(Zih (Stp.mk (ZA q) aA bB ks (Span.mk sA sB)) B1 B2 f1 f2 B3 B4 B5 B6 B7 ZK f3 hb9 Z9 Z7 Z6 f4 haA hbB f5 hsA hsB),V⟩ V (by have:=Zm; simp only [Zau]; omega) (by have:=Zm; simp only [Zau]; omega) V V V (fun v55 o10 w47 R22 S61=>?_)
  have S62:=S61.tail
  refine ⟨fun h=>absurd h (by decide),?_⟩
  refine TG.fork 0 [10] [10] V V (by decide) (by decide) (TA.cons V ?_ TA.nil)
  refine WL.store S62 1 _ _ _ 1 _ [v55] [vl,v55] _ V R22.cells1 Zca V (ZN V) (by simp only [ZW,R22.oneC] <;> rfl) V V V V V (fun w48 S63=>?_)
  refine ⟨fun h=>absurd h (by decide),?_⟩
  refine TG.fin V ?_
  refine WL.nilCheck _ V V <| ZT S63 1 _ _ _ 1 _ V V Zca V V V ?_
  have V15:=R22.bound
  refine ZdS R22 ZfF V V ?_
  refine ZeL ((aL ++ [(Stp.mk (ZA q) aA bB ks (Span.mk sA sB))]).length) (by simp only [List.length_append,List.length_cons]; omega) (by have:=Zm; simp only [Zau]; omega) V V V ?_
  have S64:=S63.tail
  exact ⟨_,V,G1,v55,o10,(congrArg (fun x9=>Ending.returned (Value.int .i64 x9)) (by rw [hst9])),L1,S64,(YH.cast R22 (by exact hst9))⟩
 refine WL.buildSlice _ [(0,(SV (ZA q) wA wB wC wD (U aA) (U bB) kv (U sA) (U sB)))] (SV (ZA q) wA wB wC wD (U aA) (U bB) kv (U sA) (U sB)) S54 ZhS V V V V (fun z hz=>by match z,hz with | [z0,z1,z2,z3,z4,z5,z6,z7,z8,z9,z10,z11,z12,z13,z14,z15,z16,z17,z18,z19,z20],_=>rfl) (fun b7 w49 N7 S65=>?_)
 refine ⟨fun h=>absurd h (by decide),?_⟩
 refine TG.fork 2 [4,7,10] [4] V V (by decide) (by decide) (TA.cons V ?_ TA.nil)
 refine ZT S65 2 _ _ _ 1 _ V V Zca V V V ?_
 refine ⟨fun h=>absurd h (by decide),?_⟩
 refine TG.fork 1 [7,10] [7] V V (by decide) (by decide) (TA.cons V ?_ TA.nil)
 refine WL.push (m:=([(Stp.mk (ZA q) aA bB ks (Span.mk sA sB))] : List Stp)) ZhS V V V f6 S65 3 V 0 _ _ _ _ _ V ⟨(SV (ZA q) wA wB wC wD (U aA) (U bB) kv (U sA) (U sB)),_,V,(Zih (Stp.mk (ZA q) aA bB ks (Span.mk sA sB)) B1 B2 f1 f2 B3 B4 B5 B6 B7 ZK f3 hb9 Z9 Z7 Z6 f4 haA hbB f5 hsA hsB),V⟩ V (by have:=Zm; simp only [Zau]; omega) (by have:=Zm; simp only [Zau]; omega) V V V (fun v56 o11 w50 R23 S66=>?_)
 have S67:=S66.tail
 refine ⟨fun h=>absurd h (by decide),?_⟩
 refine TG.fork 0 [10] [10] V V (by decide) (by decide) (TA.cons V ?_ TA.nil)
 refine WL.store S67 1 _ _ _ 1 _ [v56] [vl,v56] _ V R23.cells1 Zca V (ZN V) (by simp only [ZW,R23.oneC] <;> rfl) V V V V V (fun w51 S68=>?_)
 refine ⟨fun h=>absurd h (by decide),?_⟩
 refine TG.fin V ?_
 refine WL.nilCheck _ V V <| ZT S68 1 _ _ _ 1 _ V V Zca V V V ?_
 have V16:=R23.bound
 refine ZdS R23 ZfF V V ?_
 refine ZeL ((aL ++ [(Stp.mk (ZA q) aA bB ks (Span.mk sA sB))]).length) (by simp only [List.length_append,List.length_cons]; omega) (by have:=Zm; simp only [Zau]; omega) V V V ?_
 have S69:=S68.tail
 exact ⟨_,V,G1,v56,o11,(congrArg (fun x9=>Ending.returned (Value.int .i64 x9)) (by rw [hst9])),L1,S69,(YH.cast R23 (by exact hst9))⟩
end Go.Civ
