/- Lemmas. -/
import Derived.Test.YtecneejegecmhaaGreatDoorK35
set_option linter.unusedVariables false
set_option linter.unusedSimpArgs false
set_option linter.unusedVariables false
set_option linter.unusedSimpArgs false
set_option maxRecDepth 100000
set_option maxHeartbeats 4000000
namespace Go.Civ
open Go.Proofs
theorem ZxC (n : Nat) : ∀ {w0 : World} {G0 G : GH} {w : World} {R : Own} (q : Query) (sp : Span) (sm : Bool) (l : List Schema) (acc : List Stp) (bb : Nat) (vl vo : Value) (ro : OB) (hvl : Sl Qv 72 G vl l) (hvo : YX StpE 280 (nat_lit 42) G vo acc ro) (hS : St w0 [] G0 G (some (bb,(nat_lit 89),[vl,vo]) :: ro :: R) w) (hg : Glob G) (cq : List Value) (hcq : QryE.rep G q cq) (cp : List Value) (hcp : SpanE.rep G sp cp) (hn : Xx q n) (hok : okQ n q) (hle : acc.length + (YS l n q sp sm acc.length).length ≤ 1000000) (hs : Sim q),Calls Tryz.prog (nat_lit 37) #[.pointer (some ⟨bb,0,none⟩), .agg cq.toArray, .agg cp.toArray, .bool sm] w fun e9 w9=>∃ (G9 : GH) (v9 : Value) (o9 : OB),e9 = .returned (U (((acc ++ (YS l n q sp sm acc.length)).length - 1 : Nat) : Int)) ∧ G.le G9 ∧ St w0 [] G0 G9 (some (bb,(nat_lit 89),[vl,v9]) :: o9 :: R) w9 ∧ YX StpE 280 (nat_lit 42) G9 v9 (acc ++ (YS l n q sp sm acc.length)) o9:=by
 induction n
 ·intro w0 G0 G w R q sp sm l acc bb vl vo ro hvl hvo hS hg cq hcq cp hcp hn hok hle hs; exact (hok).elim
 rename_i n ih
 intro w0 G0 G w R q sp sm l acc bb vl vo ro hvl hvo hS hg cq hcq cp hcp hn hok hle hs
 have hg0:=hg
 obtain ⟨⟨rv,hrc,hrs⟩,hac⟩:=hg0
 have hpl:=Zsm hok
 have har:=Zy0 hpl
 have T1:=Zs hcq
 obtain ⟨v1,v2,v3,v4,rfl,B1,B2,A1,A2,Z7,Z5,ZD,hb6,hb7,ZV,A3,hb9,ZI,ZJ,ZL,A4⟩:=T1
 have T2:=QH hcp
 obtain ⟨rfl,Y0,Y6⟩:=T2
 refine ZlS ft 25 (fun ρ1 w1=>∃ (b9 : Nat),∃ (wA : Value),∃ (wB : Value),∃ (wC : Value),∃ (wD : Value),∃ (aA : Int),∃ (bB : Int),∃ (kv : Value),∃ (ks : List (Int × Int)),∃ (sA : Int),∃ (sB : Int),∃ (vR : Value),∃ (oR9 : OB),∃ (aL : List Stp),∃ (G1 : GH),G.le G1 ∧ St w0 [] G0 G1 (some (b9,42,(SV (ZU q) wA wB wC wD (U aA) (U bB) kv (U sA) (U sB))) :: some (bb,(nat_lit 89),[vl,vR]) :: oR9 :: R) w1 ∧ FR ρ1 [(0, .pointer (some ⟨bb,0,none⟩)),(9, .pointer (some ⟨b9,0,none⟩))] ∧ Sl Enc.str 16 G1 wA (ZU q).cols ∧ Sl Enc.str 16 G1 wB (ZU q).names ∧ Sl CndE 96 G1 wC (ZU q).cond.l ∧ Sl QryE 224 G1 wD (ZU q).l ∧ Sl PairE 16 G1 kv ks ∧ YX StpE 280 (nat_lit 42) G1 vR aL oR9 ∧ aL ++ [Stp.mk (ZU q) aA bB ks (Span.mk sA sB)] = acc ++ (YS l (n + 1) q sp sm acc.length) ∧ (Zj aA ∧ Zj bB ∧ Zj sA ∧ Zj sB)) Tryz.func37 V V V ?_ ?_
 ·refine Z4 (QV q v1 v2 v3 v4) _ hS V V V (fun p1 w2 G2 L2 M1 C1 S2=>?_)
  refine WL.box [U sp.a,U sp.b] _ S2 V V V (fun b1 w3 N1 S3=>?_)
  refine Zc S3 C1 (QV q v1 v2 v3 v4) Zt V V V V V ?_
  refine Yq S3 Zho V V V (ZiT S3.imm q _ (Zr q B1 B2 (A1.mono L2) (A2.mono L2) Z7 Z5 ZD hb6 hb7 ZV (A3.mono L2) hb9 ZI ZJ ZL (A4.mono L2))) (fun w4 G3 r1 P1 S4 L3=>?_)
  obtain ⟨D1,rfl,R1⟩:=P1
  have T3:=Zs R1
  obtain ⟨v5,v6,v7,v9,rfl,YA,Y9,A5,A6,Yr,YH,YJ,YO,Xf,Xg,A7,YK,Xc,XR,Qa,A8⟩:=T3
  refine Yq S4 Zck V V V (Zev (Y7 (ZU q)) S4.imm (ZU q) _ (Zr (ZU q) YA Y9 A5 A6 Yr YH YJ YO Xf Xg A7 YK Xc XR Qa A8) (QI _)) (fun w5 G4 r2 P2 S5 L4=>?_)
  obtain ⟨D2,rfl,R2⟩:=P2
  have T4:=Zs R2
  obtain ⟨v10,v11,v12,v13,rfl,Qh,Q0,A9,A10,Qs,Q1,Qb,Xw,Qt,XS,A11,Qc,ZcR,Zbd,Zb0,A12⟩:=T4
  refine WL.build _ [(0,(QV (ZU q) v10 v11 v12 v13)),(1,[U (-1)]),(2,[U (-1)])] (SV (ZU q) v10 v11 v12 v13 (U (-1)) (U (-1)) (Zf) (U 0) (U 0)) XQ V Z1s V V V V ?_
  refine WL.alloc S5 XQ V V (fun b2 w6 N2 S6=>?_)
  refine WL.store S6 0 _ _ _ 0 _ (SV (ZU q) v10 v11 v12 v13 (U (-1)) (U (-1)) (Zf) (U 0) (U 0)) (SV (ZU q) v10 v11 v12 v13 (U (-1)) (U (-1)) (Zf) (U 0) (U 0)) _ V V XQ V (ZZ V) (by simp only [YE,A9.oneC,A10.oneC,A11.oneC,A12.oneC] <;> rfl) V V V V V (fun w7 S7=>?_)
  have j1:=(L3.trans L4)
  refine Z S7 (Xh.drop 0 (C1.mono j1)) Zk V V V ?_
  refine Ze q.kind 1 V V V (fun h1=>?_) (fun h1=>?_)
  ·refine ZgX (d:=3) V (fun (h2 : sm = true)=>?_) (fun (h2 : sm = false)=>?_)
   ·refine Yp S7 1 _ _ _ 0 [U sp.a,U sp.b] V V V Y5 V V V ?_
    refine WL.store S7 0 _ _ _ 19 _ [U sp.a,U sp.b] (SV (ZU q) v10 v11 v12 v13 (U (-1)) (U (-1)) (Zf) (U sp.a) (U sp.b)) _ V V Y5 V (ZZ V) V V V V V V (fun w9 S8=>?_)
    refine Z S8 (Xh.drop 15 (C1.mono j1)) Yu V V V ?_
    have V1:=A4.bound
    have j2:=((L2.trans L3).trans L4)
    refine Zm (A4.mono j2) Y1 V V ?_
    refine Z1 (q.l.length : Int) 0 V V V (fun h3=>?_) (fun h3=>?_)
    ·exfalso; have h9:=hs.kd; have h8:=hs.len; omega
    refine Z S8 (Xh.drop 15 (C1.mono j1)) Yu V V V ?_
    have V2:=A4.bound
    refine Zm (A4.mono j2) Y1 V V ?_
    refine Z1 (q.l.length : Int) 1 V V V (fun h4=>?_) (fun h4=>?_)
    ·exfalso; have h9:=hs.kd; have h8:=hs.len; omega
    refine Z S8 (Xh.drop 0 (C1.mono j1)) Zk V V V ?_
    refine Ze q.kind 5 V V V (fun h5=>?_) (fun h5=>?_)
    ·exfalso; have h9:=hs.kd; have h8:=hs.len; omega
    have hP1 : St w0 [] G0 G4 (some (b1,36,[U sp.a,U sp.b]) :: some (b2,42,(SV (ZU q) v10 v11 v12 v13 (U (-1)) (U (-1)) (Zf) (U sp.a) (U sp.b))) :: some (bb,(nat_lit 89),[vl,vo]) :: ro :: R) w9:=St.pickT (A:=[some (b2,42,(SV (ZU q) v10 v11 v12 v13 (U (-1)) (U (-1)) (Zf) (U sp.a) (U sp.b))),some (b1,36,[U sp.a,U sp.b]),some (bb,(nat_lit 89),[vl,vo]),ro]) (R:=R) S8 [1,0,2,3]
    have S9:=hP1.tail
    exact ⟨b2,v10,v11,v12,v13,(-1),(-1),Zf,[],sp.a,sp.b,vo,ro,acc,G4,j2,S9,⟨V,V,trivial⟩,(A9),(A10),(A11),(A12),((Sl.nil PairE 16 G4)),((hvo.mono j2)),(by have hk9 : Zef l q = []:=ZhZ (by omega); have A9 : spT q sp sm = sp:=Z0V ‹_› ‹_›; have e9:=ZsN (q:=q) (S:=l) (n:=n) (p:=sp) (s:=sm) (acc:=acc) (by omega) ; rw [hk9,A9] at e9; exact e9),(⟨(show Zj (-1) from by constructor <;> decide),(show Zj (-1) from by constructor <;> decide),Y0,Y6⟩)⟩
   refine Z S7 (Xh.drop 15 (C1.mono j1)) Yu V V V ?_
   have V3:=A4.bound
   have j3:=((L2.trans L3).trans L4)
   refine Zm (A4.mono j3) Y1 V V ?_
   refine Z1 (q.l.length : Int) 0 V V V (fun h6=>?_) (fun h6=>?_)
   ·exfalso; have h9:=hs.kd; have h8:=hs.len; omega
   refine Z S7 (Xh.drop 15 (C1.mono j1)) Yu V V V ?_
   have V4:=A4.bound
   refine Zm (A4.mono j3) Y1 V V ?_
   refine Z1 (q.l.length : Int) 1 V V V (fun h7=>?_) (fun h7=>?_)
   ·exfalso; have h9:=hs.kd; have h8:=hs.len; omega
   refine Z S7 (Xh.drop 0 (C1.mono j1)) Zk V V V ?_
   refine Ze q.kind 5 V V V (fun h8=>?_) (fun h8=>?_)
   ·exfalso; have h9:=hs.kd; have h8:=hs.len; omega
   have hP2 : St w0 [] G0 G4 (some (b1,36,[U sp.a,U sp.b]) :: some (b2,42,(SV (ZU q) v10 v11 v12 v13 (U (-1)) (U (-1)) (Zf) (U 0) (U 0))) :: some (bb,(nat_lit 89),[vl,vo]) :: ro :: R) w7:=St.pickT (A:=[some (b2,42,(SV (ZU q) v10 v11 v12 v13 (U (-1)) (U (-1)) (Zf) (U 0) (U 0))),some (b1,36,[U sp.a,U sp.b]),some (bb,(nat_lit 89),[vl,vo]),ro]) (R:=R) S7 [1,0,2,3]
   have S10:=hP2.tail
   exact ⟨b2,v10,v11,v12,v13,(-1),(-1),Zf,[],0,0,vo,ro,acc,G4,j3,S10,⟨V,V,trivial⟩,(A9),(A10),(A11),(A12),((Sl.nil PairE 16 G4)),((hvo.mono j3)),(by have hk9 : Zef l q = []:=ZhZ (by omega); have A9 : spT q sp sm = (Span.mk 0 0):=(by exact ZnC (.inr ‹_›)); have e9:=ZsN (q:=q) (S:=l) (n:=n) (p:=sp) (s:=sm) (acc:=acc) (by omega) ; rw [hk9,A9] at e9; exact e9),(⟨(show Zj (-1) from by constructor <;> decide),(show Zj (-1) from by constructor <;> decide),Yf,Yf⟩)⟩
  refine Ze q.kind 8 V V V (fun h9=>?_) (fun h9=>?_)
  ·refine ZgX (d:=3) V (fun (h10 : sm = true)=>?_) (fun (h10 : sm = false)=>?_)
   ·refine Yp S7 1 _ _ _ 0 [U sp.a,U sp.b] V V V Y5 V V V <| Zc S7 (Xh.drop 13 (C1.mono j1)) [U q.span.a,U q.span.b] Y5 V V V V V <| Yq S7 ZiL V V V (ZmX S7.imm sp q.span _ (QD sp Y0 Y6) _ (QD q.span ZJ ZL)) ?_
    rintro w10 G5 _ ⟨r4,_,rfl,A13,rfl⟩ S11 L5
    obtain ⟨D3,rfl,R3⟩:=A13
    have T5:=QH R3
    obtain ⟨rfl,Zb1,Zb2⟩:=T5
    refine Z9 S11 1 [U (((ZX sp q.span).1).a),U (((ZX sp q.span).1).b)] V V Y5 V V V V V V (fun w11 S12=>?_)
    have j4:=(j1.trans L5)
    refine Z S12 (Xh.drop 15 (C1.mono j4)) Yu V V V ?_
    have V5:=A4.bound
    have j5:=(((L2.trans L3).trans L4).trans L5)
    refine Zm (A4.mono j5) Y1 V V ?_
    refine Z1 (q.l.length : Int) 0 V V V (fun h11=>?_) (fun h11=>?_)
    ·have T6:=Sl.at (A4.mono j5) 0 (by omega)
     obtain ⟨p2,x1,U1,E1,W1⟩:=T6
     obtain ⟨D4,C2,R4⟩:=E1
     have T7:=Zs R4
     obtain ⟨v14,v15,v16,v17,rfl,Zb3,Zbe,A14,A15,Zcl,Zcm,Zc2,Zc3,Zd0,Zd1,A16,Zd2,Zgc,Zfc,Zei,A17⟩:=T7
     refine dr [(7,false),(9,false)] [(47,v4),(48,ZP p2),(49, .agg (QV x1 v14 v15 v16 v17).toArray),(50, .agg #[U (((ZX sp q.span).1).a),U (((ZX sp q.span).1).b)])] S12 ⟨fun _ hSw=>Z hSw (Xh.drop 15 (C1.mono j4)) Yu V V V <| nu V V,fun _=>Zy 0 W1 Y1 Zt V V V V <| nu V V,fun _ hSw=>Zc hSw C2 (QV x1 v14 v15 v16 v17) Zt V V V V V <| nu V V,fun _ hSw=>Yp hSw 1 _ _ _ 0 [U (((ZX sp q.span).1).a),U (((ZX sp q.span).1).b)] V V V Y5 V V V <| nu V V,trivial⟩ (fun w12 S13=>?_)
     have hP3 : St w0 [] G0 G5 (some (bb,(nat_lit 89),[vl,vo]) :: ro :: some (b2,42,(SV (ZU q) v10 v11 v12 v13 (U (-1)) (U (-1)) (Zf) (U 0) (U 0))) :: some (b1,36,[U (((ZX sp q.span).1).a),U (((ZX sp q.span).1).b)]) :: R) w12:=St.pickT (A:=[some (b2,42,(SV (ZU q) v10 v11 v12 v13 (U (-1)) (U (-1)) (Zf) (U 0) (U 0))),some (b1,36,[U (((ZX sp q.span).1).a),U (((ZX sp q.span).1).b)]),some (bb,(nat_lit 89),[vl,vo]),ro]) (R:=R) S13 [2,3,0,1]
     have hq1 : acc.length + (YS l n x1 ((ZX sp q.span).1) ((ZX sp q.span).2) acc.length).length ≤ 999999:=by exact ZiA (q:=q) (by assumption : q.l[0]? = some x1) (p':=((ZX sp q.span).1)) (s':=((ZX sp q.span).2)) (by exact ZsL ‹_› ‹_›) hle
     have hv1 : (acc ++ YS l n x1 ((ZX sp q.span).1) ((ZX sp q.span).2) acc.length).length ≤ 999999:=by rw [List.length_append]; exact hq1
     refine X3 [.pointer (some ⟨bb,0,none⟩), .agg (QV x1 v14 v15 v16 v17).toArray, .agg #[U (((ZX sp q.span).1).a),U (((ZX sp q.span).1).b)], .bool ((ZX sp q.span).2)] #[] Zbc V V V ((ih x1 ((ZX sp q.span).1) ((ZX sp q.span).2) l acc _ _ _ _ (hvl.mono j5) (hvo.mono j5) hP3 (hg.mono j5) _ (Zr x1 Zb3 Zbe A14 A15 Zcl Zcm Zc2 Zc3 Zd0 Zd1 A16 Zd2 Zgc Zfc Zei A17) _ (QD ((ZX sp q.span).1) Zb1 Zb2) (XN hn (List.mem_of_getElem? (by assumption : q.l[0]? = some x1))) (hok.2.2.2 _ (List.mem_of_getElem? (by assumption : q.l[0]? = some x1))) (Nat.le_trans hq1 (by decide)) (hs.kid (List.mem_of_getElem? (by assumption : q.l[0]? = some x1)))).mono ?_)
     rintro e3 w13 ⟨G6,v18,o1,rfl,L6,S14,R5⟩
     refine ⟨_,V,?_⟩
     refine WL.store S14 2 _ _ _ 16 _ [U ((((acc ++ YS l n x1 ((ZX sp q.span).1) ((ZX sp q.span).2) acc.length).length - 1) : Nat) : Int)] (SV (ZU q) v10 v11 v12 v13 (U ((((acc ++ YS l n x1 ((ZX sp q.span).1) ((ZX sp q.span).2) acc.length).length - 1) : Nat) : Int)) (U (-1)) (Zf) (U 0) (U 0)) _ V V Zk V (ZZ V) V V V V V V (fun w14 S15=>?_)
     refine Z S15 (Xh.drop 15 (C1.mono (j4.trans L6))) Yu V V V ?_
     have V6:=A4.bound
     refine Zm (A4.mono (j5.trans L6)) Y1 V V ?_
     refine Z1 (q.l.length : Int) 1 V V V (fun h12=>?_) (fun h12=>?_)
     ·exfalso; have h9:=hs.kd; have h8:=hs.len; omega
     refine Z S15 (Xh.drop 0 (C1.mono (j4.trans L6))) Zk V V V ?_
     refine Ze q.kind 5 V V V (fun h13=>?_) (fun h13=>?_)
     ·exfalso; have h9:=hs.kd; have h8:=hs.len; omega
     have hP4 : St w0 [] G0 G6 (some (b1,36,[U (((ZX sp q.span).1).a),U (((ZX sp q.span).1).b)]) :: some (b2,42,(SV (ZU q) v10 v11 v12 v13 (U ((((acc ++ YS l n x1 ((ZX sp q.span).1) ((ZX sp q.span).2) acc.length).length - 1) : Nat) : Int)) (U (-1)) (Zf) (U 0) (U 0))) :: some (bb,(nat_lit 89),[vl,v18]) :: o1 :: R) w14:=St.pickT (A:=[some (bb,(nat_lit 89),[vl,v18]),o1,some (b2,42,(SV (ZU q) v10 v11 v12 v13 (U ((((acc ++ YS l n x1 ((ZX sp q.span).1) ((ZX sp q.span).2) acc.length).length - 1) : Nat) : Int)) (U (-1)) (Zf) (U 0) (U 0))),some (b1,36,[U (((ZX sp q.span).1).a),U (((ZX sp q.span).1).b)])]) (R:=R) S15 [3,2,0,1]
     have S16:=hP4.tail
     have j6:=(L5.trans L6)
     exact ⟨b2,v10,v11,v12,v13,((((acc ++ YS l n x1 ((ZX sp q.span).1) ((ZX sp q.span).2) acc.length).length - 1) : Nat) : Int),(-1),Zf,[],0,0,v18,o1,(acc ++ YS l n x1 ((ZX sp q.span).1) ((ZX sp q.span).2) acc.length),G6,(j5.trans L6),S16,⟨V,V,trivial⟩,((A9.mono j6)),((A10.mono j6)),((A11.mono j6)),((A12.mono j6)),((Sl.nil PairE 16 G6)),(R5),(by have hk9 : Zef l q = []:=ZhZ (by omega); have A9 : spT q sp sm = (Span.mk 0 0):=(by exact ZnC (.inl (by omega))); have hd9 : ndT q sp sm = (((ZX sp q.span).1),((ZX sp q.span).2)):=(by exact ZsL ‹_› ‹_›); have e9:=ZnD (q:=q) (S:=l) (n:=n) (p:=sp) (s:=sm) (acc:=acc) (by omega) (by assumption : q.l[0]? = some x1) hd9; rw [hk9,A9] at e9; exact e9),(⟨(by constructor <;> omega),(show Zj (-1) from by constructor <;> decide),Yf,Yf⟩)⟩
    exfalso; have h9:=hs.kd; have h8:=hs.len; omega
   refine Z S7 (Xh.drop 15 (C1.mono j1)) Yu V V V ?_
   have V7:=A4.bound
   have j7:=((L2.trans L3).trans L4)
   refine Zm (A4.mono j7) Y1 V V ?_
   refine Z1 (q.l.length : Int) 0 V V V (fun h14=>?_) (fun h14=>?_)
   ·have T8:=Sl.at (A4.mono j7) 0 (by omega)
    obtain ⟨p3,x2,U2,E2,W2⟩:=T8
    obtain ⟨D5,C3,R6⟩:=E2
    have T9:=Zs R6
    obtain ⟨v19,v20,v21,v22,rfl,Zfd,Zej,A18,A19,Zek,Zel,Zfe,Zff,Zcn,Zfg,A20,hb64,Zfh,Zbf,Zd3,A21⟩:=T9
    refine dr [(7,false),(9,false)] [(47,v4),(48,ZP p3),(49, .agg (QV x2 v19 v20 v21 v22).toArray),(50, .agg #[U sp.a,U sp.b])] S7 ⟨fun _ hSw=>Z hSw (Xh.drop 15 (C1.mono j1)) Yu V V V <| nu V V,fun _=>Zy 0 W2 Y1 Zt V V V V <| nu V V,fun _ hSw=>Zc hSw C3 (QV x2 v19 v20 v21 v22) Zt V V V V V <| nu V V,fun _ hSw=>Yp hSw 1 _ _ _ 0 [U sp.a,U sp.b] V V V Y5 V V V <| nu V V,trivial⟩ (fun w15 S17=>?_)
    have hP5 : St w0 [] G0 G4 (some (bb,(nat_lit 89),[vl,vo]) :: ro :: some (b2,42,(SV (ZU q) v10 v11 v12 v13 (U (-1)) (U (-1)) (Zf) (U 0) (U 0))) :: some (b1,36,[U sp.a,U sp.b]) :: R) w15:=St.pickT (A:=[some (b2,42,(SV (ZU q) v10 v11 v12 v13 (U (-1)) (U (-1)) (Zf) (U 0) (U 0))),some (b1,36,[U sp.a,U sp.b]),some (bb,(nat_lit 89),[vl,vo]),ro]) (R:=R) S17 [2,3,0,1]
    have hq2 : acc.length + (YS l n x2 sp false acc.length).length ≤ 999999:=by exact ZiA (q:=q) (by assumption : q.l[0]? = some x2) (p':=sp) (s':=false) (by exact ZsM ‹_› ‹_›) hle
    have hv2 : (acc ++ YS l n x2 sp false acc.length).length ≤ 999999:=by rw [List.length_append]; exact hq2
    refine X3 [.pointer (some ⟨bb,0,none⟩), .agg (QV x2 v19 v20 v21 v22).toArray, .agg #[U sp.a,U sp.b], .bool false] #[] Zbc V V V ((ih x2 sp false l acc _ _ _ _ (hvl.mono j7) (hvo.mono j7) hP5 (hg.mono j7) _ (Zr x2 Zfd Zej A18 A19 Zek Zel Zfe Zff Zcn Zfg A20 hb64 Zfh Zbf Zd3 A21) _ (QD sp Y0 Y6) (XN hn (List.mem_of_getElem? (by assumption : q.l[0]? = some x2))) (hok.2.2.2 _ (List.mem_of_getElem? (by assumption : q.l[0]? = some x2))) (Nat.le_trans hq2 (by decide)) (hs.kid (List.mem_of_getElem? (by assumption : q.l[0]? = some x2)))).mono ?_)
    rintro e4 w16 ⟨G7,v23,o2,rfl,L7,S18,R7⟩
    refine ⟨_,V,?_⟩
    refine WL.store S18 2 _ _ _ 16 _ [U ((((acc ++ YS l n x2 sp false acc.length).length - 1) : Nat) : Int)] (SV (ZU q) v10 v11 v12 v13 (U ((((acc ++ YS l n x2 sp false acc.length).length - 1) : Nat) : Int)) (U (-1)) (Zf) (U 0) (U 0)) _ V V Zk V (ZZ V) V V V V V V (fun w17 S19=>?_)
    refine Z S19 (Xh.drop 15 (C1.mono (j1.trans L7))) Yu V V V ?_
    have V8:=A4.bound
    refine Zm (A4.mono (j7.trans L7)) Y1 V V ?_
    refine Z1 (q.l.length : Int) 1 V V V (fun h15=>?_) (fun h15=>?_)
    ·exfalso; have h9:=hs.kd; have h8:=hs.len; omega
    refine Z S19 (Xh.drop 0 (C1.mono (j1.trans L7))) Zk V V V ?_
    refine Ze q.kind 5 V V V (fun h16=>?_) (fun h16=>?_)
    ·exfalso; have h9:=hs.kd; have h8:=hs.len; omega
    have hP6 : St w0 [] G0 G7 (some (b1,36,[U sp.a,U sp.b]) :: some (b2,42,(SV (ZU q) v10 v11 v12 v13 (U ((((acc ++ YS l n x2 sp false acc.length).length - 1) : Nat) : Int)) (U (-1)) (Zf) (U 0) (U 0))) :: some (bb,(nat_lit 89),[vl,v23]) :: o2 :: R) w17:=St.pickT (A:=[some (bb,(nat_lit 89),[vl,v23]),o2,some (b2,42,(SV (ZU q) v10 v11 v12 v13 (U ((((acc ++ YS l n x2 sp false acc.length).length - 1) : Nat) : Int)) (U (-1)) (Zf) (U 0) (U 0))),some (b1,36,[U sp.a,U sp.b])]) (R:=R) S19 [3,2,0,1]
    have S20:=hP6.tail
    exact ⟨b2,v10,v11,v12,v13,((((acc ++ YS l n x2 sp false acc.length).length - 1) : Nat) : Int),(-1),Zf,[],0,0,v23,o2,(acc ++ YS l n x2 sp false acc.length),G7,(j7.trans L7),S20,⟨V,V,trivial⟩,((A9.mono L7)),((A10.mono L7)),((A11.mono L7)),((A12.mono L7)),((Sl.nil PairE 16 G7)),(R7),(by have hk9 : Zef l q = []:=ZhZ (by omega); have A9 : spT q sp sm = (Span.mk 0 0):=(by exact ZnC (.inl (by omega))); have hd9 : ndT q sp sm = (sp,false):=(by exact ZsM ‹_› ‹_›); have e9:=ZnD (q:=q) (S:=l) (n:=n) (p:=sp) (s:=sm) (acc:=acc) (by omega) (by assumption : q.l[0]? = some x2) hd9; rw [hk9,A9] at e9; exact e9),(⟨(by constructor <;> omega),(show Zj (-1) from by constructor <;> decide),Yf,Yf⟩)⟩
   exfalso; have h9:=hs.kd; have h8:=hs.len; omega
  refine Ze q.kind 10 V V V (fun h17=>?_) (fun h17=>?_)
  ·exfalso; have h9:=hs.kd; have h8:=hs.len; omega
  refine Z S7 (Xh.drop 15 (C1.mono j1)) Yu V V V ?_
  have V9:=A4.bound
  have j8:=((L2.trans L3).trans L4)
  refine Zm (A4.mono j8) Y1 V V ?_
  refine Z1 (q.l.length : Int) 0 V V V (fun h18=>?_) (fun h18=>?_)
  ·have T10:=Sl.at (A4.mono j8) 0 (by omega)
   obtain ⟨p4,x3,U3,E3,W3⟩:=T10
   obtain ⟨D6,C4,R8⟩:=E3
   have T11:=Zs R8
   obtain ⟨v24,v25,v26,v27,rfl,ZcS,Zd4,A22,A23,Zem,ZiN,Zhp,Zen,Zfi,Zeo,A24,Zep,Zeq,Zfj,Zfk,A25⟩:=T11
   refine dr [(7,false),(9,false)] [(47,v4),(48,ZP p4),(49, .agg (QV x3 v24 v25 v26 v27).toArray),(50, .agg #[U sp.a,U sp.b])] S7 ⟨fun _ hSw=>Z hSw (Xh.drop 15 (C1.mono j1)) Yu V V V <| nu V V,fun _=>Zy 0 W3 Y1 Zt V V V V <| nu V V,fun _ hSw=>Zc hSw C4 (QV x3 v24 v25 v26 v27) Zt V V V V V <| nu V V,fun _ hSw=>Yp hSw 1 _ _ _ 0 [U sp.a,U sp.b] V V V Y5 V V V <| nu V V,trivial⟩ (fun w18 S21=>?_)
   have hP7 : St w0 [] G0 G4 (some (bb,(nat_lit 89),[vl,vo]) :: ro :: some (b2,42,(SV (ZU q) v10 v11 v12 v13 (U (-1)) (U (-1)) (Zf) (U 0) (U 0))) :: some (b1,36,[U sp.a,U sp.b]) :: R) w18:=St.pickT (A:=[some (b2,42,(SV (ZU q) v10 v11 v12 v13 (U (-1)) (U (-1)) (Zf) (U 0) (U 0))),some (b1,36,[U sp.a,U sp.b]),some (bb,(nat_lit 89),[vl,vo]),ro]) (R:=R) S21 [2,3,0,1]
   have hq3 : acc.length + (YS l n x3 sp sm acc.length).length ≤ 999999:=by exact ZiA (q:=q) (by assumption : q.l[0]? = some x3) (p':=sp) (s':=sm) (by exact Zw5 (by omega) (by omega)) hle
   have hv3 : (acc ++ YS l n x3 sp sm acc.length).length ≤ 999999:=by rw [List.length_append]; exact hq3
   refine X3 [.pointer (some ⟨bb,0,none⟩), .agg (QV x3 v24 v25 v26 v27).toArray, .agg #[U sp.a,U sp.b], .bool sm] #[] Zbc V V V ((ih x3 sp sm l acc _ _ _ _ (hvl.mono j8) (hvo.mono j8) hP7 (hg.mono j8) _ (Zr x3 ZcS Zd4 A22 A23 Zem ZiN Zhp Zen Zfi Zeo A24 Zep Zeq Zfj Zfk A25) _ (QD sp Y0 Y6) (XN hn (List.mem_of_getElem? (by assumption : q.l[0]? = some x3))) (hok.2.2.2 _ (List.mem_of_getElem? (by assumption : q.l[0]? = some x3))) (Nat.le_trans hq3 (by decide)) (hs.kid (List.mem_of_getElem? (by assumption : q.l[0]? = some x3)))).mono ?_)
   rintro e5 w19 ⟨G9,v28,o3,rfl,L9,S22,R9⟩
   refine ⟨_,V,?_⟩
   refine WL.store S22 2 _ _ _ 16 _ [U ((((acc ++ YS l n x3 sp sm acc.length).length - 1) : Nat) : Int)] (SV (ZU q) v10 v11 v12 v13 (U ((((acc ++ YS l n x3 sp sm acc.length).length - 1) : Nat) : Int)) (U (-1)) (Zf) (U 0) (U 0)) _ V V Zk V (ZZ V) V V V V V V (fun w20 S23=>?_)
   refine Z S23 (Xh.drop 15 (C1.mono ((L3.trans L4).trans L9))) Yu V V V ?_
   have V10:=A4.bound
   refine Zm (A4.mono (((L2.trans L3).trans L4).trans L9)) Y1 V V ?_
   refine Z1 (q.l.length : Int) 1 V V V (fun h19=>?_) (fun h19=>?_)
   ·exfalso; have h9:=hs.kd; have h8:=hs.len; omega
   refine Z S23 (Xh.drop 0 (C1.mono ((L3.trans L4).trans L9))) Zk V V V ?_
   refine Ze q.kind 5 V V V (fun h20=>?_) (fun h20=>?_)
   ·exfalso; have h9:=hs.kd; have h8:=hs.len; omega
   have hP8 : St w0 [] G0 G9 (some (b1,36,[U sp.a,U sp.b]) :: some (b2,42,(SV (ZU q) v10 v11 v12 v13 (U ((((acc ++ YS l n x3 sp sm acc.length).length - 1) : Nat) : Int)) (U (-1)) (Zf) (U 0) (U 0))) :: some (bb,(nat_lit 89),[vl,v28]) :: o3 :: R) w20:=St.pickT (A:=[some (bb,(nat_lit 89),[vl,v28]),o3,some (b2,42,(SV (ZU q) v10 v11 v12 v13 (U ((((acc ++ YS l n x3 sp sm acc.length).length - 1) : Nat) : Int)) (U (-1)) (Zf) (U 0) (U 0))),some (b1,36,[U sp.a,U sp.b])]) (R:=R) S23 [3,2,0,1]
   have S24:=hP8.tail
   exact ⟨b2,v10,v11,v12,v13,((((acc ++ YS l n x3 sp sm acc.length).length - 1) : Nat) : Int),(-1),Zf,[],0,0,v28,o3,(acc ++ YS l n x3 sp sm acc.length),G9,(((L2.trans L3).trans L4).trans L9),S24,⟨V,V,trivial⟩,((A9.mono L9)),((A10.mono L9)),((A11.mono L9)),((A12.mono L9)),((Sl.nil PairE 16 G9)),(R9),(by have hk9 : Zef l q = []:=ZhZ (by omega); have A9 : spT q sp sm = (Span.mk 0 0):=(by exact ZnC (.inl (by omega))); have hd9 : ndT q sp sm = (sp,sm):=(by exact Zw5 (by omega) (by omega)); have e9:=ZnD (q:=q) (S:=l) (n:=n) (p:=sp) (s:=sm) (acc:=acc) (by omega) (by assumption : q.l[0]? = some x3) hd9; rw [hk9,A9] at e9; exact e9),(⟨(by constructor <;> omega),(show Zj (-1) from by constructor <;> decide),Yf,Yf⟩)⟩
  exfalso; have h9:=hs.kd; have h8:=hs.len; omega
 rintro ρ1 w1 ⟨b9,wA,wB,wC,wD,aA,bB,kv,ks,sA,sB,vR,oR9,aL,G1,L1,S1,F9,f1,f2,f3,f4,f5,f6,f7,f8⟩
 refine F9.set ?_
 obtain ⟨haA,hbB,hsA,hsB⟩:=f8
 have hst9:=f7
 have hal9:=congrArg List.length hst9
 simp only [Zo] at hal9
 refine drT [4,5,6,7,10] [(117, .pointer (some ⟨bb,0,none⟩)),(123, .pointer (some ⟨bb,0,none⟩))] S1 ⟨fun _=>WL.nilCheck _ V V <| nu V V,fun _=>WL.nilCheck _ V V <| nu V V,trivial⟩ (fun w21 S25=>?_)
 refine TG.fork 4 [4,5,6,7,10] [4,5] V V (by decide) (by decide) (TA.cons V ?_ (TA.cons V ?_ TA.nil))
 ·refine Yz S25 1 _ _ _ 1 _ V V QG V V V ?_
  refine ⟨fun h=>absurd h (by decide),?_⟩
  refine TG.fork 3 [5,6,7,10] [5] V V (by decide) (by decide) (TA.cons V ?_ TA.nil)
  refine Yp S25 0 _ _ _ 0 (SV (ZU q) wA wB wC wD (U aA) (U bB) kv (U sA) (U sB)) V V V XQ V V V ?_
  refine ⟨fun h=>absurd h (by decide),?_⟩
  refine TG.fork 2 [6,7,10] [6] V V (by decide) (by decide) (TA.cons V ?_ TA.nil)
  refine WL.buildSlice _ [(0,(SV (ZU q) wA wB wC wD (U aA) (U bB) kv (U sA) (U sB)))] (SV (ZU q) wA wB wC wD (U aA) (U bB) kv (U sA) (U sB)) S25 ZiK V V V V (fun z hz=>by match z,hz with | [z0,z1,z2,z3,z4,z5,z6,z7,z8,z9,z10,z11,z12,z13,z14,z15,z16,z17,z18,z19,z20],_=>rfl) (fun b3 w22 N3 S26=>?_)
  refine ⟨fun h=>absurd h (by decide),?_⟩
  refine TG.fork 1 [7,10] [7] V V (by decide) (by decide) (TA.cons V ?_ TA.nil)
  refine WL.push (m:=([(Stp.mk (ZU q) aA bB ks (Span.mk sA sB))] : List Stp)) ZiK V V V f6 S26 3 V 0 _ _ _ _ _ V ⟨(SV (ZU q) wA wB wC wD (U aA) (U bB) kv (U sA) (U sB)),_,V,(Zdn (Stp.mk (ZU q) aA bB ks (Span.mk sA sB)) B1 B2 f1 f2 Z7 Z5 ZD hb6 hb7 ZV f3 hb9 ZI ZJ ZL f4 haA hbB f5 hsA hsB),V⟩ V (by have:=Zb; simp only [Zo]; omega) (by have:=Zb; simp only [Zo]; omega) V V V (fun v29 o4 w23 R10 S27=>?_)
  have S28:=S27.tail
  refine ⟨fun h=>absurd h (by decide),?_⟩
  refine TG.fork 0 [10] [10] V V (by decide) (by decide) (TA.cons V ?_ TA.nil)
  refine WL.store S28 1 _ _ _ 1 _ [v29] [vl,v29] _ V R10.cells1 QG V (ZZ V) (by simp only [YE,R10.oneC] <;> rfl) V V V V V (fun w24 S29=>?_)
  refine ⟨fun h=>absurd h (by decide),?_⟩
  refine TG.fin V ?_
  refine WL.nilCheck _ V V <| Yz S29 1 _ _ _ 1 _ V V QG V V V ?_
  have V11:=R10.bound
  refine Zf3 R10 QS V V ?_
  refine XW ((aL ++ [(Stp.mk (ZU q) aA bB ks (Span.mk sA sB))]).length) (by simp only [List.length_append,List.length_cons]; omega) (by have:=Zb; simp only [Zo]; omega) V V V ?_
  have S30:=S29.tail
  exact ⟨_,V,G1,v29,o4,(congrArg (fun x9=>Ending.returned (Value.int .i64 x9)) (by rw [hst9])),L1,S30,(YX.cast R10 (by exact hst9))⟩
 refine Yp S25 0 _ _ _ 0 (SV (ZU q) wA wB wC wD (U aA) (U bB) kv (U sA) (U sB)) V V V XQ V V V ?_
 refine ⟨fun h=>absurd h (by decide),?_⟩
 refine TG.fork 3 [4,6,7,10] [4,6] V V (by decide) (by decide) (TA.cons V ?_ (TA.cons V ?_ TA.nil))
 ·refine Yz S25 1 _ _ _ 1 _ V V QG V V V ?_
  refine ⟨fun h=>absurd h (by decide),?_⟩
  refine TG.fork 2 [6,7,10] [6] V V (by decide) (by decide) (TA.cons V ?_ TA.nil)
  refine WL.buildSlice _ [(0,(SV (ZU q) wA wB wC wD (U aA) (U bB) kv (U sA) (U sB)))] (SV (ZU q) wA wB wC wD (U aA) (U bB) kv (U sA) (U sB)) S25 ZiK V V V V (fun z hz=>by match z,hz with | [z0,z1,z2,z3,z4,z5,z6,z7,z8,z9,z10,z11,z12,z13,z14,z15,z16,z17,z18,z19,z20],_=>rfl) (fun b4 w25 N4 S31=>?_)
  refine ⟨fun h=>absurd h (by decide),?_⟩
  refine TG.fork 1 [7,10] [7] V V (by decide) (by decide) (TA.cons V ?_ TA.nil)
  refine WL.push (m:=([(Stp.mk (ZU q) aA bB ks (Span.mk sA sB))] : List Stp)) ZiK V V V f6 S31 3 V 0 _ _ _ _ _ V ⟨(SV (ZU q) wA wB wC wD (U aA) (U bB) kv (U sA) (U sB)),_,V,(Zdn (Stp.mk (ZU q) aA bB ks (Span.mk sA sB)) B1 B2 f1 f2 Z7 Z5 ZD hb6 hb7 ZV f3 hb9 ZI ZJ ZL f4 haA hbB f5 hsA hsB),V⟩ V (by have:=Zb; simp only [Zo]; omega) (by have:=Zb; simp only [Zo]; omega) V V V (fun v30 o5 w26 R11 S32=>?_)
  have S33:=S32.tail
  refine ⟨fun h=>absurd h (by decide),?_⟩
  refine TG.fork 0 [10] [10] V V (by decide) (by decide) (TA.cons V ?_ TA.nil)
  refine WL.store S33 1 _ _ _ 1 _ [v30] [vl,v30] _ V R11.cells1 QG V (ZZ V) (by simp only [YE,R11.oneC] <;> rfl) V V V V V (fun w27 S34=>?_)
  refine ⟨fun h=>absurd h (by decide),?_⟩
  refine TG.fin V ?_
  refine WL.nilCheck _ V V <| Yz S34 1 _ _ _ 1 _ V V QG V V V ?_
  have V12:=R11.bound
  refine Zf3 R11 QS V V ?_
  refine XW ((aL ++ [(Stp.mk (ZU q) aA bB ks (Span.mk sA sB))]).length) (by simp only [List.length_append,List.length_cons]; omega) (by have:=Zb; simp only [Zo]; omega) V V V ?_
  have S35:=S34.tail
  exact ⟨_,V,G1,v30,o5,(congrArg (fun x9=>Ending.returned (Value.int .i64 x9)) (by rw [hst9])),L1,S35,(YX.cast R11 (by exact hst9))⟩
 refine WL.buildSlice _ [(0,(SV (ZU q) wA wB wC wD (U aA) (U bB) kv (U sA) (U sB)))] (SV (ZU q) wA wB wC wD (U aA) (U bB) kv (U sA) (U sB)) S25 ZiK V V V V (fun z hz=>by match z,hz with | [z0,z1,z2,z3,z4,z5,z6,z7,z8,z9,z10,z11,z12,z13,z14,z15,z16,z17,z18,z19,z20],_=>rfl) (fun b5 w28 N5 S36=>?_)
 refine ⟨fun h=>absurd h (by decide),?_⟩
 refine TG.fork 2 [4,7,10] [4] V V (by decide) (by decide) (TA.cons V ?_ TA.nil)
 refine Yz S36 2 _ _ _ 1 _ V V QG V V V ?_
 refine ⟨fun h=>absurd h (by decide),?_⟩
 refine TG.fork 1 [7,10] [7] V V (by decide) (by decide) (TA.cons V ?_ TA.nil)
 refine WL.push (m:=([(Stp.mk (ZU q) aA bB ks (Span.mk sA sB))] : List Stp)) ZiK V V V f6 S36 3 V 0 _ _ _ _ _ V ⟨(SV (ZU q) wA wB wC wD (U aA) (U bB) kv (U sA) (U sB)),_,V,(Zdn (Stp.mk (ZU q) aA bB ks (Span.mk sA sB)) B1 B2 f1 f2 Z7 Z5 ZD hb6 hb7 ZV f3 hb9 ZI ZJ ZL f4 haA hbB f5 hsA hsB),V⟩ V (by have:=Zb; simp only [Zo]; omega) (by have:=Zb; simp only [Zo]; omega) V V V (fun v31 o6 w29 R12 S37=>?_)
 have S38:=S37.tail
 refine ⟨fun h=>absurd h (by decide),?_⟩
 refine TG.fork 0 [10] [10] V V (by decide) (by decide) (TA.cons V ?_ TA.nil)
 refine WL.store S38 1 _ _ _ 1 _ [v31] [vl,v31] _ V R12.cells1 QG V (ZZ V) (by simp only [YE,R12.oneC] <;> rfl) V V V V V (fun w30 S39=>?_)
 refine ⟨fun h=>absurd h (by decide),?_⟩
 refine TG.fin V ?_
 refine WL.nilCheck _ V V <| Yz S39 1 _ _ _ 1 _ V V QG V V V ?_
 have V13:=R12.bound
 refine Zf3 R12 QS V V ?_
 refine XW ((aL ++ [(Stp.mk (ZU q) aA bB ks (Span.mk sA sB))]).length) (by simp only [List.length_append,List.length_cons]; omega) (by have:=Zb; simp only [Zo]; omega) V V V ?_
 have S40:=S39.tail
 exact ⟨_,V,G1,v31,o6,(congrArg (fun x9=>Ending.returned (Value.int .i64 x9)) (by rw [hst9])),L1,S40,(YX.cast R12 (by exact hst9))⟩
end Go.Civ
