/- Lemmas. -/
import Derived.Test.YtecneejegecmhaaGreatDoorK34
import Derived.Test.YtecneejegecmhaaGreatDoorK40
import Derived.Test.YtecneejegecmhaaGreatDoorK42
set_option linter.unusedVariables false
set_option linter.unusedSimpArgs false
set_option linter.unnecessarySimpa false
set_option linter.unusedVariables false
set_option linter.unusedSimpArgs false
set_option maxRecDepth 100000
set_option maxHeartbeats 4000000
namespace Go.Civ
open Go.Proofs
theorem Zqh {G : GH} {w : World} (hG : G.In w) (q : Query) (cq : List Value) (hcq : QryE.rep G q cq) (hv : X8 (Y7 (Ye q)) (Ye q) = true) (hx : TxQ (Y7 (Ye q)) (Ye q)) (hb : (Z0 (Ye q)).length ≤ 300000) : CL Tryz.prog (nat_lit 33) #[.agg cq.toArray] [] w G fun _ _ r=>r = Za (Ya q):=by
 refine Zg ft [] Tryz.func33 V V ?_
 have hkd : 1 ≤ q.kind ∧ q.kind ≤ 10:=Zih (q:=Ye q) hv
 have hew:=Zij hkd
 have hxr : TxQ (Y7 (rwQ q)) (rwQ q):=by rw [← hew]; exact hx
 have hbr : (Z0 (rwQ q)).length ≤ 300000:=by rw [← hew]; exact hb
 have hob:=@Zbq q.kind
 have hS:=St.start (X:=[]) hG
 have T1:=Zs hcq
 obtain ⟨v1,v2,v3,v4,rfl,B1,B2,A1,A2,Z7,Z5,ZD,hb6,hb7,ZV,A3,hb9,ZI,ZJ,ZL,A4⟩:=T1
 refine WL.box (QV q v1 v2 v3 v4) _ hS V V V (fun b1 w1 N1 S1=>?_)
 refine Yz S1 0 _ _ _ 0 _ V V Zk V V V ?_
 refine Zl S1 Zel V V V (ZgQ S1.imm q.kind) (fun w2 G1 S2 L1=>?_)
 refine WL.store S2 0 _ _ _ 15 _ [Zf] (QV q v1 v2 v3 (Zf)) _ V V Yu V (ZZ V) V V V V V V (fun w3 S3=>?_)
 have S4:=S3.pad
 refine LP.go ft [] (fun m ρ1 w1=>∃ (k1 : Nat),∃ (v5 : Value) (o1 : OB),∃ (G2 : GH),m = (ZT q.kind).toNat - k1 ∧ G1.le G2 ∧ St w [] G G2 [o1,some (b1,39,(QV q v1 v2 v3 v5))] w1 ∧ YX QryE 224 39 G2 v5 (List.replicate k1 scT) o1 ∧ FR ρ1 [(1, .pointer (some ⟨b1,0,none⟩)),(3,U (ZT q.kind)),(4,U (k1 : Int))] ∧ k1 ≤ (ZT q.kind).toNat) _ ⟨0,(Zf),none,G1,V,(G1.le_refl),S4,(YX.cast (YX.nil QryE 224 39 G1) (by rfl)),⟨V,V,V,trivial⟩,(by omega)⟩ ?_
 rintro m ρ1 w4 ⟨k1,v5,o1,G2,rfl,L2,S5,R1,F9,f1⟩
 refine F9.set ?_
 clear F9
 have hob:=@Zbq q.kind
 refine Zp (k1 : Int) (ZT q.kind) V V V (fun h1=>?_) (fun h1=>?_)
 ·refine Yz S5 1 _ _ _ 15 _ V V Yu V V V <| WL.build _ [(0,[U 1]),(1,[Za [116]])] [U 1,Za [116],Zf,Zf,U 0,Za [],Za [],U 0,U 0,Za [],Zf,U 0,U 0,U 0,U 0,Zf] Zt V ZfZ V V V V ?_
  refine WL.buildSlice _ [(0,[U 1,Za [116],Zf,Zf,U 0,Za [],Za [],U 0,U 0,Za [],Zf,U 0,U 0,U 0,U 0,Zf])] [U 1,Za [116],Zf,Zf,U 0,Za [],Za [],U 0,U 0,Za [],Zf,U 0,U 0,U 0,U 0,Zf] S5 Zbb V V V V (fun z hz=>by match z,hz with | [z0,z1,z2,z3,z4,z5,z6,z7,z8,z9,z10,z11,z12,z13,z14,z15],_=>rfl) (fun b2 w5 N2 S6=>?_)
  refine WL.push (m:=([(Query.mk 1 [116] [] [] (Cond.mk 0 [] [] (Val.mk 0 0 []) []) 0 0 (Span.mk 0 0) [])] : List Query)) Zbb V V V R1 S6 1 V 0 _ _ _ _ _ V ⟨[U 1,Za [116],Zf,Zf,U 0,Za [],Za [],U 0,U 0,Za [],Zf,U 0,U 0,U 0,U 0,Zf],_,V,(Zr (Query.mk 1 [116] [] [] (Cond.mk 0 [] [] (Val.mk 0 0 []) []) 0 0 (Span.mk 0 0) []) (show Zj 1 from by constructor <;> decide) (by simp [reach]) (Sl.nil Enc.str 16 G2) (Sl.nil Enc.str 16 G2) Yf (by simp [reach]) (by simp [reach]) Yf Yf (by simp [reach]) (Sl.nil CndE 96 G2) Yf Yf Yf Yf (Sl.nil QryE 224 G2)),V⟩ V (by have:=Zb; simp only [List.length_append,List.length_replicate,List.length_take,List.length_cons,List.length_nil]; omega) (by have:=Zb; simp only [List.length_append,List.length_replicate,List.length_take,List.length_cons,List.length_nil]; omega) V V V (fun v6 o2 w6 R2 S7=>?_)
  have S8:=S7.tail
  refine WL.store S8 1 _ _ _ 15 _ [v6] (QV q v1 v2 v3 v6) _ V R2.cells1 Yu V (ZZ V) (by simp only [YE,R2.oneC] <;> rfl) V V V V V (fun w7 S9=>?_)
  refine Zq k1 (by have:=Zb; omega) V V V ?_
  exact BK.mk' _ ⟨k1 + 1,v6,o2,G2,V,L2,S9,(YX.cast R2 (by (exact ZnH))),⟨V,V,V,trivial⟩,(by omega)⟩ (show (ZT q.kind).toNat - (k1 + 1) < (ZT q.kind).toNat - k1 by omega)
 have T2:=YX.freeze R1 S5 0 V
 obtain ⟨G3,L3,A5,S10⟩:=T2
 have hsc9:=Sl.cast (l':=(List.replicate (ZT q.kind).toNat scT)) A5 (by congr 1; omega)
 refine Yp S10 1 _ _ _ 0 (QV q v1 v2 v3 v5) V V V Zt V V V ?_
 have j1:=((L1.trans L2).trans L3)
 refine Zl S10 Zbf V V V (Zqg (Y7 (rwQ q)) S10.imm (Query.mk q.kind q.table q.cols q.names q.cond q.rel q.fn q.span (List.replicate (ZT q.kind).toNat scT)) _ (Zr (Query.mk q.kind q.table q.cols q.names q.cond q.rel q.fn q.span (List.replicate (ZT q.kind).toNat scT)) B1 B2 (A1.mono j1) (A2.mono j1) Z7 Z5 ZD hb6 hb7 ZV (A3.mono j1) hb9 ZI ZJ ZL hsc9) (QI _) hxr hbr) (fun w9 G4 S11 L4=>?_)
 refine WL.buildSlice _ [(0,[Za []]),(1,[Za [32,111,102,32,115,99,97,110,32,116]]),(2,[Za [32,40,115,99,97,110,32,116,44,32,115,99,97,110,32,116,41]])] [Za [],Za [32,111,102,32,115,99,97,110,32,116],Za [32,40,115,99,97,110,32,116,44,32,115,99,97,110,32,116,41]] S11 XI V V V V (fun z hz=>by match z,hz with | [z0,z1,z2],_=>rfl) (fun b3 w10 N3 S12=>?_)
 have T3:=St.sealSl (E:=Enc.str) (by_:=16) (l:=([[],[32,111,102,32,115,99,97,110,32,116],[32,40,115,99,97,110,32,116,44,32,115,99,97,110,32,116,41]] : List (List UInt8))) S12 N3 ⟨[Za []],_,V,⟨V,(by simp [reach])⟩,⟨[Za [32,111,102,32,115,99,97,110,32,116]],_,V,⟨V,(by simp [reach])⟩,⟨[Za [32,40,115,99,97,110,32,116,44,32,115,99,97,110,32,116,41]],_,V,⟨V,(by simp [reach])⟩,V⟩⟩⟩ V (by simp [reach]) (by simp [reach])
 obtain ⟨G5,L5,A6,S13⟩:=T3
 refine WL.indexAddr A6 ((ZT q.kind).toNat) (by (simp only [List.length_cons,List.length_nil]; omega)) Yb Zv V V V (congrArg (Value.int .i64) (Int.toNat_of_nonneg (by omega)).symm) (fun p1 x1 U1 E1=>?_)
 obtain ⟨D1,C1,R3⟩:=E1
 obtain ⟨rfl,Y0⟩:=R3
 refine Z S13 C1 Zv V V V ?_
 have hcl:=Z0i hkd ‹_›
 refine YN (Z0 (rwQ q)) X1 V V <| YN x1 X1 V V ?_
 refine ZtF ((Z0 (rwQ q)).length) x1.length (by omega) (by have:=Zb; omega) V V V ?_
 refine ZqX (Z0 (rwQ q)) (((Z0 (rwQ q)).length) - x1.length) (by omega) X1 V V V ?_
 exact RT S13 V (congrArg Za (by exact Zx9 hkd ‹_›))
theorem ZlR {G : GH} {w : World} (hG : G.In w) : CL Tryz.prog (nat_lit 34) #[] [] w G fun G' _ r=>Is SpanE G' r (Span.mk (-62135596800) 253402300800):=by
 refine Yw ft [] Tryz.func34 V V ?_
 have hS:=St.start (X:=[]) hG
 refine WL.alloc hS Y5 V V (fun b1 w1 N1 S1=>?_)
 refine WL.build _ [(0,[U (-62135596800)]),(1,[U 253402300800])] [U (-62135596800),U 253402300800] Y5 V ZbL V V V V ?_
 refine Z9 S1 0 [U (-62135596800),U 253402300800] V V Y5 V V V V V V (fun w2 S2=>?_)
 obtain ⟨G1,L1,C1,S3⟩:=S2.shutB N1
 exact Qk [.agg #[U (-62135596800),U 253402300800]] S3 ⟨_,_,_,V,V,S3.loadC C1 Y5 V V,V⟩ (Is.cast ⟨_,V,(QD (Span.mk (-62135596800) 253402300800) (show Zj (-62135596800) from by constructor <;> decide) (show Zj 253402300800 from by constructor <;> decide))⟩ (by rfl))
theorem ZgS {G : GH} {w : World} (hG : G.In w) (t : Int) (ht64 : Zj t) (ht : -62135596800 ≤ t ∧ t ≤ 253402300800) : CL Tryz.prog (nat_lit 35) #[U t] [] w G fun _ _ r=>r = Za (Yk t):=by
 refine Zg ft [] Tryz.func35 V V ?_
 have hS:=St.start (X:=[]) hG
 refine WL.build _ [(0,[U 4]),(1,[U t])] [U 4,U t,Za []] Xv V ZiI V V V V ?_
 refine Zl hS Zd3 V V V (Zge hS.imm (Val.mk 4 t []) _ (XX (Val.mk 4 t []) (show Zj 4 from by constructor <;> decide) ht64 (by simp [reach])) (ZsG t ht)) (fun w1 G1 S1 L1=>?_)
 exact RT S1 V (congrArg Za (by exact Zw3))
theorem Zqi {G : GH} {w : World} (hG : G.In w) (p : Pln) (cp : List Value) (hcp : PlnE.rep G p cp) (hv : XC p = true) (hT : ∀ s ∈ p.steps,TxS s) : CL Tryz.prog (nat_lit 12) #[.agg cp.toArray] [] w G fun _ _ r=>r = Za (Qm p.steps):=by
 refine Zg ft [] Tryz.func12 V V ?_
 have hp60:=Zig hv
 have hS:=St.start (X:=[]) hG
 have T1:=Za8 hcp
 obtain ⟨v1,v2,rfl,A1,A2⟩:=T1
 refine Z4 [v1,v2] _ hS V V V (fun p1 w1 G1 L1 M1 C1 S1=>?_)
 refine LP.go ft [] (fun m ρ1 w1=>∃ (k1 : Nat),∃ (ss : List UInt8),∃ (G2 : GH),m = p.steps.length - k1 ∧ G1.le G2 ∧ St w [] G G2 [] w1 ∧ FR ρ1 [(1,ZP p1),(3,Za ss),(4,U (k1 : Int))] ∧ k1 ≤ p.steps.length ∧ ss = Qm (p.steps.take k1)) _ ⟨0,[],G1,V,(G1.le_refl),S1,⟨V,V,V,trivial⟩,(by omega),(rfl)⟩ ?_
 rintro m ρ1 w2 ⟨k1,ss,G2,rfl,L2,S2,F9,f1,f2⟩
 refine F9.set ?_
 clear F9
 have hsl : ss.length ≤ 20000000:=by
  rw [show ss = Qm (p.steps.take k1) by assumption]; have:=Zrx (l:=p.steps) (fun j s h=>Zdx hv h) hT k1 (by omega); omega
 refine Z S2 (Xh.drop 0 (C1.mono L2)) QG V V V ?_
 have V1:=A1.bound
 have j1:=(L1.trans L2)
 refine Zm (A1.mono j1) QS V V ?_
 refine Zp (k1 : Int) (p.steps.length : Int) V V V (fun h1=>?_) (fun h1=>?_)
 ·refine Z S2 (Xh.drop 0 (C1.mono L2)) QG V V V ?_
  refine WL.indexAddr (A1.mono j1) k1 (by omega) QS XQ V V V V (fun p2 x1 U1 E1=>?_)
  obtain ⟨D1,C2,R1⟩:=E1
  have T2:=Q8 R1
  obtain ⟨v3,v4,v5,v6,v7,rfl,B1,B2,A3,A4,Z7,Z5,ZD,hb6,hb7,ZV,A5,hb9,ZI,ZJ,ZL,A6,Y0,Y6,A7,YA,Y9⟩:=T2
  refine Zc S2 C2 (SV x1.q v3 v4 v5 v6 (U x1.a) (U x1.b) v7 (U x1.span.a) (U x1.span.b)) XQ V V V V V ?_
  refine WL.alloc S2 XQ V V (fun b1 w3 N1 S3=>?_)
  refine WL.store S3 0 _ _ _ 0 _ (SV x1.q v3 v4 v5 v6 (U x1.a) (U x1.b) v7 (U x1.span.a) (U x1.span.b)) (SV x1.q v3 v4 v5 v6 (U x1.a) (U x1.b) v7 (U x1.span.a) (U x1.span.b)) _ V V XQ V (ZZ V) (by simp only [YE,A3.oneC,A4.oneC,A5.oneC,A6.oneC,A7.oneC] <;> rfl) V V V V V (fun w4 S4=>?_)
  have T3:=S4.shutB N1
  obtain ⟨G3,L3,C3,S5⟩:=T3
  have hsv:=Zdx hv (by assumption : p.steps[k1]? = some x1)
  have htx:=hT x1 (List.mem_of_getElem? (by assumption : p.steps[k1]? = some x1))
  have htx2:=htx.2
  have hh3:=Q5 htx2
  have T4:=Ze9 hsv
  obtain ⟨hiA,hiB,hiC,hiD⟩:=T4
  refine dr [(9,false)] [(20,Za (Z8 (k1 : Int) 0)),(21,Za (ss ++ (Z8 (k1 : Int) 0))),(22,Za ((ss ++ (Z8 (k1 : Int) 0)) ++ [32])),(24, .agg (QV x1.q v3 v4 v5 v6).toArray),(25,Za (Ya x1.q)),(26,Za (((ss ++ (Z8 (k1 : Int) 0)) ++ [32]) ++ (Ya x1.q)))] S5 ⟨fun _ hSw=>ZB hSw Xw V V V (Zab hSw.imm (k1 : Int) 0 (by (constructor <;> omega)) (by omega)) V,fun _=>Zh ss (Z8 (k1 : Int) 0) (by have:=hsl; have:=(ZK (k1 : Int) 0 (by (constructor <;> omega)) (by omega)); (try simp only [Zo]); have:=Zb; omega) V V V <| nu V V,fun _=>Zh (ss ++ (Z8 (k1 : Int) 0)) [32] (by have:=hsl; have:=(ZK (k1 : Int) 0 (by (constructor <;> omega)) (by omega)); (try simp only [Zo]); have:=Zb; omega) V V V <| nu V V,fun _ hSw=>Zc hSw (Xh.drop 0 C3) (QV x1.q v3 v4 v5 v6) Zt V V V V V <| nu V V,fun _ hSw=>ZB hSw Qt V V V (Zqh hSw.imm x1.q _ (Zr x1.q B1 B2 (A3.mono L3) (A4.mono L3) Z7 Z5 ZD hb6 hb7 ZV (A5.mono L3) hb9 ZI ZJ ZL (A6.mono L3)) (Zif (ZjT hsv)).vl htx.1 htx.2) V,fun _=>Zh ((ss ++ (Z8 (k1 : Int) 0)) ++ [32]) (Ya x1.q) (by have:=hsl; have:=(ZK (k1 : Int) 0 (by (constructor <;> omega)) (by omega)); have:=(Q5 (show (Z0 (Ye x1.q)).length ≤ 300000 by assumption)); (try simp only [Zo]); have:=Zb; omega) V V V <| nu V V,trivial⟩ (fun w5 S6=>?_)
  refine Z S6 (Xh.drop 16 C3) Zk V V V ?_
  refine ZM x1.a 0 V V V (fun h2=>?_) (fun h2=>?_)
  ·refine Zh (((ss ++ (Z8 (k1 : Int) 0)) ++ [32]) ++ (Ya x1.q)) [32,35] (by have:=hsl; have:=(ZK (k1 : Int) 0 (by (constructor <;> omega)) (by omega)); have:=(Q5 (show (Z0 (Ye x1.q)).length ≤ 300000 by assumption)); (try simp only [Zo]); have:=Zb; omega) V V V ?_
   refine Z S6 (Xh.drop 16 C3) Zk V V V ?_
   refine Zl S6 Xw V V V (Zab S6.imm x1.a 0 ‹_› (by omega)) (fun w6 G4 S7 L4=>?_)
   refine Zh ((((ss ++ (Z8 (k1 : Int) 0)) ++ [32]) ++ (Ya x1.q)) ++ [32,35]) (Z8 x1.a 0) (by have:=hsl; have:=(ZK (k1 : Int) 0 (by (constructor <;> omega)) (by omega)); have:=(Q5 (show (Z0 (Ye x1.q)).length ≤ 300000 by assumption)); have:=(ZK x1.a 0 ‹_› (by omega)); (try simp only [Zo]); have:=Zb; omega) V V V ?_
   refine Z S7 (Xh.drop 17 (C3.mono L4)) Zk V V V ?_
   refine ZM x1.b 0 V V V (fun h3=>?_) (fun h3=>?_)
   ·refine Zh (((((ss ++ (Z8 (k1 : Int) 0)) ++ [32]) ++ (Ya x1.q)) ++ [32,35]) ++ (Z8 x1.a 0)) [32,35] (by have:=hsl; have:=(ZK (k1 : Int) 0 (by (constructor <;> omega)) (by omega)); have:=(Q5 (show (Z0 (Ye x1.q)).length ≤ 300000 by assumption)); have:=(ZK x1.a 0 ‹_› (by omega)); (try simp only [Zo]); have:=Zb; omega) V V V ?_
    refine Z S7 (Xh.drop 17 (C3.mono L4)) Zk V V V ?_
    refine Zl S7 Xw V V V (Zab S7.imm x1.b 0 ‹_› (by omega)) (fun w7 G5 S8 L5=>?_)
    refine Zh ((((((ss ++ (Z8 (k1 : Int) 0)) ++ [32]) ++ (Ya x1.q)) ++ [32,35]) ++ (Z8 x1.a 0)) ++ [32,35]) (Z8 x1.b 0) (by have:=hsl; have:=(ZK (k1 : Int) 0 (by (constructor <;> omega)) (by omega)); have:=(Q5 (show (Z0 (Ye x1.q)).length ≤ 300000 by assumption)); have:=(ZK x1.a 0 ‹_› (by omega)); have:=(ZK x1.b 0 ‹_› (by omega)); (try simp only [Zo]); have:=Zb; omega) V V V ?_
    refine Z S8 (Xh.drop 0 (Xh.drop 0 (C3.mono (L4.trans L5)))) Zk V V V ?_
    refine Ze x1.q.kind 1 V V V (fun h4=>?_) (fun h4=>?_)
    ·exfalso; omega
    have T5:=Cmp.dec .eql x1.q.kind 1
    rcases T5 with ⟨Yr,q1⟩ | ⟨Yr,q1⟩
    ·have h5 : x1.q.kind = 1:=q1
     clear q1
     exfalso; omega
    have h5 : x1.q.kind ≠ 1:=q1
    clear q1
    refine dr [] [(59,U x1.q.kind),(60, .bool false)] S8 ⟨fun _ hSw=>Z hSw (Xh.drop 0 (Xh.drop 0 (C3.mono (L4.trans L5)))) Zk V V V <| nu V V,fun _=>WL.cmpV .eql V .i64 x1.q.kind 1 _ Yr V V V <| nu V V,trivial⟩ (fun w9 S9=>?_)
    refine Zh (((((((ss ++ (Z8 (k1 : Int) 0)) ++ [32]) ++ (Ya x1.q)) ++ [32,35]) ++ (Z8 x1.a 0)) ++ [32,35]) ++ (Z8 x1.b 0)) [10] (by have:=hsl; have:=(ZK (k1 : Int) 0 (by (constructor <;> omega)) (by omega)); have:=(Q5 (show (Z0 (Ye x1.q)).length ≤ 300000 by assumption)); have:=(ZK x1.a 0 ‹_› (by omega)); have:=(ZK x1.b 0 ‹_› (by omega)); (try simp only [Zo]); have:=Zb; omega) V V V ?_
    refine Zq k1 (by have:=Zb; omega) V V V ?_
    exact BK.mk' _ ⟨k1 + 1,((((((((ss ++ (Z8 (k1 : Int) 0)) ++ [32]) ++ (Ya x1.q)) ++ [32,35]) ++ (Z8 x1.a 0)) ++ [32,35]) ++ (Z8 x1.b 0)) ++ [10]),G5,V,(L2.trans ((L3.trans L4).trans L5)),S9,⟨V,V,V,trivial⟩,(by omega),(by with_reducible exact Z0h ‹_› ‹_› (by omega) (by omega) (ZlA (.inl ‹_›)))⟩ (show p.steps.length - (k1 + 1) < p.steps.length - k1 by omega)
   refine Z S7 (Xh.drop 0 (Xh.drop 0 (C3.mono L4))) Zk V V V ?_
   refine Ze x1.q.kind 1 V V V (fun h6=>?_) (fun h6=>?_)
   ·exfalso; omega
   have T6:=Cmp.dec .eql x1.q.kind 1
   rcases T6 with ⟨YH,q2⟩ | ⟨YH,q2⟩
   ·have h7 : x1.q.kind = 1:=q2
    clear q2
    exfalso; omega
   have h7 : x1.q.kind ≠ 1:=q2
   clear q2
   refine dr [] [(59,U x1.q.kind),(60, .bool false)] S7 ⟨fun _ hSw=>Z hSw (Xh.drop 0 (Xh.drop 0 (C3.mono L4))) Zk V V V <| nu V V,fun _=>WL.cmpV .eql V .i64 x1.q.kind 1 _ YH V V V <| nu V V,trivial⟩ (fun w10 S10=>?_)
   refine Zh (((((ss ++ (Z8 (k1 : Int) 0)) ++ [32]) ++ (Ya x1.q)) ++ [32,35]) ++ (Z8 x1.a 0)) [10] (by have:=hsl; have:=(ZK (k1 : Int) 0 (by (constructor <;> omega)) (by omega)); have:=(Q5 (show (Z0 (Ye x1.q)).length ≤ 300000 by assumption)); have:=(ZK x1.a 0 ‹_› (by omega)); (try simp only [Zo]); have:=Zb; omega) V V V ?_
   refine Zq k1 (by have:=Zb; omega) V V V ?_
   exact BK.mk' _ ⟨k1 + 1,((((((ss ++ (Z8 (k1 : Int) 0)) ++ [32]) ++ (Ya x1.q)) ++ [32,35]) ++ (Z8 x1.a 0)) ++ [10]),G4,V,(L2.trans (L3.trans L4)),S10,⟨V,V,V,trivial⟩,(by omega),(by with_reducible exact Z1F ‹_› ‹_› (by omega) (by omega) (ZlA (.inl ‹_›)))⟩ (show p.steps.length - (k1 + 1) < p.steps.length - k1 by omega)
  refine Z S6 (Xh.drop 17 C3) Zk V V V ?_
  refine ZM x1.b 0 V V V (fun h8=>?_) (fun h8=>?_)
  ·omega
  refine Z S6 (Xh.drop 0 (Xh.drop 0 C3)) Zk V V V ?_
  refine Ze x1.q.kind 1 V V V (fun h9=>?_) (fun h9=>?_)
  ·refine Zc S6 (Xh.drop 19 C3) [U x1.span.a,U x1.span.b] Y5 V V V V V <| WL.build _ [] [U 0,U 0] Y5 V ZbL V V V V <| ZaC (QT x1.span (Span.mk 0 0)) ZbG V V V ?_
   refine WL.split (fun (h10 : (decide (x1.span = (Span.mk 0 0))) = true)=>?_) (fun (h10 : (decide (x1.span = (Span.mk 0 0))) = false)=>?_)
   ·refine Zh (((ss ++ (Z8 (k1 : Int) 0)) ++ [32]) ++ (Ya x1.q)) [32,110,101,118,101,114] (by have:=hsl; have:=(ZK (k1 : Int) 0 (by (constructor <;> omega)) (by omega)); have:=(Q5 (show (Z0 (Ye x1.q)).length ≤ 300000 by assumption)); (try simp only [Zo]); have:=Zb; omega) V V V ?_
    refine Zh ((((ss ++ (Z8 (k1 : Int) 0)) ++ [32]) ++ (Ya x1.q)) ++ [32,110,101,118,101,114]) [10] (by have:=hsl; have:=(ZK (k1 : Int) 0 (by (constructor <;> omega)) (by omega)); have:=(Q5 (show (Z0 (Ye x1.q)).length ≤ 300000 by assumption)); (try simp only [Zo]); have:=Zb; omega) V V V ?_
    refine Zq k1 (by have:=Zb; omega) V V V ?_
    exact BK.mk' _ ⟨k1 + 1,(((((ss ++ (Z8 (k1 : Int) 0)) ++ [32]) ++ (Ya x1.q)) ++ [32,110,101,118,101,114]) ++ [10]),G3,V,(L2.trans L3),S6,⟨V,V,V,trivial⟩,(by omega),(by with_reducible exact ZrM ‹_› ‹_› (by omega) (by omega) (ZwW ‹_› (by exact Zx8 (of_decide_eq_true ‹_›)) (by exact of_decide_eq_true ‹_›)))⟩ (show p.steps.length - (k1 + 1) < p.steps.length - k1 by omega)
   have T7:=Cmp.dec .eql x1.q.kind 1
   rcases T7 with ⟨YJ,q3⟩ | ⟨YJ,q3⟩
   ·have h11 : x1.q.kind = 1:=q3
    clear q3
    have T8:=Classical.em (x1.span = (Span.mk (-62135596800) 253402300800))
    rcases T8 with h12 | h12
    ·refine dr [] [(59,U x1.q.kind),(60, .bool true),(63, .agg #[U x1.span.a,U x1.span.b]),(64, .agg #[U ((Span.mk (-62135596800) 253402300800).a),U ((Span.mk (-62135596800) 253402300800).b)]),(65, .bool false)] S6 ⟨fun _ hSw=>Z hSw (Xh.drop 0 (Xh.drop 0 C3)) Zk V V V <| nu V V,fun _=>WL.cmpV .eql V .i64 x1.q.kind 1 _ YJ V V V <| nu V V,fun _ hSw=>Zc hSw (Xh.drop 19 C3) [U x1.span.a,U x1.span.b] Y5 V V V V V <| nu V V,fun _ hSw=>Zja hSw XS V V V (ZlR hSw.imm) (fun _ _ _ ⟨D9,h9,R9⟩=>by obtain ⟨rfl,_⟩:=QH R9; exact h9) V,fun _=>Zbl false (QT x1.span (Span.mk (-62135596800) 253402300800)) ZbG (by simp [h12]) V V V <| nu V V,trivial⟩ (fun w11 S11=>?_)
     refine Zh (((ss ++ (Z8 (k1 : Int) 0)) ++ [32]) ++ (Ya x1.q)) [10] (by have:=hsl; have:=(ZK (k1 : Int) 0 (by (constructor <;> omega)) (by omega)); have:=(Q5 (show (Z0 (Ye x1.q)).length ≤ 300000 by assumption)); (try simp only [Zo]); have:=Zb; omega) V V V ?_
     refine Zq k1 (by have:=Zb; omega) V V V ?_
     exact BK.mk' _ ⟨k1 + 1,((((ss ++ (Z8 (k1 : Int) 0)) ++ [32]) ++ (Ya x1.q)) ++ [10]),G3,V,(L2.trans L3),S11,⟨V,V,V,trivial⟩,(by omega),(by with_reducible exact Z0f ‹_› ‹_› (by omega) (by omega) (ZlA (by exact .inr ‹_›)))⟩ (show p.steps.length - (k1 + 1) < p.steps.length - k1 by omega)
    refine dr [] [(59,U x1.q.kind),(60, .bool true),(63, .agg #[U x1.span.a,U x1.span.b]),(64, .agg #[U ((Span.mk (-62135596800) 253402300800).a),U ((Span.mk (-62135596800) 253402300800).b)]),(65, .bool true)] S6 ⟨fun _ hSw=>Z hSw (Xh.drop 0 (Xh.drop 0 C3)) Zk V V V <| nu V V,fun _=>WL.cmpV .eql V .i64 x1.q.kind 1 _ YJ V V V <| nu V V,fun _ hSw=>Zc hSw (Xh.drop 19 C3) [U x1.span.a,U x1.span.b] Y5 V V V V V <| nu V V,fun _ hSw=>Zja hSw XS V V V (ZlR hSw.imm) (fun _ _ _ ⟨D9,h9,R9⟩=>by obtain ⟨rfl,_⟩:=QH R9; exact h9) V,fun _=>Zbl true (QT x1.span (Span.mk (-62135596800) 253402300800)) ZbG (by simp [h12]) V V V <| nu V V,trivial⟩ (fun w12 S12=>?_)
    have T9:=ZiH hsv ‹_› (by exact of_decide_eq_false ‹_›)
    obtain ⟨hsa9,hsb9⟩:=T9
    refine dr [(13,false)] [(68,Za ((((ss ++ (Z8 (k1 : Int) 0)) ++ [32]) ++ (Ya x1.q)) ++ [32,102,114,111,109,32])),(71,U x1.span.a),(72,Za (Yk x1.span.a)),(73,Za (((((ss ++ (Z8 (k1 : Int) 0)) ++ [32]) ++ (Ya x1.q)) ++ [32,102,114,111,109,32]) ++ (Yk x1.span.a))),(74,Za ((((((ss ++ (Z8 (k1 : Int) 0)) ++ [32]) ++ (Ya x1.q)) ++ [32,102,114,111,109,32]) ++ (Yk x1.span.a)) ++ [32,116,111,32])),(77,U x1.span.b),(78,Za (Yk x1.span.b)),(79,Za (((((((ss ++ (Z8 (k1 : Int) 0)) ++ [32]) ++ (Ya x1.q)) ++ [32,102,114,111,109,32]) ++ (Yk x1.span.a)) ++ [32,116,111,32]) ++ (Yk x1.span.b)))] S12 ⟨fun _=>Zh (((ss ++ (Z8 (k1 : Int) 0)) ++ [32]) ++ (Ya x1.q)) [32,102,114,111,109,32] (by have:=hsl; have:=(ZK (k1 : Int) 0 (by (constructor <;> omega)) (by omega)); have:=(Q5 (show (Z0 (Ye x1.q)).length ≤ 300000 by assumption)); (try simp only [Zo]); have:=Zb; omega) V V V <| nu V V,fun _ hSw=>Z hSw (Xh.drop 0 (Xh.drop 19 C3)) Zk V V V <| nu V V,fun _ hSw=>ZB hSw Qc V V V (ZgS hSw.imm x1.span.a ‹_› (by exact hsa9)) V,fun _=>Zh ((((ss ++ (Z8 (k1 : Int) 0)) ++ [32]) ++ (Ya x1.q)) ++ [32,102,114,111,109,32]) (Yk x1.span.a) (by have:=hsl; have:=(ZK (k1 : Int) 0 (by (constructor <;> omega)) (by omega)); have:=(Q5 (show (Z0 (Ye x1.q)).length ≤ 300000 by assumption)); have:=(Xa x1.span.a ‹_›); (try simp only [Zo]); have:=Zb; omega) V V V <| nu V V,fun _=>Zh (((((ss ++ (Z8 (k1 : Int) 0)) ++ [32]) ++ (Ya x1.q)) ++ [32,102,114,111,109,32]) ++ (Yk x1.span.a)) [32,116,111,32] (by have:=hsl; have:=(ZK (k1 : Int) 0 (by (constructor <;> omega)) (by omega)); have:=(Q5 (show (Z0 (Ye x1.q)).length ≤ 300000 by assumption)); have:=(Xa x1.span.a ‹_›); (try simp only [Zo]); have:=Zb; omega) V V V <| nu V V,fun _ hSw=>Z hSw (Xh.drop 1 (Xh.drop 19 C3)) Zk V V V <| nu V V,fun _ hSw=>ZB hSw Qc V V V (ZgS hSw.imm x1.span.b ‹_› (by exact hsb9)) V,fun _=>Zh ((((((ss ++ (Z8 (k1 : Int) 0)) ++ [32]) ++ (Ya x1.q)) ++ [32,102,114,111,109,32]) ++ (Yk x1.span.a)) ++ [32,116,111,32]) (Yk x1.span.b) (by have:=hsl; have:=(ZK (k1 : Int) 0 (by (constructor <;> omega)) (by omega)); have:=(Q5 (show (Z0 (Ye x1.q)).length ≤ 300000 by assumption)); have:=(Xa x1.span.a ‹_›); have:=(Xa x1.span.b ‹_›); (try simp only [Zo]); have:=Zb; omega) V V V <| nu V V,trivial⟩ (fun w13 S13=>?_)
    refine Zh (((((((ss ++ (Z8 (k1 : Int) 0)) ++ [32]) ++ (Ya x1.q)) ++ [32,102,114,111,109,32]) ++ (Yk x1.span.a)) ++ [32,116,111,32]) ++ (Yk x1.span.b)) [10] (by have:=hsl; have:=(ZK (k1 : Int) 0 (by (constructor <;> omega)) (by omega)); have:=(Q5 (show (Z0 (Ye x1.q)).length ≤ 300000 by assumption)); have:=(Xa x1.span.a ‹_›); have:=(Xa x1.span.b ‹_›); (try simp only [Zo]); have:=Zb; omega) V V V ?_
    refine Zq k1 (by have:=Zb; omega) V V V ?_
    exact BK.mk' _ ⟨k1 + 1,((((((((ss ++ (Z8 (k1 : Int) 0)) ++ [32]) ++ (Ya x1.q)) ++ [32,102,114,111,109,32]) ++ (Yk x1.span.a)) ++ [32,116,111,32]) ++ (Yk x1.span.b)) ++ [10]),G3,V,(L2.trans L3),S13,⟨V,V,V,trivial⟩,(by omega),(by with_reducible exact Z0g ‹_› ‹_› (by omega) (by omega) (ZwX ‹_› ‹_› (by exact of_decide_eq_false ‹_›)))⟩ (show p.steps.length - (k1 + 1) < p.steps.length - k1 by omega)
   have h11 : x1.q.kind ≠ 1:=q3
   clear q3
   exfalso; omega
  exfalso; omega
 exact RT S2 V (congrArg Za (by (rw [show ss = Qm (p.steps.take k1) by assumption,List.take_of_length_le (by omega)])))
end Go.Civ
set_option linter.unusedVariables false
set_option linter.unusedSimpArgs false
set_option maxRecDepth 100000
set_option maxHeartbeats 4000000
namespace Go.Civ
open Go.Proofs
theorem Zva {G : GH} {w : World} (hG : G.In w) (p : Pln) (hg : Glob G) (cp : List Value) (hcp : PlnE.rep G p cp) (hT : XC p = true → ∀ s ∈ p.steps,TxS s) : CL Tryz.prog (nat_lit 8) #[.agg cp.toArray] [] w G fun _ _ r=>∃ r0 r1,r = .tuple #[r0,r1] ∧ r0 = Za (tpT p) ∧ r1 = U (tpE p):=by
 refine Zg ft [] Tryz.func8 V V ?_
 have hg0:=hg
 obtain ⟨⟨rv,hrc,hrs⟩,hac⟩:=hg0
 have hS:=St.start (X:=[]) hG
 have T1:=Za8 hcp
 obtain ⟨v1,v2,rfl,A1,A2⟩:=T1
 refine Z4 [v1,v2] _ hS V V V (fun p1 w1 G1 L1 M1 C1 S1=>?_)
 refine Zc S1 C1 [v1,v2] Zat V V V V V ?_
 refine Zl S1 Xg V V V (ZlT S1.imm p (hg.mono L1) _ (QN p (A1.mono L1) (A2.mono L1))) (fun w2 G2 S2 L2=>?_)
 refine WL.split (fun (h1 : (XC p) = true)=>?_) (fun (h1 : (XC p) = false)=>?_)
 ·refine WL.alloc S2 Z1r V V (fun b1 w3 N1 S3=>?_)
  have hp60:=Zig ‹_›
  have S4:=S3.pad
  have hP1 : St w [] G G2 [some (b1,73,[(.pointer none),(Zf)]),none] w3:=S4.pick [1,0]
  refine Z hP1 (Xh.drop 0 (C1.mono L2)) QG V V V ?_
  have V1:=A1.bound
  have j1:=(L1.trans L2)
  refine Zm (A1.mono j1) QS V V ?_
  refine LP.go ft [] (fun m ρ1 w1=>∃ (k1 : Nat),∃ (pp : Value),∃ (v3 : Value) (o1 : OB),∃ (G3 : GH),m = p.steps.length - k1 ∧ G2.le G3 ∧ St w [] G G3 [some (b1,73,[pp,v3]),o1] w1 ∧ YX Enc.u8 1 5 G3 v3 (Qm (p.steps.take k1)) o1 ∧ FR ρ1 [(4, .pointer (some ⟨b1,0,none⟩)),(13,v1),(14,U (p.steps.length : Int)),(15,U (k1 : Int))] ∧ k1 ≤ p.steps.length ∧ (pp = .pointer none ∨ pp = .pointer (some ⟨b1,0,none⟩))) _ ⟨0,(.pointer none),(Zf),none,G2,V,(G2.le_refl),hP1,(YX.cast (YX.nil Enc.u8 1 (nat_lit 5) G2) (by rfl)),(ZS V),(by omega),(by exact .inl V)⟩ ?_
  rintro m ρ1 w4 ⟨k1,pp,v3,o1,G3,rfl,L3,S5,R1,F9,f1,f2⟩
  refine F9.set ?_
  clear F9
  have htl:=Zrx (l:=p.steps) (fun j s h=>Zdx ‹_› h) (hT ‹_›) k1 (by omega)
  refine Zp (k1 : Int) (p.steps.length : Int) V V V (fun h2=>?_) (fun h2=>?_)
  ·have j2:=(j1.trans L3)
   refine WL.indexAddr (A1.mono j2) k1 (by omega) QS XQ V V V V (fun p2 x1 U1 E1=>?_)
   obtain ⟨D1,C2,R2⟩:=E1
   have T2:=Q8 R2
   obtain ⟨v4,v5,v6,v7,v9,rfl,B1,B2,A3,A4,Z7,Z5,ZD,hb6,hb7,ZV,A5,hb9,ZI,ZJ,ZL,A6,Y0,Y6,A7,YA,Y9⟩:=T2
   refine Zc S5 C2 (SV x1.q v4 v5 v6 v7 (U x1.a) (U x1.b) v9 (U x1.span.a) (U x1.span.b)) XQ V V V V V ?_
   refine WL.alloc S5 XQ V V (fun b2 w5 N2 S6=>?_)
   refine WL.store S6 0 _ _ _ 0 _ (SV x1.q v4 v5 v6 v7 (U x1.a) (U x1.b) v9 (U x1.span.a) (U x1.span.b)) (SV x1.q v4 v5 v6 v7 (U x1.a) (U x1.b) v9 (U x1.span.a) (U x1.span.b)) _ V V XQ V (ZZ V) (by simp only [YE,A3.oneC,A4.oneC,A5.oneC,A6.oneC,A7.oneC] <;> rfl) V V V V V (fun w6 S7=>?_)
   have T3:=S7.shutB N2
   obtain ⟨G4,L4,C3,S8⟩:=T3
   have hsv:=Zdx ‹_› (by assumption : p.steps[k1]? = some x1)
   have htx:=hT ‹_› x1 (List.mem_of_getElem? (by assumption : p.steps[k1]? = some x1))
   have htx2:=htx.2
   have hh3:=Q5 htx.2
   have T4:=ZpC hsv (by omega)
   obtain ⟨hal,hbl⟩:=T4
   have hpd:=Zii (n:=k1) (by omega)
   have hsl9:=ZpD hsv
   refine dr [(7,false)] [(21,Za (ZA k1 1)),(22,Za ((ZA k1 1) ++ [32])),(24, .agg (QV x1.q v4 v5 v6 v7).toArray),(25,Za (Ya x1.q)),(26,Za (((ZA k1 1) ++ [32]) ++ (Ya x1.q)))] S8 ⟨fun _ hSw=>ZB hSw Xc V V V (ZpU hSw.imm k1 (by omega)) V,fun _=>Zh (ZA k1 1) [32] (by have:=(Zg5 k1 (by omega)); (try simp only [Zo]); have:=Zb; omega) V V V <| nu V V,fun _ hSw=>Zc hSw (Xh.drop 0 C3) (QV x1.q v4 v5 v6 v7) Zt V V V V V <| nu V V,fun _ hSw=>ZB hSw XR V V V (ZuX hSw.imm x1.q (hg.mono (j2.trans L4)) _ (Zr x1.q B1 B2 (A3.mono L4) (A4.mono L4) Z7 Z5 ZD hb6 hb7 ZV (A5.mono L4) hb9 ZI ZJ ZL (A6.mono L4)) (Zif (ZjT hsv)).vl htx.1 htx.2) V,fun _=>Zh ((ZA k1 1) ++ [32]) (Ya x1.q) (by have:=(Zg5 k1 (by omega)); have:=(Q5 (show (Z0 (Ye x1.q)).length ≤ 300000 by assumption)); (try simp only [Zo]); have:=Zb; omega) V V V <| nu V V,trivial⟩ (fun w7 S9=>?_)
   have hlw1 : (Qm (p.steps.take k1)).length + (((ZA k1 1) ++ [32]) ++ (Ya x1.q)).length ≤ reach:=by have:=Zb; simp only [Zo] at *; omega
   refine X3 [.pointer (some ⟨b1,0,none⟩),Za (((ZA k1 1) ++ [32]) ++ (Ya x1.q))] #[] YK V V V ((ZbX S9 ‹_› (R1.mono L4) (((ZA k1 1) ++ [32]) ++ (Ya x1.q)) hlw1).mono ?_)
   rintro e5 w9 ⟨v10,o2,rfl,S10,R3⟩
   refine ⟨_,V,?_⟩
   refine Z S10 (Xh.drop 16 C3) Zk V V V <| Z S10 (Xh.drop 17 C3) Zk V V V ?_
   refine WL.buildSlice _ [(0,[U x1.a]),(1,[U x1.b])] [U x1.a,U x1.b] S10 Qr V V V V (fun z hz=>by match z,hz with | [z0,z1],_=>rfl) (fun b3 w10 N3 S11=>?_)
   refine Zgm (some ⟨b3,0,none⟩) 2 2 Xz V V ?_
   have T5:=St.sealSl (E:=Enc.int) (by_:=8) (l:=([x1.a,x1.b] : List Int)) S11 N3 ⟨[U x1.a],_,V,⟨V,Y0⟩,⟨[U x1.b],_,V,⟨V,Y6⟩,V⟩⟩ V (by simp [reach]) (by simp [reach])
   obtain ⟨G5,L5,A8,S12⟩:=T5
   refine LP.go ft [] (fun m ρ1 w1=>∃ (k2 : Nat),∃ (v11 : Value) (o3 : OB),∃ (G6 : GH),m = 2 - k2 ∧ G5.le G6 ∧ St w [] G G6 [some (b1,73,[(.pointer (some ⟨b1,0,none⟩)),v11]),o3] w1 ∧ YX Enc.u8 1 5 G6 v11 ((Qm (p.steps.take k1) ++ (((ZA k1 1) ++ [32]) ++ (Ya x1.q))) ++ Zad x1 k2) o3 ∧ FR ρ1 [(4, .pointer (some ⟨b1,0,none⟩)),(6, .pointer (some (⟨b2,0,none⟩ : Addr))),(13,v1),(14,U (p.steps.length : Int)),(15,U (k1 : Int)),(32, .slice (some ⟨b3,0,none⟩) 2 2),(33,U ((2 : Nat) : Int)),(34,U (k2 : Int))] ∧ k2 ≤ 2) _ ⟨0,v10,o2,G5,V,(G5.le_refl),S12,(YX.cast (R3.mono L5) (by exact Z1b.symm)),(ZS V),(by omega)⟩ ?_
   rintro m ρ1 w11 ⟨k2,v11,o3,G6,rfl,L6,S13,R4,F9,f3⟩
   refine F9.set ?_
   clear F9
   have hkl:=ZwY (k:=k2) hal hbl
   refine Zp (k2 : Int) ((2 : Nat) : Int) V V V (fun h3=>?_) (fun h3=>?_)
   ·refine WL.indexAddr (A8.mono L6) k2 (by (show _ < (2 : Nat); omega)) Xz Zk V V V V (fun p3 x2 U2 E2=>?_)
    obtain ⟨D2,C4,R5⟩:=E2
    obtain ⟨rfl,Yr⟩:=R5
    refine Z S13 C4 Zk V V V ?_
    refine ZM x2 0 V V V (fun h4=>?_) (fun h4=>?_)
    ·have hxl9:=ZyI ‹_› hsv (by omega : 0 ≤ x2)
     have T6 : ∃ n : Nat,x2 = (n : Int):=⟨Int.toNat x2,by omega⟩
     obtain ⟨n9,rfl⟩:=T6
     have hp9:=Zii (n:=n9) (by omega)
     refine Zl S13 Xc V V V (ZpU S13.imm n9 (by omega)) (fun w12 G7 S14 L7=>?_)
     refine Zh [32,35] (ZA n9 1) (by have:=(Zg5 n9 (by omega)); (try simp only [Zo]); have:=Zb; omega) V V V ?_
     have hlw2 : ((Qm (p.steps.take k1) ++ (((ZA k1 1) ++ [32]) ++ (Ya x1.q))) ++ Zad x1 k2).length + ([32,35] ++ (ZA n9 1)).length ≤ reach:=by have:=Zb; simp only [Zo] at *; omega
     refine X3 [.pointer (some ⟨b1,0,none⟩),Za ([32,35] ++ (ZA n9 1))] #[] YK V V V ((ZbX S14 (by exact .inr V) (R4.mono L7) ([32,35] ++ (ZA n9 1)) hlw2).mono ?_)
     rintro e14 w13 ⟨v12,o4,rfl,S15,R6⟩
     refine ⟨_,V,?_⟩
     refine Zq k2 (by have:=Zb; omega) V V V ?_
     exact BK.mk' _ ⟨k2 + 1,v12,o4,G7,V,(L6.trans L7),S15,(YX.cast R6 (by (exact ZyH ‹_›))),(ZS V),(by omega)⟩ (show 2 - (k2 + 1) < 2 - k2 by omega)
    refine Zq k2 (by have:=Zb; omega) V V V ?_
    exact BK.mk' _ ⟨k2 + 1,v11,o3,G6,V,L6,S13,(YX.cast R4 (by (exact Z1a ‹_› (by omega)))),(ZS V),(by omega)⟩ (show 2 - (k2 + 1) < 2 - k2 by omega)
   have j3:=(L5.trans L6)
   refine Z S13 (Xh.drop 0 (Xh.drop 0 (C3.mono j3))) Zk V V V ?_
   refine Zz x1.q.kind 1 V V V (fun h5=>?_) (fun h5=>?_)
   ·have hlw3 : ((Qm (p.steps.take k1) ++ (((ZA k1 1) ++ [32]) ++ (Ya x1.q))) ++ Zad x1 k2).length + [10].length ≤ reach:=by have:=Zb; simp only [Zo] at *; omega
    refine X3 [.pointer (some ⟨b1,0,none⟩),Za [10]] #[] YK V V V ((ZbX S13 (by exact .inr V) R4 [10] hlw3).mono ?_)
    rintro e15 w14 ⟨v13,o5,rfl,S16,R7⟩
    refine ⟨_,V,?_⟩
    refine Zq k1 (by have:=Zb; omega) V V V ?_
    exact BK.mk' _ ⟨k1 + 1,(.pointer (some ⟨b1,0,none⟩)),v13,o5,G6,V,(L3.trans ((L4.trans L5).trans L6)),S16,(YX.cast R7 (by (exact ZsY ‹_› (by omega) (ZlA (by exact .inl ‹_›))))),(ZS V),(by omega),(by exact .inr V)⟩ (show p.steps.length - (k1 + 1) < p.steps.length - k1 by omega)
   refine Zc S13 (Xh.drop 19 (C3.mono j3)) [U x1.span.a,U x1.span.b] Y5 V V V V V <| Zc S13 (hac.mono (((j2.trans L4).trans L5).trans L6)) [U (-62135596800),U 253402300800] Y5 V V V V V <| ZaC (QT x1.span (Span.mk (-62135596800) 253402300800)) ZbG V V V ?_
   refine WL.split (fun (h6 : (decide (x1.span = (Span.mk (-62135596800) 253402300800))) = true)=>?_) (fun (h6 : (decide (x1.span = (Span.mk (-62135596800) 253402300800))) = false)=>?_)
   ·have hlw4 : ((Qm (p.steps.take k1) ++ (((ZA k1 1) ++ [32]) ++ (Ya x1.q))) ++ Zad x1 k2).length + [10].length ≤ reach:=by have:=Zb; simp only [Zo] at *; omega
    refine X3 [.pointer (some ⟨b1,0,none⟩),Za [10]] #[] YK V V V ((ZbX S13 (by exact .inr V) R4 [10] hlw4).mono ?_)
    rintro e16 w15 ⟨v14,o6,rfl,S17,R8⟩
    refine ⟨_,V,?_⟩
    refine Zq k1 (by have:=Zb; omega) V V V ?_
    exact BK.mk' _ ⟨k1 + 1,(.pointer (some ⟨b1,0,none⟩)),v14,o6,G6,V,(L3.trans ((L4.trans L5).trans L6)),S17,(YX.cast R8 (by (exact ZsY ‹_› (by omega) (ZlA (by exact .inr (of_decide_eq_true ‹_›)))))),(ZS V),(by omega),(by exact .inr V)⟩ (show p.steps.length - (k1 + 1) < p.steps.length - k1 by omega)
   refine Zc S13 (Xh.drop 19 (C3.mono j3)) [U x1.span.a,U x1.span.b] Y5 V V V V V <| WL.build _ [] [U 0,U 0] Y5 V ZbL V V V V <| ZaC (QT x1.span (Span.mk 0 0)) ZbG V V V ?_
   refine WL.split (fun (h7 : (decide (x1.span = (Span.mk 0 0))) = true)=>?_) (fun (h7 : (decide (x1.span = (Span.mk 0 0))) = false)=>?_)
   ·have hlw5 : ((Qm (p.steps.take k1) ++ (((ZA k1 1) ++ [32]) ++ (Ya x1.q))) ++ Zad x1 k2).length + [32,110,101,118,101,114].length ≤ reach:=by have:=Zb; simp only [Zo] at *; omega
    refine X3 [.pointer (some ⟨b1,0,none⟩),Za [32,110,101,118,101,114]] #[] YK V V V ((ZbX S13 (by exact .inr V) R4 [32,110,101,118,101,114] hlw5).mono ?_)
    rintro e17 w16 ⟨v15,o7,rfl,S18,R9⟩
    refine ⟨_,V,?_⟩
    have hlw6 : ((Qm (p.steps.take k1) ++ (((ZA k1 1) ++ [32]) ++ (Ya x1.q))) ++ Zad x1 k2 ++ [32,110,101,118,101,114]).length + [10].length ≤ reach:=by have:=Zb; simp only [Zo] at *; omega
    refine X3 [.pointer (some ⟨b1,0,none⟩),Za [10]] #[] YK V V V ((ZbX S18 (by exact .inr V) R9 [10] hlw6).mono ?_)
    rintro e18 w17 ⟨v16,o8,rfl,S19,R10⟩
    refine ⟨_,V,?_⟩
    refine Zq k1 (by have:=Zb; omega) V V V ?_
    exact BK.mk' _ ⟨k1 + 1,(.pointer (some ⟨b1,0,none⟩)),v16,o8,G6,V,(L3.trans ((L4.trans L5).trans L6)),S19,(YX.cast R10 (by (exact ZsZ ‹_› (by omega) (ZwW ‹_› (of_decide_eq_false ‹_›) (of_decide_eq_true ‹_›))))),(ZS V),(by omega),(by exact .inr V)⟩ (show p.steps.length - (k1 + 1) < p.steps.length - k1 by omega)
   have T7:=ZiH hsv ‹_› (of_decide_eq_false ‹_›)
   obtain ⟨hsa9,hsb9⟩:=T7
   have htm1:=Xa _ hsa9
   have htm2:=Xa _ hsb9
   refine dr [(11,false)] [(47,U x1.span.a),(48,Za (Yk x1.span.a)),(49,Za ([32,102,114,111,109,32] ++ (Yk x1.span.a))),(50,Za (([32,102,114,111,109,32] ++ (Yk x1.span.a)) ++ [32,116,111,32])),(53,U x1.span.b),(54,Za (Yk x1.span.b)),(55,Za ((([32,102,114,111,109,32] ++ (Yk x1.span.a)) ++ [32,116,111,32]) ++ (Yk x1.span.b)))] S13 ⟨fun _ hSw=>Z hSw (Xh.drop 0 (Xh.drop 19 (C3.mono j3))) Zk V V V <| nu V V,fun _ hSw=>ZB hSw Qa V V V (Zjw hSw.imm x1.span.a ‹_› (by exact hsa9)) V,fun _=>Zh [32,102,114,111,109,32] (Yk x1.span.a) (by have:=(Xa x1.span.a ‹_›); (try simp only [Zo]); have:=Zb; omega) V V V <| nu V V,fun _=>Zh ([32,102,114,111,109,32] ++ (Yk x1.span.a)) [32,116,111,32] (by have:=(Xa x1.span.a ‹_›); (try simp only [Zo]); have:=Zb; omega) V V V <| nu V V,fun _ hSw=>Z hSw (Xh.drop 1 (Xh.drop 19 (C3.mono j3))) Zk V V V <| nu V V,fun _ hSw=>ZB hSw Qa V V V (Zjw hSw.imm x1.span.b ‹_› (by exact hsb9)) V,fun _=>Zh (([32,102,114,111,109,32] ++ (Yk x1.span.a)) ++ [32,116,111,32]) (Yk x1.span.b) (by have:=(Xa x1.span.a ‹_›); have:=(Xa x1.span.b ‹_›); (try simp only [Zo]); have:=Zb; omega) V V V <| nu V V,trivial⟩ (fun w18 S20=>?_)
   have hlw7 : ((Qm (p.steps.take k1) ++ (((ZA k1 1) ++ [32]) ++ (Ya x1.q))) ++ Zad x1 k2).length + ((([32,102,114,111,109,32] ++ (Yk x1.span.a)) ++ [32,116,111,32]) ++ (Yk x1.span.b)).length ≤ reach:=by have:=Zb; simp only [Zo] at *; omega
   refine X3 [.pointer (some ⟨b1,0,none⟩),Za ((([32,102,114,111,109,32] ++ (Yk x1.span.a)) ++ [32,116,111,32]) ++ (Yk x1.span.b))] #[] YK V V V ((ZbX S20 (by exact .inr V) R4 ((([32,102,114,111,109,32] ++ (Yk x1.span.a)) ++ [32,116,111,32]) ++ (Yk x1.span.b)) hlw7).mono ?_)
   rintro e19 w19 ⟨v17,o9,rfl,S21,R11⟩
   refine ⟨_,V,?_⟩
   have hlw8 : ((Qm (p.steps.take k1) ++ (((ZA k1 1) ++ [32]) ++ (Ya x1.q))) ++ Zad x1 k2 ++ ((([32,102,114,111,109,32] ++ (Yk x1.span.a)) ++ [32,116,111,32]) ++ (Yk x1.span.b))).length + [10].length ≤ reach:=by have:=Zb; simp only [Zo] at *; omega
   refine X3 [.pointer (some ⟨b1,0,none⟩),Za [10]] #[] YK V V V ((ZbX S21 (by exact .inr V) R11 [10] hlw8).mono ?_)
   rintro e20 w20 ⟨v18,o10,rfl,S22,R12⟩
   refine ⟨_,V,?_⟩
   refine Zq k1 (by have:=Zb; omega) V V V ?_
   exact BK.mk' _ ⟨k1 + 1,(.pointer (some ⟨b1,0,none⟩)),v18,o10,G6,V,(L3.trans ((L4.trans L5).trans L6)),S22,(YX.cast R12 (by (exact ZsZ ‹_› (by omega) (ZwX ‹_› (of_decide_eq_false ‹_›) (of_decide_eq_false ‹_›))))),(ZS V),(by omega),(by exact .inr V)⟩ (show p.steps.length - (k1 + 1) < p.steps.length - k1 by omega)
  refine X3 [.pointer (some ⟨b1,0,none⟩)] #[] Qh V V V ((ZrP hG S5 ‹_› R1 (by exact ZyM (by omega) (by omega))).mono ?_)
  rintro e21 w21 ⟨rfl,S23⟩
  refine ⟨_,V,?_⟩
  exact RT S23 V ⟨_,_,V,(congrArg Za (by exact ZyK ‹_› (by omega))),(congrArg (Value.int .i64) (by exact Ztc ‹_›))⟩
 exact RT S2 V ⟨_,_,V,(congrArg Za (by exact Zta ‹_›)),(congrArg (Value.int .i64) (by exact Ztb ‹_›))⟩
end Go.Civ
set_option linter.unusedVariables false
set_option linter.unusedSimpArgs false
set_option maxRecDepth 100000
set_option maxHeartbeats 4000000
namespace Go.Civ
open Go.Proofs
theorem Zoo {G : GH} {w : World} (hG : G.In w) (l : List Stp) (pf : Stp → Bool) (vl : Value) (hvl : Sl StpE 280 G vl l) (fid : Nat) (fcap : Array Value) (hf : FnB Tryz.prog (Is StpE) fid fcap G (fun x=>x ∈ l) pf) : CL Tryz.prog (nat_lit 15) #[vl, .func (.func fid) #[] fcap] [] w G fun _ _ r=>r = U (Qi pf l):=by
 refine Zg ft [] Tryz.func15 V V ?_
 have hS:=St.start (X:=[]) hG
 have V1:=hvl.bound
 refine Zm hvl QS V V ?_
 refine LP.go ft [] (fun m ρ1 w1=>∃ (k1 : Nat),∃ (G1 : GH),m = l.length - k1 ∧ G.le G1 ∧ St w [] G G1 [] w1 ∧ FR ρ1 [(0,vl),(1, .func (.func fid) #[] fcap),(7,U (l.length : Int)),(8,U (k1 : Int))] ∧ k1 ≤ l.length ∧ ∀ j,j < k1 → ∀ x,l[j]? = some x → pf x = false) _ ⟨0,G,V,(G.le_refl),hS,(ZS V),(by omega),(by intro j hj; omega)⟩ ?_
 rintro m ρ1 w1 ⟨k1,G1,rfl,L1,S1,F9,f1,f2⟩
 refine F9.set ?_
 clear F9
 refine Zp (k1 : Int) (l.length : Int) V V V (fun h1=>?_) (fun h1=>?_)
 ·refine WL.indexAddr (hvl.mono L1) k1 (by omega) QS XQ V V V V (fun p1 x1 U1 E1=>?_)
  obtain ⟨D1,C1,R1⟩:=E1
  obtain ⟨v1,v2,v3,v4,v5,rfl,B1,B2,A1,A2,Z7,Z5,ZD,hb6,hb7,ZV,A3,hb9,ZI,ZJ,ZL,A4,Y0,Y6,A5,YA,Y9⟩:=Q8 R1
  refine Zc S1 C1 (SV x1.q v1 v2 v3 v4 (U x1.a) (U x1.b) v5 (U x1.span.a) (U x1.span.b)) XQ V V V V V ?_
  refine Zl S1 hf.body V V V (hf.call _ _ (.agg (SV x1.q v1 v2 v3 v4 (U x1.a) (U x1.b) v5 (U x1.span.a) (U x1.span.b)).toArray) x1 L1 S1.imm (List.mem_of_getElem? U1) ⟨_,V,(Zdn x1 B1 B2 A1 A2 Z7 Z5 ZD hb6 hb7 ZV A3 hb9 ZI ZJ ZL A4 Y0 Y6 A5 YA Y9)⟩) (fun w2 G2 S2 L2=>?_)
  refine WL.split (fun (h2 : (pf x1) = true)=>?_) (fun (h2 : (pf x1) = false)=>?_)
  ·exact RI S2 V (by exact (ZaY _ ‹_› ‹_› ‹_›).symm)
  refine Zq k1 (by have:=Zb; omega) V V V ?_
  exact BK.mk' _ ⟨k1 + 1,G2,V,(L1.trans L2),S2,(ZS V),(by omega),(by exact Ys ‹_› ‹_› ‹_›)⟩ (show l.length - (k1 + 1) < l.length - k1 by omega)
 exact RI S1 V (by exact (ZaB ‹_› (by omega)).symm)
theorem Zj9 {G : GH} {w : World} (hG : G.In w) (l : List Stp) (pf : Stp → Bool) (vl : Value) (hvl : Sl StpE 280 G vl l) (fid : Nat) (fcap : Array Value) (hf : FnB Tryz.prog (Is StpE) fid fcap G (fun x=>x ∈ l) pf) : CL Tryz.prog (nat_lit 5) #[vl, .func (.func fid) #[] fcap] [] w G fun _ _ r=>r = .bool (l.any pf):=by
 refine Zg ft [] Tryz.func5 V V ?_
 have hS:=St.start (X:=[]) hG
 refine Zl hS YA V V V (Zoo hS.imm l pf _ hvl fid fcap (hf.up (G.le_refl))) (fun w1 G1 S1 L1=>?_)
 refine Yd .geq V .i64 (Qi pf l) 0 V V V ?_
 exact RB S1 V (by exact Zcu _ _)
theorem Zqt {G : GH} {w : World} (hG : G.In w) (x : Stp) (cx : List Value) (hcx : StpE.rep G x cx) : CL Tryz.prog (nat_lit 6) #[.agg cx.toArray] [] w G fun _ _ r=>r = .bool (Zdz x):=by
 refine Zg ft [] Tryz.func6 V V ?_
 have hS:=St.start (X:=[]) hG
 obtain ⟨v1,v2,v3,v4,v5,rfl,B1,B2,A1,A2,Z7,Z5,ZD,hb6,ZV,hb9,A3,ZI,ZJ,ZL,Y0,A4,Y6,YA,A5,Y9,Yr⟩:=Q8 hcx
 refine Z4 (SV x.q v1 v2 v3 v4 (U x.a) (U x.b) v5 (U x.span.a) (U x.span.b)) _ hS V V V (fun p1 w1 G1 L1 M1 C1 S1=>?_)
 refine WL.alloc S1 Zk V V (fun b1 w2 N1 S2=>?_)
 refine Z9 S2 0 [U 120] V V Zk V V V V V V (fun w3 S3=>?_)
 refine Z S3 (Xh.drop 18 C1) QX V V V ?_
 have V1:=A5.bound
 refine Zm (A5.mono L1) QM V V ?_
 refine Z1 (x.keys.length : Int) 20 V V V (fun h1=>?_) (fun h1=>?_)
 ·exact RB S3 V (by exact Z1j (by omega))
 refine Zc S3 (Xh.drop 0 C1) (QV x.q v1 v2 v3 v4) Zt V V V V V ?_
 refine Zax hb7 V V V (ZxB (Y7 x.q) S3.imm x.q 0 120 _ (Zr x.q B1 B2 (A1.mono L1) (A2.mono L1) Z7 Z5 ZD hb6 ZV hb9 (A3.mono L1) ZI ZJ ZL Y0 (A4.mono L1)) _ (S3.lentAt 0 V) (by omega) (by omega) (QI _)) (fun w4 G2 r1 hres1 ⟨P1,hlc1⟩=>?_)
 have S4 : St w [] G G2 [some (b1,3,[U ((YW (Y7 x.q) x.q 0 120).2)])] w4:=S3.callX 0 V [U ((YW (Y7 x.q) x.q 0 120).2)] hres1 (hlc1 _ V).1
 have L2:=hres1.le
 subst P1
 exact RB S4 V (by exact Z1k (by omega))
theorem Zmf {G : GH} {w : World} (hG : G.In w) (p : Pln) (f : List UInt8 → Int) (hg : Glob G) (cp : List Value) (hcp : PlnE.rep G p cp) (vm : Value) (hvm : Zhf Tryz.prog (nat_lit 26) G vm f) (hml : ZlB Tryz.prog 26 G vm) : CL Tryz.prog (nat_lit 3) #[.agg cp.toArray,vm] [] w G fun _ _ r=>r = .bool true:=by
 refine Zg ft [] Tryz.func3 V V ?_
 have hS:=St.start (X:=[]) hG
 obtain ⟨v1,v2,rfl,A1,A2⟩:=Za8 hcp
 refine Z4 [v1,v2] _ hS V V V (fun p1 w1 G1 L1 M1 C1 S1=>?_)
 refine Zl S1 Z5 V V V (ZeB S1.imm (hg.mono L1)) (fun w2 G2 S2 L2=>?_)
 refine Z S2 (Xh.drop 0 (C1.mono L2)) QG V V V ?_
 have V1:=A1.bound
 have j1:=(L1.trans L2)
 refine Zm (A1.mono j1) QS V V ?_
 refine Z1 (p.steps.length : Int) 80 V V V (fun h1=>?_) (fun h1=>?_)
 ·refine Zl S2 Z5 V V V (ZeB S2.imm (hg.mono j1)) (fun w3 G3 S3 L3=>?_)
  exact RB S3 V (by rfl)
 refine Z S2 (Xh.drop 1 (C1.mono L2)) QR V V V ?_
 have V2:=A2.bound
 refine Zm (A2.mono j1) Q6 V V ?_
 refine Z1 (p.cols.length : Int) 20 V V V (fun h2=>?_) (fun h2=>?_)
 ·refine Zl S2 Z5 V V V (ZeB S2.imm (hg.mono j1)) (fun w4 G4 S4 L4=>?_)
  exact RB S4 V (by rfl)
 refine ZpF (hml.mono j1) S2 V V (fun mm1=>?_)
 refine Z1 mm1 20 V V V (fun h3=>?_) (fun h3=>?_)
 ·refine Zl S2 Z5 V V V (ZeB S2.imm (hg.mono j1)) (fun w5 G5 S5 L5=>?_)
  exact RB S5 V (by rfl)
 refine Z S2 (Xh.drop 0 (C1.mono L2)) QG V V V ?_
 refine Zl S2 ZD V V V (Zj9 S2.imm p.steps (fun x8=>Zdz x8) _ (A1.mono j1) 6 #[] ⟨hb6,fun G8 w8 v8 x8 L8 hG8 hon8 hA8=>by obtain ⟨cs_x8,rfl,hr_x8⟩:=hA8; exact Zqt hG8 x8 cs_x8 hr_x8⟩) (fun w6 G6 S6 L6=>?_)
 refine WL.split (fun (h4 : (p.steps.any (fun x8=>Zdz x8)) = true)=>?_) (fun (h4 : (p.steps.any (fun x8=>Zdz x8)) = false)=>?_)
 ·refine Zl S6 Z5 V V V (ZeB S6.imm (hg.mono (j1.trans L6))) (fun w7 G7 S7 L7=>?_)
  exact RB S7 V (by rfl)
 have hTx:=Zu1 (Zxe A1) ‹_›
 have j2:=(j1.trans L6)
 refine Zc S6 (C1.mono (L2.trans L6)) [v1,v2] Zat V V V V V <| Yq S6 ZV V V V (Zva S6.imm p (hg.mono j2) _ (QN p (A1.mono j2) (A2.mono j2)) hTx) ?_
 rintro w9 G9 _ ⟨_,_,rfl,rfl,rfl⟩ S8 L9
 refine Zc S8 (C1.mono ((L2.trans L6).trans L9)) [v1,v2] Zat V V V V V ?_
 refine Zl S8 hb9 V V V (Zog S8.imm p _ (QN p (A1.mono (((L1.trans L2).trans L6).trans L9)) (A2.mono (((L1.trans L2).trans L6).trans L9)))) (fun w10 G10 S9 L10=>?_)
 refine WL.split (fun (h5 : (XC p) = true)=>?_) (fun (h5 : (XC p) = false)=>?_)
 ·rcases Cmp.dec .eql (Qp f p) (Qp f p) with ⟨B1,q1⟩ | ⟨B1,q1⟩
  ·have h6 : (Qp f p) = (Qp f p):=q1
   clear q1
   rcases Cmp.dec .eql (tpE p) 0 with ⟨B2,q2⟩ | ⟨B2,q2⟩
   ·have h7 : (tpE p) = 0:=q2
    clear q2
    refine dr [(17,false)] [(52, .agg #[v1,v2]),(54,U (Qp f p)),(55, .agg #[v1,v2]),(57,U (Qp f p)),(58, .bool true),(61, .bool true),(65, .agg #[v1,v2]),(66,Za (Qm p.steps)),(67, .bool (SCmp.b .eql (tpT p) (Qm p.steps)))] S9 ⟨fun _ hSw=>Zc hSw (C1.mono (((L2.trans L6).trans L9).trans L10)) [v1,v2] Zat V V V V V <| nu V V,fun _ hSw=>ZB hSw ZI V V V (ZgA hSw.imm p f (hg.mono ((((L1.trans L2).trans L6).trans L9).trans L10)) _ (QN p (A1.mono ((((L1.trans L2).trans L6).trans L9).trans L10)) (A2.mono ((((L1.trans L2).trans L6).trans L9).trans L10))) _ (hvm.mono ((((L1.trans L2).trans L6).trans L9).trans L10))) V,fun _ hSw=>Zc hSw (C1.mono (((L2.trans L6).trans L9).trans L10)) [v1,v2] Zat V V V V V <| nu V V,fun _ hSw=>ZB hSw ZJ V V V (Zgj hSw.imm p f _ (QN p (A1.mono ((((L1.trans L2).trans L6).trans L9).trans L10)) (A2.mono ((((L1.trans L2).trans L6).trans L9).trans L10))) _ (hvm.mono ((((L1.trans L2).trans L6).trans L9).trans L10)) ‹_›) V,fun _=>WL.cmpV .eql V .i64 (Qp f p) (Qp f p) _ B1 V V V <| nu V V,fun _=>WL.cmpV .eql V .i64 (tpE p) 0 _ B2 V V V <| nu V V,fun _ hSw=>Zc hSw (C1.mono (((L2.trans L6).trans L9).trans L10)) [v1,v2] Zat V V V V V <| nu V V,fun _ hSw=>ZB hSw ZL V V V (Zqi hSw.imm p _ (QN p (A1.mono ((((L1.trans L2).trans L6).trans L9).trans L10)) (A2.mono ((((L1.trans L2).trans L6).trans L9).trans L10))) ‹_› (hTx ‹_›)) V,fun _=>Zn .eql V (tpT p) (Qm p.steps) V V V <| nu V V,trivial⟩ (fun w11 S10=>?_)
    exact RB S10 V (by exact Z1m ‹_›)
   have h7 : (tpE p) ≠ 0:=q2
   clear q2
   refine dr [(17,false)] [(52, .agg #[v1,v2]),(54,U (Qp f p)),(55, .agg #[v1,v2]),(57,U (Qp f p)),(58, .bool true),(61, .bool false)] S9 ⟨fun _ hSw=>Zc hSw (C1.mono (((L2.trans L6).trans L9).trans L10)) [v1,v2] Zat V V V V V <| nu V V,fun _ hSw=>ZB hSw ZI V V V (ZgA hSw.imm p f (hg.mono ((((L1.trans L2).trans L6).trans L9).trans L10)) _ (QN p (A1.mono ((((L1.trans L2).trans L6).trans L9).trans L10)) (A2.mono ((((L1.trans L2).trans L6).trans L9).trans L10))) _ (hvm.mono ((((L1.trans L2).trans L6).trans L9).trans L10))) V,fun _ hSw=>Zc hSw (C1.mono (((L2.trans L6).trans L9).trans L10)) [v1,v2] Zat V V V V V <| nu V V,fun _ hSw=>ZB hSw ZJ V V V (Zgj hSw.imm p f _ (QN p (A1.mono ((((L1.trans L2).trans L6).trans L9).trans L10)) (A2.mono ((((L1.trans L2).trans L6).trans L9).trans L10))) _ (hvm.mono ((((L1.trans L2).trans L6).trans L9).trans L10)) ‹_›) V,fun _=>WL.cmpV .eql V .i64 (Qp f p) (Qp f p) _ B1 V V V <| nu V V,fun _=>WL.cmpV .eql V .i64 (tpE p) 0 _ B2 V V V <| nu V V,trivial⟩ (fun w12 S11=>?_)
   exact RB S11 V (by exact absurd (Ztc ‹_›).symm ‹_›)
  have h6 : (Qp f p) ≠ (Qp f p):=q1
  clear q1
  refine dr [(17,false)] [(52, .agg #[v1,v2]),(54,U (Qp f p)),(55, .agg #[v1,v2]),(57,U (Qp f p)),(58, .bool false)] S9 ⟨fun _ hSw=>Zc hSw (C1.mono (((L2.trans L6).trans L9).trans L10)) [v1,v2] Zat V V V V V <| nu V V,fun _ hSw=>ZB hSw ZI V V V (ZgA hSw.imm p f (hg.mono ((((L1.trans L2).trans L6).trans L9).trans L10)) _ (QN p (A1.mono ((((L1.trans L2).trans L6).trans L9).trans L10)) (A2.mono ((((L1.trans L2).trans L6).trans L9).trans L10))) _ (hvm.mono ((((L1.trans L2).trans L6).trans L9).trans L10))) V,fun _ hSw=>Zc hSw (C1.mono (((L2.trans L6).trans L9).trans L10)) [v1,v2] Zat V V V V V <| nu V V,fun _ hSw=>ZB hSw ZJ V V V (Zgj hSw.imm p f _ (QN p (A1.mono ((((L1.trans L2).trans L6).trans L9).trans L10)) (A2.mono ((((L1.trans L2).trans L6).trans L9).trans L10))) _ (hvm.mono ((((L1.trans L2).trans L6).trans L9).trans L10)) ‹_›) V,fun _=>WL.cmpV .eql V .i64 (Qp f p) (Qp f p) _ B1 V V V <| nu V V,trivial⟩ (fun w13 S12=>?_)
  exact RB S12 V (by exact absurd V ‹_›)
 refine Zc S9 (C1.mono (((L2.trans L6).trans L9).trans L10)) [v1,v2] Zat V V V V V ?_
 refine Zl S9 ZI V V V (ZgA S9.imm p f (hg.mono ((((L1.trans L2).trans L6).trans L9).trans L10)) _ (QN p (A1.mono ((((L1.trans L2).trans L6).trans L9).trans L10)) (A2.mono ((((L1.trans L2).trans L6).trans L9).trans L10))) _ (hvm.mono ((((L1.trans L2).trans L6).trans L9).trans L10))) (fun w14 G11 S13 L11=>?_)
 refine Ze (Qp f p) 0 V V V (fun h8=>?_) (fun h8=>?_)
 ·refine Zn .eql V (tpT p) [] V V V ?_
  refine WL.split (fun h0=>?_) (fun h0=>?_)
  ·have h9 : (tpT p) = []:=by simpa [SCmp.b] using h0
   clear h0
   refine Yd .eql V .i64 (tpE p) 1 V V V ?_
   exact RB S13 V (by exact Z1n ‹_›)
  have h9 : (tpT p) ≠ []:=by simpa [SCmp.b] using h0
  clear h0
  exact RB S13 V (by exact absurd (Zta ‹_›).symm ‹_›)
 exact RB S13 V (by exact absurd (ZwT ‹_›).symm ‹_›)
end Go.Civ
