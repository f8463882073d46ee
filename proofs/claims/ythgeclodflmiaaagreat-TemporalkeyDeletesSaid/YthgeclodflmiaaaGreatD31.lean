/- Lemmas. -/
import Derived.Test.YthgeclodflmiaaaGreatD19
import Derived.Test.YthgeclodflmiaaaGreatD24
import Derived.Test.YthgeclodflmiaaaGreatD28
import Derived.Test.YthgeclodflmiaaaGreatD30
import Derived.Test.YthgeclodflmiaaaGreatProg
import Derived.KernelRfl
import Derived.WalkKit
set_option linter.unusedVariables false
set_option linter.unusedSimpArgs false
set_option maxRecDepth 100000
set_option maxHeartbeats 4000000
namespace Go.Civ
open Go.Proofs
theorem Zp3 {G : GH} {w : World} (hG : G.In w) (v : List Val) (vv : Value) (hvv : Sl ValE 32 G vv v) : CL Tryz.prog (nat_lit 162) #[vv] [] w G fun G' _ r=>∃ r0 r1,r = .tuple #[r0,r1] ∧ Sl ValE 32 G' r0 (Option.getD (none : Option (List Val)) []) ∧ r1 = .bool ((none : Option (List Val)).isSome):=by
 refine Zh ft [] Tryz.func162 U U ?_
 have hS:=St.start (X:=[]) hG
 exact RT hS U ⟨_,_,U,(Sl.cast (Sl.nil ValE 32 G) (by rfl)),(congrArg Value.bool (by rfl))⟩
theorem ZtI {G : GH} {w : World} (hG : G.In w) (d : Nat) (t : Table) (tx : Int) (c : Cond) (p : Span) (nx : List Val → Option (List Val)) (ct : List Value) (hct : TableE.rep G t ct) (cc : List Value) (hcc : (YQ d).rep G c cc) (cp : List Value) (hcp : SpanE.rep G p cp) (fid : Nat) (fcap : Array Value) (hf : FnO Tryz.prog (Sl ValE 32) fid fcap G (fun x=>x.length = t.s.cols.length) nx) (htx64 : Z0 tx) (hc : ChgOk t tx p nx) : CL Tryz.prog (nat_lit 160) #[.agg ct.toArray,S tx, .agg cc.toArray, .agg cp.toArray, .func (.func fid) #[] fcap] [] w G fun G' _ r=>∃ r0 r1,r = .tuple #[r0,r1] ∧ Is TableE G' r0 (ZQ t tx (Ys (X6 d c (nms t)) nx tx p t.rows)) ∧ r1 = S (XT (Ys (X6 d c (nms t)) nx tx p t.rows)):=by
 refine Y2 ft [] Tryz.func160 U U ?_
 have hS:=St.start (X:=[]) hG
 obtain ⟨v1,v2,v3,rfl,B1,A1,B2,A2,A3,B3⟩:=Zy hct
 obtain ⟨lv1,rfl,B4,B5,B6,B7,B8,B9,O1⟩:=Xo hcc
 obtain ⟨rfl,B10,Y6⟩:=ZI hcp
 refine Zw [Za t.s.name,v1,S t.s.key,v2,v3,S t.last] _ hS U U U (fun p1 w1 G1 L1 M1 C1 S1=>?_)
 refine Zw [S c.kind,Za c.col,Za c.oth,S c.v.k,S c.v.n,Za c.v.s,lv1] _ S1 U U U (fun p2 w2 G2 L2 M2 C2 S2=>?_)
 refine Zw [S p.a,S p.b] _ S2 U U U (fun p3 w3 G3 L3 M3 C3 S3=>?_)
 refine WL.alloc S3 Zm U U (fun b1 w4 N1 S4=>?_)
 have j1:=(L2.trans L3)
 refine Zb S4 (XC.drop 0 (C1.mono j1)) [Za t.s.name,v1,S t.s.key,v2] Qo U U U U U ?_
 have j2:=((L1.trans L2).trans L3)
 refine Z9 S4 Zzh U U U (Zt9 S4.imm t.s _ (Yo t.s B1 (A1.mono j2) B2 (A2.mono j2))) (fun w5 G4 r1 P1 S5 L4=>?_)
 have hlen9:=(ZY hc.valid).2.1
 refine Z S5 (XC.drop 4 (C1.mono (j1.trans L4))) YK U U U ?_
 have V1:=A3.bound
 have j3:=(j2.trans L4)
 refine Zl (A3.mono j3) Yn U U ?_
 have S7:=S5.pad
 refine LP.go ft [] (fun m ρ1 w1=>∃ (k1 : Nat),∃ (v4 : Value) (o1 : OB),∃ (G5 : GH),m = t.rows.length - k1 ∧ G4.le G5 ∧ St w [] G G5 [o1,some (b1,28,[Za [],Ze,S 0,Ze,Ze,S 0])] w1 ∧ ZS HRowE 56 37 G5 v4 (Ys (X6 d c (nms t)) nx tx p (t.rows.take k1)) o1 ∧ FR ρ1 [(1,S tx),(4, .func (.func fid) #[] fcap),(5,Zs p1),(7,Zs p2),(8,Zs p3),(10, .pointer (some ⟨b1,0,none⟩)),(12,r1),(13,v4),(30,v3),(31,S (t.rows.length : Int)),(32,S (k1 : Int))] ∧ k1 ≤ t.rows.length) _ ⟨0,(Ze),none,G4,U,(G4.le_refl),S7,(ZS.nil HRowE 56 37 G4),(Zq U),(by omega)⟩ ?_
 rintro m ρ1 w6 ⟨k1,v4,o1,G5,rfl,L5,S6,R1,F9,f1⟩
 refine F9.set ?_
 clear F9
 refine Zp (k1 : Int) (t.rows.length : Int) U U U (fun h1=>?_) (fun h1=>?_)
 ·refine WL.indexAddr (A3.mono (j3.trans L5)) k1 (by omega) Yn Zz U U U U (fun p4 x1 U1 E1=>?_)
  obtain ⟨D1,C4,R2⟩:=E1
  obtain ⟨v5,rfl,A4,YU,Xa,XF,Xz⟩:=Z7 R2
  refine Zb S6 C4 [v5,S x1.r.d.a,S x1.r.d.b,S x1.r.x.a,S x1.r.x.b] Zz U U U U U ?_
  refine WL.alloc S6 Zz U U (fun b2 w7 N2 S8=>?_)
  refine Zi S8 0 [v5,S x1.r.d.a,S x1.r.d.b,S x1.r.x.a,S x1.r.x.b] U U Zz U U (by simp only [ZA,A4.oneC] <;> rfl) U U U (fun w9 S9=>?_)
  obtain ⟨G6,L6,C5,S10⟩:=S9.shutB N2
  obtain ⟨hr1g,R8,hra,hrl,hrv,hcl⟩:=Zas hc.valid (List.mem_of_getElem? (by assumption : t.rows[k1]? = some x1))
  have hrd:=(Yk hr1g).2.1
  have hsp:=hc.span
  have htx:=Qm hc.inst
  have hcr:=ZeB (hl:=X6 d c (nms t)) hc k1
  refine Zb S10 (C2.mono (((L3.trans L4).trans L5).trans L6)) [S c.kind,Za c.col,Za c.oth,S c.v.k,S c.v.n,Za c.v.s,lv1] XI U U U U U <| Z S10 (XC.drop 0 C5) ZK U U U <| Z9 S10 Zzi U U U (ZtH S10.imm _ c (t.s.cols.map Col.name) x1.v _ ((YQ _).mono ((j3.trans L5).trans L6) hcc) _ (P1.mono (L5.trans L6)) _ (A4.mono L6)) ?_
  rintro w10 G7 _ ⟨_,_,rfl,rfl,rfl⟩ S11 L7
  refine Z S11 (XC.drop 1 (XC.drop 2 (XC.drop 1 (C5.mono L7)))) Zt U U U ?_
  refine Yr x1.r.x.b 253402300800 U U U (fun h2=>?_) (fun h2=>?_)
  ·refine Zb S11 (C5.mono L7) [v5,S x1.r.d.a,S x1.r.d.b,S x1.r.x.a,S x1.r.x.b] Zz U U U U U ?_
   refine WL.buildSlice _ [(0,[v5,S x1.r.d.a,S x1.r.d.b,S x1.r.x.a,S x1.r.x.b])] [v5,S x1.r.d.a,S x1.r.d.b,S x1.r.x.a,S x1.r.x.b] S11 YD U U U U (fun z hz=>by match z,hz with | [z0,z1,z2,z3,z4],_=>rfl) (fun b3 w11 N3 S12=>?_)
   have j4:=(L6.trans L7)
   refine WL.push (m:=([x1] : List HRow)) YD U U U (R1.mono j4) S12 1 U 0 _ _ _ _ _ U ⟨[v5,S x1.r.d.a,S x1.r.d.b,S x1.r.x.a,S x1.r.x.b],_,U,(ZT x1 (A4.mono j4) YU Xa XF Xz),U⟩ U (by have:=Zc; simp only [Zx]; omega) (by have:=Zc; simp only [Zx]; omega) U U U (fun v6 o2 w12 R3 S13=>?_)
   have S14:=S13.tail
   refine Zj k1 (by have:=Zc; omega) U U U ?_
   exact BK.mk' _ ⟨k1 + 1,v6,o2,G7,U,(L5.trans j4),S14,(ZS.cast R3 (by (rw [QX ‹_›]; (rw [Zfy (by first | exact .inl (by omega) | exact .inr (.inl ‹_›) | exact .inr (.inr (.inl (by omega))) | exact .inr (.inr (.inr (by omega))))])))),(Zq U),(by omega)⟩ (show t.rows.length - (k1 + 1) < t.rows.length - k1 by omega)
  refine Qn (d:=16) U (fun (h3 : (X6 d c (t.s.cols.map Col.name) x1.v) = true)=>?_) (fun (h3 : (X6 d c (t.s.cols.map Col.name) x1.v) = false)=>?_)
  ·have j5:=(((L4.trans L5).trans L6).trans L7)
   refine Z S11 (XC.drop 0 (XC.drop 0 (XC.drop 1 (C5.mono L7)))) Zt U U U <| Z S11 (XC.drop 1 (C3.mono j5)) Zt U U U ?_
   refine QB x1.r.d.a p.b U U U (fun h4=>?_) (fun h4=>?_)
   ·refine Zb S11 (C5.mono L7) [v5,S x1.r.d.a,S x1.r.d.b,S x1.r.x.a,S x1.r.x.b] Zz U U U U U ?_
    refine WL.buildSlice _ [(0,[v5,S x1.r.d.a,S x1.r.d.b,S x1.r.x.a,S x1.r.x.b])] [v5,S x1.r.d.a,S x1.r.d.b,S x1.r.x.a,S x1.r.x.b] S11 YD U U U U (fun z hz=>by match z,hz with | [z0,z1,z2,z3,z4],_=>rfl) (fun b4 w13 N4 S15=>?_)
    have j6:=(L6.trans L7)
    refine WL.push (m:=([x1] : List HRow)) YD U U U (R1.mono j6) S15 1 U 0 _ _ _ _ _ U ⟨[v5,S x1.r.d.a,S x1.r.d.b,S x1.r.x.a,S x1.r.x.b],_,U,(ZT x1 (A4.mono j6) YU Xa XF Xz),U⟩ U (by have:=Zc; simp only [Zx]; omega) (by have:=Zc; simp only [Zx]; omega) U U U (fun v7 o3 w14 R4 S16=>?_)
    have S17:=S16.tail
    refine Zj k1 (by have:=Zc; omega) U U U ?_
    exact BK.mk' _ ⟨k1 + 1,v7,o3,G7,U,(L5.trans j6),S17,(ZS.cast R4 (by (rw [QX ‹_›]; (rw [Zfy (by first | exact .inl (by omega) | exact .inr (.inl ‹_›) | exact .inr (.inr (.inl (by omega))) | exact .inr (.inr (.inr (by omega))))])))),(Zq U),(by omega)⟩ (show t.rows.length - (k1 + 1) < t.rows.length - k1 by omega)
   refine Z S11 (XC.drop 0 (C3.mono j5)) Zt U U U <| Z S11 (XC.drop 1 (XC.drop 0 (XC.drop 1 (C5.mono L7)))) Zt U U U ?_
   refine QB p.a x1.r.d.b U U U (fun h5=>?_) (fun h5=>?_)
   ·refine Zb S11 (C5.mono L7) [v5,S x1.r.d.a,S x1.r.d.b,S x1.r.x.a,S x1.r.x.b] Zz U U U U U ?_
    refine WL.buildSlice _ [(0,[v5,S x1.r.d.a,S x1.r.d.b,S x1.r.x.a,S x1.r.x.b])] [v5,S x1.r.d.a,S x1.r.d.b,S x1.r.x.a,S x1.r.x.b] S11 YD U U U U (fun z hz=>by match z,hz with | [z0,z1,z2,z3,z4],_=>rfl) (fun b5 w15 N5 S18=>?_)
    have j7:=(L6.trans L7)
    refine WL.push (m:=([x1] : List HRow)) YD U U U (R1.mono j7) S18 1 U 0 _ _ _ _ _ U ⟨[v5,S x1.r.d.a,S x1.r.d.b,S x1.r.x.a,S x1.r.x.b],_,U,(ZT x1 (A4.mono j7) YU Xa XF Xz),U⟩ U (by have:=Zc; simp only [Zx]; omega) (by have:=Zc; simp only [Zx]; omega) U U U (fun v9 o4 w16 R5 S19=>?_)
    have S20:=S19.tail
    refine Zj k1 (by have:=Zc; omega) U U U ?_
    exact BK.mk' _ ⟨k1 + 1,v9,o4,G7,U,(L5.trans j7),S20,(ZS.cast R5 (by (rw [QX ‹_›]; (rw [Zfy (by first | exact .inl (by omega) | exact .inr (.inl ‹_›) | exact .inr (.inr (.inl (by omega))) | exact .inr (.inr (.inr (by omega))))])))),(Zq U),(by omega)⟩ (show t.rows.length - (k1 + 1) < t.rows.length - k1 by omega)
   refine Zb S11 (C5.mono L7) [v5,S x1.r.d.a,S x1.r.d.b,S x1.r.x.a,S x1.r.x.b] Zz U U U U U ?_
   refine WL.alloc S11 Zz U U (fun b6 w17 N6 S21=>?_)
   have j8:=(L6.trans L7)
   refine Zi S21 0 [v5,S x1.r.d.a,S x1.r.d.b,S x1.r.x.a,S x1.r.x.b] U U Zz U U (by simp only [ZA,(A4.mono j8).oneC] <;> rfl) U U U (fun w18 S22=>?_)
   refine WL.store S22 0 _ _ _ 4 _ [S tx] [v5,S x1.r.d.a,S x1.r.d.b,S x1.r.x.a,S tx] _ U U Zt U (leT U) U U U U U U (fun w19 S23=>?_)
   refine Yg S23 0 _ _ _ 0 [v5,S x1.r.d.a,S x1.r.d.b,S x1.r.x.a,S tx] U U U Zz U U U ?_
   refine WL.buildSlice _ [(0,[v5,S x1.r.d.a,S x1.r.d.b,S x1.r.x.a,S tx])] [v5,S x1.r.d.a,S x1.r.d.b,S x1.r.x.a,S tx] S23 YD U U U U (fun z hz=>by match z,hz with | [z0,z1,z2,z3,z4],_=>rfl) (fun b7 w20 N7 S24=>?_)
   refine WL.push (m:=([(HRow.mk x1.v (Rect.mk x1.r.d (Span.mk x1.r.x.a tx)))] : List HRow)) YD U U U (R1.mono j8) S24 2 U 0 _ _ _ _ _ U ⟨[v5,S x1.r.d.a,S x1.r.d.b,S x1.r.x.a,S tx],_,U,(ZT (HRow.mk x1.v (Rect.mk x1.r.d (Span.mk x1.r.x.a tx))) (A4.mono j8) YU Xa XF htx64),U⟩ U (by have:=Zc; simp only [Zx]; omega) (by have:=Zc; simp only [Zx]; omega) U U U (fun v10 o5 w21 R6 S25=>?_)
   have S26:=S25.tail
   have htc:=Zd9 hrd hsp (by omega) (by omega)
   have hpl:=Zf5 x1.r.d p
   have hpl2 : (Yh 3 [x1.r.d] [p]).length ≤ 2:=by rw [htc]; exact hpl
   refine Zb S26 (XC.drop 0 (XC.drop 1 (C5.mono L7))) [S x1.r.d.a,S x1.r.d.b] Z2 U U U U U ?_
   refine WL.buildSlice _ [(0,[S x1.r.d.a,S x1.r.d.b])] [S x1.r.d.a,S x1.r.d.b] S26 YR U U U U (fun z hz=>by match z,hz with | [z0,z1],_=>rfl) (fun b8 w22 N8 S27=>?_)
   refine Zb S27 (C3.mono j5) [S p.a,S p.b] Z2 U U U U U ?_
   refine WL.buildSlice _ [(0,[S p.a,S p.b])] [S p.a,S p.b] S27 YR U U U U (fun z hz=>by match z,hz with | [z0,z1],_=>rfl) (fun b9 w23 N9 S28=>?_)
   obtain ⟨G9,L9,A5,S29⟩:=St.sealSlAt (E:=SpanE) (by_:=16) (l:=([x1.r.d] : List Span)) S28 1 U N8 ⟨[S x1.r.d.a,S x1.r.d.b],_,U,(Z1 x1.r.d YU Xa),U⟩ U (by simp [reach]) (by simp [reach])
   obtain ⟨G10,L10,A6,S30⟩:=St.sealSl (E:=SpanE) (by_:=16) (l:=([p] : List Span)) S29 N9 ⟨[S p.a,S p.b],_,U,(Z1 p B10 Y6),U⟩ U (by simp [reach]) (by simp [reach])
   refine Z9 S30 ZsD U U U (Zjy S30.imm [x1.r.d] [p] _ (A5.mono L10) _ A6 (ZcR (YG hrd)) (ZcR (YG hsp)) (by intro s hs; rw [List.mem_singleton.1 hs]; exact Zcg hrd) (by intro s hs; rw [List.mem_singleton.1 hs]; exact Zcg hsp) (by simp) (by simp)) ?_
   rintro w24 G11 _ ⟨r6,_,rfl,A7,rfl⟩ S31 L11
   have V2:=A7.bound
   refine Zl A7 Xe U U ?_
   refine LP.go ft [] (fun m ρ1 w1=>∃ (k2 : Nat),∃ (v11 : Value) (o6 : OB),∃ (G12 : GH),m = (Yh 3 [x1.r.d] [p]).length - k2 ∧ G11.le G12 ∧ St w [] G G12 [none,some (b6,37,[v5,S x1.r.d.a,S x1.r.d.b,S x1.r.x.a,S tx]),o6,some (b1,28,[Za [],Ze,S 0,Ze,Ze,S 0])] w1 ∧ ZS HRowE 56 37 G12 v11 ((Ys (X6 d c (nms t)) nx tx p (t.rows.take k1) ++ [HRow.mk x1.v (Rect.mk x1.r.d (Span.mk x1.r.x.a tx))]) ++ X1 x1.v ((Yh 3 [x1.r.d] [p]).take k2) tx 253402300800) o6 ∧ FR ρ1 [(1,S tx),(4, .func (.func fid) #[] fcap),(5,Zs p1),(7,Zs p2),(8,Zs p3),(10, .pointer (some ⟨b1,0,none⟩)),(12,r1),(13,v11),(15, .pointer (some (⟨b2,0,none⟩ : Addr))),(30,v3),(31,S (t.rows.length : Int)),(32,S (k1 : Int)),(94,r6),(95,S (((Yh 3 [x1.r.d] [p]).length : Nat) : Int)),(96,S (k2 : Int))] ∧ k2 ≤ (Yh 3 [x1.r.d] [p]).length) _ ⟨0,v10,o5,G11,U,(G11.le_refl),S31,(ZS.cast (R6.mono ((L9.trans L10).trans L11)) (by simp [X1])),(Zq U),(by omega)⟩ ?_
   rintro m ρ1 w25 ⟨k2,v11,o6,G12,rfl,L12,S32,R7,F9,f2⟩
   refine F9.set ?_
   clear F9
   have hol:=ZcP x1.v ((Yh 3 [x1.r.d] [p]).take k2) tx 253402300800
   have hot:=List.length_take_le' k2 (Yh 3 [x1.r.d] [p])
   refine Zp (k2 : Int) (((Yh 3 [x1.r.d] [p]).length : Nat) : Int) U U U (fun h6=>?_) (fun h6=>?_)
   ·refine WL.indexAddr (A7.mono L12) k2 (by omega) Xe Z2 U U U U (fun p5 x2 U2 E2=>?_)
    obtain ⟨D2,C6,R8⟩:=E2
    obtain ⟨rfl,QK,XG⟩:=ZI R8
    refine Zb S32 C6 [S x2.a,S x2.b] Z2 U U U U U ?_
    refine WL.alloc S32 Z2 U U (fun b10 w26 N10 S33=>?_)
    refine Zi S33 0 [S x2.a,S x2.b] U U Z2 U U U U U U (fun w27 S34=>?_)
    obtain ⟨G13,L13,C7,S35⟩:=S34.shutB N10
    refine Z S35 (XC.drop 0 (C5.mono (((((L7.trans L9).trans L10).trans L11).trans L12).trans L13))) ZK U U U <| Zb S35 C7 [S x2.a,S x2.b] Z2 U U U U U <| WL.build _ [(0,[S tx]),(1,[S 253402300800])] [S tx,S 253402300800] Z2 U XB U U U U <| WL.build _ [(0,[S x2.a,S x2.b]),(1,[S tx,S 253402300800])] [S x2.a,S x2.b,S tx,S 253402300800] Zct U ZbY U U U U ?_
    refine WL.build _ [(0,[v5]),(1,[S x2.a,S x2.b,S tx,S 253402300800])] [v5,S x2.a,S x2.b,S tx,S 253402300800] Zz U Za6 U U (by show [(0,(v5 : Value).cells.toList),(1,(.agg #[S x2.a,S x2.b,S tx,S 253402300800] : Value).cells.toList)] = _; simp only [(A4.mono ((((((L6.trans L7).trans L9).trans L10).trans L11).trans L12).trans L13)).cells1] <;> rfl) U ?_
    refine WL.buildSlice _ [(0,[v5,S x2.a,S x2.b,S tx,S 253402300800])] [v5,S x2.a,S x2.b,S tx,S 253402300800] S35 YD U U U U (fun z hz=>by match z,hz with | [z0,z1,z2,z3,z4],_=>rfl) (fun b11 w28 N11 S36=>?_)
    refine WL.push (m:=([(HRow.mk x1.v (Rect.mk x2 (Span.mk tx 253402300800)))] : List HRow)) YD U U U (R7.mono L13) S36 3 U 0 _ _ _ _ _ U ⟨[v5,S x2.a,S x2.b,S tx,S 253402300800],_,U,(ZT (HRow.mk x1.v (Rect.mk x2 (Span.mk tx 253402300800))) (A4.mono ((((((L6.trans L7).trans L9).trans L10).trans L11).trans L12).trans L13)) QK XG htx64 (show Z0 253402300800 from by constructor <;> decide)),U⟩ U (by have:=Zc; simp only [Zx]; omega) (by have:=Zc; simp only [Zx]; omega) U U U (fun v12 o7 w29 R9 S37=>?_)
    have S38:=S37.tail
    refine Zj k2 (by have:=Zc; omega) U U U ?_
    exact BK.mk' _ ⟨k2 + 1,v12,o7,G13,U,(L12.trans L13),S38,(ZS.cast R9 (by (rw [Zeq ‹_›,List.append_assoc]))),(Zq U),(by omega)⟩ (show (Yh 3 [x1.r.d] [p]).length - (k2 + 1) < (Yh 3 [x1.r.d] [p]).length - k2 by omega)
   refine Z S32 (XC.drop 0 (C5.mono ((((L7.trans L9).trans L10).trans L11).trans L12))) ZK U U U <| Z9 S32 hf.body U U U (hf.call _ _ v5 x1.v ((((((((((L1.trans L2).trans L3).trans L4).trans L5).trans L6).trans L7).trans L9).trans L10).trans L11).trans L12) S32.imm hrl (A4.mono (((((L6.trans L7).trans L9).trans L10).trans L11).trans L12))) ?_
   rintro w30 G14 _ ⟨r8,_,rfl,A8,rfl⟩ S39 L14
   refine Zw6 (fun (h7 : (nx x1.v).isSome = true)=>?_) (fun (h7 : (nx x1.v).isSome = false)=>?_)
   ·refine Zsh (d:=115) (congrArg (fun b9=>Value.tuple #[r8, .bool b9]) h7) ?_
    refine Z S39 (XC.drop 0 (XC.drop 0 (XC.drop 1 (C5.mono (((((L7.trans L9).trans L10).trans L11).trans L12).trans L14))))) Zt U U U <| Z S39 (XC.drop 0 (C3.mono ((((((((L4.trans L5).trans L6).trans L7).trans L9).trans L10).trans L11).trans L12).trans L14))) Zt U U U <| ZeI x1.r.d.a p.a U U U <| Z S39 (XC.drop 1 (XC.drop 0 (XC.drop 1 (C5.mono (((((L7.trans L9).trans L10).trans L11).trans L12).trans L14))))) Zt U U U <| Z S39 (XC.drop 1 (C3.mono ((((((((L4.trans L5).trans L6).trans L7).trans L9).trans L10).trans L11).trans L12).trans L14))) Zt U U U <| Zjh x1.r.d.b p.b U U U <| WL.build _ [(0,[S (max x1.r.d.a p.a)]),(1,[S (min x1.r.d.b p.b)])] [S (max x1.r.d.a p.a),S (min x1.r.d.b p.b)] Z2 U XB U U U U ?_
    refine WL.alloc S39 Z2 U U (fun b12 w31 N12 S40=>?_)
    refine Zi S40 0 [S (max x1.r.d.a p.a),S (min x1.r.d.b p.b)] U U Z2 U U U U U U (fun w32 S41=>?_)
    obtain ⟨G15,L15,C8,S42⟩:=S41.shutB N12
    refine Zb S42 C8 [S (max x1.r.d.a p.a),S (min x1.r.d.b p.b)] Z2 U U U U U <| WL.build _ [(0,[S tx]),(1,[S 253402300800])] [S tx,S 253402300800] Z2 U XB U U U U <| WL.build _ [(0,[S (max x1.r.d.a p.a),S (min x1.r.d.b p.b)]),(1,[S tx,S 253402300800])] [S (max x1.r.d.a p.a),S (min x1.r.d.b p.b),S tx,S 253402300800] Zct U ZbY U U U U ?_
    refine WL.build _ [(0,[r8]),(1,[S (max x1.r.d.a p.a),S (min x1.r.d.b p.b),S tx,S 253402300800])] [r8,S (max x1.r.d.a p.a),S (min x1.r.d.b p.b),S tx,S 253402300800] Zz U Za6 U U (by show [(0,(r8 : Value).cells.toList),(1,(.agg #[S (max x1.r.d.a p.a),S (min x1.r.d.b p.b),S tx,S 253402300800] : Value).cells.toList)] = _; simp only [(A8.mono L15).cells1] <;> rfl) U ?_
    refine WL.buildSlice _ [(0,[r8,S (max x1.r.d.a p.a),S (min x1.r.d.b p.b),S tx,S 253402300800])] [r8,S (max x1.r.d.a p.a),S (min x1.r.d.b p.b),S tx,S 253402300800] S42 YD U U U U (fun z hz=>by match z,hz with | [z0,z1,z2,z3,z4],_=>rfl) (fun b13 w33 N13 S43=>?_)
    refine WL.push (m:=([(HRow.mk ((nx x1.v).getD []) (Rect.mk (Span.mk (max x1.r.d.a p.a) (min x1.r.d.b p.b)) (Span.mk tx 253402300800)))] : List HRow)) YD U U U (R7.mono (L14.trans L15)) S43 3 U 0 _ _ _ _ _ U ⟨[r8,S (max x1.r.d.a p.a),S (min x1.r.d.b p.b),S tx,S 253402300800],_,U,(ZT (HRow.mk ((nx x1.v).getD []) (Rect.mk (Span.mk (max x1.r.d.a p.a) (min x1.r.d.b p.b)) (Span.mk tx 253402300800))) (A8.mono L15) (Za1 YU B10) (Zvq Xa Y6) htx64 (show Z0 253402300800 from by constructor <;> decide)),U⟩ U (by have:=Zc; simp only [Zx]; omega) (by have:=Zc; simp only [Zx]; omega) U U U (fun v13 o8 w34 R10 S44=>?_)
    have S45:=S44.tail
    refine Zj k1 (by have:=Zc; omega) U U U ?_
    have S46:=S45.tail
    have S47:=S46.tail
    exact BK.mk' _ ⟨k1 + 1,v13,o8,G15,U,(L5.trans (((((((L6.trans L7).trans L9).trans L10).trans L11).trans L12).trans L14).trans L15)),S47,(ZS.cast R10 (by (rw [QX ‹_›]; (rw [Zke (by omega) ‹_› (by omega) (by omega)]; first | exact ZnO (by omega) ‹_› | exact ZqR (by omega) ‹_›)))),(Zq U),(by omega)⟩ (show t.rows.length - (k1 + 1) < t.rows.length - k1 by omega)
   refine Zsh (d:=115) (congrArg (fun b9=>Value.tuple #[r8, .bool b9]) h7) ?_
   refine Zj k1 (by have:=Zc; omega) U U U ?_
   have S48:=S39.tail
   have S49:=S48.tail
   exact BK.mk' _ ⟨k1 + 1,v11,o6,G14,U,(L5.trans ((((((L6.trans L7).trans L9).trans L10).trans L11).trans L12).trans L14)),S49,(ZS.cast (R7.mono L14) (by (rw [QX ‹_›]; (rw [Zke (by omega) ‹_› (by omega) (by omega)]; first | exact ZnO (by omega) ‹_› | exact ZqR (by omega) ‹_›)))),(Zq U),(by omega)⟩ (show t.rows.length - (k1 + 1) < t.rows.length - k1 by omega)
  refine Zb S11 (C5.mono L7) [v5,S x1.r.d.a,S x1.r.d.b,S x1.r.x.a,S x1.r.x.b] Zz U U U U U ?_
  refine WL.buildSlice _ [(0,[v5,S x1.r.d.a,S x1.r.d.b,S x1.r.x.a,S x1.r.x.b])] [v5,S x1.r.d.a,S x1.r.d.b,S x1.r.x.a,S x1.r.x.b] S11 YD U U U U (fun z hz=>by match z,hz with | [z0,z1,z2,z3,z4],_=>rfl) (fun b14 w35 N14 S50=>?_)
  have j9:=(L6.trans L7)
  refine WL.push (m:=([x1] : List HRow)) YD U U U (R1.mono j9) S50 1 U 0 _ _ _ _ _ U ⟨[v5,S x1.r.d.a,S x1.r.d.b,S x1.r.x.a,S x1.r.x.b],_,U,(ZT x1 (A4.mono j9) YU Xa XF Xz),U⟩ U (by have:=Zc; simp only [Zx]; omega) (by have:=Zc; simp only [Zx]; omega) U U U (fun v14 o9 w36 R11 S51=>?_)
  have S52:=S51.tail
  refine Zj k1 (by have:=Zc; omega) U U U ?_
  exact BK.mk' _ ⟨k1 + 1,v14,o9,G7,U,(L5.trans j9),S52,(ZS.cast R11 (by (rw [QX ‹_›]; (rw [Zfy (by first | exact .inl (by omega) | exact .inr (.inl ‹_›) | exact .inr (.inr (.inl (by omega))) | exact .inr (.inr (.inr (by omega))))])))),(Zq U),(by omega)⟩ (show t.rows.length - (k1 + 1) < t.rows.length - k1 by omega)
 refine Zb S6 (C1.mono ((j1.trans L4).trans L5)) [Za t.s.name,v1,S t.s.key,v2,v3,S t.last] Zm U U U U U ?_
 obtain ⟨G16,L16,A9,S53⟩:=ZS.freeze R1 S6 0 U
 have j10:=((j3.trans L5).trans L16)
 refine Z9 S53 ZlV U U U (Zg6 S53.imm t tx (Ys (X6 d c (nms t)) nx tx p (t.rows.take k1)) _ (Zo t B1 (A1.mono j10) B2 (A2.mono j10) (A3.mono j10) B3) _ A9 htx64 (by rw [ZbQ (by omega)]; exact (Zbs hc).1) (by rw [ZbQ (by omega)]; exact (Zbs hc).2.1) (by rw [ZbQ (by omega)]; exact (Zbs hc).2.2)) ?_
 rintro w37 G17 _ ⟨r10,_,rfl,A10,rfl⟩ S54 L17
 obtain ⟨D3,rfl,R12⟩:=A10
 obtain ⟨v15,v16,v17,rfl,XY,A11,Q8,A12,A13,ZaI⟩:=Zy R12
 refine Zi S54 1 [Za ((ZQ t tx (Ys (X6 d c (nms t)) nx tx p (t.rows.take k1))).s.name),v15,S ((ZQ t tx (Ys (X6 d c (nms t)) nx tx p (t.rows.take k1))).s.key),v16,v17,S ((ZQ t tx (Ys (X6 d c (nms t)) nx tx p (t.rows.take k1))).last)] U U Zm U U (by simp only [ZA,A11.oneC,A12.oneC,A13.oneC] <;> rfl) U U U (fun w38 S55=>?_)
 obtain ⟨G18,L18,C9,S56⟩:=S55.sealAt 1 U N1
 exact Xr [.agg #[Za ((ZQ t tx (Ys (X6 d c (nms t)) nx tx p (t.rows.take k1))).s.name),v15,S ((ZQ t tx (Ys (X6 d c (nms t)) nx tx p (t.rows.take k1))).s.key),v16,v17,S ((ZQ t tx (Ys (X6 d c (nms t)) nx tx p (t.rows.take k1))).last)],S (XT (Ys (X6 d c (nms t)) nx tx p (t.rows.take k1)))] S56 ⟨_,_,_,U,U,S56.loadC C9 Zm U U,⟨_,U,U⟩⟩ ⟨_,_,U,(Is.cast ⟨_,U,(Zo (ZQ t tx (Ys (X6 d c (nms t)) nx tx p (t.rows.take k1))) XY (A11.mono L18) Q8 (A12.mono L18) (A13.mono L18) ZaI)⟩ (by rw [ZbQ (by omega)])),(congrArg (Value.int .i64) (by rw [ZbQ (by omega)]))⟩
end Go.Civ
set_option linter.unusedVariables false
set_option linter.unusedSimpArgs false
set_option maxRecDepth 100000
set_option maxHeartbeats 4000000
namespace Go.Civ
open Go.Proofs
theorem Zyk {G : GH} {w : World} (hG : G.In w) (l : List Pt) (vl : Value) (hvl : Sl PtE 40 G vl l) (hne : l ≠ []) : CL Tryz.prog (nat_lit 147) #[vl, .func (.func 117) #[] #[]] [] w G fun G' _ r=>Is PtE G' r (XM l):=by
 refine Y2 ft [] Tryz.func147 U U ?_
 have hpos:=List.length_pos_iff.2 hne
 have hS:=St.start (X:=[]) hG
 refine WL.alloc hS Yl U U (fun b1 w1 N1 S1=>?_)
 have V1:=hvl.bound
 refine Zl hvl ZcX U U ?_
 refine Zp (l.length : Int) 1 U U U (fun h1=>?_) (fun h1=>?_)
 ·exact absurd h1 (by omega)
 refine WL.indexAddr hvl 0 (by omega) ZcX Yl U U U U (fun p1 x1 U1 E1=>?_)
 obtain ⟨D1,C1,R1⟩:=E1
 obtain ⟨v1,rfl,B1,B2,A1⟩:=QG R1
 refine Zb S1 C1 [S x1.tx,S x1.vd,v1] Yl U U U U U ?_
 refine WL.alloc S1 Yl U U (fun b2 w2 N2 S2=>?_)
 refine Zi S2 0 [S x1.tx,S x1.vd,v1] U U Yl U U (by simp only [ZA,A1.oneC] <;> rfl) U U U (fun w3 S3=>?_)
 refine LP.go ft [] (fun m ρ1 w1=>∃ (k1 : Nat),∃ (mp : Pt),∃ (mv : Value),∃ (G1 : GH),m = l.length - k1 ∧ G.le G1 ∧ St w [] G G1 [some (b2,105,[S mp.tx,S mp.vd,mv]),some (b1,105,[S 0,S 0,Ze])] w1 ∧ FR ρ1 [(0,vl),(1, .func (.func 117) #[] #[]),(4, .pointer (some ⟨b1,0,none⟩)),(5, .pointer (some ⟨b2,0,none⟩)),(6,S (k1 : Int))] ∧ k1 ≤ l.length ∧ mp = XM (l.take k1) ∧ Sl ValE 32 G1 mv mp.v ∧ Z0 mp.tx ∧ Z0 mp.vd ∧ 1 ≤ k1) _ ⟨1,x1,v1,G,U,(G.le_refl),S3,(Zq U),(by omega),(by exact Zuc ‹_›),(A1),‹_›,‹_›,(by omega)⟩ ?_
 rintro m ρ1 w4 ⟨k1,mp,mv,G1,rfl,L1,S4,F9,f1,f2,f3,f4,f5,f6⟩
 refine F9.set ?_
 clear F9
 have V2:=hvl.bound
 refine Zl (hvl.mono L1) ZcX U U ?_
 refine Zp (k1 : Int) (l.length : Int) U U U (fun h2=>?_) (fun h2=>?_)
 ·obtain ⟨p2,x2,U2,E2,W1⟩:=Sl.at (hvl.mono L1) k1 (by omega)
  obtain ⟨D2,C2,R2⟩:=E2
  obtain ⟨v2,rfl,B3,B4,A2⟩:=QG R2
  rcases Cmp.dec .lss (Q9 x2 mp) 0 with ⟨B5,q1⟩ | ⟨B5,q1⟩
  ·have h3 : (Q9 x2 mp) < 0:=q1
   clear q1
   refine dr [] [(23,Zs p2),(24, .agg #[S x2.tx,S x2.vd,v2]),(25, .agg #[S mp.tx,S mp.vd,mv]),(26,S (Q9 x2 mp)),(27, .bool true)] S4 ⟨fun _=>Zg k1 W1 ZcX Yl U U U U <| nu U U,fun _ hSw=>Zb hSw C2 [S x2.tx,S x2.vd,v2] Yl U U U U U <| nu U U,fun _ hSw=>Yg hSw 0 _ _ _ 0 [S mp.tx,S mp.vd,mv] U U U Yl U U U <| nu U U,fun _ hSw=>Z3 hSw Zu0 U U U (ZhP hSw.imm x2 mp _ (Qv x2 B3 B4 A2) _ (Qv mp f4 f5 f3)) U,fun _=>WL.cmpV .lss U .i64 (Q9 x2 mp) 0 _ B5 U U U <| nu U U,trivial⟩ (fun w5 S5=>?_)
   refine WL.indexAddr (hvl.mono L1) k1 (by omega) ZcX Yl U U U U (fun p3 x3 U3 E3=>?_)
   obtain rfl : x2 = x3:=Option.some.inj (U2.symm.trans U3)
   obtain ⟨D3,C3,R3⟩:=E3
   obtain ⟨v3,rfl,B6,B7,A3⟩:=QG R3
   refine Zb S5 C3 [S x2.tx,S x2.vd,v3] Yl U U U U U ?_
   refine Zi S5 0 [S x2.tx,S x2.vd,v3] U U Yl U U (by simp only [ZA,A3.oneC] <;> rfl) U U U (fun w6 S6=>?_)
   refine Zj k1 (by have:=Zc; omega) U U U ?_
   exact BK.mk' _ ⟨k1 + 1,x2,v3,G1,U,L1,S6,(Zq U),(by omega),(by first | (rw [ZkC ‹_› (by omega),← (by assumption : mp = XM (l.take k1))]; first | exact (if_pos ‹_›).symm | exact (if_neg (by omega)).symm)),(A3),‹_›,‹_›,(by omega)⟩ (show l.length - (k1 + 1) < l.length - k1 by omega)
  have h3 : 0 ≤ (Q9 x2 mp):=q1
  clear q1
  refine dr [] [(23,Zs p2),(24, .agg #[S x2.tx,S x2.vd,v2]),(25, .agg #[S mp.tx,S mp.vd,mv]),(26,S (Q9 x2 mp)),(27, .bool false)] S4 ⟨fun _=>Zg k1 W1 ZcX Yl U U U U <| nu U U,fun _ hSw=>Zb hSw C2 [S x2.tx,S x2.vd,v2] Yl U U U U U <| nu U U,fun _ hSw=>Yg hSw 0 _ _ _ 0 [S mp.tx,S mp.vd,mv] U U U Yl U U U <| nu U U,fun _ hSw=>Z3 hSw Zu0 U U U (ZhP hSw.imm x2 mp _ (Qv x2 B3 B4 A2) _ (Qv mp f4 f5 f3)) U,fun _=>WL.cmpV .lss U .i64 (Q9 x2 mp) 0 _ B5 U U U <| nu U U,trivial⟩ (fun w7 S7=>?_)
  refine Zj k1 (by have:=Zc; omega) U U U ?_
  exact BK.mk' _ ⟨k1 + 1,mp,mv,G1,U,L1,S7,(Zq U),(by omega),(by first | (rw [ZkC ‹_› (by omega),← (by assumption : mp = XM (l.take k1))]; first | exact (if_pos ‹_›).symm | exact (if_neg (by omega)).symm)),(f3),‹_›,‹_›,(by omega)⟩ (show l.length - (k1 + 1) < l.length - k1 by omega)
 refine Yg S4 0 _ _ _ 0 [S mp.tx,S mp.vd,mv] U U U Yl U U U ?_
 refine Zi S4 1 [S mp.tx,S mp.vd,mv] U U Yl U U (by simp only [ZA,f3.oneC] <;> rfl) U U U (fun w9 S8=>?_)
 obtain ⟨G2,L2,C4,S9⟩:=S8.sealAt 1 U N1
 exact Xr [.agg #[S mp.tx,S mp.vd,mv]] S9 ⟨_,_,_,U,U,S9.loadC C4 Yl U U,U⟩ (Is.cast ⟨_,U,(Qv mp f4 f5 (f3.mono L2))⟩ (by rw [(by assumption : mp = XM (l.take k1)),List.take_of_length_le (by omega)]))
theorem Zvb {G : GH} {w : World} (hG : G.In w) (x : Link) (fr : Int) (cx : List Value) (hcx : Zez.rep G x cx) (hfr : Z0 fr) (hk : LinkOk x) : CL Tryz.prog (nat_lit 91) #[.agg cx.toArray,S fr] [] w G fun G' _ r=>∃ r0 r1,r = .tuple #[r0,r1] ∧ Is PtE G' r0 (Y8 (Zcc x fr)) ∧ r1 = .bool ((Zcc x fr).isSome):=by
 refine Y2 ft [] Tryz.func91 U U ?_
 have hS:=St.start (X:=[]) hG
 obtain ⟨v1,v2,v3,v4,v5,v6,v7,rfl,B1,A1,B2,A2,A3,B3,B4,A4,B5,A5,A6,B6,A7,B7⟩:=ZdC hcx
 refine Zw [Za x.t.s.name,v1,S x.t.s.key,v2,v3,S x.t.last,Za x.o.s.name,v4,S x.o.s.key,v5,v6,S x.o.last,v7,Za x.f.table] _ hS U U U (fun p1 w1 G1 L1 M1 C1 S1=>?_)
 refine WL.alloc S1 Yl U U (fun b1 w2 N1 S2=>?_)
 obtain ⟨hg9,N9,h89,E9⟩:=ZY hk.o
 obtain ⟨hgt9,hnt9,ht89,het9⟩:=ZY hk.t
 refine Z S2 (XC.drop 4 (XC.drop 0 C1)) YK U U U ?_
 have V1:=A3.bound
 refine Zl (A3.mono L1) Yn U U ?_
 have S4:=S2.pad
 refine LP.go ft [] (fun m ρ1 w1=>∃ (k1 : Nat),∃ (v9 : Value) (o1 : OB),∃ (G2 : GH),m = x.t.rows.length - k1 ∧ G1.le G2 ∧ St w [] G G2 [o1,some (b1,105,[S 0,S 0,Ze])] w1 ∧ ZS PtE 40 105 G2 v9 (YH (lM x) x.o.rows (x.t.rows.take k1) fr) o1 ∧ FR ρ1 [(1,S fr),(2,Zs p1),(4, .pointer (some ⟨b1,0,none⟩)),(6,v9),(18,v3),(19,S (x.t.rows.length : Int)),(20,S (k1 : Int))] ∧ k1 ≤ x.t.rows.length) _ ⟨0,(Ze),none,G1,U,(G1.le_refl),S4,(ZS.cast (ZS.nil PtE 40 105 G1) (by rfl)),(Zq U),(by omega)⟩ ?_
 rintro m ρ1 w3 ⟨k1,v9,o1,G2,rfl,L2,S3,R1,F9,f1⟩
 refine F9.set ?_
 clear F9
 have hgl9:=ZrK (M:=lM x) (l:=x.o.rows) (fr:=fr) x.t.rows k1
 refine Zp (k1 : Int) (x.t.rows.length : Int) U U U (fun h1=>?_) (fun h1=>?_)
 ·have j1:=(L1.trans L2)
  refine WL.indexAddr (A3.mono j1) k1 (by omega) Yn Zz U U U U (fun p2 x1 U1 E1=>?_)
  obtain ⟨D1,C2,R2⟩:=E1
  obtain ⟨v10,rfl,A8,B8,B9,B10,Y6⟩:=Z7 R2
  refine Zb S3 C2 [v10,S x1.r.d.a,S x1.r.d.b,S x1.r.x.a,S x1.r.x.b] Zz U U U U U ?_
  refine WL.alloc S3 Zz U U (fun b2 w4 N2 S5=>?_)
  refine Zi S5 0 [v10,S x1.r.d.a,S x1.r.d.b,S x1.r.x.a,S x1.r.x.b] U U Zz U U (by simp only [ZA,A8.oneC] <;> rfl) U U U (fun w5 S6=>?_)
  obtain ⟨G3,L3,C3,S7⟩:=S6.shutB N2
  refine Z S7 (XC.drop 0 (XC.drop 2 (XC.drop 1 C3))) Zt U U U <| ZeI x1.r.x.a fr U U U ?_
  refine WL.buildSlice _ [(0,[S (max x1.r.x.a fr)])] [S (max x1.r.x.a fr)] S7 Yb U U U U (fun z hz=>by match z,hz with | [z0],_=>rfl) (fun b3 w6 N3 S8=>?_)
  refine Z S8 (XC.drop 4 (XC.drop 6 (C1.mono (L2.trans L3)))) YK U U U ?_
  have V2:=A6.bound
  have j2:=(j1.trans L3)
  refine Zl (A6.mono j2) Yn U U ?_
  have R3 : ZS Enc.int 8 3 G3 (.slice (some ⟨b3,0,none⟩) 1 1) [(max x1.r.x.a fr)] (some (b3,3,[S (max x1.r.x.a fr)])):=ZS.ofNew ⟨[S (max x1.r.x.a fr)],_,U,⟨U,(Za1 B10 hfr)⟩,U⟩ U (by simp [reach]) (by simp [reach])
  refine LP.go ft [] (fun m ρ1 w1=>∃ (k2 : Nat),∃ (v11 : Value) (o2 : OB),∃ (G4 : GH),m = x.o.rows.length - k2 ∧ G3.le G4 ∧ St w [] G G4 [o2,o1,some (b1,105,[S 0,S 0,Ze])] w1 ∧ ZS Enc.int 8 3 G4 v11 (YC x1 fr :: X4 (lM x) (x.o.rows.take k2) x1 fr) o2 ∧ FR ρ1 [(1,S fr),(2,Zs p1),(4, .pointer (some ⟨b1,0,none⟩)),(6,v9),(8, .pointer (some (⟨b2,0,none⟩ : Addr))),(9,S (max x1.r.x.a fr)),(10,v11),(18,v3),(19,S (x.t.rows.length : Int)),(20,S (k1 : Int)),(34,v6),(35,S (x.o.rows.length : Int)),(36,S (k2 : Int))] ∧ k2 ≤ x.o.rows.length) _ ⟨0,(.slice (some ⟨b3,0,none⟩) 1 1),(some (b3,3,[S (max x1.r.x.a fr)])),G3,U,(G3.le_refl),S8,(ZS.cast R3 (by rfl)),(Zq U),(by omega)⟩ ?_
  rintro m ρ1 w7 ⟨k2,v11,o2,G4,rfl,L4,S9,R4,F9,f2⟩
  refine F9.set ?_
  clear F9
  have hel9:=ZrI (M:=lM x) (r:=x1) (fr:=fr) x.o.rows k2
  refine Zp (k2 : Int) (x.o.rows.length : Int) U U U (fun h2=>?_) (fun h2=>?_)
  ·have j3:=(j2.trans L4)
   refine WL.indexAddr (A6.mono j3) k2 (by omega) Yn Zz U U U U (fun p3 x2 U2 E2=>?_)
   obtain ⟨D2,C4,R5⟩:=E2
   obtain ⟨v12,rfl,A9,YU,Xa,XF,Xz⟩:=Z7 R5
   refine Zb S9 C4 [v12,S x2.r.d.a,S x2.r.d.b,S x2.r.x.a,S x2.r.x.b] Zz U U U U U ?_
   refine WL.alloc S9 Zz U U (fun b4 w9 N4 S10=>?_)
   refine Zi S10 0 [v12,S x2.r.d.a,S x2.r.d.b,S x2.r.x.a,S x2.r.x.b] U U Zz U U (by simp only [ZA,A9.oneC] <;> rfl) U U U (fun w10 S11=>?_)
   obtain ⟨G5,L5,C5,S12⟩:=S11.shutB N4
   refine Z S12 (XC.drop 1 (XC.drop 2 (XC.drop 1 C5))) Zt U U U ?_
   refine Xd x2.r.x.b (max x1.r.x.a fr) U U U (fun h3=>?_) (fun h3=>?_)
   ·refine Zb S12 (C1.mono (((L2.trans L3).trans L4).trans L5)) [Za x.t.s.name,v1,S x.t.s.key,v2,v3,S x.t.last,Za x.o.s.name,v4,S x.o.s.key,v5,v6,S x.o.last,v7,Za x.f.table] Zcu U U U U U <| Z S12 (XC.drop 0 (C3.mono (L4.trans L5))) ZK U U U <| Zb S12 C5 [v12,S x2.r.d.a,S x2.r.d.b,S x2.r.x.a,S x2.r.x.b] Zz U U U U U ?_
    have j4:=(j3.trans L5)
    refine Zr S12 Zu5 U U U (ZkF S12.imm x x1.v x2 _ (ZcV x B1 (A1.mono j4) B2 (A2.mono j4) (A3.mono j4) B3 B4 (A4.mono j4) B5 (A5.mono j4) (A6.mono j4) B6 (A7.mono j4) B7) _ (A8.mono ((L3.trans L4).trans L5)) _ (ZT x2 (A9.mono L5) YU Xa XF Xz) hk.cols (hk.len (List.mem_of_getElem? (by assumption : x.t.rows[k1]? = some _))) (hk.olen (List.mem_of_getElem? (by assumption : x.o.rows[k2]? = some _)))) (fun w11 G6 S13 L6=>?_)
    refine WL.split (fun (h4 : (mtB x.t.s x.f.cols x1.v x2.v) = true)=>?_) (fun (h4 : (mtB x.t.s x.f.cols x1.v x2.v) = false)=>?_)
    ·refine Z S13 (XC.drop 1 (XC.drop 2 (XC.drop 1 (C5.mono L6)))) Zt U U U ?_
     refine WL.buildSlice _ [(0,[S x2.r.x.b])] [S x2.r.x.b] S13 Yb U U U U (fun z hz=>by match z,hz with | [z0],_=>rfl) (fun b5 w12 N5 S14=>?_)
     refine WL.push (m:=([x2.r.x.b] : List Int)) Yb U U U (R4.mono (L5.trans L6)) S14 1 U 0 _ _ _ _ _ U ⟨[S x2.r.x.b],_,U,⟨U,Xz⟩,U⟩ U (by have:=Zc; simp only [Zx]; omega) (by have:=Zc; simp only [Zx]; omega) U U U (fun v13 o3 w13 R6 S15=>?_)
     have S16:=S15.tail
     refine Zj k2 (by have:=Zc; omega) U U U ?_
     exact BK.mk' _ ⟨k2 + 1,v13,o3,G6,U,(L4.trans (L5.trans L6)),S16,(ZS.cast R6 (by (exact (congrArg (YC x1 fr :: ·) (ZrH ‹_› ‹_› ‹_›)).symm))),(Zq U),(by omega)⟩ (show x.o.rows.length - (k2 + 1) < x.o.rows.length - k2 by omega)
    refine Zj k2 (by have:=Zc; omega) U U U ?_
    exact BK.mk' _ ⟨k2 + 1,v11,o2,G6,U,(L4.trans (L5.trans L6)),S13,(ZS.cast (R4.mono (L5.trans L6)) (by (exact (congrArg (YC x1 fr :: ·) (Znb ‹_› (by first | exact .inl ‹_› | exact .inr ‹_›))).symm))),(Zq U),(by omega)⟩ (show x.o.rows.length - (k2 + 1) < x.o.rows.length - k2 by omega)
   refine Zj k2 (by have:=Zc; omega) U U U ?_
   exact BK.mk' _ ⟨k2 + 1,v11,o2,G5,U,(L4.trans L5),S12,(ZS.cast (R4.mono L5) (by (exact (congrArg (YC x1 fr :: ·) (Znb ‹_› (by first | exact .inl ‹_› | exact .inr ‹_›))).symm))),(Zq U),(by omega)⟩ (show x.o.rows.length - (k2 + 1) < x.o.rows.length - k2 by omega)
  refine Qe Zu6 U U U (ZnN S9.imm (YC x1 fr :: X4 (lM x) (x.o.rows.take k2) x1 fr) _ _ R4 (S9.lentAt 0 U)) (fun w14 G7 r1 hres1 P1=>?_)
  have L7:=hres1.le
  obtain ⟨rfl,l1,o4,R7,hf1,hq1⟩:=P1
  have S18:=S9.callRow 0 U hres1 R4 R7 hf1
  have hcut:=ZS.cast (l':=Q4 (YC x1 fr :: X4 (lM x) x.o.rows x1 fr)) R7 (by rw [hq1,Zmy,List.take_of_length_le (by omega)])
  have hcl9:=ZrL (M:=lM x) (l:=x.o.rows) (r:=x1) (fr:=fr)
  refine Qe Zu7 U U U (Zkm S18.imm (Q4 (YC x1 fr :: X4 (lM x) x.o.rows x1 fr)) _ _ hcut (S18.lentAt 0 U)) (fun w15 G9 r2 hres2 P2=>?_)
  have L9:=hres2.le
  obtain ⟨o5,R8,hf2,hq2⟩:=P2
  have S20:=S18.callRowR 0 U hres2 hcut R8 hf2 hq2
  have V3:=R8.bound
  refine XH R8 Yp U U ?_
  refine LP.go ft [] (fun m ρ1 w1=>∃ (k3 : Nat),∃ (v14 : Value) (o6 : OB),∃ (G10 : GH),m = (Go.Lib.compact (Q4 (YC x1 fr :: X4 (lM x) x.o.rows x1 fr))).length - k3 ∧ G9.le G10 ∧ St w [] G G10 [o5,o6,some (b1,105,[S 0,S 0,Ze])] w1 ∧ ZS PtE 40 105 G10 v14 (YH (lM x) x.o.rows (x.t.rows.take k1) fr) o6 ∧ FR ρ1 [(1,S fr),(2,Zs p1),(4, .pointer (some ⟨b1,0,none⟩)),(6,v14),(8, .pointer (some (⟨b2,0,none⟩ : Addr))),(18,v3),(19,S (x.t.rows.length : Int)),(20,S (k1 : Int)),(64,r2),(65,S (((Go.Lib.compact (Q4 (YC x1 fr :: X4 (lM x) x.o.rows x1 fr))).length : Nat) : Int)),(66,S (k3 : Int))] ∧ k3 ≤ (Go.Lib.compact (Q4 (YC x1 fr :: X4 (lM x) x.o.rows x1 fr))).length ∧ QH (lM x) x.o.rows x1 (Go.Lib.compact (Q4 (YC x1 fr :: X4 (lM x) x.o.rows x1 fr))) = QH (lM x) x.o.rows x1 ((Go.Lib.compact (Q4 (YC x1 fr :: X4 (lM x) x.o.rows x1 fr))).drop k3)) _ ⟨0,v9,o1,G9,U,(G9.le_refl),S20,(R1.mono (((L3.trans L4).trans L7).trans L9)),(Zq U),(by omega),(by rfl)⟩ ?_
  rintro m ρ1 w16 ⟨k3,v14,o6,G10,rfl,L10,S21,R9,F9,f3,f4⟩
  refine F9.set ?_
  clear F9
  refine Zp (k3 : Int) (((Go.Lib.compact (Q4 (YC x1 fr :: X4 (lM x) x.o.rows x1 fr))).length : Nat) : Int) U U U (fun h5=>?_) (fun h5=>?_)
  ·refine YW (R8.mono L10) k3 (by omega) Yp Zt U U U U (fun p4 x3 ec1 U3 R10 ra1=>?_)
   obtain ⟨rfl,QK⟩:=R10
   refine Zii ra1 S21 0 U _ U Zt U U U <| Zb S21 (XC.drop 2 (XC.drop 1 (C3.mono (((L4.trans L7).trans L9).trans L10)))) [S x1.r.x.a,S x1.r.x.b] Z2 U U U U U ?_
   refine Zr S21 Zaz U U U (Za0 S21.imm x1.r.x x3 _ (Z1 x1.r.x B10 Y6)) (fun w17 G11 S22 L11=>?_)
   refine WL.split (fun (h6 : (XX x3 x1.r.x) = true)=>?_) (fun (h6 : (XX x3 x1.r.x) = false)=>?_)
   ·refine Zb S22 (C1.mono ((((((L2.trans L3).trans L4).trans L7).trans L9).trans L10).trans L11)) [Za x.t.s.name,v1,S x.t.s.key,v2,v3,S x.t.last,Za x.o.s.name,v4,S x.o.s.key,v5,v6,S x.o.last,v7,Za x.f.table] Zcu U U U U U <| Z S22 (XC.drop 0 (C3.mono ((((L4.trans L7).trans L9).trans L10).trans L11))) ZK U U U <| Zb S22 (XC.drop 0 (XC.drop 1 (C3.mono ((((L4.trans L7).trans L9).trans L10).trans L11)))) [S x1.r.d.a,S x1.r.d.b] Z2 U U U U U ?_
    refine Z9 S22 ZzZ U U U (Zyi S22.imm x x1.v x1.r.d x3 _ (ZcV x B1 (A1.mono (((((((L1.trans L2).trans L3).trans L4).trans L7).trans L9).trans L10).trans L11)) B2 (A2.mono (((((((L1.trans L2).trans L3).trans L4).trans L7).trans L9).trans L10).trans L11)) (A3.mono (((((((L1.trans L2).trans L3).trans L4).trans L7).trans L9).trans L10).trans L11)) B3 B4 (A4.mono (((((((L1.trans L2).trans L3).trans L4).trans L7).trans L9).trans L10).trans L11)) B5 (A5.mono (((((((L1.trans L2).trans L3).trans L4).trans L7).trans L9).trans L10).trans L11)) (A6.mono (((((((L1.trans L2).trans L3).trans L4).trans L7).trans L9).trans L10).trans L11)) B6 (A7.mono (((((((L1.trans L2).trans L3).trans L4).trans L7).trans L9).trans L10).trans L11)) B7) _ (A8.mono (((((L3.trans L4).trans L7).trans L9).trans L10).trans L11)) _ (Z1 x1.r.d B8 B9) hk (hk.len (List.mem_of_getElem? (by assumption : x.t.rows[k1]? = some _))) (Yk (hgt9 _ (List.mem_of_getElem? (by assumption : x.t.rows[k1]? = some _)))).2.1) (fun w18 G12 r3 P3 S23 L12=>?_)
    have V4:=P3.bound
    refine Zl P3 Xe U U ?_
    refine Xd (((QE (lM x) x.o.rows x1.v x1.r.d x3).length : Nat) : Int) 0 U U U (fun h7=>?_) (fun h7=>?_)
    ·obtain ⟨p5,x4,U4,E3,W1⟩:=Sl.at P3 0 (by omega)
     obtain ⟨D3,C6,R11⟩:=E3
     obtain ⟨rfl,XG,XY⟩:=ZI R11
     refine dr [(9,false),(10,false),(11,false)] [(90,Zs p5),(92,S x4.a),(94,v10),(95, .agg #[S x3,S x4.a,v10])] S23 ⟨fun _=>Zg 0 W1 Xe Z2 U U U U <| nu U U,fun _ hSw=>Z hSw (XC.drop 0 C6) Zt U U U <| nu U U,fun _ hSw=>Z hSw (XC.drop 0 (C3.mono (((((L4.trans L7).trans L9).trans L10).trans L11).trans L12))) ZK U U U <| nu U U,fun _=>WL.build _ [(0,[S x3]),(1,[S x4.a]),(2,[v10])] [S x3,S x4.a,v10] Yl U ZkX U U (by show [(0,(S x3 : Value).cells.toList),(1,(S x4.a : Value).cells.toList),(2,(v10 : Value).cells.toList)] = _; simp only [(A8.mono ((((((L3.trans L4).trans L7).trans L9).trans L10).trans L11).trans L12)).cells1] <;> rfl) U <| nu U U,trivial⟩ (fun w19 S24=>?_)
     refine WL.buildSlice _ [(0,[S x3,S x4.a,v10])] [S x3,S x4.a,v10] S24 ZcY U U U U (fun z hz=>by match z,hz with | [z0,z1,z2],_=>rfl) (fun b6 w20 N6 S25=>?_)
     refine WL.push (m:=([(Pt.mk x3 x4.a x1.v)] : List Pt)) ZcY U U U (R9.mono (L11.trans L12)) S25 2 U 0 _ _ _ _ _ U ⟨[S x3,S x4.a,v10],_,U,(Qv (Pt.mk x3 x4.a x1.v) QK XG (A8.mono ((((((L3.trans L4).trans L7).trans L9).trans L10).trans L11).trans L12))),U⟩ U (by have:=Zc; simp only [Zx]; omega) (by have:=Zc; simp only [Zx]; omega) U U U (fun v15 o7 w21 R12 S26=>?_)
     have S27:=S26.tail
     refine Zj k1 (by have:=Zc; omega) U U U ?_
     have S28:=S27.tail
     exact BK.mk' _ ⟨k1 + 1,v15,o7,G12,U,(L2.trans ((((((L3.trans L4).trans L7).trans L9).trans L10).trans L11).trans L12)),S28,(ZS.cast R12 (by (exact (ZpB ‹_› (Eq.trans (by assumption : QH (lM x) x.o.rows x1 (Go.Lib.compact (Q4 (YC x1 fr :: X4 (lM x) x.o.rows x1 fr))) = _) (Zua ‹_› ‹_› ‹_›))).symm))),(Zq U),(by omega)⟩ (show x.t.rows.length - (k1 + 1) < x.t.rows.length - k1 by omega)
    refine Zj k3 (by have:=Zc; omega) U U U ?_
    exact BK.mk' _ ⟨k3 + 1,v14,o6,G12,U,(L10.trans (L11.trans L12)),S23,(R9.mono (L11.trans L12)),(Zq U),(by omega),(by exact Eq.trans (by assumption : QH (lM x) x.o.rows x1 (Go.Lib.compact (Q4 (YC x1 fr :: X4 (lM x) x.o.rows x1 fr))) = _) (ZrJ ‹_› ‹_› ‹_›))⟩ (show (Go.Lib.compact (Q4 (YC x1 fr :: X4 (lM x) x.o.rows x1 fr))).length - (k3 + 1) < (Go.Lib.compact (Q4 (YC x1 fr :: X4 (lM x) x.o.rows x1 fr))).length - k3 by omega)
   refine Zj k1 (by have:=Zc; omega) U U U ?_
   have S29:=S22.tail
   exact BK.mk' _ ⟨k1 + 1,v14,o6,G11,U,(L2.trans (((((L3.trans L4).trans L7).trans L9).trans L10).trans L11)),S29,(ZS.cast (R9.mono L11) (by (exact (Zja ‹_› (Eq.trans (by assumption : QH (lM x) x.o.rows x1 (Go.Lib.compact (Q4 (YC x1 fr :: X4 (lM x) x.o.rows x1 fr))) = _) (ZtZ ‹_› ‹_›))).symm))),(Zq U),(by omega)⟩ (show x.t.rows.length - (k1 + 1) < x.t.rows.length - k1 by omega)
  refine Zj k1 (by have:=Zc; omega) U U U ?_
  have S30:=S21.tail
  exact BK.mk' _ ⟨k1 + 1,v14,o6,G10,U,(L2.trans ((((L3.trans L4).trans L7).trans L9).trans L10)),S30,(ZS.cast R9 (by (exact (Zja ‹_› (Eq.trans (by assumption : QH (lM x) x.o.rows x1 (Go.Lib.compact (Q4 (YC x1 fr :: X4 (lM x) x.o.rows x1 fr))) = _) (Zub (by omega)))).symm))),(Zq U),(by omega)⟩ (show x.t.rows.length - (k1 + 1) < x.t.rows.length - k1 by omega)
 have V5:=R1.bound
 refine XH R1 ZcX U U ?_
 refine ZC (((YH (lM x) x.o.rows (x.t.rows.take k1) fr).length : Nat) : Int) 0 U U U (fun h8=>?_) (fun h8=>?_)
 ·refine WL.build _ [] [S 0,S 0,Ze] Yl U ZkX U U U U ?_
  refine Zi S3 1 [S 0,S 0,Ze] U U Yl U U U U U U (fun w22 S31=>?_)
  exact Xr [.agg #[S 0,S 0,Ze], .bool false] S31 ⟨_,_,_,U,U,S31.loadA 1 _ _ _ 0 [S 0,S 0,Ze] U U U Yl U,⟨_,U,U⟩⟩ ⟨_,_,U,(Is.cast ⟨_,U,(Qv (Pt.mk 0 0 []) ZP ZP (Sl.nil ValE 32 G2))⟩ (by exact (ZuZ ‹_› (by omega)).1)),(congrArg Value.bool (by exact (ZuZ ‹_› (by omega)).2))⟩
 obtain ⟨G13,L13,A10,S32⟩:=ZS.freeze R1 S3 0 U
 refine Z9 S32 ZyP U U U (Zyk S32.imm (YH (lM x) x.o.rows (x.t.rows.take k1) fr) _ A10 (ZxY ‹_›)) (fun w23 G14 r4 P4 S33 L14=>?_)
 obtain ⟨D4,rfl,R13⟩:=P4
 obtain ⟨v16,rfl,Q8,ZaI,A11⟩:=QG R13
 refine Zi S33 1 [S ((XM (YH (lM x) x.o.rows (x.t.rows.take k1) fr)).tx),S ((XM (YH (lM x) x.o.rows (x.t.rows.take k1) fr)).vd),v16] U U Yl U U (by simp only [ZA,A11.oneC] <;> rfl) U U U (fun w24 S34=>?_)
 exact Xr [.agg #[S ((XM (YH (lM x) x.o.rows (x.t.rows.take k1) fr)).tx),S ((XM (YH (lM x) x.o.rows (x.t.rows.take k1) fr)).vd),v16], .bool true] S34 ⟨_,_,_,U,U,S34.loadA 1 _ _ _ 0 [S ((XM (YH (lM x) x.o.rows (x.t.rows.take k1) fr)).tx),S ((XM (YH (lM x) x.o.rows (x.t.rows.take k1) fr)).vd),v16] U U U Yl U,⟨_,U,U⟩⟩ ⟨_,_,U,(Is.cast ⟨_,U,(Qv (Pt.mk ((XM (YH (lM x) x.o.rows (x.t.rows.take k1) fr)).tx) ((XM (YH (lM x) x.o.rows (x.t.rows.take k1) fr)).vd) ((XM (YH (lM x) x.o.rows (x.t.rows.take k1) fr)).v)) Q8 ZaI A11)⟩ (by exact (Zva ‹_› (by omega)).1)),(congrArg Value.bool (by exact (Zva ‹_› (by omega)).2))⟩
end Go.Civ
