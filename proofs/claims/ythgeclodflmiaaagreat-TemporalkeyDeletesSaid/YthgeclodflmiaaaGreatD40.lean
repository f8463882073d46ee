/- Lemmas. -/
import Derived.Test.YthgeclodflmiaaaGreatD26
import Derived.Test.YthgeclodflmiaaaGreatD35
import Derived.Test.YthgeclodflmiaaaGreatProg
import Derived.KernelRfl
import Derived.WalkKit
set_option linter.unusedVariables false
set_option linter.unusedSimpArgs false
set_option maxRecDepth 100000
set_option maxHeartbeats 4000000
namespace Go.Civ
open Go.Proofs
theorem Zj9 {G : GH} {w : World} (hG : G.In w) (t : Table) (tx : Int) (v : List Val) (d : Span) (ct : List Value) (hct : TableE.rep G t ct) (vv : Value) (hvv : Sl ValE 32 G vv v) (cd : List Value) (hcd : SpanE.rep G d cd) (htx64 : Z0 tx) : CL Tryz.prog (nat_lit 18) #[.agg ct.toArray,S tx,vv, .agg cd.toArray] [] w G fun G' _ r=>∃ r0 r1,r = .tuple #[r0,r1] ∧ Is TableE G' r0 (Xs t tx v d) ∧ r1 = S (Zdt t tx v d):=by
 refine Y2 ft [] Tryz.func18 U U ?_
 have hS:=St.start (X:=[]) hG
 obtain ⟨v1,v2,v3,rfl,B1,A1,B2,A2,A3,B3⟩:=Zy hct
 obtain ⟨rfl,B4,B5⟩:=ZI hcd
 refine Zw [Za t.s.name,v1,S t.s.key,v2,v3,S t.last] _ hS U U U (fun p1 w1 G1 L1 M1 C1 S1=>?_)
 refine Zw [S d.a,S d.b] _ S1 U U U (fun p2 w2 G2 L2 M2 C2 S2=>?_)
 refine WL.alloc S2 Zm U U (fun b1 w3 N1 S3=>?_)
 refine Zb S3 (C1.mono L2) [Za t.s.name,v1,S t.s.key,v2,v3,S t.last] Zm U U U U U ?_
 have j1:=(L1.trans L2)
 refine Zr S3 ZsC U U U (Zj8 S3.imm t _ (Zo t B1 (A1.mono j1) B2 (A2.mono j1) (A3.mono j1) B3)) (fun w4 G3 S4 L3=>?_)
 refine WL.split (fun (h1 : (YI t) = true)=>?_) (fun (h1 : (YI t) = false)=>?_)
 ·have j2:=(j1.trans L3)
  refine Zb S4 (C1.mono (L2.trans L3)) [Za t.s.name,v1,S t.s.key,v2,v3,S t.last] Zm U U U U U <| Zb S4 (C2.mono L3) [S d.a,S d.b] Z2 U U U U U <| Z9 S4 ZaI U U U (Zk3 S4.imm t tx v d _ (Zo t B1 (A1.mono j2) B2 (A2.mono j2) (A3.mono j2) B3) _ (hvv.mono j2) _ (Z1 d B4 B5) htx64) ?_
  rintro w5 G4 _ ⟨r2,_,rfl,A4,rfl⟩ S5 L4
  obtain ⟨D1,rfl,R1⟩:=A4
  obtain ⟨v4,v5,v6,rfl,B6,A5,B7,A6,A7,B8⟩:=Zy R1
  refine WL.alloc S5 Zm U U (fun b2 w6 N2 S6=>?_)
  refine Zi S6 0 [Za ((Yt t tx v d).s.name),v4,S ((Yt t tx v d).s.key),v5,v6,S ((Yt t tx v d).last)] U U Zm U U (by simp only [ZA,A5.oneC,A6.oneC,A7.oneC] <;> rfl) U U U (fun w7 S7=>?_)
  refine Yr (YS t tx v d) 0 U U U (fun h2=>?_) (fun h2=>?_)
  ·refine WL.build _ [] [Za [],Ze,S 0,Ze,Ze,S 0] Zm U QF U U U U ?_
   refine Zi S7 1 [Za [],Ze,S 0,Ze,Ze,S 0] U U Zm U U U U U U (fun w9 S8=>?_)
   exact Xr [.agg #[Za [],Ze,S 0,Ze,Ze,S 0],S (YS t tx v d)] S8 ⟨_,_,_,U,U,S8.loadA 1 _ _ _ 0 [Za [],Ze,S 0,Ze,Ze,S 0] U U U Zm U,⟨_,U,U⟩⟩ ⟨_,_,U,(Is.cast ⟨_,U,(Zo (Table.mk (Schema.mk [] [] 0 []) [] 0) (by simp [reach]) (Sl.nil ColE 24 G4) ZP (Sl.nil ForeignE 40 G4) (Sl.nil HRowE 56 G4) ZP)⟩ (by exact (ZuS ‹_› ‹_›).1)),(congrArg (Value.int .i64) (by exact (ZuS ‹_› ‹_›).2))⟩
  have hIns:=Zgx (by assumption : YS t tx v d = 0)
  obtain ⟨hgd,hnd,h8d,hed⟩:=ZY hIns.valid
  have hkv:=ZtO hIns
  have hkp:=Zha hIns.valid
  have hkl:=ZgZ hIns.valid
  refine WL.build _ [(0,[S tx]),(1,[S 253402300800])] [S tx,S 253402300800] Z2 U XB U U U U ?_
  refine WL.alloc S7 Z2 U U (fun b3 w10 N3 S9=>?_)
  refine Zi S9 0 [S tx,S 253402300800] U U Z2 U U U U U U (fun w11 S10=>?_)
  obtain ⟨G5,L5,C3,S11⟩:=S10.shutB N3
  have j3:=((L3.trans L4).trans L5)
  refine dr [(1,true),(5,false),(6,false),(7,false)] [(43, .agg #[S d.a,S d.b]),(44, .agg #[S tx,S 253402300800]),(45, .agg #[S d.a,S d.b,S tx,S 253402300800])] S11 ⟨fun _ hSw=>Zb hSw (C2.mono j3) [S d.a,S d.b] Z2 U U U U U <| nu U U,fun _ hSw=>Zb hSw C3 [S tx,S 253402300800] Z2 U U U U U <| nu U U,fun _=>WL.build _ [(0,[S d.a,S d.b]),(1,[S tx,S 253402300800])] [S d.a,S d.b,S tx,S 253402300800] Zct U ZbY U U U U <| nu U U,trivial⟩ (fun w12 S12=>?_)
  have j4:=((j2.trans L4).trans L5)
  refine Z9 S12 Zgf U U U (ZaE S12.imm v _ (hvv.mono j4)) (fun w13 G6 r4 P2 S13 L6=>?_)
  refine ⟨S13.down S12.le L6,?_⟩
  refine WL.build _ [(0,[r4]),(1,[S d.a,S d.b,S tx,S 253402300800])] [r4,S d.a,S d.b,S tx,S 253402300800] Zz U Za6 U U (by show [(0,(r4 : Value).cells.toList),(1,(.agg #[S d.a,S d.b,S tx,S 253402300800] : Value).cells.toList)] = _; simp only [P2.cells1] <;> rfl) U ?_
  refine WL.buildSlice _ [(0,[r4,S d.a,S d.b,S tx,S 253402300800])] [r4,S d.a,S d.b,S tx,S 253402300800] S13 YD U U U U (fun z hz=>by match z,hz with | [z0,z1,z2,z3,z4],_=>rfl) (fun b4 w14 N4 S14=>?_)
  refine Z S14 (XC.drop 4 (C1.mono ((((L2.trans L3).trans L4).trans L5).trans L6))) YK U U U ?_
  have V1:=A3.bound
  refine Zl (A3.mono (j4.trans L6)) Yn U U ?_
  have R2 : ZS HRowE 56 37 G6 (.slice (some ⟨b4,0,none⟩) 1 1) [(HRow.mk v (Rect.mk d (Span.mk tx 253402300800)))] (some (b4,37,[r4,S d.a,S d.b,S tx,S 253402300800])):=ZS.ofNew ⟨[r4,S d.a,S d.b,S tx,S 253402300800],_,U,(ZT (HRow.mk v (Rect.mk d (Span.mk tx 253402300800))) P2 B4 B5 htx64 (show Z0 253402300800 from by constructor <;> decide)),U⟩ U (by simp [reach]) (by simp [reach])
  refine LP.go ft [] (fun m ρ1 w1=>∃ (k1 : Nat),∃ (v7 : Value) (o1 : OB),∃ (G7 : GH),m = t.rows.length - k1 ∧ G6.le G7 ∧ St w [] G G7 [o1,some (b2,28,[Za ((Yt t tx v d).s.name),v4,S ((Yt t tx v d).s.key),v5,v6,S ((Yt t tx v d).last)]),some (b1,28,[Za [],Ze,S 0,Ze,Ze,S 0])] w1 ∧ ZS HRowE 56 37 G7 v7 (Zbh t.s.key.toNat t.rows tx v d k1) o1 ∧ FR ρ1 [(1,S tx),(2,vv),(4,Zs p1),(7,Zs p2),(8, .pointer (some ⟨b1,0,none⟩)),(10, .pointer (some ⟨b2,0,none⟩)),(12, .pointer (some (⟨b3,0,none⟩ : Addr))),(13,v7),(49,v3),(50,S (t.rows.length : Int)),(51,S (k1 : Int))] ∧ k1 ≤ t.rows.length) _ ⟨0,(.slice (some ⟨b4,0,none⟩) 1 1),(some (b4,37,[r4,S d.a,S d.b,S tx,S 253402300800])),G6,U,(G6.le_refl),S14,(ZS.cast R2 (by rfl)),(Zq U),(by omega)⟩ ?_
  rintro m ρ1 w15 ⟨k1,v7,o1,G7,rfl,L7,S15,R3,F9,f1⟩
  refine F9.set ?_
  clear F9
  have hml:=Zr4 (K:=t.s.key.toNat) (v:=v) (tx:=tx) (k:=k1) hgd hIns.span
  refine Zp (k1 : Int) (t.rows.length : Int) U U U (fun h3=>?_) (fun h3=>?_)
  ·refine WL.indexAddr (A3.mono ((j4.trans L6).trans L7)) k1 (by omega) Yn Zz U U U U (fun p3 x1 U1 E1=>?_)
   obtain ⟨D2,C4,R4⟩:=E1
   obtain ⟨v9,rfl,A8,B9,B10,Y6,YU⟩:=Z7 R4
   refine Zb S15 C4 [v9,S x1.r.d.a,S x1.r.d.b,S x1.r.x.a,S x1.r.x.b] Zz U U U U U ?_
   refine WL.alloc S15 Zz U U (fun b5 w16 N5 S16=>?_)
   refine Zi S16 0 [v9,S x1.r.d.a,S x1.r.d.b,S x1.r.x.a,S x1.r.x.b] U U Zz U U (by simp only [ZA,A8.oneC] <;> rfl) U U U (fun w17 S17=>?_)
   have hgx:=hgd x1 (List.mem_of_getElem? U1)
   have hrd:=(Yk hgx).2.1
   have hsp:=hIns.span
   have hkx:=hkl x1 (List.mem_of_getElem? U1)
   have hdl:=ZtM hgx hsp
   refine Yg S17 0 _ _ _ 1 [S x1.r.d.a,S x1.r.d.b] U U U Z2 U U U ?_
   refine WL.buildSlice _ [(0,[S x1.r.d.a,S x1.r.d.b])] [S x1.r.d.a,S x1.r.d.b] S17 YR U U U U (fun z hz=>by match z,hz with | [z0,z1],_=>rfl) (fun b6 w18 N6 S18=>?_)
   refine Zb S18 (C2.mono ((j3.trans L6).trans L7)) [S d.a,S d.b] Z2 U U U U U ?_
   refine WL.buildSlice _ [(0,[S d.a,S d.b])] [S d.a,S d.b] S18 YR U U U U (fun z hz=>by match z,hz with | [z0,z1],_=>rfl) (fun b7 w19 N7 S19=>?_)
   obtain ⟨G9,L9,A9,S20⟩:=St.sealSlAt (E:=SpanE) (by_:=16) (l:=([x1.r.d] : List Span)) S19 1 U N6 ⟨[S x1.r.d.a,S x1.r.d.b],_,U,(Z1 x1.r.d B9 B10),U⟩ U (by simp [reach]) (by simp [reach])
   obtain ⟨G10,L10,A10,S21⟩:=St.sealSl (E:=SpanE) (by_:=16) (l:=([d] : List Span)) S20 N7 ⟨[S d.a,S d.b],_,U,(Z1 d B4 B5),U⟩ U (by simp [reach]) (by simp [reach])
   refine Z9 S21 ZsD U U U (Zjy S21.imm [x1.r.d] [d] _ (A9.mono L10) _ A10 (ZcR (YG hrd)) (ZcR (YG hsp)) (by intro s hs; rw [List.mem_singleton.1 hs]; exact Zcg hrd) (by intro s hs; rw [List.mem_singleton.1 hs]; exact Zcg hsp) (by simp) (by simp)) ?_
   rintro w20 G11 _ ⟨r6,_,rfl,A11,rfl⟩ S22 L11
   rcases Cmp.dec .eql x1.r.x.b 253402300800 with ⟨Xa,q1⟩ | ⟨Xa,q1⟩
   ·have h4 : x1.r.x.b = 253402300800:=q1
    clear q1
    refine drT [11,16,17,18,19] [(68,S x1.r.x.b),(69, .bool true),(72,v9),(75,S t.s.key),(80,S t.s.key)] S22 ⟨fun _ hSw=>Ya hSw 1 _ _ _ 4 _ U U Zt U U U <| nu U U,fun _=>WL.cmpV .eql U .i64 x1.r.x.b 253402300800 _ Xa U U U <| nu U U,fun _ hSw=>Ya hSw 1 _ _ _ 0 _ U U ZK U U U <| nu U U,fun _ hSw=>Z hSw (XC.drop 2 (XC.drop 0 (C1.mono ((((((((L2.trans L3).trans L4).trans L5).trans L6).trans L7).trans L9).trans L10).trans L11)))) Zt U U U <| nu U U,fun _ hSw=>Z hSw (XC.drop 2 (XC.drop 0 (C1.mono ((((((((L2.trans L3).trans L4).trans L5).trans L6).trans L7).trans L9).trans L10).trans L11)))) Zt U U U <| nu U U,trivial⟩ (fun w21 S23=>?_)
    refine TG.fork 4 [11,16,17,18,19] [11,16] U U (by decide) (by decide) (TA.cons U ?_ (TA.cons U ?_ TA.nil))
    ·refine Y3 (A8.mono ((L9.trans L10).trans L11)) ((t.s.key).toNat) (by omega) Yv Z6 U U U (congrArg (Value.int .i64) (Int.toNat_of_nonneg (by omega)).symm) (fun v10 A12=>?_)
     refine ⟨fun _=>S23.down S23.le (G11.le_refl),?_⟩
     refine TG.fork 3 [16,17,18,19] [16] U U (by decide) (by decide) (TA.cons U ?_ TA.nil)
     refine Y3 (hvv.mono (((((((((L1.trans L2).trans L3).trans L4).trans L5).trans L6).trans L7).trans L9).trans L10).trans L11)) ((t.s.key).toNat) (by omega) Yv Z6 U U U (congrArg (Value.int .i64) (Int.toNat_of_nonneg (by omega)).symm) (fun v11 A13=>?_)
     refine ⟨fun _=>S23.down S23.le (G11.le_refl),?_⟩
     refine TG.fork 2 [17,18,19] [17] U U (by decide) (by decide) (TA.cons U ?_ TA.nil)
     refine Zr S23 Zaq U U U (ZcL S23.imm (x1.v.take ((t.s.key).toNat)) (v.take ((t.s.key).toNat)) _ A12 _ A13) (fun w22 G12 S24 L12=>?_)
     refine WL.split (fun (h5 : (decide ((x1.v.take ((t.s.key).toNat)) = (v.take ((t.s.key).toNat)))) = true)=>?_) (fun (h5 : (decide ((x1.v.take ((t.s.key).toNat)) = (v.take ((t.s.key).toNat)))) = false)=>?_)
     ·refine ⟨fun h=>absurd h (by decide),?_⟩
      refine TG.quiet 1 [18,19] 18 U U U U U (by decide) (fun w9 K9 k9=>Zbk U U k9) ?_
      refine TG.quiet 0 [19] 19 U U U U U (by decide) (fun w9 K9 k9=>WL.assign U k9) ?_
      refine TG.fin U ?_
      refine Yg S24 1 _ _ _ 1 [S x1.r.d.a,S x1.r.d.b] U U U Z2 U U U ?_
      refine WL.buildSlice _ [(0,[S x1.r.d.a,S x1.r.d.b])] [S x1.r.d.a,S x1.r.d.b] S24 YR U U U U (fun z hz=>by match z,hz with | [z0,z1],_=>rfl) (fun b8 w23 N8 S25=>?_)
      obtain ⟨G13,L13,A14,S26⟩:=St.sealSl (E:=SpanE) (by_:=16) (l:=([x1.r.d] : List Span)) S25 N8 ⟨[S x1.r.d.a,S x1.r.d.b],_,U,(Z1 x1.r.d B9 B10),U⟩ U (by simp [reach]) (by simp [reach])
      have j5:=(L12.trans L13)
      refine Zr S26 ZsE U U U (Zf2 S26.imm (Yh 3 [x1.r.d] [d]) [x1.r.d] _ (A11.mono j5) _ A14) (fun w24 G14 S27 L14=>?_)
      refine WL.split (fun (h6 : (decide ((Yh 3 [x1.r.d] [d]) = [x1.r.d])) = true)=>?_) (fun (h6 : (decide ((Yh 3 [x1.r.d] [d]) = [x1.r.d])) = false)=>?_)
      ·refine Yg S27 1 _ _ _ 0 [v9,S x1.r.d.a,S x1.r.d.b,S x1.r.x.a,S x1.r.x.b] U U U Zz U U U ?_
       refine WL.buildSlice _ [(0,[v9,S x1.r.d.a,S x1.r.d.b,S x1.r.x.a,S x1.r.x.b])] [v9,S x1.r.d.a,S x1.r.d.b,S x1.r.x.a,S x1.r.x.b] S27 YD U U U U (fun z hz=>by match z,hz with | [z0,z1,z2,z3,z4],_=>rfl) (fun b9 w25 N9 S28=>?_)
       refine WL.push (m:=([x1] : List HRow)) YD U U U (R3.mono (((((L9.trans L10).trans L11).trans L12).trans L13).trans L14)) S28 3 U 0 _ _ _ _ _ U ⟨[v9,S x1.r.d.a,S x1.r.d.b,S x1.r.x.a,S x1.r.x.b],_,U,(ZT x1 (A8.mono (((((L9.trans L10).trans L11).trans L12).trans L13).trans L14)) B9 B10 Y6 YU),U⟩ U (by have:=Zc; simp only [Zx]; omega) (by have:=Zc; simp only [Zx]; omega) U U U (fun v12 o2 w26 R5 S29=>?_)
       have S30:=S29.tail
       refine Zj k1 (by have:=Zc; omega) U U U ?_
       have S31:=S30.tail
       have S32:=S31.tail
       exact BK.mk' _ ⟨k1 + 1,v12,o2,G14,U,(L7.trans (((((L9.trans L10).trans L11).trans L12).trans L13).trans L14)),S32,(ZS.cast R5 (by (with_reducible exact (ZcT ‹_› (by first | exact .inl ‹_› | exact .inr (.inl ‹_›) | exact .inr (.inr ‹_›))).symm))),(Zq U),(by omega)⟩ (show t.rows.length - (k1 + 1) < t.rows.length - k1 by omega)
      have V2:=A11.bound
      refine Zl (A11.mono (j5.trans L14)) Xe U U ?_
      refine LP.go ft [] (fun m ρ1 w1=>∃ (k2 : Nat),∃ (v13 : Value) (o3 : OB),∃ (G15 : GH),m = (Yh 3 [x1.r.d] [d]).length - k2 ∧ G14.le G15 ∧ St w [] G G15 [none,some (b5,37,[v9,S x1.r.d.a,S x1.r.d.b,S x1.r.x.a,S x1.r.x.b]),o3,some (b2,28,[Za ((Yt t tx v d).s.name),v4,S ((Yt t tx v d).s.key),v5,v6,S ((Yt t tx v d).last)]),some (b1,28,[Za [],Ze,S 0,Ze,Ze,S 0])] w1 ∧ ZS HRowE 56 37 G15 v13 ((Zbh t.s.key.toNat t.rows tx v d k1) ++ X1 x1.v ((Yh 3 [x1.r.d] [d]).take k2) tx 253402300800) o3 ∧ FR ρ1 [(1,S tx),(2,vv),(4,Zs p1),(7,Zs p2),(8, .pointer (some ⟨b1,0,none⟩)),(10, .pointer (some ⟨b2,0,none⟩)),(12, .pointer (some (⟨b3,0,none⟩ : Addr))),(13,v13),(15, .pointer (some ⟨b5,0,none⟩)),(49,v3),(50,S (t.rows.length : Int)),(51,S (k1 : Int)),(98,r6),(99,S (((Yh 3 [x1.r.d] [d]).length : Nat) : Int)),(100,S (k2 : Int))] ∧ k2 ≤ (Yh 3 [x1.r.d] [d]).length) _ ⟨0,v7,o1,G14,U,(G14.le_refl),S27,(ZS.cast (R3.mono (((((L9.trans L10).trans L11).trans L12).trans L13).trans L14)) (by simp [X1])),(Zq U),(by omega)⟩ ?_
      rintro m ρ1 w27 ⟨k2,v13,o3,G15,rfl,L15,S33,R6,F9,f2⟩
      refine F9.set ?_
      clear F9
      have hol:=ZcP x1.v ((Yh 3 [x1.r.d] [d]).take k2) tx 253402300800
      have hot:=List.length_take_le' k2 (Yh 3 [x1.r.d] [d])
      refine Zp (k2 : Int) (((Yh 3 [x1.r.d] [d]).length : Nat) : Int) U U U (fun h7=>?_) (fun h7=>?_)
      ·refine WL.indexAddr (A11.mono ((j5.trans L14).trans L15)) k2 (by omega) Xe Z2 U U U U (fun p4 x2 U2 E2=>?_)
       obtain ⟨D3,C5,R7⟩:=E2
       obtain ⟨rfl,XF,Xz⟩:=ZI R7
       refine Zb S33 C5 [S x2.a,S x2.b] Z2 U U U U U ?_
       refine WL.alloc S33 Z2 U U (fun b10 w28 N10 S34=>?_)
       refine Zi S34 0 [S x2.a,S x2.b] U U Z2 U U U U U U (fun w29 S35=>?_)
       obtain ⟨G16,L16,C6,S36⟩:=S35.shutB N10
       refine Ya S36 1 _ _ _ 0 _ U U ZK U U U <| Zb S36 C6 [S x2.a,S x2.b] Z2 U U U U U <| Zb S36 (C3.mono (((((((((L6.trans L7).trans L9).trans L10).trans L11).trans L12).trans L13).trans L14).trans L15).trans L16)) [S tx,S 253402300800] Z2 U U U U U <| WL.build _ [(0,[S x2.a,S x2.b]),(1,[S tx,S 253402300800])] [S x2.a,S x2.b,S tx,S 253402300800] Zct U ZbY U U U U ?_
       refine WL.build _ [(0,[v9]),(1,[S x2.a,S x2.b,S tx,S 253402300800])] [v9,S x2.a,S x2.b,S tx,S 253402300800] Zz U Za6 U U (by show [(0,(v9 : Value).cells.toList),(1,(.agg #[S x2.a,S x2.b,S tx,S 253402300800] : Value).cells.toList)] = _; simp only [(A8.mono (((((((L9.trans L10).trans L11).trans L12).trans L13).trans L14).trans L15).trans L16)).cells1] <;> rfl) U ?_
       refine WL.buildSlice _ [(0,[v9,S x2.a,S x2.b,S tx,S 253402300800])] [v9,S x2.a,S x2.b,S tx,S 253402300800] S36 YD U U U U (fun z hz=>by match z,hz with | [z0,z1,z2,z3,z4],_=>rfl) (fun b11 w30 N11 S37=>?_)
       refine WL.push (m:=([(HRow.mk x1.v (Rect.mk x2 (Span.mk tx 253402300800)))] : List HRow)) YD U U U (R6.mono L16) S37 3 U 0 _ _ _ _ _ U ⟨[v9,S x2.a,S x2.b,S tx,S 253402300800],_,U,(ZT (HRow.mk x1.v (Rect.mk x2 (Span.mk tx 253402300800))) (A8.mono (((((((L9.trans L10).trans L11).trans L12).trans L13).trans L14).trans L15).trans L16)) XF Xz htx64 (show Z0 253402300800 from by constructor <;> decide)),U⟩ U (by have:=Zc; simp only [Zx]; omega) (by have:=Zc; simp only [Zx]; omega) U U U (fun v14 o4 w31 R8 S38=>?_)
       have S39:=S38.tail
       refine Zj k2 (by have:=Zc; omega) U U U ?_
       exact BK.mk' _ ⟨k2 + 1,v14,o4,G16,U,(L15.trans L16),S39,(ZS.cast R8 (by (rw [Zeq ‹_›,List.append_assoc]))),(Zq U),(by omega)⟩ (show (Yh 3 [x1.r.d] [d]).length - (k2 + 1) < (Yh 3 [x1.r.d] [d]).length - k2 by omega)
      refine WL.store S33 1 _ _ _ 4 _ [S tx] [v9,S x1.r.d.a,S x1.r.d.b,S x1.r.x.a,S tx] _ U U Zt U (leT U) U U U U U U (fun w32 S40=>?_)
      refine Yg S40 1 _ _ _ 0 [v9,S x1.r.d.a,S x1.r.d.b,S x1.r.x.a,S tx] U U U Zz U U U ?_
      refine WL.buildSlice _ [(0,[v9,S x1.r.d.a,S x1.r.d.b,S x1.r.x.a,S tx])] [v9,S x1.r.d.a,S x1.r.d.b,S x1.r.x.a,S tx] S40 YD U U U U (fun z hz=>by match z,hz with | [z0,z1,z2,z3,z4],_=>rfl) (fun b12 w33 N12 S41=>?_)
      refine WL.push (m:=([(HRow.mk x1.v (Rect.mk x1.r.d (Span.mk x1.r.x.a tx)))] : List HRow)) YD U U U R6 S41 3 U 0 _ _ _ _ _ U ⟨[v9,S x1.r.d.a,S x1.r.d.b,S x1.r.x.a,S tx],_,U,(ZT (HRow.mk x1.v (Rect.mk x1.r.d (Span.mk x1.r.x.a tx))) (A8.mono ((((((L9.trans L10).trans L11).trans L12).trans L13).trans L14).trans L15)) B9 B10 Y6 htx64),U⟩ U (by have:=Zc; simp only [Zx]; omega) (by have:=Zc; simp only [Zx]; omega) U U U (fun v15 o5 w34 R9 S42=>?_)
      have S43:=S42.tail
      refine Zj k1 (by have:=Zc; omega) U U U ?_
      have S44:=S43.tail
      have S45:=S44.tail
      exact BK.mk' _ ⟨k1 + 1,v15,o5,G15,U,(L7.trans ((((((L9.trans L10).trans L11).trans L12).trans L13).trans L14).trans L15)),S45,(ZS.cast R9 (by ((rw [ZhH (by omega)]; with_reducible exact (Zk6 ‹_› ‹_› ‹_› ‹_›).symm)))),(Zq U),(by omega)⟩ (show t.rows.length - (k1 + 1) < t.rows.length - k1 by omega)
     refine ⟨fun h=>absurd h (by decide),?_⟩
     refine TG.quiet 1 [18,19] 18 U U U U U (by decide) (fun w9 K9 k9=>Zbk U U k9) ?_
     refine TG.quiet 0 [19] 19 U U U U U (by decide) (fun w9 K9 k9=>WL.assign U k9) ?_
     refine TG.fin U ?_
     refine Yg S24 1 _ _ _ 0 [v9,S x1.r.d.a,S x1.r.d.b,S x1.r.x.a,S x1.r.x.b] U U U Zz U U U ?_
     refine WL.buildSlice _ [(0,[v9,S x1.r.d.a,S x1.r.d.b,S x1.r.x.a,S x1.r.x.b])] [v9,S x1.r.d.a,S x1.r.d.b,S x1.r.x.a,S x1.r.x.b] S24 YD U U U U (fun z hz=>by match z,hz with | [z0,z1,z2,z3,z4],_=>rfl) (fun b13 w35 N13 S46=>?_)
     refine WL.push (m:=([x1] : List HRow)) YD U U U (R3.mono (((L9.trans L10).trans L11).trans L12)) S46 3 U 0 _ _ _ _ _ U ⟨[v9,S x1.r.d.a,S x1.r.d.b,S x1.r.x.a,S x1.r.x.b],_,U,(ZT x1 (A8.mono (((L9.trans L10).trans L11).trans L12)) B9 B10 Y6 YU),U⟩ U (by have:=Zc; simp only [Zx]; omega) (by have:=Zc; simp only [Zx]; omega) U U U (fun v16 o6 w36 R10 S47=>?_)
     have S48:=S47.tail
     refine Zj k1 (by have:=Zc; omega) U U U ?_
     have S49:=S48.tail
     have S50:=S49.tail
     exact BK.mk' _ ⟨k1 + 1,v16,o6,G12,U,(L7.trans (((L9.trans L10).trans L11).trans L12)),S50,(ZS.cast R10 (by (with_reducible exact (ZcT ‹_› (by first | exact .inl ‹_› | exact .inr (.inl ‹_›) | exact .inr (.inr ‹_›))).symm))),(Zq U),(by omega)⟩ (show t.rows.length - (k1 + 1) < t.rows.length - k1 by omega)
    refine Y3 (hvv.mono (((((((((L1.trans L2).trans L3).trans L4).trans L5).trans L6).trans L7).trans L9).trans L10).trans L11)) ((t.s.key).toNat) (by omega) Yv Z6 U U U (congrArg (Value.int .i64) (Int.toNat_of_nonneg (by omega)).symm) (fun v17 A15=>?_)
    refine ⟨fun _=>S23.down S23.le (G11.le_refl),?_⟩
    refine TG.fork 3 [11,17,18,19] [11] U U (by decide) (by decide) (TA.cons U ?_ TA.nil)
    refine Y3 (A8.mono ((L9.trans L10).trans L11)) ((t.s.key).toNat) (by omega) Yv Z6 U U U (congrArg (Value.int .i64) (Int.toNat_of_nonneg (by omega)).symm) (fun v18 A16=>?_)
    refine ⟨fun _=>S23.down S23.le (G11.le_refl),?_⟩
    refine TG.fork 2 [17,18,19] [17] U U (by decide) (by decide) (TA.cons U ?_ TA.nil)
    refine Zr S23 Zaq U U U (ZcL S23.imm (x1.v.take ((t.s.key).toNat)) (v.take ((t.s.key).toNat)) _ A16 _ A15) (fun w37 G17 S51 L17=>?_)
    refine WL.split (fun (h8 : (decide ((x1.v.take ((t.s.key).toNat)) = (v.take ((t.s.key).toNat)))) = true)=>?_) (fun (h8 : (decide ((x1.v.take ((t.s.key).toNat)) = (v.take ((t.s.key).toNat)))) = false)=>?_)
    ·refine ⟨fun h=>absurd h (by decide),?_⟩
     refine TG.quiet 1 [18,19] 18 U U U U U (by decide) (fun w9 K9 k9=>Zbk U U k9) ?_
     refine TG.quiet 0 [19] 19 U U U U U (by decide) (fun w9 K9 k9=>WL.assign U k9) ?_
     refine TG.fin U ?_
     refine Yg S51 1 _ _ _ 1 [S x1.r.d.a,S x1.r.d.b] U U U Z2 U U U ?_
     refine WL.buildSlice _ [(0,[S x1.r.d.a,S x1.r.d.b])] [S x1.r.d.a,S x1.r.d.b] S51 YR U U U U (fun z hz=>by match z,hz with | [z0,z1],_=>rfl) (fun b14 w38 N14 S52=>?_)
     obtain ⟨G18,L18,A17,S53⟩:=St.sealSl (E:=SpanE) (by_:=16) (l:=([x1.r.d] : List Span)) S52 N14 ⟨[S x1.r.d.a,S x1.r.d.b],_,U,(Z1 x1.r.d B9 B10),U⟩ U (by simp [reach]) (by simp [reach])
     have j6:=(L17.trans L18)
     refine Zr S53 ZsE U U U (Zf2 S53.imm (Yh 3 [x1.r.d] [d]) [x1.r.d] _ (A11.mono j6) _ A17) (fun w39 G19 S54 L19=>?_)
     refine WL.split (fun (h9 : (decide ((Yh 3 [x1.r.d] [d]) = [x1.r.d])) = true)=>?_) (fun (h9 : (decide ((Yh 3 [x1.r.d] [d]) = [x1.r.d])) = false)=>?_)
     ·refine Yg S54 1 _ _ _ 0 [v9,S x1.r.d.a,S x1.r.d.b,S x1.r.x.a,S x1.r.x.b] U U U Zz U U U ?_
      refine WL.buildSlice _ [(0,[v9,S x1.r.d.a,S x1.r.d.b,S x1.r.x.a,S x1.r.x.b])] [v9,S x1.r.d.a,S x1.r.d.b,S x1.r.x.a,S x1.r.x.b] S54 YD U U U U (fun z hz=>by match z,hz with | [z0,z1,z2,z3,z4],_=>rfl) (fun b15 w40 N15 S55=>?_)
      refine WL.push (m:=([x1] : List HRow)) YD U U U (R3.mono (((((L9.trans L10).trans L11).trans L17).trans L18).trans L19)) S55 3 U 0 _ _ _ _ _ U ⟨[v9,S x1.r.d.a,S x1.r.d.b,S x1.r.x.a,S x1.r.x.b],_,U,(ZT x1 (A8.mono (((((L9.trans L10).trans L11).trans L17).trans L18).trans L19)) B9 B10 Y6 YU),U⟩ U (by have:=Zc; simp only [Zx]; omega) (by have:=Zc; simp only [Zx]; omega) U U U (fun v19 o7 w41 R11 S56=>?_)
      have S57:=S56.tail
      refine Zj k1 (by have:=Zc; omega) U U U ?_
      have S58:=S57.tail
      have S59:=S58.tail
      exact BK.mk' _ ⟨k1 + 1,v19,o7,G19,U,(L7.trans (((((L9.trans L10).trans L11).trans L17).trans L18).trans L19)),S59,(ZS.cast R11 (by (with_reducible exact (ZcT ‹_› (by first | exact .inl ‹_› | exact .inr (.inl ‹_›) | exact .inr (.inr ‹_›))).symm))),(Zq U),(by omega)⟩ (show t.rows.length - (k1 + 1) < t.rows.length - k1 by omega)
     have V3:=A11.bound
     refine Zl (A11.mono (j6.trans L19)) Xe U U ?_
     refine LP.go ft [] (fun m ρ1 w1=>∃ (k2 : Nat),∃ (v20 : Value) (o8 : OB),∃ (G20 : GH),m = (Yh 3 [x1.r.d] [d]).length - k2 ∧ G19.le G20 ∧ St w [] G G20 [none,some (b5,37,[v9,S x1.r.d.a,S x1.r.d.b,S x1.r.x.a,S x1.r.x.b]),o8,some (b2,28,[Za ((Yt t tx v d).s.name),v4,S ((Yt t tx v d).s.key),v5,v6,S ((Yt t tx v d).last)]),some (b1,28,[Za [],Ze,S 0,Ze,Ze,S 0])] w1 ∧ ZS HRowE 56 37 G20 v20 ((Zbh t.s.key.toNat t.rows tx v d k1) ++ X1 x1.v ((Yh 3 [x1.r.d] [d]).take k2) tx 253402300800) o8 ∧ FR ρ1 [(1,S tx),(2,vv),(4,Zs p1),(7,Zs p2),(8, .pointer (some ⟨b1,0,none⟩)),(10, .pointer (some ⟨b2,0,none⟩)),(12, .pointer (some (⟨b3,0,none⟩ : Addr))),(13,v20),(15, .pointer (some ⟨b5,0,none⟩)),(49,v3),(50,S (t.rows.length : Int)),(51,S (k1 : Int)),(98,r6),(99,S (((Yh 3 [x1.r.d] [d]).length : Nat) : Int)),(100,S (k2 : Int))] ∧ k2 ≤ (Yh 3 [x1.r.d] [d]).length) _ ⟨0,v7,o1,G19,U,(G19.le_refl),S54,(ZS.cast (R3.mono (((((L9.trans L10).trans L11).trans L17).trans L18).trans L19)) (by simp [X1])),(Zq U),(by omega)⟩ ?_
     rintro m ρ1 w42 ⟨k2,v20,o8,G20,rfl,L20,S60,R12,F9,f3⟩
     refine F9.set ?_
     clear F9
     have hol:=ZcP x1.v ((Yh 3 [x1.r.d] [d]).take k2) tx 253402300800
     have hot:=List.length_take_le' k2 (Yh 3 [x1.r.d] [d])
     refine Zp (k2 : Int) (((Yh 3 [x1.r.d] [d]).length : Nat) : Int) U U U (fun h10=>?_) (fun h10=>?_)
     ·refine WL.indexAddr (A11.mono ((j6.trans L19).trans L20)) k2 (by omega) Xe Z2 U U U U (fun p5 x3 U3 E3=>?_)
      obtain ⟨D4,C7,R13⟩:=E3
      obtain ⟨rfl,QK,XG⟩:=ZI R13
      refine Zb S60 C7 [S x3.a,S x3.b] Z2 U U U U U ?_
      refine WL.alloc S60 Z2 U U (fun b16 w43 N16 S61=>?_)
      refine Zi S61 0 [S x3.a,S x3.b] U U Z2 U U U U U U (fun w44 S62=>?_)
      obtain ⟨G21,L21,C8,S63⟩:=S62.shutB N16
      refine Ya S63 1 _ _ _ 0 _ U U ZK U U U <| Zb S63 C8 [S x3.a,S x3.b] Z2 U U U U U <| Zb S63 (C3.mono (((((((((L6.trans L7).trans L9).trans L10).trans L11).trans L17).trans L18).trans L19).trans L20).trans L21)) [S tx,S 253402300800] Z2 U U U U U <| WL.build _ [(0,[S x3.a,S x3.b]),(1,[S tx,S 253402300800])] [S x3.a,S x3.b,S tx,S 253402300800] Zct U ZbY U U U U ?_
      refine WL.build _ [(0,[v9]),(1,[S x3.a,S x3.b,S tx,S 253402300800])] [v9,S x3.a,S x3.b,S tx,S 253402300800] Zz U Za6 U U (by show [(0,(v9 : Value).cells.toList),(1,(.agg #[S x3.a,S x3.b,S tx,S 253402300800] : Value).cells.toList)] = _; simp only [(A8.mono (((((((L9.trans L10).trans L11).trans L17).trans L18).trans L19).trans L20).trans L21)).cells1] <;> rfl) U ?_
      refine WL.buildSlice _ [(0,[v9,S x3.a,S x3.b,S tx,S 253402300800])] [v9,S x3.a,S x3.b,S tx,S 253402300800] S63 YD U U U U (fun z hz=>by match z,hz with | [z0,z1,z2,z3,z4],_=>rfl) (fun b17 w45 N17 S64=>?_)
      refine WL.push (m:=([(HRow.mk x1.v (Rect.mk x3 (Span.mk tx 253402300800)))] : List HRow)) YD U U U (R12.mono L21) S64 3 U 0 _ _ _ _ _ U ⟨[v9,S x3.a,S x3.b,S tx,S 253402300800],_,U,(ZT (HRow.mk x1.v (Rect.mk x3 (Span.mk tx 253402300800))) (A8.mono (((((((L9.trans L10).trans L11).trans L17).trans L18).trans L19).trans L20).trans L21)) QK XG htx64 (show Z0 253402300800 from by constructor <;> decide)),U⟩ U (by have:=Zc; simp only [Zx]; omega) (by have:=Zc; simp only [Zx]; omega) U U U (fun v21 o9 w46 R14 S65=>?_)
      have S66:=S65.tail
      refine Zj k2 (by have:=Zc; omega) U U U ?_
      exact BK.mk' _ ⟨k2 + 1,v21,o9,G21,U,(L20.trans L21),S66,(ZS.cast R14 (by (rw [Zeq ‹_›,List.append_assoc]))),(Zq U),(by omega)⟩ (show (Yh 3 [x1.r.d] [d]).length - (k2 + 1) < (Yh 3 [x1.r.d] [d]).length - k2 by omega)
     refine WL.store S60 1 _ _ _ 4 _ [S tx] [v9,S x1.r.d.a,S x1.r.d.b,S x1.r.x.a,S tx] _ U U Zt U (leT U) U U U U U U (fun w47 S67=>?_)
     refine Yg S67 1 _ _ _ 0 [v9,S x1.r.d.a,S x1.r.d.b,S x1.r.x.a,S tx] U U U Zz U U U ?_
     refine WL.buildSlice _ [(0,[v9,S x1.r.d.a,S x1.r.d.b,S x1.r.x.a,S tx])] [v9,S x1.r.d.a,S x1.r.d.b,S x1.r.x.a,S tx] S67 YD U U U U (fun z hz=>by match z,hz with | [z0,z1,z2,z3,z4],_=>rfl) (fun b18 w48 N18 S68=>?_)
     refine WL.push (m:=([(HRow.mk x1.v (Rect.mk x1.r.d (Span.mk x1.r.x.a tx)))] : List HRow)) YD U U U R12 S68 3 U 0 _ _ _ _ _ U ⟨[v9,S x1.r.d.a,S x1.r.d.b,S x1.r.x.a,S tx],_,U,(ZT (HRow.mk x1.v (Rect.mk x1.r.d (Span.mk x1.r.x.a tx))) (A8.mono ((((((L9.trans L10).trans L11).trans L17).trans L18).trans L19).trans L20)) B9 B10 Y6 htx64),U⟩ U (by have:=Zc; simp only [Zx]; omega) (by have:=Zc; simp only [Zx]; omega) U U U (fun v22 o10 w49 R15 S69=>?_)
     have S70:=S69.tail
     refine Zj k1 (by have:=Zc; omega) U U U ?_
     have S71:=S70.tail
     have S72:=S71.tail
     exact BK.mk' _ ⟨k1 + 1,v22,o10,G20,U,(L7.trans ((((((L9.trans L10).trans L11).trans L17).trans L18).trans L19).trans L20)),S72,(ZS.cast R15 (by ((rw [ZhH (by omega)]; with_reducible exact (Zk6 ‹_› ‹_› ‹_› ‹_›).symm)))),(Zq U),(by omega)⟩ (show t.rows.length - (k1 + 1) < t.rows.length - k1 by omega)
    refine ⟨fun h=>absurd h (by decide),?_⟩
    refine TG.quiet 1 [18,19] 18 U U U U U (by decide) (fun w9 K9 k9=>Zbk U U k9) ?_
    refine TG.quiet 0 [19] 19 U U U U U (by decide) (fun w9 K9 k9=>WL.assign U k9) ?_
    refine TG.fin U ?_
    refine Yg S51 1 _ _ _ 0 [v9,S x1.r.d.a,S x1.r.d.b,S x1.r.x.a,S x1.r.x.b] U U U Zz U U U ?_
    refine WL.buildSlice _ [(0,[v9,S x1.r.d.a,S x1.r.d.b,S x1.r.x.a,S x1.r.x.b])] [v9,S x1.r.d.a,S x1.r.d.b,S x1.r.x.a,S x1.r.x.b] S51 YD U U U U (fun z hz=>by match z,hz with | [z0,z1,z2,z3,z4],_=>rfl) (fun b19 w50 N19 S73=>?_)
    refine WL.push (m:=([x1] : List HRow)) YD U U U (R3.mono (((L9.trans L10).trans L11).trans L17)) S73 3 U 0 _ _ _ _ _ U ⟨[v9,S x1.r.d.a,S x1.r.d.b,S x1.r.x.a,S x1.r.x.b],_,U,(ZT x1 (A8.mono (((L9.trans L10).trans L11).trans L17)) B9 B10 Y6 YU),U⟩ U (by have:=Zc; simp only [Zx]; omega) (by have:=Zc; simp only [Zx]; omega) U U U (fun v23 o11 w51 R16 S74=>?_)
    have S75:=S74.tail
    refine Zj k1 (by have:=Zc; omega) U U U ?_
    have S76:=S75.tail
    have S77:=S76.tail
    exact BK.mk' _ ⟨k1 + 1,v23,o11,G17,U,(L7.trans (((L9.trans L10).trans L11).trans L17)),S77,(ZS.cast R16 (by (with_reducible exact (ZcT ‹_› (by first | exact .inl ‹_› | exact .inr (.inl ‹_›) | exact .inr (.inr ‹_›))).symm))),(Zq U),(by omega)⟩ (show t.rows.length - (k1 + 1) < t.rows.length - k1 by omega)
   have h4 : x1.r.x.b ≠ 253402300800:=q1
   clear q1
   refine drT [11,16,17,18,19] [(68,S x1.r.x.b),(69, .bool false)] S22 ⟨fun _ hSw=>Ya hSw 1 _ _ _ 4 _ U U Zt U U U <| nu U U,fun _=>WL.cmpV .eql U .i64 x1.r.x.b 253402300800 _ Xa U U U <| nu U U,trivial⟩ (fun w52 S78=>?_)
   refine TG.fork 4 [11,16,17,18,19] [11,16] U U (by decide) (by decide) (TA.cons U ?_ (TA.cons U ?_ TA.nil))
   ·refine WL.no U U ?_
    refine ⟨fun _=>S78.down S78.le (G11.le_refl),?_⟩
    refine TG.fork 3 [16,17,18,19] [16] U U (by decide) (by decide) (TA.cons U ?_ TA.nil)
    refine WL.no U U ?_
    refine ⟨fun _=>S78.down S78.le (G11.le_refl),?_⟩
    refine TG.fork 2 [17,18,19] [17] U U (by decide) (by decide) (TA.cons U ?_ TA.nil)
    refine WL.no U U ?_
    refine ⟨fun h=>absurd h (by decide),?_⟩
    refine TG.quiet 1 [18,19] 18 U U U U U (by decide) (fun w9 K9 k9=>Zao U U k9) ?_
    refine TG.quiet 0 [19] 19 U U U U U (by decide) (fun w9 K9 k9=>WL.assign U k9) ?_
    refine TG.fin U ?_
    refine Yg S78 1 _ _ _ 0 [v9,S x1.r.d.a,S x1.r.d.b,S x1.r.x.a,S x1.r.x.b] U U U Zz U U U ?_
    refine WL.buildSlice _ [(0,[v9,S x1.r.d.a,S x1.r.d.b,S x1.r.x.a,S x1.r.x.b])] [v9,S x1.r.d.a,S x1.r.d.b,S x1.r.x.a,S x1.r.x.b] S78 YD U U U U (fun z hz=>by match z,hz with | [z0,z1,z2,z3,z4],_=>rfl) (fun b20 w53 N20 S79=>?_)
    refine WL.push (m:=([x1] : List HRow)) YD U U U (R3.mono ((L9.trans L10).trans L11)) S79 3 U 0 _ _ _ _ _ U ⟨[v9,S x1.r.d.a,S x1.r.d.b,S x1.r.x.a,S x1.r.x.b],_,U,(ZT x1 (A8.mono ((L9.trans L10).trans L11)) B9 B10 Y6 YU),U⟩ U (by have:=Zc; simp only [Zx]; omega) (by have:=Zc; simp only [Zx]; omega) U U U (fun v24 o12 w54 R17 S80=>?_)
    have S81:=S80.tail
    refine Zj k1 (by have:=Zc; omega) U U U ?_
    have S82:=S81.tail
    have S83:=S82.tail
    exact BK.mk' _ ⟨k1 + 1,v24,o12,G11,U,(L7.trans ((L9.trans L10).trans L11)),S83,(ZS.cast R17 (by (with_reducible exact (ZcT ‹_› (by first | exact .inl ‹_› | exact .inr (.inl ‹_›) | exact .inr (.inr ‹_›))).symm))),(Zq U),(by omega)⟩ (show t.rows.length - (k1 + 1) < t.rows.length - k1 by omega)
   refine WL.no U U ?_
   refine ⟨fun _=>S78.down S78.le (G11.le_refl),?_⟩
   refine TG.fork 3 [11,17,18,19] [11] U U (by decide) (by decide) (TA.cons U ?_ TA.nil)
   refine WL.no U U ?_
   refine ⟨fun _=>S78.down S78.le (G11.le_refl),?_⟩
   refine TG.fork 2 [17,18,19] [17] U U (by decide) (by decide) (TA.cons U ?_ TA.nil)
   refine WL.no U U ?_
   refine ⟨fun h=>absurd h (by decide),?_⟩
   refine TG.quiet 1 [18,19] 18 U U U U U (by decide) (fun w9 K9 k9=>Zao U U k9) ?_
   refine TG.quiet 0 [19] 19 U U U U U (by decide) (fun w9 K9 k9=>WL.assign U k9) ?_
   refine TG.fin U ?_
   refine Yg S78 1 _ _ _ 0 [v9,S x1.r.d.a,S x1.r.d.b,S x1.r.x.a,S x1.r.x.b] U U U Zz U U U ?_
   refine WL.buildSlice _ [(0,[v9,S x1.r.d.a,S x1.r.d.b,S x1.r.x.a,S x1.r.x.b])] [v9,S x1.r.d.a,S x1.r.d.b,S x1.r.x.a,S x1.r.x.b] S78 YD U U U U (fun z hz=>by match z,hz with | [z0,z1,z2,z3,z4],_=>rfl) (fun b21 w55 N21 S84=>?_)
   refine WL.push (m:=([x1] : List HRow)) YD U U U (R3.mono ((L9.trans L10).trans L11)) S84 3 U 0 _ _ _ _ _ U ⟨[v9,S x1.r.d.a,S x1.r.d.b,S x1.r.x.a,S x1.r.x.b],_,U,(ZT x1 (A8.mono ((L9.trans L10).trans L11)) B9 B10 Y6 YU),U⟩ U (by have:=Zc; simp only [Zx]; omega) (by have:=Zc; simp only [Zx]; omega) U U U (fun v25 o13 w56 R18 S85=>?_)
   have S86:=S85.tail
   refine Zj k1 (by have:=Zc; omega) U U U ?_
   have S87:=S86.tail
   have S88:=S87.tail
   exact BK.mk' _ ⟨k1 + 1,v25,o13,G11,U,(L7.trans ((L9.trans L10).trans L11)),S88,(ZS.cast R18 (by (with_reducible exact (ZcT ‹_› (by first | exact .inl ‹_› | exact .inr (.inl ‹_›) | exact .inr (.inr ‹_›))).symm))),(Zq U),(by omega)⟩ (show t.rows.length - (k1 + 1) < t.rows.length - k1 by omega)
  have hmr:=ZS.cast (l':=Qp t tx v d) R3 (by rw [Zr3 (by omega)]; rfl)
  obtain ⟨G22,L22,A18,S89⟩:=ZS.freeze hmr S15 0 U
  refine Qe ZzW U U U (Zp9 S89.imm (Qp t tx v d) _ A18 (ZxU hIns)) (fun w57 G23 r8 hres1 P4=>?_)
  have S90:=S89.call hres1
  have L23:=hres1.le
  obtain ⟨r9,_,rfl,A19,rfl⟩:=P4
  obtain ⟨o14,R19,hf1⟩:=A19
  have S91:=S89.adoptO hres1 hf1
  refine WL.store S91 2 _ _ _ 4 _ [r9] [Za ((Yt t tx v d).s.name),v4,S ((Yt t tx v d).s.key),v5,r9,S ((Yt t tx v d).last)] _ U R19.cells1 YK U (leT U) (by simp only [ZA,R19.oneC] <;> rfl) U U U U U (fun w58 S92=>?_)
  refine Yr (Zam (Qp t tx v d)) 0 U U U (fun h11=>?_) (fun h11=>?_)
  ·refine WL.build _ [] [Za [],Ze,S 0,Ze,Ze,S 0] Zm U QF U U U U ?_
   refine Zi S92 3 [Za [],Ze,S 0,Ze,Ze,S 0] U U Zm U U U U U U (fun w59 S93=>?_)
   exact Xr [.agg #[Za [],Ze,S 0,Ze,Ze,S 0],S (Zam (Qp t tx v d))] S93 ⟨_,_,_,U,U,S93.loadA 3 _ _ _ 0 [Za [],Ze,S 0,Ze,Ze,S 0] U U U Zm U,⟨_,U,U⟩⟩ ⟨_,_,U,(Is.cast ⟨_,U,(Zo (Table.mk (Schema.mk [] [] 0 []) [] 0) (by simp [reach]) (Sl.nil ColE 24 G23) ZP (Sl.nil ForeignE 40 G23) (Sl.nil HRowE 56 G23) ZP)⟩ (by exact (ZuT ‹_› ‹_› ‹_›).1)),(congrArg (Value.int .i64) (by exact (ZuT ‹_› ‹_› ‹_›).2))⟩
  refine Ya S92 2 _ _ _ 4 _ U U YK U U U ?_
  have V4:=R19.bound
  refine XH R19 Yn U U ?_
  refine LP.go ft [] (fun m ρ1 w1=>∃ (k3 : Nat),∃ (o15 : OB),∃ (G24 : GH),m = (QD (Qp t tx v d)).length - k3 ∧ G23.le G24 ∧ St w [] G G24 [o15,none,some (b2,28,[Za ((Yt t tx v d).s.name),v4,S ((Yt t tx v d).s.key),v5,r9,S ((Yt t tx v d).last)]),some (b1,28,[Za [],Ze,S 0,Ze,Ze,S 0])] w1 ∧ ZS HRowE 56 37 G24 r9 (QD (Qp t tx v d)) o15 ∧ FR ρ1 [(8, .pointer (some ⟨b1,0,none⟩)),(10, .pointer (some ⟨b2,0,none⟩)),(134,r9),(135,S (((QD (Qp t tx v d)).length : Nat) : Int)),(136,S (k3 : Int))] ∧ k3 ≤ (QD (Qp t tx v d)).length) _ ⟨0,o14,G23,U,(G23.le_refl),S92,R19,(Zq U),(by omega)⟩ ?_
  rintro m ρ1 w60 ⟨k3,o15,G24,rfl,L24,S94,R20,F9,f4⟩
  refine F9.set ?_
  clear F9
  refine Zp (k3 : Int) (((QD (Qp t tx v d)).length : Nat) : Int) U U U (fun h12=>?_) (fun h12=>?_)
  ·refine YW R20 k3 (by omega) Yn Zz U U U U (fun p6 x4 ec1 U4 R21 ra1=>?_)
   obtain ⟨v26,rfl,A20,XY,Q8,ZaJ,Zcv⟩:=Z7 R21
   refine Zah ra1 S94 0 U Zz U U U U ?_
   refine WL.alloc S94 Zz U U (fun b22 w61 N22 S95=>?_)
   refine Zi S95 0 [v26,S x4.r.d.a,S x4.r.d.b,S x4.r.x.a,S x4.r.x.b] U U Zz U U (by simp only [ZA,A20.oneC] <;> rfl) U U U (fun w62 S96=>?_)
   obtain ⟨G25,L25,C9,S97⟩:=S96.shutB N22
   obtain ⟨p7,x5,ec2,U5,R22,ra2,W1⟩:=ZS.atP (R20.mono L25) k3 (by omega)
   obtain rfl : x4 = x5:=Option.some.inj (U4.symm.trans U5)
   obtain ⟨v27,rfl,A21,ZbZ,Zcw,ZbG,Zgd⟩:=Z7 R22
   refine dr [(5,true),(8,false)] [(142,r9),(145,v26),(147,Zs p7)] S97 ⟨fun _ hSw=>Ya hSw 2 _ _ _ 4 _ U U YK U U U <| nu U U,fun _ hSw=>Z hSw (XC.drop 0 C9) ZK U U U <| nu U U,fun _=>Zg k3 W1 Yn Zz U U U U <| nu U U,trivial⟩ (fun w63 S98=>?_)
   refine Z9 S98 Zgf U U U (ZaE S98.imm x4.v _ (A20.mono L25)) (fun w64 G26 r11 P5 S99 L26=>?_)
   refine ⟨S99.down S98.le L26,?_⟩
   have j7:=(L25.trans L26)
   refine Zdg (R20.mono j7) ra2 S99 0 U (by omega) U 0 _ [r11] x4 [r11,S x4.r.d.a,S x4.r.d.b,S x4.r.x.a,S x4.r.x.b] P5.cells1 ZK U (leT U) (by simp only [ZA,P5.oneC] <;> rfl) U (ZT x4 P5 ZbZ Zcw ZbG Zgd) U U U (fun o16 w65 R23 S100=>?_)
   refine Zj k3 (by have:=Zc; omega) U U U ?_
   exact BK.mk' _ ⟨k3 + 1,o16,G26,U,(L24.trans j7),S100,(ZS.cast R23 (by (exact ZtN ‹_›))),(Zq U),(by omega)⟩ (show (QD (Qp t tx v d)).length - (k3 + 1) < (QD (Qp t tx v d)).length - k3 by omega)
  refine Yg S94 2 _ _ _ 0 [Za ((Yt t tx v d).s.name),v4,S ((Yt t tx v d).s.key),v5,r9,S ((Yt t tx v d).last)] U U U Zm U U U ?_
  have j8:=(((((L5.trans L6).trans L7).trans L22).trans L23).trans L24)
  refine Zi S94 3 [Za ((Yt t tx v d).s.name),v4,S ((Yt t tx v d).s.key),v5,r9,S ((Yt t tx v d).last)] U U Zm U U (by simp only [ZA,(A5.mono j8).oneC,(A6.mono j8).oneC,R20.oneC] <;> rfl) U U U (fun w66 S101=>?_)
  obtain ⟨G27,L27,A22,S102⟩:=ZS.freeze R20 S101 0 U
  exact Xr [.agg #[Za ((Yt t tx v d).s.name),v4,S ((Yt t tx v d).s.key),v5,r9,S ((Yt t tx v d).last)],S 0] S102 ⟨_,_,_,U,U,S102.loadA 3 _ _ _ 0 [Za ((Yt t tx v d).s.name),v4,S ((Yt t tx v d).s.key),v5,r9,S ((Yt t tx v d).last)] U U U Zm U,⟨_,U,U⟩⟩ ⟨_,_,U,(Is.cast ⟨_,U,(Zo (Table.mk (Schema.mk ((Yt t tx v d).s.name) ((Yt t tx v d).s.cols) ((Yt t tx v d).s.key) ((Yt t tx v d).s.fks)) (QD (Qp t tx v d)) ((Yt t tx v d).last)) B6 (A5.mono (j8.trans L27)) B7 (A6.mono (j8.trans L27)) A22 B8)⟩ (by exact (Zp6 ‹_› ‹_› ‹_›).1)),(congrArg (Value.int .i64) (by exact (Zp6 ‹_› ‹_› ‹_›).2))⟩
 refine WL.build _ [] [Za [],Ze,S 0,Ze,Ze,S 0] Zm U QF U U U U ?_
 refine Zi S4 0 [Za [],Ze,S 0,Ze,Ze,S 0] U U Zm U U U U U U (fun w67 S103=>?_)
 exact Xr [.agg #[Za [],Ze,S 0,Ze,Ze,S 0],S 1] S103 ⟨_,_,_,U,U,S103.loadA 0 _ _ _ 0 [Za [],Ze,S 0,Ze,Ze,S 0] U U U Zm U,⟨_,U,U⟩⟩ ⟨_,_,U,(Is.cast ⟨_,U,(Zo (Table.mk (Schema.mk [] [] 0 []) [] 0) (by simp [reach]) (Sl.nil ColE 24 G3) ZP (Sl.nil ForeignE 40 G3) (Sl.nil HRowE 56 G3) ZP)⟩ (by exact (ZuR ‹_›).1)),(congrArg (Value.int .i64) (by exact (ZuR ‹_›).2))⟩
end Go.Civ
