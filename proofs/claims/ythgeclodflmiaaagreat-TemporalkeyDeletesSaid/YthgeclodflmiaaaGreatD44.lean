/- Lemmas. -/
import Derived.Test.YthgeclodflmiaaaGreatD37
import Derived.Test.YthgeclodflmiaaaGreatD38
import Derived.Test.YthgeclodflmiaaaGreatD39
import Derived.Test.YthgeclodflmiaaaGreatD41
import Derived.Test.YthgeclodflmiaaaGreatD42
import Derived.Test.YthgeclodflmiaaaGreatD43
import Derived.Test.YthgeclodflmiaaaGreatProg
import Derived.KernelRfl
import Derived.WalkKit
set_option linter.unusedVariables false
set_option linter.unusedSimpArgs false
set_option maxRecDepth 100000
set_option maxHeartbeats 4000000
namespace Go.Civ
open Go.Proofs
theorem Zyr {G : GH} {w : World} (hG : G.In w) (y : Table) (cy : List Value) (hcy : TableE.rep G y cy) : CL Tryz.prog (nat_lit 52) #[.agg cy.toArray] [] w G fun _ _ r=>r = .bool (!Zbx y):=by
 refine Zh ft [] Tryz.func52 U U ?_
 have hS:=St.start (X:=[]) hG
 obtain ⟨v1,v2,v3,rfl,B1,A1,B2,A2,A3,B3⟩:=Zy hcy
 refine Zw [Za y.s.name,v1,S y.s.key,v2,v3,S y.last] _ hS U U U (fun p1 w1 G1 L1 M1 C1 S1=>?_)
 refine Zb S1 C1 [Za y.s.name,v1,S y.s.key,v2,v3,S y.last] Zm U U U U U ?_
 refine Zr S1 YU U U U (Zob S1.imm y _ (Zo y B1 (A1.mono L1) B2 (A2.mono L1) (A3.mono L1) B3)) (fun w2 G2 S2 L2=>?_)
 exact RB S2 U (by rfl)
theorem Zys {G : GH} {w : World} (hG : G.In w) (y : Table) (cy : List Value) (hcy : TableE.rep G y cy) : CL Tryz.prog (nat_lit 54) #[.agg cy.toArray] [] w G fun _ _ r=>r = .bool (!Zu y):=by
 refine Zh ft [] Tryz.func54 U U ?_
 have hS:=St.start (X:=[]) hG
 obtain ⟨v1,v2,v3,rfl,B1,A1,B2,A2,A3,B3⟩:=Zy hcy
 refine Zw [Za y.s.name,v1,S y.s.key,v2,v3,S y.last] _ hS U U U (fun p1 w1 G1 L1 M1 C1 S1=>?_)
 refine Zb S1 C1 [Za y.s.name,v1,S y.s.key,v2,v3,S y.last] Zm U U U U U ?_
 refine Zr S1 XF U U U (Zbv S1.imm y _ (Zo y B1 (A1.mono L1) B2 (A2.mono L1) (A3.mono L1) B3)) (fun w2 G2 S2 L2=>?_)
 exact RB S2 U (by rfl)
theorem ZfL {G : GH} {w : World} (hG : G.In w) (d : Nat) (t : Table) (tx : Int) (c : Cond) (p : Span) (l : List Table) (ct : List Value) (hct : TableE.rep G t ct) (cc : List Value) (hcc : (YQ d).rep G c cc) (cp : List Value) (hcp : SpanE.rep G p cp) (vl : Value) (hvl : Sl TableE 104 G vl l) (htx64 : Z0 tx) : CL Tryz.prog (nat_lit 10) #[.agg ct.toArray,S tx, .agg cc.toArray, .agg cp.toArray,vl] [] w G fun _ _ r=>r = .bool true:=by
 refine Zh ft [] Tryz.func10 U U ?_
 have hS:=St.start (X:=[]) hG
 have T1:=Zy hct
 obtain ⟨v1,v2,v3,rfl,B1,A1,B2,A2,A3,B3⟩:=T1
 have T2:=Xo hcc
 obtain ⟨lv1,rfl,B4,B5,B6,B7,B8,B9,O1⟩:=T2
 have T3:=ZI hcp
 obtain ⟨rfl,B10,Xa⟩:=T3
 refine Zw [Za t.s.name,v1,S t.s.key,v2,v3,S t.last] _ hS U U U (fun p1 w1 G1 L1 M1 C1 S1=>?_)
 refine Zw [S c.kind,Za c.col,Za c.oth,S c.v.k,S c.v.n,Za c.v.s,lv1] _ S1 U U U (fun p2 w2 G2 L2 M2 C2 S2=>?_)
 refine Zw [S p.a,S p.b] _ S2 U U U (fun p3 w3 G3 L3 M3 C3 S3=>?_)
 refine WL.alloc S3 Zt U U (fun b1 w4 N1 S4=>?_)
 refine Zi S4 0 [S 0] U U Zt U U U U U U (fun w5 S5=>?_)
 refine Zr S5 Y6 U U U (ZdF S5.imm) (fun w6 G4 S6 L4=>?_)
 have j1:=((L2.trans L3).trans L4)
 refine Zb S6 (C1.mono j1) [Za t.s.name,v1,S t.s.key,v2,v3,S t.last] Zm U U U U U ?_
 have j2:=(((L1.trans L2).trans L3).trans L4)
 refine Zr S6 YU U U U (Zob S6.imm t _ (Zo t B1 (A1.mono j2) B2 (A2.mono j2) (A3.mono j2) B3)) (fun w7 G5 S7 L5=>?_)
 refine WL.split (fun (h1 : (Zbx t) = true)=>?_) (fun (h1 : (Zbx t) = false)=>?_)
 ·refine Z S7 (XC.drop 4 (C1.mono (j1.trans L5))) YK U U U ?_
  have V1:=A3.bound
  have j3:=(j2.trans L5)
  refine Zl (A3.mono j3) Yn U U ?_
  refine Xd (t.rows.length : Int) 16 U U U (fun h2=>?_) (fun h2=>?_)
  ·refine Zr S7 Y6 U U U (ZdF S7.imm) (fun w9 G6 S8 L6=>?_)
   exact RB S8 U (by with_reducible rfl)
  have V2:=hvl.bound
  refine Zl (hvl.mono j3) Qw U U ?_
  refine Xd (l.length : Int) 3 U U U (fun h3=>?_) (fun h3=>?_)
  ·refine Zr S7 Y6 U U U (ZdF S7.imm) (fun w10 G7 S9 L7=>?_)
   exact RB S9 U (by with_reducible rfl)
  refine Zr S7 Zs4 U U U (Zh0 S7.imm l (fun x8=>!Zbx x8) _ (hvl.mono j3) 52 #[] ⟨ZwU,fun G8 w8 v8 x8 L8 hG8 hon8 hA8=>by obtain ⟨cs_x8,rfl,hr_x8⟩:=hA8; exact Zyr hG8 x8 cs_x8 hr_x8⟩) (fun w11 G9 S10 L9=>?_)
  refine WL.split (fun (h4 : (l.any (fun x8=>!Zbx x8)) = true)=>?_) (fun (h4 : (l.any (fun x8=>!Zbx x8)) = false)=>?_)
  ·refine Zr S10 Y6 U U U (ZdF S10.imm) (fun w12 G10 S11 L10=>?_)
   exact RB S11 U (by with_reducible rfl)
  refine Zb S10 (C2.mono (((L3.trans L4).trans L5).trans L9)) [S c.kind,Za c.col,Za c.oth,S c.v.k,S c.v.n,Za c.v.s,lv1] XI U U U U U ?_
  refine Qe Zs8 U U U (Zuj _ S10.imm c 0 0 _ ((YQ _).mono (((((L1.trans L2).trans L3).trans L4).trans L5).trans L9) hcc) _ (S10.lentAt 0 U) (by omega) (by omega)) (fun w13 G11 r1 hres1 ⟨P1,hlc1⟩=>?_)
  have S12 : St w [] G G11 [some (b1,3,[S ((YL d c 0 0).2)])] w13:=S10.callX 0 U [S ((YL d c 0 0).2)] hres1 (hlc1 _ U).1
  have L11:=hres1.le
  subst P1
  refine WL.split (fun (h5 : ((YL d c 0 0).1) = true)=>?_) (fun (h5 : ((YL d c 0 0).1) = false)=>?_)
  ·refine Zb S12 (C1.mono (((((L2.trans L3).trans L4).trans L5).trans L9).trans L11)) [Za t.s.name,v1,S t.s.key,v2,v3,S t.last] Zm U U U U U <| Zb S12 (C2.mono ((((L3.trans L4).trans L5).trans L9).trans L11)) [S c.kind,Za c.col,Za c.oth,S c.v.k,S c.v.n,Za c.v.s,lv1] XI U U U U U <| Zb S12 (C3.mono (((L4.trans L5).trans L9).trans L11)) [S p.a,S p.b] Z2 U U U U U <| Z9 S12 ZwV U U U (Zsg S12.imm _ t tx c p l _ (Zo t B1 (A1.mono ((((((L1.trans L2).trans L3).trans L4).trans L5).trans L9).trans L11)) B2 (A2.mono ((((((L1.trans L2).trans L3).trans L4).trans L5).trans L9).trans L11)) (A3.mono ((((((L1.trans L2).trans L3).trans L4).trans L5).trans L9).trans L11)) B3) _ ((YQ _).mono ((((((L1.trans L2).trans L3).trans L4).trans L5).trans L9).trans L11) hcc) _ (Z1 p B10 Xa) _ (hvl.mono ((((((L1.trans L2).trans L3).trans L4).trans L5).trans L9).trans L11)) htx64) ?_
   rintro w14 G12 _ ⟨r3,_,rfl,A4,rfl⟩ S13 L12
   obtain ⟨D1,rfl,R1⟩:=A4
   have T4:=Zy R1
   obtain ⟨v4,v5,v6,rfl,Xz,A5,XG,A6,A7,XY⟩:=T4
   refine WL.alloc S13 Zm U U (fun b2 w15 N2 S14=>?_)
   refine Zi S14 0 [Za ((ZV d t tx c p l).s.name),v4,S ((ZV d t tx c p l).s.key),v5,v6,S ((ZV d t tx c p l).last)] U U Zm U U (by simp only [ZA,A5.oneC,A6.oneC,A7.oneC] <;> rfl) U U U (fun w16 S15=>?_)
   have T5:=S15.shutB N2
   obtain ⟨G13,L13,C4,S16⟩:=T5
   have hkd:=Zyo t l d tx [] c [] p
   refine Zb S16 (C1.mono (((((((L2.trans L3).trans L4).trans L5).trans L9).trans L11).trans L12).trans L13)) [Za t.s.name,v1,S t.s.key,v2,v3,S t.last] Zm U U U U U ?_
   refine Zr S16 XF U U U (Zbv S16.imm t _ (Zo t B1 (A1.mono ((((((((L1.trans L2).trans L3).trans L4).trans L5).trans L9).trans L11).trans L12).trans L13)) B2 (A2.mono ((((((((L1.trans L2).trans L3).trans L4).trans L5).trans L9).trans L11).trans L12).trans L13)) (A3.mono ((((((((L1.trans L2).trans L3).trans L4).trans L5).trans L9).trans L11).trans L12).trans L13)) B3)) (fun w17 G14 S17 L14=>?_)
   refine WL.split (fun (h6 : (Zu t) = true)=>?_) (fun (h6 : (Zu t) = false)=>?_)
   ·refine Zr S17 Zs4 U U U (Zh0 S17.imm l (fun x8=>!Zu x8) _ (hvl.mono (((((((((L1.trans L2).trans L3).trans L4).trans L5).trans L9).trans L11).trans L12).trans L13).trans L14)) 54 #[] ⟨ZwW,fun G8 w8 v8 x8 L8 hG8 hon8 hA8=>by obtain ⟨cs_x8,rfl,hr_x8⟩:=hA8; exact Zys hG8 x8 cs_x8 hr_x8⟩) (fun w18 G15 S18 L15=>?_)
    refine WL.split (fun (h7 : (l.any (fun x8=>!Zu x8)) = true)=>?_) (fun (h7 : (l.any (fun x8=>!Zu x8)) = false)=>?_)
    ·refine ZC (XO d t tx c p l) 1 U U U (fun h8=>?_) (fun h8=>?_)
     ·refine Zb S18 (C4.mono (L14.trans L15)) [Za ((ZV d t tx c p l).s.name),v4,S ((ZV d t tx c p l).s.key),v5,v6,S ((ZV d t tx c p l).last)] Zm U U U U U ?_
      have j4:=((L13.trans L14).trans L15)
      refine Zr S18 Q8 U U U (Zb9 S18.imm (ZV d t tx c p l) _ (Zo (ZV d t tx c p l) Xz (A5.mono j4) XG (A6.mono j4) (A7.mono j4) XY)) (fun w19 G16 S19 L16=>?_)
      exact RB S19 U (by with_reducible exact (Zvi hkd ‹_›).2)
     exact RB S18 U (by with_reducible exact absurd (Zvi hkd ‹_›).1 ‹_›)
    refine Zb S18 (C1.mono (((((((((L2.trans L3).trans L4).trans L5).trans L9).trans L11).trans L12).trans L13).trans L14).trans L15)) [Za t.s.name,v1,S t.s.key,v2,v3,S t.last] Zm U U U U U ?_
    refine Z9 S18 QK U U U (Zne S18.imm t _ (Zo t B1 (A1.mono ((((((((((L1.trans L2).trans L3).trans L4).trans L5).trans L9).trans L11).trans L12).trans L13).trans L14).trans L15)) B2 (A2.mono ((((((((((L1.trans L2).trans L3).trans L4).trans L5).trans L9).trans L11).trans L12).trans L13).trans L14).trans L15)) (A3.mono ((((((((((L1.trans L2).trans L3).trans L4).trans L5).trans L9).trans L11).trans L12).trans L13).trans L14).trans L15)) B3) ‹_›) ?_
    rintro w20 G17 _ ⟨r6,_,rfl,A8,rfl⟩ S20 L17
    obtain ⟨D2,rfl,R2⟩:=A8
    have T6:=Z7 R2
    obtain ⟨v7,rfl,A9,ZaI,ZaJ,Zcv,ZbZ⟩:=T6
    refine WL.alloc S20 Zz U U (fun b3 w21 N3 S21=>?_)
    refine Zi S21 0 [v7,S ((ZZ (XU t)).r.d.a),S ((ZZ (XU t)).r.d.b),S ((ZZ (XU t)).r.x.a),S ((ZZ (XU t)).r.x.b)] U U Zz U U (by simp only [ZA,A9.oneC] <;> rfl) U U U (fun w22 S22=>?_)
    have T7:=S22.shutB N3
    obtain ⟨G18,L18,C5,S23⟩:=T7
    refine Qn (d:=82) U (fun (h9 : ((XU t).isSome) = true)=>?_) (fun (h9 : ((XU t).isSome) = false)=>?_)
    ·refine ZC (XO d t tx c p l) 1 U U U (fun h10=>?_) (fun h10=>?_)
     ·refine Zb S23 (C4.mono (((L14.trans L15).trans L17).trans L18)) [Za ((ZV d t tx c p l).s.name),v4,S ((ZV d t tx c p l).s.key),v5,v6,S ((ZV d t tx c p l).last)] Zm U U U U U ?_
      have j5:=((((L13.trans L14).trans L15).trans L17).trans L18)
      refine Zr S23 Q8 U U U (Zb9 S23.imm (ZV d t tx c p l) _ (Zo (ZV d t tx c p l) Xz (A5.mono j5) XG (A6.mono j5) (A7.mono j5) XY)) (fun w23 G19 S24 L19=>?_)
      exact RB S24 U (by with_reducible exact (Zvj hkd ‹_› ‹_›).2)
     exact RB S23 U (by with_reducible exact absurd (Zvj hkd ‹_› ‹_›).1 ‹_›)
    refine Zb S23 (C1.mono (((((((((((L2.trans L3).trans L4).trans L5).trans L9).trans L11).trans L12).trans L13).trans L14).trans L15).trans L17).trans L18)) [Za t.s.name,v1,S t.s.key,v2,v3,S t.last] Zm U U U U U <| Zb S23 (C2.mono ((((((((((L3.trans L4).trans L5).trans L9).trans L11).trans L12).trans L13).trans L14).trans L15).trans L17).trans L18)) [S c.kind,Za c.col,Za c.oth,S c.v.k,S c.v.n,Za c.v.s,lv1] XI U U U U U <| Zb S23 (C3.mono (((((((((L4.trans L5).trans L9).trans L11).trans L12).trans L13).trans L14).trans L15).trans L17).trans L18)) [S p.a,S p.b] Z2 U U U U U <| WL.build _ [(0,[S 3]),(1,[S tx]),(3,[S c.kind,Za c.col,Za c.oth,S c.v.k,S c.v.n,Za c.v.s,lv1]),(5,[S p.a,S p.b])] [S 3,S tx,Ze,S c.kind,Za c.col,Za c.oth,S c.v.k,S c.v.n,Za c.v.s,lv1,Ze,S p.a,S p.b] ZzN U ZzQ U U U U <| Z9 S23 ZwT U U U (ZrW S23.imm _ t tx [] c [] p _ (Zo t B1 (A1.mono ((((((((((((L1.trans L2).trans L3).trans L4).trans L5).trans L9).trans L11).trans L12).trans L13).trans L14).trans L15).trans L17).trans L18)) B2 (A2.mono ((((((((((((L1.trans L2).trans L3).trans L4).trans L5).trans L9).trans L11).trans L12).trans L13).trans L14).trans L15).trans L17).trans L18)) (A3.mono ((((((((((((L1.trans L2).trans L3).trans L4).trans L5).trans L9).trans L11).trans L12).trans L13).trans L14).trans L15).trans L17).trans L18)) B3) _ (Sl.nil ValE 32 G18) _ ((YQ _).mono ((((((((((((L1.trans L2).trans L3).trans L4).trans L5).trans L9).trans L11).trans L12).trans L13).trans L14).trans L15).trans L17).trans L18) hcc) _ (Sl.nil Enc.bool 1 G18) _ (Z1 p B10 Xa) htx64) ?_
    rintro w24 G20 _ ⟨r9,_,rfl,A10,rfl⟩ S25 L20
    obtain ⟨D3,rfl,R3⟩:=A10
    have T8:=Zy R3
    obtain ⟨v9,v10,v11,rfl,Zaq,A11,Zcw,A12,A13,ZbG⟩:=T8
    refine WL.alloc S25 Zm U U (fun b4 w25 N4 S26=>?_)
    refine Zi S26 0 [Za ((Yq d t 3 tx [] c [] p).s.name),v9,S ((Yq d t 3 tx [] c [] p).s.key),v10,v11,S ((Yq d t 3 tx [] c [] p).last)] U U Zm U U (by simp only [ZA,A11.oneC,A12.oneC,A13.oneC] <;> rfl) U U U (fun w26 S27=>?_)
    have T9:=S27.shutB N4
    obtain ⟨G21,L21,C6,S28⟩:=T9
    refine Zb S28 C6 [Za ((Yq d t 3 tx [] c [] p).s.name),v9,S ((Yq d t 3 tx [] c [] p).s.key),v10,v11,S ((Yq d t 3 tx [] c [] p).last)] Zm U U U U U ?_
    refine WL.buildSlice _ [(0,[Za ((Yq d t 3 tx [] c [] p).s.name),v9,S ((Yq d t 3 tx [] c [] p).s.key),v10,v11,S ((Yq d t 3 tx [] c [] p).last)])] [Za ((Yq d t 3 tx [] c [] p).s.name),v9,S ((Yq d t 3 tx [] c [] p).s.key),v10,v11,S ((Yq d t 3 tx [] c [] p).last)] S28 Zfk U U U U (fun z hz=>by match z,hz with | [z0,z1,z2,z3,z4,z5],_=>rfl) (fun b5 w27 N5 S29=>?_)
    refine Yr (Xt d t 3 tx [] c [] p) 0 U U U (fun h11=>?_) (fun h11=>?_)
    ·refine Zb S29 (C1.mono (((((((((((((L2.trans L3).trans L4).trans L5).trans L9).trans L11).trans L12).trans L13).trans L14).trans L15).trans L17).trans L18).trans L20).trans L21)) [Za t.s.name,v1,S t.s.key,v2,v3,S t.last] Zm U U U U U <| ZfN b5 1 1 0 (leT U) Qw Zm U U U ?_
     refine Zi S29 0 [Za t.s.name,v1,S t.s.key,v2,v3,S t.last] U U Zm U U (by simp only [ZA,(A1.mono ((((((((((((((L1.trans L2).trans L3).trans L4).trans L5).trans L9).trans L11).trans L12).trans L13).trans L14).trans L15).trans L17).trans L18).trans L20).trans L21)).oneC,(A2.mono ((((((((((((((L1.trans L2).trans L3).trans L4).trans L5).trans L9).trans L11).trans L12).trans L13).trans L14).trans L15).trans L17).trans L18).trans L20).trans L21)).oneC,(A3.mono ((((((((((((((L1.trans L2).trans L3).trans L4).trans L5).trans L9).trans L11).trans L12).trans L13).trans L14).trans L15).trans L17).trans L18).trans L20).trans L21)).oneC] <;> rfl) U U U (fun w28 S30=>?_)
     have V3:=hvl.bound
     refine Zl (hvl.mono ((((((((((((((L1.trans L2).trans L3).trans L4).trans L5).trans L9).trans L11).trans L12).trans L13).trans L14).trans L15).trans L17).trans L18).trans L20).trans L21)) Qw U U ?_
     have R4 : ZS TableE 104 28 G21 (.slice (some ⟨b5,0,none⟩) 1 1) [t] (some (b5,28,[Za t.s.name,v1,S t.s.key,v2,v3,S t.last])):=ZS.ofNew ⟨[Za t.s.name,v1,S t.s.key,v2,v3,S t.last],_,U,(Zo t B1 (A1.mono ((((((((((((((L1.trans L2).trans L3).trans L4).trans L5).trans L9).trans L11).trans L12).trans L13).trans L14).trans L15).trans L17).trans L18).trans L20).trans L21)) B2 (A2.mono ((((((((((((((L1.trans L2).trans L3).trans L4).trans L5).trans L9).trans L11).trans L12).trans L13).trans L14).trans L15).trans L17).trans L18).trans L20).trans L21)) (A3.mono ((((((((((((((L1.trans L2).trans L3).trans L4).trans L5).trans L9).trans L11).trans L12).trans L13).trans L14).trans L15).trans L17).trans L18).trans L20).trans L21)) B3),U⟩ U (by simp [reach]) (by simp [reach])
     refine LP.go ft [] (fun m ρ1 w1=>∃ (k1 : Nat),∃ (v12 : Value) (o1 : OB),∃ (G22 : GH),m = l.length - k1 ∧ G21.le G22 ∧ St w [] G G22 [o1,some (b1,3,[S ((YL d c 0 0).2)])] w1 ∧ ZS TableE 104 28 G22 v12 (YM t (Yq d t 3 tx [] c [] p) (Xt d t 3 tx [] c [] p) (l.take k1)) o1 ∧ FR ρ1 [(1,S tx),(5,Zs p1),(12, .pointer (some (⟨b2,0,none⟩ : Addr))),(13,S (XO d t tx c p l)),(16, .pointer (some (⟨b4,0,none⟩ : Addr))),(17,S (Xt d t 3 tx [] c [] p)),(18,v12),(106,vl),(107,S (l.length : Int)),(108,S (k1 : Int))] ∧ k1 ≤ l.length) _ ⟨0,(.slice (some ⟨b5,0,none⟩) 1 1),(some (b5,28,[Za t.s.name,v1,S t.s.key,v2,v3,S t.last])),G21,U,(G21.le_refl),S30,(ZS.cast R4 (by (with_reducible exact ZzA ‹_›))),(Zq U),(by omega)⟩ ?_
     rintro m ρ1 w29 ⟨k1,v12,o1,G22,rfl,L22,S31,R5,F9,f1⟩
     refine F9.set ?_
     clear F9
     have hll9:=Zhi (t:=t) (w:=(Yq d t 3 tx [] c [] p)) (e:=(Xt d t 3 tx [] c [] p)) (l:=l) k1
     refine Zp (k1 : Int) (l.length : Int) U U U (fun h12=>?_) (fun h12=>?_)
     ·refine WL.indexAddr (hvl.mono (((((((((((((((L1.trans L2).trans L3).trans L4).trans L5).trans L9).trans L11).trans L12).trans L13).trans L14).trans L15).trans L17).trans L18).trans L20).trans L21).trans L22)) k1 (by omega) Qw Zm U U U U (fun p4 x1 U1 E1=>?_)
      obtain ⟨D4,C7,R6⟩:=E1
      have T10:=Zy R6
      obtain ⟨v13,v14,v15,rfl,Zgd,A14,Zfl,A15,A16,Zge⟩:=T10
      refine Zb S31 C7 [Za x1.s.name,v13,S x1.s.key,v14,v15,S x1.last] Zm U U U U U ?_
      refine WL.alloc S31 Zm U U (fun b6 w30 N6 S32=>?_)
      refine Zi S32 0 [Za x1.s.name,v13,S x1.s.key,v14,v15,S x1.last] U U Zm U U (by simp only [ZA,A14.oneC,A15.oneC,A16.oneC] <;> rfl) U U U (fun w31 S33=>?_)
      have T11:=S33.shutB N6
      obtain ⟨G23,L23,C8,S34⟩:=T11
      refine Z S34 (XC.drop 0 (XC.drop 0 C8)) ZF U U U <| Z S34 (XC.drop 0 (XC.drop 0 (C1.mono (((((((((((((((L2.trans L3).trans L4).trans L5).trans L9).trans L11).trans L12).trans L13).trans L14).trans L15).trans L17).trans L18).trans L20).trans L21).trans L22).trans L23)))) ZF U U U <| ZJ .neq U x1.s.name t.s.name U U U ?_
      refine WL.split (fun h0=>?_) (fun h0=>?_)
      ·have h13 : x1.s.name ≠ t.s.name:=by simpa [SCmp.b] using h0
       clear h0
       refine Zb S34 C8 [Za x1.s.name,v13,S x1.s.key,v14,v15,S x1.last] Zm U U U U U ?_
       refine WL.buildSlice _ [(0,[Za x1.s.name,v13,S x1.s.key,v14,v15,S x1.last])] [Za x1.s.name,v13,S x1.s.key,v14,v15,S x1.last] S34 Zfk U U U U (fun z hz=>by match z,hz with | [z0,z1,z2,z3,z4,z5],_=>rfl) (fun b7 w32 N7 S35=>?_)
       refine WL.push (m:=([x1] : List Table)) Zfk U U U (R5.mono L23) S35 1 U 0 _ _ _ _ _ U ⟨[Za x1.s.name,v13,S x1.s.key,v14,v15,S x1.last],_,U,(Zo x1 Zgd (A14.mono L23) Zfl (A15.mono L23) (A16.mono L23) Zge),U⟩ U (by have:=Zc; simp only [Zx]; omega) (by have:=Zc; simp only [Zx]; omega) U U U (fun v16 o2 w33 R7 S36=>?_)
       have S37:=S36.tail
       refine Zj k1 (by have:=Zc; omega) U U U ?_
       exact BK.mk' _ ⟨k1 + 1,v16,o2,G23,U,(L22.trans L23),S37,(ZS.cast R7 (by (with_reducible exact (Zvl ‹_› ‹_›).symm))),(Zq U),(by omega)⟩ (show l.length - (k1 + 1) < l.length - k1 by omega)
      have h13 : x1.s.name = t.s.name:=by simpa [SCmp.b] using h0
      clear h0
      refine Zj k1 (by have:=Zc; omega) U U U ?_
      exact BK.mk' _ ⟨k1 + 1,v12,o1,G23,U,(L22.trans L23),S34,(ZS.cast (R5.mono L23) (by (with_reducible exact (Zvm ‹_› ‹_›).symm))),(Zq U),(by omega)⟩ (show l.length - (k1 + 1) < l.length - k1 by omega)
     have hlaw:=ZS.cast (l':=YM t (Yq d t 3 tx [] c [] p) (Xt d t 3 tx [] c [] p) l) R5 (by rw [List.take_of_length_le (by omega)])
     have hll:=Zhi (t:=t) (w:=(Yq d t 3 tx [] c [] p)) (e:=(Xt d t 3 tx [] c [] p)) (l:=l) l.length
     rw [List.take_length] at hll
     have hsc:=Zoq hkd ‹_› ‹_›
     have V4:=hlaw.bound
     refine XH hlaw Qw U U ?_
     refine LP.go ft [] (fun m ρ1 w1=>∃ (k2 : Nat),∃ (gp : Bool),∃ (G24 : GH),m = (YM t (Yq d t 3 tx [] c [] p) (Xt d t 3 tx [] c [] p) l).length - k2 ∧ G22.le G24 ∧ St w [] G G24 [o1,some (b1,3,[S ((YL d c 0 0).2)])] w1 ∧ FR ρ1 [(1,S tx),(5,Zs p1),(12, .pointer (some (⟨b2,0,none⟩ : Addr))),(13,S (XO d t tx c p l)),(16, .pointer (some (⟨b4,0,none⟩ : Addr))),(17,S (Xt d t 3 tx [] c [] p)),(21, .bool gp),(124,v12),(125,S (((YM t (Yq d t 3 tx [] c [] p) (Xt d t 3 tx [] c [] p) l).length : Nat) : Int)),(126,S (k2 : Int))] ∧ k2 ≤ (YM t (Yq d t 3 tx [] c [] p) (Xt d t 3 tx [] c [] p) l).length ∧ (∀ j,j < k2 → ∀ x,(YM t (Yq d t 3 tx [] c [] p) (Xt d t 3 tx [] c [] p) l)[j]? = some x → lkA t x = true) ∧ gp = (((YM t (Yq d t 3 tx [] c [] p) (Xt d t 3 tx [] c [] p) l).take k2).any (gpO t (Yq d t 3 tx [] c [] p) (Xt d t 3 tx [] c [] p) tx))) _ ⟨0,false,G22,U,(G22.le_refl),S31,(Zq U),(by omega),(by intro j hj; omega),(by rfl)⟩ ?_
     rintro m ρ1 w34 ⟨k2,gp,G24,rfl,L24,S38,F9,f2,f3,f4⟩
     refine F9.set ?_
     clear F9
     refine Zp (k2 : Int) (((YM t (Yq d t 3 tx [] c [] p) (Xt d t 3 tx [] c [] p) l).length : Nat) : Int) U U U (fun h14=>?_) (fun h14=>?_)
     ·refine YW (hlaw.mono L24) k2 (by omega) Qw Zm U U U U (fun p5 x2 ec1 U2 R8 ra1=>?_)
      have T12:=Zy R8
      obtain ⟨v17,v18,v19,rfl,Zh9,A17,ZhA,A18,A19,Zjk⟩:=T12
      refine Zah ra1 S38 0 U Zm U U U U ?_
      refine WL.alloc S38 Zm U U (fun b8 w35 N8 S39=>?_)
      refine Zi S39 0 [Za x2.s.name,v17,S x2.s.key,v18,v19,S x2.last] U U Zm U U (by simp only [ZA,A17.oneC,A18.oneC,A19.oneC] <;> rfl) U U U (fun w36 S40=>?_)
      have T13:=S40.shutB N8
      obtain ⟨G25,L25,C9,S41⟩:=T13
      refine Z S41 (XC.drop 3 (XC.drop 0 C9)) ZcK U U U ?_
      have V5:=A18.bound
      refine Zl (A18.mono L25) ZaZ U U ?_
      refine LP.go ft [] (fun m ρ1 w1=>∃ (k3 : Nat),∃ (gq : Bool),∃ (G26 : GH),m = x2.s.fks.length - k3 ∧ G25.le G26 ∧ St w [] G G26 [o1,some (b1,3,[S ((YL d c 0 0).2)])] w1 ∧ FR ρ1 [(1,S tx),(5,Zs p1),(12, .pointer (some (⟨b2,0,none⟩ : Addr))),(13,S (XO d t tx c p l)),(16, .pointer (some (⟨b4,0,none⟩ : Addr))),(17,S (Xt d t 3 tx [] c [] p)),(21, .bool gq),(23, .pointer (some (⟨b8,0,none⟩ : Addr))),(124,v12),(125,S (((YM t (Yq d t 3 tx [] c [] p) (Xt d t 3 tx [] c [] p) l).length : Nat) : Int)),(126,S (k2 : Int)),(132,v18),(133,S (x2.s.fks.length : Int)),(134,S (k3 : Int))] ∧ k3 ≤ x2.s.fks.length ∧ (∀ j,j < k3 → ∀ f,x2.s.fks[j]? = some f → lkB t x2 f = true) ∧ gq = ((((YM t (Yq d t 3 tx [] c [] p) (Xt d t 3 tx [] c [] p) l).take k2).any (gpO t (Yq d t 3 tx [] c [] p) (Xt d t 3 tx [] c [] p) tx)) || (x2.s.fks.take k3).any (gpF t (Yq d t 3 tx [] c [] p) (Xt d t 3 tx [] c [] p) tx x2))) _ ⟨0,gp,G25,U,(G25.le_refl),S41,(Zq U),(by omega),(by intro j hj; omega),(by rw [(by assumption : gp = (((YM t (Yq d t 3 tx [] c [] p) (Xt d t 3 tx [] c [] p) l).take k2).any (gpO t (Yq d t 3 tx [] c [] p) (Xt d t 3 tx [] c [] p) tx)))]; simp)⟩ ?_
      rintro m ρ1 w37 ⟨k3,gq,G26,rfl,L26,S42,F9,f5,f6,f7⟩
      refine F9.set ?_
      clear F9
      refine Zp (k3 : Int) (x2.s.fks.length : Int) U U U (fun h15=>?_) (fun h15=>?_)
      ·have j6:=(L25.trans L26)
       refine WL.indexAddr (A18.mono j6) k3 (by omega) ZaZ Qj U U U U (fun p6 x3 U3 E2=>?_)
       obtain ⟨D5,C10,R9⟩:=E2
       have T14:=Xg R9
       obtain ⟨v20,rfl,A20,Zjl⟩:=T14
       refine Zb S42 C10 [v20,Za x3.table] Qj U U U U U ?_
       refine WL.alloc S42 Qj U U (fun b9 w38 N9 S43=>?_)
       refine Zi S43 0 [v20,Za x3.table] U U Qj U U (by simp only [ZA,A20.oneC] <;> rfl) U U U (fun w39 S44=>?_)
       have T15:=S44.shutB N9
       obtain ⟨G27,L27,C11,S45⟩:=T15
       refine Z S45 (XC.drop 1 C11) ZF U U U <| Z S45 (XC.drop 0 (XC.drop 0 (C1.mono ((((((((((((((((((L2.trans L3).trans L4).trans L5).trans L9).trans L11).trans L12).trans L13).trans L14).trans L15).trans L17).trans L18).trans L20).trans L21).trans L22).trans L24).trans L25).trans L26).trans L27)))) ZF U U U <| ZJ .neq U x3.table t.s.name U U U ?_
       refine WL.split (fun h0=>?_) (fun h0=>?_)
       ·have h16 : x3.table ≠ t.s.name:=by simpa [SCmp.b] using h0
        clear h0
        refine Zj k3 (by have:=Zc; omega) U U U ?_
        exact BK.mk' _ ⟨k3 + 1,gq,G27,U,(L26.trans L27),S45,(Zq U),(by omega),(by with_reducible exact ZW ‹_› ‹_› (by exact ZpI ‹_›)),(by with_reducible exact ZpM ‹_› ‹_› (by first | exact .inl ‹_› | exact .inr ‹_›))⟩ (show x2.s.fks.length - (k3 + 1) < x2.s.fks.length - k3 by omega)
       have h16 : x3.table = t.s.name:=by simpa [SCmp.b] using h0
       clear h0
       refine Zb S45 (XC.drop 0 (C9.mono (L26.trans L27))) [Za x2.s.name,v17,S x2.s.key,v18] Qo U U U U U <| Zb S45 (XC.drop 0 (C1.mono ((((((((((((((((((L2.trans L3).trans L4).trans L5).trans L9).trans L11).trans L12).trans L13).trans L14).trans L15).trans L17).trans L18).trans L20).trans L21).trans L22).trans L24).trans L25).trans L26).trans L27))) [Za t.s.name,v1,S t.s.key,v2] Qo U U U U U <| Zb S45 C11 [v20,Za x3.table] Qj U U U U U ?_
       have j7:=(j6.trans L27)
       refine Zr S45 ZhB U U U (Zok S45.imm x2.s t.s x3 _ (Yo x2.s Zh9 (A17.mono j7) ZhA (A18.mono j7)) _ (Yo t.s B1 (A1.mono (((((((((((((((((((L1.trans L2).trans L3).trans L4).trans L5).trans L9).trans L11).trans L12).trans L13).trans L14).trans L15).trans L17).trans L18).trans L20).trans L21).trans L22).trans L24).trans L25).trans L26).trans L27)) B2 (A2.mono (((((((((((((((((((L1.trans L2).trans L3).trans L4).trans L5).trans L9).trans L11).trans L12).trans L13).trans L14).trans L15).trans L17).trans L18).trans L20).trans L21).trans L22).trans L24).trans L25).trans L26).trans L27))) _ (QQ x3 (A20.mono L27) Zjl) (hsc _ (List.mem_of_getElem? ‹_›)) (Xb (by assumption : Zu t = true)).1) (fun w40 G28 S46 L28=>?_)
       refine WL.split (fun (h17 : (XN x2.s t.s x3) = true)=>?_) (fun (h17 : (XN x2.s t.s x3) = false)=>?_)
       ·refine ZC (Xt d t 3 tx [] c [] p) 0 U U U (fun h18=>?_) (fun h18=>?_)
        ·refine Zb S46 (C9.mono ((L26.trans L27).trans L28)) [Za x2.s.name,v17,S x2.s.key,v18,v19,S x2.last] Zm U U U U U <| Zb S46 (C6.mono (((((L22.trans L24).trans L25).trans L26).trans L27).trans L28)) [Za ((Yq d t 3 tx [] c [] p).s.name),v9,S ((Yq d t 3 tx [] c [] p).s.key),v10,v11,S ((Yq d t 3 tx [] c [] p).last)] Zm U U U U U <| Zb S46 (C11.mono L28) [v20,Za x3.table] Qj U U U U U ?_
         have j8:=(j7.trans L28)
         have j9:=((((((L21.trans L22).trans L24).trans L25).trans L26).trans L27).trans L28)
         have j10:=(L27.trans L28)
         refine Z9 S46 ZhC U U U (ZrT S46.imm x2 (Yq d t 3 tx [] c [] p) x3 tx _ (Zo x2 Zh9 (A17.mono j8) ZhA (A18.mono j8) (A19.mono j8) Zjk) _ (Zo (Yq d t 3 tx [] c [] p) Zaq (A11.mono j9) Zcw (A12.mono j9) (A13.mono j9) ZbG) _ (QQ x3 (A20.mono j10) Zjl) (hkd.2.2 ‹_›).tx.1 (hkd.2.2 ‹_›).tx.2 (Zjg hkd ‹_› ‹_› ‹_› ‹_› ‹_›).2 (hkd.2.2 ‹_›).valid (Zjg hkd ‹_› ‹_› ‹_› ‹_› ‹_›).1) ?_
         rintro w41 G29 _ ⟨r12,_,rfl,A21,rfl⟩ S47 L29
         obtain ⟨D6,rfl,R10⟩:=A21
         have T16:=Z7 R10
         obtain ⟨v21,rfl,A22,ZwR,Zs3,ZwS,ZlU⟩:=T16
         refine WL.alloc S47 Zz U U (fun b10 w42 N10 S48=>?_)
         refine Zi S48 0 [v21,S ((ZZ (Qq x2 (Yq d t 3 tx [] c [] p) x3 tx)).r.d.a),S ((ZZ (Qq x2 (Yq d t 3 tx [] c [] p) x3 tx)).r.d.b),S ((ZZ (Qq x2 (Yq d t 3 tx [] c [] p) x3 tx)).r.x.a),S ((ZZ (Qq x2 (Yq d t 3 tx [] c [] p) x3 tx)).r.x.b)] U U Zz U U (by simp only [ZA,A22.oneC] <;> rfl) U U U (fun w43 S49=>?_)
         have T17:=S49.shutB N10
         obtain ⟨G30,L30,C12,S50⟩:=T17
         refine Qn (d:=21) U (fun (h19 : gq = true)=>?_) (fun (h19 : gq = false)=>?_)
         ·refine Zj k3 (by have:=Zc; omega) U U U ?_
          exact BK.mk' _ ⟨k3 + 1,true,G30,U,(L26.trans ((j10.trans L29).trans L30)),S50,(Zq U),(by omega),(by with_reducible exact ZW ‹_› ‹_› (by exact ZfK ‹_›)),(by with_reducible exact Zyp ‹_› ‹_›)⟩ (show x2.s.fks.length - (k3 + 1) < x2.s.fks.length - k3 by omega)
         refine Zj k3 (by have:=Zc; omega) U U U ?_
         exact BK.mk' _ ⟨k3 + 1,((Qq x2 (Yq d t 3 tx [] c [] p) x3 tx).isSome),G30,U,(L26.trans ((j10.trans L29).trans L30)),S50,(Zq U),(by omega),(by with_reducible exact ZW ‹_› ‹_› (by exact ZfK ‹_›)),(by with_reducible exact Zyq ‹_› ‹_› ‹_› ‹_› ‹_›)⟩ (show x2.s.fks.length - (k3 + 1) < x2.s.fks.length - k3 by omega)
        refine Zj k3 (by have:=Zc; omega) U U U ?_
        exact BK.mk' _ ⟨k3 + 1,gq,G28,U,(L26.trans (L27.trans L28)),S46,(Zq U),(by omega),(by with_reducible exact ZW ‹_› ‹_› (by exact ZfK ‹_›)),(by with_reducible exact ZpM ‹_› ‹_› (by first | exact .inl ‹_› | exact .inr ‹_›))⟩ (show x2.s.fks.length - (k3 + 1) < x2.s.fks.length - k3 by omega)
       refine ZC (XO d t tx c p l) 1 U U U (fun h20=>?_) (fun h20=>?_)
       ·refine Zb S46 (C4.mono (((((((((((L14.trans L15).trans L17).trans L18).trans L20).trans L21).trans L22).trans L24).trans L25).trans L26).trans L27).trans L28)) [Za ((ZV d t tx c p l).s.name),v4,S ((ZV d t tx c p l).s.key),v5,v6,S ((ZV d t tx c p l).last)] Zm U U U U U ?_
        have j11:=((((((((((((L13.trans L14).trans L15).trans L17).trans L18).trans L20).trans L21).trans L22).trans L24).trans L25).trans L26).trans L27).trans L28)
        refine Zr S46 Q8 U U U (Zb9 S46.imm (ZV d t tx c p l) _ (Zo (ZV d t tx c p l) Xz (A5.mono j11) XG (A6.mono j11) (A7.mono j11) XY)) (fun w44 G31 S51 L31=>?_)
        exact RB S51 U (by with_reducible exact (Zlm hkd ‹_› ‹_› ‹_› ‹_›).2)
       exact RB S46 U (by with_reducible exact absurd (Zlm hkd ‹_› ‹_› ‹_› ‹_›).1 ‹_›)
      refine Zj k2 (by have:=Zc; omega) U U U ?_
      exact BK.mk' _ ⟨k2 + 1,gq,G26,U,(L24.trans (L25.trans L26)),S42,(Zq U),(by omega),(by with_reducible exact ZW ‹_› ‹_› (Zno ‹_› (by omega))),(by with_reducible exact Zvn ‹_› ‹_› (by omega))⟩ (show (YM t (Yq d t 3 tx [] c [] p) (Xt d t 3 tx [] c [] p) l).length - (k2 + 1) < (YM t (Yq d t 3 tx [] c [] p) (Xt d t 3 tx [] c [] p) l).length - k2 by omega)
     have hok:=Zsd hkd ‹_› ‹_› ‹_› (by omega) ‹_› (by omega)
     refine Yr (Xt d t 3 tx [] c [] p) 0 U U U (fun h21=>?_) (fun h21=>?_)
     ·refine ZC (XO d t tx c p l) (Xt d t 3 tx [] c [] p) U U U (fun h22=>?_) (fun h22=>?_)
      ·refine Zb S38 (C4.mono (((((((L14.trans L15).trans L17).trans L18).trans L20).trans L21).trans L22).trans L24)) [Za ((ZV d t tx c p l).s.name),v4,S ((ZV d t tx c p l).s.key),v5,v6,S ((ZV d t tx c p l).last)] Zm U U U U U ?_
       have j12:=((((((((L13.trans L14).trans L15).trans L17).trans L18).trans L20).trans L21).trans L22).trans L24)
       refine Zr S38 Q8 U U U (Zb9 S38.imm (ZV d t tx c p l) _ (Zo (ZV d t tx c p l) Xz (A5.mono j12) XG (A6.mono j12) (A7.mono j12) XY)) (fun w45 G32 S52 L32=>?_)
       exact RB S52 U (by with_reducible exact (Zjf hkd hok ‹_›).2)
      exact RB S38 U (by with_reducible exact absurd (Zjf hkd hok ‹_›).1 ‹_›)
     refine Qn (d:=21) U (fun (h23 : gp = true)=>?_) (fun (h23 : gp = false)=>?_)
     ·refine ZC (XO d t tx c p l) 15 U U U (fun h24=>?_) (fun h24=>?_)
      ·refine Zb S38 (C4.mono (((((((L14.trans L15).trans L17).trans L18).trans L20).trans L21).trans L22).trans L24)) [Za ((ZV d t tx c p l).s.name),v4,S ((ZV d t tx c p l).s.key),v5,v6,S ((ZV d t tx c p l).last)] Zm U U U U U ?_
       have j13:=((((((((L13.trans L14).trans L15).trans L17).trans L18).trans L20).trans L21).trans L22).trans L24)
       refine Zr S38 Q8 U U U (Zb9 S38.imm (ZV d t tx c p l) _ (Zo (ZV d t tx c p l) Xz (A5.mono j13) XG (A6.mono j13) (A7.mono j13) XY)) (fun w46 G33 S53 L33=>?_)
       exact RB S53 U (by with_reducible exact (Zjf hkd hok ‹_›).2)
      exact RB S38 U (by with_reducible exact absurd (ZpL hkd hok ‹_› ‹_› ‹_› ‹_› (by omega) ‹_›).1 ‹_›)
     refine ZC (XO d t tx c p l) 0 U U U (fun h25=>?_) (fun h25=>?_)
     ·refine Zb S38 (C4.mono (((((((L14.trans L15).trans L17).trans L18).trans L20).trans L21).trans L22).trans L24)) [Za ((ZV d t tx c p l).s.name),v4,S ((ZV d t tx c p l).s.key),v5,v6,S ((ZV d t tx c p l).last)] Zm U U U U U <| Zb S38 (C6.mono (L22.trans L24)) [Za ((Yq d t 3 tx [] c [] p).s.name),v9,S ((Yq d t 3 tx [] c [] p).s.key),v10,v11,S ((Yq d t 3 tx [] c [] p).last)] Zm U U U U U ?_
      have j14:=((((((((L13.trans L14).trans L15).trans L17).trans L18).trans L20).trans L21).trans L22).trans L24)
      have j15:=((L21.trans L22).trans L24)
      refine Zr S38 Zs9 U U U (Zoc S38.imm (ZV d t tx c p l) (Yq d t 3 tx [] c [] p) _ (Zo (ZV d t tx c p l) Xz (A5.mono j14) XG (A6.mono j14) (A7.mono j14) XY) _ (Zo (Yq d t 3 tx [] c [] p) Zaq (A11.mono j15) Zcw (A12.mono j15) (A13.mono j15) ZbG)) (fun w47 G34 S54 L34=>?_)
      exact RB S54 U (by with_reducible exact (Zln hkd hok ‹_› ‹_› ‹_› ‹_› (by omega) ‹_›).2)
     exact RB S38 U (by with_reducible exact absurd (Zln hkd hok ‹_› ‹_› ‹_› ‹_› (by omega) ‹_›).1 ‹_›)
    have V6:=hvl.bound
    refine Zl (hvl.mono ((((((((((((((L1.trans L2).trans L3).trans L4).trans L5).trans L9).trans L11).trans L12).trans L13).trans L14).trans L15).trans L17).trans L18).trans L20).trans L21)) Qw U U ?_
    have R11 : ZS TableE 104 28 G21 (.slice (some ⟨b5,0,none⟩) 1 1) [(Yq d t 3 tx [] c [] p)] (some (b5,28,[Za ((Yq d t 3 tx [] c [] p).s.name),v9,S ((Yq d t 3 tx [] c [] p).s.key),v10,v11,S ((Yq d t 3 tx [] c [] p).last)])):=ZS.ofNew ⟨[Za ((Yq d t 3 tx [] c [] p).s.name),v9,S ((Yq d t 3 tx [] c [] p).s.key),v10,v11,S ((Yq d t 3 tx [] c [] p).last)],_,U,(Zo (Yq d t 3 tx [] c [] p) Zaq (A11.mono L21) Zcw (A12.mono L21) (A13.mono L21) ZbG),U⟩ U (by simp [reach]) (by simp [reach])
    refine LP.go ft [] (fun m ρ1 w1=>∃ (k1 : Nat),∃ (v22 : Value) (o3 : OB),∃ (G35 : GH),m = l.length - k1 ∧ G21.le G35 ∧ St w [] G G35 [o3,some (b1,3,[S ((YL d c 0 0).2)])] w1 ∧ ZS TableE 104 28 G35 v22 (YM t (Yq d t 3 tx [] c [] p) (Xt d t 3 tx [] c [] p) (l.take k1)) o3 ∧ FR ρ1 [(1,S tx),(5,Zs p1),(12, .pointer (some (⟨b2,0,none⟩ : Addr))),(13,S (XO d t tx c p l)),(16, .pointer (some (⟨b4,0,none⟩ : Addr))),(17,S (Xt d t 3 tx [] c [] p)),(18,v22),(106,vl),(107,S (l.length : Int)),(108,S (k1 : Int))] ∧ k1 ≤ l.length) _ ⟨0,(.slice (some ⟨b5,0,none⟩) 1 1),(some (b5,28,[Za ((Yq d t 3 tx [] c [] p).s.name),v9,S ((Yq d t 3 tx [] c [] p).s.key),v10,v11,S ((Yq d t 3 tx [] c [] p).last)])),G21,U,(G21.le_refl),S29,(ZS.cast R11 (by (with_reducible exact Zz9 ‹_›))),(Zq U),(by omega)⟩ ?_
    rintro m ρ1 w48 ⟨k1,v22,o3,G35,rfl,L35,S55,R12,F9,f8⟩
    refine F9.set ?_
    clear F9
    have hll9:=Zhi (t:=t) (w:=(Yq d t 3 tx [] c [] p)) (e:=(Xt d t 3 tx [] c [] p)) (l:=l) k1
    refine Zp (k1 : Int) (l.length : Int) U U U (fun h26=>?_) (fun h26=>?_)
    ·refine WL.indexAddr (hvl.mono (((((((((((((((L1.trans L2).trans L3).trans L4).trans L5).trans L9).trans L11).trans L12).trans L13).trans L14).trans L15).trans L17).trans L18).trans L20).trans L21).trans L35)) k1 (by omega) Qw Zm U U U U (fun p7 x4 U4 E3=>?_)
     obtain ⟨D7,C13,R13⟩:=E3
     have T18:=Zy R13
     obtain ⟨v23,v24,v25,rfl,ZoH,A23,Zs5,A24,A25,Zs6⟩:=T18
     refine Zb S55 C13 [Za x4.s.name,v23,S x4.s.key,v24,v25,S x4.last] Zm U U U U U ?_
     refine WL.alloc S55 Zm U U (fun b11 w49 N11 S56=>?_)
     refine Zi S56 0 [Za x4.s.name,v23,S x4.s.key,v24,v25,S x4.last] U U Zm U U (by simp only [ZA,A23.oneC,A24.oneC,A25.oneC] <;> rfl) U U U (fun w50 S57=>?_)
     have T19:=S57.shutB N11
     obtain ⟨G36,L36,C14,S58⟩:=T19
     refine Z S58 (XC.drop 0 (XC.drop 0 C14)) ZF U U U <| Z S58 (XC.drop 0 (XC.drop 0 (C1.mono (((((((((((((((L2.trans L3).trans L4).trans L5).trans L9).trans L11).trans L12).trans L13).trans L14).trans L15).trans L17).trans L18).trans L20).trans L21).trans L35).trans L36)))) ZF U U U <| ZJ .neq U x4.s.name t.s.name U U U ?_
     refine WL.split (fun h0=>?_) (fun h0=>?_)
     ·have h27 : x4.s.name ≠ t.s.name:=by simpa [SCmp.b] using h0
      clear h0
      refine Zb S58 C14 [Za x4.s.name,v23,S x4.s.key,v24,v25,S x4.last] Zm U U U U U ?_
      refine WL.buildSlice _ [(0,[Za x4.s.name,v23,S x4.s.key,v24,v25,S x4.last])] [Za x4.s.name,v23,S x4.s.key,v24,v25,S x4.last] S58 Zfk U U U U (fun z hz=>by match z,hz with | [z0,z1,z2,z3,z4,z5],_=>rfl) (fun b12 w51 N12 S59=>?_)
      refine WL.push (m:=([x4] : List Table)) Zfk U U U (R12.mono L36) S59 1 U 0 _ _ _ _ _ U ⟨[Za x4.s.name,v23,S x4.s.key,v24,v25,S x4.last],_,U,(Zo x4 ZoH (A23.mono L36) Zs5 (A24.mono L36) (A25.mono L36) Zs6),U⟩ U (by have:=Zc; simp only [Zx]; omega) (by have:=Zc; simp only [Zx]; omega) U U U (fun v26 o4 w52 R14 S60=>?_)
      have S61:=S60.tail
      refine Zj k1 (by have:=Zc; omega) U U U ?_
      exact BK.mk' _ ⟨k1 + 1,v26,o4,G36,U,(L35.trans L36),S61,(ZS.cast R14 (by (with_reducible exact (Zvl ‹_› ‹_›).symm))),(Zq U),(by omega)⟩ (show l.length - (k1 + 1) < l.length - k1 by omega)
     have h27 : x4.s.name = t.s.name:=by simpa [SCmp.b] using h0
     clear h0
     refine Zj k1 (by have:=Zc; omega) U U U ?_
     exact BK.mk' _ ⟨k1 + 1,v22,o3,G36,U,(L35.trans L36),S58,(ZS.cast (R12.mono L36) (by (with_reducible exact (Zvm ‹_› ‹_›).symm))),(Zq U),(by omega)⟩ (show l.length - (k1 + 1) < l.length - k1 by omega)
    have hlaw:=ZS.cast (l':=YM t (Yq d t 3 tx [] c [] p) (Xt d t 3 tx [] c [] p) l) R12 (by rw [List.take_of_length_le (by omega)])
    have hll:=Zhi (t:=t) (w:=(Yq d t 3 tx [] c [] p)) (e:=(Xt d t 3 tx [] c [] p)) (l:=l) l.length
    rw [List.take_length] at hll
    have hsc:=Zoq hkd ‹_› ‹_›
    have V7:=hlaw.bound
    refine XH hlaw Qw U U ?_
    refine LP.go ft [] (fun m ρ1 w1=>∃ (k2 : Nat),∃ (gp : Bool),∃ (G37 : GH),m = (YM t (Yq d t 3 tx [] c [] p) (Xt d t 3 tx [] c [] p) l).length - k2 ∧ G35.le G37 ∧ St w [] G G37 [o3,some (b1,3,[S ((YL d c 0 0).2)])] w1 ∧ FR ρ1 [(1,S tx),(5,Zs p1),(12, .pointer (some (⟨b2,0,none⟩ : Addr))),(13,S (XO d t tx c p l)),(16, .pointer (some (⟨b4,0,none⟩ : Addr))),(17,S (Xt d t 3 tx [] c [] p)),(21, .bool gp),(124,v22),(125,S (((YM t (Yq d t 3 tx [] c [] p) (Xt d t 3 tx [] c [] p) l).length : Nat) : Int)),(126,S (k2 : Int))] ∧ k2 ≤ (YM t (Yq d t 3 tx [] c [] p) (Xt d t 3 tx [] c [] p) l).length ∧ (∀ j,j < k2 → ∀ x,(YM t (Yq d t 3 tx [] c [] p) (Xt d t 3 tx [] c [] p) l)[j]? = some x → lkA t x = true) ∧ gp = (((YM t (Yq d t 3 tx [] c [] p) (Xt d t 3 tx [] c [] p) l).take k2).any (gpO t (Yq d t 3 tx [] c [] p) (Xt d t 3 tx [] c [] p) tx))) _ ⟨0,false,G35,U,(G35.le_refl),S55,(Zq U),(by omega),(by intro j hj; omega),(by rfl)⟩ ?_
    rintro m ρ1 w53 ⟨k2,gp,G37,rfl,L37,S62,F9,f9,f10,f11⟩
    refine F9.set ?_
    clear F9
    refine Zp (k2 : Int) (((YM t (Yq d t 3 tx [] c [] p) (Xt d t 3 tx [] c [] p) l).length : Nat) : Int) U U U (fun h28=>?_) (fun h28=>?_)
    ·refine YW (hlaw.mono L37) k2 (by omega) Qw Zm U U U U (fun p8 x5 ec2 U5 R15 ra2=>?_)
     have T20:=Zy R15
     obtain ⟨v27,v28,v29,rfl,ZoI,A26,Zjm,A27,A28,Zs7⟩:=T20
     refine Zah ra2 S62 0 U Zm U U U U ?_
     refine WL.alloc S62 Zm U U (fun b13 w54 N13 S63=>?_)
     refine Zi S63 0 [Za x5.s.name,v27,S x5.s.key,v28,v29,S x5.last] U U Zm U U (by simp only [ZA,A26.oneC,A27.oneC,A28.oneC] <;> rfl) U U U (fun w55 S64=>?_)
     have T21:=S64.shutB N13
     obtain ⟨G38,L38,C15,S65⟩:=T21
     refine Z S65 (XC.drop 3 (XC.drop 0 C15)) ZcK U U U ?_
     have V8:=A27.bound
     refine Zl (A27.mono L38) ZaZ U U ?_
     refine LP.go ft [] (fun m ρ1 w1=>∃ (k3 : Nat),∃ (gq : Bool),∃ (G39 : GH),m = x5.s.fks.length - k3 ∧ G38.le G39 ∧ St w [] G G39 [o3,some (b1,3,[S ((YL d c 0 0).2)])] w1 ∧ FR ρ1 [(1,S tx),(5,Zs p1),(12, .pointer (some (⟨b2,0,none⟩ : Addr))),(13,S (XO d t tx c p l)),(16, .pointer (some (⟨b4,0,none⟩ : Addr))),(17,S (Xt d t 3 tx [] c [] p)),(21, .bool gq),(23, .pointer (some (⟨b13,0,none⟩ : Addr))),(124,v22),(125,S (((YM t (Yq d t 3 tx [] c [] p) (Xt d t 3 tx [] c [] p) l).length : Nat) : Int)),(126,S (k2 : Int)),(132,v28),(133,S (x5.s.fks.length : Int)),(134,S (k3 : Int))] ∧ k3 ≤ x5.s.fks.length ∧ (∀ j,j < k3 → ∀ f,x5.s.fks[j]? = some f → lkB t x5 f = true) ∧ gq = ((((YM t (Yq d t 3 tx [] c [] p) (Xt d t 3 tx [] c [] p) l).take k2).any (gpO t (Yq d t 3 tx [] c [] p) (Xt d t 3 tx [] c [] p) tx)) || (x5.s.fks.take k3).any (gpF t (Yq d t 3 tx [] c [] p) (Xt d t 3 tx [] c [] p) tx x5))) _ ⟨0,gp,G38,U,(G38.le_refl),S65,(Zq U),(by omega),(by intro j hj; omega),(by rw [(by assumption : gp = (((YM t (Yq d t 3 tx [] c [] p) (Xt d t 3 tx [] c [] p) l).take k2).any (gpO t (Yq d t 3 tx [] c [] p) (Xt d t 3 tx [] c [] p) tx)))]; simp)⟩ ?_
     rintro m ρ1 w56 ⟨k3,gq,G39,rfl,L39,S66,F9,f12,f13,f14⟩
     refine F9.set ?_
     clear F9
     refine Zp (k3 : Int) (x5.s.fks.length : Int) U U U (fun h29=>?_) (fun h29=>?_)
     ·have j16:=(L38.trans L39)
      refine WL.indexAddr (A27.mono j16) k3 (by omega) ZaZ Qj U U U U (fun p9 x6 U6 E4=>?_)
      obtain ⟨D8,C16,R16⟩:=E4
      have T22:=Xg R16
      obtain ⟨v30,rfl,A29,ZoJ⟩:=T22
      refine Zb S66 C16 [v30,Za x6.table] Qj U U U U U ?_
      refine WL.alloc S66 Qj U U (fun b14 w57 N14 S67=>?_)
      refine Zi S67 0 [v30,Za x6.table] U U Qj U U (by simp only [ZA,A29.oneC] <;> rfl) U U U (fun w58 S68=>?_)
      have T23:=S68.shutB N14
      obtain ⟨G40,L40,C17,S69⟩:=T23
      refine Z S69 (XC.drop 1 C17) ZF U U U <| Z S69 (XC.drop 0 (XC.drop 0 (C1.mono ((((((((((((((((((L2.trans L3).trans L4).trans L5).trans L9).trans L11).trans L12).trans L13).trans L14).trans L15).trans L17).trans L18).trans L20).trans L21).trans L35).trans L37).trans L38).trans L39).trans L40)))) ZF U U U <| ZJ .neq U x6.table t.s.name U U U ?_
      refine WL.split (fun h0=>?_) (fun h0=>?_)
      ·have h30 : x6.table ≠ t.s.name:=by simpa [SCmp.b] using h0
       clear h0
       refine Zj k3 (by have:=Zc; omega) U U U ?_
       exact BK.mk' _ ⟨k3 + 1,gq,G40,U,(L39.trans L40),S69,(Zq U),(by omega),(by with_reducible exact ZW ‹_› ‹_› (by exact ZpI ‹_›)),(by with_reducible exact ZpM ‹_› ‹_› (by first | exact .inl ‹_› | exact .inr ‹_›))⟩ (show x5.s.fks.length - (k3 + 1) < x5.s.fks.length - k3 by omega)
      have h30 : x6.table = t.s.name:=by simpa [SCmp.b] using h0
      clear h0
      refine Zb S69 (XC.drop 0 (C15.mono (L39.trans L40))) [Za x5.s.name,v27,S x5.s.key,v28] Qo U U U U U <| Zb S69 (XC.drop 0 (C1.mono ((((((((((((((((((L2.trans L3).trans L4).trans L5).trans L9).trans L11).trans L12).trans L13).trans L14).trans L15).trans L17).trans L18).trans L20).trans L21).trans L35).trans L37).trans L38).trans L39).trans L40))) [Za t.s.name,v1,S t.s.key,v2] Qo U U U U U <| Zb S69 C17 [v30,Za x6.table] Qj U U U U U ?_
      have j17:=(j16.trans L40)
      refine Zr S69 ZhB U U U (Zok S69.imm x5.s t.s x6 _ (Yo x5.s ZoI (A26.mono j17) Zjm (A27.mono j17)) _ (Yo t.s B1 (A1.mono (((((((((((((((((((L1.trans L2).trans L3).trans L4).trans L5).trans L9).trans L11).trans L12).trans L13).trans L14).trans L15).trans L17).trans L18).trans L20).trans L21).trans L35).trans L37).trans L38).trans L39).trans L40)) B2 (A2.mono (((((((((((((((((((L1.trans L2).trans L3).trans L4).trans L5).trans L9).trans L11).trans L12).trans L13).trans L14).trans L15).trans L17).trans L18).trans L20).trans L21).trans L35).trans L37).trans L38).trans L39).trans L40))) _ (QQ x6 (A29.mono L40) ZoJ) (hsc _ (List.mem_of_getElem? ‹_›)) (Xb (by assumption : Zu t = true)).1) (fun w59 G41 S70 L41=>?_)
      refine WL.split (fun (h31 : (XN x5.s t.s x6) = true)=>?_) (fun (h31 : (XN x5.s t.s x6) = false)=>?_)
      ·refine ZC (Xt d t 3 tx [] c [] p) 0 U U U (fun h32=>?_) (fun h32=>?_)
       ·refine Zb S70 (C15.mono ((L39.trans L40).trans L41)) [Za x5.s.name,v27,S x5.s.key,v28,v29,S x5.last] Zm U U U U U <| Zb S70 (C6.mono (((((L35.trans L37).trans L38).trans L39).trans L40).trans L41)) [Za ((Yq d t 3 tx [] c [] p).s.name),v9,S ((Yq d t 3 tx [] c [] p).s.key),v10,v11,S ((Yq d t 3 tx [] c [] p).last)] Zm U U U U U <| Zb S70 (C17.mono L41) [v30,Za x6.table] Qj U U U U U ?_
        have j18:=(j17.trans L41)
        have j19:=((((((L21.trans L35).trans L37).trans L38).trans L39).trans L40).trans L41)
        have j20:=(L40.trans L41)
        refine Z9 S70 ZhC U U U (ZrT S70.imm x5 (Yq d t 3 tx [] c [] p) x6 tx _ (Zo x5 ZoI (A26.mono j18) Zjm (A27.mono j18) (A28.mono j18) Zs7) _ (Zo (Yq d t 3 tx [] c [] p) Zaq (A11.mono j19) Zcw (A12.mono j19) (A13.mono j19) ZbG) _ (QQ x6 (A29.mono j20) ZoJ) (hkd.2.2 ‹_›).tx.1 (hkd.2.2 ‹_›).tx.2 (Zjg hkd ‹_› ‹_› ‹_› ‹_› ‹_›).2 (hkd.2.2 ‹_›).valid (Zjg hkd ‹_› ‹_› ‹_› ‹_› ‹_›).1) ?_
        rintro w60 G42 _ ⟨r15,_,rfl,A30,rfl⟩ S71 L42
        obtain ⟨D9,rfl,R17⟩:=A30
        have T24:=Z7 R17
        obtain ⟨v31,rfl,A31,Zjn,ZwX,Zjo,ZwY⟩:=T24
        refine WL.alloc S71 Zz U U (fun b15 w61 N15 S72=>?_)
        refine Zi S72 0 [v31,S ((ZZ (Qq x5 (Yq d t 3 tx [] c [] p) x6 tx)).r.d.a),S ((ZZ (Qq x5 (Yq d t 3 tx [] c [] p) x6 tx)).r.d.b),S ((ZZ (Qq x5 (Yq d t 3 tx [] c [] p) x6 tx)).r.x.a),S ((ZZ (Qq x5 (Yq d t 3 tx [] c [] p) x6 tx)).r.x.b)] U U Zz U U (by simp only [ZA,A31.oneC] <;> rfl) U U U (fun w62 S73=>?_)
        have T25:=S73.shutB N15
        obtain ⟨G43,L43,C18,S74⟩:=T25
        refine Qn (d:=21) U (fun (h33 : gq = true)=>?_) (fun (h33 : gq = false)=>?_)
        ·refine Zj k3 (by have:=Zc; omega) U U U ?_
         exact BK.mk' _ ⟨k3 + 1,true,G43,U,(L39.trans ((j20.trans L42).trans L43)),S74,(Zq U),(by omega),(by with_reducible exact ZW ‹_› ‹_› (by exact ZfK ‹_›)),(by with_reducible exact Zyp ‹_› ‹_›)⟩ (show x5.s.fks.length - (k3 + 1) < x5.s.fks.length - k3 by omega)
        refine Zj k3 (by have:=Zc; omega) U U U ?_
        exact BK.mk' _ ⟨k3 + 1,((Qq x5 (Yq d t 3 tx [] c [] p) x6 tx).isSome),G43,U,(L39.trans ((j20.trans L42).trans L43)),S74,(Zq U),(by omega),(by with_reducible exact ZW ‹_› ‹_› (by exact ZfK ‹_›)),(by with_reducible exact Zyq ‹_› ‹_› ‹_› ‹_› ‹_›)⟩ (show x5.s.fks.length - (k3 + 1) < x5.s.fks.length - k3 by omega)
       refine Zj k3 (by have:=Zc; omega) U U U ?_
       exact BK.mk' _ ⟨k3 + 1,gq,G41,U,(L39.trans (L40.trans L41)),S70,(Zq U),(by omega),(by with_reducible exact ZW ‹_› ‹_› (by exact ZfK ‹_›)),(by with_reducible exact ZpM ‹_› ‹_› (by first | exact .inl ‹_› | exact .inr ‹_›))⟩ (show x5.s.fks.length - (k3 + 1) < x5.s.fks.length - k3 by omega)
      refine ZC (XO d t tx c p l) 1 U U U (fun h34=>?_) (fun h34=>?_)
      ·refine Zb S70 (C4.mono (((((((((((L14.trans L15).trans L17).trans L18).trans L20).trans L21).trans L35).trans L37).trans L38).trans L39).trans L40).trans L41)) [Za ((ZV d t tx c p l).s.name),v4,S ((ZV d t tx c p l).s.key),v5,v6,S ((ZV d t tx c p l).last)] Zm U U U U U ?_
       have j21:=((((((((((((L13.trans L14).trans L15).trans L17).trans L18).trans L20).trans L21).trans L35).trans L37).trans L38).trans L39).trans L40).trans L41)
       refine Zr S70 Q8 U U U (Zb9 S70.imm (ZV d t tx c p l) _ (Zo (ZV d t tx c p l) Xz (A5.mono j21) XG (A6.mono j21) (A7.mono j21) XY)) (fun w63 G44 S75 L44=>?_)
       exact RB S75 U (by with_reducible exact (Zlm hkd ‹_› ‹_› ‹_› ‹_›).2)
      exact RB S70 U (by with_reducible exact absurd (Zlm hkd ‹_› ‹_› ‹_› ‹_›).1 ‹_›)
     refine Zj k2 (by have:=Zc; omega) U U U ?_
     exact BK.mk' _ ⟨k2 + 1,gq,G39,U,(L37.trans (L38.trans L39)),S66,(Zq U),(by omega),(by with_reducible exact ZW ‹_› ‹_› (Zno ‹_› (by omega))),(by with_reducible exact Zvn ‹_› ‹_› (by omega))⟩ (show (YM t (Yq d t 3 tx [] c [] p) (Xt d t 3 tx [] c [] p) l).length - (k2 + 1) < (YM t (Yq d t 3 tx [] c [] p) (Xt d t 3 tx [] c [] p) l).length - k2 by omega)
    have hok:=Zsd hkd ‹_› ‹_› ‹_› (by omega) ‹_› (by omega)
    refine Yr (Xt d t 3 tx [] c [] p) 0 U U U (fun h35=>?_) (fun h35=>?_)
    ·refine ZC (XO d t tx c p l) (Xt d t 3 tx [] c [] p) U U U (fun h36=>?_) (fun h36=>?_)
     ·refine Zb S62 (C4.mono (((((((L14.trans L15).trans L17).trans L18).trans L20).trans L21).trans L35).trans L37)) [Za ((ZV d t tx c p l).s.name),v4,S ((ZV d t tx c p l).s.key),v5,v6,S ((ZV d t tx c p l).last)] Zm U U U U U ?_
      have j22:=((((((((L13.trans L14).trans L15).trans L17).trans L18).trans L20).trans L21).trans L35).trans L37)
      refine Zr S62 Q8 U U U (Zb9 S62.imm (ZV d t tx c p l) _ (Zo (ZV d t tx c p l) Xz (A5.mono j22) XG (A6.mono j22) (A7.mono j22) XY)) (fun w64 G45 S76 L45=>?_)
      exact RB S76 U (by with_reducible exact (Zjf hkd hok ‹_›).2)
     exact RB S62 U (by with_reducible exact absurd (Zjf hkd hok ‹_›).1 ‹_›)
    refine Qn (d:=21) U (fun (h37 : gp = true)=>?_) (fun (h37 : gp = false)=>?_)
    ·refine ZC (XO d t tx c p l) 15 U U U (fun h38=>?_) (fun h38=>?_)
     ·refine Zb S62 (C4.mono (((((((L14.trans L15).trans L17).trans L18).trans L20).trans L21).trans L35).trans L37)) [Za ((ZV d t tx c p l).s.name),v4,S ((ZV d t tx c p l).s.key),v5,v6,S ((ZV d t tx c p l).last)] Zm U U U U U ?_
      have j23:=((((((((L13.trans L14).trans L15).trans L17).trans L18).trans L20).trans L21).trans L35).trans L37)
      refine Zr S62 Q8 U U U (Zb9 S62.imm (ZV d t tx c p l) _ (Zo (ZV d t tx c p l) Xz (A5.mono j23) XG (A6.mono j23) (A7.mono j23) XY)) (fun w65 G46 S77 L46=>?_)
      exact RB S77 U (by with_reducible exact (ZpL hkd hok ‹_› ‹_› ‹_› ‹_› (by omega) ‹_›).2)
     exact RB S62 U (by with_reducible exact absurd (ZpL hkd hok ‹_› ‹_› ‹_› ‹_› (by omega) ‹_›).1 ‹_›)
    refine ZC (XO d t tx c p l) 0 U U U (fun h39=>?_) (fun h39=>?_)
    ·refine Zb S62 (C4.mono (((((((L14.trans L15).trans L17).trans L18).trans L20).trans L21).trans L35).trans L37)) [Za ((ZV d t tx c p l).s.name),v4,S ((ZV d t tx c p l).s.key),v5,v6,S ((ZV d t tx c p l).last)] Zm U U U U U <| Zb S62 (C6.mono (L35.trans L37)) [Za ((Yq d t 3 tx [] c [] p).s.name),v9,S ((Yq d t 3 tx [] c [] p).s.key),v10,v11,S ((Yq d t 3 tx [] c [] p).last)] Zm U U U U U ?_
     have j24:=((((((((L13.trans L14).trans L15).trans L17).trans L18).trans L20).trans L21).trans L35).trans L37)
     have j25:=((L21.trans L35).trans L37)
     refine Zr S62 Zs9 U U U (Zoc S62.imm (ZV d t tx c p l) (Yq d t 3 tx [] c [] p) _ (Zo (ZV d t tx c p l) Xz (A5.mono j24) XG (A6.mono j24) (A7.mono j24) XY) _ (Zo (Yq d t 3 tx [] c [] p) Zaq (A11.mono j25) Zcw (A12.mono j25) (A13.mono j25) ZbG)) (fun w66 G47 S78 L47=>?_)
     exact RB S78 U (by with_reducible exact (Zln hkd hok ‹_› ‹_› ‹_› ‹_› (by omega) ‹_›).2)
    exact RB S62 U (by with_reducible exact absurd (Zln hkd hok ‹_› ‹_› ‹_› ‹_› (by omega) ‹_›).1 ‹_›)
   refine ZC (XO d t tx c p l) 1 U U U (fun h40=>?_) (fun h40=>?_)
   ·refine Zb S17 (C4.mono L14) [Za ((ZV d t tx c p l).s.name),v4,S ((ZV d t tx c p l).s.key),v5,v6,S ((ZV d t tx c p l).last)] Zm U U U U U ?_
    have j26:=(L13.trans L14)
    refine Zr S17 Q8 U U U (Zb9 S17.imm (ZV d t tx c p l) _ (Zo (ZV d t tx c p l) Xz (A5.mono j26) XG (A6.mono j26) (A7.mono j26) XY)) (fun w67 G48 S79 L48=>?_)
    exact RB S79 U (by with_reducible exact (Zvh hkd ‹_›).2)
   exact RB S17 U (by with_reducible exact absurd (Zvh hkd ‹_›).1 ‹_›)
  refine Zr S12 Y6 U U U (ZdF S12.imm) (fun w68 G49 S80 L49=>?_)
  exact RB S80 U (by with_reducible rfl)
 refine Zr S7 Y6 U U U (ZdF S7.imm) (fun w69 G50 S81 L50=>?_)
 exact RB S81 U (by with_reducible rfl)
end Go.Civ
