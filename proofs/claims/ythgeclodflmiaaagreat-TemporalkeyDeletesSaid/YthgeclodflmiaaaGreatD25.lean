/- Lemmas. -/
import Derived.Test.YthgeclodflmiaaaGreatD11
import Derived.Test.YthgeclodflmiaaaGreatD15
import Derived.Test.YthgeclodflmiaaaGreatD19
import Derived.Test.YthgeclodflmiaaaGreatD23
import Derived.Test.YthgeclodflmiaaaGreatD24
import Derived.Test.YthgeclodflmiaaaGreatProg
import Derived.KernelRfl
import Derived.WalkKit
set_option linter.unusedVariables false
set_option linter.unusedSimpArgs false
set_option maxRecDepth 100000
set_option maxHeartbeats 4000000
namespace Go.Civ
open Go.Proofs
theorem Zk2 {G : GH} {w : World} (hG : G.In w) (x : HGrp) (cx : List Value) (hcx : Zcy.rep G x cx) (hgood : Z8 x.t) (hl : x.t.length ≤ 2000) : CL Tryz.prog (nat_lit 128) #[.agg cx.toArray] [] w G fun G' _ r=>Sl HRowE 56 G' r (Zfu x):=by
 refine Zh ft [] Tryz.func128 U U ?_
 have hS:=St.start (X:=[]) hG
 obtain ⟨v1,v2,rfl,A1,A2⟩:=ZaL hcx
 refine Zw [v1,v2] _ hS U U U (fun p1 w1 G1 L1 M1 C1 S1=>?_)
 refine Z S1 (XC.drop 1 C1) YK U U U ?_
 have V1:=A2.bound
 refine Zl (A2.mono L1) Yn U U ?_
 have S3:=S1.pad
 refine LP.go ft [] (fun m ρ1 w1=>∃ (k1 : Nat),∃ (v3 : Value) (o1 : OB),∃ (G2 : GH),m = x.t.length - k1 ∧ G1.le G2 ∧ St w [] G G2 [o1] w1 ∧ ZS Enc.int 8 3 G2 v3 (Zc2 (x.t.take k1)) o1 ∧ FR ρ1 [(1,Zs p1),(3,v3),(14,v2),(15,S (x.t.length : Int)),(16,S (k1 : Int))] ∧ k1 ≤ x.t.length) _ ⟨0,(Ze),none,G1,U,(G1.le_refl),S3,(ZS.nil Enc.int 8 3 G1),(Zq U),(by omega)⟩ ?_
 rintro m ρ1 w2 ⟨k1,v3,o1,G2,rfl,L2,S2,R1,F9,f1⟩
 refine F9.set ?_
 clear F9
 have hfl:=ZkQ x.t k1
 refine Zp (k1 : Int) (x.t.length : Int) U U U (fun h1=>?_) (fun h1=>?_)
 ·refine WL.indexAddr (A2.mono (L1.trans L2)) k1 (by omega) Yn Zz U U U U (fun p2 x1 U1 E1=>?_)
  obtain ⟨D1,C2,R2⟩:=E1
  obtain ⟨v4,rfl,A3,B1,B2,B3,B4⟩:=Z7 R2
  refine Zb S2 C2 [v4,S x1.r.d.a,S x1.r.d.b,S x1.r.x.a,S x1.r.x.b] Zz U U U U U ?_
  refine WL.alloc S2 Zz U U (fun b1 w3 N1 S4=>?_)
  refine Zi S4 0 [v4,S x1.r.d.a,S x1.r.d.b,S x1.r.x.a,S x1.r.x.b] U U Zz U U (by simp only [ZA,A3.oneC] <;> rfl) U U U (fun w4 S5=>?_)
  obtain ⟨G3,L3,C3,S6⟩:=S5.shutB N1
  refine Z S6 (XC.drop 0 (XC.drop 2 (XC.drop 1 C3))) Zt U U U <| Z S6 (XC.drop 1 (XC.drop 2 (XC.drop 1 C3))) Zt U U U ?_
  refine WL.buildSlice _ [(0,[S x1.r.x.a]),(1,[S x1.r.x.b])] [S x1.r.x.a,S x1.r.x.b] S6 Yb U U U U (fun z hz=>by match z,hz with | [z0,z1],_=>rfl) (fun b2 w5 N2 S7=>?_)
  refine WL.push (m:=([x1.r.x.a,x1.r.x.b] : List Int)) Yb U U U (R1.mono L3) S7 1 U 0 _ _ _ _ _ U ⟨[S x1.r.x.a],_,U,⟨U,B3⟩,⟨[S x1.r.x.b],_,U,⟨U,B4⟩,U⟩⟩ U (by have:=Zc; simp only [List.length_cons,List.length_nil]; omega) (by have:=Zc; simp only [List.length_cons,List.length_nil]; omega) U U U (fun v5 o2 w6 R3 S8=>?_)
  have S9:=S8.tail
  refine Zj k1 (by have:=Zc; omega) U U U ?_
  exact BK.mk' _ ⟨k1 + 1,v5,o2,G3,U,(L2.trans L3),S9,(ZS.cast R3 (by (rw [Zpi ‹_›]))),(Zq U),(by omega)⟩ (show x.t.length - (k1 + 1) < x.t.length - k1 by omega)
 refine Qe Zu6 U U U (ZnN S2.imm (Zc2 (x.t.take k1)) _ _ R1 (S2.lentAt 0 U)) (fun w7 G4 r1 hres1 P1=>?_)
 have L4:=hres1.le
 obtain ⟨rfl,l1,o3,R4,hf1,hq1⟩:=P1
 have S11:=S2.callRow 0 U hres1 R1 R4 hf1
 refine Qe Zu7 U U U (Zkm S11.imm l1 _ _ R4 (S11.lentAt 0 U)) (fun w9 G5 r2 hres2 P2=>?_)
 have L5:=hres2.le
 obtain ⟨o4,R5,hf2,hq2⟩:=P2
 have S13:=S11.callRowR 0 U hres2 R4 R5 hf2 hq2
 refine WL.alloc S13 YK U U (fun b3 w10 N3 S14=>?_)
 refine WL.alloc S14 ZoA U U (fun b4 w11 N4 S15=>?_)
 refine WL.alloc S15 Zt U U (fun b5 w12 N5 S16=>?_)
 refine Zi S16 0 [S 0] U U Zt U U U U U U (fun w13 S17=>?_)
 have S18:=S17.pad
 have hcut:=ZS.cast (l':=Y0 x.t) R5 (by rw [hq1,Zmy]; exact ZvM (by omega))
 have hcl:=Zkb x.t
 have hci:=Zq8 hgood
 have V2:=hcut.bound
 refine XH hcut Yp U U ?_
 refine LP.go ft [] (fun m ρ1 w1=>∃ (k2 : Nat),∃ (nv : Value),∃ (nw : List Span),∃ (fr : Int),∃ (v6 : Value) (o5 : OB),∃ (G6 : GH),m = (Y0 x.t).length - k2 ∧ G5.le G6 ∧ St w [] G G6 [o5,some (b5,3,[S fr]),some (b4,71,[nv]),some (b3,26,[v6]),o4] w1 ∧ ZS HRowE 56 37 G6 v6 ((X2 x.v (ZH x.t) ((Y0 x.t).take k2)).out) o5 ∧ FR ρ1 [(1,Zs p1),(6, .pointer (some ⟨b3,0,none⟩)),(7, .pointer (some ⟨b4,0,none⟩)),(8, .pointer (some ⟨b5,0,none⟩)),(9, .func (.func 178) #[] #[.pointer (some ⟨b4,0,none⟩), .pointer (some ⟨b3,0,none⟩),Zs p1, .pointer (some ⟨b5,0,none⟩)]),(37,r2),(38,S (((Y0 x.t).length : Nat) : Int)),(39,S (k2 : Int))] ∧ k2 ≤ (Y0 x.t).length ∧ Sl SpanE 16 G6 nv nw ∧ nw = (X2 x.v (ZH x.t) ((Y0 x.t).take k2)).now ∧ fr = (X2 x.v (ZH x.t) ((Y0 x.t).take k2)).fr ∧ Z0 fr) _ ⟨0,Ze,[],0,(Ze),none,G5,U,(G5.le_refl),S18,(ZS.cast (ZS.nil HRowE 56 37 G5) (by simp [X2])),(Zq U),(by omega),(Sl.nil SpanE 16 G5),(by simp [X2]),(by simp [X2]),(ZP)⟩ ?_
 rintro m ρ1 w14 ⟨k2,nv,nw,fr,v6,o5,G6,rfl,L6,S19,R6,F9,f2,f3,f4,f5,f6⟩
 refine F9.set ?_
 clear F9
 have hnw:=(by assumption : nw = (X2 x.v (ZH x.t) ((Y0 x.t).take k2)).now)
 have hfr:=(by assumption : fr = (X2 x.v (ZH x.t) ((Y0 x.t).take k2)).fr)
 have hnb:=ZiB (g:=x) hl k2
 have hnl : nw.length ≤ 2000:=by rw [hnw]; exact hnb.2
 refine Zp (k2 : Int) (((Y0 x.t).length : Nat) : Int) U U U (fun h2=>?_) (fun h2=>?_)
 ·refine YW (hcut.mono L6) k2 (by omega) Yp Zt U U U U (fun p3 x2 ec1 U2 R7 ra1=>?_)
  obtain ⟨rfl,B5⟩:=R7
  refine Zii ra1 S19 4 U _ U Zt U U U ?_
  have C64:=hci _ (List.mem_of_getElem? (by assumption : (Y0 x.t)[k2]? = some _))
  refine Z S19 (XC.drop 1 (C1.mono (((L2.trans L4).trans L5).trans L6))) YK U U U ?_
  refine Z9 S19 ZsG U U U (ZhK S19.imm x.t x2 _ (A2.mono ((((L1.trans L2).trans L4).trans L5).trans L6)) hgood hl) (fun w15 G7 r3 P3 S20 L7=>?_)
  refine Ya S20 2 _ _ _ 0 _ U U ZoA U U U ?_
  refine Zr S20 ZsE U U U (Zf2 S20.imm nw (ZH x.t x2) _ (f3.mono L7) _ P3) (fun w16 G9 S21 L9=>?_)
  refine WL.split (fun (h3 : (decide (nw = (ZH x.t x2))) = true)=>?_) (fun (h3 : (decide (nw = (ZH x.t x2))) = false)=>?_)
  ·refine Zj k2 (by have:=Zc; omega) U U U ?_
   exact BK.mk' _ ⟨k2 + 1,nv,nw,fr,v6,o5,G9,U,(L6.trans (L7.trans L9)),S21,(ZS.cast (R6.mono (L7.trans L9)) (by (exact (congrArg NS.out (ZhI ‹_› (by rw [← hnw]; exact of_decide_eq_true ‹_›))).symm))),(Zq U),(by omega),((f3.mono (L7.trans L9))),(by (rw [ZhI ‹_› (by rw [← hnw]; exact of_decide_eq_true ‹_›)]; exact hnw)),(by (rw [ZhI ‹_› (by rw [← hnw]; exact of_decide_eq_true ‹_›)]; exact hfr)),‹_›⟩ (show (Y0 x.t).length - (k2 + 1) < (Y0 x.t).length - k2 by omega)
  have hP1 : St w [] G G9 [some (b4,71,[nv]),some (b3,26,[v6]),some (b5,3,[S fr]),o5,o4] w16:=S21.pick [2,3,1,0,4]
  refine ZdH [S x2, .pointer (some ⟨b4,0,none⟩), .pointer (some ⟨b3,0,none⟩),Zs p1, .pointer (some ⟨b5,0,none⟩)] #[.pointer (some ⟨b4,0,none⟩), .pointer (some ⟨b3,0,none⟩),Zs p1, .pointer (some ⟨b5,0,none⟩)] Zza U U U ((ZvR x.v fr x2 ((X2 x.v (ZH x.t) ((Y0 x.t).take k2)).out) nw _ _ _ _ _ _ (f3.mono (L7.trans L9)) (R6.mono (L7.trans L9)) hP1 _ (A1.mono ((((((L1.trans L2).trans L4).trans L5).trans L6).trans L7).trans L9)) _ _ (C1.mono (((((L2.trans L4).trans L5).trans L6).trans L7).trans L9)) C64 f6 (by omega)).mono ?_)
  rintro e14 w17 ⟨G10,v7,o6,rfl,L10,S22,R8⟩
  refine ⟨_,U,?_⟩
  refine Zi S22 0 [r3] U (P3.mono (L9.trans L10)).cells1 ZoA U U (by simp only [ZA,(P3.mono (L9.trans L10)).oneC] <;> rfl) U U U (fun w18 S23=>?_)
  refine Zi S23 2 [S x2] U U Zt U U U U U U (fun w19 S24=>?_)
  refine Zj k2 (by have:=Zc; omega) U U U ?_
  have hP2 : St w [] G G10 [o6,some (b5,3,[S x2]),some (b4,71,[r3]),some (b3,26,[v7]),o4] w19:=S24.pick [3,2,0,1,4]
  exact BK.mk' _ ⟨k2 + 1,r3,ZH x.t x2,x2,v7,o6,G10,U,(L6.trans ((L7.trans L9).trans L10)),hP2,(ZS.cast R8 (by ((rw [Zjx ‹_› (by rw [← hnw]; exact of_decide_eq_false ‹_›)]; simp only [hnw,hfr])))),(Zq U),(by omega),((P3.mono (L9.trans L10))),(by (rw [Zjx ‹_› (by rw [← hnw]; exact of_decide_eq_false ‹_›)])),(by (rw [Zjx ‹_› (by rw [← hnw]; exact of_decide_eq_false ‹_›)])),‹_›⟩ (show (Y0 x.t).length - (k2 + 1) < (Y0 x.t).length - k2 by omega)
 refine Ya S19 3 _ _ _ 0 _ U U YK U U U ?_
 obtain ⟨G11,L11,A4,S25⟩:=ZS.freeze R6 S19 0 U
 exact RT S25 U (Sl.cast A4 (by exact Zq9 (by omega)))
end Go.Civ
set_option linter.unusedVariables false
set_option linter.unusedSimpArgs false
set_option maxRecDepth 100000
set_option maxHeartbeats 4000000
namespace Go.Civ
open Go.Proofs
theorem Zg5 {G : GH} {w : World} (hG : G.In w) (l : List HRow) (vl : Value) (hvl : Sl HRowE 56 G vl l) (hgood : Z8 l) (hlen : ∀ r ∈ l,r.v.length ≤ 1000) (hl : l.length ≤ 2000) : CL Tryz.prog (nat_lit 66) #[vl] [] w G fun G' _ r=>Sl HRowE 56 G' r (Yd l):=by
 refine Zh ft [] Tryz.func66 U U ?_
 have hS:=St.start (X:=[]) hG
 refine Z9 hS ZoP U U U (ZfA hS.imm l _ hvl hgood hlen hl) (fun w1 G1 r1 P1 S1 L1=>?_)
 have V1:=P1.bound
 refine Zl P1 Zbe U U ?_
 have S3:=S1.pad
 refine LP.go ft [] (fun m ρ1 w1=>∃ (k1 : Nat),∃ (v1 : Value) (o1 : OB),∃ (G2 : GH),m = (Yx l).length - k1 ∧ G1.le G2 ∧ St w [] G G2 [o1] w1 ∧ ZS HRowE 56 37 G2 v1 (Zd7 ((Yx l).take k1)) o1 ∧ FR ρ1 [(3,v1),(7,r1),(8,S (((Yx l).length : Nat) : Int)),(9,S (k1 : Int))] ∧ k1 ≤ (Yx l).length) _ ⟨0,(Ze),none,G1,U,(G1.le_refl),S3,(ZS.nil HRowE 56 37 G1),(Zq U),(by omega)⟩ ?_
 rintro m ρ1 w2 ⟨k1,v1,o1,G2,rfl,L2,S2,R1,F9,f1⟩
 refine F9.set ?_
 clear F9
 have hgl:=@ZdU l
 have hpl:=ZfP (k:=k1) (fun g hg=>Nat.le_trans (ZiD g hg) hl) (Nat.le_trans hgl hl)
 refine Zp (k1 : Int) (((Yx l).length : Nat) : Int) U U U (fun h1=>?_) (fun h1=>?_)
 ·refine WL.indexAddr (P1.mono L2) k1 (by omega) Zbe Qg U U U U (fun p1 x1 U1 E1=>?_)
  obtain ⟨D1,C1,R2⟩:=E1
  obtain ⟨v2,v3,rfl,A1,A2⟩:=ZaL R2
  refine Zb S2 C1 [v2,v3] Qg U U U U U ?_
  refine WL.alloc S2 Qg U U (fun b1 w3 N1 S4=>?_)
  refine Zi S4 0 [v2,v3] U U Qg U U (by simp only [ZA,A1.oneC,A2.oneC] <;> rfl) U U U (fun w4 S5=>?_)
  obtain ⟨G3,L3,C2,S6⟩:=S5.shutB N1
  have hok:=ZgR hgood hl (by assumption : (Yx l)[k1]? = some _); have hgn:=Zgs hok.2
  refine Zb S6 C2 [v2,v3] Qg U U U U U ?_
  refine Z9 S6 Zu3 U U U (Zk2 S6.imm x1 _ (Zfr x1 (A1.mono L3) (A2.mono L3)) hok.1 hok.2) (fun w5 G4 r2 P2 S7 L4=>?_)
  refine YN YD U U U (R1.mono (L3.trans L4)) S7 0 U P2 (by have:=Zc; (show _ * 56 ≤ _; omega)) (by have:=Zc; omega) U U U (fun v4 o2 w6 R3 S8=>?_)
  refine Zj k1 (by have:=Zc; omega) U U U ?_
  exact BK.mk' _ ⟨k1 + 1,v4,o2,G4,U,(L2.trans (L3.trans L4)),S8,(ZS.cast R3 (by (rw [ZiC ‹_›]))),(Zq U),(by omega)⟩ (show (Yx l).length - (k1 + 1) < (Yx l).length - k1 by omega)
 obtain ⟨G5,L5,A3,S9⟩:=ZS.freeze R1 S2 0 U
 exact RT S9 U (Sl.cast A3 (by rw [List.take_of_length_le (by omega)]; rfl))
theorem ZtB {G : GH} {w : World} (hG : G.In w) (l : List HRow) (pf : HRow → Bool) (vl : Value) (hvl : Sl HRowE 56 G vl l) (fid : Nat) (fcap : Array Value) (hf : FnB Tryz.prog (Is HRowE) fid fcap G (fun x=>x ∈ l) pf) : CL Tryz.prog (nat_lit 113) #[vl, .func (.func fid) #[] fcap] [] w G fun _ _ r=>r = S (Qi pf l):=by
 refine Zh ft [] Tryz.func113 U U ?_
 have hS:=St.start (X:=[]) hG
 have V1:=hvl.bound
 refine Zl hvl Yn U U ?_
 refine LP.go ft [] (fun m ρ1 w1=>∃ (k1 : Nat),∃ (G1 : GH),m = l.length - k1 ∧ G.le G1 ∧ St w [] G G1 [] w1 ∧ FR ρ1 [(0,vl),(1, .func (.func fid) #[] fcap),(7,S (l.length : Int)),(8,S (k1 : Int))] ∧ k1 ≤ l.length ∧ ∀ j,j < k1 → ∀ x,l[j]? = some x → pf x = false) _ ⟨0,G,U,(G.le_refl),hS,(Zq U),(by omega),(by intro j hj; omega)⟩ ?_
 rintro m ρ1 w1 ⟨k1,G1,rfl,L1,S1,F9,f1,f2⟩
 refine F9.set ?_
 clear F9
 refine Zp (k1 : Int) (l.length : Int) U U U (fun h1=>?_) (fun h1=>?_)
 ·refine WL.indexAddr (hvl.mono L1) k1 (by omega) Yn Zz U U U U (fun p1 x1 U1 E1=>?_)
  obtain ⟨D1,C1,R1⟩:=E1
  obtain ⟨v1,rfl,A1,B1,B2,B3,B4⟩:=Z7 R1
  refine Zb S1 C1 [v1,S x1.r.d.a,S x1.r.d.b,S x1.r.x.a,S x1.r.x.b] Zz U U U U U ?_
  refine Zr S1 hf.body U U U (hf.call _ _ (.agg #[v1,S x1.r.d.a,S x1.r.d.b,S x1.r.x.a,S x1.r.x.b]) x1 L1 S1.imm (List.mem_of_getElem? U1) ⟨_,U,(ZT x1 A1 B1 B2 B3 B4)⟩) (fun w2 G2 S2 L2=>?_)
  refine WL.split (fun (h2 : (pf x1) = true)=>?_) (fun (h2 : (pf x1) = false)=>?_)
  ·exact RI S2 U (by exact (QO _ ‹_› ‹_› ‹_›).symm)
  refine Zj k1 (by have:=Zc; omega) U U U ?_
  exact BK.mk' _ ⟨k1 + 1,G2,U,(L1.trans L2),S2,(Zq U),(by omega),(by exact ZW ‹_› ‹_› ‹_›)⟩ (show l.length - (k1 + 1) < l.length - k1 by omega)
 exact RI S1 U (by exact (Q2 ‹_› (by omega)).symm)
theorem Zhx {G : GH} {w : World} (hG : G.In w) (l : List HRow) (pf : HRow → Bool) (vl : Value) (hvl : Sl HRowE 56 G vl l) (fid : Nat) (fcap : Array Value) (hf : FnB Tryz.prog (Is HRowE) fid fcap G (fun x=>x ∈ l) pf) : CL Tryz.prog (nat_lit 58) #[vl, .func (.func fid) #[] fcap] [] w G fun _ _ r=>r = .bool (l.any pf):=by
 refine Zh ft [] Tryz.func58 U U ?_
 have hS:=St.start (X:=[]) hG
 refine Zr hS ZyB U U U (ZtB hS.imm l pf _ hvl fid fcap (hf.up (G.le_refl))) (fun w1 G1 S1 L1=>?_)
 refine Yf .geq U .i64 (Qi pf l) 0 U U U ?_
 exact RB S1 U (by exact ZcH _ _)
theorem ZtC {G : GH} {w : World} (hG : G.In w) (x : Val) (cx : List Value) (hcx : ValE.rep G x cx) : CL Tryz.prog (nat_lit 127) #[.agg cx.toArray] [] w G fun _ _ r=>r = .bool (!Z4 x):=by
 refine Zh ft [] Tryz.func127 U U ?_
 have hS:=St.start (X:=[]) hG
 obtain ⟨rfl,B1,B2,B3⟩:=Yj hcx
 refine Zw [S x.k,S x.n,Za x.s] _ hS U U U (fun p1 w1 G1 L1 M1 C1 S1=>?_)
 refine Zb S1 C1 [S x.k,S x.n,Za x.s] Z6 U U U U U ?_
 refine Zr S1 Zcx U U U (QV S1.imm x _ (YP x B1 B2 B3)) (fun w2 G2 S2 L2=>?_)
 exact RB S2 U (by rfl)
theorem ZnV {G : GH} {w : World} (hG : G.In w) (x : HRow) (cx : List Value) (hcx : HRowE.rep G x cx) : CL Tryz.prog (nat_lit 64) #[.agg cx.toArray] [] w G fun _ _ r=>r = .bool (YA x):=by
 refine Zh ft [] Tryz.func64 U U ?_
 have hS:=St.start (X:=[]) hG
 obtain ⟨v1,rfl,A1,B1,B2,B3,B4⟩:=Z7 hcx
 refine Zw [v1,S x.r.d.a,S x.r.d.b,S x.r.x.a,S x.r.x.b] _ hS U U U (fun p1 w1 G1 L1 M1 C1 S1=>?_)
 refine Z S1 (XC.drop 0 C1) ZK U U U ?_
 refine Zr S1 ZoR U U U (Ze4 S1.imm x.v (fun x8=>!Z4 x8) _ (A1.mono L1) 127 #[] ⟨ZyG,fun G8 w8 v8 x8 L8 hG8 hon8 hA8=>by obtain ⟨cs_x8,rfl,hr_x8⟩:=hA8; exact ZtC hG8 x8 cs_x8 hr_x8⟩) (fun w2 G2 S2 L2=>?_)
 refine WL.split (fun (h1 : (x.v.any (fun x8=>!Z4 x8)) = true)=>?_) (fun (h1 : (x.v.any (fun x8=>!Z4 x8)) = false)=>?_)
 ·exact RB S2 U (by exact ZvS ‹_›)
 refine Zb S2 (XC.drop 0 (XC.drop 1 (C1.mono L2))) [S x.r.d.a,S x.r.d.b] Z2 U U U U U ?_
 refine Zr S2 ZoM U U U (ZgK S2.imm x.r.d _ (Z1 x.r.d B1 B2)) (fun w3 G3 S3 L3=>?_)
 refine WL.split (fun (h2 : (ZN x.r.d) = true)=>?_) (fun (h2 : (ZN x.r.d) = false)=>?_)
 ·refine Zb S3 (XC.drop 2 (XC.drop 1 (C1.mono (L2.trans L3)))) [S x.r.x.a,S x.r.x.b] Z2 U U U U U ?_
  refine Zr S3 ZoM U U U (ZgK S3.imm x.r.x _ (Z1 x.r.x B3 B4)) (fun w4 G4 S4 L4=>?_)
  exact RB S4 U (by exact ZvU ‹_› ‹_›)
 exact RB S3 U (by exact ZvT ‹_› ‹_›)
theorem Zp0 {G : GH} {w : World} (hG : G.In w) (x : HRow) (cx : List Value) (hcx : HRowE.rep G x cx) : CL Tryz.prog (nat_lit 132) #[.agg cx.toArray] [] w G fun _ _ r=>r = .bool (!YA x):=by
 refine Zh ft [] Tryz.func132 U U ?_
 have hS:=St.start (X:=[]) hG
 obtain ⟨v1,rfl,A1,B1,B2,B3,B4⟩:=Z7 hcx
 refine Zw [v1,S x.r.d.a,S x.r.d.b,S x.r.x.a,S x.r.x.b] _ hS U U U (fun p1 w1 G1 L1 M1 C1 S1=>?_)
 refine Zb S1 C1 [v1,S x.r.d.a,S x.r.d.b,S x.r.x.a,S x.r.x.b] Zz U U U U U ?_
 refine Zr S1 Zxc U U U (ZnV S1.imm x _ (ZT x (A1.mono L1) B1 B2 B3 B4)) (fun w2 G2 S2 L2=>?_)
 exact RB S2 U (by rfl)
theorem ZtD {G : GH} {w : World} (hG : G.In w) (x y : HRow) (cx : List Value) (hcx : HRowE.rep G x cx) (cy : List Value) (hcy : HRowE.rep G y cy) : CL Tryz.prog (nat_lit 67) #[.agg cx.toArray, .agg cy.toArray] [] w G fun _ _ r=>r = .bool (decide (x = y)):=by
 refine Zh ft [] Tryz.func67 U U ?_
 have hS:=St.start (X:=[]) hG
 obtain ⟨v1,rfl,A1,B1,B2,B3,B4⟩:=Z7 hcx
 obtain ⟨v2,rfl,A2,B5,B6,B7,B8⟩:=Z7 hcy
 refine Zw [v1,S x.r.d.a,S x.r.d.b,S x.r.x.a,S x.r.x.b] _ hS U U U (fun p1 w1 G1 L1 M1 C1 S1=>?_)
 refine Zw [v2,S y.r.d.a,S y.r.d.b,S y.r.x.a,S y.r.x.b] _ S1 U U U (fun p2 w2 G2 L2 M2 C2 S2=>?_)
 refine Z S2 (XC.drop 0 (C1.mono L2)) ZK U U U <| Z S2 (XC.drop 0 C2) ZK U U U ?_
 have j1:=(L1.trans L2)
 refine Zr S2 Zaq U U U (ZcL S2.imm x.v y.v _ (A1.mono j1) _ (A2.mono j1)) (fun w3 G3 S3 L3=>?_)
 refine WL.split (fun (h1 : (decide (x.v = y.v)) = true)=>?_) (fun (h1 : (decide (x.v = y.v)) = false)=>?_)
 ·refine Zb S3 (XC.drop 1 (C1.mono (L2.trans L3))) [S x.r.d.a,S x.r.d.b,S x.r.x.a,S x.r.x.b] Zct U U U U U <| Zb S3 (XC.drop 1 (C2.mono L3)) [S y.r.d.a,S y.r.d.b,S y.r.x.a,S y.r.x.b] Zct U U U U U <| Zh6 (ZsI x.r y.r) Zzp U U U ?_
  exact RB S3 U (by exact ZqK ‹_›)
 exact RB S3 U (by exact ZqJ ‹_›)
theorem ZtE {G : GH} {w : World} (hG : G.In w) (a b : List HRow) (pf : HRow → HRow → Bool) (va : Value) (hva : Sl HRowE 56 G va a) (vb : Value) (hvb : Sl HRowE 56 G vb b) (fid : Nat) (fcap : Array Value) (hf : FnB2 Tryz.prog (Is HRowE) (Is HRowE) fid fcap G (fun x y=>x ∈ a ∧ y ∈ b) pf) : CL Tryz.prog (nat_lit 65) #[va,vb, .func (.func fid) #[] fcap] [] w G fun _ _ r=>r = .bool (eqF pf a b):=by
 refine Zh ft [] Tryz.func65 U U ?_
 have hS:=St.start (X:=[]) hG
 have V1:=hva.bound
 refine Zl hva Yn U U ?_
 have V2:=hvb.bound
 refine Zl hvb Yn U U ?_
 refine Yr (a.length : Int) (b.length : Int) U U U (fun h1=>?_) (fun h1=>?_)
 ·exact RB hS U (by exact (Qa (by omega)).symm)
 have V3:=hva.bound
 refine Zl hva Yn U U ?_
 refine LP.go ft [] (fun m ρ1 w1=>∃ (k1 : Nat),∃ (G1 : GH),m = a.length - k1 ∧ G.le G1 ∧ St w [] G G1 [] w1 ∧ FR ρ1 [(1,vb),(2, .func (.func fid) #[] fcap),(15,va),(16,S (a.length : Int)),(17,S (k1 : Int))] ∧ k1 ≤ a.length ∧ ∀ j,j < k1 → ∀ x y,a[j]? = some x → b[j]? = some y → pf x y = true) _ ⟨0,G,U,(G.le_refl),hS,(Zq U),(by omega),(by intro j hj; omega)⟩ ?_
 rintro m ρ1 w1 ⟨k1,G1,rfl,L1,S1,F9,f1,f2⟩
 refine F9.set ?_
 clear F9
 refine Zp (k1 : Int) (a.length : Int) U U U (fun h2=>?_) (fun h2=>?_)
 ·refine WL.indexAddr (hva.mono L1) k1 (by omega) Yn Zz U U U U (fun p1 x1 U1 E1=>?_)
  obtain ⟨D1,C1,R1⟩:=E1
  obtain ⟨v1,rfl,A1,B1,B2,B3,B4⟩:=Z7 R1
  refine Zb S1 C1 [v1,S x1.r.d.a,S x1.r.d.b,S x1.r.x.a,S x1.r.x.b] Zz U U U U U ?_
  refine WL.alloc S1 Zz U U (fun b1 w2 N1 S2=>?_)
  refine Zi S2 0 [v1,S x1.r.d.a,S x1.r.d.b,S x1.r.x.a,S x1.r.x.b] U U Zz U U (by simp only [ZA,A1.oneC] <;> rfl) U U U (fun w3 S3=>?_)
  obtain ⟨G2,L2,C2,S4⟩:=S3.shutB N1
  refine WL.indexAddr (hvb.mono (L1.trans L2)) k1 (by omega) Yn Zz U U U U (fun p2 x2 U2 E2=>?_)
  obtain ⟨D2,C3,R2⟩:=E2
  obtain ⟨v2,rfl,A2,B5,B6,B7,B8⟩:=Z7 R2
  refine Zb S4 C3 [v2,S x2.r.d.a,S x2.r.d.b,S x2.r.x.a,S x2.r.x.b] Zz U U U U U ?_
  refine WL.alloc S4 Zz U U (fun b2 w4 N2 S5=>?_)
  refine Zi S5 0 [v2,S x2.r.d.a,S x2.r.d.b,S x2.r.x.a,S x2.r.x.b] U U Zz U U (by simp only [ZA,A2.oneC] <;> rfl) U U U (fun w5 S6=>?_)
  obtain ⟨G3,L3,C4,S7⟩:=S6.shutB N2
  refine Zb S7 (C2.mono L3) [v1,S x1.r.d.a,S x1.r.d.b,S x1.r.x.a,S x1.r.x.b] Zz U U U U U <| Zb S7 C4 [v2,S x2.r.d.a,S x2.r.d.b,S x2.r.x.a,S x2.r.x.b] Zz U U U U U ?_
  refine Zr S7 hf.body U U U (hf.call _ _ (.agg #[v1,S x1.r.d.a,S x1.r.d.b,S x1.r.x.a,S x1.r.x.b]) (.agg #[v2,S x2.r.d.a,S x2.r.d.b,S x2.r.x.a,S x2.r.x.b]) x1 x2 ((L1.trans L2).trans L3) S7.imm ⟨(List.mem_of_getElem? U1),(List.mem_of_getElem? U2)⟩ ⟨_,U,(ZT x1 (A1.mono (L2.trans L3)) B1 B2 B3 B4)⟩ ⟨_,U,(ZT x2 (A2.mono L3) B5 B6 B7 B8)⟩) (fun w6 G4 S8 L4=>?_)
  refine WL.split (fun (h3 : (pf x1 x2) = true)=>?_) (fun (h3 : (pf x1 x2) = false)=>?_)
  ·refine Zj k1 (by have:=Zc; omega) U U U ?_
   exact BK.mk' _ ⟨k1 + 1,G4,U,(L1.trans ((L2.trans L3).trans L4)),S8,(Zq U),(by omega),(by exact QT ‹_› ‹_› ‹_› (by simp_all))⟩ (show a.length - (k1 + 1) < a.length - k1 by omega)
  exact RB S8 U (by exact (Q6 ‹_› ‹_› (by simp_all)).symm)
 exact RB S1 U (by exact (Qr (by omega) ‹_› (by omega)).symm)
theorem Zew {G : GH} {w : World} (hG : G.In w) (x : Int) : CL Tryz.prog (nat_lit 85) #[S x] [] w G fun _ _ r=>r = .bool (Y1 x):=by
 refine Zh ft [] Tryz.func85 U U ?_
 have hS:=St.start (X:=[]) hG
 refine QB x (-62135596800) U U U (fun h1=>?_) (fun h1=>?_)
 ·refine Yf .lss U .i64 x 253402300800 U U U ?_
  exact RB hS U (by unfold Y1; simp_all [Cmp.b] <;> (first | omega | (intros; omega) | (rw [Bool.eq_iff_iff]; simp <;> omega) | (rw [Bool.eq_iff_iff]; simp_all <;> omega)))
 exact RB hS U (by unfold Y1; simp_all [Cmp.b] <;> (omega))
end Go.Civ
set_option linter.unusedVariables false
set_option linter.unusedSimpArgs false
set_option maxRecDepth 100000
set_option maxHeartbeats 4000000
namespace Go.Civ
open Go.Proofs
theorem ZtF {G : GH} {w : World} (hG : G.In w) (l : List Col) (pf : Col → Bool) (vl : Value) (hvl : Sl ColE 24 G vl l) (fid : Nat) (fcap : Array Value) (hf : FnB Tryz.prog (Is ColE) fid fcap G (fun x=>x ∈ l) pf) : CL Tryz.prog (nat_lit 265) #[vl, .func (.func fid) #[] fcap] [] w G fun _ _ r=>r = S (Qi pf l):=by
 refine Zh ft [] Tryz.func265 U U ?_
 have hS:=St.start (X:=[]) hG
 have V1:=hvl.bound
 refine Zl hvl Qk U U ?_
 refine LP.go ft [] (fun m ρ1 w1=>∃ (k1 : Nat),∃ (G1 : GH),m = l.length - k1 ∧ G.le G1 ∧ St w [] G G1 [] w1 ∧ FR ρ1 [(0,vl),(1, .func (.func fid) #[] fcap),(7,S (l.length : Int)),(8,S (k1 : Int))] ∧ k1 ≤ l.length ∧ ∀ j,j < k1 → ∀ x,l[j]? = some x → pf x = false) _ ⟨0,G,U,(G.le_refl),hS,(Zq U),(by omega),(by intro j hj; omega)⟩ ?_
 rintro m ρ1 w1 ⟨k1,G1,rfl,L1,S1,F9,f1,f2⟩
 refine F9.set ?_
 clear F9
 refine Zp (k1 : Int) (l.length : Int) U U U (fun h1=>?_) (fun h1=>?_)
 ·refine WL.indexAddr (hvl.mono L1) k1 (by omega) Qk YX U U U U (fun p1 x1 U1 E1=>?_)
  obtain ⟨D1,C1,R1⟩:=E1
  obtain ⟨rfl,B1,B2⟩:=Xm R1
  refine Zb S1 C1 [Za x1.name,S x1.kind] YX U U U U U ?_
  refine Zr S1 hf.body U U U (hf.call _ _ (.agg #[Za x1.name,S x1.kind]) x1 L1 S1.imm (List.mem_of_getElem? U1) ⟨_,U,(ZeJ x1 B1 B2)⟩) (fun w2 G2 S2 L2=>?_)
  refine WL.split (fun (h2 : (pf x1) = true)=>?_) (fun (h2 : (pf x1) = false)=>?_)
  ·exact RI S2 U (by exact (QO _ ‹_› ‹_› ‹_›).symm)
  refine Zj k1 (by have:=Zc; omega) U U U ?_
  exact BK.mk' _ ⟨k1 + 1,G2,U,(L1.trans L2),S2,(Zq U),(by omega),(by exact ZW ‹_› ‹_› ‹_›)⟩ (show l.length - (k1 + 1) < l.length - k1 by omega)
 exact RI S1 U (by exact (Q2 ‹_› (by omega)).symm)
theorem Zwj {G : GH} {w : World} (hG : G.In w) (x : Col) (nm : List UInt8) (cx : List Value) (hcx : ColE.rep G x cx) (pn : Addr) (hpn : XC G pn [Za nm]) : CL Tryz.prog (nat_lit 266) #[.agg cx.toArray,Zs pn] [] w G fun _ _ r=>r = .bool (decide (x.name = nm)):=by
 refine Zh ft [] Tryz.func266 U U ?_
 have hS:=St.start (X:=[]) hG
 obtain ⟨rfl,B1,B2⟩:=Xm hcx
 refine Zw [Za x.name,S x.kind] _ hS U U U (fun p1 w1 G1 L1 M1 C1 S1=>?_)
 refine Z S1 (XC.drop 0 C1) ZF U U U <| Z S1 (hpn.mono L1) ZF U U U <| ZJ .eql U x.name nm U U U ?_
 exact RB S1 U (by simp [SCmp.b])
theorem ZbT {G : GH} {w : World} (hG : G.In w) (l : List Col) (nm : List UInt8) (vl : Value) (hvl : Sl ColE 24 G vl l) : CL Tryz.prog (nat_lit 237) #[vl,Za nm] [] w G fun _ _ r=>r = S (Yw l nm):=by
 refine Zh ft [] Tryz.func237 U U ?_
 have hS:=St.start (X:=[]) hG
 refine Zw [Za nm] _ hS U U U (fun p1 w1 G1 L1 M1 C1 S1=>?_)
 refine Zr S1 Zzn U U U (ZtF S1.imm l (fun x8=>decide (x8.name = nm)) _ (hvl.mono L1) 266 #[Zs p1] ⟨Zzo,fun G8 w8 v8 x8 L8 hG8 hon8 hA8=>by obtain ⟨cs_x8,rfl,hr_x8⟩:=hA8; exact Zwj hG8 x8 nm cs_x8 hr_x8 p1 (C1.mono L8)⟩) (fun w2 G2 S2 L2=>?_)
 exact RI S2 U (by rfl)
theorem Zwk (d : Nat) : ∀ {G : GH} {w : World} (hG : G.In w) (c : Cond) (l : List Col) (cc : List Value) (hcc : (YQ d).rep G c cc) (vl : Value) (hvl : Sl ColE 24 G vl l),CL Tryz.prog (nat_lit 195) #[.agg cc.toArray,vl] [] w G fun _ _ r=>r = S (Xf d c l):=by
 induction d
 ·intro G w hG c l cc hcc vl hvl; exact (Zcp hcc).elim
 rename_i d ih
 intro G w hG c l cc hcc vl hvl
 refine Zh ft [13] Tryz.func195 U U ?_
 have hS:=St.start (X:=[]) hG
 obtain ⟨lv1,rfl,B1,B2,B3,B4,B5,B6,O1⟩:=Zcq hcc
 refine Zw [S c.kind,Za c.col,Za c.oth,S c.v.k,S c.v.n,Za c.v.s,lv1] _ hS U U U (fun p1 w1 G1 L1 M1 C1 S1=>?_)
 refine JN.go ft [13] (fun ρ1 w1=>∃ (G2 : GH),G1.le G2 ∧ St w [] G G2 [] w1 ∧ FR ρ1 [(1,vl),(2,Zs p1)] ∧ QI c l = 0) ?_ ?_
 ·refine Z S1 (XC.drop 0 C1) Zt U U U ?_
  refine ZC c.kind 1 U U U (fun h1=>?_) (fun h1=>?_)
  ·refine Z S1 (XC.drop 1 C1) ZF U U U ?_
   refine Zr S1 Zdb U U U (ZbT S1.imm l c.col _ (hvl.mono L1)) (fun w3 G3 S3 L3=>?_)
   have hf1:=Zbm (l:=l) (nm:=c.col)
   refine Zp (Yw l c.col) 0 U U U (fun h2=>?_) (fun h2=>?_)
   ·exact RI S3 U (by exact (Zcd (Zo1 (by first | exact .inl ‹_› | exact .inr ‹_›) ‹_›) (by decide)).symm)
   refine Z S3 (XC.drop 0 (XC.drop 3 (C1.mono L3))) Zt U U U <| Z S3 (XC.drop 2 (C1.mono L3)) ZF U U U <| ZJ .neq U c.oth [] U U U ?_
   refine WL.split (fun h0=>?_) (fun h0=>?_)
   ·have h3 : c.oth ≠ []:=by simpa [SCmp.b] using h0
    clear h0
    refine Z S3 (XC.drop 2 (C1.mono L3)) ZF U U U ?_
    have j1:=(L1.trans L3)
    refine Zr S3 Zdb U U U (ZbT S3.imm l c.oth _ (hvl.mono j1)) (fun w4 G4 S4 L4=>?_)
    have hf2:=Zbm (l:=l) (nm:=c.oth)
    refine Zp (Yw l c.oth) 0 U U U (fun h4=>?_) (fun h4=>?_)
    ·exact RI S4 U (by exact (Zcd (ZlD (by first | exact .inl ‹_› | exact .inr ‹_›) (by omega) ‹_› ‹_›) (by decide)).symm)
    refine WL.indexAddr (hvl.mono (j1.trans L4)) (((Yw l c.oth)).toNat) (by omega) Qk YX U U U (congrArg (Value.int .i64) (Int.toNat_of_nonneg (by omega)).symm) (fun p2 x1 U1 E1=>?_)
    obtain ⟨D1,C2,R1⟩:=E1
    obtain ⟨rfl,B7,B8⟩:=Xm R1
    refine Z S4 (XC.drop 1 C2) Zt U U U ?_
    refine WL.indexAddr (hvl.mono (j1.trans L4)) (((Yw l c.col)).toNat) (by omega) Qk YX U U U (congrArg (Value.int .i64) (Int.toNat_of_nonneg (by omega)).symm) (fun p3 x2 U2 E2=>?_)
    obtain ⟨D2,C3,R2⟩:=E2
    obtain ⟨rfl,B9,B10⟩:=Xm R2
    refine Z S4 (XC.drop 1 C3) Zt U U U ?_
    refine Yr x1.kind x2.kind U U U (fun h5=>?_) (fun h5=>?_)
    ·exact RI S4 U (by exact (Zcd ((ZkV (by first | exact .inl ‹_› | exact .inr ‹_›) (by omega) ‹_› (by omega) ‹_› ‹_›).trans (if_pos (by omega))) (by decide)).symm)
    exact ⟨G4,(L3.trans L4),S4,⟨U,U,trivial⟩,(by exact (ZkV (by first | exact .inl ‹_› | exact .inr ‹_›) (by omega) ‹_› (by omega) ‹_› ‹_›).trans (if_neg (by omega)))⟩
   have h3 : c.oth = []:=by simpa [SCmp.b] using h0
   clear h0
   refine WL.indexAddr (hvl.mono (L1.trans L3)) (((Yw l c.col)).toNat) (by omega) Qk YX U U U (congrArg (Value.int .i64) (Int.toNat_of_nonneg (by omega)).symm) (fun p4 x3 U3 E3=>?_)
   obtain ⟨D3,C4,R3⟩:=E3
   obtain ⟨rfl,Y6,YU⟩:=Xm R3
   refine Z S3 (XC.drop 1 C4) Zt U U U ?_
   refine Yr c.v.k x3.kind U U U (fun h6=>?_) (fun h6=>?_)
   ·exact RI S3 U (by exact (Zcd ((ZkU (by first | exact .inl ‹_› | exact .inr ‹_›) (by omega) ‹_› ‹_›).trans (if_pos (by omega))) (by decide)).symm)
   exact ⟨G3,L3,S3,⟨U,U,trivial⟩,(by exact (ZkU (by first | exact .inl ‹_› | exact .inr ‹_›) (by omega) ‹_› ‹_›).trans (if_neg (by omega)))⟩
  refine Z S1 (XC.drop 0 C1) Zt U U U ?_
  refine ZC c.kind 2 U U U (fun h7=>?_) (fun h7=>?_)
  ·refine Z S1 (XC.drop 1 C1) ZF U U U ?_
   refine Zr S1 Zdb U U U (ZbT S1.imm l c.col _ (hvl.mono L1)) (fun w5 G5 S5 L5=>?_)
   have hf1:=Zbm (l:=l) (nm:=c.col)
   refine Zp (Yw l c.col) 0 U U U (fun h8=>?_) (fun h8=>?_)
   ·exact RI S5 U (by exact (Zcd (Zo1 (by first | exact .inl ‹_› | exact .inr ‹_›) ‹_›) (by decide)).symm)
   refine Z S5 (XC.drop 0 (XC.drop 3 (C1.mono L5))) Zt U U U <| Z S5 (XC.drop 2 (C1.mono L5)) ZF U U U <| ZJ .neq U c.oth [] U U U ?_
   refine WL.split (fun h0=>?_) (fun h0=>?_)
   ·have h9 : c.oth ≠ []:=by simpa [SCmp.b] using h0
    clear h0
    refine Z S5 (XC.drop 2 (C1.mono L5)) ZF U U U ?_
    have j2:=(L1.trans L5)
    refine Zr S5 Zdb U U U (ZbT S5.imm l c.oth _ (hvl.mono j2)) (fun w6 G6 S6 L6=>?_)
    have hf2:=Zbm (l:=l) (nm:=c.oth)
    refine Zp (Yw l c.oth) 0 U U U (fun h10=>?_) (fun h10=>?_)
    ·exact RI S6 U (by exact (Zcd (ZlD (by first | exact .inl ‹_› | exact .inr ‹_›) (by omega) ‹_› ‹_›) (by decide)).symm)
    refine WL.indexAddr (hvl.mono (j2.trans L6)) (((Yw l c.oth)).toNat) (by omega) Qk YX U U U (congrArg (Value.int .i64) (Int.toNat_of_nonneg (by omega)).symm) (fun p5 x4 U4 E4=>?_)
    obtain ⟨D4,C5,R4⟩:=E4
    obtain ⟨rfl,Xa,XF⟩:=Xm R4
    refine Z S6 (XC.drop 1 C5) Zt U U U ?_
    refine WL.indexAddr (hvl.mono (j2.trans L6)) (((Yw l c.col)).toNat) (by omega) Qk YX U U U (congrArg (Value.int .i64) (Int.toNat_of_nonneg (by omega)).symm) (fun p6 x5 U5 E5=>?_)
    obtain ⟨D5,C6,R5⟩:=E5
    obtain ⟨rfl,Xz,QK⟩:=Xm R5
    refine Z S6 (XC.drop 1 C6) Zt U U U ?_
    refine Yr x4.kind x5.kind U U U (fun h11=>?_) (fun h11=>?_)
    ·exact RI S6 U (by exact (Zcd ((ZkV (by first | exact .inl ‹_› | exact .inr ‹_›) (by omega) ‹_› (by omega) ‹_› ‹_›).trans (if_pos (by omega))) (by decide)).symm)
    exact ⟨G6,(L5.trans L6),S6,⟨U,U,trivial⟩,(by exact (ZkV (by first | exact .inl ‹_› | exact .inr ‹_›) (by omega) ‹_› (by omega) ‹_› ‹_›).trans (if_neg (by omega)))⟩
   have h9 : c.oth = []:=by simpa [SCmp.b] using h0
   clear h0
   refine WL.indexAddr (hvl.mono (L1.trans L5)) (((Yw l c.col)).toNat) (by omega) Qk YX U U U (congrArg (Value.int .i64) (Int.toNat_of_nonneg (by omega)).symm) (fun p7 x6 U6 E6=>?_)
   obtain ⟨D6,C7,R6⟩:=E6
   obtain ⟨rfl,XG,XY⟩:=Xm R6
   refine Z S5 (XC.drop 1 C7) Zt U U U ?_
   refine Yr c.v.k x6.kind U U U (fun h12=>?_) (fun h12=>?_)
   ·exact RI S5 U (by exact (Zcd ((ZkU (by first | exact .inl ‹_› | exact .inr ‹_›) (by omega) ‹_› ‹_›).trans (if_pos (by omega))) (by decide)).symm)
   exact ⟨G5,L5,S5,⟨U,U,trivial⟩,(by exact (ZkU (by first | exact .inl ‹_› | exact .inr ‹_›) (by omega) ‹_› ‹_›).trans (if_neg (by omega)))⟩
  exact ⟨G1,(G1.le_refl),S1,⟨U,U,trivial⟩,(by exact ZwC ‹_› ‹_›)⟩
 rintro ρ1 w2 ⟨G2,L2,S2,F9,f1⟩
 refine F9.set ?_
 have ht0:=(by assumption : QI c l = 0)
 refine Z S2 (XC.drop 6 (C1.mono L2)) Zfj U U U ?_
 have V1:=O1.bound
 have j3:=(L1.trans L2)
 refine Zl (O1.mono j3) Zdr U U ?_
 refine LP.go ft [13] (fun m ρ1 w1=>∃ (k1 : Nat),∃ (G7 : GH),m = c.l.length - k1 ∧ G2.le G7 ∧ St w [] G G7 [] w1 ∧ FR ρ1 [(1,vl),(50,lv1),(51,S (c.l.length : Int)),(52,S (k1 : Int))] ∧ k1 ≤ c.l.length ∧ ∀ j,j < k1 → ∀ y,c.l[j]? = some y → Xf d y l = 0) _ ⟨0,G2,U,(G2.le_refl),S2,(Zq U),(by omega),(by intro j hj; omega)⟩ ?_
 rintro m ρ1 w7 ⟨k1,G7,rfl,L7,S7,F9,f2,f3⟩
 refine F9.set ?_
 clear F9
 refine Zp (k1 : Int) (c.l.length : Int) U U U (fun h13=>?_) (fun h13=>?_)
 ·refine WL.indexAddr (O1.mono (j3.trans L7)) k1 (by omega) Zdr XI U U U U (fun p8 x7 U7 E7=>?_)
  obtain ⟨D7,C8,R7⟩:=E7
  obtain ⟨lv2,rfl,Q8,ZaI,ZaJ,Zcv,ZbZ,Zaq,O2⟩:=Xo R7
  refine Zb S7 C8 [S x7.kind,Za x7.col,Za x7.oth,S x7.v.k,S x7.v.n,Za x7.v.s,lv2] XI U U U U U ?_
  refine WL.alloc S7 XI U U (fun b1 w9 N1 S8=>?_)
  refine Zi S8 0 [S x7.kind,Za x7.col,Za x7.oth,S x7.v.k,S x7.v.n,Za x7.v.s,lv2] U U XI U U (by simp only [ZA,O2] <;> rfl) U U U (fun w10 S9=>?_)
  obtain ⟨G9,L9,C9,S10⟩:=S9.shutB N1
  refine Zb S10 C9 [S x7.kind,Za x7.col,Za x7.oth,S x7.v.k,S x7.v.n,Za x7.v.s,lv2] XI U U U U U ?_
  refine Zr S10 ZuG U U U (ih S10.imm x7 l _ ((YQ _).mono L9 R7) _ (hvl.mono (((L1.trans L2).trans L7).trans L9))) (fun w11 G10 S11 L10=>?_)
  refine Yr (Xf d x7 l) 0 U U U (fun h14=>?_) (fun h14=>?_)
  ·exact RI S11 U (by exact (Zvu ht0 ‹_› ‹_› ‹_›).symm)
  refine Zj k1 (by have:=Zc; omega) U U U ?_
  exact BK.mk' _ ⟨k1 + 1,G10,U,(L7.trans (L9.trans L10)),S11,(Zq U),(by omega),(by exact ZW ‹_› ‹_› ‹_›)⟩ (show c.l.length - (k1 + 1) < c.l.length - k1 by omega)
 exact RI S7 U (by exact (Zvv ht0 ‹_› (by omega)).symm)
end Go.Civ
namespace Go.Civ
open Go.RowKit
set_option linter.unusedVariables false
section
variable (M : List Val → List Val → Bool) (l : List HRow)
def Zby (v : List Val) (tx : Int) : List Span:=(l.filter fun o=>Xv tx o && M v o.v).map fun o=>o.r.d
def QE (v : List Val) (d : Span) (tx : Int) : List Span:=Yh 3 [d] (Zai (Zby M l v tx))
def ZfF (t : List HRow) (v : List Val) (vd tx : Int) : Prop:=Zcb t v vd tx ∧ ∀ u,M v u = true → ¬ Zcb l u vd tx
def QH (r : HRow) : List Int → Option Pt
 | []=>none
 | x :: ts=>if XX x r.r.x then (match QE M l r.v r.r.d x with
  | s :: _=>some ⟨x,s.a,r.v⟩
  | []=>QH r ts) else none
def YC (r : HRow) (fr : Int) : Int:=max r.r.x.a fr
def Zli (r : HRow) (fr : Int) (x : Int) : Prop:=x = YC r fr ∨ ∃ o ∈ l,YC r fr < o.r.x.b ∧ M r.v o.v = true ∧ o.r.x.b = x
end
section
variable {M : List Val → List Val → Bool} {l t : List HRow} {v : List Val} {d : Span} {tx vd fr : Int} {r : HRow} {ts : List Int}
theorem Zey (hg : Z8 l) : ∀ s ∈ Zby M l v tx,ZN s = true:=fun s hs=>by
 obtain ⟨o,ho,rfl⟩:=List.mem_map.1 hs
 exact (Yk (hg o (List.mem_filter.1 ho).1)).2.1
theorem ZhV (hg : Z8 l) (hd : d.a < d.b) : Can (QE M l v d tx) ∧ ∀ x,cover (QE M l v d tx) x ↔ (d.a ≤ x ∧ x < d.b) ∧ ¬ ∃ o ∈ l,Xv tx o = true ∧ M v o.v = true ∧ o.r.d.a ≤ x ∧ x < o.r.d.b:=by
 have c:=Q7 fun s hs=>YG (Zey (M:=M) (v:=v) (tx:=tx) hg s hs)
 have h:=Zcf (kind:=3) rfl (a:=[d]) (b:=Zai (Zby M l v tx)) (by simpa using hd) c.can.pos
 refine ⟨h.1,fun x=>(h.2 x).trans ?_⟩
 have e1 : Xx [d] x = true ↔ d.a ≤ x ∧ x < d.b:=by rw [Zaf,QP]
 have e2 : Xx (Zai (Zby M l v tx)) x = true ↔ ∃ o ∈ l,Xv tx o = true ∧ M v o.v = true ∧ o.r.d.a ≤ x ∧ x < o.r.d.b:=by
  rw [Zaf,c.cov]
  unfold cover Zby
  constructor
  ·rintro ⟨s,hs,k⟩
   obtain ⟨o,ho,rfl⟩:=List.mem_map.1 hs
   rw [List.mem_filter,Bool.and_eq_true] at ho
   exact ⟨o,ho.1,ho.2.1,ho.2.2,k⟩
  ·rintro ⟨o,ho,k1,k2,k3⟩
   exact ⟨o.r.d,List.mem_map.2 ⟨o,List.mem_filter.2 ⟨ho,by rw [k1,k2]; rfl⟩,rfl⟩,k3⟩
 rw [← e1,← e2]
 simp [Zab]
theorem Zk7 (hg : Z8 l) (hd : d.a < d.b) {s : Span} {q : List Span} (h : QE M l v d tx = s :: q) : cover (QE M l v d tx) s.a ∧ (∀ x,cover (QE M l v d tx) x → s.a ≤ x) ∧ (s.a = d.a ∨ ∃ o ∈ l,o.r.d.b = s.a):=by
 have I:=ZhV (M:=M) (v:=v) (tx:=tx) hg hd
 have hc:=I.1
 rw [h] at hc
 have hp:=hc.pos s (by simp)
 have c1 : cover (QE M l v d tx) s.a:=by rw [h]; exact ⟨s,by simp,Int.le_refl _,hp⟩
 have c2 : ∀ x,cover (QE M l v d tx) x → s.a ≤ x:=fun x hx=>by
  rw [h] at hx
  rcases Xp.1 hx with k | k
  ·exact k.1
  ·have:=hc.above k; omega
 refine ⟨c1,c2,?_⟩
 obtain ⟨k1,k2⟩:=(I.2 s.a).1 c1
 by_cases e : s.a = d.a
 ·exact .inl e
 ·right
  have n1 : ¬ cover (QE M l v d tx) (s.a - 1):=fun k=>by have:=c2 _ k; omega
  rw [I.2] at n1
  have : ∃ o ∈ l,Xv tx o = true ∧ M v o.v = true ∧ o.r.d.a ≤ s.a - 1 ∧ s.a - 1 < o.r.d.b:=by
   refine Classical.byContradiction fun q=>n1 ⟨⟨by omega,by omega⟩,q⟩
  obtain ⟨o,ho,q1,q2,q3,q4⟩:=this
  refine ⟨o,ho,?_⟩
  have : ¬ (o.r.d.a ≤ s.a ∧ s.a < o.r.d.b):=fun k=>k2 ⟨o,ho,q1,q2,k⟩
  omega
theorem Zdm : ∀ {ts : List Int} {p : Pt},QH M l r ts = some p → p.tx ∈ ts ∧ XX p.tx r.r.x = true ∧ p.v = r.v ∧ ∃ s q,QE M l r.v r.r.d p.tx = s :: q ∧ p.vd = s.a
 | [],p,h=>by cases h
 | x :: ts,p,h=>by
  unfold QH at h
  split at h
  ·rename_i hx
   split at h
   ·rename_i s q hl
    obtain rfl:=Option.some.inj h
    exact ⟨by simp,hx,rfl,s,q,hl,rfl⟩
   ·obtain ⟨a,b⟩:=Zdm h
    exact ⟨List.mem_cons_of_mem _ a,b⟩
  ·cases h
theorem Zod : ∀ {ts : List Int} {x : Int},ts.Pairwise (· < ·) → x ∈ ts → x < r.r.x.b → (∀ y ∈ ts,r.r.x.a ≤ y) → QE M l r.v r.r.d x ≠ [] → ∃ p,QH M l r ts = some p ∧ p.tx ≤ x
 | [],x,_,h,_,_,_=>by cases h
 | y :: ts,x,hp,h,hx,ha,hl=>by
  obtain ⟨hp1,hp2⟩:=List.pairwise_cons.1 hp
  have hyx : y ≤ x:=by
   rcases List.mem_cons.1 h with e | h
   ·omega
   ·have:=hp1 x h; omega
  have hy : XX y r.r.x = true:=Zj3.2 ⟨ha y (by simp),by omega⟩
  unfold QH
  rw [if_pos hy]
  split
  ·exact ⟨_,rfl,hyx⟩
  ·rename_i e
   rcases List.mem_cons.1 h with e2 | h
   ·subst e2; exact absurd e hl
   ·exact Zod hp2 h hx (fun z hz=>ha z (by simp [hz])) hl
theorem Zr6 (hgl : Z8 l) (hgt : Z8 t) (hr : r ∈ t) {p : Pt} (hts : ∀ x ∈ ts,Zli M l r fr x) (h : QH M l r ts = some p) :
  ZfF M l t p.v p.vd p.tx ∧ fr ≤ p.tx ∧ (p.tx = fr ∨ (∃ q ∈ t,q.r.x.a = p.tx) ∨ ∃ o ∈ l,o.r.x.b = p.tx) ∧ ((∃ q ∈ t,q.r.d.a = p.vd) ∨ ∃ o ∈ l,o.r.d.b = p.vd):=by
 obtain ⟨h1,h2,h3,s,q,h4,h5⟩:=Zdm h
 have hd:=YG (Yk (hgt r hr)).2.1
 obtain ⟨c1,c2,c3⟩:=Zk7 hgl hd h4
 obtain ⟨k1,k2⟩:=((ZhV hgl hd).2 s.a).1 c1
 rw [Zj3] at h2
 refine ⟨⟨⟨r,hr,h3.symm,Zat.2 ⟨by rw [h5]; exact k1.1,by rw [h5]; exact k1.2,h2.1,h2.2⟩⟩,fun u hu=>?_⟩,?_,?_,?_⟩
 ·rintro ⟨o,ho,ho1,ho2⟩
  obtain ⟨z1,z2,z3,z4⟩:=Zat.1 ho2
  refine k2 ⟨o,ho,by unfold Xv; simp; exact ⟨z3,z4⟩,by rw [ho1,← h3]; exact hu,by rw [h5] at z1 z2; exact ⟨z1,z2⟩⟩
 ·rcases hts _ h1 with e | ⟨o,ho,e1,_,e2⟩
  ·rw [e]; unfold YC; omega
  ·unfold YC at e1; omega
 ·rcases hts _ h1 with e | ⟨o,ho,e1,_,e2⟩
  ·unfold YC at e
   rcases Int.le_total r.r.x.a fr with z | z
   ·left; omega
   ·right; left; exact ⟨r,hr,by omega⟩
  ·right; right; exact ⟨o,ho,e2⟩
 ·rcases c3 with c3 | ⟨o,ho,c3⟩
  ·left; exact ⟨r,hr,by rw [h5]; exact c3.symm⟩
  ·right; exact ⟨o,ho,by rw [h5]; exact c3⟩
theorem Zk8 : ∀ {ts : List Int} {x : Int},(∃ y ∈ ts,y ≤ x) → ∃ y ∈ ts,y ≤ x ∧ ∀ z ∈ ts,z ≤ x → z ≤ y
 | [],x,⟨y,hy,_⟩=>by cases hy
 | a :: ts,x,h=>by
  by_cases q : ∃ y ∈ ts,y ≤ x
  ·obtain ⟨y,hy,h1,h2⟩:=Zk8 q
   by_cases e : a ≤ x ∧ y < a
   ·refine ⟨a,by simp,e.1,fun z hz hzx=>?_⟩
    rcases List.mem_cons.1 hz with k | k
    ·omega
    ·have:=h2 z k hzx; omega
   ·refine ⟨y,by simp [hy],h1,fun z hz hzx=>?_⟩
    rcases List.mem_cons.1 hz with k | k
    ·omega
    ·exact h2 z k hzx
  ·obtain ⟨y,hy,hyx⟩:=h
   rcases List.mem_cons.1 hy with k | k
   ·subst k
    refine ⟨y,by simp,hyx,fun z hz hzx=>?_⟩
    rcases List.mem_cons.1 hz with k | k
    ·omega
    ·exact absurd ⟨z,k,hzx⟩ q
   ·exact absurd ⟨y,k,hyx⟩ q
theorem ZmW (hgl : Z8 l) (hgt : Z8 t) (hf : fr ≤ tx) (h : ZfF M l t v vd tx) : ∃ r ∈ t,r.v = v ∧ ∀ ts : List Int,ts.Pairwise (· < ·) → (∀ x,x ∈ ts ↔ Zli M l r fr x) → ∃ p,QH M l r ts = some p ∧ (p.tx < tx ∨ (p.tx = tx ∧ p.vd ≤ vd)):=by
 obtain ⟨⟨r,hr,hv,hh⟩,hn⟩:=h
 refine ⟨r,hr,hv,fun ts hp hm=>?_⟩
 obtain ⟨a1,a2,a3,a4⟩:=Zat.1 hh
 have hd:=YG (Yk (hgt r hr)).2.1
 have hs : YC r fr ≤ tx:=by unfold YC; omega
 obtain ⟨y,hy,hyx,hlast⟩:=Zk8 ⟨YC r fr,(hm _).2 (.inl rfl),hs⟩
 have hge : ∀ z ∈ ts,YC r fr ≤ z:=fun z hz=>by
  rcases (hm z).1 hz with e | ⟨o,_,e1,_,e2⟩ <;> omega
 have hc : cover (QE M l r.v r.r.d y) vd:=by
  rw [(ZhV hgl hd).2]
  refine ⟨⟨a1,a2⟩,?_⟩
  rintro ⟨o,ho,q1,q2,q3,q4⟩
  unfold Xv at q1
  simp at q1
  have hsy:=hge y hy
  have hob : tx < o.r.x.b:=by
   rcases Int.lt_or_le tx o.r.x.b with z | z
   ·exact z
   ·have:=hlast _ ((hm _).2 (.inr ⟨o,ho,by omega,q2,rfl⟩)) z; omega
  exact hn o.v (by rw [← hv]; exact q2) ⟨o,ho,rfl,Zat.2 ⟨q3,q4,by omega,hob⟩⟩
 have hne : QE M l r.v r.r.d y ≠ []:=fun e=>by rw [e] at hc; obtain ⟨_,k,_⟩:=hc; cases k
 obtain ⟨p,hp1,hp2⟩:=Zod hp hy (by omega) (fun z hz=>by have:=hge z hz; unfold YC at this; omega) hne
 refine ⟨p,hp1,?_⟩
 by_cases e : p.tx = tx
 ·right
  refine ⟨e,?_⟩
  have ey : y = tx:=by omega
  obtain ⟨_,_,_,s,q,h4,h5⟩:=Zdm hp1
  rw [h5]
  refine (Zk7 hgl hd h4).2.1 vd ?_
  rw [e,← ey]; exact hc
 ·left; omega
end
end Go.Civ
