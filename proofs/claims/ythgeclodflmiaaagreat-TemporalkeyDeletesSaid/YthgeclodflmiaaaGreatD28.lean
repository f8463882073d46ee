/- Lemmas. -/
import Derived.Test.YthgeclodflmiaaaGreatD19
import Derived.Test.YthgeclodflmiaaaGreatD25
import Derived.Test.YthgeclodflmiaaaGreatD26
import Derived.Test.YthgeclodflmiaaaGreatD27
import Derived.Test.YthgeclodflmiaaaGreatProg
import Derived.KernelRfl
import Derived.WalkKit
set_option linter.unusedVariables false
set_option linter.unusedSimpArgs false
set_option maxRecDepth 100000
set_option maxHeartbeats 4000000
namespace Go.Civ
open Go.Proofs
theorem Zbv {G : GH} {w : World} (hG : G.In w) (t : Table) (ct : List Value) (hct : TableE.rep G t ct) : CL Tryz.prog (nat_lit 14) #[.agg ct.toArray] [] w G fun _ _ r=>r = .bool (Zu t):=by
 refine Zh ft [] Tryz.func14 U U ?_
 have hS:=St.start (X:=[]) hG
 obtain ⟨v1,v2,v3,rfl,B1,A1,B2,A2,A3,B3⟩:=Zy hct
 refine Zw [Za t.s.name,v1,S t.s.key,v2,v3,S t.last] _ hS U U U (fun p1 w1 G1 L1 M1 C1 S1=>?_)
 refine Zb S1 (XC.drop 0 C1) [Za t.s.name,v1,S t.s.key,v2] Qo U U U U U ?_
 refine Zr S1 ZsA U U U (ZhQ S1.imm t.s _ (Yo t.s B1 (A1.mono L1) B2 (A2.mono L1))) (fun w2 G2 S2 L2=>?_)
 refine WL.split (fun (h1 : (YB t.s) = true)=>?_) (fun (h1 : (YB t.s) = false)=>?_)
 ·refine Z S2 (XC.drop 5 (C1.mono L2)) Zt U U U ?_
  refine Zp t.last (-62135596801) U U U (fun h2=>?_) (fun h2=>?_)
  ·exact RB S2 U (by exact Zf3 (Ztp (by omega)))
  refine Z S2 (XC.drop 5 (C1.mono L2)) Zt U U U ?_
  refine QB t.last 253402300800 U U U (fun h3=>?_) (fun h3=>?_)
  ·exact RB S2 U (by exact Zf3 (Ztq (by omega)))
  refine Z S2 (XC.drop 4 (C1.mono L2)) YK U U U ?_
  have V1:=A3.bound
  have j1:=(L1.trans L2)
  refine Zl (A3.mono j1) Yn U U ?_
  refine Xd (t.rows.length : Int) 500 U U U (fun h4=>?_) (fun h4=>?_)
  ·exact RB S2 U (by exact Zf3 (Ztr (by omega)))
  have hA:=Zpl (by assumption : YB t.s = true) (by omega) (by omega) (by omega)
  refine Z S2 (XC.drop 4 (C1.mono L2)) YK U U U ?_
  have V2:=A3.bound
  refine Zl (A3.mono j1) Yn U U ?_
  refine LP.go ft [] (fun m ρ1 w1=>∃ (k1 : Nat),∃ (G3 : GH),m = t.rows.length - k1 ∧ G2.le G3 ∧ St w [] G G3 [] w1 ∧ FR ρ1 [(1,Zs p1),(27,v3),(28,S (t.rows.length : Int)),(29,S (k1 : Int))] ∧ k1 ≤ t.rows.length ∧ ∀ j,j < k1 → ∀ x,t.rows[j]? = some x → Xc t.s t.last x = true) _ ⟨0,G2,U,(G2.le_refl),S2,(Zq U),(by omega),(by intro j hj; omega)⟩ ?_
  rintro m ρ1 w3 ⟨k1,G3,rfl,L3,S3,F9,f1,f2⟩
  refine F9.set ?_
  clear F9
  refine Zp (k1 : Int) (t.rows.length : Int) U U U (fun h5=>?_) (fun h5=>?_)
  ·have j2:=(j1.trans L3)
   refine WL.indexAddr (A3.mono j2) k1 (by omega) Yn Zz U U U U (fun p2 x1 U1 E1=>?_)
   obtain ⟨D1,C2,R1⟩:=E1
   obtain ⟨v4,rfl,A4,B4,B5,B6,B7⟩:=Z7 R1
   refine Zb S3 C2 [v4,S x1.r.d.a,S x1.r.d.b,S x1.r.x.a,S x1.r.x.b] Zz U U U U U ?_
   refine WL.alloc S3 Zz U U (fun b1 w4 N1 S4=>?_)
   refine Zi S4 0 [v4,S x1.r.d.a,S x1.r.d.b,S x1.r.x.a,S x1.r.x.b] U U Zz U U (by simp only [ZA,A4.oneC] <;> rfl) U U U (fun w5 S5=>?_)
   obtain ⟨G4,L4,C3,S6⟩:=S5.shutB N1
   refine Zb S6 (XC.drop 2 (XC.drop 1 C3)) [S x1.r.x.a,S x1.r.x.b] Z2 U U U U U ?_
   refine WL.alloc S6 Z2 U U (fun b2 w6 N2 S7=>?_)
   refine Zi S7 0 [S x1.r.x.a,S x1.r.x.b] U U Z2 U U U U U U (fun w7 S8=>?_)
   obtain ⟨G5,L5,C4,S9⟩:=S8.shutB N2
   have j3:=(((L2.trans L3).trans L4).trans L5)
   refine Zb S9 (XC.drop 0 (C1.mono j3)) [Za t.s.name,v1,S t.s.key,v2] Qo U U U U U <| Z S9 (XC.drop 0 (C3.mono L5)) ZK U U U ?_
   have j4:=((j2.trans L4).trans L5)
   have j5:=(L4.trans L5)
   refine Zr S9 Zxb U U U (Zrk S9.imm t.s x1.v _ (Yo t.s B1 (A1.mono j4) B2 (A2.mono j4)) _ (A4.mono j5)) (fun w9 G6 S10 L6=>?_)
   refine Yr (X3 t.s x1.v) 0 U U U (fun h6=>?_) (fun h6=>?_)
   ·exact RB S10 U (by exact Zd8 ‹_› (ZvV ‹_›))
   refine Zb S10 (C3.mono (L5.trans L6)) [v4,S x1.r.d.a,S x1.r.d.b,S x1.r.x.a,S x1.r.x.b] Zz U U U U U ?_
   have j6:=(j5.trans L6)
   refine Zr S10 Zxc U U U (ZnV S10.imm x1 _ (ZT x1 (A4.mono j6) B4 B5 B6 B7)) (fun w10 G7 S11 L7=>?_)
   refine WL.split (fun (h7 : (YA x1) = true)=>?_) (fun (h7 : (YA x1) = false)=>?_)
   ·have j7:=(L6.trans L7)
    have j8:=((j3.trans L6).trans L7)
    refine Z S11 (XC.drop 0 (C4.mono j7)) Zt U U U <| Z S11 (XC.drop 5 (C1.mono j8)) Zt U U U ?_
    refine Xd x1.r.x.a t.last U U U (fun h8=>?_) (fun h8=>?_)
    ·exact RB S11 U (by exact Zd8 ‹_› (ZvX (by omega)))
    refine Z S11 (XC.drop 1 (C4.mono j7)) Zt U U U <| Z S11 (XC.drop 5 (C1.mono j8)) Zt U U U ?_
    refine Xd x1.r.x.b t.last U U U (fun h9=>?_) (fun h9=>?_)
    ·refine Z S11 (XC.drop 1 (C4.mono j7)) Zt U U U ?_
     refine Yr x1.r.x.b 253402300800 U U U (fun h10=>?_) (fun h10=>?_)
     ·exact RB S11 U (by exact Zd8 ‹_› (ZvY (by omega) (by omega)))
     refine Zj k1 (by have:=Zc; omega) U U U ?_
     exact BK.mk' _ ⟨k1 + 1,G7,U,(L3.trans (j6.trans L7)),S11,(Zq U),(by omega),(by exact ZW ‹_› ‹_› (Zj0 ‹_› ‹_› (by omega) (by exact .inr (by omega))))⟩ (show t.rows.length - (k1 + 1) < t.rows.length - k1 by omega)
    refine Zj k1 (by have:=Zc; omega) U U U ?_
    exact BK.mk' _ ⟨k1 + 1,G7,U,(L3.trans (j6.trans L7)),S11,(Zq U),(by omega),(by exact ZW ‹_› ‹_› (Zj0 ‹_› ‹_› (by omega) (by exact .inl (by omega))))⟩ (show t.rows.length - (k1 + 1) < t.rows.length - k1 by omega)
   exact RB S11 U (by exact Zd8 ‹_› (ZvW ‹_›))
  have hall:=Y4 (p:=Xc t.s t.last) ‹_› (by omega)
  obtain ⟨hg9,hl9⟩:=ZqM hall
  refine dr [(4,true),(5,false),(6,false)] [(68,v3),(70,v3)] S3 ⟨fun _ hSw=>Z hSw (XC.drop 4 (C1.mono (L2.trans L3))) YK U U U <| nu U U,fun _ hSw=>Z hSw (XC.drop 4 (C1.mono (L2.trans L3))) YK U U U <| nu U U,trivial⟩ (fun w11 S12=>?_)
  refine Z9 S12 ZoK U U U (Zg5 S12.imm t.rows _ (A3.mono (j1.trans L3)) hg9 (Zm0 hl9) (by omega)) (fun w12 G9 r1 P1 S13 L9=>?_)
  refine ⟨S13.down S12.le L9,?_⟩
  refine Zr S13 ZzT U U U (ZtE S13.imm t.rows (Yd t.rows) (fun x8 y8=>decide (x8 = y8)) _ (A3.mono (((L1.trans L2).trans L3).trans L9)) _ P1 67 #[] ⟨ZzU,fun G8 w8 v8 u8 x8 y8 L8 hG8 hon8 hA8 hB8=>by obtain ⟨cs_x8,rfl,hr_x8⟩:=hA8; obtain ⟨cs_y8,rfl,hr_y8⟩:=hB8; exact ZtD hG8 x8 y8 cs_x8 hr_x8 cs_y8 hr_y8⟩) (fun w13 G10 S14 L10=>?_)
  exact RB S14 U (by exact ZqL hA hall)
 exact RB S2 U (by exact Zf3 (Zto ‹_›))
theorem ZmL {G : GH} {w : World} (hG : G.In w) (t : Table) (tx : Int) (ct : List Value) (hct : TableE.rep G t ct) : CL Tryz.prog (nat_lit 79) #[.agg ct.toArray,S tx] [] w G fun _ _ r=>r = S (Xk t tx):=by
 refine Zh ft [] Tryz.func79 U U ?_
 have hS:=St.start (X:=[]) hG
 obtain ⟨v1,v2,v3,rfl,B1,A1,B2,A2,A3,B3⟩:=Zy hct
 refine Zw [Za t.s.name,v1,S t.s.key,v2,v3,S t.last] _ hS U U U (fun p1 w1 G1 L1 M1 C1 S1=>?_)
 refine Zr S1 ZoO U U U (Zew S1.imm tx) (fun w2 G2 S2 L2=>?_)
 refine WL.split (fun (h1 : (Y1 tx) = true)=>?_) (fun (h1 : (Y1 tx) = false)=>?_)
 ·refine Z S2 (XC.drop 5 (C1.mono L2)) Zt U U U ?_
  refine QS tx t.last U U U (fun h2=>?_) (fun h2=>?_)
  ·exact RI S2 U (by exact ZxD ‹_› ‹_›)
  exact RI S2 U (by exact ZxE ‹_› (by omega))
 exact RI S2 U (by exact ZxC ‹_›)
theorem Zg6 {G : GH} {w : World} (hG : G.In w) (t : Table) (tx : Int) (l : List HRow) (ct : List Value) (hct : TableE.rep G t ct) (vl : Value) (hvl : Sl HRowE 56 G vl l) (htx64 : Z0 tx) (hgood : Z8 l) (hlen : ∀ r ∈ l,r.v.length ≤ 1000) (hl : l.length ≤ 2000) : CL Tryz.prog (nat_lit 80) #[.agg ct.toArray,S tx,vl] [] w G fun G' _ r=>∃ r0 r1,r = .tuple #[r0,r1] ∧ Is TableE G' r0 (ZQ t tx l) ∧ r1 = S (XT l):=by
 refine Y2 ft [] Tryz.func80 U U ?_
 have hS:=St.start (X:=[]) hG
 obtain ⟨v1,v2,v3,rfl,B1,A1,B2,A2,A3,B3⟩:=Zy hct
 refine Zw [Za t.s.name,v1,S t.s.key,v2,v3,S t.last] _ hS U U U (fun p1 w1 G1 L1 M1 C1 S1=>?_)
 refine WL.alloc S1 Zm U U (fun b1 w2 N1 S2=>?_)
 refine drT [3,5,6,7] [(10, .agg #[Za t.s.name,v1,S t.s.key,v2])] S2 ⟨fun _ hSw=>Zb hSw (XC.drop 0 C1) [Za t.s.name,v1,S t.s.key,v2] Qo U U U U U <| nu U U,trivial⟩ (fun w3 S3=>?_)
 refine TG.fork 3 [3,5,6,7] [3,6] U U (by decide) (by decide) (TA.cons U ?_ (TA.cons U ?_ TA.nil))
 ·refine Z9 S3 ZoK U U U (Zg5 S3.imm l _ (hvl.mono L1) hgood hlen hl) (fun w4 G2 r1 P1 S4 L2=>?_)
  refine ⟨fun _=>S4.down S3.le L2,?_⟩
  refine TG.quiet 2 [5,6,7] 5 U U U U U (by decide) (fun w9 K9 k9=>WL.build _ [(0,[Za t.s.name,v1,S t.s.key,v2]),(1,[r1]),(2,[S tx])] [Za t.s.name,v1,S t.s.key,v2,r1,S tx] Zm U QF U U (by show [(0,(.agg #[Za t.s.name,v1,S t.s.key,v2] : Value).cells.toList),(1,(r1 : Value).cells.toList),(2,(S tx : Value).cells.toList)] = _; simp only [P1.cells1] <;> rfl) U k9) ?_
  refine TG.fork 1 [6,7] [6] U U (by decide) (by decide) (TA.cons U ?_ TA.nil)
  refine WL.alloc S4 Zm U U (fun b2 w5 N2 S5=>?_)
  refine ⟨fun _=>S5.tail.down S3.le L2,?_⟩
  refine TG.fork 0 [7] [7] U U (by decide) (by decide) (TA.cons U ?_ TA.nil)
  have j1:=(L1.trans L2)
  refine Zi S5 0 [Za t.s.name,v1,S t.s.key,v2,r1,S tx] U U Zm U U (by simp only [ZA,(A1.mono j1).oneC,(A2.mono j1).oneC,P1.oneC] <;> rfl) U U U (fun w6 S6=>?_)
  obtain ⟨G3,L3,C2,S7⟩:=S6.shutB N2
  refine ⟨fun h=>absurd h (by decide),?_⟩
  refine TG.fin U ?_
  refine Z S7 (XC.drop 4 C2) YK U U U ?_
  have V1:=P1.bound
  refine Zl (P1.mono L3) Yn U U ?_
  refine Xd (((Yd l).length : Nat) : Int) 500 U U U (fun h1=>?_) (fun h1=>?_)
  ·refine WL.build _ [] [Za [],Ze,S 0,Ze,Ze,S 0] Zm U QF U U U U ?_
   refine Zi S7 0 [Za [],Ze,S 0,Ze,Ze,S 0] U U Zm U U U U U U (fun w7 S8=>?_)
   exact Xr [.agg #[Za [],Ze,S 0,Ze,Ze,S 0],S 5] S8 ⟨_,_,_,U,U,S8.loadA 0 _ _ _ 0 [Za [],Ze,S 0,Ze,Ze,S 0] U U U Zm U,⟨_,U,U⟩⟩ ⟨_,_,U,(Is.cast ⟨_,U,(Zo (Table.mk (Schema.mk [] [] 0 []) [] 0) (by simp [reach]) (Sl.nil ColE 24 G3) ZP (Sl.nil ForeignE 40 G3) (Sl.nil HRowE 56 G3) ZP)⟩ (by exact (ZgS (by omega)).1)),(congrArg (Value.int .i64) (by exact (ZgS (t:=t) (tx:=tx) (by omega)).2))⟩
  refine Zb S7 C2 [Za t.s.name,v1,S t.s.key,v2,r1,S tx] Zm U U U U U ?_
  have j2:=(j1.trans L3)
  refine Zi S7 0 [Za t.s.name,v1,S t.s.key,v2,r1,S tx] U U Zm U U (by simp only [ZA,(A1.mono j2).oneC,(A2.mono j2).oneC,(P1.mono L3).oneC] <;> rfl) U U U (fun w9 S9=>?_)
  exact Xr [.agg #[Za t.s.name,v1,S t.s.key,v2,r1,S tx],S 0] S9 ⟨_,_,_,U,U,S9.loadA 0 _ _ _ 0 [Za t.s.name,v1,S t.s.key,v2,r1,S tx] U U U Zm U,⟨_,U,U⟩⟩ ⟨_,_,U,(Is.cast ⟨_,U,(Zo (Table.mk t.s (Yd l) tx) B1 (A1.mono j2) B2 (A2.mono j2) (P1.mono L3) htx64)⟩ (by exact (Zf4 (by omega)).1)),(congrArg (Value.int .i64) (by exact (Zf4 (t:=t) (tx:=tx) (by omega)).2))⟩
 refine WL.alloc S3 Zm U U (fun b3 w10 N3 S10=>?_)
 refine ⟨fun _=>S10.tail.down S3.le (G1.le_refl),?_⟩
 refine TG.fork 2 [3,5,7] [3] U U (by decide) (by decide) (TA.cons U ?_ TA.nil)
 refine Z9 S10 ZoK U U U (Zg5 S10.imm l _ (hvl.mono L1) hgood hlen hl) (fun w11 G4 r2 P2 S11 L4=>?_)
 refine ⟨fun _=>S11.tail.down S3.le L4,?_⟩
 refine TG.quiet 1 [5,7] 5 U U U U U (by decide) (fun w9 K9 k9=>WL.build _ [(0,[Za t.s.name,v1,S t.s.key,v2]),(1,[r2]),(2,[S tx])] [Za t.s.name,v1,S t.s.key,v2,r2,S tx] Zm U QF U U (by show [(0,(.agg #[Za t.s.name,v1,S t.s.key,v2] : Value).cells.toList),(1,(r2 : Value).cells.toList),(2,(S tx : Value).cells.toList)] = _; simp only [P2.cells1] <;> rfl) U k9) ?_
 refine TG.fork 0 [7] [7] U U (by decide) (by decide) (TA.cons U ?_ TA.nil)
 have j3:=(L1.trans L4)
 refine Zi S11 0 [Za t.s.name,v1,S t.s.key,v2,r2,S tx] U U Zm U U (by simp only [ZA,(A1.mono j3).oneC,(A2.mono j3).oneC,P2.oneC] <;> rfl) U U U (fun w12 S12=>?_)
 obtain ⟨G5,L5,C3,S13⟩:=S12.shutB N3
 refine ⟨fun h=>absurd h (by decide),?_⟩
 refine TG.fin U ?_
 refine Z S13 (XC.drop 4 C3) YK U U U ?_
 have V2:=P2.bound
 refine Zl (P2.mono L5) Yn U U ?_
 refine Xd (((Yd l).length : Nat) : Int) 500 U U U (fun h2=>?_) (fun h2=>?_)
 ·refine WL.build _ [] [Za [],Ze,S 0,Ze,Ze,S 0] Zm U QF U U U U ?_
  refine Zi S13 0 [Za [],Ze,S 0,Ze,Ze,S 0] U U Zm U U U U U U (fun w13 S14=>?_)
  exact Xr [.agg #[Za [],Ze,S 0,Ze,Ze,S 0],S 5] S14 ⟨_,_,_,U,U,S14.loadA 0 _ _ _ 0 [Za [],Ze,S 0,Ze,Ze,S 0] U U U Zm U,⟨_,U,U⟩⟩ ⟨_,_,U,(Is.cast ⟨_,U,(Zo (Table.mk (Schema.mk [] [] 0 []) [] 0) (by simp [reach]) (Sl.nil ColE 24 G5) ZP (Sl.nil ForeignE 40 G5) (Sl.nil HRowE 56 G5) ZP)⟩ (by exact (ZgS (by omega)).1)),(congrArg (Value.int .i64) (by exact (ZgS (t:=t) (tx:=tx) (by omega)).2))⟩
 refine Zb S13 C3 [Za t.s.name,v1,S t.s.key,v2,r2,S tx] Zm U U U U U ?_
 have j4:=(j3.trans L5)
 refine Zi S13 0 [Za t.s.name,v1,S t.s.key,v2,r2,S tx] U U Zm U U (by simp only [ZA,(A1.mono j4).oneC,(A2.mono j4).oneC,(P2.mono L5).oneC] <;> rfl) U U U (fun w14 S15=>?_)
 exact Xr [.agg #[Za t.s.name,v1,S t.s.key,v2,r2,S tx],S 0] S15 ⟨_,_,_,U,U,S15.loadA 0 _ _ _ 0 [Za t.s.name,v1,S t.s.key,v2,r2,S tx] U U U Zm U,⟨_,U,U⟩⟩ ⟨_,_,U,(Is.cast ⟨_,U,(Zo (Table.mk t.s (Yd l) tx) B1 (A1.mono j4) B2 (A2.mono j4) (P2.mono L5) htx64)⟩ (by exact (Zf4 (by omega)).1)),(congrArg (Value.int .i64) (by exact (Zf4 (t:=t) (tx:=tx) (by omega)).2))⟩
theorem ZuP {G : GH} {w : World} (hG : G.In w) (l : List Int) (vl : Value) (hvl : Sl Enc.int 8 G vl l) : CL Tryz.prog (nat_lit 78) #[vl] [] w G fun _ _ r=>r = S (Qf l):=by
 refine Zh ft [] Tryz.func78 U U ?_
 have hS:=St.start (X:=[]) hG
 have V1:=hvl.bound
 refine Zl hvl ZoF U U ?_
 refine LP.go ft [] (fun m ρ1 w1=>∃ (k1 : Nat),∃ (G1 : GH),m = l.length - k1 ∧ G.le G1 ∧ St w [] G G1 [] w1 ∧ FR ρ1 [(3,S 0),(6,vl),(7,S (l.length : Int)),(8,S (k1 : Int))] ∧ k1 ≤ l.length ∧ ∀ j,j < k1 → ∀ x,l[j]? = some x → x = 0) _ ⟨0,G,U,(G.le_refl),hS,(Zq U),(by omega),(by intro j hj; omega)⟩ ?_
 rintro m ρ1 w1 ⟨k1,G1,rfl,L1,S1,F9,f1,f2⟩
 refine F9.set ?_
 clear F9
 refine Zp (k1 : Int) (l.length : Int) U U U (fun h1=>?_) (fun h1=>?_)
 ·refine WL.indexAddr (hvl.mono L1) k1 (by omega) ZoF Zsz U U U U (fun p1 x1 U1 E1=>?_)
  obtain ⟨D1,C1,R1⟩:=E1
  obtain ⟨rfl,B1⟩:=R1
  refine Z S1 C1 Zsz U U U ?_
  refine Yr x1 0 U U U (fun h2=>?_) (fun h2=>?_)
  ·exact RI S1 U (by exact (Zl8 ‹_› ‹_› ‹_›).symm)
  refine Zj k1 (by have:=Zc; omega) U U U ?_
  exact BK.mk' _ ⟨k1 + 1,G1,U,L1,S1,(Zq U),(by omega),(by exact ZW ‹_› ‹_› ‹_›)⟩ (show l.length - (k1 + 1) < l.length - k1 by omega)
 exact RI S1 U (by exact (Zil ‹_› (by omega)).symm)
theorem ZfB {G : GH} {w : World} (hG : G.In w) (l : List HRow) (vl : Value) (hvl : Sl HRowE 56 G vl l) : CL Tryz.prog (nat_lit 81) #[vl] [] w G fun G' w' r=>∃ o,ZS HRowE 56 (nat_lit 37) G' r l o ∧ Zff w w' G' o:=by
 refine Zh ft [] Tryz.func81 U U ?_
 have hS:=St.start (X:=[]) hG
 refine Zfg hvl Yn U U U (fun h1=>?_) ?_
 ·exact RT hS U ⟨none,ZS.cast (ZS.nil _ _ _ _) (by exact Eq.symm ‹_›),fun _ h=>by cases h⟩
 refine WL.buildSlice _ [] [] hS YD U U U U (fun z hz=>by match z,hz with | [],_=>rfl) (fun b1 w1 N1 S1=>?_)
 have R1:=ZS.empty HRowE 56 37 G b1
 refine YN YD U U U R1 S1 0 U hvl (by have:=Zc; have:=hvl.bytes; have:=hvl.bound; simp only [List.length_nil,Nat.zero_add]; omega) (by have:=Zc; have:=hvl.bytes; have:=hvl.bound; simp only [List.length_nil,Nat.zero_add]; omega) U U U (fun v1 o1 w2 R2 S2=>?_)
 exact RT S2 U ⟨_,ZS.cast R2 (by rfl),S2.freshAt 0 U⟩
theorem ZxM {G : GH} {w : World} (hG : G.In w) (s : Schema) (cs : List Value) (hcs : SchemaE.rep G s cs) : CL Tryz.prog (nat_lit 112) #[.agg cs.toArray] [] w G fun G' _ r=>∃ r0 r1,r = .tuple #[r0,r1] ∧ Is TableE G' r0 (ZO s) ∧ r1 = S (ZcQ s):=by
 refine Y2 ft [] Tryz.func112 U U ?_
 have hS:=St.start (X:=[]) hG
 obtain ⟨v1,v2,rfl,B1,A1,B2,A2⟩:=YZ hcs
 refine Zw [Za s.name,v1,S s.key,v2] _ hS U U U (fun p1 w1 G1 L1 M1 C1 S1=>?_)
 refine WL.alloc S1 Zm U U (fun b1 w2 N1 S2=>?_)
 refine Zb S2 C1 [Za s.name,v1,S s.key,v2] Qo U U U U U ?_
 refine Zr S2 ZsA U U U (ZhQ S2.imm s _ (Yo s B1 (A1.mono L1) B2 (A2.mono L1))) (fun w3 G2 S3 L2=>?_)
 refine WL.split (fun (h1 : (YB s) = true)=>?_) (fun (h1 : (YB s) = false)=>?_)
 ·refine Zb S3 (C1.mono L2) [Za s.name,v1,S s.key,v2] Qo U U U U U <| WL.build _ [(0,[Za s.name,v1,S s.key,v2]),(2,[S (-62135596801)])] [Za s.name,v1,S s.key,v2,Ze,S (-62135596801)] Zm U QF U U U U ?_
  have j1:=(L1.trans L2)
  refine Zi S3 0 [Za s.name,v1,S s.key,v2,Ze,S (-62135596801)] U U Zm U U (by simp only [ZA,(A1.mono j1).oneC,(A2.mono j1).oneC] <;> rfl) U U U (fun w4 S4=>?_)
  exact Xr [.agg #[Za s.name,v1,S s.key,v2,Ze,S (-62135596801)],S 0] S4 ⟨_,_,_,U,U,S4.loadA 0 _ _ _ 0 [Za s.name,v1,S s.key,v2,Ze,S (-62135596801)] U U U Zm U,⟨_,U,U⟩⟩ ⟨_,_,U,(Is.cast ⟨_,U,(Zo (Table.mk s [] (-62135596801)) B1 (A1.mono j1) B2 (A2.mono j1) (Sl.nil HRowE 56 G2) (show Z0 (-62135596801) from by constructor <;> decide))⟩ (by exact (Zlg ‹_›).1)),(congrArg (Value.int .i64) (by exact (Zlg ‹_›).2))⟩
 refine WL.build _ [] [Za [],Ze,S 0,Ze,Ze,S 0] Zm U QF U U U U ?_
 refine Zi S3 0 [Za [],Ze,S 0,Ze,Ze,S 0] U U Zm U U U U U U (fun w5 S5=>?_)
 exact Xr [.agg #[Za [],Ze,S 0,Ze,Ze,S 0],S 1] S5 ⟨_,_,_,U,U,S5.loadA 0 _ _ _ 0 [Za [],Ze,S 0,Ze,Ze,S 0] U U U Zm U,⟨_,U,U⟩⟩ ⟨_,_,U,(Is.cast ⟨_,U,(Zo (Table.mk (Schema.mk [] [] 0 []) [] 0) (by simp [reach]) (Sl.nil ColE 24 G2) ZP (Sl.nil ForeignE 40 G2) (Sl.nil HRowE 56 G2) ZP)⟩ (by exact (ZuN ‹_›).1)),(congrArg (Value.int .i64) (by exact (ZuN ‹_›).2))⟩
end Go.Civ
set_option linter.unusedVariables false
set_option linter.unusedSimpArgs false
set_option maxRecDepth 100000
set_option maxHeartbeats 4000000
namespace Go.Civ
open Go.Proofs
theorem Zrm (d : Nat) : ∀ {G : GH} {w : World} (hG : G.In w) (c : Cond) (l : List Col) (v : List Val) (cc : List Value) (hcc : (YQ d).rep G c cc) (vl : Value) (hvl : Sl ColE 24 G vl l) (vv : Value) (hvv : Sl ValE 32 G vv v) (hwf : Zfh d c) (hty : Xf d c l = 0) (hlv : v.length = l.length),CL Tryz.prog (nat_lit 238) #[.agg cc.toArray,vl,vv] [] w G fun _ _ r=>r = .bool (Xu d c l v):=by
 induction d
 ·intro G w hG c l v cc hcc vl hvl vv hvv hwf hty hlv; exact (Zcp hcc).elim
 rename_i d ih
 intro G w hG c l v cc hcc vl hvl vv hvv hwf hty hlv
 refine Zh ft [] Tryz.func238 U U ?_
 have hS:=St.start (X:=[]) hG
 obtain ⟨lv1,rfl,B1,B2,B3,B4,B5,B6,O1⟩:=Zcq hcc
 refine Zw [S c.kind,Za c.col,Za c.oth,S c.v.k,S c.v.n,Za c.v.s,lv1] _ hS U U U (fun p1 w1 G1 L1 M1 C1 S1=>?_)
 refine Z S1 (XC.drop 0 C1) Zt U U U ?_
 refine ZC c.kind 1 U U U (fun h1=>?_) (fun h1=>?_)
 ·refine Zb S1 (XC.drop 3 C1) [S c.v.k,S c.v.n,Za c.v.s] Z6 U U U U U ?_
  refine WL.alloc S1 Z6 U U (fun b1 w2 N1 S2=>?_)
  refine Zi S2 0 [S c.v.k,S c.v.n,Za c.v.s] U U Z6 U U U U U U (fun w3 S3=>?_)
  have hf1:=Zbm (l:=l) (nm:=c.col)
  have hf3:=ZlH (ZfY hty) (by exact .inl ‹_›)
  refine Z S3 (XC.drop 2 C1) ZF U U U <| ZJ .neq U c.oth [] U U U ?_
  refine WL.split (fun h0=>?_) (fun h0=>?_)
  ·have h2 : c.oth ≠ []:=by simpa [SCmp.b] using h0
   clear h0
   have hf2:=Zbm (l:=l) (nm:=c.oth)
   have hf4:=hf3.2 ‹_›
   refine Z S3 (XC.drop 2 C1) ZF U U U ?_
   refine Zr S3 Zdb U U U (ZbT S3.imm l c.oth _ (hvl.mono L1)) (fun w4 G2 S4 L2=>?_)
   have j1:=(L1.trans L2)
   refine WL.indexAddr (hvv.mono j1) (((Yw l c.oth)).toNat) (by omega) Yv Z6 U U U (congrArg (Value.int .i64) (Int.toNat_of_nonneg (by omega)).symm) (fun p2 x1 U1 E1=>?_)
   obtain ⟨D1,C2,R1⟩:=E1
   obtain ⟨rfl,B7,B8,B9⟩:=Yj R1
   refine Zb S4 C2 [S x1.k,S x1.n,Za x1.s] Z6 U U U U U ?_
   refine Zi S4 0 [S x1.k,S x1.n,Za x1.s] U U Z6 U U U U U U (fun w5 S5=>?_)
   obtain ⟨p3,x2,U2,E2,W1⟩:=Sl.at (hvv.mono j1) (((Yw l c.col)).toNat) (by omega)
   obtain ⟨D2,C3,R2⟩:=E2
   obtain ⟨rfl,B10,Y6,YU⟩:=Yj R2
   refine dr [(9,false)] [(29,Za c.col),(30,S (Yw l c.col)),(31,Zs p3),(32, .agg #[S x2.k,S x2.n,Za x2.s]),(33, .agg #[S x1.k,S x1.n,Za x1.s]),(34,S (cmpV x2 x1))] S5 ⟨fun _ hSw=>Z hSw (XC.drop 1 (C1.mono L2)) ZF U U U <| nu U U,fun _ hSw=>Z3 hSw Zdb U U U (ZbT hSw.imm l c.col _ (hvl.mono j1)) U,fun _=>Zg (((Yw l c.col)).toNat) W1 Yv Z6 U U U (congrArg (Value.int .i64) (Int.toNat_of_nonneg (by omega)).symm) <| nu U U,fun _ hSw=>Zb hSw C3 [S x2.k,S x2.n,Za x2.s] Z6 U U U U U <| nu U U,fun _ hSw=>Yg hSw 0 _ _ _ 0 [S x1.k,S x1.n,Za x1.s] U U U Z6 U U U <| nu U U,fun _ hSw=>Z3 hSw Zi1 U U U (ZeN hSw.imm x2 x1 _ (YP x2 B10 Y6 YU) _ (YP x1 B7 B8 B9)) U,trivial⟩ (fun w6 S6=>?_)
   refine ZC (cmpV x2 x1) 0 U U U (fun h3=>?_) (fun h3=>?_)
   ·refine Z S6 (XC.drop 0 (C1.mono L2)) Zt U U U ?_
    refine ZC c.kind 1 U U U (fun h4=>?_) (fun h4=>?_)
    ·exact RB S6 U (by (rw [Xq (by first | exact .inl ‹_› | exact .inr ‹_›),ZbN ‹_› ‹_› ‹_›]; simp_all [Cmp.b]; done))
    refine Zp (cmpV x2 x1) 0 U U U (fun h5=>?_) (fun h5=>?_)
    ·refine Z S6 (XC.drop 0 (C1.mono L2)) Zt U U U <| Yf .eql U .i64 c.kind 2 U U U ?_
     exact RB S6 U (by (rw [Xq (by first | exact .inl ‹_› | exact .inr ‹_›),ZbN ‹_› ‹_› ‹_›]; simp_all [Cmp.b]; done))
    exact RB S6 U (by (rw [Xq (by first | exact .inl ‹_› | exact .inr ‹_›),ZbN ‹_› ‹_› ‹_›]; simp_all [Cmp.b]; done))
   refine Zp (cmpV x2 x1) 0 U U U (fun h6=>?_) (fun h6=>?_)
   ·refine Z S6 (XC.drop 0 (C1.mono L2)) Zt U U U <| Yf .eql U .i64 c.kind 2 U U U ?_
    exact RB S6 U (by (rw [Xq (by first | exact .inl ‹_› | exact .inr ‹_›),ZbN ‹_› ‹_› ‹_›]; simp_all [Cmp.b]; done))
   exact RB S6 U (by (rw [Xq (by first | exact .inl ‹_› | exact .inr ‹_›),ZbN ‹_› ‹_› ‹_›]; simp_all [Cmp.b]; done))
  have h2 : c.oth = []:=by simpa [SCmp.b] using h0
  clear h0
  obtain ⟨p4,x3,U3,E3,W2⟩:=Sl.at (hvv.mono L1) (((Yw l c.col)).toNat) (by omega)
  obtain ⟨D3,C4,R3⟩:=E3
  obtain ⟨rfl,Xa,XF,Xz⟩:=Yj R3
  refine dr [(9,false)] [(29,Za c.col),(30,S (Yw l c.col)),(31,Zs p4),(32, .agg #[S x3.k,S x3.n,Za x3.s]),(33, .agg #[S c.v.k,S c.v.n,Za c.v.s]),(34,S (cmpV x3 c.v))] S3 ⟨fun _ hSw=>Z hSw (XC.drop 1 C1) ZF U U U <| nu U U,fun _ hSw=>Z3 hSw Zdb U U U (ZbT hSw.imm l c.col _ (hvl.mono L1)) U,fun _=>Zg (((Yw l c.col)).toNat) W2 Yv Z6 U U U (congrArg (Value.int .i64) (Int.toNat_of_nonneg (by omega)).symm) <| nu U U,fun _ hSw=>Zb hSw C4 [S x3.k,S x3.n,Za x3.s] Z6 U U U U U <| nu U U,fun _ hSw=>Yg hSw 0 _ _ _ 0 [S c.v.k,S c.v.n,Za c.v.s] U U U Z6 U U U <| nu U U,fun _ hSw=>Z3 hSw Zi1 U U U (ZeN hSw.imm x3 c.v _ (YP x3 Xa XF Xz) _ (YP c.v B4 B5 B6)) U,trivial⟩ (fun w7 S7=>?_)
  refine ZC (cmpV x3 c.v) 0 U U U (fun h7=>?_) (fun h7=>?_)
  ·refine Z S7 (XC.drop 0 C1) Zt U U U ?_
   refine ZC c.kind 1 U U U (fun h8=>?_) (fun h8=>?_)
   ·exact RB S7 U (by (rw [Xq (by first | exact .inl ‹_› | exact .inr ‹_›),ZbM ‹_› ‹_›]; simp_all [Cmp.b]; done))
   refine Zp (cmpV x3 c.v) 0 U U U (fun h9=>?_) (fun h9=>?_)
   ·refine Z S7 (XC.drop 0 C1) Zt U U U <| Yf .eql U .i64 c.kind 2 U U U ?_
    exact RB S7 U (by (rw [Xq (by first | exact .inl ‹_› | exact .inr ‹_›),ZbM ‹_› ‹_›]; simp_all [Cmp.b]; done))
   exact RB S7 U (by (rw [Xq (by first | exact .inl ‹_› | exact .inr ‹_›),ZbM ‹_› ‹_›]; simp_all [Cmp.b]; done))
  refine Zp (cmpV x3 c.v) 0 U U U (fun h10=>?_) (fun h10=>?_)
  ·refine Z S7 (XC.drop 0 C1) Zt U U U <| Yf .eql U .i64 c.kind 2 U U U ?_
   exact RB S7 U (by (rw [Xq (by first | exact .inl ‹_› | exact .inr ‹_›),ZbM ‹_› ‹_›]; simp_all [Cmp.b]; done))
  exact RB S7 U (by (rw [Xq (by first | exact .inl ‹_› | exact .inr ‹_›),ZbM ‹_› ‹_›]; simp_all [Cmp.b]; done))
 refine ZC c.kind 2 U U U (fun h11=>?_) (fun h11=>?_)
 ·refine Zb S1 (XC.drop 3 C1) [S c.v.k,S c.v.n,Za c.v.s] Z6 U U U U U ?_
  refine WL.alloc S1 Z6 U U (fun b2 w9 N2 S8=>?_)
  refine Zi S8 0 [S c.v.k,S c.v.n,Za c.v.s] U U Z6 U U U U U U (fun w10 S9=>?_)
  have hf1:=Zbm (l:=l) (nm:=c.col)
  have hf3:=ZlH (ZfY hty) (by exact .inr ‹_›)
  refine Z S9 (XC.drop 2 C1) ZF U U U <| ZJ .neq U c.oth [] U U U ?_
  refine WL.split (fun h0=>?_) (fun h0=>?_)
  ·have h12 : c.oth ≠ []:=by simpa [SCmp.b] using h0
   clear h0
   have hf2:=Zbm (l:=l) (nm:=c.oth)
   have hf4:=hf3.2 ‹_›
   refine Z S9 (XC.drop 2 C1) ZF U U U ?_
   refine Zr S9 Zdb U U U (ZbT S9.imm l c.oth _ (hvl.mono L1)) (fun w11 G3 S10 L3=>?_)
   have j2:=(L1.trans L3)
   refine WL.indexAddr (hvv.mono j2) (((Yw l c.oth)).toNat) (by omega) Yv Z6 U U U (congrArg (Value.int .i64) (Int.toNat_of_nonneg (by omega)).symm) (fun p5 x4 U4 E4=>?_)
   obtain ⟨D4,C5,R4⟩:=E4
   obtain ⟨rfl,QK,XG,XY⟩:=Yj R4
   refine Zb S10 C5 [S x4.k,S x4.n,Za x4.s] Z6 U U U U U ?_
   refine Zi S10 0 [S x4.k,S x4.n,Za x4.s] U U Z6 U U U U U U (fun w12 S11=>?_)
   obtain ⟨p6,x5,U5,E5,W3⟩:=Sl.at (hvv.mono j2) (((Yw l c.col)).toNat) (by omega)
   obtain ⟨D5,C6,R5⟩:=E5
   obtain ⟨rfl,Q8,ZaI,ZaJ⟩:=Yj R5
   refine dr [(9,false)] [(29,Za c.col),(30,S (Yw l c.col)),(31,Zs p6),(32, .agg #[S x5.k,S x5.n,Za x5.s]),(33, .agg #[S x4.k,S x4.n,Za x4.s]),(34,S (cmpV x5 x4))] S11 ⟨fun _ hSw=>Z hSw (XC.drop 1 (C1.mono L3)) ZF U U U <| nu U U,fun _ hSw=>Z3 hSw Zdb U U U (ZbT hSw.imm l c.col _ (hvl.mono j2)) U,fun _=>Zg (((Yw l c.col)).toNat) W3 Yv Z6 U U U (congrArg (Value.int .i64) (Int.toNat_of_nonneg (by omega)).symm) <| nu U U,fun _ hSw=>Zb hSw C6 [S x5.k,S x5.n,Za x5.s] Z6 U U U U U <| nu U U,fun _ hSw=>Yg hSw 0 _ _ _ 0 [S x4.k,S x4.n,Za x4.s] U U U Z6 U U U <| nu U U,fun _ hSw=>Z3 hSw Zi1 U U U (ZeN hSw.imm x5 x4 _ (YP x5 Q8 ZaI ZaJ) _ (YP x4 QK XG XY)) U,trivial⟩ (fun w13 S12=>?_)
   refine ZC (cmpV x5 x4) 0 U U U (fun h13=>?_) (fun h13=>?_)
   ·refine Z S12 (XC.drop 0 (C1.mono L3)) Zt U U U ?_
    refine ZC c.kind 1 U U U (fun h14=>?_) (fun h14=>?_)
    ·exact RB S12 U (by (rw [Xq (by first | exact .inl ‹_› | exact .inr ‹_›),ZbN ‹_› ‹_› ‹_›]; simp_all [Cmp.b]; done))
    refine Zp (cmpV x5 x4) 0 U U U (fun h15=>?_) (fun h15=>?_)
    ·refine Z S12 (XC.drop 0 (C1.mono L3)) Zt U U U <| Yf .eql U .i64 c.kind 2 U U U ?_
     exact RB S12 U (by (rw [Xq (by first | exact .inl ‹_› | exact .inr ‹_›),ZbN ‹_› ‹_› ‹_›]; simp_all [Cmp.b]; done))
    exact RB S12 U (by (rw [Xq (by first | exact .inl ‹_› | exact .inr ‹_›),ZbN ‹_› ‹_› ‹_›]; simp_all [Cmp.b]; done))
   refine Zp (cmpV x5 x4) 0 U U U (fun h16=>?_) (fun h16=>?_)
   ·refine Z S12 (XC.drop 0 (C1.mono L3)) Zt U U U <| Yf .eql U .i64 c.kind 2 U U U ?_
    exact RB S12 U (by (rw [Xq (by first | exact .inl ‹_› | exact .inr ‹_›),ZbN ‹_› ‹_› ‹_›]; simp_all [Cmp.b]; done))
   exact RB S12 U (by (rw [Xq (by first | exact .inl ‹_› | exact .inr ‹_›),ZbN ‹_› ‹_› ‹_›]; simp_all [Cmp.b]; done))
  have h12 : c.oth = []:=by simpa [SCmp.b] using h0
  clear h0
  obtain ⟨p7,x6,U6,E6,W4⟩:=Sl.at (hvv.mono L1) (((Yw l c.col)).toNat) (by omega)
  obtain ⟨D6,C7,R6⟩:=E6
  obtain ⟨rfl,Zcv,ZbZ,Zaq⟩:=Yj R6
  refine dr [(9,false)] [(29,Za c.col),(30,S (Yw l c.col)),(31,Zs p7),(32, .agg #[S x6.k,S x6.n,Za x6.s]),(33, .agg #[S c.v.k,S c.v.n,Za c.v.s]),(34,S (cmpV x6 c.v))] S9 ⟨fun _ hSw=>Z hSw (XC.drop 1 C1) ZF U U U <| nu U U,fun _ hSw=>Z3 hSw Zdb U U U (ZbT hSw.imm l c.col _ (hvl.mono L1)) U,fun _=>Zg (((Yw l c.col)).toNat) W4 Yv Z6 U U U (congrArg (Value.int .i64) (Int.toNat_of_nonneg (by omega)).symm) <| nu U U,fun _ hSw=>Zb hSw C7 [S x6.k,S x6.n,Za x6.s] Z6 U U U U U <| nu U U,fun _ hSw=>Yg hSw 0 _ _ _ 0 [S c.v.k,S c.v.n,Za c.v.s] U U U Z6 U U U <| nu U U,fun _ hSw=>Z3 hSw Zi1 U U U (ZeN hSw.imm x6 c.v _ (YP x6 Zcv ZbZ Zaq) _ (YP c.v B4 B5 B6)) U,trivial⟩ (fun w14 S13=>?_)
  refine ZC (cmpV x6 c.v) 0 U U U (fun h17=>?_) (fun h17=>?_)
  ·refine Z S13 (XC.drop 0 C1) Zt U U U ?_
   refine ZC c.kind 1 U U U (fun h18=>?_) (fun h18=>?_)
   ·exact RB S13 U (by (rw [Xq (by first | exact .inl ‹_› | exact .inr ‹_›),ZbM ‹_› ‹_›]; simp_all [Cmp.b]; done))
   refine Zp (cmpV x6 c.v) 0 U U U (fun h19=>?_) (fun h19=>?_)
   ·refine Z S13 (XC.drop 0 C1) Zt U U U <| Yf .eql U .i64 c.kind 2 U U U ?_
    exact RB S13 U (by (rw [Xq (by first | exact .inl ‹_› | exact .inr ‹_›),ZbM ‹_› ‹_›]; simp_all [Cmp.b]; done))
   exact RB S13 U (by (rw [Xq (by first | exact .inl ‹_› | exact .inr ‹_›),ZbM ‹_› ‹_›]; simp_all [Cmp.b]; done))
  refine Zp (cmpV x6 c.v) 0 U U U (fun h20=>?_) (fun h20=>?_)
  ·refine Z S13 (XC.drop 0 C1) Zt U U U <| Yf .eql U .i64 c.kind 2 U U U ?_
   exact RB S13 U (by (rw [Xq (by first | exact .inl ‹_› | exact .inr ‹_›),ZbM ‹_› ‹_›]; simp_all [Cmp.b]; done))
  exact RB S13 U (by (rw [Xq (by first | exact .inl ‹_› | exact .inr ‹_›),ZbM ‹_› ‹_›]; simp_all [Cmp.b]; done))
 refine ZC c.kind 4 U U U (fun h21=>?_) (fun h21=>?_)
 ·have hal:=ZwD hwf ‹_›
  refine Z S1 (XC.drop 6 C1) Zfj U U U ?_
  refine WL.indexAddr (O1.mono L1) 0 (by omega) Zdr XI U U U U (fun p8 x7 U7 E7=>?_)
  obtain ⟨D7,C8,R7⟩:=E7
  obtain ⟨lv2,rfl,Zcw,ZbG,Zgd,Zfl,Zge,Zh9,O2⟩:=Xo R7
  refine Zb S1 C8 [S x7.kind,Za x7.col,Za x7.oth,S x7.v.k,S x7.v.n,Za x7.v.s,lv2] XI U U U U U ?_
  refine Zr S1 ZgI U U U (ih S1.imm x7 l v _ R7 _ (hvl.mono L1) _ (hvv.mono L1) (hwf.2 _ (List.mem_of_getElem? ‹_›)) (ZbL hty (List.mem_of_getElem? ‹_›)) ‹_›) (fun w15 G4 S14 L4=>?_)
  exact RB S14 U (by (rw [ZwG ‹_› ‹_›]; done))
 refine ZC c.kind 5 U U U (fun h22=>?_) (fun h22=>?_)
 ·have hal:=ZwE hwf ‹_›
  refine Z S1 (XC.drop 6 C1) Zfj U U U ?_
  refine WL.indexAddr (O1.mono L1) 0 (by omega) Zdr XI U U U U (fun p9 x9 U8 E8=>?_)
  obtain ⟨D8,C9,R8⟩:=E8
  obtain ⟨lv3,rfl,ZhA,ZhB,ZhC,Zjk,Zjl,ZwR,O3⟩:=Xo R8
  refine Zb S1 C9 [S x9.kind,Za x9.col,Za x9.oth,S x9.v.k,S x9.v.n,Za x9.v.s,lv3] XI U U U U U ?_
  refine Zr S1 ZgI U U U (ih S1.imm x9 l v _ R8 _ (hvl.mono L1) _ (hvv.mono L1) (hwf.2 _ (List.mem_of_getElem? ‹_›)) (ZbL hty (List.mem_of_getElem? ‹_›)) ‹_›) (fun w16 G5 S15 L5=>?_)
  refine WL.split (fun (h23 : (Xu d x9 l v) = true)=>?_) (fun (h23 : (Xu d x9 l v) = false)=>?_)
  ·refine Z S15 (XC.drop 6 (C1.mono L5)) Zfj U U U ?_
   have j3:=(L1.trans L5)
   refine WL.indexAddr (O1.mono j3) 1 (by omega) Zdr XI U U U U (fun p10 x10 U9 E9=>?_)
   obtain ⟨D9,C10,R9⟩:=E9
   obtain ⟨lv4,rfl,Zs3,ZwS,ZlU,ZoH,Zs4,Zs5,O4⟩:=Xo R9
   refine Zb S15 C10 [S x10.kind,Za x10.col,Za x10.oth,S x10.v.k,S x10.v.n,Za x10.v.s,lv4] XI U U U U U ?_
   refine Zr S15 ZgI U U U (ih S15.imm x10 l v _ R9 _ (hvl.mono j3) _ (hvv.mono j3) (hwf.2 _ (List.mem_of_getElem? ‹_›)) (ZbL hty (List.mem_of_getElem? ‹_›)) ‹_›) (fun w17 G6 S16 L6=>?_)
   exact RB S16 U (by (rw [Zqb ‹_› ‹_› ‹_›]; simp_all; done))
  exact RB S15 U (by exact (Zvw ‹_› ‹_› hal ‹_›).symm)
 refine ZC c.kind 6 U U U (fun h24=>?_) (fun h24=>?_)
 ·have hal:=ZwF hwf ‹_›
  refine Z S1 (XC.drop 6 C1) Zfj U U U ?_
  refine WL.indexAddr (O1.mono L1) 0 (by omega) Zdr XI U U U U (fun p11 x11 U10 E10=>?_)
  obtain ⟨D10,C11,R10⟩:=E10
  obtain ⟨lv5,rfl,Zs6,ZoI,Zjm,Zs7,Zs8,ZoJ,O5⟩:=Xo R10
  refine Zb S1 C11 [S x11.kind,Za x11.col,Za x11.oth,S x11.v.k,S x11.v.n,Za x11.v.s,lv5] XI U U U U U ?_
  refine Zr S1 ZgI U U U (ih S1.imm x11 l v _ R10 _ (hvl.mono L1) _ (hvv.mono L1) (hwf.2 _ (List.mem_of_getElem? ‹_›)) (ZbL hty (List.mem_of_getElem? ‹_›)) ‹_›) (fun w18 G7 S17 L7=>?_)
  refine WL.split (fun (h25 : (Xu d x11 l v) = true)=>?_) (fun (h25 : (Xu d x11 l v) = false)=>?_)
  ·exact RB S17 U (by exact (Zvx ‹_› ‹_› hal ‹_›).symm)
  refine Z S17 (XC.drop 6 (C1.mono L7)) Zfj U U U ?_
  have j4:=(L1.trans L7)
  refine WL.indexAddr (O1.mono j4) 1 (by omega) Zdr XI U U U U (fun p12 x12 U11 E11=>?_)
  obtain ⟨D11,C12,R11⟩:=E11
  obtain ⟨lv6,rfl,Zjn,ZwT,Zs9,ZwU,ZwV,ZwW,O6⟩:=Xo R11
  refine Zb S17 C12 [S x12.kind,Za x12.col,Za x12.oth,S x12.v.k,S x12.v.n,Za x12.v.s,lv6] XI U U U U U ?_
  refine Zr S17 ZgI U U U (ih S17.imm x12 l v _ R11 _ (hvl.mono j4) _ (hvv.mono j4) (hwf.2 _ (List.mem_of_getElem? ‹_›)) (ZbL hty (List.mem_of_getElem? ‹_›)) ‹_›) (fun w19 G9 S18 L9=>?_)
  exact RB S18 U (by (rw [Zqc ‹_› ‹_› ‹_›]; simp_all; done))
 exact RB S1 U (by exact (ZwH ‹_› ‹_› ‹_› ‹_› ‹_›).symm)
end Go.Civ
